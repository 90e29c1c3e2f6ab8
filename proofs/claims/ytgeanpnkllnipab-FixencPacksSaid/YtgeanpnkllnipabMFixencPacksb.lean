/- Proved: the law FixencPacks of layer 7: any two whole numbers in one, as the document says; for every input, without a condition. -/
import Derived.Test.YtgeanpnkllnipabMFixencPacksa

section
namespace Go.Proofs.Ytgeanpnkllnipab.F
open Go.RowKit Go.Proofs.YtgeanpnkllnipabW.PrintWords Go.Proofs.YtgeanpnkllnipabW.PrintLast Go.Proofs.YtgeanpnkllnipabW.PrintMore
attribute [local go_sem] max2_int min2_int max_two min_two max_three min_three max_four min_four
set_option linter.unusedVariables false
set_option linter.unusedSimpArgs false

def modint_Right.f (a0_0 : Bool) (l0_1 : List Int) : Option (Bool) := (nat_Right.f l0_1).bind fun t624 => (if t624 = true then (if a0_0 = true then (some (decide ((l0_1.length : Int) > 0))) else (some true)) else (some false))
set_option maxHeartbeats 8000000 in
set_option maxRecDepth 100000 in
theorem modint_Right.calls (a0_0 : Bool) (A0_1 : Option Addr) (c0_1 : Nat) (l0_1 : List Int) (r : Bool) (w : World) (hr0_1 : Kd.C (Kd.int .u64) w A0_1 l0_1.length l0_1) (hc0_1 : l0_1.length ≤ c0_1) (h : modint_Right.f a0_0 l0_1 = some r) :
  Calls Try.prog 79 #[.agg #[.bool a0_0, .slice A0_1 l0_1.length c0_1]] w fun e w' => e = .returned (.bool r) ∧ Below w.heap.size w w' := by
 have hu52 := Try.underlying52
 have HR0_1 := Aside0.mk hr0_1; have HC0_1 := Aside0.mk hc0_1; clear hr0_1 hc0_1
 have HB := Aside0.mk (Below.refl w.heap.size w)
 have H : ((nat_Right.f l0_1).bind fun t624 => (if t624 = true then (if a0_0 = true then (some (decide ((l0_1.length : Int) > 0))) else (some true)) else (some false))) = some r := h
 clear h
 replace H := Option.bind_eq_some_iff.mp H
 obtain ⟨t624, A20, H⟩ := H
 replace H : (if t624 = true then (if a0_0 = true then (some (decide ((l0_1.length : Int) > 0))) else (some true)) else (some false)) = some r := H
 have A2 := Aside0.mk A20; clear A20
 by_cases c3 : t624 = true
 ·
  subst c3
  have H1 : (if a0_0 = true then (some (decide ((l0_1.length : Int) > 0))) else (some true)) = some r := by rw [if_pos rfl] at H; exact H
  clear H; have H := H1; clear H1
  by_cases c4 : a0_0 = true
  ·
   subst c4
   have H1 : (some (decide ((l0_1.length : Int) > 0))) = some r := by rw [if_pos rfl] at H; exact H
   clear H; have H := H1; clear H1
   obtain rfl := Option.some.inj H
   go_enter Try.func79, Try.ntmps79
   go_wp2_with (first | ((with_reducible refine gate_dst (N := 1) rfl ?_); (try (refine gate_guard (by rfl) ?_; dsimp only)); refine box_event ?hg (N := 1) ?hd (cs := #[.bool true, .slice A0_1 l0_1.length c0_1]) (t := 52) ?hr ?_; (case hd => rfl); (case hg => rfl); (case hr => first | (go_simp; done) | (go_simp; rfl)); intro gb623 hg w5 hbox hb; have n0_ := Aside0.mk (below_step uB hb); have n1_ := Aside0.mk (hbox); have n2_ := Aside0.mk ((by rw [hg]; exact (below_size uB) : w.heap.size ≤ gb623)); have n3_ := Aside0.mk ((by rw [hg]; exact (below_size uB) : w.heap.size ≤ gb623)); clear HB; have HB := n0_; have BK623 := n1_; have GW623 := n2_; have GE623 := n3_; clear n0_ n1_ n2_ n3_; clear hb hbox hg; have hcz6_0 : w5.cell? ⟨gb623, 0, none⟩ = some (.bool true) := (blk_cell BK623.out 0).trans rfl; have hcz6_1 : w5.cell? ⟨gb623, 1, none⟩ = some (.slice A0_1 l0_1.length c0_1) := (blk_cell BK623.out 1).trans rfl; have hfz6_0 := blk_frozen BK623.out 0; have hfz6_1 := blk_frozen BK623.out 1) | ((with_reducible refine gate_callee (f := 47) rfl ?_); refine goesL_ (some 5) rfl rfl Try.func47 (by kernel_rfl) rfl #[.slice A0_1 l0_1.length c0_1] rfl uM ?_; (with_reducible refine (nat_Right.calls _ _ l0_1 true _ ?side1 ?side2 A2.out).mono ?_); (case side1 => exact uC (Kd.C_below HR0_1.out HB.out)); (case side2 => exact HC0_1.out); rintro e w' ⟨rfl, ⟨nd, rfl⟩⟩; refine ⟨_, rfl, ?_⟩))
   go_ret
   exact ⟨by first | rfl | (simp [errW_none, errW_some] <;> rfl) | (simp [*, errW_none, errW_some] <;> rfl), uB⟩
  ·
   replace c4 := Bool.eq_false_iff.mpr c4
   subst c4
   have H1 : (some true) = some r := by rw [if_neg (show ¬ (false = true) by decide)] at H; exact H
   clear H; have H := H1; clear H1
   obtain rfl := Option.some.inj H
   go_enter Try.func79, Try.ntmps79
   go_wp2_with (first | ((with_reducible refine gate_dst (N := 1) rfl ?_); (try (refine gate_guard (by rfl) ?_; dsimp only)); refine box_event ?hg (N := 1) ?hd (cs := #[.bool false, .slice A0_1 l0_1.length c0_1]) (t := 52) ?hr ?_; (case hd => rfl); (case hg => rfl); (case hr => first | (go_simp; done) | (go_simp; rfl)); intro gb623 hg w7 hbox hb; have n0_ := Aside0.mk (below_step uB hb); have n1_ := Aside0.mk (hbox); have n2_ := Aside0.mk ((by rw [hg]; exact (below_size uB) : w.heap.size ≤ gb623)); have n3_ := Aside0.mk ((by rw [hg]; exact (below_size uB) : w.heap.size ≤ gb623)); clear HB; have HB := n0_; have BK623 := n1_; have GW623 := n2_; have GE623 := n3_; clear n0_ n1_ n2_ n3_; clear hb hbox hg; have hcz8_0 : w7.cell? ⟨gb623, 0, none⟩ = some (.bool false) := (blk_cell BK623.out 0).trans rfl; have hcz8_1 : w7.cell? ⟨gb623, 1, none⟩ = some (.slice A0_1 l0_1.length c0_1) := (blk_cell BK623.out 1).trans rfl; have hfz8_0 := blk_frozen BK623.out 0; have hfz8_1 := blk_frozen BK623.out 1) | ((with_reducible refine gate_callee (f := 47) rfl ?_); refine goesL_ (some 5) rfl rfl Try.func47 (by kernel_rfl) rfl #[.slice A0_1 l0_1.length c0_1] rfl uM ?_; (with_reducible refine (nat_Right.calls _ _ l0_1 true _ ?side1 ?side2 A2.out).mono ?_); (case side1 => exact uC (Kd.C_below HR0_1.out HB.out)); (case side2 => exact HC0_1.out); rintro e w' ⟨rfl, ⟨nd, rfl⟩⟩; refine ⟨_, rfl, ?_⟩))
   go_ret
   exact ⟨by first | rfl | (simp [errW_none, errW_some] <;> rfl) | (simp [*, errW_none, errW_some] <;> rfl), uB⟩
 ·
  replace c3 := Bool.eq_false_iff.mpr c3
  subst c3
  have H1 : (some false) = some r := by rw [if_neg (show ¬ (false = true) by decide)] at H; exact H
  clear H; have H := H1; clear H1
  obtain rfl := Option.some.inj H
  go_enter Try.func79, Try.ntmps79
  go_wp2_with (first | ((with_reducible refine gate_dst (N := 1) rfl ?_); (try (refine gate_guard (by rfl) ?_; dsimp only)); refine box_event ?hg (N := 1) ?hd (cs := #[.bool a0_0, .slice A0_1 l0_1.length c0_1]) (t := 52) ?hr ?_; (case hd => rfl); (case hg => rfl); (case hr => first | (go_simp; done) | (go_simp; rfl)); intro gb623 hg w9 hbox hb; have n0_ := Aside0.mk (below_step uB hb); have n1_ := Aside0.mk (hbox); have n2_ := Aside0.mk ((by rw [hg]; exact (below_size uB) : w.heap.size ≤ gb623)); have n3_ := Aside0.mk ((by rw [hg]; exact (below_size uB) : w.heap.size ≤ gb623)); clear HB; have HB := n0_; have BK623 := n1_; have GW623 := n2_; have GE623 := n3_; clear n0_ n1_ n2_ n3_; clear hb hbox hg; have hcz10_0 : w9.cell? ⟨gb623, 0, none⟩ = some (.bool a0_0) := (blk_cell BK623.out 0).trans rfl; have hcz10_1 : w9.cell? ⟨gb623, 1, none⟩ = some (.slice A0_1 l0_1.length c0_1) := (blk_cell BK623.out 1).trans rfl; have hfz10_0 := blk_frozen BK623.out 0; have hfz10_1 := blk_frozen BK623.out 1) | ((with_reducible refine gate_callee (f := 47) rfl ?_); refine goesL_ (some 5) rfl rfl Try.func47 (by kernel_rfl) rfl #[.slice A0_1 l0_1.length c0_1] rfl uM ?_; (with_reducible refine (nat_Right.calls _ _ l0_1 false _ ?side1 ?side2 A2.out).mono ?_); (case side1 => exact uC (Kd.C_below HR0_1.out HB.out)); (case side2 => exact HC0_1.out); rintro e w' ⟨rfl, ⟨nd, rfl⟩⟩; refine ⟨_, rfl, ?_⟩))
  go_ret
  exact ⟨by first | rfl | (simp [errW_none, errW_some] <;> rfl) | (simp [*, errW_none, errW_some] <;> rfl), uB⟩

end Go.Proofs.Ytgeanpnkllnipab.F
end

section
namespace Go.Proofs.Ytgeanpnkllnipab.F
open Go.RowKit Go.Proofs.YtgeanpnkllnipabW.PrintWords Go.Proofs.YtgeanpnkllnipabW.PrintLast Go.Proofs.YtgeanpnkllnipabW.PrintMore
attribute [local go_sem] max2_int min2_int max_two min_two max_three min_three max_four min_four
set_option linter.unusedVariables false
set_option linter.unusedSimpArgs false

attribute [local go_sem] add64_run
mutual
def nat_sum.l0 : Nat → List Int → List Int → List Int → Int → Int → Int → Option (List Int)
 | 0, _, _, _, _, _, _ => none
 | k + 1, x0, x1, x5, x6, x21, x22 => if x22 < x21 then (if x22 < (x1.length : Int) then (if 0 ≤ x22 then (if x22 < (x0.length : Int) then (if carry01 x6 = true then (if x22 < (x5.length : Int) then (nat_sum.l0 k x0 x1 (x5.set (x22 : Int).toNat (add64_s (rd x0 x22) (rd x1 x22) x6)) (add64_c (rd x0 x22) (rd x1 x22) x6) x21 (wrap64 (x22 + 1))) else (none)) else (none)) else (none)) else (none)) else (if 0 ≤ x22 then (if x22 < (x0.length : Int) then (if carry01 x6 = true then (if x22 < (x5.length : Int) then (nat_sum.l0 k x0 x1 (x5.set (x22 : Int).toNat (add64_s (rd x0 x22) 0 x6)) (add64_c (rd x0 x22) 0 x6) x21 (wrap64 (x22 + 1))) else (none)) else (none)) else (none)) else (none))) else (if 0 ≤ (x0.length : Int) then (if (x0.length : Int) < (x5.length : Int) then (some (x5.set ((x0.length : Int) : Int).toNat x6)) else (none)) else (none))
def nat_sum.l51 : Nat → List Int → List Int → List Int → Int → Int → Int → Option (List Int)
 | 0, _, _, _, _, _, _ => none
 | k + 1, x0, x1, x5, x6, x21, x22 => if x22 < x21 then (if x22 < (x1.length : Int) then (if 0 ≤ x22 then (if x22 < (x0.length : Int) then (if carry01 x6 = true then (if x22 < (x5.length : Int) then (nat_sum.l51 k x0 x1 (x5.set (x22 : Int).toNat (add64_s (rd x0 x22) (rd x1 x22) x6)) (add64_c (rd x0 x22) (rd x1 x22) x6) x21 (wrap64 (x22 + 1))) else (none)) else (none)) else (none)) else (none)) else (if 0 ≤ x22 then (if x22 < (x0.length : Int) then (if carry01 x6 = true then (if x22 < (x5.length : Int) then (nat_sum.l51 k x0 x1 (x5.set (x22 : Int).toNat (add64_s (rd x0 x22) 0 x6)) (add64_c (rd x0 x22) 0 x6) x21 (wrap64 (x22 + 1))) else (none)) else (none)) else (none)) else (none))) else (if 0 ≤ (x0.length : Int) then (if (x0.length : Int) < (x5.length : Int) then (some (x5.set ((x0.length : Int) : Int).toNat x6)) else (none)) else (none))
end
def nat_sum.f (k : Nat) (l0 : List Int) (l1 : List Int) : Option (List Int) := if (l0.length : Int) < (l1.length : Int) then (if 0 ≤ (wrap64 ((l1.length : Int) + 1)) then (if (wrap64 ((l1.length : Int) + 1) : Int).toNat ≤ 35184372088832 then (nat_sum.l0 k l1 l0 (List.replicate (wrap64 ((l1.length : Int) + 1) : Int).toNat 0) 0 (l1.length : Int) 0) else (none)) else (none)) else (if 0 ≤ (wrap64 ((l0.length : Int) + 1)) then (if (wrap64 ((l0.length : Int) + 1) : Int).toNat ≤ 35184372088832 then (nat_sum.l51 k l0 l1 (List.replicate (wrap64 ((l0.length : Int) + 1) : Int).toNat 0) 0 (l0.length : Int) 0) else (none)) else (none))
set_option maxHeartbeats 8000000 in
set_option maxRecDepth 100000 in
theorem nat_sum.calls (k : Nat) (A0 : Option Addr) (c0 : Nat) (l0 : List Int) (A1 : Option Addr) (c1 : Nat) (l1 : List Int) (r : List Int) (w : World) (hr0 : Kd.C (Kd.int .u64) w A0 l0.length l0) (hc0 : l0.length ≤ c0) (hr1 : Kd.C (Kd.int .u64) w A1 l1.length l1) (hc1 : l1.length ≤ c1) (h : nat_sum.f k l0 l1 = some r) :
  Calls Try.prog 118 #[.slice A0 l0.length c0, .slice A1 l1.length c1] w fun e w' => ∃ v0_ : Value, e = .returned (v0_) ∧ Kd.R (Kd.int .u64) 27 w' w.heap.size (fun _ => True) v0_ r ∧ Below w.heap.size w w' := by
 have HR0 := Aside0.mk hr0; have HC0 := Aside0.mk hc0; clear hr0 hc0; have HR1 := Aside0.mk hr1; have HC1 := Aside0.mk hc1; clear hr1 hc1
 have HB := Aside0.mk (Below.refl w.heap.size w)
 have H : (if (l0.length : Int) < (l1.length : Int) then (if 0 ≤ (wrap64 ((l1.length : Int) + 1)) then (if (wrap64 ((l1.length : Int) + 1) : Int).toNat ≤ 35184372088832 then (nat_sum.l0 k l1 l0 (List.replicate (wrap64 ((l1.length : Int) + 1) : Int).toNat 0) 0 (l1.length : Int) 0) else (none)) else (none)) else (if 0 ≤ (wrap64 ((l0.length : Int) + 1)) then (if (wrap64 ((l0.length : Int) + 1) : Int).toNat ≤ 35184372088832 then (nat_sum.l51 k l0 l1 (List.replicate (wrap64 ((l0.length : Int) + 1) : Int).toNat 0) 0 (l0.length : Int) 0) else (none)) else (none))) = some r := h
 clear h
 by_cases c3 : (l0.length : Int) < (l1.length : Int)
 ·
  rw [if_pos c3] at H
  have c3b0 : decide ((l0.length : Int) < (l1.length : Int)) = true := decide_eq_true c3
  have c3b1 : decide (l0.length < l1.length) = true := decide_eq_true (Int.ofNat_lt.mp c3)
  clear c3
  obtain ⟨ji4, hji4⟩ : ∃ j_ : Int, (wrap64 ((l1.length : Int) + 1)) = j_ := ⟨_, rfl⟩
  replace H : (if 0 ≤ (ji4) then (if (ji4 : Int).toNat ≤ 35184372088832 then (nat_sum.l0 k l1 l0 (List.replicate (ji4 : Int).toNat 0) 0 (l1.length : Int) 0) else (none)) else (none)) = some r := by first | (rw [hji4] at H; exact H) | (simp only [hji4] at H ⊢; exact H)
  have hji4w : (IntKind.i64.wrap ((l1.length : Int) + 1)) = ji4 := (i64_w _).trans hji4
  by_cases c5 : 0 ≤ (ji4)
  ·
   rw [if_pos c5] at H
   have c5b0 := eq_true c5
   have c5b1 : decide (0 ≤ (ji4)) = true := decide_eq_true c5
   clear c5
   by_cases c6 : (ji4 : Int).toNat ≤ 35184372088832
   ·
    rw [if_pos c6] at H
    have c6b0 := eq_true c6
    have c6b1 : decide ((ji4 : Int).toNat ≤ 35184372088832) = true := decide_eq_true c6
    clear c6
    obtain ⟨y625, hy625⟩ : ∃ y_ : List Int, y_ = (List.replicate (ji4 : Int).toNat 0) := ⟨_, rfl⟩
    replace H : (nat_sum.l0 k l1 l0 y625 0 (l1.length : Int) 0) = some r := by first | (rw [hy625]; with_reducible exact H) | (have H2_ := (Option.bind_some _ _).symm.trans H; rw [hy625]; with_reducible exact H2_) | (have H2_ := (Option.bind_some _ _).symm.trans H; with_reducible exact H2_) | with_reducible exact H | (rw [hy625]; exact H) | exact H
    have Ny625 := Aside0.mk hy625; clear hy625
    have H' := Aside0.mk H
    clear H
    go_enter Try.func118, Try.ntmps118
    go_wp2_with (first | ((with_reducible refine gate_dst (N := 19) rfl ?_); refine Kd.R_make (Kd.int .u64) _ 27 rfl (N := 19) rfl 23 _ _ rfl ji4 rfl rfl Try.underlying23 (.int .u64 0) 8 info27 rfl (by decide) (by omega) 0 (ok := fun _ => True) (okp := fun _ => True) rfl (fun _ hk => hk) trivial (of_decide_eq_true (by first | (with_reducible assumption) | assumption)) (Nat.le_trans (Nat.mul_le_mul_right _ (of_decide_eq_true (by first | (with_reducible assumption) | assumption) : ji4.toNat ≤ 35184372088832)) (by omega)) (Below.refl _ _) (Nat.le_refl _) ?_; intro v626 w7 ho8 hb hg_ hnew_; clear hg_ hnew_; (first | rw [← Ny625.out] at ho8 | (simp only [Int.reduceToNat] at ho8; rw [← Ny625.out] at ho8)); have n0_ := Aside0.mk (Kd.R_lower ho8 (below_size uB)); have n1_ := Aside0.mk (below_step uB hb); clear HB; have HO627 := n0_; have HB := n1_; clear n0_ n1_; clear hb ho8))
    go_loopg [6, 22] k (fun kq v6 v22 w' => ∃ (x5_1 : List Int) (x6_1 : Int) (x22_1 : Int), v6 = .int .u64 x6_1 ∧ v22 = .int .i64 x22_1 ∧ Aside0 (nat_sum.l0 kq l1 l0 x5_1 x6_1 (l1.length : Int) x22_1 = some r) ∧ Aside0 (kq ≤ k) ∧ Aside0 (Kd.R (Kd.int .u64) 27 w' w.heap.size (fun _ => True) v626 x5_1) ∧ Aside0 (Below w.heap.size w w'))
    case atStart => exact ⟨(y625), (0), (0), (by first | rfl | (simp; done) | (simp [*]; done)), (by first | rfl | (simp; done) | (simp [*]; done)), H', ⟨Nat.le_refl _⟩, ⟨uR HO627.out⟩, ⟨uB⟩⟩
    case round =>
     clear H'
     try clear c1
     try clear p2
     try clear c3
     try clear c3b0
     try clear c3b1
     try clear c5
     try clear c5b0
     try clear c5b1
     try clear c6
     try clear c6b0
     try clear c6b1
     try clear p6
     obtain ⟨x5_1, x6_1, x22_1, rfl, rfl, HA, HK1, HO_5, HB⟩ := hrel
     cases gk with
     | zero => exact absurd HA.out (by simp [nat_sum.l0])
     | succ k1 =>
      have H := HA.out
      clear HA
      simp only [nat_sum.l0] at H
      by_cases c9 : x22_1 < (l1.length : Int)
      ·
       rw [if_pos c9] at H
       have c9b0 : decide (x22_1 < (l1.length : Int)) = true := decide_eq_true c9
       clear c9
       by_cases c10 : x22_1 < (l0.length : Int)
       ·
        rw [if_pos c10] at H
        have c10b0 : decide (x22_1 < (l0.length : Int)) = true := decide_eq_true c10
        clear c10
        by_cases c11 : 0 ≤ x22_1
        ·
         rw [if_pos c11] at H
         have c11b0 : decide (0 ≤ x22_1) = true := decide_eq_true c11
         clear c11
         by_cases c12 : x22_1 < (l1.length : Int)
         ·
          rw [if_pos c12] at H
          have c12b0 : decide (x22_1 < (l1.length : Int)) = true := decide_eq_true c12
          clear c12
          by_cases c13 : carry01 x6_1 = true
          ·
           rw [if_pos c13] at H
           have c13b0 : carry01 x6_1 = true := c13
           clear c13
           by_cases c14 : x22_1 < (x5_1.length : Int)
           ·
            rw [if_pos c14] at H
            have c14b0 : decide (x22_1 < (x5_1.length : Int)) = true := decide_eq_true c14
            clear c14
            obtain ⟨y630, hy630⟩ : ∃ y_ : List Int, y_ = (x5_1.set (x22_1 : Int).toNat (add64_s (rd l1 x22_1) (rd l0 x22_1) x6_1)) := ⟨_, rfl⟩
            replace H : (nat_sum.l0 k1 l1 l0 y630 (add64_c (rd l1 x22_1) (rd l0 x22_1) x6_1) (l1.length : Int) (wrap64 (x22_1 + 1))) = some r := by first | (rw [hy630]; with_reducible exact H) | (have H2_ := (Option.bind_some _ _).symm.trans H; rw [hy630]; with_reducible exact H2_) | (have H2_ := (Option.bind_some _ _).symm.trans H; with_reducible exact H2_) | with_reducible exact H | (rw [hy630]; exact H) | exact H
            have Ny630 := Aside0.mk hy630; clear hy630
            have H' := Aside0.mk H
            clear H
            have p628 : 0 ≤ (x22_1 : Int) := of_decide_eq_true (by first | (with_reducible assumption) | assumption)
            have q628 : x22_1 < (l0.length : Int) := of_decide_eq_true (by first | (with_reducible assumption) | assumption)
            obtain ⟨ad628, e628, hx628_0⟩ := Kd.at_int HR0.out x22_1 p628 q628
            cases e628
            replace hx628_0 := (HB.out.cell (World.block_lt_of_cell? w _ hx628_0)).trans hx628_0
            replace p628 := eq_true p628
            replace q628 := eq_true q628
            have p629 : 0 ≤ (x22_1 : Int) := of_decide_eq_true (by first | (with_reducible assumption) | assumption)
            have q629 : x22_1 < (l1.length : Int) := of_decide_eq_true (by first | (with_reducible assumption) | assumption)
            obtain ⟨ad629, e629, hx629_0⟩ := Kd.at_int HR1.out x22_1 p629 q629
            cases e629
            replace hx629_0 := (HB.out.cell (World.block_lt_of_cell? w _ hx629_0)).trans hx629_0
            replace p629 := eq_true p629
            replace q629 := eq_true q629
            have p15 : 0 ≤ (x22_1 : Int) := of_decide_eq_true (by first | (with_reducible assumption) | assumption)
            have q15 : (x22_1 : Int) < ((x5_1.length : Int) : Int) := of_decide_eq_true (by first | (with_reducible assumption) | assumption)
            obtain ⟨go15, co15, eo15, gb15, gl15, cl15, HG15⟩ := Kd.R_form HO_5.out (by omega)
            (first | cases eo15 | (injection eo15 with ea_ en_ ec_; (first | subst ea_ | (injection ea_ with ea_; subst ea_)); subst ec_; clear en_))
            have GB15 := Aside0.mk gb15; have GG15 := Aside0.mk HG15; clear gb15 gl15 HG15
            obtain ⟨hx15_0, hf15_0⟩ := Kd.R_celln 0 HO_5.out (x22_1 : Int) p15 q15
            replace p15 := eq_true p15
            replace q15 := eq_true q15
            have HP16 := Kd.R_putg HO_5.out (x22_1 : Int) (add64_s (rd l1 x22_1) (rd l0 x22_1) x6_1)
            go_wp2_with (first | ((with_reducible refine gate_store (t := 27) (p := 45) rfl ?_); refine store_event (t := 27) (p := 45) (v := ?vo_w17) (w1 := (wr.setCell ⟨go15, (x22_1 : Int).toNat, none⟩ (.int .u64 (add64_s (rd l1 x22_1) (rd l0 x22_1) x6_1)))) ?hg ?ho ?hn ?hr ?_; (case ho => rfl); (case hg => rfl); (case hn => rfl); (case hr => first | (go_simp; done) | (go_simp; rfl) | (obtain ⟨hy_, hz_⟩ := Kd.R_celln 0 HO_5.out (x22_1 : Int) (of_decide_eq_true (by first | (with_reducible assumption) | assumption)) (of_decide_eq_true (by first | (with_reducible assumption) | assumption)); (try simp only [Go.IntWalk.toNatUp] at hy_ hz_); (try simp only [Int.reduceToNat, Int.toNat_zero, Int.toNat_ofNat] at hy_ hz_); first | (go_simp; done) | (go_simp; rfl))); intro w17 hw; have hg : wr.grownBy w17 (some go15) := (by rw [hw]; exact HP16.2); have hp_ : Kd.R (Kd.int .u64) 27 w17 w.heap.size (fun _ => True) (.slice (some ⟨go15, 0, none⟩) x5_1.length co15) y630 := (by rw [hw, Ny630.out]; exact HP16.1); clear HP16; have n0_ := Aside0.mk (hp_); have n1_ := Aside0.mk ((by rw [hw]; exact below_set (HB.out) GB15.out : Below w.heap.size w w17)); clear HO_5; clear HB; have HO_5 := n0_; have HB := n1_; clear n0_ n1_; clear hg hw hp_))
            first | go_roundg k1 | ((try simp only [← hji4] at H'); simp only [← hji4]; go_roundg k1)
            case measure => have := HK1.out; omega
            case rel => first | exact ⟨(y630), (add64_c (rd l1 x22_1) (rd l0 x22_1) x6_1), (wrap64 (x22_1 + 1)), (by first | rfl | (simp; done) | (simp [*]; done)), (by first | rfl | (simp; done) | (simp [*]; done)), H', ⟨by have := HK1.out; omega⟩, ⟨uR HO_5.out⟩, ⟨uB⟩⟩ | (simp only [← hji4] at H'; exact ⟨(y630), (add64_c (rd l1 x22_1) (rd l0 x22_1) x6_1), (wrap64 (x22_1 + 1)), (by first | rfl | (simp; done) | (simp [*]; done)), (by first | rfl | (simp; done) | (simp [*]; done)), H', ⟨by have := HK1.out; omega⟩, ⟨uR HO_5.out⟩, ⟨uB⟩⟩)
           ·
            rw [if_neg c14] at H
            exact absurd H (by simp)
          ·
           rw [if_neg c13] at H
           exact absurd H (by simp)
         ·
          rw [if_neg c12] at H
          exact absurd H (by simp)
        ·
         rw [if_neg c11] at H
         exact absurd H (by simp)
       ·
        rw [if_neg c10] at H
        have c10b0 : decide (x22_1 < (l0.length : Int)) = false := decide_eq_false c10
        clear c10
        by_cases c18 : 0 ≤ x22_1
        ·
         rw [if_pos c18] at H
         have c18b0 : decide (0 ≤ x22_1) = true := decide_eq_true c18
         clear c18
         by_cases c19 : x22_1 < (l1.length : Int)
         ·
          rw [if_pos c19] at H
          have c19b0 : decide (x22_1 < (l1.length : Int)) = true := decide_eq_true c19
          clear c19
          by_cases c20 : carry01 x6_1 = true
          ·
           rw [if_pos c20] at H
           have c20b0 : carry01 x6_1 = true := c20
           clear c20
           by_cases c21 : x22_1 < (x5_1.length : Int)
           ·
            rw [if_pos c21] at H
            have c21b0 : decide (x22_1 < (x5_1.length : Int)) = true := decide_eq_true c21
            clear c21
            obtain ⟨y632, hy632⟩ : ∃ y_ : List Int, y_ = (x5_1.set (x22_1 : Int).toNat (add64_s (rd l1 x22_1) 0 x6_1)) := ⟨_, rfl⟩
            replace H : (nat_sum.l0 k1 l1 l0 y632 (add64_c (rd l1 x22_1) 0 x6_1) (l1.length : Int) (wrap64 (x22_1 + 1))) = some r := by first | (rw [hy632]; with_reducible exact H) | (have H2_ := (Option.bind_some _ _).symm.trans H; rw [hy632]; with_reducible exact H2_) | (have H2_ := (Option.bind_some _ _).symm.trans H; with_reducible exact H2_) | with_reducible exact H | (rw [hy632]; exact H) | exact H
            have Ny632 := Aside0.mk hy632; clear hy632
            have H' := Aside0.mk H
            clear H
            have p631 : 0 ≤ (x22_1 : Int) := of_decide_eq_true (by first | (with_reducible assumption) | assumption)
            have q631 : x22_1 < (l1.length : Int) := of_decide_eq_true (by first | (with_reducible assumption) | assumption)
            obtain ⟨ad631, e631, hx631_0⟩ := Kd.at_int HR1.out x22_1 p631 q631
            cases e631
            replace hx631_0 := (HB.out.cell (World.block_lt_of_cell? w _ hx631_0)).trans hx631_0
            replace p631 := eq_true p631
            replace q631 := eq_true q631
            have p22 : 0 ≤ (x22_1 : Int) := of_decide_eq_true (by first | (with_reducible assumption) | assumption)
            have q22 : (x22_1 : Int) < ((x5_1.length : Int) : Int) := of_decide_eq_true (by first | (with_reducible assumption) | assumption)
            obtain ⟨go22, co22, eo22, gb22, gl22, cl22, HG22⟩ := Kd.R_form HO_5.out (by omega)
            (first | cases eo22 | (injection eo22 with ea_ en_ ec_; (first | subst ea_ | (injection ea_ with ea_; subst ea_)); subst ec_; clear en_))
            have GB22 := Aside0.mk gb22; have GG22 := Aside0.mk HG22; clear gb22 gl22 HG22
            obtain ⟨hx22_0, hf22_0⟩ := Kd.R_celln 0 HO_5.out (x22_1 : Int) p22 q22
            replace p22 := eq_true p22
            replace q22 := eq_true q22
            have HP23 := Kd.R_putg HO_5.out (x22_1 : Int) (add64_s (rd l1 x22_1) 0 x6_1)
            go_wp2_with (first | ((with_reducible refine gate_store (t := 27) (p := 45) rfl ?_); refine store_event (t := 27) (p := 45) (v := ?vo_w24) (w1 := (wr.setCell ⟨go22, (x22_1 : Int).toNat, none⟩ (.int .u64 (add64_s (rd l1 x22_1) 0 x6_1)))) ?hg ?ho ?hn ?hr ?_; (case ho => rfl); (case hg => rfl); (case hn => rfl); (case hr => first | (go_simp; done) | (go_simp; rfl) | (obtain ⟨hy_, hz_⟩ := Kd.R_celln 0 HO_5.out (x22_1 : Int) (of_decide_eq_true (by first | (with_reducible assumption) | assumption)) (of_decide_eq_true (by first | (with_reducible assumption) | assumption)); (try simp only [Go.IntWalk.toNatUp] at hy_ hz_); (try simp only [Int.reduceToNat, Int.toNat_zero, Int.toNat_ofNat] at hy_ hz_); first | (go_simp; done) | (go_simp; rfl))); intro w24 hw; have hg : wr.grownBy w24 (some go22) := (by rw [hw]; exact HP23.2); have hp_ : Kd.R (Kd.int .u64) 27 w24 w.heap.size (fun _ => True) (.slice (some ⟨go22, 0, none⟩) x5_1.length co22) y632 := (by rw [hw, Ny632.out]; exact HP23.1); clear HP23; have n0_ := Aside0.mk (hp_); have n1_ := Aside0.mk ((by rw [hw]; exact below_set (HB.out) GB22.out : Below w.heap.size w w24)); clear HO_5; clear HB; have HO_5 := n0_; have HB := n1_; clear n0_ n1_; clear hg hw hp_))
            first | go_roundg k1 | ((try simp only [← hji4] at H'); simp only [← hji4]; go_roundg k1)
            case measure => have := HK1.out; omega
            case rel => first | exact ⟨(y632), (add64_c (rd l1 x22_1) 0 x6_1), (wrap64 (x22_1 + 1)), (by first | rfl | (simp; done) | (simp [*]; done)), (by first | rfl | (simp; done) | (simp [*]; done)), H', ⟨by have := HK1.out; omega⟩, ⟨uR HO_5.out⟩, ⟨uB⟩⟩ | (simp only [← hji4] at H'; exact ⟨(y632), (add64_c (rd l1 x22_1) 0 x6_1), (wrap64 (x22_1 + 1)), (by first | rfl | (simp; done) | (simp [*]; done)), (by first | rfl | (simp; done) | (simp [*]; done)), H', ⟨by have := HK1.out; omega⟩, ⟨uR HO_5.out⟩, ⟨uB⟩⟩)
           ·
            rw [if_neg c21] at H
            exact absurd H (by simp)
          ·
           rw [if_neg c20] at H
           exact absurd H (by simp)
         ·
          rw [if_neg c19] at H
          exact absurd H (by simp)
        ·
         rw [if_neg c18] at H
         exact absurd H (by simp)
      ·
       rw [if_neg c9] at H
       have c9b0 : decide (x22_1 < (l1.length : Int)) = false := decide_eq_false c9
       clear c9
       by_cases c25 : 0 ≤ (l1.length : Int)
       ·
        rw [if_pos c25] at H
        have c25b0 : decide (0 ≤ (l1.length : Int)) = true := decide_eq_true c25
        have c25b1 : decide (0 ≤ l1.length) = true := decide_eq_true (by omega)
        clear c25
        by_cases c26 : (l1.length : Int) < (x5_1.length : Int)
        ·
         rw [if_pos c26] at H
         have c26b0 : decide ((l1.length : Int) < (x5_1.length : Int)) = true := decide_eq_true c26
         have c26b1 : decide (l1.length < x5_1.length) = true := decide_eq_true (Int.ofNat_lt.mp c26)
         clear c26
         obtain ⟨y633, hy633⟩ : ∃ y_ : List Int, y_ = (x5_1.set ((l1.length : Int) : Int).toNat x6_1) := ⟨_, rfl⟩
         replace H : (some y633) = some r := by first | (rw [hy633]; with_reducible exact H) | (have H2_ := (Option.bind_some _ _).symm.trans H; rw [hy633]; with_reducible exact H2_) | (have H2_ := (Option.bind_some _ _).symm.trans H; with_reducible exact H2_) | with_reducible exact H | (rw [hy633]; exact H) | exact H
         have Ny633 := Aside0.mk hy633; clear hy633
         obtain rfl := Option.some.inj H
         have p27 : 0 ≤ ((l1.length : Int) : Int) := of_decide_eq_true (by first | (with_reducible assumption) | assumption)
         have q27 : ((l1.length : Int) : Int) < ((x5_1.length : Int) : Int) := of_decide_eq_true (by first | (with_reducible assumption) | assumption)
         obtain ⟨go27, co27, eo27, gb27, gl27, cl27, HG27⟩ := Kd.R_form HO_5.out (by omega)
         (first | cases eo27 | (injection eo27 with ea_ en_ ec_; (first | subst ea_ | (injection ea_ with ea_; subst ea_)); subst ec_; clear en_))
         have GB27 := Aside0.mk gb27; have GG27 := Aside0.mk HG27; clear gb27 gl27 HG27
         obtain ⟨hx27_0, hf27_0⟩ := Kd.R_celln 0 HO_5.out ((l1.length : Int) : Int) p27 q27
         (try simp only [Go.IntWalk.toNatUp] at hx27_0 hf27_0)
         replace p27 := eq_true p27
         replace q27 := eq_true q27
         have HP28 := Kd.R_putg HO_5.out ((l1.length : Int) : Int) x6_1
         go_wp2_with (first | ((with_reducible refine gate_store (t := 27) (p := 51) rfl ?_); refine store_event (t := 27) (p := 51) (v := ?vo_w29) (w1 := (wr.setCell ⟨go27, ((l1.length : Int) : Int).toNat, none⟩ (.int .u64 x6_1))) ?hg ?ho ?hn ?hr ?_; (case ho => rfl); (case hg => rfl); (case hn => rfl); (case hr => first | (go_simp; done) | (go_simp; rfl) | (obtain ⟨hy_, hz_⟩ := Kd.R_celln 0 HO_5.out ((l1.length : Int) : Int) (of_decide_eq_true (by first | (with_reducible assumption) | assumption)) (of_decide_eq_true (by first | (with_reducible assumption) | assumption)); (try simp only [Go.IntWalk.toNatUp] at hy_ hz_); (try simp only [Int.reduceToNat, Int.toNat_zero, Int.toNat_ofNat] at hy_ hz_); first | (go_simp; done) | (go_simp; rfl))); intro w29 hw; have hg : wr.grownBy w29 (some go27) := (by rw [hw]; exact HP28.2); have hp_ : Kd.R (Kd.int .u64) 27 w29 w.heap.size (fun _ => True) (.slice (some ⟨go27, 0, none⟩) x5_1.length co27) y633 := (by rw [hw, Ny633.out]; exact HP28.1); clear HP28; have n0_ := Aside0.mk (hp_); have n1_ := Aside0.mk ((by rw [hw]; exact below_set (HB.out) GB27.out : Below w.heap.size w w29)); clear HO_5; clear HB; have HO_5 := n0_; have HB := n1_; clear n0_ n1_; clear hg hw hp_))
         go_ret
         exact ⟨_, by first | rfl | (simp [errW_none, errW_some] <;> rfl) | (simp only [← hji4]; first | rfl | (simp [errW_none, errW_some] <;> rfl)) | (simp [*, errW_none, errW_some] <;> rfl), uR HO_5.out, uB⟩
        ·
         rw [if_neg c26] at H
         exact absurd H (by simp)
       ·
        rw [if_neg c25] at H
        exact absurd H (by simp)
   ·
    rw [if_neg c6] at H
    exact absurd H (by simp)
  ·
   rw [if_neg c5] at H
   exact absurd H (by simp)
 ·
  rw [if_neg c3] at H
  have c3b0 : decide ((l0.length : Int) < (l1.length : Int)) = false := decide_eq_false c3
  have c3b1 : decide (l0.length < l1.length) = false := decide_eq_false (fun h => c3 (Int.ofNat_lt.mpr h))
  clear c3
  obtain ⟨ji30, hji30⟩ : ∃ j_ : Int, (wrap64 ((l0.length : Int) + 1)) = j_ := ⟨_, rfl⟩
  replace H : (if 0 ≤ (ji30) then (if (ji30 : Int).toNat ≤ 35184372088832 then (nat_sum.l51 k l0 l1 (List.replicate (ji30 : Int).toNat 0) 0 (l0.length : Int) 0) else (none)) else (none)) = some r := by first | (rw [hji30] at H; exact H) | (simp only [hji30] at H ⊢; exact H)
  have hji30w : (IntKind.i64.wrap ((l0.length : Int) + 1)) = ji30 := (i64_w _).trans hji30
  by_cases c31 : 0 ≤ (ji30)
  ·
   rw [if_pos c31] at H
   have c31b0 := eq_true c31
   have c31b1 : decide (0 ≤ (ji30)) = true := decide_eq_true c31
   clear c31
   by_cases c32 : (ji30 : Int).toNat ≤ 35184372088832
   ·
    rw [if_pos c32] at H
    have c32b0 := eq_true c32
    have c32b1 : decide ((ji30 : Int).toNat ≤ 35184372088832) = true := decide_eq_true c32
    clear c32
    obtain ⟨y634, hy634⟩ : ∃ y_ : List Int, y_ = (List.replicate (ji30 : Int).toNat 0) := ⟨_, rfl⟩
    replace H : (nat_sum.l51 k l0 l1 y634 0 (l0.length : Int) 0) = some r := by first | (rw [hy634]; with_reducible exact H) | (have H2_ := (Option.bind_some _ _).symm.trans H; rw [hy634]; with_reducible exact H2_) | (have H2_ := (Option.bind_some _ _).symm.trans H; with_reducible exact H2_) | with_reducible exact H | (rw [hy634]; exact H) | exact H
    have Ny634 := Aside0.mk hy634; clear hy634
    have H' := Aside0.mk H
    clear H
    go_enter Try.func118, Try.ntmps118
    go_wp2_with (first | ((with_reducible refine gate_dst (N := 19) rfl ?_); refine Kd.R_make (Kd.int .u64) _ 27 rfl (N := 19) rfl 23 _ _ rfl ji30 rfl rfl Try.underlying23 (.int .u64 0) 8 info27 rfl (by decide) (by omega) 0 (ok := fun _ => True) (okp := fun _ => True) rfl (fun _ hk => hk) trivial (of_decide_eq_true (by first | (with_reducible assumption) | assumption)) (Nat.le_trans (Nat.mul_le_mul_right _ (of_decide_eq_true (by first | (with_reducible assumption) | assumption) : ji30.toNat ≤ 35184372088832)) (by omega)) (Below.refl _ _) (Nat.le_refl _) ?_; intro v635 w33 ho34 hb hg_ hnew_; clear hg_ hnew_; (first | rw [← Ny634.out] at ho34 | (simp only [Int.reduceToNat] at ho34; rw [← Ny634.out] at ho34)); have n0_ := Aside0.mk (Kd.R_lower ho34 (below_size uB)); have n1_ := Aside0.mk (below_step uB hb); clear HB; have HO636 := n0_; have HB := n1_; clear n0_ n1_; clear hb ho34))
    go_loopg [6, 22] k (fun kq v6 v22 w' => ∃ (x5_1 : List Int) (x6_1 : Int) (x22_1 : Int), v6 = .int .u64 x6_1 ∧ v22 = .int .i64 x22_1 ∧ Aside0 (nat_sum.l51 kq l0 l1 x5_1 x6_1 (l0.length : Int) x22_1 = some r) ∧ Aside0 (kq ≤ k) ∧ Aside0 (Kd.R (Kd.int .u64) 27 w' w.heap.size (fun _ => True) v635 x5_1) ∧ Aside0 (Below w.heap.size w w'))
    case atStart => exact ⟨(y634), (0), (0), (by first | rfl | (simp; done) | (simp [*]; done)), (by first | rfl | (simp; done) | (simp [*]; done)), H', ⟨Nat.le_refl _⟩, ⟨uR HO636.out⟩, ⟨uB⟩⟩
    case round =>
     clear H'
     try clear c1
     try clear p1
     try clear q1
     try clear hx1
     try clear c2
     try clear p2
     try clear q2
     try clear hx2
     try clear hf2
     try clear c3
     try clear c3b0
     try clear c3b1
     try clear c5
     try clear c5b0
     try clear c5b1
     try clear c6
     try clear c6b0
     try clear c6b1
     try clear p6
     try clear q6
     try clear hx6
     try clear c9
     try clear c9b0
     try clear c10
     try clear c10b0
     try clear c11
     try clear c11b0
     try clear c12
     try clear c12b0
     try clear c13
     try clear c13b0
     try clear c14
     try clear c14b0
     try clear p15
     try clear q15
     try clear hx15
     try clear hf15
     try clear c18
     try clear c18b0
     try clear c19
     try clear c19b0
     try clear c20
     try clear c20b0
     try clear c21
     try clear c21b0
     try clear p22
     try clear q22
     try clear hx22
     try clear hf22
     try clear c25
     try clear c25b0
     try clear c25b1
     try clear c26
     try clear c26b0
     try clear c26b1
     try clear p27
     try clear q27
     try clear hx27
     try clear hf27
     try clear c31
     try clear c31b0
     try clear c31b1
     try clear c32
     try clear c32b0
     try clear c32b1
     try clear hx15_0
     try clear hx22_0
     try clear hx27_0
     try clear hx628_0
     try clear hx629_0
     try clear hx631_0
     try clear p15
     try clear p2
     try clear p22
     try clear p27
     try clear p6
     try clear p628
     try clear p629
     try clear p631
     try clear q15
     try clear q22
     try clear q27
     try clear q628
     try clear q629
     try clear q631
     obtain ⟨x5_1, x6_1, x22_1, rfl, rfl, HA, HK1, HO_5, HB⟩ := hrel
     cases gk with
     | zero => exact absurd HA.out (by simp [nat_sum.l51])
     | succ k1 =>
      have H := HA.out
      clear HA
      simp only [nat_sum.l51] at H
      by_cases c35 : x22_1 < (l0.length : Int)
      ·
       rw [if_pos c35] at H
       have c35b0 : decide (x22_1 < (l0.length : Int)) = true := decide_eq_true c35
       clear c35
       by_cases c36 : x22_1 < (l1.length : Int)
       ·
        rw [if_pos c36] at H
        have c36b0 : decide (x22_1 < (l1.length : Int)) = true := decide_eq_true c36
        clear c36
        by_cases c37 : 0 ≤ x22_1
        ·
         rw [if_pos c37] at H
         have c37b0 : decide (0 ≤ x22_1) = true := decide_eq_true c37
         clear c37
         by_cases c38 : x22_1 < (l0.length : Int)
         ·
          rw [if_pos c38] at H
          have c38b0 : decide (x22_1 < (l0.length : Int)) = true := decide_eq_true c38
          clear c38
          by_cases c39 : carry01 x6_1 = true
          ·
           rw [if_pos c39] at H
           have c39b0 : carry01 x6_1 = true := c39
           clear c39
           by_cases c40 : x22_1 < (x5_1.length : Int)
           ·
            rw [if_pos c40] at H
            have c40b0 : decide (x22_1 < (x5_1.length : Int)) = true := decide_eq_true c40
            clear c40
            obtain ⟨y639, hy639⟩ : ∃ y_ : List Int, y_ = (x5_1.set (x22_1 : Int).toNat (add64_s (rd l0 x22_1) (rd l1 x22_1) x6_1)) := ⟨_, rfl⟩
            replace H : (nat_sum.l51 k1 l0 l1 y639 (add64_c (rd l0 x22_1) (rd l1 x22_1) x6_1) (l0.length : Int) (wrap64 (x22_1 + 1))) = some r := by first | (rw [hy639]; with_reducible exact H) | (have H2_ := (Option.bind_some _ _).symm.trans H; rw [hy639]; with_reducible exact H2_) | (have H2_ := (Option.bind_some _ _).symm.trans H; with_reducible exact H2_) | with_reducible exact H | (rw [hy639]; exact H) | exact H
            have Ny639 := Aside0.mk hy639; clear hy639
            have H' := Aside0.mk H
            clear H
            have p637 : 0 ≤ (x22_1 : Int) := of_decide_eq_true (by first | (with_reducible assumption) | assumption)
            have q637 : x22_1 < (l1.length : Int) := of_decide_eq_true (by first | (with_reducible assumption) | assumption)
            obtain ⟨ad637, e637, hx637_0⟩ := Kd.at_int HR1.out x22_1 p637 q637
            cases e637
            replace hx637_0 := (HB.out.cell (World.block_lt_of_cell? w _ hx637_0)).trans hx637_0
            replace p637 := eq_true p637
            replace q637 := eq_true q637
            have p638 : 0 ≤ (x22_1 : Int) := of_decide_eq_true (by first | (with_reducible assumption) | assumption)
            have q638 : x22_1 < (l0.length : Int) := of_decide_eq_true (by first | (with_reducible assumption) | assumption)
            obtain ⟨ad638, e638, hx638_0⟩ := Kd.at_int HR0.out x22_1 p638 q638
            cases e638
            replace hx638_0 := (HB.out.cell (World.block_lt_of_cell? w _ hx638_0)).trans hx638_0
            replace p638 := eq_true p638
            replace q638 := eq_true q638
            have p41 : 0 ≤ (x22_1 : Int) := of_decide_eq_true (by first | (with_reducible assumption) | assumption)
            have q41 : (x22_1 : Int) < ((x5_1.length : Int) : Int) := of_decide_eq_true (by first | (with_reducible assumption) | assumption)
            obtain ⟨go41, co41, eo41, gb41, gl41, cl41, HG41⟩ := Kd.R_form HO_5.out (by omega)
            (first | cases eo41 | (injection eo41 with ea_ en_ ec_; (first | subst ea_ | (injection ea_ with ea_; subst ea_)); subst ec_; clear en_))
            have GB41 := Aside0.mk gb41; have GG41 := Aside0.mk HG41; clear gb41 gl41 HG41
            obtain ⟨hx41_0, hf41_0⟩ := Kd.R_celln 0 HO_5.out (x22_1 : Int) p41 q41
            replace p41 := eq_true p41
            replace q41 := eq_true q41
            have HP42 := Kd.R_putg HO_5.out (x22_1 : Int) (add64_s (rd l0 x22_1) (rd l1 x22_1) x6_1)
            go_wp2_with (first | ((with_reducible refine gate_store (t := 27) (p := 45) rfl ?_); refine store_event (t := 27) (p := 45) (v := ?vo_w43) (w1 := (wr.setCell ⟨go41, (x22_1 : Int).toNat, none⟩ (.int .u64 (add64_s (rd l0 x22_1) (rd l1 x22_1) x6_1)))) ?hg ?ho ?hn ?hr ?_; (case ho => rfl); (case hg => rfl); (case hn => rfl); (case hr => first | (go_simp; done) | (go_simp; rfl) | (obtain ⟨hy_, hz_⟩ := Kd.R_celln 0 HO_5.out (x22_1 : Int) (of_decide_eq_true (by first | (with_reducible assumption) | assumption)) (of_decide_eq_true (by first | (with_reducible assumption) | assumption)); (try simp only [Go.IntWalk.toNatUp] at hy_ hz_); (try simp only [Int.reduceToNat, Int.toNat_zero, Int.toNat_ofNat] at hy_ hz_); first | (go_simp; done) | (go_simp; rfl))); intro w43 hw; have hg : wr.grownBy w43 (some go41) := (by rw [hw]; exact HP42.2); have hp_ : Kd.R (Kd.int .u64) 27 w43 w.heap.size (fun _ => True) (.slice (some ⟨go41, 0, none⟩) x5_1.length co41) y639 := (by rw [hw, Ny639.out]; exact HP42.1); clear HP42; have n0_ := Aside0.mk (hp_); have n1_ := Aside0.mk ((by rw [hw]; exact below_set (HB.out) GB41.out : Below w.heap.size w w43)); clear HO_5; clear HB; have HO_5 := n0_; have HB := n1_; clear n0_ n1_; clear hg hw hp_))
            first | go_roundg k1 | ((try simp only [← hji30] at H'); simp only [← hji30]; go_roundg k1) | ((try simp only [← hji4] at H'); simp only [← hji4]; go_roundg k1)
            case measure => have := HK1.out; omega
            case rel => first | exact ⟨(y639), (add64_c (rd l0 x22_1) (rd l1 x22_1) x6_1), (wrap64 (x22_1 + 1)), (by first | rfl | (simp; done) | (simp [*]; done)), (by first | rfl | (simp; done) | (simp [*]; done)), H', ⟨by have := HK1.out; omega⟩, ⟨uR HO_5.out⟩, ⟨uB⟩⟩ | (simp only [← hji30] at H'; exact ⟨(y639), (add64_c (rd l0 x22_1) (rd l1 x22_1) x6_1), (wrap64 (x22_1 + 1)), (by first | rfl | (simp; done) | (simp [*]; done)), (by first | rfl | (simp; done) | (simp [*]; done)), H', ⟨by have := HK1.out; omega⟩, ⟨uR HO_5.out⟩, ⟨uB⟩⟩) | (simp only [← hji4] at H'; exact ⟨(y639), (add64_c (rd l0 x22_1) (rd l1 x22_1) x6_1), (wrap64 (x22_1 + 1)), (by first | rfl | (simp; done) | (simp [*]; done)), (by first | rfl | (simp; done) | (simp [*]; done)), H', ⟨by have := HK1.out; omega⟩, ⟨uR HO_5.out⟩, ⟨uB⟩⟩)
           ·
            rw [if_neg c40] at H
            exact absurd H (by simp)
          ·
           rw [if_neg c39] at H
           exact absurd H (by simp)
         ·
          rw [if_neg c38] at H
          exact absurd H (by simp)
        ·
         rw [if_neg c37] at H
         exact absurd H (by simp)
       ·
        rw [if_neg c36] at H
        have c36b0 : decide (x22_1 < (l1.length : Int)) = false := decide_eq_false c36
        clear c36
        by_cases c44 : 0 ≤ x22_1
        ·
         rw [if_pos c44] at H
         have c44b0 : decide (0 ≤ x22_1) = true := decide_eq_true c44
         clear c44
         by_cases c45 : x22_1 < (l0.length : Int)
         ·
          rw [if_pos c45] at H
          have c45b0 : decide (x22_1 < (l0.length : Int)) = true := decide_eq_true c45
          clear c45
          by_cases c46 : carry01 x6_1 = true
          ·
           rw [if_pos c46] at H
           have c46b0 : carry01 x6_1 = true := c46
           clear c46
           by_cases c47 : x22_1 < (x5_1.length : Int)
           ·
            rw [if_pos c47] at H
            have c47b0 : decide (x22_1 < (x5_1.length : Int)) = true := decide_eq_true c47
            clear c47
            obtain ⟨y641, hy641⟩ : ∃ y_ : List Int, y_ = (x5_1.set (x22_1 : Int).toNat (add64_s (rd l0 x22_1) 0 x6_1)) := ⟨_, rfl⟩
            replace H : (nat_sum.l51 k1 l0 l1 y641 (add64_c (rd l0 x22_1) 0 x6_1) (l0.length : Int) (wrap64 (x22_1 + 1))) = some r := by first | (rw [hy641]; with_reducible exact H) | (have H2_ := (Option.bind_some _ _).symm.trans H; rw [hy641]; with_reducible exact H2_) | (have H2_ := (Option.bind_some _ _).symm.trans H; with_reducible exact H2_) | with_reducible exact H | (rw [hy641]; exact H) | exact H
            have Ny641 := Aside0.mk hy641; clear hy641
            have H' := Aside0.mk H
            clear H
            have p640 : 0 ≤ (x22_1 : Int) := of_decide_eq_true (by first | (with_reducible assumption) | assumption)
            have q640 : x22_1 < (l0.length : Int) := of_decide_eq_true (by first | (with_reducible assumption) | assumption)
            obtain ⟨ad640, e640, hx640_0⟩ := Kd.at_int HR0.out x22_1 p640 q640
            cases e640
            replace hx640_0 := (HB.out.cell (World.block_lt_of_cell? w _ hx640_0)).trans hx640_0
            replace p640 := eq_true p640
            replace q640 := eq_true q640
            have p48 : 0 ≤ (x22_1 : Int) := of_decide_eq_true (by first | (with_reducible assumption) | assumption)
            have q48 : (x22_1 : Int) < ((x5_1.length : Int) : Int) := of_decide_eq_true (by first | (with_reducible assumption) | assumption)
            obtain ⟨go48, co48, eo48, gb48, gl48, cl48, HG48⟩ := Kd.R_form HO_5.out (by omega)
            (first | cases eo48 | (injection eo48 with ea_ en_ ec_; (first | subst ea_ | (injection ea_ with ea_; subst ea_)); subst ec_; clear en_))
            have GB48 := Aside0.mk gb48; have GG48 := Aside0.mk HG48; clear gb48 gl48 HG48
            obtain ⟨hx48_0, hf48_0⟩ := Kd.R_celln 0 HO_5.out (x22_1 : Int) p48 q48
            replace p48 := eq_true p48
            replace q48 := eq_true q48
            have HP49 := Kd.R_putg HO_5.out (x22_1 : Int) (add64_s (rd l0 x22_1) 0 x6_1)
            go_wp2_with (first | ((with_reducible refine gate_store (t := 27) (p := 45) rfl ?_); refine store_event (t := 27) (p := 45) (v := ?vo_w50) (w1 := (wr.setCell ⟨go48, (x22_1 : Int).toNat, none⟩ (.int .u64 (add64_s (rd l0 x22_1) 0 x6_1)))) ?hg ?ho ?hn ?hr ?_; (case ho => rfl); (case hg => rfl); (case hn => rfl); (case hr => first | (go_simp; done) | (go_simp; rfl) | (obtain ⟨hy_, hz_⟩ := Kd.R_celln 0 HO_5.out (x22_1 : Int) (of_decide_eq_true (by first | (with_reducible assumption) | assumption)) (of_decide_eq_true (by first | (with_reducible assumption) | assumption)); (try simp only [Go.IntWalk.toNatUp] at hy_ hz_); (try simp only [Int.reduceToNat, Int.toNat_zero, Int.toNat_ofNat] at hy_ hz_); first | (go_simp; done) | (go_simp; rfl))); intro w50 hw; have hg : wr.grownBy w50 (some go48) := (by rw [hw]; exact HP49.2); have hp_ : Kd.R (Kd.int .u64) 27 w50 w.heap.size (fun _ => True) (.slice (some ⟨go48, 0, none⟩) x5_1.length co48) y641 := (by rw [hw, Ny641.out]; exact HP49.1); clear HP49; have n0_ := Aside0.mk (hp_); have n1_ := Aside0.mk ((by rw [hw]; exact below_set (HB.out) GB48.out : Below w.heap.size w w50)); clear HO_5; clear HB; have HO_5 := n0_; have HB := n1_; clear n0_ n1_; clear hg hw hp_))
            first | go_roundg k1 | ((try simp only [← hji30] at H'); simp only [← hji30]; go_roundg k1) | ((try simp only [← hji4] at H'); simp only [← hji4]; go_roundg k1)
            case measure => have := HK1.out; omega
            case rel => first | exact ⟨(y641), (add64_c (rd l0 x22_1) 0 x6_1), (wrap64 (x22_1 + 1)), (by first | rfl | (simp; done) | (simp [*]; done)), (by first | rfl | (simp; done) | (simp [*]; done)), H', ⟨by have := HK1.out; omega⟩, ⟨uR HO_5.out⟩, ⟨uB⟩⟩ | (simp only [← hji30] at H'; exact ⟨(y641), (add64_c (rd l0 x22_1) 0 x6_1), (wrap64 (x22_1 + 1)), (by first | rfl | (simp; done) | (simp [*]; done)), (by first | rfl | (simp; done) | (simp [*]; done)), H', ⟨by have := HK1.out; omega⟩, ⟨uR HO_5.out⟩, ⟨uB⟩⟩) | (simp only [← hji4] at H'; exact ⟨(y641), (add64_c (rd l0 x22_1) 0 x6_1), (wrap64 (x22_1 + 1)), (by first | rfl | (simp; done) | (simp [*]; done)), (by first | rfl | (simp; done) | (simp [*]; done)), H', ⟨by have := HK1.out; omega⟩, ⟨uR HO_5.out⟩, ⟨uB⟩⟩)
           ·
            rw [if_neg c47] at H
            exact absurd H (by simp)
          ·
           rw [if_neg c46] at H
           exact absurd H (by simp)
         ·
          rw [if_neg c45] at H
          exact absurd H (by simp)
        ·
         rw [if_neg c44] at H
         exact absurd H (by simp)
      ·
       rw [if_neg c35] at H
       have c35b0 : decide (x22_1 < (l0.length : Int)) = false := decide_eq_false c35
       clear c35
       by_cases c51 : 0 ≤ (l0.length : Int)
       ·
        rw [if_pos c51] at H
        have c51b0 : decide (0 ≤ (l0.length : Int)) = true := decide_eq_true c51
        have c51b1 : decide (0 ≤ l0.length) = true := decide_eq_true (by omega)
        clear c51
        by_cases c52 : (l0.length : Int) < (x5_1.length : Int)
        ·
         rw [if_pos c52] at H
         have c52b0 : decide ((l0.length : Int) < (x5_1.length : Int)) = true := decide_eq_true c52
         have c52b1 : decide (l0.length < x5_1.length) = true := decide_eq_true (Int.ofNat_lt.mp c52)
         clear c52
         obtain ⟨y642, hy642⟩ : ∃ y_ : List Int, y_ = (x5_1.set ((l0.length : Int) : Int).toNat x6_1) := ⟨_, rfl⟩
         replace H : (some y642) = some r := by first | (rw [hy642]; with_reducible exact H) | (have H2_ := (Option.bind_some _ _).symm.trans H; rw [hy642]; with_reducible exact H2_) | (have H2_ := (Option.bind_some _ _).symm.trans H; with_reducible exact H2_) | with_reducible exact H | (rw [hy642]; exact H) | exact H
         have Ny642 := Aside0.mk hy642; clear hy642
         obtain rfl := Option.some.inj H
         have p53 : 0 ≤ ((l0.length : Int) : Int) := of_decide_eq_true (by first | (with_reducible assumption) | assumption)
         have q53 : ((l0.length : Int) : Int) < ((x5_1.length : Int) : Int) := of_decide_eq_true (by first | (with_reducible assumption) | assumption)
         obtain ⟨go53, co53, eo53, gb53, gl53, cl53, HG53⟩ := Kd.R_form HO_5.out (by omega)
         (first | cases eo53 | (injection eo53 with ea_ en_ ec_; (first | subst ea_ | (injection ea_ with ea_; subst ea_)); subst ec_; clear en_))
         have GB53 := Aside0.mk gb53; have GG53 := Aside0.mk HG53; clear gb53 gl53 HG53
         obtain ⟨hx53_0, hf53_0⟩ := Kd.R_celln 0 HO_5.out ((l0.length : Int) : Int) p53 q53
         (try simp only [Go.IntWalk.toNatUp] at hx53_0 hf53_0)
         replace p53 := eq_true p53
         replace q53 := eq_true q53
         have HP54 := Kd.R_putg HO_5.out ((l0.length : Int) : Int) x6_1
         go_wp2_with (first | ((with_reducible refine gate_store (t := 27) (p := 51) rfl ?_); refine store_event (t := 27) (p := 51) (v := ?vo_w55) (w1 := (wr.setCell ⟨go53, ((l0.length : Int) : Int).toNat, none⟩ (.int .u64 x6_1))) ?hg ?ho ?hn ?hr ?_; (case ho => rfl); (case hg => rfl); (case hn => rfl); (case hr => first | (go_simp; done) | (go_simp; rfl) | (obtain ⟨hy_, hz_⟩ := Kd.R_celln 0 HO_5.out ((l0.length : Int) : Int) (of_decide_eq_true (by first | (with_reducible assumption) | assumption)) (of_decide_eq_true (by first | (with_reducible assumption) | assumption)); (try simp only [Go.IntWalk.toNatUp] at hy_ hz_); (try simp only [Int.reduceToNat, Int.toNat_zero, Int.toNat_ofNat] at hy_ hz_); first | (go_simp; done) | (go_simp; rfl))); intro w55 hw; have hg : wr.grownBy w55 (some go53) := (by rw [hw]; exact HP54.2); have hp_ : Kd.R (Kd.int .u64) 27 w55 w.heap.size (fun _ => True) (.slice (some ⟨go53, 0, none⟩) x5_1.length co53) y642 := (by rw [hw, Ny642.out]; exact HP54.1); clear HP54; have n0_ := Aside0.mk (hp_); have n1_ := Aside0.mk ((by rw [hw]; exact below_set (HB.out) GB53.out : Below w.heap.size w w55)); clear HO_5; clear HB; have HO_5 := n0_; have HB := n1_; clear n0_ n1_; clear hg hw hp_))
         go_ret
         exact ⟨_, by first | rfl | (simp [errW_none, errW_some] <;> rfl) | (simp only [← hji30]; first | rfl | (simp [errW_none, errW_some] <;> rfl)) | (simp [*, errW_none, errW_some] <;> rfl), uR HO_5.out, uB⟩
        ·
         rw [if_neg c52] at H
         exact absurd H (by simp)
       ·
        rw [if_neg c51] at H
        exact absurd H (by simp)
   ·
    rw [if_neg c32] at H
    exact absurd H (by simp)
  ·
   rw [if_neg c31] at H
   exact absurd H (by simp)

end Go.Proofs.Ytgeanpnkllnipab.F
end

section
namespace Go.Proofs.Ytgeanpnkllnipab.F
open Go.RowKit Go.Proofs.YtgeanpnkllnipabW.PrintWords Go.Proofs.YtgeanpnkllnipabW.PrintLast Go.Proofs.YtgeanpnkllnipabW.PrintMore
attribute [local go_sem] max2_int min2_int max_two min_two max_three min_three max_four min_four
set_option linter.unusedVariables false
set_option linter.unusedSimpArgs false

def nat_Add.f (k : Nat) (l0 : List Int) (l1 : List Int) : Option (List Int × Int) := (nat_right.f (([l0, l1] : List (List Int)))).bind fun t646 => (if t646 = true then ((nat_sum.f k l0 l1).bind fun t647 => ((nat_told.f k t647).bind fun bt650 => (some (bt650.1, bt650.2)))) else (some (([] : List Int), 1)))
set_option maxHeartbeats 8000000 in
set_option maxRecDepth 100000 in
theorem nat_Add.calls (k : Nat) (P0_ : Nat → Prop) (A0 : Option Addr) (c0 : Nat) (l0 : List Int) (P1_ : Nat → Prop) (A1 : Option Addr) (c1 : Nat) (l1 : List Int) (r1 : List Int) (r2 : Int) (w : World) (hs0 : Kd.V (Kd.int .u64) 27 w w.heap.size (fun k_ => P0_ k_) (.slice A0 l0.length c0) l0) (hs1 : Kd.V (Kd.int .u64) 27 w w.heap.size (fun k_ => P1_ k_) (.slice A1 l1.length c1) l1) (h : nat_Add.f k l0 l1 = some (r1, r2)) :
  Calls Try.prog 81 #[.slice A0 l0.length c0, .slice A1 l1.length c1] w fun e w' => ∃ v0_ : Value, e = .returned (.tuple #[v0_, .int .i64 r2]) ∧ Kd.R (Kd.int .u64) 27 w' w.heap.size (fun k_ => (w.heap.size ≤ k_)) v0_ r1 ∧ Below w.heap.size w w' := by
 have HO0 := Aside0.mk (show Kd.V (Kd.int .u64) 27 w w.heap.size (fun k_ => ((P0_ k_ ∨ P1_ k_) ∨ w.heap.size ≤ k_)) (.slice A0 l0.length c0) l0 from Kd.V_mono hs0 (fun k_ hk => .inl (.inl hk)))
 have HO1 := Aside0.mk (show Kd.V (Kd.int .u64) 27 w w.heap.size (fun k_ => ((P0_ k_ ∨ P1_ k_) ∨ w.heap.size ≤ k_)) (.slice A1 l1.length c1) l1 from Kd.V_mono hs1 (fun k_ hk => .inl (.inr hk)))
 have HB := Aside0.mk (Below.refl w.heap.size w)
 have H : ((nat_right.f (([l0, l1] : List (List Int)))).bind fun t646 => (if t646 = true then ((nat_sum.f k l0 l1).bind fun t647 => ((nat_told.f k t647).bind fun bt650 => (some (bt650.1, bt650.2)))) else (some (([] : List Int), 1)))) = some (r1, r2) := h
 clear h
 obtain ⟨y643, hy643⟩ : ∃ y_ : List (List Int), y_ = (([l0, l1] : List (List Int))) := ⟨_, rfl⟩
 replace H : ((nat_right.f y643).bind fun t646 => (if t646 = true then ((nat_sum.f k l0 l1).bind fun t647 => ((nat_told.f k t647).bind fun bt650 => (some (bt650.1, bt650.2)))) else (some (([] : List Int), 1)))) = some (r1, r2) := by first | (rw [hy643]; with_reducible exact H) | (have H2_ := (Option.bind_some _ _).symm.trans H; rw [hy643]; with_reducible exact H2_) | (have H2_ := (Option.bind_some _ _).symm.trans H; with_reducible exact H2_) | with_reducible exact H | (rw [hy643]; exact H) | exact H
 have Ny643 := Aside0.mk hy643; clear hy643
 replace H := Option.bind_eq_some_iff.mp H
 obtain ⟨t646, A30, H⟩ := H
 replace H : (if t646 = true then ((nat_sum.f k l0 l1).bind fun t647 => ((nat_told.f k t647).bind fun bt650 => (some (bt650.1, bt650.2)))) else (some (([] : List Int), 1))) = some (r1, r2) := H
 have A3 := Aside0.mk A30; clear A30
 by_cases c4 : t646 = true
 ·
  subst c4
  have H1 : ((nat_sum.f k l0 l1).bind fun t647 => ((nat_told.f k t647).bind fun bt650 => (some (bt650.1, bt650.2)))) = some (r1, r2) := by rw [if_pos rfl] at H; exact H
  clear H; have H := H1; clear H1
  replace H := Option.bind_eq_some_iff.mp H
  obtain ⟨t647, A50, H⟩ := H
  replace H : ((nat_told.f k t647).bind fun bt650 => (some (bt650.1, bt650.2))) = some (r1, r2) := H
  have A5 := Aside0.mk A50; clear A50
  replace H := Option.bind_eq_some_iff.mp H
  obtain ⟨⟨t650, t653⟩, A60, H⟩ := H
  replace H : (some (t650, t653)) = some (r1, r2) := H
  have A6 := Aside0.mk A60; clear A60
  simp only [Option.some.injEq, Prod.mk.injEq] at H
  obtain ⟨rfl, rfl⟩ := H
  go_enter Try.func81, Try.ntmps81
  go_wp2_with (first | ((with_reducible refine gate_dst (N := 8) rfl ?_); refine Kd.N_lit (Kd.slice 27 (Kd.int .u64)) _ 23 ?hg (N' := 8) ?hd (xs := ([l0, l1] : List (List Int))) (inner := [.slice A0 l0.length c0, .slice A1 l1.length c1]) (ok := (fun k_ => ((P0_ k_ ∨ P1_ k_) ∨ w.heap.size ≤ k_))) (okp := (fun k_ => ((P0_ k_ ∨ P1_ k_) ∨ w.heap.size ≤ k_))) ?hr ?hp (fun _ hk => hk) ((show ∀ k_, w.heap.size ≤ k_ → (fun k_ => ((P0_ k_ ∨ P1_ k_) ∨ w.heap.size ≤ k_)) k_ from fun k_ hk => (.inr (Nat.le_trans (below_size uB) hk))) _ (Nat.le_refl _)) (Below.refl _ _) (Nat.le_refl _) (by simp) ?_; (case hd => rfl); (case hg => rfl); (case hr => first | (go_simp; done) | (go_simp; rfl) | (go_simp; simp only [u64_u8]; done) | (go_simp; simp only [u64_u8]; rfl)); (case hp => exact (Reps.one (show Kd.FK (Kd.slice 27 (Kd.int .u64)) _ _ l0 [.slice A0 l0.length c0] from (Kd.FK_slice_mk (Kd.V_reads' (Kd.V_mono (ok' := (fun k_ => ((P0_ k_ ∨ P1_ k_) ∨ w.heap.size ≤ k_))) (HO0.out) (fun k_ hk => hk))).2.1 (Kd.V_F (Kd.V_mono (ok' := (fun k_ => ((P0_ k_ ∨ P1_ k_) ∨ w.heap.size ≤ k_))) (HO0.out) (fun k_ hk => hk))))) (Reps.one (show Kd.FK (Kd.slice 27 (Kd.int .u64)) _ _ l1 [.slice A1 l1.length c1] from (Kd.FK_slice_mk (Kd.V_reads' (Kd.V_mono (ok' := (fun k_ => ((P0_ k_ ∨ P1_ k_) ∨ w.heap.size ≤ k_))) (HO1.out) (fun k_ hk => hk))).2.1 (Kd.V_F (Kd.V_mono (ok' := (fun k_ => ((P0_ k_ ∨ P1_ k_) ∨ w.heap.size ≤ k_))) (HO1.out) (fun k_ hk => hk))))) (Reps.none _ _)))); intro v644 w7 ho8 hb hg_ hnew_; clear hg_ hnew_; (first | rw [← Ny643.out] at ho8 | (simp only [Int.reduceToNat] at ho8; rw [← Ny643.out] at ho8)); have n0_ := Aside0.mk (Kd.V_elder' (uV HO0.out) (Kd.N_base ho8) hb); have n1_ := Aside0.mk (Kd.V_elder' (uV HO1.out) (Kd.N_base ho8) hb); have n2_ := Aside0.mk (Kd.N_lower ho8 (below_size uB)); have n3_ := Aside0.mk (below_step uB hb); clear HO0; clear HO1; clear HB; have HO0 := n0_; have HO1 := n1_; have HO645 := n2_; have HB := n3_; clear n0_ n1_ n2_ n3_; clear hb ho8; obtain ⟨Ao9, co9, eo9⟩ := Kd.N_slice HO645.out; subst eo9) | ((with_reducible refine gate_callee (f := 114) rfl ?_); refine goesL_ (some 9) rfl rfl Try.func114 (by kernel_rfl) rfl #[.slice Ao9 y643.length co9] rfl uM ?_; (with_reducible refine (nat_right.calls _ _ y643 true _ ?side1 ?side2 A3.out).mono ?_); (case side1 => exact uC (Kd.N_reads' HO645.out).2.2); (case side2 => exact (Kd.N_reads' HO645.out).2.1); rintro e w' ⟨rfl, ⟨nd, rfl⟩⟩; refine ⟨_, rfl, ?_⟩) | ((with_reducible refine gate_callee (f := 118) rfl ?_); refine goesL_ (some 13) rfl rfl Try.func118 (by kernel_rfl) rfl #[.slice A0 l0.length c0, .slice A1 l1.length c1] rfl uM ?_; (with_reducible refine (nat_sum.calls k _ _ l0 _ _ l1 t647 _ ?side1 ?side2 ?side3 ?side4 A5.out).mono ?_); (case side1 => exact uC (Kd.V_reads' HO0.out).2.2); (case side2 => exact (Kd.V_reads' HO0.out).2.1); (case side3 => exact uC (Kd.V_reads' HO1.out).2.2); (case side4 => exact (Kd.V_reads' HO1.out).2.1); rintro e w10 ⟨v648, rfl, ho0, hb⟩; refine ⟨_, rfl, ?_⟩; have n0_ := Aside0.mk (Kd.V_elder' (uV HO0.out) (Kd.R_base ho0) hb); have n1_ := Aside0.mk (Kd.V_elder' (uV HO1.out) (Kd.R_base ho0) hb); have n2_ := Aside0.mk (Kd.N_elder' (uN HO645.out) (Kd.R_base ho0) hb); have n3_ := Aside0.mk (Kd.R_lower (Kd.R_newM (M := fun k_ => (w.heap.size ≤ k_)) ho0 (below_size uB) (fun k_ h_ => h_)) (below_size uB)); have n4_ := Aside0.mk (below_step uB hb); clear HO0; clear HO1; clear HO645; clear HB; have HO0 := n0_; have HO1 := n1_; have HO645 := n2_; have HO649 := n3_; have HB := n4_; clear n0_ n1_ n2_ n3_ n4_; (try clear hb); (try clear hb2); (try clear hk); (try clear hi); (try clear ho0); obtain ⟨Ao11, co11, eo11⟩ := Kd.R_slice HO649.out; subst eo11) | ((with_reducible refine gate_callee (f := 116) rfl ?_); refine goesL_ (some 14) rfl rfl Try.func116 (by kernel_rfl) rfl #[.slice Ao11 t647.length co11] rfl uM ?_; (with_reducible refine (nat_told.calls k (fun k_ => some k_ = (.slice Ao11 t647.length co11 : Value).ownBlock) (.slice Ao11 t647.length co11) t647 t650 t653 w _ ?side1 ?side2 A6.out).mono ?_); (case side1 => repeat (first | (with_reducible first | exact HB.out | apply below_alloc | apply pw_below_drewN | apply below_drew1) | exact HB.out)); (case side2 => exact Kd.R_tight rfl HO649.out); rintro e w12 ⟨v651, rfl, ho0, hb, hkp⟩; refine ⟨_, rfl, ?_⟩; have n0_ := Aside0.mk (Kd.V_mono (ok' := fun k_ => ((P0_ k_ ∨ P1_ k_) ∨ w.heap.size ≤ k_) ∧ some k_ ≠ (.slice Ao9 y643.length co9 : Value).ownBlock ∧ some k_ ≠ (v651 : Value).ownBlock) (Kd.V_keptB (HO0.out) hkp (fun k_ hk_ hs_ => (hk_.2) hs_)) (fun k_ hk_ => ⟨hk_.1.1.1, hk_.1.1.2, fun e_ => Or.elim (ho0.1 k_ e_.symm) (fun hs_ => hk_.2.1 hs_) (fun hn_ => Nat.not_le.2 hk_.2.2 hn_)⟩)); have n1_ := Aside0.mk (Kd.V_mono (ok' := fun k_ => ((P0_ k_ ∨ P1_ k_) ∨ w.heap.size ≤ k_) ∧ some k_ ≠ (.slice Ao9 y643.length co9 : Value).ownBlock ∧ some k_ ≠ (v651 : Value).ownBlock) (Kd.V_keptB (HO1.out) hkp (fun k_ hk_ hs_ => (hk_.2) hs_)) (fun k_ hk_ => ⟨hk_.1.1.1, hk_.1.1.2, fun e_ => Or.elim (ho0.1 k_ e_.symm) (fun hs_ => hk_.2.1 hs_) (fun hn_ => Nat.not_le.2 hk_.2.2 hn_)⟩)); have n2_ := Aside0.mk (Kd.N_mono (ok' := fun k_ => ((P0_ k_ ∨ P1_ k_) ∨ w.heap.size ≤ k_) ∧ some k_ ≠ (v651 : Value).ownBlock) (Kd.N_keptB (HO645.out) hkp (fun k_ hk_ hs_ => (hk_.2) hs_)) (fun k_ hk_ => ⟨hk_.1.1, fun e_ => Or.elim (ho0.1 k_ e_.symm) (fun hs_ => hk_.2.1 hs_) (fun hn_ => Nat.not_le.2 hk_.2.2 hn_)⟩)); have n3_ := Aside0.mk (Kd.R_mono (ok' := fun k_ => (w.heap.size ≤ k_)) ho0 (fun k_ hk_ => Or.elim hk_ (fun hs_ => (HO649.out.1 k_ (hs_).symm).1) (fun hn_ => (Nat.le_trans (below_size uB) hn_)))); have n4_ := Aside0.mk (hb); clear HO0; clear HO1; clear HO645; clear HB; clear HO649; have HO0 := n0_; have HO1 := n1_; have HO645 := n2_; have HO652 := n3_; have HB := n4_; clear n0_ n1_ n2_ n3_ n4_; (try clear hb); (try clear hkp); (try clear ho0)))
  go_ret2
  exact ⟨_, by first | rfl | (simp [errW_none, errW_some] <;> rfl) | (simp [*, errW_none, errW_some] <;> rfl), uR HO652.out, uB⟩
 ·
  replace c4 := Bool.eq_false_iff.mpr c4
  subst c4
  have H1 : (some (([] : List Int), 1)) = some (r1, r2) := by rw [if_neg (show ¬ (false = true) by decide)] at H; exact H
  clear H; have H := H1; clear H1
  simp only [Option.some.injEq, Prod.mk.injEq] at H
  obtain ⟨rfl, rfl⟩ := H
  go_enter Try.func81, Try.ntmps81
  go_wp2_with (first | ((with_reducible refine gate_dst (N := 8) rfl ?_); refine Kd.N_lit (Kd.slice 27 (Kd.int .u64)) _ 23 ?hg (N' := 8) ?hd (xs := ([l0, l1] : List (List Int))) (inner := [.slice A0 l0.length c0, .slice A1 l1.length c1]) (ok := (fun k_ => ((P0_ k_ ∨ P1_ k_) ∨ w.heap.size ≤ k_))) (okp := (fun k_ => ((P0_ k_ ∨ P1_ k_) ∨ w.heap.size ≤ k_))) ?hr ?hp (fun _ hk => hk) ((show ∀ k_, w.heap.size ≤ k_ → (fun k_ => ((P0_ k_ ∨ P1_ k_) ∨ w.heap.size ≤ k_)) k_ from fun k_ hk => (.inr (Nat.le_trans (below_size uB) hk))) _ (Nat.le_refl _)) (Below.refl _ _) (Nat.le_refl _) (by simp) ?_; (case hd => rfl); (case hg => rfl); (case hr => first | (go_simp; done) | (go_simp; rfl) | (go_simp; simp only [u64_u8]; done) | (go_simp; simp only [u64_u8]; rfl)); (case hp => exact (Reps.one (show Kd.FK (Kd.slice 27 (Kd.int .u64)) _ _ l0 [.slice A0 l0.length c0] from (Kd.FK_slice_mk (Kd.V_reads' (Kd.V_mono (ok' := (fun k_ => ((P0_ k_ ∨ P1_ k_) ∨ w.heap.size ≤ k_))) (HO0.out) (fun k_ hk => hk))).2.1 (Kd.V_F (Kd.V_mono (ok' := (fun k_ => ((P0_ k_ ∨ P1_ k_) ∨ w.heap.size ≤ k_))) (HO0.out) (fun k_ hk => hk))))) (Reps.one (show Kd.FK (Kd.slice 27 (Kd.int .u64)) _ _ l1 [.slice A1 l1.length c1] from (Kd.FK_slice_mk (Kd.V_reads' (Kd.V_mono (ok' := (fun k_ => ((P0_ k_ ∨ P1_ k_) ∨ w.heap.size ≤ k_))) (HO1.out) (fun k_ hk => hk))).2.1 (Kd.V_F (Kd.V_mono (ok' := (fun k_ => ((P0_ k_ ∨ P1_ k_) ∨ w.heap.size ≤ k_))) (HO1.out) (fun k_ hk => hk))))) (Reps.none _ _)))); intro v644 w13 ho14 hb hg_ hnew_; clear hg_ hnew_; (first | rw [← Ny643.out] at ho14 | (simp only [Int.reduceToNat] at ho14; rw [← Ny643.out] at ho14)); have n0_ := Aside0.mk (Kd.V_elder' (uV HO0.out) (Kd.N_base ho14) hb); have n1_ := Aside0.mk (Kd.V_elder' (uV HO1.out) (Kd.N_base ho14) hb); have n2_ := Aside0.mk (Kd.N_lower ho14 (below_size uB)); have n3_ := Aside0.mk (below_step uB hb); clear HO0; clear HO1; clear HB; have HO0 := n0_; have HO1 := n1_; have HO645 := n2_; have HB := n3_; clear n0_ n1_ n2_ n3_; clear hb ho14; obtain ⟨Ao15, co15, eo15⟩ := Kd.N_slice HO645.out; subst eo15) | ((with_reducible refine gate_callee (f := 114) rfl ?_); refine goesL_ (some 9) rfl rfl Try.func114 (by kernel_rfl) rfl #[.slice Ao15 y643.length co15] rfl uM ?_; (with_reducible refine (nat_right.calls _ _ y643 false _ ?side1 ?side2 A3.out).mono ?_); (case side1 => exact uC (Kd.N_reads' HO645.out).2.2); (case side2 => exact (Kd.N_reads' HO645.out).2.1); rintro e w' ⟨rfl, ⟨nd, rfl⟩⟩; refine ⟨_, rfl, ?_⟩))
  go_ret2
  exact ⟨_, by first | rfl | (simp [errW_none, errW_some] <;> rfl) | (simp [*, errW_none, errW_some] <;> rfl), by first | exact Kd.R_nil _ _ _ _ _ | exact Kd.N_nil _ _ _ _ _ | exact Kd.V_nil _ _ _ _ _ | exact Kd.Q_nil _ _ _ _ _ | exact Kd.S_nil _ _ _ _ _, uB⟩

end Go.Proofs.Ytgeanpnkllnipab.F
end

section
namespace Go.Proofs.Ytgeanpnkllnipab.F
open Go.RowKit Go.Proofs.YtgeanpnkllnipabW.PrintWords Go.Proofs.YtgeanpnkllnipabW.PrintLast Go.Proofs.YtgeanpnkllnipabW.PrintMore
attribute [local go_sem] max2_int min2_int max_two min_two max_three min_three max_four min_four
set_option linter.unusedVariables false
set_option linter.unusedSimpArgs false

def nat_Bit.f (l0 : List Int) (a1 : Int) : Option (Bool) := (nat_Right.f l0).bind fun t562 => (if t562 = true then (if a1 ≥ 0 then (if (wrap64 (Int.tdiv a1 64)) < (l0.length : Int) then (if 0 ≤ (wrap64 (Int.tdiv a1 64)) then (if 0 ≤ (Int.tmod a1 64) then (some ((Go.bits .and .u64 (shr .u64 (rd l0 (wrap64 (Int.tdiv a1 64))) (Int.tmod a1 64)) 1) == 1)) else (none)) else (none)) else (some false)) else (some false)) else (some false))
set_option maxHeartbeats 8000000 in
set_option maxRecDepth 100000 in
theorem nat_Bit.calls (A0 : Option Addr) (c0 : Nat) (l0 : List Int) (a1 : Int) (r : Bool) (w : World) (hr0 : Kd.C (Kd.int .u64) w A0 l0.length l0) (hc0 : l0.length ≤ c0) (h : nat_Bit.f l0 a1 = some r) :
  Calls Try.prog 49 #[.slice A0 l0.length c0, .int .i64 a1] w fun e w' => e = .returned (.bool r) ∧ Drawn0 w w' := by
 have HR0 := Aside0.mk hr0; have HC0 := Aside0.mk hc0; clear hr0 hc0
 have H : ((nat_Right.f l0).bind fun t562 => (if t562 = true then (if a1 ≥ 0 then (if (wrap64 (Int.tdiv a1 64)) < (l0.length : Int) then (if 0 ≤ (wrap64 (Int.tdiv a1 64)) then (if 0 ≤ (Int.tmod a1 64) then (some ((Go.bits .and .u64 (shr .u64 (rd l0 (wrap64 (Int.tdiv a1 64))) (Int.tmod a1 64)) 1) == 1)) else (none)) else (none)) else (some false)) else (some false)) else (some false))) = some r := h
 clear h
 replace H := Option.bind_eq_some_iff.mp H
 obtain ⟨t562, A30, H⟩ := H
 replace H : (if t562 = true then (if a1 ≥ 0 then (if (wrap64 (Int.tdiv a1 64)) < (l0.length : Int) then (if 0 ≤ (wrap64 (Int.tdiv a1 64)) then (if 0 ≤ (Int.tmod a1 64) then (some ((Go.bits .and .u64 (shr .u64 (rd l0 (wrap64 (Int.tdiv a1 64))) (Int.tmod a1 64)) 1) == 1)) else (none)) else (none)) else (some false)) else (some false)) else (some false)) = some r := H
 have A3 := Aside0.mk A30; clear A30
 by_cases c4 : t562 = true
 ·
  subst c4
  have H1 : (if a1 ≥ 0 then (if (wrap64 (Int.tdiv a1 64)) < (l0.length : Int) then (if 0 ≤ (wrap64 (Int.tdiv a1 64)) then (if 0 ≤ (Int.tmod a1 64) then (some ((Go.bits .and .u64 (shr .u64 (rd l0 (wrap64 (Int.tdiv a1 64))) (Int.tmod a1 64)) 1) == 1)) else (none)) else (none)) else (some false)) else (some false)) = some r := by rw [if_pos rfl] at H; exact H
  clear H; have H := H1; clear H1
  by_cases c5 : a1 ≥ 0
  ·
   rw [if_pos c5] at H
   have c5b0 : decide (0 ≤ a1) = true := decide_eq_true c5
   clear c5
   by_cases c6 : (wrap64 (Int.tdiv a1 64)) < (l0.length : Int)
   ·
    rw [if_pos c6] at H
    have c6b0 : decide ((wrap64 (Int.tdiv a1 64)) < (l0.length : Int)) = true := decide_eq_true c6
    clear c6
    obtain ⟨ji7, hji7⟩ : ∃ j_ : Int, (wrap64 (Int.tdiv a1 64)) = j_ := ⟨_, rfl⟩
    replace H : (if 0 ≤ (ji7) then (if 0 ≤ (Int.tmod a1 64) then (some ((Go.bits .and .u64 (shr .u64 (rd l0 (ji7)) (Int.tmod a1 64)) 1) == 1)) else (none)) else (none)) = some r := by first | (rw [hji7] at H; exact H) | (simp only [hji7] at H ⊢; exact H)
    (try rw [hji7] at c6b0)
    (try rw [hji7] at A3)
    have hji7w : (IntKind.i64.wrap (Int.tdiv a1 64)) = ji7 := (i64_w _).trans hji7
    by_cases c8 : 0 ≤ (ji7)
    ·
     rw [if_pos c8] at H
     have c8b0 : decide (0 ≤ (ji7)) = true := decide_eq_true c8
     clear c8
     obtain ⟨ji9, hji9⟩ : ∃ j_ : Int, (Int.tmod a1 64) = j_ := ⟨_, rfl⟩
     replace H : (if 0 ≤ (ji9) then (some ((Go.bits .and .u64 (shr .u64 (rd l0 (ji7)) (ji9)) 1) == 1)) else (none)) = some r := by first | (rw [hji9] at H; exact H) | (simp only [hji9] at H ⊢; exact H)
     (try rw [hji9] at A3)
     by_cases c10 : 0 ≤ (ji9)
     ·
      rw [if_pos c10] at H
      have c10b0 := eq_true c10
      have c10b1 : decide (0 ≤ (ji9)) = true := decide_eq_true c10
      clear c10
      obtain ⟨ji11, hji11⟩ : ∃ j_ : Int, (shr .u64 (rd l0 (ji7)) (ji9)) = j_ := ⟨_, rfl⟩
      replace H : (some ((Go.bits .and .u64 (ji11) 1) == 1)) = some r := by first | (rw [hji11] at H; exact H) | (simp only [hji11] at H ⊢; exact H)
      (try rw [hji11] at A3)
      have hji11_ : ((rd l0 (ji7)) / 2 ^ min (ji9).toNat 64) = ji11 := hji11
      have hji11z : (ji9) ≤ 64 → ((rd l0 (ji7)) / 2 ^ (ji9).toNat) = ji11 := shr_small hji11
      obtain rfl := Option.some.inj H
      go_enter Try.func49, Try.ntmps49
      go_wp2_with (first | ((with_reducible refine gate_callee (f := 47) rfl ?_); refine goesL_ (some 6) rfl rfl Try.func47 (by kernel_rfl) rfl #[.slice A0 l0.length c0] rfl uM ?_; (with_reducible refine (nat_Right.calls _ _ l0 true _ ?side1 ?side2 A3.out).mono ?_); (case side1 => exact uC HR0.out); (case side2 => exact HC0.out); rintro e w' ⟨rfl, ⟨nd, rfl⟩⟩; refine ⟨_, rfl, ?_⟩; have p563 : 0 ≤ ((ji7) : Int) := of_decide_eq_true (by first | (with_reducible assumption) | assumption); have q563 : (ji7) < (l0.length : Int) := of_decide_eq_true (by first | (with_reducible assumption) | assumption); obtain ⟨ad563, e563, hx563_0⟩ := Kd.at_int HR0.out (ji7) p563 q563; cases e563; replace p563 := eq_true p563; replace q563 := eq_true q563))
      go_ret
      exact ⟨by first | rfl | (simp; done) | (simp only [← hji7, ← hji9, ← hji11] <;> (first | rfl | simp)) | (simp [*]; done), by repeat (first | exact Drawn0.refl _ | apply Drawn0.step)⟩
     ·
      rw [if_neg c10] at H
      exact absurd H (by simp)
    ·
     rw [if_neg c8] at H
     exact absurd H (by simp)
   ·
    rw [if_neg c6] at H
    have c6b0 : decide ((wrap64 (Int.tdiv a1 64)) < (l0.length : Int)) = false := decide_eq_false c6
    clear c6
    obtain rfl := Option.some.inj H
    go_enter Try.func49, Try.ntmps49
    go_wp2_with (first | ((with_reducible refine gate_callee (f := 47) rfl ?_); refine goesL_ (some 6) rfl rfl Try.func47 (by kernel_rfl) rfl #[.slice A0 l0.length c0] rfl uM ?_; (with_reducible refine (nat_Right.calls _ _ l0 true _ ?side1 ?side2 A3.out).mono ?_); (case side1 => exact uC HR0.out); (case side2 => exact HC0.out); rintro e w' ⟨rfl, ⟨nd, rfl⟩⟩; refine ⟨_, rfl, ?_⟩))
    go_ret
    exact ⟨by first | rfl | (simp; done) | (simp [*]; done), by repeat (first | exact Drawn0.refl _ | apply Drawn0.step)⟩
  ·
   rw [if_neg c5] at H
   have c5b0 : decide (0 ≤ a1) = false := decide_eq_false c5
   clear c5
   obtain rfl := Option.some.inj H
   go_enter Try.func49, Try.ntmps49
   go_wp2_with (first | ((with_reducible refine gate_callee (f := 47) rfl ?_); refine goesL_ (some 6) rfl rfl Try.func47 (by kernel_rfl) rfl #[.slice A0 l0.length c0] rfl uM ?_; (with_reducible refine (nat_Right.calls _ _ l0 true _ ?side1 ?side2 A3.out).mono ?_); (case side1 => exact uC HR0.out); (case side2 => exact HC0.out); rintro e w' ⟨rfl, ⟨nd, rfl⟩⟩; refine ⟨_, rfl, ?_⟩))
   go_ret
   exact ⟨by first | rfl | (simp; done) | (simp [*]; done), by repeat (first | exact Drawn0.refl _ | apply Drawn0.step)⟩
 ·
  replace c4 := Bool.eq_false_iff.mpr c4
  subst c4
  have H1 : (some false) = some r := by rw [if_neg (show ¬ (false = true) by decide)] at H; exact H
  clear H; have H := H1; clear H1
  obtain rfl := Option.some.inj H
  go_enter Try.func49, Try.ntmps49
  go_wp2_with (first | ((with_reducible refine gate_callee (f := 47) rfl ?_); refine goesL_ (some 6) rfl rfl Try.func47 (by kernel_rfl) rfl #[.slice A0 l0.length c0] rfl uM ?_; (with_reducible refine (nat_Right.calls _ _ l0 false _ ?side1 ?side2 A3.out).mono ?_); (case side1 => exact uC HR0.out); (case side2 => exact HC0.out); rintro e w' ⟨rfl, ⟨nd, rfl⟩⟩; refine ⟨_, rfl, ?_⟩))
  go_ret
  exact ⟨by first | rfl | (simp; done) | (simp [*]; done), by repeat (first | exact Drawn0.refl _ | apply Drawn0.step)⟩

end Go.Proofs.Ytgeanpnkllnipab.F
end

section
namespace Go.Proofs.Ytgeanpnkllnipab.F
open Go.RowKit Go.Proofs.YtgeanpnkllnipabW.PrintWords Go.Proofs.YtgeanpnkllnipabW.PrintLast Go.Proofs.YtgeanpnkllnipabW.PrintMore
attribute [local go_sem] max2_int min2_int max_two min_two max_three min_three max_four min_four
set_option linter.unusedVariables false
set_option linter.unusedSimpArgs false

mutual
def nat_Shr.j0 : Nat → List Int → Int → Bool → Option (List Int × Int)
 | 0, _, _, _ => none
 | k + 1, x0, x1, x9 => if x9 = true then (some (([] : List Int), 1)) else (if (wrap64 (Int.tdiv x1 64)) ≥ (x0.length : Int) then (some (([] : List Int), 0)) else (if 0 ≤ (wrap64 (Int.tdiv x1 64)) then (if (wrap64 (Int.tdiv x1 64)) ≤ (x0.length : Int) then (if 0 ≤ ((x0.drop ((wrap64 (Int.tdiv x1 64)) : Int).toNat).length : Int) then (if (((x0.drop ((wrap64 (Int.tdiv x1 64)) : Int).toNat).length : Int) : Int).toNat ≤ 35184372088832 then (nat_Shr.l0 k (x0.drop ((wrap64 (Int.tdiv x1 64)) : Int).toNat) (IntKind.u64.wrap (Int.tmod x1 64)) (List.replicate (((x0.drop ((wrap64 (Int.tdiv x1 64)) : Int).toNat).length : Int) : Int).toNat 0) ((x0.drop ((wrap64 (Int.tdiv x1 64)) : Int).toNat).length : Int) 0) else (none)) else (none)) else (none)) else (none)))
def nat_Shr.l0 : Nat → List Int → Int → List Int → Int → Int → Option (List Int × Int)
 | 0, _, _, _, _, _ => none
 | k + 1, x0, x6, x7, x34, x35 => if x35 < x34 then (if 0 ≤ x35 then (if x35 < (x0.length : Int) then (if 0 ≤ x6 then (if x35 < (x7.length : Int) then ((some (x7.set (x35 : Int).toNat (shr .u64 (rd x0 x35) x6) : List Int)).bind fun y603 => (if x6 > 0 then (if (wrap64 (x35 + 1)) < (x0.length : Int) then (if 0 ≤ (wrap64 (x35 + 1)) then (if 0 ≤ (IntKind.u64.wrap (64 - x6)) then (nat_Shr.l0 k x0 x6 (y603.set (x35 : Int).toNat (Go.bits .or .u64 (rd y603 x35) (shl .u64 (rd x0 (wrap64 (x35 + 1))) (IntKind.u64.wrap (64 - x6))))) x34 (wrap64 (x35 + 1))) else (none)) else (none)) else (nat_Shr.l0 k x0 x6 y603 x34 (wrap64 (x35 + 1)))) else (nat_Shr.l0 k x0 x6 y603 x34 (wrap64 (x35 + 1))))) else (none)) else (none)) else (none)) else (none)) else ((nat_told.f k x7).bind fun bt607 => (some (bt607.1, bt607.2)))
end
def nat_Shr.f (k : Nat) (l0 : List Int) (a1 : Int) : Option (List Int × Int) := (nat_Right.f l0).bind fun t597 => (if t597 = true then (nat_Shr.j0 k l0 a1 (decide (a1 < 0))) else (nat_Shr.j0 k l0 a1 true))
def nat_Shr.T13 : Bool × List (List Nat × List Nat) := (true, [([], []), ([], []), ([0, 1], [0, 1]), ([2], [2]), ([], []), ([], []), ([5], [5]), ([4, 6], [4, 6]), ([7], [7]), ([], []), ([9], [9]), ([8, 10], [8, 10]), ([3, 11], [3, 11]), ([0, 1, 0, 1, 2, 3, 4, 5, 6, 7, 8, 9, 10, 11, 12], [0, 1]), ([13, 12, 0, 1, 2, 3, 4, 5, 6, 7, 8, 9, 10, 11, 12], [12, 13])])
def nat_Shr.B13 : List Nat := [0, 0, 3, 7, 0, 0, 32, 112, 240, 0, 512, 2032, 4095, 8191, 16383]
theorem nat_Shr.tab13 : rtab .any (opsOf Try.f128 13) = nat_Shr.T13 := by kernel_rfl
theorem nat_Shr.bits13 : waitsOk nat_Shr.T13.2 nat_Shr.B13 = true := by kernel_rfl
set_option maxHeartbeats 8000000 in
set_option maxRecDepth 100000 in
theorem nat_Shr.calls (k : Nat) (A0 : Option Addr) (c0 : Nat) (l0 : List Int) (a1 : Int) (r1 : List Int) (r2 : Int) (w : World) (hr0 : Kd.C (Kd.int .u64) w A0 l0.length l0) (hc0 : l0.length ≤ c0) (h : nat_Shr.f k l0 a1 = some (r1, r2)) :
  Calls Try.prog 128 #[.slice A0 l0.length c0, .int .i64 a1] w fun e w' => ∃ v0_ : Value, e = .returned (.tuple #[v0_, .int .i64 r2]) ∧ Kd.R (Kd.int .u64) 27 w' w.heap.size (fun _ => True) v0_ r1 ∧ Below w.heap.size w w' := by
 have HR0 := Aside0.mk hr0; have HC0 := Aside0.mk hc0; clear hr0 hc0
 have HB := Aside0.mk (Below.refl w.heap.size w)
 have H : ((nat_Right.f l0).bind fun t597 => (if t597 = true then (nat_Shr.j0 k l0 a1 (decide (a1 < 0))) else (nat_Shr.j0 k l0 a1 true))) = some (r1, r2) := h
 clear h; have HC3 := Aside0.mk H; clear H
 go_enter Try.func128, Try.ntmps128
 go_upto_region 1 with (fail)
 go_cut [9] (fun v9 wc => ∃ (kq : Nat) (x9_2 : Bool), v9 = .bool x9_2 ∧ Aside0 (nat_Shr.j0 kq l0 a1 x9_2 = some (r1, r2)) ∧ Aside0 (kq ≤ k) ∧ Aside0 (Below w.heap.size w wc))
 case first =>
  have H := HC3.out
  clear HC3
  replace H := Option.bind_eq_some_iff.mp H
  obtain ⟨t597, A40, H⟩ := H
  replace H : (if t597 = true then (nat_Shr.j0 k l0 a1 (decide (a1 < 0))) else (nat_Shr.j0 k l0 a1 true)) = some (r1, r2) := H
  have A4 := Aside0.mk A40; clear A40
  by_cases c5 : t597 = true
  ·
   subst c5
   have H1 : (nat_Shr.j0 k l0 a1 (decide (a1 < 0))) = some (r1, r2) := by rw [if_pos rfl] at H; exact H
   clear H; have H := H1; clear H1
   have H' := Aside0.mk H
   clear H
   go_wp2_with (first | ((with_reducible refine gate_callee (f := 47) rfl ?_); refine goesL_ (some 11) rfl rfl Try.func47 (by kernel_rfl) rfl #[.slice A0 l0.length c0] rfl uM ?_; (with_reducible refine (nat_Right.calls _ _ l0 true _ ?side1 ?side2 A4.out).mono ?_); (case side1 => exact uC (Kd.C_below HR0.out HB.out)); (case side2 => exact HC0.out); rintro e w' ⟨rfl, ⟨nd, rfl⟩⟩; refine ⟨_, rfl, ?_⟩))
   go_meet
   case rel => exact ⟨_, (decide (a1 < 0)), (by first | rfl | (simp; done) | (simp [*]; done)), H', ⟨by first | omega | exact Nat.le_refl _⟩, ⟨uB⟩⟩
  ·
   replace c5 := Bool.eq_false_iff.mpr c5
   subst c5
   have H1 : (nat_Shr.j0 k l0 a1 true) = some (r1, r2) := by rw [if_neg (show ¬ (false = true) by decide)] at H; exact H
   clear H; have H := H1; clear H1
   have H' := Aside0.mk H
   clear H
   go_wp2_with (first | ((with_reducible refine gate_callee (f := 47) rfl ?_); refine goesL_ (some 11) rfl rfl Try.func47 (by kernel_rfl) rfl #[.slice A0 l0.length c0] rfl uM ?_; (with_reducible refine (nat_Right.calls _ _ l0 false _ ?side1 ?side2 A4.out).mono ?_); (case side1 => exact uC (Kd.C_below HR0.out HB.out)); (case side2 => exact HC0.out); rintro e w' ⟨rfl, ⟨nd, rfl⟩⟩; refine ⟨_, rfl, ?_⟩))
   go_meet
   case rel => exact ⟨_, (true), (by first | rfl | (simp; done) | (simp [*]; done)), H', ⟨by first | omega | exact Nat.le_refl _⟩, ⟨uB⟩⟩
 case rest =>
  clear HC3
  try clear c1
  try clear p2
  try clear c4
  try clear c5
  obtain ⟨kq, x9_2, rfl, HA, HJ2, HB⟩ := hcut
  cases kq with
  | zero => exact absurd HA.out (by simp [nat_Shr.j0])
  | succ kj2 =>
   have H := HA.out
   clear HA
   simp only [nat_Shr.j0] at H
   by_cases c6 : x9_2 = true
   ·
    subst c6
    have H1 : (some (([] : List Int), 1)) = some (r1, r2) := by rw [if_pos rfl] at H; exact H
    clear H; have H := H1; clear H1
    simp only [Option.some.injEq, Prod.mk.injEq] at H
    obtain ⟨rfl, rfl⟩ := H
    go_wp2
    go_ret2
    exact ⟨_, by first | rfl | (simp [errW_none, errW_some] <;> rfl) | (simp [*, errW_none, errW_some] <;> rfl), by first | exact Kd.R_nil _ _ _ _ _ | exact Kd.N_nil _ _ _ _ _ | exact Kd.V_nil _ _ _ _ _ | exact Kd.Q_nil _ _ _ _ _ | exact Kd.S_nil _ _ _ _ _, uB⟩
   ·
    replace c6 := Bool.eq_false_iff.mpr c6
    subst c6
    have H1 : (if (wrap64 (Int.tdiv a1 64)) ≥ (l0.length : Int) then (some (([] : List Int), 0)) else (if 0 ≤ (wrap64 (Int.tdiv a1 64)) then (if (wrap64 (Int.tdiv a1 64)) ≤ (l0.length : Int) then (if 0 ≤ ((l0.drop ((wrap64 (Int.tdiv a1 64)) : Int).toNat).length : Int) then (if (((l0.drop ((wrap64 (Int.tdiv a1 64)) : Int).toNat).length : Int) : Int).toNat ≤ 35184372088832 then (nat_Shr.l0 kj2 (l0.drop ((wrap64 (Int.tdiv a1 64)) : Int).toNat) (IntKind.u64.wrap (Int.tmod a1 64)) (List.replicate (((l0.drop ((wrap64 (Int.tdiv a1 64)) : Int).toNat).length : Int) : Int).toNat 0) ((l0.drop ((wrap64 (Int.tdiv a1 64)) : Int).toNat).length : Int) 0) else (none)) else (none)) else (none)) else (none))) = some (r1, r2) := by rw [if_neg (show ¬ (false = true) by decide)] at H; exact H
    clear H; have H := H1; clear H1
    by_cases c7 : (wrap64 (Int.tdiv a1 64)) ≥ (l0.length : Int)
    ·
     rw [if_pos c7] at H
     have c7b0 : decide ((l0.length : Int) ≤ (wrap64 (Int.tdiv a1 64))) = true := decide_eq_true c7
     clear c7
     simp only [Option.some.injEq, Prod.mk.injEq] at H
     obtain ⟨rfl, rfl⟩ := H
     go_wp2
     go_ret2
     exact ⟨_, by first | rfl | (simp [errW_none, errW_some] <;> rfl) | (simp [*, errW_none, errW_some] <;> rfl), by first | exact Kd.R_nil _ _ _ _ _ | exact Kd.N_nil _ _ _ _ _ | exact Kd.V_nil _ _ _ _ _ | exact Kd.Q_nil _ _ _ _ _ | exact Kd.S_nil _ _ _ _ _, uB⟩
    ·
     rw [if_neg c7] at H
     have c7b0 : decide ((l0.length : Int) ≤ (wrap64 (Int.tdiv a1 64))) = false := decide_eq_false c7
     clear c7
     obtain ⟨ji8, hji8⟩ : ∃ j_ : Int, (wrap64 (Int.tdiv a1 64)) = j_ := ⟨_, rfl⟩
     replace H : (if 0 ≤ (ji8) then (if (ji8) ≤ (l0.length : Int) then (if 0 ≤ ((l0.drop ((ji8) : Int).toNat).length : Int) then (if (((l0.drop ((ji8) : Int).toNat).length : Int) : Int).toNat ≤ 35184372088832 then (nat_Shr.l0 kj2 (l0.drop ((ji8) : Int).toNat) (IntKind.u64.wrap (Int.tmod a1 64)) (List.replicate (((l0.drop ((ji8) : Int).toNat).length : Int) : Int).toNat 0) ((l0.drop ((ji8) : Int).toNat).length : Int) 0) else (none)) else (none)) else (none)) else (none)) = some (r1, r2) := by first | (rw [hji8] at H; exact H) | (simp only [hji8] at H ⊢; exact H)
     (try rw [hji8] at c7b0)
     have hji8w : (IntKind.i64.wrap (Int.tdiv a1 64)) = ji8 := (i64_w _).trans hji8
     by_cases c9 : 0 ≤ (ji8)
     ·
      rw [if_pos c9] at H
      have c9b0 := eq_true c9
      have c9b1 : decide (0 ≤ (ji8)) = true := decide_eq_true c9
      clear c9
      by_cases c10 : (ji8) ≤ (l0.length : Int)
      ·
       rw [if_pos c10] at H
       have c10b0 := eq_true c10
       have c10b1 : decide ((ji8) ≤ (l0.length : Int)) = true := decide_eq_true c10
       clear c10
       by_cases c11 : 0 ≤ ((l0.drop ((ji8) : Int).toNat).length : Int)
       ·
        rw [if_pos c11] at H
        have c11b0 := eq_true c11
        have c11b1 : decide (0 ≤ ((l0.drop ((ji8) : Int).toNat).length : Int)) = true := decide_eq_true c11
        clear c11
        by_cases c12 : (((l0.drop ((ji8) : Int).toNat).length : Int) : Int).toNat ≤ 35184372088832
        ·
         rw [if_pos c12] at H
         have c12b0 := eq_true c12
         have c12b1 : decide ((((l0.drop ((ji8) : Int).toNat).length : Int) : Int).toNat ≤ 35184372088832) = true := decide_eq_true c12
         clear c12
         obtain ⟨y599, hy599⟩ : ∃ y_ : List Int, y_ = (List.replicate (((l0.drop ((ji8) : Int).toNat).length : Int) : Int).toNat 0) := ⟨_, rfl⟩
         replace H : (nat_Shr.l0 kj2 (l0.drop ((ji8) : Int).toNat) (IntKind.u64.wrap (Int.tmod a1 64)) y599 ((l0.drop ((ji8) : Int).toNat).length : Int) 0) = some (r1, r2) := by first | (rw [hy599]; with_reducible exact H) | (have H2_ := (Option.bind_some _ _).symm.trans H; rw [hy599]; with_reducible exact H2_) | (have H2_ := (Option.bind_some _ _).symm.trans H; with_reducible exact H2_) | with_reducible exact H | (rw [hy599]; exact H) | exact H
         have Ny599 := Aside0.mk hy599; clear hy599
         have H' := Aside0.mk H
         clear H
         obtain ⟨i013, hi013, _, hsz13, _⟩ := info_parts info27
         obtain ⟨A13, hcut13, hA13, hC13⟩ := print_drop_of (P := Try.prog) (Value.int .u64) 0 23 27 .i64 Try.underlying23 hi013 hsz13 A0 c0 l0 (ji8) (of_decide_eq_true (by first | (with_reducible assumption) | assumption)) (of_decide_eq_true (by first | (with_reducible assumption) | assumption)) HC0.out
         have HR598 := Aside0.mk (Kd.C_of_reads (h1 := fun _ => rfl) (hA13 _ (Kd.reads_of_C HR0.out)))
         have HC598 := Aside0.mk hC13; clear hA13 hC13 hi013 hsz13
         go_wp2_with (first | ((with_reducible refine gate_dst (N := 32) rfl ?_); (try (refine gate_guard (by rfl) ?_; dsimp only)); refine Kd.R_make (Kd.int .u64) _ 27 rfl (N := 32) rfl 23 _ _ rfl ((l0.drop ((ji8) : Int).toNat).length : Int) (by first | rfl | (simp only [List.length_drop, List.length_take]; rfl) | (simp; done)) (by first | rfl | (simp only [List.length_drop, List.length_take]; rfl) | (simp; done)) Try.underlying23 (.int .u64 0) 8 info27 rfl (by decide) (by omega) 0 (ok := fun _ => True) (okp := fun _ => True) rfl (fun _ hk => hk) trivial (of_decide_eq_true (by first | (with_reducible assumption) | assumption)) (Nat.le_trans (Nat.mul_le_mul_right _ (of_decide_eq_true (by first | (with_reducible assumption) | assumption) : ((l0.drop ((ji8) : Int).toNat).length : Int).toNat ≤ 35184372088832)) (by omega)) (Below.refl _ _) (Nat.le_refl _) ?_; intro v600 w14 ho15 hb hg_ hnew_; clear hg_ hnew_; (first | rw [← Ny599.out] at ho15 | (simp only [Int.reduceToNat] at ho15; rw [← Ny599.out] at ho15)); have n0_ := Aside0.mk (Kd.R_lower ho15 (below_size uB)); have n1_ := Aside0.mk (below_step uB hb); clear HB; have HO601 := n0_; have HB := n1_; clear n0_ n1_; clear hb ho15))
         go_loopg [35] kj2 (fun kq v35 w' => ∃ (x7_2 : List Int) (x35_2 : Int), v35 = .int .i64 x35_2 ∧ Aside0 (nat_Shr.l0 kq (l0.drop ((ji8) : Int).toNat) (IntKind.u64.wrap (Int.tmod a1 64)) x7_2 ((l0.drop ((ji8) : Int).toNat).length : Int) x35_2 = some (r1, r2)) ∧ Aside0 (kq ≤ kj2) ∧ Aside0 (Kd.R (Kd.int .u64) 27 w' w.heap.size (fun _ => True) v600 x7_2) ∧ Aside0 (Below w.heap.size w w'))
         case atStart => exact ⟨(y599), (0), (by first | rfl | (simp; done) | (simp [*]; done)), H', ⟨Nat.le_refl _⟩, ⟨uR HO601.out⟩, ⟨uB⟩⟩
         case round =>
          clear H'
          try clear c1
          try clear p2
          try clear c4
          try clear c5
          try clear c6
          try clear p6
          try clear c7
          try clear c7b0
          try clear c9
          try clear c9b0
          try clear c9b1
          try clear c10
          try clear c10b0
          try clear c10b1
          try clear c11
          try clear c11b0
          try clear c11b1
          try clear c12
          try clear c12b0
          try clear c12b1
          try clear p2
          obtain ⟨x7_2, x35_2, rfl, HA, HK2, HO_7, HB⟩ := hrel
          cases gk with
          | zero => exact absurd HA.out (by simp [nat_Shr.l0])
          | succ k2 =>
           have H := HA.out
           clear HA
           simp only [nat_Shr.l0] at H
           by_cases c16 : x35_2 < ((l0.drop ((ji8) : Int).toNat).length : Int)
           ·
            rw [if_pos c16] at H
            have c16b0 : decide (x35_2 < ((l0.drop ((ji8) : Int).toNat).length : Int)) = true := decide_eq_true c16
            (try (have c16b0z := c16b0; simp only [List.length_drop, List.length_take] at c16b0z))
            clear c16
            by_cases c17 : 0 ≤ x35_2
            ·
             rw [if_pos c17] at H
             have c17b0 : decide (0 ≤ x35_2) = true := decide_eq_true c17
             clear c17
             by_cases c18 : x35_2 < ((l0.drop ((ji8) : Int).toNat).length : Int)
             ·
              rw [if_pos c18] at H
              have c18b0 : decide (x35_2 < ((l0.drop ((ji8) : Int).toNat).length : Int)) = true := decide_eq_true c18
              (try (have c18b0z := c18b0; simp only [List.length_drop, List.length_take] at c18b0z))
              clear c18
              obtain ⟨ji19, hji19⟩ : ∃ j_ : Int, (IntKind.u64.wrap (Int.tmod a1 64)) = j_ := ⟨_, rfl⟩
              replace H : (if 0 ≤ (ji19) then (if x35_2 < (x7_2.length : Int) then ((some (x7_2.set (x35_2 : Int).toNat (shr .u64 (rd (l0.drop ((ji8) : Int).toNat) x35_2) (ji19)) : List Int)).bind fun y603 => (if (ji19) > 0 then (if (wrap64 (x35_2 + 1)) < ((l0.drop ((ji8) : Int).toNat).length : Int) then (if 0 ≤ (wrap64 (x35_2 + 1)) then (if 0 ≤ (IntKind.u64.wrap (64 - (ji19))) then (nat_Shr.l0 k2 (l0.drop ((ji8) : Int).toNat) (ji19) (y603.set (x35_2 : Int).toNat (Go.bits .or .u64 (rd y603 x35_2) (shl .u64 (rd (l0.drop ((ji8) : Int).toNat) (wrap64 (x35_2 + 1))) (IntKind.u64.wrap (64 - (ji19)))))) ((l0.drop ((ji8) : Int).toNat).length : Int) (wrap64 (x35_2 + 1))) else (none)) else (none)) else (nat_Shr.l0 k2 (l0.drop ((ji8) : Int).toNat) (ji19) y603 ((l0.drop ((ji8) : Int).toNat).length : Int) (wrap64 (x35_2 + 1)))) else (nat_Shr.l0 k2 (l0.drop ((ji8) : Int).toNat) (ji19) y603 ((l0.drop ((ji8) : Int).toNat).length : Int) (wrap64 (x35_2 + 1))))) else (none)) else (none)) = some (r1, r2) := by first | (rw [hji19] at H; exact H) | (simp only [hji19] at H ⊢; exact H)
              by_cases c20 : 0 ≤ (ji19)
              ·
               rw [if_pos c20] at H
               have c20b0 := eq_true c20
               have c20b1 : decide (0 ≤ (ji19)) = true := decide_eq_true c20
               clear c20
               obtain ⟨ji21, hji21⟩ : ∃ j_ : Int, (shr .u64 (rd (l0.drop ((ji8) : Int).toNat) x35_2) (ji19)) = j_ := ⟨_, rfl⟩
               replace H : (if x35_2 < (x7_2.length : Int) then ((some (x7_2.set (x35_2 : Int).toNat (ji21) : List Int)).bind fun y603 => (if (ji19) > 0 then (if (wrap64 (x35_2 + 1)) < ((l0.drop ((ji8) : Int).toNat).length : Int) then (if 0 ≤ (wrap64 (x35_2 + 1)) then (if 0 ≤ (IntKind.u64.wrap (64 - (ji19))) then (nat_Shr.l0 k2 (l0.drop ((ji8) : Int).toNat) (ji19) (y603.set (x35_2 : Int).toNat (Go.bits .or .u64 (rd y603 x35_2) (shl .u64 (rd (l0.drop ((ji8) : Int).toNat) (wrap64 (x35_2 + 1))) (IntKind.u64.wrap (64 - (ji19)))))) ((l0.drop ((ji8) : Int).toNat).length : Int) (wrap64 (x35_2 + 1))) else (none)) else (none)) else (nat_Shr.l0 k2 (l0.drop ((ji8) : Int).toNat) (ji19) y603 ((l0.drop ((ji8) : Int).toNat).length : Int) (wrap64 (x35_2 + 1)))) else (nat_Shr.l0 k2 (l0.drop ((ji8) : Int).toNat) (ji19) y603 ((l0.drop ((ji8) : Int).toNat).length : Int) (wrap64 (x35_2 + 1))))) else (none)) = some (r1, r2) := by first | (rw [hji21] at H; exact H) | (simp only [hji21] at H ⊢; exact H)
               have hji21_ : ((rd (l0.drop ((ji8) : Int).toNat) x35_2) / 2 ^ min (ji19).toNat 64) = ji21 := hji21
               have hji21z : (ji19) ≤ 64 → ((rd (l0.drop ((ji8) : Int).toNat) x35_2) / 2 ^ (ji19).toNat) = ji21 := shr_small hji21
               by_cases c22 : x35_2 < (x7_2.length : Int)
               ·
                rw [if_pos c22] at H
                have c22b0 : decide (x35_2 < (x7_2.length : Int)) = true := decide_eq_true c22
                clear c22
                obtain ⟨y603, hy603⟩ : ∃ y_ : List Int, y_ = (x7_2.set (x35_2 : Int).toNat (ji21)) := ⟨_, rfl⟩
                replace H : (if (ji19) > 0 then (if (wrap64 (x35_2 + 1)) < ((l0.drop ((ji8) : Int).toNat).length : Int) then (if 0 ≤ (wrap64 (x35_2 + 1)) then (if 0 ≤ (IntKind.u64.wrap (64 - (ji19))) then (nat_Shr.l0 k2 (l0.drop ((ji8) : Int).toNat) (ji19) (y603.set (x35_2 : Int).toNat (Go.bits .or .u64 (rd y603 x35_2) (shl .u64 (rd (l0.drop ((ji8) : Int).toNat) (wrap64 (x35_2 + 1))) (IntKind.u64.wrap (64 - (ji19)))))) ((l0.drop ((ji8) : Int).toNat).length : Int) (wrap64 (x35_2 + 1))) else (none)) else (none)) else (nat_Shr.l0 k2 (l0.drop ((ji8) : Int).toNat) (ji19) y603 ((l0.drop ((ji8) : Int).toNat).length : Int) (wrap64 (x35_2 + 1)))) else (nat_Shr.l0 k2 (l0.drop ((ji8) : Int).toNat) (ji19) y603 ((l0.drop ((ji8) : Int).toNat).length : Int) (wrap64 (x35_2 + 1)))) = some (r1, r2) := by first | (rw [hy603]; with_reducible exact H) | (have H2_ := (Option.bind_some _ _).symm.trans H; rw [hy603]; with_reducible exact H2_) | (have H2_ := (Option.bind_some _ _).symm.trans H; with_reducible exact H2_) | with_reducible exact H | (rw [hy603]; exact H) | exact H
                have Ny603 := Aside0.mk hy603; clear hy603
                by_cases c24 : (ji19) > 0
                ·
                 rw [if_pos c24] at H
                 have c24b0 : decide (0 < (ji19)) = true := decide_eq_true c24
                 clear c24
                 by_cases c25 : (wrap64 (x35_2 + 1)) < ((l0.drop ((ji8) : Int).toNat).length : Int)
                 ·
                  rw [if_pos c25] at H
                  have c25b0 : decide ((wrap64 (x35_2 + 1)) < ((l0.drop ((ji8) : Int).toNat).length : Int)) = true := decide_eq_true c25
                  (try (have c25b0z := c25b0; simp only [List.length_drop, List.length_take] at c25b0z))
                  clear c25
                  obtain ⟨ji26, hji26⟩ : ∃ j_ : Int, (wrap64 (x35_2 + 1)) = j_ := ⟨_, rfl⟩
                  replace H : (if 0 ≤ (ji26) then (if 0 ≤ (IntKind.u64.wrap (64 - (ji19))) then (nat_Shr.l0 k2 (l0.drop ((ji8) : Int).toNat) (ji19) (y603.set (x35_2 : Int).toNat (Go.bits .or .u64 (rd y603 x35_2) (shl .u64 (rd (l0.drop ((ji8) : Int).toNat) (ji26)) (IntKind.u64.wrap (64 - (ji19)))))) ((l0.drop ((ji8) : Int).toNat).length : Int) ji26) else (none)) else (none)) = some (r1, r2) := by first | (rw [hji26] at H; exact H) | (simp only [hji26] at H ⊢; exact H)
                  (try rw [hji26] at c25b0)
                  (try rw [hji26] at c25b0z)
                  have hji26w : (IntKind.i64.wrap (x35_2 + 1)) = ji26 := (i64_w _).trans hji26
                  by_cases c27 : 0 ≤ (ji26)
                  ·
                   rw [if_pos c27] at H
                   have c27b0 : decide (0 ≤ (ji26)) = true := decide_eq_true c27
                   clear c27
                   obtain ⟨ji28, hji28⟩ : ∃ j_ : Int, (IntKind.u64.wrap (64 - (ji19))) = j_ := ⟨_, rfl⟩
                   replace H : (if 0 ≤ (ji28) then (nat_Shr.l0 k2 (l0.drop ((ji8) : Int).toNat) (ji19) (y603.set (x35_2 : Int).toNat (Go.bits .or .u64 (rd y603 x35_2) (shl .u64 (rd (l0.drop ((ji8) : Int).toNat) (ji26)) (ji28)))) ((l0.drop ((ji8) : Int).toNat).length : Int) ji26) else (none)) = some (r1, r2) := by first | (rw [hji28] at H; exact H) | (simp only [hji28] at H ⊢; exact H)
                   by_cases c29 : 0 ≤ (ji28)
                   ·
                    rw [if_pos c29] at H
                    have c29b0 := eq_true c29
                    have c29b1 : decide (0 ≤ (ji28)) = true := decide_eq_true c29
                    clear c29
                    obtain ⟨ji30, hji30⟩ : ∃ j_ : Int, (shl .u64 (rd (l0.drop ((ji8) : Int).toNat) (ji26)) (ji28)) = j_ := ⟨_, rfl⟩
                    replace H : (nat_Shr.l0 k2 (l0.drop ((ji8) : Int).toNat) (ji19) (y603.set (x35_2 : Int).toNat (Go.bits .or .u64 (rd y603 x35_2) (ji30))) ((l0.drop ((ji8) : Int).toNat).length : Int) ji26) = some (r1, r2) := by first | (rw [hji30] at H; exact H) | (simp only [hji30] at H ⊢; exact H)
                    have hji30_ : (IntKind.u64.wrap ((rd (l0.drop ((ji8) : Int).toNat) (ji26)) * 2 ^ min (ji28).toNat 64)) = ji30 := hji30
                    have hji30z : (ji28) ≤ 64 → (IntKind.u64.wrap ((rd (l0.drop ((ji8) : Int).toNat) (ji26)) * 2 ^ (ji28).toNat)) = ji30 := shl_small hji30
                    obtain ⟨y606, hy606⟩ : ∃ y_ : List Int, y_ = (y603.set (x35_2 : Int).toNat (Go.bits .or .u64 (rd y603 x35_2) (ji30))) := ⟨_, rfl⟩
                    replace H : (nat_Shr.l0 k2 (l0.drop ((ji8) : Int).toNat) (ji19) y606 ((l0.drop ((ji8) : Int).toNat).length : Int) ji26) = some (r1, r2) := by first | (rw [hy606]; with_reducible exact H) | (have H2_ := (Option.bind_some _ _).symm.trans H; rw [hy606]; with_reducible exact H2_) | (have H2_ := (Option.bind_some _ _).symm.trans H; with_reducible exact H2_) | with_reducible exact H | (rw [hy606]; exact H) | exact H
                    have Ny606 := Aside0.mk hy606; clear hy606
                    have H' := Aside0.mk H
                    clear H
                    have p602 : 0 ≤ (x35_2 : Int) := of_decide_eq_true (by first | (with_reducible assumption) | assumption)
                    have q602 : x35_2 < ((l0.drop ((ji8) : Int).toNat).length : Int) := of_decide_eq_true (by first | (with_reducible assumption) | assumption)
                    obtain ⟨ad602, e602, hx602_0⟩ := Kd.at_int HR598.out x35_2 p602 q602
                    cases e602
                    replace hx602_0 := (HB.out.cell (World.block_lt_of_cell? w _ hx602_0)).trans hx602_0
                    replace p602 := eq_true p602
                    replace q602 := eq_true q602
                    (try (have q602z := q602; simp only [List.length_drop, List.length_take] at q602z))
                    have p23 : 0 ≤ (x35_2 : Int) := of_decide_eq_true (by first | (with_reducible assumption) | assumption)
                    have q23 : (x35_2 : Int) < ((x7_2.length : Int) : Int) := of_decide_eq_true (by first | (with_reducible assumption) | assumption)
                    obtain ⟨go23, co23, eo23, gb23, gl23, cl23, HG23⟩ := Kd.R_form HO_7.out (by omega)
                    (first | cases eo23 | (injection eo23 with ea_ en_ ec_; (first | subst ea_ | (injection ea_ with ea_; subst ea_)); subst ec_; clear en_))
                    have GB23 := Aside0.mk gb23; have GG23 := Aside0.mk HG23; clear gb23 gl23 HG23
                    obtain ⟨hx23_0, hf23_0⟩ := Kd.R_celln 0 HO_7.out (x35_2 : Int) p23 q23
                    replace p23 := eq_true p23
                    replace q23 := eq_true q23
                    have HP32 := Kd.R_putg HO_7.out (x35_2 : Int) ji21
                    try go_wp2_with (first | ((with_reducible refine gate_store (t := 27) (p := 46) rfl ?_); refine store_event (t := 27) (p := 46) (v := ?vo_w33) (w1 := (wr.setCell ⟨go23, (x35_2 : Int).toNat, none⟩ (.int .u64 ji21))) ?hg ?ho ?hn ?hr ?_; (case ho => rfl); (case hg => rfl); (case hn => rfl); (case hr => first | (go_simp; done) | (go_simp; rfl) | (obtain ⟨hy_, hz_⟩ := Kd.R_celln 0 HO_7.out (x35_2 : Int) (of_decide_eq_true (by first | (with_reducible assumption) | assumption)) (of_decide_eq_true (by first | (with_reducible assumption) | assumption)); (try simp only [Go.IntWalk.toNatUp] at hy_ hz_); (try simp only [Int.reduceToNat, Int.toNat_zero, Int.toNat_ofNat] at hy_ hz_); first | (go_simp; done) | (go_simp; rfl))); intro w33 hw; have hg : wr.grownBy w33 (some go23) := (by rw [hw]; exact HP32.2); have hp_ : Kd.R (Kd.int .u64) 27 w33 w.heap.size (fun _ => True) (.slice (some ⟨go23, 0, none⟩) x7_2.length co23) y603 := (by rw [hw, Ny603.out]; exact HP32.1); clear HP32; have n0_ := Aside0.mk (hp_); have n1_ := Aside0.mk ((by rw [hw]; exact below_set (HB.out) GB23.out : Below w.heap.size w w33)); clear HO_7; clear HB; have HO_7 := n0_; have HB := n1_; clear n0_ n1_; clear hg hw hp_))
                    have n0_ := Aside0.mk (Kd.R_drew HO_7.out)
                    have n1_ := Aside0.mk (below_drew1 HB.out)
                    clear HO_7; clear HB; have HO_7 := n0_; have HB := n1_; clear n0_ n1_
                    have p604 : 0 ≤ (x35_2 : Int) := of_decide_eq_true (by first | (with_reducible assumption) | assumption)
                    have q604 : x35_2 < (y603.length : Int) := (by have h_ : (x35_2 : Int) < ((x7_2.length : Int) : Int) := of_decide_eq_true (by first | (with_reducible assumption) | assumption); first | (have e_ := (Kd.R_reads' HO_7.out).1; omega) | simpa only [Ny603.out, List.length_set] using h_)
                    have ql604 : ((x35_2 : Int) < ((x7_2.length : Int) : Int)) = True := eq_true (of_decide_eq_true (by first | (with_reducible assumption) | assumption))
                    obtain ⟨ad604, e604, hx604_0⟩ := Kd.at_int (Kd.R_reads' HO_7.out).2.2 x35_2 p604 q604
                    obtain rfl : (⟨go23, 0, none⟩ : Addr) = ad604 := (by injection e604)
                    (first | simp only [add_plain] at hx604_0 | simp only [add_at] at hx604_0 | simp only [Addr.add, Nat.zero_add] at hx604_0 | skip)
                    replace p604 := eq_true p604
                    replace q604 := eq_true q604
                    have p605 : 0 ≤ ((ji26) : Int) := of_decide_eq_true (by first | (with_reducible assumption) | assumption)
                    have q605 : (ji26) < ((l0.drop ((ji8) : Int).toNat).length : Int) := of_decide_eq_true (by first | (with_reducible assumption) | assumption)
                    obtain ⟨ad605, e605, hx605_0⟩ := Kd.at_int HR598.out (ji26) p605 q605
                    have hw605_0 := hx605_0
                    obtain rfl : ad602 = ad605 := (by injection e605)
                    replace hx605_0 := (HB.out.cell (World.block_lt_of_cell? w _ hx605_0)).trans hx605_0
                    replace p605 := eq_true p605
                    replace q605 := eq_true q605
                    (try (have q605z := q605; simp only [List.length_drop, List.length_take] at q605z))
                    have p31 : 0 ≤ (x35_2 : Int) := of_decide_eq_true (by first | (with_reducible assumption) | assumption)
                    have q31 : (x35_2 : Int) < ((x7_2.length : Int) : Int) := of_decide_eq_true (by first | (with_reducible assumption) | assumption)
                    obtain ⟨hx31_0, hf31_0⟩ := Kd.R_celln 0 HO_7.out (x35_2 : Int) p31 q31
                    replace p31 := eq_true p31
                    replace q31 := eq_true q31
                    have HP35 := Kd.R_putn HO_7.out (x35_2 : Int) (Go.bits .or .u64 (rd y603 x35_2) (ji30))
                    rw [← Ny606.out] at HP35
                    have HQ35 := Aside0.mk HP35; clear HP35
                    refine start_ (n := 15) (S := fun w' => w'.cell? ⟨go23, (x35_2).toNat, none⟩ = some (.int .u64 (rd y603 x35_2)) ∧ w'.cell? (ad602.add ((ji26)).toNat) = some (.int .u64 (rd (l0.drop ((ji8) : Int).toNat) (ji26)))) (ds := [14]) #[false, false, false, false, false, false, false, false, false, false, false, false, false, false, false] (by kernel_rfl) rfl rfl ⟨hx604_0, ((HB.out.cell (World.block_lt_of_cell? w _ hw605_0)).trans hw605_0)⟩ (fun hHeld => ?_); refine with_tabW nat_Shr.tab13 nat_Shr.bits13 (fun HT_ HW_ => ?_)
                    generalize w33.drew = w34 at HO_7 HB HQ35 hf31_0 hx31_0 hx604_0 hx605_0 hHeld ⊢
                    refine pure_ (i := 0) (N := some 56) (v := ?_) (a' := ?_) #[true, false, false, false, false, false, false, false, false, false, false, false, false, false, false] rfl rfl (any_of HT_.out (by kernel_rfl)) (fun _ _ _ h => h) (Or.inl ⟨by rfl, ?_⟩) ?_ ?_
                    rotate_left
                    ·
                     intro w'
                     go_simp
                     with_reducible rfl
                    rotate_left
                    ·
                     simp only [Act.put, List.setIfInBounds_toArray, List.set_cons_zero, List.set_cons_succ, i64_w, i32_w]
                     rfl
                    refine pure_ (i := 1) (N := some 57) (v := ?_) (a' := ?_) #[true, true, false, false, false, false, false, false, false, false, false, false, false, false, false] rfl rfl (any_of HT_.out (by kernel_rfl)) (fun _ _ _ h => h) (Or.inl ⟨by rfl, ?_⟩) ?_ ?_
                    rotate_left
                    ·
                     intro w'
                     go_simp
                     with_reducible rfl
                    rotate_left
                    ·
                     simp only [Act.put, List.setIfInBounds_toArray, List.set_cons_zero, List.set_cons_succ, i64_w, i32_w]
                     rfl
                    refine pure_ (i := 2) (N := some 58) (v := ?_) (a' := ?_) #[true, true, true, false, false, false, false, false, false, false, false, false, false, false, false] rfl rfl (any_of HT_.out (by kernel_rfl)) (fun _ _ _ h => h) (Or.inl ⟨by rfl, ?_⟩) ?_ ?_
                    rotate_left
                    ·
                     intro w'
                     go_simp
                     with_reducible rfl
                    rotate_left
                    ·
                     simp only [Act.put, List.setIfInBounds_toArray, List.set_cons_zero, List.set_cons_succ, i64_w, i32_w]
                     rfl
                    refine pure_ (i := 4) (N := some 60) (v := ?_) (a' := ?_) #[true, true, true, false, true, false, false, false, false, false, false, false, false, false, false] rfl rfl (any_of HT_.out (by kernel_rfl)) (fun _ _ _ h => h) (Or.inl ⟨by rfl, ?_⟩) ?_ ?_
                    rotate_left
                    ·
                     intro w'
                     go_simp
                     with_reducible rfl
                    rotate_left
                    ·
                     simp only [Act.put, List.setIfInBounds_toArray, List.set_cons_zero, List.set_cons_succ, i64_w, i32_w]
                     rfl
                    refine pure_ (i := 5) (N := some 61) (v := ?_) (a' := ?_) #[true, true, true, false, true, true, false, false, false, false, false, false, false, false, false] rfl rfl (any_of HT_.out (by kernel_rfl)) (fun _ _ _ h => h) (Or.inl ⟨by rfl, ?_⟩) ?_ ?_
                    rotate_left
                    ·
                     intro w'
                     go_simp
                     with_reducible rfl
                    rotate_left
                    ·
                     simp only [Act.put, List.setIfInBounds_toArray, List.set_cons_zero, List.set_cons_succ, i64_w, i32_w]
                     rfl
                    refine pure_ (i := 6) (N := some 62) (v := ?_) (a' := ?_) #[true, true, true, false, true, true, true, false, false, false, false, false, false, false, false] rfl rfl (any_of HT_.out (by kernel_rfl)) (fun _ _ _ h => h) (Or.inl ⟨by rfl, ?_⟩) ?_ ?_
                    rotate_left
                    ·
                     intro w'
                     go_simp
                     with_reducible rfl
                    rotate_left
                    ·
                     simp only [Act.put, List.setIfInBounds_toArray, List.set_cons_zero, List.set_cons_succ, i64_w, i32_w]
                     rfl
                    refine pure_ (i := 7) (N := some 63) (v := ?_) (a' := ?_) #[true, true, true, false, true, true, true, true, false, false, false, false, false, false, false] rfl rfl (any_of HT_.out (by kernel_rfl)) (fun _ _ _ h => h) (Or.inl ⟨by rfl, ?_⟩) ?_ ?_
                    rotate_left
                    ·
                     intro w'
                     go_simp
                     with_reducible rfl
                    rotate_left
                    ·
                     simp only [Act.put, List.setIfInBounds_toArray, List.set_cons_zero, List.set_cons_succ, i64_w, i32_w]
                     rfl
                    refine pure_ (i := 9) (N := some 65) (v := ?_) (a' := ?_) #[true, true, true, false, true, true, true, true, false, true, false, false, false, false, false] rfl rfl (any_of HT_.out (by kernel_rfl)) (fun _ _ _ h => h) (Or.inl ⟨by rfl, ?_⟩) ?_ ?_
                    rotate_left
                    ·
                     intro w'
                     go_simp
                     with_reducible rfl
                    rotate_left
                    ·
                     simp only [Act.put, List.setIfInBounds_toArray, List.set_cons_zero, List.set_cons_succ, i64_w, i32_w]
                     rfl
                    refine pure_ (i := 10) (N := some 66) (v := ?_) (a' := ?_) #[true, true, true, false, true, true, true, true, false, true, true, false, false, false, false] rfl rfl (any_of HT_.out (by kernel_rfl)) (fun _ _ _ h => h) (Or.inl ⟨by rfl, ?_⟩) ?_ ?_
                    rotate_left
                    ·
                     intro w'
                     go_simp
                     with_reducible rfl
                    rotate_left
                    ·
                     simp only [Act.put, List.setIfInBounds_toArray, List.set_cons_zero, List.set_cons_succ, i64_w, i32_w]
                     rfl
                    refine take_ (i := 3) (N := some 59) (v := ?_) (a' := ?_) #[true, true, true, true, true, true, true, true, false, true, true, false, false, false, false] rfl rfl (take_ofW HT_.out HW_.out (by kernel_rfl)) (fun _ _ _ h => h) (Or.inl ⟨by rfl, ?_⟩) hHeld ?_ ?_
                    rotate_left
                    ·
                     rintro w' ⟨s0, s1⟩
                     go_simp
                     with_reducible rfl
                    rotate_left
                    ·
                     simp only [Act.put, List.setIfInBounds_toArray, List.set_cons_zero, List.set_cons_succ, i64_w, i32_w]
                     rfl
                    refine take_ (i := 8) (N := some 64) (v := ?_) (a' := ?_) #[true, true, true, true, true, true, true, true, true, true, true, false, false, false, false] rfl rfl (take_ofW HT_.out HW_.out (by kernel_rfl)) (fun _ _ _ h => h) (Or.inl ⟨by rfl, ?_⟩) hHeld ?_ ?_
                    rotate_left
                    ·
                     rintro w' ⟨s0, s1⟩
                     go_simp
                     with_reducible rfl
                    rotate_left
                    ·
                     simp only [Act.put, List.setIfInBounds_toArray, List.set_cons_zero, List.set_cons_succ, i64_w, i32_w]
                     rfl
                    refine pure_ (i := 11) (N := some 67) (v := ?_) (a' := ?_) #[true, true, true, true, true, true, true, true, true, true, true, true, false, false, false] rfl rfl (any_of HT_.out (by kernel_rfl)) (fun _ _ _ h => h) (Or.inl ⟨by rfl, ?_⟩) ?_ ?_
                    rotate_left
                    ·
                     intro w'
                     go_simp
                     with_reducible rfl
                    rotate_left
                    ·
                     simp only [Act.put, List.setIfInBounds_toArray, List.set_cons_zero, List.set_cons_succ, i64_w, i32_w]
                     rfl
                    refine pure_ (i := 12) (N := some 68) (v := ?_) (a' := ?_) #[true, true, true, true, true, true, true, true, true, true, true, true, true, false, false] rfl rfl (any_of HT_.out (by kernel_rfl)) (fun _ _ _ h => h) (Or.inl ⟨by rfl, ?_⟩) ?_ ?_
                    rotate_left
                    ·
                     intro w'
                     go_simp
                     with_reducible rfl
                    rotate_left
                    ·
                     simp only [Act.put, List.setIfInBounds_toArray, List.set_cons_zero, List.set_cons_succ, i64_w, i32_w]
                     rfl
                    refine pure_ (i := 13) (N := some 69) (v := ?_) (a' := ?_) #[true, true, true, true, true, true, true, true, true, true, true, true, true, true, false] rfl rfl (any_of HT_.out (by kernel_rfl)) (fun _ _ _ h => h) (Or.inl ⟨by rfl, ?_⟩) ?_ ?_
                    rotate_left
                    ·
                     intro w'
                     go_simp
                     with_reducible rfl
                    rotate_left
                    ·
                     simp only [Act.put, List.setIfInBounds_toArray, List.set_cons_zero, List.set_cons_succ, i64_w, i32_w]
                     rfl
                    refine last_ (i := 14) (N := none) #[true, true, true, true, true, true, true, true, true, true, true, true, true, true, true] rfl rfl (one_of HT_.out (by kernel_rfl)) (by decide) (fun K hK => ?_)
                    refine skip_ (w1 := ?_) (by rfl) rfl ?_ ?_
                    rotate_left
                    ·
                     go_simp
                     rfl
                    refine hK.out _ _ ?_
                    clear hK K
                    refine done_ (done_of HT_.out (by kernel_rfl)) ?_
                    try go_wp2
                    first | go_roundg k2 | ((try simp only [← hji30] at H'); simp only [← hji30]; go_roundg k2) | ((try simp only [← hji28] at H'); simp only [← hji28]; go_roundg k2) | ((try simp only [← hji26] at H'); simp only [← hji26]; go_roundg k2) | ((try simp only [← hji21] at H'); simp only [← hji21]; go_roundg k2) | ((try simp only [← hji19] at H'); simp only [← hji19]; go_roundg k2) | ((try simp only [← hji8] at H'); simp only [← hji8]; go_roundg k2)
                    case measure => have := HJ2.out; have := HK2.out; omega
                    case rel => first | exact ⟨(y606), (ji26), (by first | rfl | (simp; done) | (simp only [← hji26] <;> (first | rfl | simp)) | (simp [*]; done)), H', ⟨by have := HJ2.out; have := HK2.out; omega⟩, ⟨uR HQ35.out⟩, ⟨uB⟩⟩ | (simp only [← hji30] at H'; exact ⟨(y606), (ji26), (by first | rfl | (simp; done) | (simp only [← hji26] <;> (first | rfl | simp)) | (simp [*]; done)), H', ⟨by have := HJ2.out; have := HK2.out; omega⟩, ⟨uR HQ35.out⟩, ⟨uB⟩⟩) | (simp only [← hji28] at H'; exact ⟨(y606), (ji26), (by first | rfl | (simp; done) | (simp only [← hji26] <;> (first | rfl | simp)) | (simp [*]; done)), H', ⟨by have := HJ2.out; have := HK2.out; omega⟩, ⟨uR HQ35.out⟩, ⟨uB⟩⟩) | (simp only [← hji26] at H'; exact ⟨(y606), (ji26), (by first | rfl | (simp; done) | (simp only [← hji26] <;> (first | rfl | simp)) | (simp [*]; done)), H', ⟨by have := HJ2.out; have := HK2.out; omega⟩, ⟨uR HQ35.out⟩, ⟨uB⟩⟩) | (simp only [← hji21] at H'; exact ⟨(y606), (ji26), (by first | rfl | (simp; done) | (simp only [← hji26] <;> (first | rfl | simp)) | (simp [*]; done)), H', ⟨by have := HJ2.out; have := HK2.out; omega⟩, ⟨uR HQ35.out⟩, ⟨uB⟩⟩) | (simp only [← hji19] at H'; exact ⟨(y606), (ji26), (by first | rfl | (simp; done) | (simp only [← hji26] <;> (first | rfl | simp)) | (simp [*]; done)), H', ⟨by have := HJ2.out; have := HK2.out; omega⟩, ⟨uR HQ35.out⟩, ⟨uB⟩⟩) | (simp only [← hji8] at H'; exact ⟨(y606), (ji26), (by first | rfl | (simp; done) | (simp only [← hji26] <;> (first | rfl | simp)) | (simp [*]; done)), H', ⟨by have := HJ2.out; have := HK2.out; omega⟩, ⟨uR HQ35.out⟩, ⟨uB⟩⟩)
                   ·
                    rw [if_neg c29] at H
                    exact absurd H (by simp)
                  ·
                   rw [if_neg c27] at H
                   exact absurd H (by simp)
                 ·
                  rw [if_neg c25] at H
                  have c25b0 : decide ((wrap64 (x35_2 + 1)) < ((l0.drop ((ji8) : Int).toNat).length : Int)) = false := decide_eq_false c25
                  (try (have c25b0z := c25b0; simp only [List.length_drop, List.length_take] at c25b0z))
                  clear c25
                  have H' := Aside0.mk H
                  clear H
                  have p602 : 0 ≤ (x35_2 : Int) := of_decide_eq_true (by first | (with_reducible assumption) | assumption)
                  have q602 : x35_2 < ((l0.drop ((ji8) : Int).toNat).length : Int) := of_decide_eq_true (by first | (with_reducible assumption) | assumption)
                  obtain ⟨ad602, e602, hx602_0⟩ := Kd.at_int HR598.out x35_2 p602 q602
                  cases e602
                  replace hx602_0 := (HB.out.cell (World.block_lt_of_cell? w _ hx602_0)).trans hx602_0
                  replace p602 := eq_true p602
                  replace q602 := eq_true q602
                  (try (have q602z := q602; simp only [List.length_drop, List.length_take] at q602z))
                  have p23 : 0 ≤ (x35_2 : Int) := of_decide_eq_true (by first | (with_reducible assumption) | assumption)
                  have q23 : (x35_2 : Int) < ((x7_2.length : Int) : Int) := of_decide_eq_true (by first | (with_reducible assumption) | assumption)
                  obtain ⟨go23, co23, eo23, gb23, gl23, cl23, HG23⟩ := Kd.R_form HO_7.out (by omega)
                  (first | cases eo23 | (injection eo23 with ea_ en_ ec_; (first | subst ea_ | (injection ea_ with ea_; subst ea_)); subst ec_; clear en_))
                  have GB23 := Aside0.mk gb23; have GG23 := Aside0.mk HG23; clear gb23 gl23 HG23
                  obtain ⟨hx23_0, hf23_0⟩ := Kd.R_celln 0 HO_7.out (x35_2 : Int) p23 q23
                  replace p23 := eq_true p23
                  replace q23 := eq_true q23
                  have HP36 := Kd.R_putg HO_7.out (x35_2 : Int) ji21
                  go_wp2_with (first | ((with_reducible refine gate_store (t := 27) (p := 46) rfl ?_); refine store_event (t := 27) (p := 46) (v := ?vo_w37) (w1 := (wr.setCell ⟨go23, (x35_2 : Int).toNat, none⟩ (.int .u64 ji21))) ?hg ?ho ?hn ?hr ?_; (case ho => rfl); (case hg => rfl); (case hn => rfl); (case hr => first | (go_simp; done) | (go_simp; rfl) | (obtain ⟨hy_, hz_⟩ := Kd.R_celln 0 HO_7.out (x35_2 : Int) (of_decide_eq_true (by first | (with_reducible assumption) | assumption)) (of_decide_eq_true (by first | (with_reducible assumption) | assumption)); (try simp only [Go.IntWalk.toNatUp] at hy_ hz_); (try simp only [Int.reduceToNat, Int.toNat_zero, Int.toNat_ofNat] at hy_ hz_); first | (go_simp; done) | (go_simp; rfl))); intro w37 hw; have hg : wr.grownBy w37 (some go23) := (by rw [hw]; exact HP36.2); have hp_ : Kd.R (Kd.int .u64) 27 w37 w.heap.size (fun _ => True) (.slice (some ⟨go23, 0, none⟩) x7_2.length co23) y603 := (by rw [hw, Ny603.out]; exact HP36.1); clear HP36; have n0_ := Aside0.mk (hp_); have n1_ := Aside0.mk ((by rw [hw]; exact below_set (HB.out) GB23.out : Below w.heap.size w w37)); clear HO_7; clear HB; have HO_7 := n0_; have HB := n1_; clear n0_ n1_; clear hg hw hp_))
                  first | go_roundg k2 | ((try simp only [← hji30] at H'); simp only [← hji30]; go_roundg k2) | ((try simp only [← hji28] at H'); simp only [← hji28]; go_roundg k2) | ((try simp only [← hji26] at H'); simp only [← hji26]; go_roundg k2) | ((try simp only [← hji21] at H'); simp only [← hji21]; go_roundg k2) | ((try simp only [← hji19] at H'); simp only [← hji19]; go_roundg k2) | ((try simp only [← hji8] at H'); simp only [← hji8]; go_roundg k2)
                  case measure => have := HJ2.out; have := HK2.out; omega
                  case rel => first | exact ⟨(y603), (wrap64 (x35_2 + 1)), (by first | rfl | (simp; done) | (simp [*]; done)), H', ⟨by have := HJ2.out; have := HK2.out; omega⟩, ⟨uR HO_7.out⟩, ⟨uB⟩⟩ | (simp only [← hji30] at H'; exact ⟨(y603), (wrap64 (x35_2 + 1)), (by first | rfl | (simp; done) | (simp [*]; done)), H', ⟨by have := HJ2.out; have := HK2.out; omega⟩, ⟨uR HO_7.out⟩, ⟨uB⟩⟩) | (simp only [← hji28] at H'; exact ⟨(y603), (wrap64 (x35_2 + 1)), (by first | rfl | (simp; done) | (simp [*]; done)), H', ⟨by have := HJ2.out; have := HK2.out; omega⟩, ⟨uR HO_7.out⟩, ⟨uB⟩⟩) | (simp only [← hji26] at H'; exact ⟨(y603), (wrap64 (x35_2 + 1)), (by first | rfl | (simp; done) | (simp [*]; done)), H', ⟨by have := HJ2.out; have := HK2.out; omega⟩, ⟨uR HO_7.out⟩, ⟨uB⟩⟩) | (simp only [← hji21] at H'; exact ⟨(y603), (wrap64 (x35_2 + 1)), (by first | rfl | (simp; done) | (simp [*]; done)), H', ⟨by have := HJ2.out; have := HK2.out; omega⟩, ⟨uR HO_7.out⟩, ⟨uB⟩⟩) | (simp only [← hji19] at H'; exact ⟨(y603), (wrap64 (x35_2 + 1)), (by first | rfl | (simp; done) | (simp [*]; done)), H', ⟨by have := HJ2.out; have := HK2.out; omega⟩, ⟨uR HO_7.out⟩, ⟨uB⟩⟩) | (simp only [← hji8] at H'; exact ⟨(y603), (wrap64 (x35_2 + 1)), (by first | rfl | (simp; done) | (simp [*]; done)), H', ⟨by have := HJ2.out; have := HK2.out; omega⟩, ⟨uR HO_7.out⟩, ⟨uB⟩⟩)
                ·
                 rw [if_neg c24] at H
                 have c24b0 : decide (0 < (ji19)) = false := decide_eq_false c24
                 clear c24
                 have H' := Aside0.mk H
                 clear H
                 have p602 : 0 ≤ (x35_2 : Int) := of_decide_eq_true (by first | (with_reducible assumption) | assumption)
                 have q602 : x35_2 < ((l0.drop ((ji8) : Int).toNat).length : Int) := of_decide_eq_true (by first | (with_reducible assumption) | assumption)
                 obtain ⟨ad602, e602, hx602_0⟩ := Kd.at_int HR598.out x35_2 p602 q602
                 cases e602
                 replace hx602_0 := (HB.out.cell (World.block_lt_of_cell? w _ hx602_0)).trans hx602_0
                 replace p602 := eq_true p602
                 replace q602 := eq_true q602
                 (try (have q602z := q602; simp only [List.length_drop, List.length_take] at q602z))
                 have p23 : 0 ≤ (x35_2 : Int) := of_decide_eq_true (by first | (with_reducible assumption) | assumption)
                 have q23 : (x35_2 : Int) < ((x7_2.length : Int) : Int) := of_decide_eq_true (by first | (with_reducible assumption) | assumption)
                 obtain ⟨go23, co23, eo23, gb23, gl23, cl23, HG23⟩ := Kd.R_form HO_7.out (by omega)
                 (first | cases eo23 | (injection eo23 with ea_ en_ ec_; (first | subst ea_ | (injection ea_ with ea_; subst ea_)); subst ec_; clear en_))
                 have GB23 := Aside0.mk gb23; have GG23 := Aside0.mk HG23; clear gb23 gl23 HG23
                 obtain ⟨hx23_0, hf23_0⟩ := Kd.R_celln 0 HO_7.out (x35_2 : Int) p23 q23
                 replace p23 := eq_true p23
                 replace q23 := eq_true q23
                 have HP38 := Kd.R_putg HO_7.out (x35_2 : Int) ji21
                 go_wp2_with (first | ((with_reducible refine gate_store (t := 27) (p := 46) rfl ?_); refine store_event (t := 27) (p := 46) (v := ?vo_w39) (w1 := (wr.setCell ⟨go23, (x35_2 : Int).toNat, none⟩ (.int .u64 ji21))) ?hg ?ho ?hn ?hr ?_; (case ho => rfl); (case hg => rfl); (case hn => rfl); (case hr => first | (go_simp; done) | (go_simp; rfl) | (obtain ⟨hy_, hz_⟩ := Kd.R_celln 0 HO_7.out (x35_2 : Int) (of_decide_eq_true (by first | (with_reducible assumption) | assumption)) (of_decide_eq_true (by first | (with_reducible assumption) | assumption)); (try simp only [Go.IntWalk.toNatUp] at hy_ hz_); (try simp only [Int.reduceToNat, Int.toNat_zero, Int.toNat_ofNat] at hy_ hz_); first | (go_simp; done) | (go_simp; rfl))); intro w39 hw; have hg : wr.grownBy w39 (some go23) := (by rw [hw]; exact HP38.2); have hp_ : Kd.R (Kd.int .u64) 27 w39 w.heap.size (fun _ => True) (.slice (some ⟨go23, 0, none⟩) x7_2.length co23) y603 := (by rw [hw, Ny603.out]; exact HP38.1); clear HP38; have n0_ := Aside0.mk (hp_); have n1_ := Aside0.mk ((by rw [hw]; exact below_set (HB.out) GB23.out : Below w.heap.size w w39)); clear HO_7; clear HB; have HO_7 := n0_; have HB := n1_; clear n0_ n1_; clear hg hw hp_))
                 first | go_roundg k2 | ((try simp only [← hji30] at H'); simp only [← hji30]; go_roundg k2) | ((try simp only [← hji28] at H'); simp only [← hji28]; go_roundg k2) | ((try simp only [← hji26] at H'); simp only [← hji26]; go_roundg k2) | ((try simp only [← hji21] at H'); simp only [← hji21]; go_roundg k2) | ((try simp only [← hji19] at H'); simp only [← hji19]; go_roundg k2) | ((try simp only [← hji8] at H'); simp only [← hji8]; go_roundg k2)
                 case measure => have := HJ2.out; have := HK2.out; omega
                 case rel => first | exact ⟨(y603), (wrap64 (x35_2 + 1)), (by first | rfl | (simp; done) | (simp [*]; done)), H', ⟨by have := HJ2.out; have := HK2.out; omega⟩, ⟨uR HO_7.out⟩, ⟨uB⟩⟩ | (simp only [← hji30] at H'; exact ⟨(y603), (wrap64 (x35_2 + 1)), (by first | rfl | (simp; done) | (simp [*]; done)), H', ⟨by have := HJ2.out; have := HK2.out; omega⟩, ⟨uR HO_7.out⟩, ⟨uB⟩⟩) | (simp only [← hji28] at H'; exact ⟨(y603), (wrap64 (x35_2 + 1)), (by first | rfl | (simp; done) | (simp [*]; done)), H', ⟨by have := HJ2.out; have := HK2.out; omega⟩, ⟨uR HO_7.out⟩, ⟨uB⟩⟩) | (simp only [← hji26] at H'; exact ⟨(y603), (wrap64 (x35_2 + 1)), (by first | rfl | (simp; done) | (simp [*]; done)), H', ⟨by have := HJ2.out; have := HK2.out; omega⟩, ⟨uR HO_7.out⟩, ⟨uB⟩⟩) | (simp only [← hji21] at H'; exact ⟨(y603), (wrap64 (x35_2 + 1)), (by first | rfl | (simp; done) | (simp [*]; done)), H', ⟨by have := HJ2.out; have := HK2.out; omega⟩, ⟨uR HO_7.out⟩, ⟨uB⟩⟩) | (simp only [← hji19] at H'; exact ⟨(y603), (wrap64 (x35_2 + 1)), (by first | rfl | (simp; done) | (simp [*]; done)), H', ⟨by have := HJ2.out; have := HK2.out; omega⟩, ⟨uR HO_7.out⟩, ⟨uB⟩⟩) | (simp only [← hji8] at H'; exact ⟨(y603), (wrap64 (x35_2 + 1)), (by first | rfl | (simp; done) | (simp [*]; done)), H', ⟨by have := HJ2.out; have := HK2.out; omega⟩, ⟨uR HO_7.out⟩, ⟨uB⟩⟩)
               ·
                rw [if_neg c22] at H
                exact absurd H (by simp)
              ·
               rw [if_neg c20] at H
               exact absurd H (by simp)
             ·
              rw [if_neg c18] at H
              exact absurd H (by simp)
            ·
             rw [if_neg c17] at H
             exact absurd H (by simp)
           ·
            rw [if_neg c16] at H
            have c16b0 : decide (x35_2 < ((l0.drop ((ji8) : Int).toNat).length : Int)) = false := decide_eq_false c16
            (try (have c16b0z := c16b0; simp only [List.length_drop, List.length_take] at c16b0z))
            clear c16
            replace H := Option.bind_eq_some_iff.mp H
            obtain ⟨⟨t607, t610⟩, A400, H⟩ := H
            replace H : (some (t607, t610)) = some (r1, r2) := H
            have A40 := Aside0.mk A400; clear A400
            simp only [Option.some.injEq, Prod.mk.injEq] at H
            obtain ⟨rfl, rfl⟩ := H
            obtain ⟨Ao41, co41, eo41⟩ := Kd.R_slice HO_7.out
            subst eo41
            go_wp2_with (first | ((with_reducible refine gate_callee (f := 116) rfl ?_); refine goesL_ (some 72) rfl rfl Try.func116 (by kernel_rfl) rfl #[.slice Ao41 x7_2.length co41] rfl uM ?_; (with_reducible refine (nat_told.calls k2 (fun k_ => some k_ = (.slice Ao41 x7_2.length co41 : Value).ownBlock) (.slice Ao41 x7_2.length co41) x7_2 t607 t610 w _ ?side1 ?side2 A40.out).mono ?_); (case side1 => repeat (first | (with_reducible first | exact HB.out | apply below_alloc | apply pw_below_drewN | apply below_drew1) | exact HB.out)); (case side2 => exact Kd.R_tight rfl HO_7.out); rintro e w42 ⟨v608, rfl, ho0, hb, hkp⟩; refine ⟨_, rfl, ?_⟩; have n0_ := Aside0.mk (Kd.R_mono (ok' := fun k_ => True) ho0 (fun k_ hk_ => trivial)); have n1_ := Aside0.mk (hb); clear HB; clear HO_7; have HO609 := n0_; have HB := n1_; clear n0_ n1_; (try clear hb); (try clear hkp); (try clear ho0)))
            go_ret2
            exact ⟨_, by first | rfl | (simp [errW_none, errW_some] <;> rfl) | (simp only [← hji8]; first | rfl | (simp [errW_none, errW_some] <;> rfl)) | (simp [*, errW_none, errW_some] <;> rfl), uR HO609.out, uB⟩
        ·
         rw [if_neg c12] at H
         exact absurd H (by simp)
       ·
        rw [if_neg c11] at H
        exact absurd H (by simp)
      ·
       rw [if_neg c10] at H
       exact absurd H (by simp)
     ·
      rw [if_neg c9] at H
      exact absurd H (by simp)

end Go.Proofs.Ytgeanpnkllnipab.F
end

section
namespace Go.Proofs.Ytgeanpnkllnipab.F
open Go.RowKit Go.Proofs.YtgeanpnkllnipabW.PrintWords Go.Proofs.YtgeanpnkllnipabW.PrintLast Go.Proofs.YtgeanpnkllnipabW.PrintMore
attribute [local go_sem] max2_int min2_int max_two min_two max_three min_three max_four min_four
set_option linter.unusedVariables false
set_option linter.unusedSimpArgs false

def fixenc_modulus_half.f (k : Nat) (l0 : List Int) : Option (List Int) := (nat_Shr.f k l0 1).bind fun bt611 => ((nat_Bit.f l0 0).bind fun t615 => (if t615 = true then (some bt611.1) else ((nat_Sub.f k bt611.1 (([1] : List Int))).bind fun bt619 => (some bt619.1))))
set_option maxHeartbeats 8000000 in
set_option maxRecDepth 100000 in
theorem fixenc_modulus_half.calls (k : Nat) (A0 : Option Addr) (c0 : Nat) (l0 : List Int) (r : List Int) (w : World) (hr0 : Kd.C (Kd.int .u64) w A0 l0.length l0) (hc0 : l0.length ≤ c0) (h : fixenc_modulus_half.f k l0 = some r) :
  Calls Try.prog 108 #[.slice A0 l0.length c0] w fun e w' => ∃ v0_ : Value, e = .returned (v0_) ∧ Kd.R (Kd.int .u64) 27 w' w.heap.size (fun _ => True) v0_ r ∧ Below w.heap.size w w' := by
 have HR0 := Aside0.mk hr0; have HC0 := Aside0.mk hc0; clear hr0 hc0
 have HB := Aside0.mk (Below.refl w.heap.size w)
 have H : ((nat_Shr.f k l0 1).bind fun bt611 => ((nat_Bit.f l0 0).bind fun t615 => (if t615 = true then (some bt611.1) else ((nat_Sub.f k bt611.1 (([1] : List Int))).bind fun bt619 => (some bt619.1))))) = some r := h
 clear h
 replace H := Option.bind_eq_some_iff.mp H
 obtain ⟨⟨t611, t612⟩, A20, H⟩ := H
 replace H : ((nat_Bit.f l0 0).bind fun t615 => (if t615 = true then (some t611) else ((nat_Sub.f k t611 (([1] : List Int))).bind fun bt619 => (some bt619.1)))) = some r := H
 have A2 := Aside0.mk A20; clear A20
 replace H := Option.bind_eq_some_iff.mp H
 obtain ⟨t615, A30, H⟩ := H
 replace H : (if t615 = true then (some t611) else ((nat_Sub.f k t611 (([1] : List Int))).bind fun bt619 => (some bt619.1))) = some r := H
 have A3 := Aside0.mk A30; clear A30
 by_cases c4 : t615 = true
 ·
  subst c4
  have H1 : (some t611) = some r := by rw [if_pos rfl] at H; exact H
  clear H; have H := H1; clear H1
  obtain rfl := Option.some.inj H
  go_enter Try.func108, Try.ntmps108
  go_wp2_with (first | ((with_reducible refine gate_callee (f := 128) rfl ?_); refine goesL_ (some 7) rfl rfl Try.func128 (by kernel_rfl) rfl #[.slice A0 l0.length c0, .int .i64 1] rfl uM ?_; (with_reducible refine (nat_Shr.calls k _ _ l0 1 t611 t612 _ ?side1 ?side2 A2.out).mono ?_); (case side1 => exact uC HR0.out); (case side2 => exact HC0.out); rintro e w5 ⟨v613, rfl, ho0, hb⟩; refine ⟨_, rfl, ?_⟩; have n0_ := Aside0.mk (Kd.R_lower ho0 (below_size uB)); have n1_ := Aside0.mk (below_step uB hb); clear HB; have HO614 := n0_; have HB := n1_; clear n0_ n1_; (try clear hb); (try clear hb2); (try clear hk); (try clear hi); (try clear ho0)) | ((with_reducible refine gate_callee (f := 49) rfl ?_); refine goesL_ (some 11) rfl rfl Try.func49 (by kernel_rfl) rfl #[.slice A0 l0.length c0, .int .i64 0] rfl uM ?_; (with_reducible refine (nat_Bit.calls _ _ l0 0 true _ ?side1 ?side2 A3.out).mono ?_); (case side1 => exact uC (Kd.C_below HR0.out HB.out)); (case side2 => exact HC0.out); rintro e w' ⟨rfl, ⟨nd, rfl⟩⟩; refine ⟨_, rfl, ?_⟩))
  go_ret
  exact ⟨_, by first | rfl | (simp [errW_none, errW_some] <;> rfl) | (simp [*, errW_none, errW_some] <;> rfl), uR HO614.out, uB⟩
 ·
  replace c4 := Bool.eq_false_iff.mpr c4
  subst c4
  have H1 : ((nat_Sub.f k t611 (([1] : List Int))).bind fun bt619 => (some bt619.1)) = some r := by rw [if_neg (show ¬ (false = true) by decide)] at H; exact H
  clear H; have H := H1; clear H1
  obtain ⟨y616, hy616⟩ : ∃ y_ : List Int, y_ = (([1] : List Int)) := ⟨_, rfl⟩
  replace H : ((nat_Sub.f k t611 y616).bind fun bt619 => (some bt619.1)) = some r := by first | (rw [hy616]; with_reducible exact H) | (have H2_ := (Option.bind_some _ _).symm.trans H; rw [hy616]; with_reducible exact H2_) | (have H2_ := (Option.bind_some _ _).symm.trans H; with_reducible exact H2_) | with_reducible exact H | (rw [hy616]; exact H) | exact H
  have Ny616 := Aside0.mk hy616; clear hy616
  replace H := Option.bind_eq_some_iff.mp H
  obtain ⟨⟨t619, t622⟩, A60, H⟩ := H
  replace H : (some t619) = some r := H
  have A6 := Aside0.mk A60; clear A60
  obtain rfl := Option.some.inj H
  go_enter Try.func108, Try.ntmps108
  go_wp2_with (first | ((with_reducible refine gate_callee (f := 128) rfl ?_); refine goesL_ (some 7) rfl rfl Try.func128 (by kernel_rfl) rfl #[.slice A0 l0.length c0, .int .i64 1] rfl uM ?_; (with_reducible refine (nat_Shr.calls k _ _ l0 1 t611 t612 _ ?side1 ?side2 A2.out).mono ?_); (case side1 => exact uC HR0.out); (case side2 => exact HC0.out); rintro e w7 ⟨v613, rfl, ho0, hb⟩; refine ⟨_, rfl, ?_⟩; have n0_ := Aside0.mk (Kd.R_lower ho0 (below_size uB)); have n1_ := Aside0.mk (below_step uB hb); clear HB; have HO614 := n0_; have HB := n1_; clear n0_ n1_; (try clear hb); (try clear hb2); (try clear hk); (try clear hi); (try clear ho0)) | ((with_reducible refine gate_callee (f := 49) rfl ?_); refine goesL_ (some 11) rfl rfl Try.func49 (by kernel_rfl) rfl #[.slice A0 l0.length c0, .int .i64 0] rfl uM ?_; (with_reducible refine (nat_Bit.calls _ _ l0 0 false _ ?side1 ?side2 A3.out).mono ?_); (case side1 => exact uC (Kd.C_below HR0.out HB.out)); (case side2 => exact HC0.out); rintro e w' ⟨rfl, ⟨nd, rfl⟩⟩; refine ⟨_, rfl, ?_⟩) | ((with_reducible refine gate_dst (N := 15) rfl ?_); refine Kd.R_lit (Kd.int .u64) _ 27 ?hg (N := 15) ?hd (xs := ([1] : List Int)) (inner := [.int .u64 1]) (ok := fun _ => True) (okp := fun _ => True) ?hr ?hp (fun _ hk => hk) trivial (Below.refl _ _) (Nat.le_refl _) (by simp) ?_; (case hd => rfl); (case hg => rfl); (case hr => first | (go_simp; done) | (go_simp; rfl) | (go_simp; simp only [u64_u8]; done) | (go_simp; simp only [u64_u8]; rfl)); (case hp => exact (Reps.one (show Kd.M (Kd.int .u64) _ _ _ 1 [.int .u64 1] from rfl) (Reps.none _ _))); intro v617 w8 ho9 hb hg_ hnew_; clear hg_ hnew_; (first | rw [← Ny616.out] at ho9 | (simp only [Int.reduceToNat] at ho9; rw [← Ny616.out] at ho9)); have n0_ := Aside0.mk (Kd.R_elder' (uR HO614.out) (Kd.R_base ho9) hb); have n1_ := Aside0.mk (Kd.R_lower (Kd.R_new' ho9 (Kd.R_lt (uR HO614.out))) (below_size uB)); have n2_ := Aside0.mk (below_step uB hb); clear HO614; clear HB; have HO614 := n0_; have HO618 := n1_; have HB := n2_; clear n0_ n1_ n2_; clear hb ho9; obtain ⟨Ao10, co10, eo10⟩ := Kd.R_slice HO614.out; subst eo10; obtain ⟨Ao11, co11, eo11⟩ := Kd.R_slice HO618.out; subst eo11) | ((with_reducible refine gate_callee (f := 80) rfl ?_); refine goesL_ (some 16) rfl rfl Try.func80 (by kernel_rfl) rfl #[.slice Ao10 t611.length co10, .slice Ao11 y616.length co11] rfl uM ?_; (with_reducible refine (nat_Sub.calls k (fun k_ => some k_ = (.slice Ao10 t611.length co10 : Value).ownBlock) _ _ t611 (fun k_ => some k_ = (.slice Ao11 y616.length co11 : Value).ownBlock) _ _ y616 t619 t622 _ ?side1 ?side2 A6.out).mono ?_); (case side1 => exact Kd.R_V (Kd.R_tight rfl (HO614.out))); (case side2 => exact Kd.R_V (Kd.R_tight rfl (HO618.out))); rintro e w12 ⟨v620, rfl, ho0, hb⟩; refine ⟨_, rfl, ?_⟩; have n0_ := Aside0.mk (Kd.R_elder' (uR HO614.out) (Kd.R_base ho0) hb); have n1_ := Aside0.mk (Kd.R_elder' (uR HO618.out) (Kd.R_base ho0) hb); have n2_ := Aside0.mk (Kd.R_lower (Kd.R_new' (Kd.R_new' (Kd.R_mono (ok' := fun k_ => True) ho0 (fun _ hk_ => trivial)) (Kd.R_lt (uR HO614.out))) (Kd.R_lt (uR HO618.out))) (below_size uB)); have n3_ := Aside0.mk (below_step uB hb); clear HO614; clear HO618; clear HB; have HO614 := n0_; have HO618 := n1_; have HO621 := n2_; have HB := n3_; clear n0_ n1_ n2_ n3_; (try clear hb); (try clear hb2); (try clear hk); (try clear hi); (try clear ho0)))
  go_ret
  exact ⟨_, by first | rfl | (simp [errW_none, errW_some] <;> rfl) | (simp [*, errW_none, errW_some] <;> rfl), by (with_reducible repeat (first | apply Kd.R_alloc | apply Kd.R_drewN | apply Kd.R_drew)); exact Kd.R_mono HO621.out (fun _ hk => trivial), uB⟩

end Go.Proofs.Ytgeanpnkllnipab.F
end

section
namespace Go.Proofs.Ytgeanpnkllnipab.F
open Go.RowKit Go.Proofs.YtgeanpnkllnipabW.PrintWords Go.Proofs.YtgeanpnkllnipabW.PrintLast Go.Proofs.YtgeanpnkllnipabW.PrintMore
set_option linter.unusedVariables false
set_option linter.unusedSimpArgs false
def fixenc_fits.f (k : Nat) (l0 : List Int) (l1 : List Int) : Option Bool := (fixenc_modulus_half.f k l0).bind fun t => (nat_Cmp.f k l1 t).bind fun c => some (decide (c ≤ 0))
set_option maxHeartbeats 8000000 in
set_option maxRecDepth 100000 in
theorem fixenc_fits.calls (k : Nat) (A0 : Option Addr) (c0 : Nat) (l0 : List Int) (A1 : Option Addr) (c1 : Nat) (l1 : List Int) (r : Bool) (w : World) (hr0 : Kd.C (Kd.int .u64) w A0 l0.length l0) (hc0 : l0.length ≤ c0) (hr1 : Kd.C (Kd.int .u64) w A1 l1.length l1) (hc1 : l1.length ≤ c1) (h : fixenc_fits.f k l0 l1 = some r) :
    Calls Try.prog 70 #[.slice A0 l0.length c0, .slice A1 l1.length c1] w fun e w' => e = .returned (.bool r) ∧ Below w.heap.size w w' := by
  unfold fixenc_fits.f at h
  cases ht : fixenc_modulus_half.f k l0 with
  | none => rw [ht] at h; simp at h
  | some t =>
    rw [ht] at h
    simp only [Option.bind_some] at h
    cases hcm : nat_Cmp.f k l1 t with
    | none => rw [hcm] at h; simp at h
    | some c =>
      rw [hcm] at h
      simp only [Option.bind_some, Option.some.injEq] at h
      subst h
      have HT := Aside0.mk ht
      have HM := Aside0.mk hcm
      have HC0 := Aside0.mk hr0
      have HC1 := Aside0.mk hr1
      have HL0 := Aside0.mk hc0
      have HL1 := Aside0.mk hc1
      clear ht hcm hr0 hr1 hc0 hc1
      go_enter Try.func70, Try.ntmps70
      go_wp2_with (first
        | (go_at_call 108; refine (fixenc_modulus_half.calls k A0 c0 l0 t w HC0.out HL0.out HT.out).mono ?_; rintro e w1 ⟨v1, rfl, ho, hb⟩; obtain ⟨Ao, co, eo⟩ := Kd.R_slice ho; subst eo; have HO := Aside0.mk ho; have HB := Aside0.mk hb; clear ho hb)
        | (go_at_call 82; refine (nat_Cmp.calls k (fun k_ => k_ < w1.heap.size) A1 c1 l1 (fun k_ => k_ < w1.heap.size) Ao co t c w1 (Kd.V_mk HL1.out (Kd.C_F (Kd.heap_int _) (Kd.C_below HC1.out HB.out))) (Kd.V_mk (Kd.R_reads' HO.out).2.1 (Kd.C_F (Kd.heap_int _) (Kd.R_reads' HO.out).2.2)) HM.out).mono ?_; rintro e w2 ⟨rfl, hb2⟩; have HB2 := Aside0.mk (below_step HB.out hb2); clear hb2))
      go_ret
      exact ⟨by simp, HB2.out⟩
end Go.Proofs.Ytgeanpnkllnipab.F
end

section
namespace Go.Proofs.Ytgeanpnkllnipab.F
open Go.RowKit Go.Proofs.YtgeanpnkllnipabW.PrintWords Go.Proofs.YtgeanpnkllnipabW.PrintLast Go.Proofs.YtgeanpnkllnipabW.PrintMore
attribute [local go_sem] max2_int min2_int max_two min_two max_three min_three max_four min_four
set_option linter.unusedVariables false
set_option linter.unusedSimpArgs false

def fixenc_Encode.j0 : Nat → List Int → Bool → Bool → List Int → Option (List Int × Int)
 | 0, _, _, _, _ => none
 | k + 1, x0, x6, x655000, x655001 => if x6 = true then (some (([] : List Int), 1)) else ((fixenc_fits.f k x0 x655001).bind fun t657 => (if t657 = true then (if x655000 = true then ((nat_Sub.f k x0 x655001).bind fun bt658 => (some (bt658.1, bt658.2))) else ((nat_Add.f k x655001 ([] : List Int)).bind fun bt662 => (some (bt662.1, bt662.2)))) else (some (([] : List Int), 12))))
def fixenc_Encode.f (k : Nat) (l0 : List Int) (a1_0 : Bool) (l1_1 : List Int) : Option (List Int × Int) := (fixenc_modulus_may.f k l0).bind fun t655 => (if t655 = true then ((modint_Right.f a1_0 l1_1).bind fun t656 => (fixenc_Encode.j0 k l0 (!t656) a1_0 l1_1)) else (fixenc_Encode.j0 k l0 true a1_0 l1_1))
set_option maxHeartbeats 8000000 in
set_option maxRecDepth 100000 in
theorem fixenc_Encode.calls (k : Nat) (A0 : Option Addr) (c0 : Nat) (l0 : List Int) (a1_0 : Bool) (A1_1 : Option Addr) (c1_1 : Nat) (l1_1 : List Int) (r1 : List Int) (r2 : Int) (w : World) (hr0 : Kd.C (Kd.int .u64) w A0 l0.length l0) (hc0 : l0.length ≤ c0) (hr1_1 : Kd.C (Kd.int .u64) w A1_1 l1_1.length l1_1) (hc1_1 : l1_1.length ≤ c1_1) (h : fixenc_Encode.f k l0 a1_0 l1_1 = some (r1, r2)) :
  Calls Try.prog 35 #[.slice A0 l0.length c0, .agg #[.bool a1_0, .slice A1_1 l1_1.length c1_1]] w fun e w' => ∃ v0_ : Value, e = .returned (.tuple #[v0_, .int .i64 r2]) ∧ Kd.R (Kd.int .u64) 27 w' w.heap.size (fun _ => True) v0_ r1 ∧ Below w.heap.size w w' := by
 have hu52 := Try.underlying52
 have HR0 := Aside0.mk hr0; have HC0 := Aside0.mk hc0; clear hr0 hc0; have HR1_1 := Aside0.mk hr1_1; have HC1_1 := Aside0.mk hc1_1; clear hr1_1 hc1_1
 have HB := Aside0.mk (Below.refl w.heap.size w)
 have H : ((fixenc_modulus_may.f k l0).bind fun t655 => (if t655 = true then ((modint_Right.f a1_0 l1_1).bind fun t656 => (fixenc_Encode.j0 k l0 (!t656) a1_0 l1_1)) else (fixenc_Encode.j0 k l0 true a1_0 l1_1))) = some (r1, r2) := h
 clear h; have HC3 := Aside0.mk H; clear H
 go_enter Try.func35, Try.ntmps35
 go_upto_region 1 with (first | ((with_reducible refine gate_dst (N := 3) rfl ?_); refine box_event ?hg (N := 3) ?hd (cs := #[.bool a1_0, .slice A1_1 l1_1.length c1_1]) (t := 52) ?hr ?_; (case hd => rfl); (case hg => rfl); (case hr => first | (go_simp; done) | (go_simp; rfl)); intro gb654 hg w4 hbox hb; have n0_ := Aside0.mk (below_step uB hb); have n1_ := Aside0.mk (hbox); have n2_ := Aside0.mk ((by rw [hg]; exact (below_size uB) : w.heap.size ≤ gb654)); have n3_ := Aside0.mk ((by rw [hg]; exact (below_size uB) : w.heap.size ≤ gb654)); clear HB; have HB := n0_; have BK654 := n1_; have GW654 := n2_; have GE654 := n3_; clear n0_ n1_ n2_ n3_; clear hb hbox hg))
 (try simp only [Act.put, List.setIfInBounds_toArray, List.set_cons_zero, List.set_cons_succ])
 go_cut [6] (fun v6 wc => ∃ (kq : Nat) (x6_2 : Bool), v6 = .bool x6_2 ∧ Aside0 (fixenc_Encode.j0 kq l0 x6_2 a1_0 l1_1 = some (r1, r2)) ∧ Aside0 (kq ≤ k) ∧ Aside0 (wc.heap[gb654]? = some (.cells #[.bool a1_0, (.slice A1_1 l1_1.length c1_1)] 52 (0, 0))) ∧ Aside0 (Below w.heap.size w wc))
 case first =>
  have H := HC3.out
  clear HC3
  replace H := Option.bind_eq_some_iff.mp H
  obtain ⟨t655, A50, H⟩ := H
  replace H : (if t655 = true then ((modint_Right.f a1_0 l1_1).bind fun t656 => (fixenc_Encode.j0 k l0 (!t656) a1_0 l1_1)) else (fixenc_Encode.j0 k l0 true a1_0 l1_1)) = some (r1, r2) := H
  have A5 := Aside0.mk A50; clear A50
  by_cases c6 : t655 = true
  ·
   subst c6
   have H1 : ((modint_Right.f a1_0 l1_1).bind fun t656 => (fixenc_Encode.j0 k l0 (!t656) a1_0 l1_1)) = some (r1, r2) := by rw [if_pos rfl] at H; exact H
   clear H; have H := H1; clear H1
   replace H := Option.bind_eq_some_iff.mp H
   obtain ⟨t656, A70, H⟩ := H
   replace H : (fixenc_Encode.j0 k l0 (!t656) a1_0 l1_1) = some (r1, r2) := H
   have A7 := Aside0.mk A70; clear A70
   have H' := Aside0.mk H
   clear H
   go_wp2_with (first | ((with_reducible refine gate_callee (f := 55) rfl ?_); refine goesL_ (some 8) rfl rfl Try.func55 (by kernel_rfl) rfl #[.slice A0 l0.length c0] rfl uM ?_; (with_reducible refine (fixenc_modulus_may.calls k _ _ l0 true _ ?side1 ?side2 A5.out).mono ?_); (case side1 => exact uC (Kd.C_below HR0.out HB.out)); (case side2 => exact HC0.out); rintro e w8 ⟨rfl, hb⟩; refine ⟨_, rfl, ?_⟩; have n0_ := Aside0.mk (blk_below (uK BK654.out) hb); have n1_ := Aside0.mk (below_step uB hb); clear BK654; clear HB; have BK654 := n0_; have HB := n1_; clear n0_ n1_; (try clear hb); (try clear hb2); (try clear hk); (try clear hi); have hcz9_0 : w8.cell? ⟨gb654, 0, none⟩ = some (.bool a1_0) := (blk_cell BK654.out 0).trans rfl; have hcz9_1 : w8.cell? ⟨gb654, 1, none⟩ = some (.slice A1_1 l1_1.length c1_1) := (blk_cell BK654.out 1).trans rfl; have hfz9_0 := blk_frozen BK654.out 0; have hfz9_1 := blk_frozen BK654.out 1) | (go_at_call 79; (with_reducible refine (modint_Right.calls a1_0 _ _ l1_1 t656 _ ?side1 ?side2 A7.out).mono ?_); (case side1 => exact uC (Kd.C_below HR1_1.out HB.out)); (case side2 => exact HC1_1.out); rintro e w10 ⟨rfl, hb⟩; have n0_ := Aside0.mk (blk_below (uK BK654.out) hb); have n1_ := Aside0.mk (below_step uB hb); clear BK654; clear HB; have BK654 := n0_; have HB := n1_; clear n0_ n1_; (try clear hb); (try clear hb2); (try clear hk); (try clear hi)))
   go_meet
   case rel => exact ⟨_, (!t656), (by first | rfl | (simp; done) | (simp [*]; done)), H', ⟨by first | omega | exact Nat.le_refl _⟩, ⟨uK BK654.out⟩, ⟨uB⟩⟩
  ·
   replace c6 := Bool.eq_false_iff.mpr c6
   subst c6
   have H1 : (fixenc_Encode.j0 k l0 true a1_0 l1_1) = some (r1, r2) := by rw [if_neg (show ¬ (false = true) by decide)] at H; exact H
   clear H; have H := H1; clear H1
   have H' := Aside0.mk H
   clear H
   go_wp2_with (first | ((with_reducible refine gate_callee (f := 55) rfl ?_); refine goesL_ (some 8) rfl rfl Try.func55 (by kernel_rfl) rfl #[.slice A0 l0.length c0] rfl uM ?_; (with_reducible refine (fixenc_modulus_may.calls k _ _ l0 false _ ?side1 ?side2 A5.out).mono ?_); (case side1 => exact uC (Kd.C_below HR0.out HB.out)); (case side2 => exact HC0.out); rintro e w11 ⟨rfl, hb⟩; refine ⟨_, rfl, ?_⟩; have n0_ := Aside0.mk (blk_below (uK BK654.out) hb); have n1_ := Aside0.mk (below_step uB hb); clear BK654; clear HB; have BK654 := n0_; have HB := n1_; clear n0_ n1_; (try clear hb); (try clear hb2); (try clear hk); (try clear hi)))
   go_meet
   case rel => exact ⟨_, (true), (by first | rfl | (simp; done) | (simp [*]; done)), H', ⟨by first | omega | exact Nat.le_refl _⟩, ⟨uK BK654.out⟩, ⟨uB⟩⟩
 case rest =>
  clear HC3
  try clear c1
  try clear p2
  try clear c3
  try clear c5
  try clear c6
  try clear hcz9_0
  try clear hcz9_1
  try clear hfz9_0
  try clear hfz9_1
  obtain ⟨kq, x6_2, rfl, HA, HJ2, BK654, HB⟩ := hcut
  cases kq with
  | zero => exact absurd HA.out (by simp [fixenc_Encode.j0])
  | succ kj2 =>
   have H := HA.out
   clear HA
   simp only [fixenc_Encode.j0] at H
   by_cases c12 : x6_2 = true
   ·
    subst c12
    have H1 : (some (([] : List Int), 1)) = some (r1, r2) := by rw [if_pos rfl] at H; exact H
    clear H; have H := H1; clear H1
    simp only [Option.some.injEq, Prod.mk.injEq] at H
    obtain ⟨rfl, rfl⟩ := H
    go_wp2
    go_ret2
    exact ⟨_, by first | rfl | (simp [errW_none, errW_some] <;> rfl) | (simp [*, errW_none, errW_some] <;> rfl), by first | exact Kd.R_nil _ _ _ _ _ | exact Kd.N_nil _ _ _ _ _ | exact Kd.V_nil _ _ _ _ _ | exact Kd.Q_nil _ _ _ _ _ | exact Kd.S_nil _ _ _ _ _, uB⟩
   ·
    replace c12 := Bool.eq_false_iff.mpr c12
    subst c12
    have H1 : ((fixenc_fits.f kj2 l0 l1_1).bind fun t657 => (if t657 = true then (if a1_0 = true then ((nat_Sub.f kj2 l0 l1_1).bind fun bt658 => (some (bt658.1, bt658.2))) else ((nat_Add.f kj2 l1_1 ([] : List Int)).bind fun bt662 => (some (bt662.1, bt662.2)))) else (some (([] : List Int), 12)))) = some (r1, r2) := by rw [if_neg (show ¬ (false = true) by decide)] at H; exact H
    clear H; have H := H1; clear H1
    replace H := Option.bind_eq_some_iff.mp H
    obtain ⟨t657, A130, H⟩ := H
    replace H : (if t657 = true then (if a1_0 = true then ((nat_Sub.f kj2 l0 l1_1).bind fun bt658 => (some (bt658.1, bt658.2))) else ((nat_Add.f kj2 l1_1 ([] : List Int)).bind fun bt662 => (some (bt662.1, bt662.2)))) else (some (([] : List Int), 12))) = some (r1, r2) := H
    have A13 := Aside0.mk A130; clear A130
    by_cases c14 : t657 = true
    ·
     subst c14
     have H1 : (if a1_0 = true then ((nat_Sub.f kj2 l0 l1_1).bind fun bt658 => (some (bt658.1, bt658.2))) else ((nat_Add.f kj2 l1_1 ([] : List Int)).bind fun bt662 => (some (bt662.1, bt662.2)))) = some (r1, r2) := by rw [if_pos rfl] at H; exact H
     clear H; have H := H1; clear H1
     by_cases c15 : a1_0 = true
     ·
      subst c15
      have H1 : ((nat_Sub.f kj2 l0 l1_1).bind fun bt658 => (some (bt658.1, bt658.2))) = some (r1, r2) := by rw [if_pos rfl] at H; exact H
      clear H; have H := H1; clear H1
      replace H := Option.bind_eq_some_iff.mp H
      obtain ⟨⟨t658, t661⟩, A160, H⟩ := H
      replace H : (some (t658, t661)) = some (r1, r2) := H
      have A16 := Aside0.mk A160; clear A160
      simp only [Option.some.injEq, Prod.mk.injEq] at H
      obtain ⟨rfl, rfl⟩ := H
      have hcz17_0 : wc.cell? ⟨gb654, 0, none⟩ = some (.bool true) := (blk_cell BK654.out 0).trans rfl
      have hcz17_1 : wc.cell? ⟨gb654, 1, none⟩ = some (.slice A1_1 l1_1.length c1_1) := (blk_cell BK654.out 1).trans rfl
      have hfz17_0 := blk_frozen BK654.out 0
      have hfz17_1 := blk_frozen BK654.out 1
      go_wp2_with (first | ((with_reducible refine gate_callee (f := 70) rfl ?_); refine goesL_ (some 19) rfl rfl Try.func70 (by kernel_rfl) rfl #[.slice A0 l0.length c0, .slice A1_1 l1_1.length c1_1] rfl uM ?_; (with_reducible refine (fixenc_fits.calls kj2 _ _ l0 _ _ l1_1 true _ ?side1 ?side2 ?side3 ?side4 A13.out).mono ?_); (case side1 => exact uC (Kd.C_below HR0.out HB.out)); (case side2 => exact HC0.out); (case side3 => exact uC (Kd.C_below HR1_1.out HB.out)); (case side4 => exact HC1_1.out); rintro e w18 ⟨rfl, hb⟩; refine ⟨_, rfl, ?_⟩; have n0_ := Aside0.mk (blk_below (uK BK654.out) hb); have n1_ := Aside0.mk (below_step uB hb); clear BK654; clear HB; have BK654 := n0_; have HB := n1_; clear n0_ n1_; (try clear hb); (try clear hb2); (try clear hk); (try clear hi); have hcz19_0 : w18.cell? ⟨gb654, 0, none⟩ = some (.bool true) := (blk_cell BK654.out 0).trans rfl; have hcz19_1 : w18.cell? ⟨gb654, 1, none⟩ = some (.slice A1_1 l1_1.length c1_1) := (blk_cell BK654.out 1).trans rfl; have hfz19_0 := blk_frozen BK654.out 0; have hfz19_1 := blk_frozen BK654.out 1) | ((with_reducible refine gate_callee (f := 80) rfl ?_); refine goesL_ (some 27) rfl rfl Try.func80 (by kernel_rfl) rfl #[.slice A0 l0.length c0, .slice A1_1 l1_1.length c1_1] rfl uM ?_; (with_reducible refine (nat_Sub.calls kj2 (fun k_ => k_ < w.heap.size) _ _ l0 (fun k_ => k_ < w.heap.size) _ _ l1_1 t658 t661 _ ?side1 ?side2 A16.out).mono ?_); (case side1 => exact Kd.V_mk HC0.out (Kd.F_below (Kd.C_F (Kd.heap_int .u64) HR0.out) uB)); (case side2 => exact Kd.V_mk HC1_1.out (Kd.F_below (Kd.C_F (Kd.heap_int .u64) HR1_1.out) uB)); rintro e w20 ⟨v659, rfl, ho0, hb⟩; refine ⟨_, rfl, ?_⟩; have n0_ := Aside0.mk (Kd.R_lower (Kd.R_mono (ok' := fun k_ => True) ho0 (fun _ hk_ => trivial)) (below_size uB)); have n1_ := Aside0.mk (blk_below (uK BK654.out) hb); have n2_ := Aside0.mk (below_step uB hb); clear BK654; clear HB; have HO660 := n0_; have BK654 := n1_; have HB := n2_; clear n0_ n1_ n2_; (try clear hb); (try clear hb2); (try clear hk); (try clear hi); (try clear ho0)))
      go_ret2
      exact ⟨_, by first | rfl | (simp [errW_none, errW_some] <;> rfl) | (simp [*, errW_none, errW_some] <;> rfl), uR HO660.out, uB⟩
     ·
      replace c15 := Bool.eq_false_iff.mpr c15
      subst c15
      have H1 : ((nat_Add.f kj2 l1_1 ([] : List Int)).bind fun bt662 => (some (bt662.1, bt662.2))) = some (r1, r2) := by rw [if_neg (show ¬ (false = true) by decide)] at H; exact H
      clear H; have H := H1; clear H1
      replace H := Option.bind_eq_some_iff.mp H
      obtain ⟨⟨t662, t665⟩, A210, H⟩ := H
      replace H : (some (t662, t665)) = some (r1, r2) := H
      have A21 := Aside0.mk A210; clear A210
      simp only [Option.some.injEq, Prod.mk.injEq] at H
      obtain ⟨rfl, rfl⟩ := H
      have hcz22_0 : wc.cell? ⟨gb654, 0, none⟩ = some (.bool false) := (blk_cell BK654.out 0).trans rfl
      have hcz22_1 : wc.cell? ⟨gb654, 1, none⟩ = some (.slice A1_1 l1_1.length c1_1) := (blk_cell BK654.out 1).trans rfl
      have hfz22_0 := blk_frozen BK654.out 0
      have hfz22_1 := blk_frozen BK654.out 1
      go_wp2_with (first | ((with_reducible refine gate_callee (f := 70) rfl ?_); refine goesL_ (some 19) rfl rfl Try.func70 (by kernel_rfl) rfl #[.slice A0 l0.length c0, .slice A1_1 l1_1.length c1_1] rfl uM ?_; (with_reducible refine (fixenc_fits.calls kj2 _ _ l0 _ _ l1_1 true _ ?side1 ?side2 ?side3 ?side4 A13.out).mono ?_); (case side1 => exact uC (Kd.C_below HR0.out HB.out)); (case side2 => exact HC0.out); (case side3 => exact uC (Kd.C_below HR1_1.out HB.out)); (case side4 => exact HC1_1.out); rintro e w23 ⟨rfl, hb⟩; refine ⟨_, rfl, ?_⟩; have n0_ := Aside0.mk (blk_below (uK BK654.out) hb); have n1_ := Aside0.mk (below_step uB hb); clear BK654; clear HB; have BK654 := n0_; have HB := n1_; clear n0_ n1_; (try clear hb); (try clear hb2); (try clear hk); (try clear hi); have hcz24_0 : w23.cell? ⟨gb654, 0, none⟩ = some (.bool false) := (blk_cell BK654.out 0).trans rfl; have hcz24_1 : w23.cell? ⟨gb654, 1, none⟩ = some (.slice A1_1 l1_1.length c1_1) := (blk_cell BK654.out 1).trans rfl; have hfz24_0 := blk_frozen BK654.out 0; have hfz24_1 := blk_frozen BK654.out 1) | ((with_reducible refine gate_callee (f := 81) rfl ?_); refine goesL_ (some 32) rfl rfl Try.func81 (by kernel_rfl) rfl #[.slice A1_1 l1_1.length c1_1, .slice none 0 0] rfl uM ?_; (refine (nat_Add.calls kj2 (fun k_ => k_ < w.heap.size) _ _ l1_1 (fun k_ => False) _ _ ([] : List Int) t662 t665 _ ?side1 ?side2 A21.out).mono ?_); (case side1 => exact Kd.V_mk HC1_1.out (Kd.F_below (Kd.C_F (Kd.heap_int .u64) HR1_1.out) uB)); (case side2 => exact Kd.V_nil _ _ _ _ _); rintro e w25 ⟨v663, rfl, ho0, hb⟩; refine ⟨_, rfl, ?_⟩; have n0_ := Aside0.mk (Kd.R_lower (Kd.R_mono (ok' := fun k_ => True) ho0 (fun _ hk_ => trivial)) (below_size uB)); have n1_ := Aside0.mk (blk_below (uK BK654.out) hb); have n2_ := Aside0.mk (below_step uB hb); clear BK654; clear HB; have HO664 := n0_; have BK654 := n1_; have HB := n2_; clear n0_ n1_ n2_; (try clear hb); (try clear hb2); (try clear hk); (try clear hi); (try clear ho0)))
      go_ret2
      exact ⟨_, by first | rfl | (simp [errW_none, errW_some] <;> rfl) | (simp [*, errW_none, errW_some] <;> rfl), uR HO664.out, uB⟩
    ·
     replace c14 := Bool.eq_false_iff.mpr c14
     subst c14
     have H1 : (some (([] : List Int), 12)) = some (r1, r2) := by rw [if_neg (show ¬ (false = true) by decide)] at H; exact H
     clear H; have H := H1; clear H1
     simp only [Option.some.injEq, Prod.mk.injEq] at H
     obtain ⟨rfl, rfl⟩ := H
     have hcz26_0 : wc.cell? ⟨gb654, 0, none⟩ = some (.bool a1_0) := (blk_cell BK654.out 0).trans rfl
     have hcz26_1 : wc.cell? ⟨gb654, 1, none⟩ = some (.slice A1_1 l1_1.length c1_1) := (blk_cell BK654.out 1).trans rfl
     have hfz26_0 := blk_frozen BK654.out 0
     have hfz26_1 := blk_frozen BK654.out 1
     go_wp2_with (first | ((with_reducible refine gate_callee (f := 70) rfl ?_); refine goesL_ (some 19) rfl rfl Try.func70 (by kernel_rfl) rfl #[.slice A0 l0.length c0, .slice A1_1 l1_1.length c1_1] rfl uM ?_; (with_reducible refine (fixenc_fits.calls kj2 _ _ l0 _ _ l1_1 false _ ?side1 ?side2 ?side3 ?side4 A13.out).mono ?_); (case side1 => exact uC (Kd.C_below HR0.out HB.out)); (case side2 => exact HC0.out); (case side3 => exact uC (Kd.C_below HR1_1.out HB.out)); (case side4 => exact HC1_1.out); rintro e w27 ⟨rfl, hb⟩; refine ⟨_, rfl, ?_⟩; have n0_ := Aside0.mk (blk_below (uK BK654.out) hb); have n1_ := Aside0.mk (below_step uB hb); clear BK654; clear HB; have BK654 := n0_; have HB := n1_; clear n0_ n1_; (try clear hb); (try clear hb2); (try clear hk); (try clear hi)))
     go_ret2
     exact ⟨_, by first | rfl | (simp [errW_none, errW_some] <;> rfl) | (simp [*, errW_none, errW_some] <;> rfl), by first | exact Kd.R_nil _ _ _ _ _ | exact Kd.N_nil _ _ _ _ _ | exact Kd.V_nil _ _ _ _ _ | exact Kd.Q_nil _ _ _ _ _ | exact Kd.S_nil _ _ _ _ _, uB⟩

end Go.Proofs.Ytgeanpnkllnipab.F
end

section
namespace Go.Proofs.Ytgeanpnkllnipab.F
open Go.RowKit Go.Proofs.YtgeanpnkllnipabW.PrintWords Go.Proofs.YtgeanpnkllnipabW.PrintLast Go.Proofs.YtgeanpnkllnipabW.PrintMore
attribute [local go_sem] max2_int min2_int max_two min_two max_three min_three max_four min_four
set_option linter.unusedVariables false
set_option linter.unusedSimpArgs false

def windbreaklaw07_awake.f (k : Nat)  : Option (Bool) := (fixenc_Encode.f k (([101] : List Int)) true (([1] : List Int))).bind fun bt672 => (if bt672.2 = 0 then (if (bt672.1.length : Int) = 1 then (if 0 < (bt672.1.length : Int) then (some ((rd bt672.1 0) == 100)) else (none)) else (some false)) else (some false))
set_option maxHeartbeats 8000000 in
set_option maxRecDepth 100000 in
theorem windbreaklaw07_awake.calls (k : Nat)  (r : Bool) (w : World) (h : windbreaklaw07_awake.f k  = some r) :
  Calls Try.prog 28 #[] w fun e w' => e = .returned (.bool r) ∧ Below w.heap.size w w' := by
 have hu52 := Try.underlying52
 have HB := Aside0.mk (Below.refl w.heap.size w)
 have H : ((fixenc_Encode.f k (([101] : List Int)) true (([1] : List Int))).bind fun bt672 => (if bt672.2 = 0 then (if (bt672.1.length : Int) = 1 then (if 0 < (bt672.1.length : Int) then (some ((rd bt672.1 0) == 100)) else (none)) else (some false)) else (some false))) = some r := h
 clear h
 obtain ⟨y666, hy666⟩ : ∃ y_ : List Int, y_ = (([101] : List Int)) := ⟨_, rfl⟩
 replace H : ((fixenc_Encode.f k y666 true (([1] : List Int))).bind fun bt672 => (if bt672.2 = 0 then (if (bt672.1.length : Int) = 1 then (if 0 < (bt672.1.length : Int) then (some ((rd bt672.1 0) == 100)) else (none)) else (some false)) else (some false))) = some r := by first | (rw [hy666]; with_reducible exact H) | (have H2_ := (Option.bind_some _ _).symm.trans H; rw [hy666]; with_reducible exact H2_) | (have H2_ := (Option.bind_some _ _).symm.trans H; with_reducible exact H2_) | with_reducible exact H | (rw [hy666]; exact H) | exact H
 have Ny666 := Aside0.mk hy666; clear hy666
 obtain ⟨y669, hy669⟩ : ∃ y_ : List Int, y_ = (([1] : List Int)) := ⟨_, rfl⟩
 replace H : ((fixenc_Encode.f k y666 true y669).bind fun bt672 => (if bt672.2 = 0 then (if (bt672.1.length : Int) = 1 then (if 0 < (bt672.1.length : Int) then (some ((rd bt672.1 0) == 100)) else (none)) else (some false)) else (some false))) = some r := by first | (rw [hy669]; with_reducible exact H) | (have H2_ := (Option.bind_some _ _).symm.trans H; rw [hy669]; with_reducible exact H2_) | (have H2_ := (Option.bind_some _ _).symm.trans H; with_reducible exact H2_) | with_reducible exact H | (rw [hy669]; exact H) | exact H
 have Ny669 := Aside0.mk hy669; clear hy669
 replace H := Option.bind_eq_some_iff.mp H
 obtain ⟨⟨t672, t675⟩, A10, H⟩ := H
 replace H : (if t675 = 0 then (if (t672.length : Int) = 1 then (if 0 < (t672.length : Int) then (some ((rd t672 0) == 100)) else (none)) else (some false)) else (some false)) = some r := H
 have A1 := Aside0.mk A10; clear A10
 by_cases c2 : t675 = 0
 ·
  rw [if_pos c2] at H
  have c2b0 : (t675 == 0) = true := beq_iff_eq.mpr c2
  have c2b1 : (t675 != 0) = false := bne_eq_false_iff_eq.mpr c2
  clear c2
  by_cases c3 : (t672.length : Int) = 1
  ·
   rw [if_pos c3] at H
   have c3b0 : ((t672.length : Int) == 1) = true := beq_iff_eq.mpr c3
   have c3b1 : ((t672.length : Int) != 1) = false := bne_eq_false_iff_eq.mpr c3
   clear c3
   by_cases c4 : 0 < (t672.length : Int)
   ·
    rw [if_pos c4] at H
    have c4b0 : decide (0 < (t672.length : Int)) = true := decide_eq_true c4
    have c4b1 : decide (0 < t672.length) = true := decide_eq_true (by omega)
    clear c4
    obtain rfl := Option.some.inj H
    go_enter Try.func28, Try.ntmps28
    go_wp2_with (first | ((with_reducible refine gate_dst (N := 4) rfl ?_); (try (refine gate_guard (by rfl) ?_; dsimp only)); refine Kd.R_lit (Kd.int .u64) _ 27 ?hg (N := 4) ?hd (xs := ([101] : List Int)) (inner := [.int .u64 101]) (ok := fun _ => True) (okp := fun _ => True) ?hr ?hp (fun _ hk => hk) trivial (Below.refl _ _) (Nat.le_refl _) (by simp) ?_; (case hd => rfl); (case hg => rfl); (case hr => first | (go_simp; done) | (go_simp; rfl) | (go_simp; simp only [u64_u8]; done) | (go_simp; simp only [u64_u8]; rfl)); (case hp => exact (Reps.one (show Kd.M (Kd.int .u64) _ _ _ 101 [.int .u64 101] from rfl) (Reps.none _ _))); intro v667 w5 ho6 hb hg_ hnew_; clear hg_ hnew_; (first | rw [← Ny666.out] at ho6 | (simp only [Int.reduceToNat] at ho6; rw [← Ny666.out] at ho6)); have n0_ := Aside0.mk (Kd.R_lower ho6 (below_size uB)); have n1_ := Aside0.mk (below_step uB hb); clear HB; have HO668 := n0_; have HB := n1_; clear n0_ n1_; clear hb ho6) | ((with_reducible refine gate_dst (N := 5) rfl ?_); (try (refine gate_guard (by rfl) ?_; dsimp only)); refine Kd.R_lit (Kd.int .u64) _ 27 ?hg (N := 5) ?hd (xs := ([1] : List Int)) (inner := [.int .u64 1]) (ok := fun _ => True) (okp := fun _ => True) ?hr ?hp (fun _ hk => hk) trivial (Below.refl _ _) (Nat.le_refl _) (by simp) ?_; (case hd => rfl); (case hg => rfl); (case hr => first | (go_simp; done) | (go_simp; rfl) | (go_simp; simp only [u64_u8]; done) | (go_simp; simp only [u64_u8]; rfl)); (case hp => exact (Reps.one (show Kd.M (Kd.int .u64) _ _ _ 1 [.int .u64 1] from rfl) (Reps.none _ _))); intro v670 w7 ho8 hb hg_ hnew_; clear hg_ hnew_; (first | rw [← Ny669.out] at ho8 | (simp only [Int.reduceToNat] at ho8; rw [← Ny669.out] at ho8)); have n0_ := Aside0.mk (Kd.R_elder' (uR HO668.out) (Kd.R_base ho8) hb); have n1_ := Aside0.mk (Kd.R_lower (Kd.R_new' ho8 (Kd.R_lt (uR HO668.out))) (below_size uB)); have n2_ := Aside0.mk (below_step uB hb); clear HO668; clear HB; have HO668 := n0_; have HO671 := n1_; have HB := n2_; clear n0_ n1_ n2_; clear hb ho8; obtain ⟨Ao9, co9, eo9⟩ := Kd.R_slice HO671.out; subst eo9; obtain ⟨Ao10, co10, eo10⟩ := Kd.R_slice HO668.out; subst eo10) | ((with_reducible refine gate_callee (f := 35) rfl ?_); refine goesL_ (some 7) rfl rfl Try.func35 (by kernel_rfl) rfl #[.slice Ao10 y666.length co10, .agg #[.bool true, .slice Ao9 y669.length co9]] rfl uM ?_; (with_reducible refine (fixenc_Encode.calls k _ _ y666 true _ _ y669 t672 t675 _ ?side1 ?side2 ?side3 ?side4 A1.out).mono ?_); (case side1 => exact uC (Kd.R_reads' HO668.out).2.2); (case side2 => exact (Kd.R_reads' HO668.out).2.1); (case side3 => exact uC (Kd.R_reads' HO671.out).2.2); (case side4 => exact (Kd.R_reads' HO671.out).2.1); rintro e w11 ⟨v673, rfl, ho0, hb⟩; refine ⟨_, rfl, ?_⟩; have n0_ := Aside0.mk (Kd.R_elder' (uR HO668.out) (Kd.R_base ho0) hb); have n1_ := Aside0.mk (Kd.R_elder' (uR HO671.out) (Kd.R_base ho0) hb); have n2_ := Aside0.mk (Kd.R_lower (Kd.R_new' (Kd.R_new' ho0 (Kd.R_lt (uR HO668.out))) (Kd.R_lt (uR HO671.out))) (below_size uB)); have n3_ := Aside0.mk (below_step uB hb); clear HO668; clear HO671; clear HB; have HO668 := n0_; have HO671 := n1_; have HO674 := n2_; have HB := n3_; clear n0_ n1_ n2_ n3_; (try clear hb); (try clear hb2); (try clear hk); (try clear hi); (try clear ho0); obtain ⟨Ao12, co12, eo12⟩ := Kd.R_slice HO674.out; subst eo12; have p676 : 0 ≤ (0 : Int) := (by omega); have q676 : 0 < (t672.length : Int) := of_decide_eq_true (by first | (with_reducible assumption) | assumption); obtain ⟨ad676, e676, hx676_0⟩ := Kd.at_int (Kd.R_reads' HO674.out).2.2 0 p676 q676; cases e676; have qi676 : (0 < t672.length) = True := eq_true (by omega); (try rw [show ((0 : Int)).toNat = 0 from rfl] at hx676_0); (try rw [Addr.add_zero'] at hx676_0); replace p676 := eq_true p676; replace q676 := eq_true q676))
    go_ret
    exact ⟨by first | rfl | (simp [errW_none, errW_some] <;> rfl) | (simp [*, errW_none, errW_some] <;> rfl), uB⟩
   ·
    rw [if_neg c4] at H
    exact absurd H (by simp)
  ·
   rw [if_neg c3] at H
   have c3b0 : ((t672.length : Int) == 1) = false := beq_eq_false_iff_ne.mpr c3
   have c3b1 : ((t672.length : Int) != 1) = true := bne_iff_ne.mpr c3
   obtain rfl := Option.some.inj H
   go_enter Try.func28, Try.ntmps28
   go_wp2_with (first | ((with_reducible refine gate_dst (N := 4) rfl ?_); (try (refine gate_guard (by rfl) ?_; dsimp only)); refine Kd.R_lit (Kd.int .u64) _ 27 ?hg (N := 4) ?hd (xs := ([101] : List Int)) (inner := [.int .u64 101]) (ok := fun _ => True) (okp := fun _ => True) ?hr ?hp (fun _ hk => hk) trivial (Below.refl _ _) (Nat.le_refl _) (by simp) ?_; (case hd => rfl); (case hg => rfl); (case hr => first | (go_simp; done) | (go_simp; rfl) | (go_simp; simp only [u64_u8]; done) | (go_simp; simp only [u64_u8]; rfl)); (case hp => exact (Reps.one (show Kd.M (Kd.int .u64) _ _ _ 101 [.int .u64 101] from rfl) (Reps.none _ _))); intro v667 w13 ho14 hb hg_ hnew_; clear hg_ hnew_; (first | rw [← Ny666.out] at ho14 | (simp only [Int.reduceToNat] at ho14; rw [← Ny666.out] at ho14)); have n0_ := Aside0.mk (Kd.R_lower ho14 (below_size uB)); have n1_ := Aside0.mk (below_step uB hb); clear HB; have HO668 := n0_; have HB := n1_; clear n0_ n1_; clear hb ho14) | ((with_reducible refine gate_dst (N := 5) rfl ?_); (try (refine gate_guard (by rfl) ?_; dsimp only)); refine Kd.R_lit (Kd.int .u64) _ 27 ?hg (N := 5) ?hd (xs := ([1] : List Int)) (inner := [.int .u64 1]) (ok := fun _ => True) (okp := fun _ => True) ?hr ?hp (fun _ hk => hk) trivial (Below.refl _ _) (Nat.le_refl _) (by simp) ?_; (case hd => rfl); (case hg => rfl); (case hr => first | (go_simp; done) | (go_simp; rfl) | (go_simp; simp only [u64_u8]; done) | (go_simp; simp only [u64_u8]; rfl)); (case hp => exact (Reps.one (show Kd.M (Kd.int .u64) _ _ _ 1 [.int .u64 1] from rfl) (Reps.none _ _))); intro v670 w15 ho16 hb hg_ hnew_; clear hg_ hnew_; (first | rw [← Ny669.out] at ho16 | (simp only [Int.reduceToNat] at ho16; rw [← Ny669.out] at ho16)); have n0_ := Aside0.mk (Kd.R_elder' (uR HO668.out) (Kd.R_base ho16) hb); have n1_ := Aside0.mk (Kd.R_lower (Kd.R_new' ho16 (Kd.R_lt (uR HO668.out))) (below_size uB)); have n2_ := Aside0.mk (below_step uB hb); clear HO668; clear HB; have HO668 := n0_; have HO671 := n1_; have HB := n2_; clear n0_ n1_ n2_; clear hb ho16; obtain ⟨Ao17, co17, eo17⟩ := Kd.R_slice HO671.out; subst eo17; obtain ⟨Ao18, co18, eo18⟩ := Kd.R_slice HO668.out; subst eo18) | ((with_reducible refine gate_callee (f := 35) rfl ?_); refine goesL_ (some 7) rfl rfl Try.func35 (by kernel_rfl) rfl #[.slice Ao18 y666.length co18, .agg #[.bool true, .slice Ao17 y669.length co17]] rfl uM ?_; (with_reducible refine (fixenc_Encode.calls k _ _ y666 true _ _ y669 t672 t675 _ ?side1 ?side2 ?side3 ?side4 A1.out).mono ?_); (case side1 => exact uC (Kd.R_reads' HO668.out).2.2); (case side2 => exact (Kd.R_reads' HO668.out).2.1); (case side3 => exact uC (Kd.R_reads' HO671.out).2.2); (case side4 => exact (Kd.R_reads' HO671.out).2.1); rintro e w19 ⟨v673, rfl, ho0, hb⟩; refine ⟨_, rfl, ?_⟩; have n0_ := Aside0.mk (Kd.R_elder' (uR HO668.out) (Kd.R_base ho0) hb); have n1_ := Aside0.mk (Kd.R_elder' (uR HO671.out) (Kd.R_base ho0) hb); have n2_ := Aside0.mk (Kd.R_lower (Kd.R_new' (Kd.R_new' ho0 (Kd.R_lt (uR HO668.out))) (Kd.R_lt (uR HO671.out))) (below_size uB)); have n3_ := Aside0.mk (below_step uB hb); clear HO668; clear HO671; clear HB; have HO668 := n0_; have HO671 := n1_; have HO674 := n2_; have HB := n3_; clear n0_ n1_ n2_ n3_; (try clear hb); (try clear hb2); (try clear hk); (try clear hi); (try clear ho0); obtain ⟨Ao20, co20, eo20⟩ := Kd.R_slice HO674.out; subst eo20))
   go_ret
   exact ⟨by first | rfl | (simp [errW_none, errW_some] <;> rfl) | (simp [*, errW_none, errW_some] <;> rfl), uB⟩
 ·
  rw [if_neg c2] at H
  have c2b0 : (t675 == 0) = false := beq_eq_false_iff_ne.mpr c2
  have c2b1 : (t675 != 0) = true := bne_iff_ne.mpr c2
  obtain rfl := Option.some.inj H
  go_enter Try.func28, Try.ntmps28
  go_wp2_with (first | ((with_reducible refine gate_dst (N := 4) rfl ?_); (try (refine gate_guard (by rfl) ?_; dsimp only)); refine Kd.R_lit (Kd.int .u64) _ 27 ?hg (N := 4) ?hd (xs := ([101] : List Int)) (inner := [.int .u64 101]) (ok := fun _ => True) (okp := fun _ => True) ?hr ?hp (fun _ hk => hk) trivial (Below.refl _ _) (Nat.le_refl _) (by simp) ?_; (case hd => rfl); (case hg => rfl); (case hr => first | (go_simp; done) | (go_simp; rfl) | (go_simp; simp only [u64_u8]; done) | (go_simp; simp only [u64_u8]; rfl)); (case hp => exact (Reps.one (show Kd.M (Kd.int .u64) _ _ _ 101 [.int .u64 101] from rfl) (Reps.none _ _))); intro v667 w21 ho22 hb hg_ hnew_; clear hg_ hnew_; (first | rw [← Ny666.out] at ho22 | (simp only [Int.reduceToNat] at ho22; rw [← Ny666.out] at ho22)); have n0_ := Aside0.mk (Kd.R_lower ho22 (below_size uB)); have n1_ := Aside0.mk (below_step uB hb); clear HB; have HO668 := n0_; have HB := n1_; clear n0_ n1_; clear hb ho22) | ((with_reducible refine gate_dst (N := 5) rfl ?_); (try (refine gate_guard (by rfl) ?_; dsimp only)); refine Kd.R_lit (Kd.int .u64) _ 27 ?hg (N := 5) ?hd (xs := ([1] : List Int)) (inner := [.int .u64 1]) (ok := fun _ => True) (okp := fun _ => True) ?hr ?hp (fun _ hk => hk) trivial (Below.refl _ _) (Nat.le_refl _) (by simp) ?_; (case hd => rfl); (case hg => rfl); (case hr => first | (go_simp; done) | (go_simp; rfl) | (go_simp; simp only [u64_u8]; done) | (go_simp; simp only [u64_u8]; rfl)); (case hp => exact (Reps.one (show Kd.M (Kd.int .u64) _ _ _ 1 [.int .u64 1] from rfl) (Reps.none _ _))); intro v670 w23 ho24 hb hg_ hnew_; clear hg_ hnew_; (first | rw [← Ny669.out] at ho24 | (simp only [Int.reduceToNat] at ho24; rw [← Ny669.out] at ho24)); have n0_ := Aside0.mk (Kd.R_elder' (uR HO668.out) (Kd.R_base ho24) hb); have n1_ := Aside0.mk (Kd.R_lower (Kd.R_new' ho24 (Kd.R_lt (uR HO668.out))) (below_size uB)); have n2_ := Aside0.mk (below_step uB hb); clear HO668; clear HB; have HO668 := n0_; have HO671 := n1_; have HB := n2_; clear n0_ n1_ n2_; clear hb ho24; obtain ⟨Ao25, co25, eo25⟩ := Kd.R_slice HO671.out; subst eo25; obtain ⟨Ao26, co26, eo26⟩ := Kd.R_slice HO668.out; subst eo26) | ((with_reducible refine gate_callee (f := 35) rfl ?_); refine goesL_ (some 7) rfl rfl Try.func35 (by kernel_rfl) rfl #[.slice Ao26 y666.length co26, .agg #[.bool true, .slice Ao25 y669.length co25]] rfl uM ?_; (with_reducible refine (fixenc_Encode.calls k _ _ y666 true _ _ y669 t672 t675 _ ?side1 ?side2 ?side3 ?side4 A1.out).mono ?_); (case side1 => exact uC (Kd.R_reads' HO668.out).2.2); (case side2 => exact (Kd.R_reads' HO668.out).2.1); (case side3 => exact uC (Kd.R_reads' HO671.out).2.2); (case side4 => exact (Kd.R_reads' HO671.out).2.1); rintro e w27 ⟨v673, rfl, ho0, hb⟩; refine ⟨_, rfl, ?_⟩; have n0_ := Aside0.mk (Kd.R_elder' (uR HO668.out) (Kd.R_base ho0) hb); have n1_ := Aside0.mk (Kd.R_elder' (uR HO671.out) (Kd.R_base ho0) hb); have n2_ := Aside0.mk (Kd.R_lower (Kd.R_new' (Kd.R_new' ho0 (Kd.R_lt (uR HO668.out))) (Kd.R_lt (uR HO671.out))) (below_size uB)); have n3_ := Aside0.mk (below_step uB hb); clear HO668; clear HO671; clear HB; have HO668 := n0_; have HO671 := n1_; have HO674 := n2_; have HB := n3_; clear n0_ n1_ n2_ n3_; (try clear hb); (try clear hb2); (try clear hk); (try clear hi); (try clear ho0)))
  go_ret
  exact ⟨by first | rfl | (simp [errW_none, errW_some] <;> rfl) | (simp [*, errW_none, errW_some] <;> rfl), uB⟩

end Go.Proofs.Ytgeanpnkllnipab.F
end

section
namespace Go.Proofs.Ytgeanpnkllnipab.F
open Go.RowKit Go.Proofs.YtgeanpnkllnipabW.PrintWords Go.Proofs.YtgeanpnkllnipabW.PrintLast Go.Proofs.YtgeanpnkllnipabW.PrintMore
attribute [local go_sem] max2_int min2_int max_two min_two max_three min_three max_four min_four
set_option linter.unusedVariables false
set_option linter.unusedSimpArgs false

def api_Nat_uint64.f (l0 : List Int) : Option (List Int) := ((some (([] : List Int) : List Int)).bind fun y102 => (if y102.length + l0.length < 17592186044416 then (some (y102 ++ l0)) else (none)))
set_option maxHeartbeats 8000000 in
set_option maxRecDepth 100000 in
theorem api_Nat_uint64.calls (A0 : Option Addr) (c0 : Nat) (l0 : List Int) (r : List Int) (w : World) (hr0 : Kd.C (Kd.int .u64) w A0 l0.length l0) (hc0 : l0.length ≤ c0) (h : api_Nat_uint64.f l0 = some r) :
  Calls Try.prog 85 #[.slice A0 l0.length c0] w fun e w' => ∃ v0_ : Value, e = .returned (v0_) ∧ Kd.R (Kd.int .u64) 27 w' w.heap.size (fun _ => True) v0_ r ∧ Below w.heap.size w w' := by
 have HR0 := Aside0.mk hr0; have HC0 := Aside0.mk hc0; clear hr0 hc0
 have HB := Aside0.mk (Below.refl w.heap.size w)
 have H : ((some (([] : List Int) : List Int)).bind fun y102 => (if y102.length + l0.length < 17592186044416 then (some (y102 ++ l0)) else (none))) = some r := h
 clear h
 have hnil_ := clone_nil (P := Try.prog) Try.underlying23
 cases A0 with
 | none =>
  have hl0 : l0 = [] := by
   by_cases e : 0 < l0.length
   ·
    obtain ⟨_, h_, _⟩ := HR0.out.2.2 e; cases h_
   ·
    exact List.length_eq_zero_iff.1 (by omega)
  subst hl0
  obtain rfl : [] = r := by simpa using H
  clear H
  go_enter Try.func85, Try.ntmps85
  go_wp2
  go_ret
  exact ⟨_, by first | rfl | (simp [errW_none, errW_some] <;> rfl) | (simp [*, errW_none, errW_some] <;> rfl), by first | exact Kd.R_nil _ _ _ _ _ | exact Kd.N_nil _ _ _ _ _ | exact Kd.V_nil _ _ _ _ _ | exact Kd.Q_nil _ _ _ _ _ | exact Kd.S_nil _ _ _ _ _, uB⟩
 | some a0_ =>
  obtain ⟨y102, hy102⟩ : ∃ y_ : List Int, y_ = (([] : List Int)) := ⟨_, rfl⟩
  replace H : (if y102.length + l0.length < 17592186044416 then (some (y102 ++ l0)) else (none)) = some r := by first | (rw [hy102]; with_reducible exact H) | (have H2_ := (Option.bind_some _ _).symm.trans H; rw [hy102]; with_reducible exact H2_) | (have H2_ := (Option.bind_some _ _).symm.trans H; with_reducible exact H2_) | with_reducible exact H | (rw [hy102]; exact H) | exact H
  have Ny102 := Aside0.mk hy102; clear hy102
  by_cases c3 : y102.length + l0.length < 17592186044416
  ·
   rw [if_pos c3] at H
   have LMc3 := Aside0.mk c3; clear c3
   obtain ⟨y105, hy105⟩ : ∃ y_ : List Int, y_ = (y102 ++ l0) := ⟨_, rfl⟩
   replace H : (some y105) = some r := by first | (rw [hy105]; with_reducible exact H) | (have H2_ := (Option.bind_some _ _).symm.trans H; rw [hy105]; with_reducible exact H2_) | (have H2_ := (Option.bind_some _ _).symm.trans H; with_reducible exact H2_) | with_reducible exact H | (rw [hy105]; exact H) | exact H
   have Ny105 := Aside0.mk hy105; clear hy105
   obtain rfl := Option.some.inj H
   go_enter Try.func85, Try.ntmps85
   go_wp2_with (first | ((with_reducible refine gate_dst (N := 5) rfl ?_); refine Kd.R_lit (Kd.int .u64) _ 27 ?hg (N := 5) ?hd (xs := ([] : List Int)) (inner := []) (ok := fun _ => True) (okp := fun _ => True) ?hr ?hp (fun _ hk => hk) trivial (Below.refl _ _) (Nat.le_refl _) (by simp) ?_; (case hd => rfl); (case hg => rfl); (case hr => first | (go_simp; done) | (go_simp; rfl) | (go_simp; simp only [u64_u8]; done) | (go_simp; simp only [u64_u8]; rfl)); (case hp => exact (Reps.none _ _)); intro v103 w4 ho5 hb hg_ hnew_; clear hg_ hnew_; (first | rw [← Ny102.out] at ho5 | (simp only [Int.reduceToNat] at ho5; rw [← Ny102.out] at ho5)); have n0_ := Aside0.mk (Kd.R_lower ho5 (below_size uB)); have n1_ := Aside0.mk (below_step uB hb); clear HB; have HO104 := n0_; have HB := n1_; clear n0_ n1_; clear hb ho5) | ((with_reducible refine gate_builtin (b := .append) (xs := #[.tmp 5, .tmp 6]) rfl ?_); at_builtin; refine Kd.R_append_rows (Kd.int .u64) (w0 := w) w.heap.size rfl (.tmp 5) (.tmp 6) 23 27 (.int .u64 0) 8 rfl Try.underlying23 info27 rfl (by decide) (by omega) v103 y102 l0 _ _ _ (fun _ => True) (fun _ => False) rfl rfl ?aO ?aR (fun _ _ h => h) (fun _ h => h.elim) ?aF ?aB ?aS ?aL ?_; (case aR => exact uC (Kd.C_below HR0.out HB.out)); (case aB => exact uB); (case aF => exact (fun _ _ => trivial)); (case aO => exact (uR HO104.out)); (case aS => exact (below_size uB)); (case aL => have := LMc3.out; omega); intro v106 w6 ho hb hg hat; rw [← Ny105.out] at ho; have n0_ := Aside0.mk (hb); have n1_ := Aside0.mk (ho); clear HB; clear HO104; have HB := n0_; have HO107 := n1_; clear n0_ n1_; clear ho hb hg hat))
   go_ret
   exact ⟨_, by first | rfl | (simp [errW_none, errW_some] <;> rfl) | (simp [*, errW_none, errW_some] <;> rfl), uR HO107.out, uB⟩
  ·
   rw [if_neg c3] at H
   exact absurd H (by simp)

end Go.Proofs.Ytgeanpnkllnipab.F
end

section
namespace Go.Proofs.Ytgeanpnkllnipab.F
open Go.RowKit Go.Proofs.YtgeanpnkllnipabW.PrintWords Go.Proofs.YtgeanpnkllnipabW.PrintLast Go.Proofs.YtgeanpnkllnipabW.PrintMore
attribute [local go_sem] max2_int min2_int max_two min_two max_three min_three max_four min_four
set_option linter.unusedVariables false
set_option linter.unusedSimpArgs false

def modint_From.f (a0 : Bool) (l1 : List Int) : Option (Bool × List Int) := (nat_Right.f l1).bind fun t678 => (if t678 = true then (if (l1.length : Int) = 0 then (some (false, ([] : List Int))) else ((api_Nat_uint64.f l1).bind fun t679 => (some (a0, t679)))) else (some (false, ([] : List Int))))
set_option maxHeartbeats 8000000 in
set_option maxRecDepth 100000 in
theorem modint_From.calls (a0 : Bool) (A1 : Option Addr) (c1 : Nat) (l1 : List Int) (r1 : Bool) (r2 : List Int) (w : World) (hr1 : Kd.C (Kd.int .u64) w A1 l1.length l1) (hc1 : l1.length ≤ c1) (h : modint_From.f a0 l1 = some (r1, r2)) :
  Calls Try.prog 83 #[.bool a0, .slice A1 l1.length c1] w fun e w' => ∃ v1_ : Value, e = .returned (.agg #[.bool r1, v1_]) ∧ Kd.R (Kd.int .u64) 27 w' w.heap.size (fun _ => True) v1_ r2 ∧ Below w.heap.size w w' := by
 have hu52 := Try.underlying52
 have HR1 := Aside0.mk hr1; have HC1 := Aside0.mk hc1; clear hr1 hc1
 have HB := Aside0.mk (Below.refl w.heap.size w)
 have H : ((nat_Right.f l1).bind fun t678 => (if t678 = true then (if (l1.length : Int) = 0 then (some (false, ([] : List Int))) else ((api_Nat_uint64.f l1).bind fun t679 => (some (a0, t679)))) else (some (false, ([] : List Int))))) = some (r1, r2) := h
 clear h
 replace H := Option.bind_eq_some_iff.mp H
 obtain ⟨t678, A30, H⟩ := H
 replace H : (if t678 = true then (if (l1.length : Int) = 0 then (some (false, ([] : List Int))) else ((api_Nat_uint64.f l1).bind fun t679 => (some (a0, t679)))) else (some (false, ([] : List Int)))) = some (r1, r2) := H
 have A3 := Aside0.mk A30; clear A30
 by_cases c4 : t678 = true
 ·
  subst c4
  have H1 : (if (l1.length : Int) = 0 then (some (false, ([] : List Int))) else ((api_Nat_uint64.f l1).bind fun t679 => (some (a0, t679)))) = some (r1, r2) := by rw [if_pos rfl] at H; exact H
  clear H; have H := H1; clear H1
  by_cases c5 : (l1.length : Int) = 0
  ·
   rw [if_pos c5] at H
   have c5b0 : ((l1.length : Int) == 0) = true := beq_iff_eq.mpr c5
   have c5b1 : ((l1.length : Int) != 0) = false := bne_eq_false_iff_eq.mpr c5
   clear c5
   simp only [Option.some.injEq, Prod.mk.injEq] at H
   obtain ⟨rfl, rfl⟩ := H
   go_enter Try.func83, Try.ntmps83
   go_wp2_with (first | ((with_reducible refine gate_dst (N := 4) rfl ?_); (try (refine gate_guard (by rfl) ?_; dsimp only)); refine box_event ?hg (N := 4) ?hd (cs := #[.bool false, .slice none 0 0]) (t := 52) ?hr ?_; (case hd => rfl); (case hg => rfl); (case hr => first | (go_simp; done) | (go_simp; rfl)); intro gb677 hg w6 hbox hb; have n0_ := Aside0.mk (below_step uB hb); have n1_ := Aside0.mk (hbox); have n2_ := Aside0.mk ((by rw [hg]; exact (below_size uB) : w.heap.size ≤ gb677)); have n3_ := Aside0.mk ((by rw [hg]; exact (below_size uB) : w.heap.size ≤ gb677)); clear HB; have HB := n0_; have BK677 := n1_; have GW677 := n2_; have GE677 := n3_; clear n0_ n1_ n2_ n3_; clear hb hbox hg) | ((with_reducible refine gate_callee (f := 47) rfl ?_); refine goesL_ (some 6) rfl rfl Try.func47 (by kernel_rfl) rfl #[.slice A1 l1.length c1] rfl uM ?_; (with_reducible refine (nat_Right.calls _ _ l1 true _ ?side1 ?side2 A3.out).mono ?_); (case side1 => exact uC (Kd.C_below HR1.out HB.out)); (case side2 => exact HC1.out); rintro e w' ⟨rfl, ⟨nd, rfl⟩⟩; refine ⟨_, rfl, ?_⟩; (try (rw [drewN_self w6]; generalize hq_ : World.drewN w6 _ = w6; have n0_ : Aside0 (w6.heap[gb677]? = some (.cells #[.bool false, .slice none 0 0] 52 (0, 0))) := ⟨by rw [← hq_]; exact (uK BK677.out)⟩; have n1_ : Aside0 (Below w.heap.size w w6) := ⟨by rw [← hq_]; exact uB⟩; clear BK677 HB hq_; have BK677 := n0_; have HB := n1_; clear n0_ n1_)); have hcz7_0 : w6.cell? ⟨gb677, 0, none⟩ = some (.bool false) := (blk_cell BK677.out 0).trans rfl; have hcz7_1 : w6.cell? ⟨gb677, 1, none⟩ = some (.slice none 0 0) := (blk_cell BK677.out 1).trans rfl; have hfz7_0 := blk_frozen BK677.out 0; have hfz7_1 := blk_frozen BK677.out 1))
   refine bodyPost_ret (results_cell_row rfl _ _ gb677 52 #[.bool false, .slice none 0 0] (0, 0) _ rfl (by (with_reducible repeat (first | refine blk_drewN ?_ _ | refine blk_drew ?_ | refine blk_alloc ?_ _)); refine blk_put (cs := #[.bool false, .slice none 0 0]) ?_ 1 _ rfl; (with_reducible repeat (first | refine blk_drewN ?_ _ | refine blk_drew ?_ | refine blk_alloc ?_ _)); refine blk_put (cs := #[.bool false, .slice none 0 0]) ?_ 0 _ rfl; (with_reducible repeat (first | refine blk_drewN ?_ _ | refine blk_drew ?_ | refine blk_alloc ?_ _)); exact BK677.out) Try.underlying52 rfl (by kernel_rfl)) rfl ?_
   exact ⟨_, by first | rfl | (simp [errW_none, errW_some] <;> rfl) | (simp [*, errW_none, errW_some] <;> rfl), by first | exact Kd.R_nil _ _ _ _ _ | exact Kd.N_nil _ _ _ _ _ | exact Kd.V_nil _ _ _ _ _ | exact Kd.Q_nil _ _ _ _ _ | exact Kd.S_nil _ _ _ _ _, uB⟩
  ·
   rw [if_neg c5] at H
   have c5b0 : ((l1.length : Int) == 0) = false := beq_eq_false_iff_ne.mpr c5
   have c5b1 : ((l1.length : Int) != 0) = true := bne_iff_ne.mpr c5
   have c5b2 : ¬ (l1 = []) := fun h_ => c5 (by rw [h_]; rfl)
   replace H := Option.bind_eq_some_iff.mp H
   obtain ⟨t679, A80, H⟩ := H
   replace H : (some (a0, t679)) = some (r1, r2) := H
   have A8 := Aside0.mk A80; clear A80
   simp only [Option.some.injEq, Prod.mk.injEq] at H
   obtain ⟨rfl, rfl⟩ := H
   go_enter Try.func83, Try.ntmps83
   go_wp2_with (first | ((with_reducible refine gate_dst (N := 4) rfl ?_); (try (refine gate_guard (by rfl) ?_; dsimp only)); refine box_event ?hg (N := 4) ?hd (cs := #[.bool false, .slice none 0 0]) (t := 52) ?hr ?_; (case hd => rfl); (case hg => rfl); (case hr => first | (go_simp; done) | (go_simp; rfl)); intro gb677 hg w9 hbox hb; have n0_ := Aside0.mk (below_step uB hb); have n1_ := Aside0.mk (hbox); have n2_ := Aside0.mk ((by rw [hg]; exact (below_size uB) : w.heap.size ≤ gb677)); have n3_ := Aside0.mk ((by rw [hg]; exact (below_size uB) : w.heap.size ≤ gb677)); clear HB; have HB := n0_; have BK677 := n1_; have GW677 := n2_; have GE677 := n3_; clear n0_ n1_ n2_ n3_; clear hb hbox hg) | ((with_reducible refine gate_callee (f := 47) rfl ?_); refine goesL_ (some 6) rfl rfl Try.func47 (by kernel_rfl) rfl #[.slice A1 l1.length c1] rfl uM ?_; (with_reducible refine (nat_Right.calls _ _ l1 true _ ?side1 ?side2 A3.out).mono ?_); (case side1 => exact uC (Kd.C_below HR1.out HB.out)); (case side2 => exact HC1.out); rintro e w' ⟨rfl, ⟨nd, rfl⟩⟩; refine ⟨_, rfl, ?_⟩; (try (rw [drewN_self w9]; generalize hq_ : World.drewN w9 _ = w9; have n0_ : Aside0 (w9.heap[gb677]? = some (.cells #[.bool false, .slice none 0 0] 52 (0, 0))) := ⟨by rw [← hq_]; exact (uK BK677.out)⟩; have n1_ : Aside0 (Below w.heap.size w w9) := ⟨by rw [← hq_]; exact uB⟩; clear BK677 HB hq_; have BK677 := n0_; have HB := n1_; clear n0_ n1_))) | ((with_reducible refine gate_callee (f := 85) rfl ?_); refine goesL_ (some 16) rfl rfl Try.func85 (by kernel_rfl) rfl #[.slice A1 l1.length c1] rfl uM ?_; (with_reducible refine (api_Nat_uint64.calls _ _ l1 t679 _ ?side1 ?side2 A8.out).mono ?_); (case side1 => exact uC (Kd.C_below HR1.out HB.out)); (case side2 => exact HC1.out); rintro e w10 ⟨v680, rfl, ho0, hb⟩; refine ⟨_, rfl, ?_⟩; have n0_ := Aside0.mk (Kd.R_lower ho0 (below_size uB)); have n1_ := Aside0.mk (blk_below (uK BK677.out) hb); have n2_ := Aside0.mk (below_step uB hb); clear BK677; clear HB; have HO681 := n0_; have BK677 := n1_; have HB := n2_; clear n0_ n1_ n2_; (try clear hb); (try clear hb2); (try clear hk); (try clear hi); (try clear ho0); obtain ⟨Ao11, co11, eo11⟩ := Kd.R_slice HO681.out; subst eo11; have hcz12_0 : w10.cell? ⟨gb677, 0, none⟩ = some (.bool false) := (blk_cell BK677.out 0).trans rfl; have hcz12_1 : w10.cell? ⟨gb677, 1, none⟩ = some (.slice none 0 0) := (blk_cell BK677.out 1).trans rfl; have hfz12_0 := blk_frozen BK677.out 0; have hfz12_1 := blk_frozen BK677.out 1))
   refine bodyPost_ret (results_cell_row rfl _ _ gb677 52 #[.bool a0, .slice Ao11 t679.length co11] (0, 0) _ rfl (by (with_reducible repeat (first | refine blk_drewN ?_ _ | refine blk_drew ?_ | refine blk_alloc ?_ _)); refine blk_put (cs := #[.bool a0, .slice none 0 0]) ?_ 1 _ rfl; (with_reducible repeat (first | refine blk_drewN ?_ _ | refine blk_drew ?_ | refine blk_alloc ?_ _)); refine blk_put (cs := #[.bool false, .slice none 0 0]) ?_ 0 _ rfl; (with_reducible repeat (first | refine blk_drewN ?_ _ | refine blk_drew ?_ | refine blk_alloc ?_ _)); exact BK677.out) Try.underlying52 rfl (by kernel_rfl)) rfl ?_
   exact ⟨_, by first | rfl | (simp [errW_none, errW_some] <;> rfl) | (simp [*, errW_none, errW_some] <;> rfl), by (with_reducible repeat (first | apply Kd.R_alloc | apply Kd.R_drewN | apply Kd.R_drew)); exact Kd.R_mono (Kd.R_far (p := ⟨gb677, 1, none⟩) (Kd.R_far (p := ⟨gb677, 0, none⟩) (Kd.R_types HO681.out BK677.out (by decide)) (fun _ hk => hk.2) (.bool a0)) (fun _ hk => hk.2) (.slice Ao11 t679.length co11)) (fun _ hk => trivial), uB⟩
 ·
  replace c4 := Bool.eq_false_iff.mpr c4
  subst c4
  have H1 : (some (false, ([] : List Int))) = some (r1, r2) := by rw [if_neg (show ¬ (false = true) by decide)] at H; exact H
  clear H; have H := H1; clear H1
  simp only [Option.some.injEq, Prod.mk.injEq] at H
  obtain ⟨rfl, rfl⟩ := H
  go_enter Try.func83, Try.ntmps83
  go_wp2_with (first | ((with_reducible refine gate_dst (N := 4) rfl ?_); (try (refine gate_guard (by rfl) ?_; dsimp only)); refine box_event ?hg (N := 4) ?hd (cs := #[.bool false, .slice none 0 0]) (t := 52) ?hr ?_; (case hd => rfl); (case hg => rfl); (case hr => first | (go_simp; done) | (go_simp; rfl)); intro gb677 hg w13 hbox hb; have n0_ := Aside0.mk (below_step uB hb); have n1_ := Aside0.mk (hbox); have n2_ := Aside0.mk ((by rw [hg]; exact (below_size uB) : w.heap.size ≤ gb677)); have n3_ := Aside0.mk ((by rw [hg]; exact (below_size uB) : w.heap.size ≤ gb677)); clear HB; have HB := n0_; have BK677 := n1_; have GW677 := n2_; have GE677 := n3_; clear n0_ n1_ n2_ n3_; clear hb hbox hg) | ((with_reducible refine gate_callee (f := 47) rfl ?_); refine goesL_ (some 6) rfl rfl Try.func47 (by kernel_rfl) rfl #[.slice A1 l1.length c1] rfl uM ?_; (with_reducible refine (nat_Right.calls _ _ l1 false _ ?side1 ?side2 A3.out).mono ?_); (case side1 => exact uC (Kd.C_below HR1.out HB.out)); (case side2 => exact HC1.out); rintro e w' ⟨rfl, ⟨nd, rfl⟩⟩; refine ⟨_, rfl, ?_⟩; (try (rw [drewN_self w13]; generalize hq_ : World.drewN w13 _ = w13; have n0_ : Aside0 (w13.heap[gb677]? = some (.cells #[.bool false, .slice none 0 0] 52 (0, 0))) := ⟨by rw [← hq_]; exact (uK BK677.out)⟩; have n1_ : Aside0 (Below w.heap.size w w13) := ⟨by rw [← hq_]; exact uB⟩; clear BK677 HB hq_; have BK677 := n0_; have HB := n1_; clear n0_ n1_)); have hcz14_0 : w13.cell? ⟨gb677, 0, none⟩ = some (.bool false) := (blk_cell BK677.out 0).trans rfl; have hcz14_1 : w13.cell? ⟨gb677, 1, none⟩ = some (.slice none 0 0) := (blk_cell BK677.out 1).trans rfl; have hfz14_0 := blk_frozen BK677.out 0; have hfz14_1 := blk_frozen BK677.out 1))
  refine bodyPost_ret (results_cell_row rfl _ _ gb677 52 #[.bool false, .slice none 0 0] (0, 0) _ rfl (by (with_reducible repeat (first | refine blk_drewN ?_ _ | refine blk_drew ?_ | refine blk_alloc ?_ _)); refine blk_put (cs := #[.bool false, .slice none 0 0]) ?_ 1 _ rfl; (with_reducible repeat (first | refine blk_drewN ?_ _ | refine blk_drew ?_ | refine blk_alloc ?_ _)); refine blk_put (cs := #[.bool false, .slice none 0 0]) ?_ 0 _ rfl; (with_reducible repeat (first | refine blk_drewN ?_ _ | refine blk_drew ?_ | refine blk_alloc ?_ _)); exact BK677.out) Try.underlying52 rfl (by kernel_rfl)) rfl ?_
  exact ⟨_, by first | rfl | (simp [errW_none, errW_some] <;> rfl) | (simp [*, errW_none, errW_some] <;> rfl), by first | exact Kd.R_nil _ _ _ _ _ | exact Kd.N_nil _ _ _ _ _ | exact Kd.V_nil _ _ _ _ _ | exact Kd.Q_nil _ _ _ _ _ | exact Kd.S_nil _ _ _ _ _, uB⟩

end Go.Proofs.Ytgeanpnkllnipab.F
end

section
namespace Go.Proofs.Ytgeanpnkllnipab.F
open Go.RowKit Go.Proofs.YtgeanpnkllnipabW.PrintWords Go.Proofs.YtgeanpnkllnipabW.PrintLast Go.Proofs.YtgeanpnkllnipabW.PrintMore
set_option linter.unusedVariables false
set_option linter.unusedSimpArgs false
def modint_right.f : List S52 → Option Bool
  | [] => some true
  | a :: l => (modint_Right.f a.f0 a.f1).bind fun b => if b = true then modint_right.f l else some false
def modint_right.ix : List S52 → Option Nat
  | [] => some 0
  | a :: l => (modint_Right.f a.f0 a.f1).bind fun b => if b = true then (modint_right.ix l).map (· + 1) else some 0
theorem modint_right.ix_of {l : List S52} {r : Bool} (h : modint_right.f l = some r) : ∃ k, modint_right.ix l = some k ∧ k ≤ l.length ∧ (r = true ↔ k = l.length) ∧ (∀ j, j < k → modint_Right.f (l.getD j z52).f0 (l.getD j z52).f1 = some true) ∧ (k < l.length → modint_Right.f (l.getD k z52).f0 (l.getD k z52).f1 = some false) := by
  induction l generalizing r with
  | nil =>
    simp only [modint_right.f, Option.some.injEq] at h
    exact ⟨0, rfl, Nat.le_refl _, by simp [← h], fun j hj => absurd hj (Nat.not_lt_zero _), fun hj => absurd hj (Nat.not_lt_zero _)⟩
  | cons a l ih =>
    simp only [modint_right.f] at h
    cases hb : modint_Right.f a.f0 a.f1 with
    | none => rw [hb] at h; simp at h
    | some b =>
      rw [hb] at h
      simp only [Option.bind_some] at h
      cases b with
      | true =>
        simp only [if_true] at h
        obtain ⟨k, hk, hle, hr, hj, hl⟩ := ih h
        refine ⟨k + 1, by simp [modint_right.ix, hb, hk], by simp; omega, by simp [hr], ?_, ?_⟩
        · intro j hjk
          cases j with
          | zero => simpa using hb
          | succ j => simpa using hj j (by omega)
        · intro hlt
          simpa using hl (by simpa using hlt)
      | false =>
        simp at h
        refine ⟨0, by simp [modint_right.ix, hb], Nat.zero_le _, ?_, fun j hj => absurd hj (Nat.not_lt_zero _), fun _ => by simpa using hb⟩
        simp [← h]
set_option maxHeartbeats 1000000 in
theorem modint_right.closure (b0 : Bool) (A0 : Option Addr) (c0 : Nat) (l0 : List Int) (r : Bool) (w : World) (hr0 : Kd.C (Kd.int .u64) w A0 l0.length l0) (hc0 : l0.length ≤ c0) (h : modint_Right.f b0 l0 = some r) :
    Calls Try.prog 123 #[.agg #[.bool b0, .slice A0 l0.length c0]] w fun e w' => e = .returned (.bool (!r)) ∧ Below w.heap.size w w' := by
  have HR0 := Aside0.mk hr0
  have HC0 := Aside0.mk hc0
  have HH := Aside0.mk h
  have HB := Aside0.mk (Below.refl w.heap.size w)
  clear hr0 hc0 h
  go_enter Try.func123, Try.ntmps123
  go_wp2_with (first | ((with_reducible refine gate_dst (N := 1) rfl ?_); (try (refine gate_guard (by rfl) ?_; dsimp only)); refine box_event ?hg (N := 1) ?hd (cs := #[.bool b0, .slice A0 l0.length c0]) (t := 52) ?hr ?_; (case hd => rfl); (case hg => rfl); (case hr => first | (go_simp; done) | (go_simp; rfl)); intro gb622 hg w5 hbox hb; have n0_ := Aside0.mk (below_step HB.out hb); have n1_ := Aside0.mk hbox; clear HB; have HB := n0_; have BK622 := n1_; clear n0_ n1_; clear hb hbox hg; have hcz6_0 : w5.cell? ⟨gb622, 0, none⟩ = some (.bool b0) := (blk_cell BK622.out 0).trans rfl; have hcz6_1 : w5.cell? ⟨gb622, 1, none⟩ = some (.slice A0 l0.length c0) := (blk_cell BK622.out 1).trans rfl; have hfz6_0 := blk_frozen BK622.out 0; have hfz6_1 := blk_frozen BK622.out 1) | (go_at_call 79; refine (modint_Right.calls b0 A0 c0 l0 r _ ?side1 HC0.out HH.out).mono ?_; (case side1 => repeat (first | exact (Kd.C_below HR0.out HB.out) | (with_reducible refine Kd.C_alloc ?_ _) | (with_reducible refine Kd.C_drewN ?_ _) | (with_reducible refine Kd.C_drew ?_))); rintro e w' ⟨rfl, hd⟩; have n0_ := Aside0.mk (below_step (by repeat (first | (with_reducible first | exact HB.out | apply below_alloc | apply pw_below_drewN | apply below_drew1) | exact HB.out)) hd); clear HB hd; have HB := n0_; clear n0_))
  go_ret
  exact ⟨rfl, by repeat (first | (with_reducible first | exact HB.out | apply below_alloc | apply pw_below_drewN | apply below_drew1) | exact HB.out)⟩
set_option maxHeartbeats 8000000 in
set_option maxRecDepth 100000 in
theorem modint_right.index (A0 : Option Addr) (c0 : Nat) (l0 : List S52) (r : Bool) (w : World) (hr0 : Kd.C k52 w A0 l0.length l0) (hc0 : l0.length ≤ c0) (h : modint_right.f l0 = some r) :
    Calls Try.prog 133 #[.slice A0 l0.length c0, .func (.func 123) #[] #[]] w fun e w' => (∃ k : Int, e = .returned (.int .i64 k) ∧ decide (0 ≤ k) = !r) ∧ Below w.heap.size w w' := by
  have HR0 := Aside0.mk hr0
  obtain ⟨k, hk, hle, hr, hj, hl⟩ := modint_right.ix_of h
  have hbig : l0.length ≤ 9223372036854775807 := hr0.2.1
  have HJ := Aside0.mk hj
  have HL := Aside0.mk hl
  have HRR := Aside0.mk hr
  clear hr0 hc0 hj hl hk h hr
  go_enter Try.func133, Try.ntmps133
  go_wp2
  go_loopg [5, 8] l0.length (fun gg _ s8 wr => ∃ kk : Nat, kk ≤ k ∧ l0.length - kk ≤ gg ∧ s8 = .int .i64 kk ∧ Aside0 (Below w.heap.size w wr))
  case atStart => exact ⟨0, Nat.zero_le _, by omega, rfl, ⟨Below.refl _ _⟩⟩
  case round =>
    obtain ⟨kk, hkk, hg, rfl, D⟩ := hrel
    by_cases hlt : kk < l0.length
    · have hltz : (kk : Int) < (l0.length : Int) := by omega
      have hC1 : Kd.C k52 wr A0 l0.length l0 := Kd.C_below HR0.out D.out
      have h0k : (0 : Int) ≤ (kk : Int) := Int.natCast_nonneg kk
      obtain ⟨ad, A1, c1, hA, hcell, hcell1, hl1, hi1⟩ := at_T52 hC1 (kk : Int) h0k hltz
      subst hA
      simp only [Go.IntWalk.toNatUp, rd_T52] at hcell hcell1 hl1 hi1
      have HX := HJ.out kk
      have HY := HL.out
      clear hC1
      generalize hx : l0.getD kk z52 = x at hcell hcell1 hl1 hi1 HX
      obtain ⟨x0, x1⟩ := x
      by_cases hlast : kk < k
      · have hcall := Aside0.mk (modint_right.closure x0 A1 c1 x1 true wr hi1 hl1 (HX hlast))
        have D2 := D
        clear D hi1 HX HY hx
        go_wp2_with (go_at_call 123; refine hcall.out.mono ?_; rintro e w' ⟨rfl, hb⟩; have D3 := Aside0.mk (below_step D2.out hb); clear hb)
        go_roundg (l0.length - (kk + 1))
        case measure => omega
        case rel => exact ⟨kk + 1, by omega, by omega, by go_num, D3⟩
      · have hkk' : kk = k := by omega
        subst hkk'
        have HZ := HY hlt
        rw [hx] at HZ
        have hcall := Aside0.mk (modint_right.closure x0 A1 c1 x1 false wr hi1 hl1 HZ)
        have hr : r = false := by
          cases r with
          | false => rfl
          | true => have := HRR.out.1 rfl; omega
        have HR := Aside0.mk hr
        have D2 := D
        clear D hi1 HX HY hx HZ hr
        go_wp2_with (go_at_call 123; refine hcall.out.mono ?_; rintro e w' ⟨rfl, hb⟩; have D3 := Aside0.mk (below_step D2.out hb); clear hb)
        go_ret
        exact ⟨⟨_, rfl, by rw [HR.out]; simp⟩, D3.out⟩
    · have hltz : ¬ (kk : Int) < (l0.length : Int) := by omega
      have hr : r = true := HRR.out.2 (by omega)
      have HR := Aside0.mk hr
      clear hr
      go_wp2
      go_ret
      exact ⟨⟨_, rfl, by rw [HR.out]; simp⟩, D.out⟩
set_option maxHeartbeats 8000000 in
set_option maxRecDepth 100000 in
theorem modint_right.contains (A0 : Option Addr) (c0 : Nat) (l0 : List S52) (r : Bool) (w : World) (hr0 : Kd.C k52 w A0 l0.length l0) (hc0 : l0.length ≤ c0) (h : modint_right.f l0 = some r) :
    Calls Try.prog 122 #[.slice A0 l0.length c0, .func (.func 123) #[] #[]] w fun e w' => e = .returned (.bool (!r)) ∧ Below w.heap.size w w' := by
  have hcall := Aside0.mk (modint_right.index A0 c0 l0 r w hr0 hc0 h)
  clear hr0 hc0 h
  go_enter Try.func122, Try.ntmps122
  go_wp2_with (go_at_call 133; refine hcall.out.mono ?_; rintro e w' ⟨⟨k, rfl, hk⟩, hd⟩; have HK := Aside0.mk hk; have HD := Aside0.mk hd; clear hk hd)
  go_ret
  exact ⟨by rw [← HK.out]; rfl, HD.out⟩
set_option maxHeartbeats 8000000 in
set_option maxRecDepth 100000 in
theorem modint_right.calls (A0 : Option Addr) (c0 : Nat) (l0 : List S52) (r : Bool) (w : World) (hr0 : Kd.C k52 w A0 l0.length l0) (hc0 : l0.length ≤ c0) (h : modint_right.f l0 = some r) :
    Calls Try.prog 100 #[.slice A0 l0.length c0] w fun e w' => e = .returned (.bool r) ∧ Below w.heap.size w w' := by
  have hcall := Aside0.mk (modint_right.contains A0 c0 l0 r w hr0 hc0 h)
  clear hr0 hc0 h
  go_enter Try.func100, Try.ntmps100
  go_wp2_with (go_at_call 122; refine hcall.out.mono ?_; rintro e w' ⟨rfl, hd⟩; have HD := Aside0.mk hd; clear hd)
  go_ret
  exact ⟨by cases r <;> rfl, HD.out⟩
end Go.Proofs.Ytgeanpnkllnipab.F
end
