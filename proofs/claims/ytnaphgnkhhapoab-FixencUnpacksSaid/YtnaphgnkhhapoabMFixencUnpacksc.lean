/- Proved: the law FixencUnpacks of layer 7: the two that any number tells are the document's; for every input, without a condition. -/
import Derived.Test.YtnaphgnkhhapoabMFixencUnpacksb
set_option maxHeartbeats 8000000
set_option maxRecDepth 100000
section
namespace Go.Proofs.Ytnaphgnkhhapoab.F
open Go.RowKit Go.Proofs.YtnaphgnkhhapoabW.PrintWords Go.Proofs.YtnaphgnkhhapoabW.PrintLast Go.Proofs.YtnaphgnkhhapoabW.PrintMore
attribute [local go_sem] max2_int min2_int max_two min_two max_three min_three max_four min_four
set_option linter.unusedVariables false
set_option linter.unusedSimpArgs false
mutual
def windbreakref01_add.l0 : Nat → List Int → List Int → List Int → Int → Int → Option (List Int)
 | 0, _, _, _, _, _ => none
 | k + 1, x0, x1, x5, x6, x7 => if x7 < (x0.length : Int) then (windbreakref01_add.j1 k x0 x1 x5 x6 x7 true) else (windbreakref01_add.j1 k x0 x1 x5 x6 x7 (decide (x7 < (x1.length : Int))))
def windbreakref01_add.j1 : Nat → List Int → List Int → List Int → Int → Int → Bool → Option (List Int)
 | 0, _, _, _, _, _, _ => none
 | k + 1, x0, x1, x5, x6, x7, x18 => if x18 = true then ((windbreakref01_digit.f x0 x7).bind fun t672 => ((windbreakref01_digit.f x1 x7).bind fun t673 => (if x5.length < 17592186044416 then (windbreakref01_add.l0 k x0 x1 (x5 ++ [Int.tmod (IntKind.u64.wrap ((IntKind.u64.wrap (t672 + t673)) + x6)) 65536]) (IntKind.u64.wrap (Int.tdiv (IntKind.u64.wrap ((IntKind.u64.wrap (t672 + t673)) + x6)) 65536)) (wrap64 (x7 + 1))) else (none)))) else (if x5.length < 17592186044416 then ((windbreakref01_cut.f k (x5 ++ [x6])).bind fun t680 => (some t680)) else (none))
end
def windbreakref01_add.f (k : Nat) (l0 : List Int) (l1 : List Int) : Option (List Int) := windbreakref01_add.l0 k l0 l1 ([] : List Int) 0 0
theorem windbreakref01_add.calls (k : Nat) (A0 : Option Addr) (c0 : Nat) (l0 : List Int) (A1 : Option Addr) (c1 : Nat) (l1 : List Int) (r : List Int) (w : World) (hr0 : Kd.C (Kd.int .u64) w A0 l0.length l0) (hc0 : l0.length ≤ c0) (hr1 : Kd.C (Kd.int .u64) w A1 l1.length l1) (hc1 : l1.length ≤ c1) (h : windbreakref01_add.f k l0 l1 = some r) :
  Calls Try.prog 33 #[.slice A0 l0.length c0, .slice A1 l1.length c1] w fun e w' => ∃ v0_ : Value, e = .returned (v0_) ∧ Kd.R (Kd.int .u64) 42 w' w.heap.size (fun _ => True) v0_ r ∧ Below w.heap.size w w' := by
 have HR0 := Aside0.mk hr0; have HC0 := Aside0.mk hc0; clear hr0 hc0; have HR1 := Aside0.mk hr1; have HC1 := Aside0.mk hc1; clear hr1 hc1
 have HB := Aside0.mk (Below.refl w.heap.size w)
 have H : (windbreakref01_add.l0 k l0 l1 ([] : List Int) 0 0) = some r := h
 clear h
 have H' := Aside0.mk H
 clear H
 go_enter Try.func33, Try.ntmps33
 go_wp2
 go_loopg [5, 6, 7] k (fun kq v5 v6 v7 w' => ∃ (x5_1 : List Int) (x6_1 : Int) (x7_1 : Int), v6 = .int .u64 x6_1 ∧ v7 = .int .i64 x7_1 ∧ Aside0 (windbreakref01_add.l0 kq l0 l1 x5_1 x6_1 x7_1 = some r) ∧ Aside0 (kq ≤ k) ∧ Aside0 (Kd.R (Kd.int .u64) 42 w' w.heap.size (fun _ => True) v5 x5_1) ∧ Aside0 (Below w.heap.size w w'))
 case atStart => exact ⟨(([] : List Int)), (0), (0), uG, uG, H', ⟨Nat.le_refl _⟩, ⟨uI⟩, ⟨uB⟩⟩
 case round =>
  clear H'
  obtain ⟨x5_1, x6_1, x7_1, rfl, rfl, HA, HK1, HO_5, HB⟩ := hrel
  cases gk with
  | zero => exact absurd HA.out (by simp [windbreakref01_add.l0])
  | succ k1 =>
   have H := HA.out
   clear HA
   simp only [windbreakref01_add.l0] at H
   have HC3 := Aside0.mk H; clear H
   go_upto_region 4 with (fail)
   go_cut [18] (fun v18 wc => ∃ (kq : Nat) (x18_2 : Bool), v18 = .bool x18_2 ∧ Aside0 (windbreakref01_add.j1 kq l0 l1 x5_1 x6_1 x7_1 x18_2 = some r) ∧ Aside0 (kq ≤ k1) ∧ Aside0 (Kd.R (Kd.int .u64) 42 wc w.heap.size (fun _ => True) u5 x5_1) ∧ Aside0 (Below w.heap.size w wc))
   case first =>
    have H := HC3.out
    clear HC3
    by_cases c4 : x7_1 < (l0.length : Int)
    ·
     rw [if_pos c4] at H
     have c4b0 := decide_eq_true c4
     clear c4
     (first | rw [c4b0] | (simp only [i64_w, i32_w]; rw [c4b0]) | skip)
     have H' := Aside0.mk H
     clear H
     go_wp2
     go_meet
     case rel => exact ⟨_, (true), uG, H', ⟨by have := HK1.out; first | omega | exact Nat.le_refl _⟩, ⟨uR HO_5.out⟩, ⟨uB⟩⟩
    rw [if_neg c4] at H
    have c4b0 := decide_eq_false c4
    clear c4
    (first | rw [c4b0] | (simp only [i64_w, i32_w]; rw [c4b0]) | skip)
    have H' := Aside0.mk H
    clear H
    go_wp2
    go_meet
    case rel => exact ⟨_, (decide (x7_1 < (l1.length : Int))), uG, H', ⟨by have := HK1.out; first | omega | exact Nat.le_refl _⟩, ⟨uR HO_5.out⟩, ⟨uB⟩⟩
   case rest =>
    clear HC3
    obtain ⟨kq, x18_2, rfl, HA, HJ2, HO_5, HB⟩ := hcut
    cases kq with
    | zero => exact absurd HA.out (by simp [windbreakref01_add.j1])
    | succ kj2 =>
     have H := HA.out
     clear HA
     simp only [windbreakref01_add.j1] at H
     by_cases c5 : x18_2 = true
     ·
      subst c5
      have H1 : ((windbreakref01_digit.f l0 x7_1).bind fun t672 => ((windbreakref01_digit.f l1 x7_1).bind fun t673 => (if x5_1.length < 17592186044416 then (windbreakref01_add.l0 kj2 l0 l1 (x5_1 ++ [Int.tmod (IntKind.u64.wrap ((IntKind.u64.wrap (t672 + t673)) + x6_1)) 65536]) (IntKind.u64.wrap (Int.tdiv (IntKind.u64.wrap ((IntKind.u64.wrap (t672 + t673)) + x6_1)) 65536)) (wrap64 (x7_1 + 1))) else (none)))) = some r := by rw [if_pos rfl] at H; exact H
      clear H; have H := H1; clear H1
      replace H := ub H; obtain ⟨t672, A6, H⟩ := H
      replace H := ub H; obtain ⟨t673, A7, H⟩ := H
      replace H := uT H; obtain ⟨c8, H⟩ := H
      have LMc8 := Aside0.mk c8; clear c8
      obtain ⟨y674, hy674⟩ : ∃ y_ : List Int, y_ = (x5_1 ++ [Int.tmod (IntKind.u64.wrap ((IntKind.u64.wrap (t672 + t673)) + x6_1)) 65536]) := ⟨_, rfl⟩
      replace H : (windbreakref01_add.l0 kj2 l0 l1 y674 (IntKind.u64.wrap (Int.tdiv (IntKind.u64.wrap ((IntKind.u64.wrap (t672 + t673)) + x6_1)) 65536)) (wrap64 (x7_1 + 1))) = some r := by first | (rw [hy674]; with_reducible exact H) | (have H2_ := (Option.bind_some _ _).symm.trans H; rw [hy674]; with_reducible exact H2_) | (have H2_ := (Option.bind_some _ _).symm.trans H; with_reducible exact H2_) | with_reducible exact H | (rw [hy674]; exact H) | exact H
      have Ny674 := Aside0.mk hy674; clear hy674
      have H' := Aside0.mk H
      clear H
      go_wp2_with (first | ((with_reducible refine ug 59 rfl ?_); refine uh (some 23) rfl Try.func59 #[.slice A0 l0.length c0, .int .i64 x7_1] ?_; (with_reducible refine (windbreakref01_digit.calls _ _ l0 x7_1 t672 _ ?side1 ?side2 A6.out).mono ?_); (case side1 => exact uC (Kd.C_below HR0.out HB.out)); (case side2 => exact HC0.out); rintro e w' ⟨rfl, ⟨nd, rfl⟩⟩; refine ⟨_, rfl, ?_⟩) | ((with_reducible refine ug 59 rfl ?_); refine uh (some 26) rfl Try.func59 #[.slice A1 l1.length c1, .int .i64 x7_1] ?_; (with_reducible refine (windbreakref01_digit.calls _ _ l1 x7_1 t673 _ ?side1 ?side2 A7.out).mono ?_); (case side1 => exact uC (Kd.C_below HR1.out uB)); (case side2 => exact HC1.out); rintro e w' ⟨rfl, ⟨nd, rfl⟩⟩; refine ⟨_, rfl, ?_⟩) | ((with_reducible refine gate_builtin (b := .append) (xs := #[.tmp 30, .tmp 33]) rfl ?_); (try (refine gate_guard (by rfl) ?_; dsimp only)); at_builtin; refine Kd.R_append (Kd.int .u64) (w0 := w) w.heap.size rfl (.tmp 30) (.tmp 33) 62 42 (.int .u64 0) 8 rfl Try.underlying62 info42 rfl (by decide) (by omega) u5 x5_1 (Int.tmod (IntKind.u64.wrap ((IntKind.u64.wrap (t672 + t673)) + x6_1)) 65536) [.int .u64 (Int.tmod (IntKind.u64.wrap ((IntKind.u64.wrap (t672 + t673)) + x6_1)) 65536)] (fun _ => True) (fun _ => False) rfl rfl ?aP (fun _ hk => hk.elim) ?aF ?aO ?aB ?aS ?aL ?_; (case aP => exact rfl); (case aB => exact uB); (case aF => exact (fun _ _ => trivial)); (case aO => exact (uR HO_5.out)); (case aS => exact (below_size uB)); (case aL => have := LMc8.out; omega); intro v675 w9 ho hb hg hat; rw [← Ny674.out] at ho; replace HB := Aside0.mk (hb); have HO676 := Aside0.mk (ho); clear HO_5; clear ho hb hg hat))
      go_roundg kj2
      case measure => have := HK1.out; have := HJ2.out; omega
      case rel => exact ⟨(y674), (IntKind.u64.wrap (Int.tdiv (IntKind.u64.wrap ((IntKind.u64.wrap (t672 + t673)) + x6_1)) 65536)), (wrap64 (x7_1 + 1)), uG, uG, H', ⟨by have := HK1.out; have := HJ2.out; omega⟩, ⟨uR HO676.out⟩, ⟨uB⟩⟩
     replace c5 := Bool.eq_false_iff.mpr c5
     subst c5
     have H1 : (if x5_1.length < 17592186044416 then ((windbreakref01_cut.f kj2 (x5_1 ++ [x6_1])).bind fun t680 => (some t680)) else (none)) = some r := by rw [if_neg (show ¬ (false = true) by decide)] at H; exact H
     clear H; have H := H1; clear H1
     replace H := uT H; obtain ⟨c10, H⟩ := H
     have LMc10 := Aside0.mk c10; clear c10
     obtain ⟨y677, hy677⟩ : ∃ y_ : List Int, y_ = (x5_1 ++ [x6_1]) := ⟨_, rfl⟩
     replace H : ((windbreakref01_cut.f kj2 y677).bind fun t680 => (some t680)) = some r := by first | (rw [hy677]; with_reducible exact H) | (have H2_ := (Option.bind_some _ _).symm.trans H; rw [hy677]; with_reducible exact H2_) | (have H2_ := (Option.bind_some _ _).symm.trans H; with_reducible exact H2_) | with_reducible exact H | (rw [hy677]; exact H) | exact H
     have Ny677 := Aside0.mk hy677; clear hy677
     replace H := ub H; obtain ⟨t680, A11, H⟩ := H
     obtain rfl := Option.some.inj H
     go_wp2_with (first | ((with_reducible refine gate_builtin (b := .append) (xs := #[.tmp 37, .tmp 39]) rfl ?_); (try (refine gate_guard (by rfl) ?_; dsimp only)); at_builtin; refine Kd.R_append (Kd.int .u64) (w0 := w) w.heap.size rfl (.tmp 37) (.tmp 39) 62 42 (.int .u64 0) 8 rfl Try.underlying62 info42 rfl (by decide) (by omega) u5 x5_1 x6_1 [.int .u64 x6_1] (fun _ => True) (fun _ => False) rfl rfl ?aP (fun _ hk => hk.elim) ?aF ?aO ?aB ?aS ?aL ?_; (case aP => exact rfl); (case aB => exact uB); (case aF => exact (fun _ _ => trivial)); (case aO => exact (uR HO_5.out)); (case aS => exact (below_size uB)); (case aL => have := LMc10.out; omega); intro v678 w12 ho hb hg hat; rw [← Ny677.out] at ho; replace HB := Aside0.mk (hb); have HO679 := Aside0.mk (ho); clear HO_5; clear ho hb hg hat; obtain ⟨Ao13, co13, eo13⟩ := Kd.R_slice HO679.out; subst eo13) | ((with_reducible refine ug 60 rfl ?_); refine uh (some 41) rfl Try.func60 #[.slice Ao13 y677.length co13] ?_; (with_reducible refine (windbreakref01_cut.calls kj2 (fun k_ => some k_ = (.slice Ao13 y677.length co13 : Value).ownBlock) (.slice Ao13 y677.length co13) y677 t680 w _ ?side1 ?side2 A11.out).mono ?_); (case side1 => repeat (first | (with_reducible first | exact HB.out | apply below_alloc | apply pw_below_drewN | apply below_drew1) | exact HB.out)); (case side2 => exact Kd.R_tight rfl HO679.out); rintro e w14 ⟨v681, rfl, ho0, hb, hkp⟩; refine ⟨_, rfl, ?_⟩; have HO682 := Aside0.mk (Kd.R_mono (ok' := fun k_ => True) ho0 (fun k_ hk_ => trivial)); replace HB := Aside0.mk (hb); clear HO679; (try clear hb); (try clear hkp); (try clear ho0)))
     go_ret
     exact ⟨_, uF, uR HO682.out, uB⟩
def windbreakref01_Add.j0 : Nat → List Int → List Int → Bool → Option (List Int × Int)
 | 0, _, _, _ => none
 | k + 1, x0, x1, x17 => if x17 = true then (some (([] : List Int), 1)) else ((windbreakref01_In.f k x0).bind fun t685 => ((windbreakref01_In.f k x1).bind fun t688 => ((windbreakref01_add.f k t685 t688).bind fun t691 => ((windbreakref01_told.f k t691).bind fun bt694 => (some (bt694.1, bt694.2))))))
def windbreakref01_Add.f (k : Nat) (l0 : List Int) (l1 : List Int) : Option (List Int × Int) := (windbreakref01_Right.f l0).bind fun t683 => ((windbreakref01_Right.f l1).bind fun t684 => (if t683 = true then (windbreakref01_Add.j0 k l0 l1 (!t684)) else (windbreakref01_Add.j0 k l0 l1 true)))
theorem windbreakref01_Add.calls (k : Nat) (A0 : Option Addr) (c0 : Nat) (l0 : List Int) (A1 : Option Addr) (c1 : Nat) (l1 : List Int) (r1 : List Int) (r2 : Int) (w : World) (hr0 : Kd.C (Kd.int .u64) w A0 l0.length l0) (hc0 : l0.length ≤ c0) (hr1 : Kd.C (Kd.int .u64) w A1 l1.length l1) (hc1 : l1.length ≤ c1) (h : windbreakref01_Add.f k l0 l1 = some (r1, r2)) :
  Calls Try.prog 11 #[.slice A0 l0.length c0, .slice A1 l1.length c1] w fun e w' => ∃ v0_ : Value, e = .returned (.tuple #[v0_, .int .i64 r2]) ∧ Kd.R (Kd.int .u64) 42 w' w.heap.size (fun _ => True) v0_ r1 ∧ Below w.heap.size w w' := by
 have HR0 := Aside0.mk hr0; have HC0 := Aside0.mk hc0; clear hr0 hc0; have HR1 := Aside0.mk hr1; have HC1 := Aside0.mk hc1; clear hr1 hc1
 have HB := Aside0.mk (Below.refl w.heap.size w)
 have H : ((windbreakref01_Right.f l0).bind fun t683 => ((windbreakref01_Right.f l1).bind fun t684 => (if t683 = true then (windbreakref01_Add.j0 k l0 l1 (!t684)) else (windbreakref01_Add.j0 k l0 l1 true)))) = some (r1, r2) := h
 clear h
 replace H := ub H; obtain ⟨t683, A3, H⟩ := H
 replace H := ub H; obtain ⟨t684, A4, H⟩ := H
 have HC5 := Aside0.mk H; clear H
 go_enter Try.func11, Try.ntmps11
 go_upto_region 3 with (first | ((with_reducible refine ug 31 rfl ?_); refine uh (some 9) rfl Try.func31 #[.slice A0 l0.length c0] ?_; (with_reducible refine (windbreakref01_Right.calls _ _ l0 t683 _ ?side1 ?side2 A3.out).mono ?_); (case side1 => exact uC HR0.out); (case side2 => exact HC0.out); rintro e w' ⟨rfl, ⟨nd, rfl⟩⟩; refine ⟨_, rfl, ?_⟩) | ((with_reducible refine ug 31 rfl ?_); refine uh (some 11) rfl Try.func31 #[.slice A1 l1.length c1] ?_; (with_reducible refine (windbreakref01_Right.calls _ _ l1 t684 _ ?side1 ?side2 A4.out).mono ?_); (case side1 => exact uC HR1.out); (case side2 => exact HC1.out); rintro e w' ⟨rfl, ⟨nd, rfl⟩⟩; refine ⟨_, rfl, ?_⟩))
 (try simp only [Act.put, List.setIfInBounds_toArray, List.set_cons_zero, List.set_cons_succ])
 go_cut [17] (fun v17 wc => ∃ (kq : Nat) (x17_4 : Bool), v17 = .bool x17_4 ∧ Aside0 (windbreakref01_Add.j0 kq l0 l1 x17_4 = some (r1, r2)) ∧ Aside0 (kq ≤ k) ∧ Aside0 (Below w.heap.size w wc))
 case first =>
  have H := HC5.out
  clear HC5
  by_cases c6 : t683 = true
  ·
   subst c6
   have H1 : (windbreakref01_Add.j0 k l0 l1 (!t684)) = some (r1, r2) := by rw [if_pos rfl] at H; exact H
   clear H; have H := H1; clear H1
   have H' := Aside0.mk H
   clear H
   go_wp2
   go_meet
   case rel => exact ⟨_, (!t684), uG, H', ⟨uW⟩, ⟨uB⟩⟩
  replace c6 := Bool.eq_false_iff.mpr c6
  subst c6
  have H1 : (windbreakref01_Add.j0 k l0 l1 true) = some (r1, r2) := by rw [if_neg (show ¬ (false = true) by decide)] at H; exact H
  clear H; have H := H1; clear H1
  have H' := Aside0.mk H
  clear H
  go_wp2
  go_meet
  case rel => exact ⟨_, (true), uG, H', ⟨uW⟩, ⟨uB⟩⟩
 case rest =>
  clear HC5
  obtain ⟨kq, x17_4, rfl, HA, HJ4, HB⟩ := hcut
  cases kq with
  | zero => exact absurd HA.out (by simp [windbreakref01_Add.j0])
  | succ kj4 =>
   have H := HA.out
   clear HA
   simp only [windbreakref01_Add.j0] at H
   by_cases c7 : x17_4 = true
   ·
    subst c7
    have H1 : (some (([] : List Int), 1)) = some (r1, r2) := by rw [if_pos rfl] at H; exact H
    clear H; have H := H1; clear H1
    simp only [Option.some.injEq, Prod.mk.injEq] at H
    obtain ⟨rfl, rfl⟩ := H
    go_wp2
    go_ret2
    exact ⟨_, uF, uI, uB⟩
   replace c7 := Bool.eq_false_iff.mpr c7
   subst c7
   have H1 : ((windbreakref01_In.f kj4 l0).bind fun t685 => ((windbreakref01_In.f kj4 l1).bind fun t688 => ((windbreakref01_add.f kj4 t685 t688).bind fun t691 => ((windbreakref01_told.f kj4 t691).bind fun bt694 => (some (bt694.1, bt694.2)))))) = some (r1, r2) := by rw [if_neg (show ¬ (false = true) by decide)] at H; exact H
   clear H; have H := H1; clear H1
   replace H := ub H; obtain ⟨t685, A8, H⟩ := H
   replace H := ub H; obtain ⟨t688, A9, H⟩ := H
   replace H := ub H; obtain ⟨t691, A10, H⟩ := H
   replace H := ub H; obtain ⟨⟨t694, t695⟩, A11, H⟩ := H
   (try dsimp only at H)
   simp only [Option.some.injEq, Prod.mk.injEq] at H
   obtain ⟨rfl, rfl⟩ := H
   go_wp2_with (first | ((with_reducible refine ug 34 rfl ?_); refine uh (some 19) rfl Try.func34 #[.slice A0 l0.length c0] ?_; (with_reducible refine (windbreakref01_In.calls kj4 _ _ l0 t685 _ ?side1 ?side2 A8.out).mono ?_); (case side1 => exact uC (Kd.C_below HR0.out HB.out)); (case side2 => exact HC0.out); rintro e w12 ⟨v686, rfl, ho0, hb⟩; refine ⟨_, rfl, ?_⟩; have HO687 := ulo ho0; replace HB := uy hb; (try clear hb ho0)) | ((with_reducible refine ug 34 rfl ?_); refine uh (some 21) rfl Try.func34 #[.slice A1 l1.length c1] ?_; (with_reducible refine (windbreakref01_In.calls kj4 _ _ l1 t688 _ ?side1 ?side2 A9.out).mono ?_); (case side1 => exact uC (Kd.C_below HR1.out HB.out)); (case side2 => exact HC1.out); rintro e w13 ⟨v689, rfl, ho0, hb⟩; refine ⟨_, rfl, ?_⟩; have HO690 := ulo (unw ho0 HO687); replace HO687 := ueR HO687 ho0 hb; replace HB := uy hb; (try clear hb ho0); obtain ⟨Ao14, co14, eo14⟩ := Kd.R_slice HO687.out; subst eo14; obtain ⟨Ao15, co15, eo15⟩ := Kd.R_slice HO690.out; subst eo15) | ((with_reducible refine ug 33 rfl ?_); refine uh (some 22) rfl Try.func33 #[.slice Ao14 t685.length co14, .slice Ao15 t688.length co15] ?_; (with_reducible refine (windbreakref01_add.calls kj4 _ _ t685 _ _ t688 t691 _ ?side1 ?side2 ?side3 ?side4 A10.out).mono ?_); (case side1 => exact uC (Kd.R_reads' HO687.out).2.2); (case side2 => exact (Kd.R_reads' HO687.out).2.1); (case side3 => exact uC (Kd.R_reads' HO690.out).2.2); (case side4 => exact (Kd.R_reads' HO690.out).2.1); rintro e w16 ⟨v692, rfl, ho0, hb⟩; refine ⟨_, rfl, ?_⟩; have HO693 := ulo (unw (unw ho0 HO687) HO690); replace HO687 := ueR HO687 ho0 hb; replace HO690 := ueR HO690 ho0 hb; replace HB := uy hb; (try clear hb ho0); obtain ⟨Ao17, co17, eo17⟩ := Kd.R_slice HO693.out; subst eo17) | ((with_reducible refine ug 32 rfl ?_); refine uh (some 23) rfl Try.func32 #[.slice Ao17 t691.length co17] ?_; (with_reducible refine (windbreakref01_told.calls kj4 _ _ t691 t694 t695 _ ?side1 ?side2 A11.out).mono ?_); (case side1 => exact uC (Kd.R_reads' HO693.out).2.2); (case side2 => exact (Kd.R_reads' HO693.out).2.1); rintro e w18 ⟨v696, rfl, ho0, hb⟩; refine ⟨_, rfl, ?_⟩; have HO697 := ulo (unw (unw (unw ho0 HO687) HO690) HO693); replace HO687 := ueR HO687 ho0 hb; replace HO690 := ueR HO690 ho0 hb; replace HO693 := ueR HO693 ho0 hb; replace HB := uy hb; (try clear hb ho0)))
   go_ret2
   exact ⟨_, uF, by exact uR (Kd.R_mono HO697.out (fun _ hk => trivial)), uB⟩
def windbreakref01_Div.j0 : Nat → List Int → List Int → Bool → Option (List Int × List Int × Int)
 | 0, _, _, _ => none
 | k + 1, x0, x1, x24 => if x24 = true then (some (([] : List Int), ([] : List Int), 1)) else (if (x1.length : Int) = 0 then (some (([] : List Int), ([] : List Int), 3)) else ((windbreakref01_In.f k x0).bind fun t700 => ((windbreakref01_In.f k x1).bind fun t703 => ((windbreakref01_div.f k t700 t703).bind fun bt706 => ((windbreakref01_Out.f k bt706.1).bind fun bt712 => ((windbreakref01_Out.f k bt706.2).bind fun bt716 => (some (bt712.1, bt716.1, 0))))))))
def windbreakref01_Div.f (k : Nat) (l0 : List Int) (l1 : List Int) : Option (List Int × List Int × Int) := (windbreakref01_Right.f l0).bind fun t698 => ((windbreakref01_Right.f l1).bind fun t699 => (if t698 = true then (windbreakref01_Div.j0 k l0 l1 (!t699)) else (windbreakref01_Div.j0 k l0 l1 true)))
theorem windbreakref01_Div.calls (k : Nat) (A0 : Option Addr) (c0 : Nat) (l0 : List Int) (A1 : Option Addr) (c1 : Nat) (l1 : List Int) (r1 : List Int) (r2 : List Int) (r3 : Int) (w : World) (hr0 : Kd.C (Kd.int .u64) w A0 l0.length l0) (hc0 : l0.length ≤ c0) (hr1 : Kd.C (Kd.int .u64) w A1 l1.length l1) (hc1 : l1.length ≤ c1) (h : windbreakref01_Div.f k l0 l1 = some (r1, r2, r3)) :
  Calls Try.prog 35 #[.slice A0 l0.length c0, .slice A1 l1.length c1] w fun e w' => ∃ v0_ v1_ : Value, e = .returned (.tuple #[v0_, v1_, .int .i64 r3]) ∧ Kd.R (Kd.int .u64) 42 w' w.heap.size (fun k_ => some k_ ≠ (v1_ : Value).ownBlock) v0_ r1 ∧ Kd.R (Kd.int .u64) 42 w' w.heap.size (fun k_ => some k_ ≠ (v0_ : Value).ownBlock) v1_ r2 ∧ Below w.heap.size w w' := by
 have HR0 := Aside0.mk hr0; have HC0 := Aside0.mk hc0; clear hr0 hc0; have HR1 := Aside0.mk hr1; have HC1 := Aside0.mk hc1; clear hr1 hc1
 have HB := Aside0.mk (Below.refl w.heap.size w)
 have H : ((windbreakref01_Right.f l0).bind fun t698 => ((windbreakref01_Right.f l1).bind fun t699 => (if t698 = true then (windbreakref01_Div.j0 k l0 l1 (!t699)) else (windbreakref01_Div.j0 k l0 l1 true)))) = some (r1, r2, r3) := h
 clear h
 replace H := ub H; obtain ⟨t698, A3, H⟩ := H
 replace H := ub H; obtain ⟨t699, A4, H⟩ := H
 have HC5 := Aside0.mk H; clear H
 go_enter Try.func35, Try.ntmps35
 go_upto_region 3 with (first | ((with_reducible refine ug 31 rfl ?_); refine uh (some 16) rfl Try.func31 #[.slice A0 l0.length c0] ?_; (with_reducible refine (windbreakref01_Right.calls _ _ l0 t698 _ ?side1 ?side2 A3.out).mono ?_); (case side1 => exact uC HR0.out); (case side2 => exact HC0.out); rintro e w' ⟨rfl, ⟨nd, rfl⟩⟩; refine ⟨_, rfl, ?_⟩) | ((with_reducible refine ug 31 rfl ?_); refine uh (some 18) rfl Try.func31 #[.slice A1 l1.length c1] ?_; (with_reducible refine (windbreakref01_Right.calls _ _ l1 t699 _ ?side1 ?side2 A4.out).mono ?_); (case side1 => exact uC HR1.out); (case side2 => exact HC1.out); rintro e w' ⟨rfl, ⟨nd, rfl⟩⟩; refine ⟨_, rfl, ?_⟩))
 (try simp only [Act.put, List.setIfInBounds_toArray, List.set_cons_zero, List.set_cons_succ])
 go_cut [24] (fun v24 wc => ∃ (kq : Nat) (x24_4 : Bool), v24 = .bool x24_4 ∧ Aside0 (windbreakref01_Div.j0 kq l0 l1 x24_4 = some (r1, r2, r3)) ∧ Aside0 (kq ≤ k) ∧ Aside0 (Below w.heap.size w wc))
 case first =>
  have H := HC5.out
  clear HC5
  by_cases c6 : t698 = true
  ·
   subst c6
   have H1 : (windbreakref01_Div.j0 k l0 l1 (!t699)) = some (r1, r2, r3) := by rw [if_pos rfl] at H; exact H
   clear H; have H := H1; clear H1
   have H' := Aside0.mk H
   clear H
   go_wp2
   go_meet
   case rel => exact ⟨_, (!t699), uG, H', ⟨uW⟩, ⟨uB⟩⟩
  replace c6 := Bool.eq_false_iff.mpr c6
  subst c6
  have H1 : (windbreakref01_Div.j0 k l0 l1 true) = some (r1, r2, r3) := by rw [if_neg (show ¬ (false = true) by decide)] at H; exact H
  clear H; have H := H1; clear H1
  have H' := Aside0.mk H
  clear H
  go_wp2
  go_meet
  case rel => exact ⟨_, (true), uG, H', ⟨uW⟩, ⟨uB⟩⟩
 case rest =>
  clear HC5
  obtain ⟨kq, x24_4, rfl, HA, HJ4, HB⟩ := hcut
  cases kq with
  | zero => exact absurd HA.out (by simp [windbreakref01_Div.j0])
  | succ kj4 =>
   have H := HA.out
   clear HA
   simp only [windbreakref01_Div.j0] at H
   by_cases c7 : x24_4 = true
   ·
    subst c7
    have H1 : (some (([] : List Int), ([] : List Int), 1)) = some (r1, r2, r3) := by rw [if_pos rfl] at H; exact H
    clear H; have H := H1; clear H1
    simp only [Option.some.injEq, Prod.mk.injEq] at H
    obtain ⟨rfl, rfl, rfl⟩ := H
    go_wp2
    go_ret3
    exact ⟨_, _, uF, uI, uI, uB⟩
   replace c7 := Bool.eq_false_iff.mpr c7
   subst c7
   have H1 : (if (l1.length : Int) = 0 then (some (([] : List Int), ([] : List Int), 3)) else ((windbreakref01_In.f kj4 l0).bind fun t700 => ((windbreakref01_In.f kj4 l1).bind fun t703 => ((windbreakref01_div.f kj4 t700 t703).bind fun bt706 => ((windbreakref01_Out.f kj4 bt706.1).bind fun bt712 => ((windbreakref01_Out.f kj4 bt706.2).bind fun bt716 => (some (bt712.1, bt716.1, 0)))))))) = some (r1, r2, r3) := by rw [if_neg (show ¬ (false = true) by decide)] at H; exact H
   clear H; have H := H1; clear H1
   by_cases c8 : (l1.length : Int) = 0
   ·
    rw [if_pos c8] at H
    have c8b0 := beq_iff_eq.mpr c8
    have c8b1 := bne_eq_false_iff_eq.mpr c8
    clear c8
    simp only [Option.some.injEq, Prod.mk.injEq] at H
    obtain ⟨rfl, rfl, rfl⟩ := H
    go_wp2
    go_ret3
    exact ⟨_, _, uF, uI, uI, uB⟩
   rw [if_neg c8] at H
   have c8b0 := beq_eq_false_iff_ne.mpr c8
   have c8b1 := bne_iff_ne.mpr c8
   have c8b2 : ¬ (l1 = []) := fun h_ => c8 (by rw [h_]; rfl)
   replace H := ub H; obtain ⟨t700, A9, H⟩ := H
   replace H := ub H; obtain ⟨t703, A10, H⟩ := H
   replace H := ub H; obtain ⟨⟨t706, t707⟩, A11, H⟩ := H
   (try dsimp only at H)
   replace H := ub H; obtain ⟨⟨t712, t713⟩, A12, H⟩ := H
   (try dsimp only at H)
   replace H := ub H; obtain ⟨⟨t716, t717⟩, A13, H⟩ := H
   (try dsimp only at H)
   simp only [Option.some.injEq, Prod.mk.injEq] at H
   obtain ⟨rfl, rfl, rfl⟩ := H
   go_wp2_with (first | ((with_reducible refine ug 34 rfl ?_); refine uh (some 30) rfl Try.func34 #[.slice A0 l0.length c0] ?_; (with_reducible refine (windbreakref01_In.calls kj4 _ _ l0 t700 _ ?side1 ?side2 A9.out).mono ?_); (case side1 => exact uC (Kd.C_below HR0.out HB.out)); (case side2 => exact HC0.out); rintro e w14 ⟨v701, rfl, ho0, hb⟩; refine ⟨_, rfl, ?_⟩; have HO702 := ulo ho0; replace HB := uy hb; (try clear hb ho0)) | ((with_reducible refine ug 34 rfl ?_); refine uh (some 32) rfl Try.func34 #[.slice A1 l1.length c1] ?_; (with_reducible refine (windbreakref01_In.calls kj4 _ _ l1 t703 _ ?side1 ?side2 A10.out).mono ?_); (case side1 => exact uC (Kd.C_below HR1.out HB.out)); (case side2 => exact HC1.out); rintro e w15 ⟨v704, rfl, ho0, hb⟩; refine ⟨_, rfl, ?_⟩; have HO705 := ulo (unw ho0 HO702); replace HO702 := ueR HO702 ho0 hb; replace HB := uy hb; (try clear hb ho0); obtain ⟨Ao16, co16, eo16⟩ := Kd.R_slice HO702.out; subst eo16; obtain ⟨Ao17, co17, eo17⟩ := Kd.R_slice HO705.out; subst eo17) | ((with_reducible refine ug 61 rfl ?_); refine uh (some 33) rfl Try.func61 #[.slice Ao16 t700.length co16, .slice Ao17 t703.length co17] ?_; (with_reducible refine (windbreakref01_div.calls kj4 _ _ t700 _ _ t703 t706 t707 _ ?side1 ?side2 ?side3 ?side4 A11.out).mono ?_); (case side1 => exact uC (Kd.R_reads' HO702.out).2.2); (case side2 => exact (Kd.R_reads' HO702.out).2.1); (case side3 => exact uC (Kd.R_reads' HO705.out).2.2); (case side4 => exact (Kd.R_reads' HO705.out).2.1); rintro e w18 ⟨v708, v710, rfl, ho0, ho1, hb⟩; refine ⟨_, rfl, ?_⟩; have HO709 := ulo (unw (unw ho0 HO702) HO705); have HO711 := ulo (unw (unw ho1 HO702) HO705); replace HO702 := Aside0.mk (Kd.R_mono (Kd.R_told (Kd.R_told (Kd.R_old (uR HO702.out) hb) (Kd.R_base ho0)) (Kd.R_base ho1)) (fun _ h_ => h_.1)); replace HO705 := Aside0.mk (Kd.R_mono (Kd.R_told (Kd.R_told (Kd.R_old (uR HO705.out) hb) (Kd.R_base ho0)) (Kd.R_base ho1)) (fun _ h_ => h_.1)); replace HB := uy hb; (try clear hb ho0 ho1); obtain ⟨Ao19, co19, eo19⟩ := Kd.R_slice HO709.out; subst eo19) | ((with_reducible refine ug 58 rfl ?_); refine uh (some 38) rfl Try.func58 #[.slice Ao19 t706.length co19] ?_; (with_reducible refine (windbreakref01_Out.calls kj4 _ _ t706 t712 t713 _ ?side1 ?side2 A12.out).mono ?_); (case side1 => exact uC (Kd.R_reads' HO709.out).2.2); (case side2 => exact (Kd.R_reads' HO709.out).2.1); rintro e w20 ⟨v714, rfl, ho0, hb⟩; refine ⟨_, rfl, ?_⟩; have HO715 := ulo (unw (unw (unw (unw ho0 HO702) HO705) HO709) HO711); replace HO702 := ueR HO702 ho0 hb; replace HO705 := ueR HO705 ho0 hb; replace HO709 := ueR HO709 ho0 hb; replace HO711 := ueR HO711 ho0 hb; replace HB := uy hb; (try clear hb ho0); obtain ⟨Ao21, co21, eo21⟩ := Kd.R_slice HO711.out; subst eo21) | ((with_reducible refine ug 58 rfl ?_); refine uh (some 43) rfl Try.func58 #[.slice Ao21 t707.length co21] ?_; (with_reducible refine (windbreakref01_Out.calls kj4 _ _ t707 t716 t717 _ ?side1 ?side2 A13.out).mono ?_); (case side1 => exact uC (Kd.R_reads' HO711.out).2.2); (case side2 => exact (Kd.R_reads' HO711.out).2.1); rintro e w22 ⟨v718, rfl, ho0, hb⟩; refine ⟨_, rfl, ?_⟩; have HO719 := ulo (unw (unw (unw (unw (unw ho0 HO702) HO705) HO709) HO711) HO715); replace HO702 := ueR HO702 ho0 hb; replace HO705 := ueR HO705 ho0 hb; replace HO709 := ueR HO709 ho0 hb; replace HO711 := ueR HO711 ho0 hb; replace HO715 := ueR HO715 ho0 hb; replace HB := uy hb; (try clear hb ho0)))
   go_ret3
   exact ⟨_, _, uF, by exact uR (Kd.R_mono HO715.out (fun _ hk => hk.2)), by (with_reducible repeat (first | apply Kd.R_alloc | apply Kd.R_drewN | apply Kd.R_drew)); exact Kd.R_mono HO719.out (fun _ hk => hk.2), uB⟩
def windbreakref03_Right.f (a0_0 : Bool) (l0_1 : List Int) : Option (Bool) := (windbreakref01_Right.f l0_1).bind fun t721 => (if t721 = true then (if a0_0 = true then (some (decide ((l0_1.length : Int) > 0))) else (some true)) else (some false))
theorem windbreakref03_Right.calls (a0_0 : Bool) (A0_1 : Option Addr) (c0_1 : Nat) (l0_1 : List Int) (r : Bool) (w : World) (hr0_1 : Kd.C (Kd.int .u64) w A0_1 l0_1.length l0_1) (hc0_1 : l0_1.length ≤ c0_1) (h : windbreakref03_Right.f a0_0 l0_1 = some r) :
  Calls Try.prog 52 #[.agg #[.bool a0_0, .slice A0_1 l0_1.length c0_1]] w fun e w' => e = .returned (.bool r) ∧ Below w.heap.size w w' := by
 have hu44 := Try.underlying44
 have HR0_1 := Aside0.mk hr0_1; have HC0_1 := Aside0.mk hc0_1; clear hr0_1 hc0_1
 have HB := Aside0.mk (Below.refl w.heap.size w)
 have H : ((windbreakref01_Right.f l0_1).bind fun t721 => (if t721 = true then (if a0_0 = true then (some (decide ((l0_1.length : Int) > 0))) else (some true)) else (some false))) = some r := h
 clear h
 replace H := ub H; obtain ⟨t721, A2, H⟩ := H
 by_cases c3 : t721 = true
 ·
  subst c3
  have H1 : (if a0_0 = true then (some (decide ((l0_1.length : Int) > 0))) else (some true)) = some r := by rw [if_pos rfl] at H; exact H
  clear H; have H := H1; clear H1
  by_cases c4 : a0_0 = true
  ·
   subst c4
   have H1 : (some (decide ((l0_1.length : Int) > 0))) = some r := by rw [if_pos rfl] at H; exact H
   clear H; have H := H1; clear H1
   obtain rfl := Option.some.inj H
   go_enter Try.func52, Try.ntmps52
   go_wp2_with (first | ((with_reducible refine gate_dst (N := 1) rfl ?_); (try (refine gate_guard (by rfl) ?_; dsimp only)); refine ubx 1 #[.bool true, .slice A0_1 l0_1.length c0_1] 44 rfl rfl ?_; intro gb720 hg w5 hbox hb; have BK720 := Aside0.mk (hbox); have GW720 := us hg; have GE720 := us hg; replace HB := uy hb; clear hb hbox hg; obtain ⟨hcz6_0, hcz6_1, hfz6_0, hfz6_1⟩ := uz2 w5 BK720) | ((with_reducible refine ug 31 rfl ?_); refine uh (some 6) rfl Try.func31 #[.slice A0_1 l0_1.length c0_1] ?_; (with_reducible refine (windbreakref01_Right.calls _ _ l0_1 true _ ?side1 ?side2 A2.out).mono ?_); (case side1 => exact uC (Kd.C_below HR0_1.out HB.out)); (case side2 => exact HC0_1.out); rintro e w' ⟨rfl, ⟨nd, rfl⟩⟩; refine ⟨_, rfl, ?_⟩))
   go_ret
   exact ⟨uF, uB⟩
  replace c4 := Bool.eq_false_iff.mpr c4
  subst c4
  have H1 : (some true) = some r := by rw [if_neg (show ¬ (false = true) by decide)] at H; exact H
  clear H; have H := H1; clear H1
  obtain rfl := Option.some.inj H
  go_enter Try.func52, Try.ntmps52
  go_wp2_with (first | ((with_reducible refine gate_dst (N := 1) rfl ?_); (try (refine gate_guard (by rfl) ?_; dsimp only)); refine ubx 1 #[.bool false, .slice A0_1 l0_1.length c0_1] 44 rfl rfl ?_; intro gb720 hg w7 hbox hb; have BK720 := Aside0.mk (hbox); have GW720 := us hg; have GE720 := us hg; replace HB := uy hb; clear hb hbox hg; obtain ⟨hcz8_0, hcz8_1, hfz8_0, hfz8_1⟩ := uz2 w7 BK720) | ((with_reducible refine ug 31 rfl ?_); refine uh (some 6) rfl Try.func31 #[.slice A0_1 l0_1.length c0_1] ?_; (with_reducible refine (windbreakref01_Right.calls _ _ l0_1 true _ ?side1 ?side2 A2.out).mono ?_); (case side1 => exact uC (Kd.C_below HR0_1.out HB.out)); (case side2 => exact HC0_1.out); rintro e w' ⟨rfl, ⟨nd, rfl⟩⟩; refine ⟨_, rfl, ?_⟩))
  go_ret
  exact ⟨uF, uB⟩
 replace c3 := Bool.eq_false_iff.mpr c3
 subst c3
 have H1 : (some false) = some r := by rw [if_neg (show ¬ (false = true) by decide)] at H; exact H
 clear H; have H := H1; clear H1
 obtain rfl := Option.some.inj H
 go_enter Try.func52, Try.ntmps52
 go_wp2_with (first | ((with_reducible refine gate_dst (N := 1) rfl ?_); (try (refine gate_guard (by rfl) ?_; dsimp only)); refine ubx 1 #[.bool a0_0, .slice A0_1 l0_1.length c0_1] 44 rfl rfl ?_; intro gb720 hg w9 hbox hb; have BK720 := Aside0.mk (hbox); have GW720 := us hg; have GE720 := us hg; replace HB := uy hb; clear hb hbox hg; obtain ⟨hcz10_0, hcz10_1, hfz10_0, hfz10_1⟩ := uz2 w9 BK720) | ((with_reducible refine ug 31 rfl ?_); refine uh (some 6) rfl Try.func31 #[.slice A0_1 l0_1.length c0_1] ?_; (with_reducible refine (windbreakref01_Right.calls _ _ l0_1 false _ ?side1 ?side2 A2.out).mono ?_); (case side1 => exact uC (Kd.C_below HR0_1.out HB.out)); (case side2 => exact HC0_1.out); rintro e w' ⟨rfl, ⟨nd, rfl⟩⟩; refine ⟨_, rfl, ?_⟩))
 go_ret
 exact ⟨uF, uB⟩
def windbreakref03_Floor.j0 : Nat → Bool → Bool → List Int → Bool → List Int → Option (Bool × List Int × Bool × List Int × Int)
 | 0, _, _, _, _, _ => none
 | k + 1, x25, x723000, x723001, x724000, x724001 => if x25 = true then (some (false, ([] : List Int), false, ([] : List Int), 1)) else (if (x724001.length : Int) = 0 then (some (false, ([] : List Int), false, ([] : List Int), 3)) else (if x724000 = true then (some (false, ([] : List Int), false, ([] : List Int), 1)) else ((windbreakref01_Div.f k x723001 x724001).bind fun bt728 => (if x723000 = true then (if (bt728.2.1.length : Int) = 0 then ((windbreakref03_From.f true bt728.1).bind fun bt743 => (some (bt743.1, bt743.2, false, ([] : List Int), 0))) else ((windbreakref01_Of.f 1).bind fun t747 => ((windbreakref01_Add.f k bt728.1 t747).bind fun bt750 => (if bt750.2 = 0 then ((windbreakref01_Sub.f k x724001 bt728.2.1).bind fun bt754 => ((windbreakref03_From.f true bt750.1).bind fun bt758 => ((windbreakref03_From.f false bt754.1).bind fun bt762 => (some (bt758.1, bt758.2, bt762.1, bt762.2, 0))))) else (some (false, ([] : List Int), false, ([] : List Int), bt750.2)))))) else ((windbreakref03_From.f false bt728.1).bind fun bt735 => ((windbreakref03_From.f false bt728.2.1).bind fun bt739 => (some (bt735.1, bt735.2, bt739.1, bt739.2, 0))))))))
def windbreakref03_Floor.f (k : Nat) (a0_0 : Bool) (l0_1 : List Int) (a1_0 : Bool) (l1_1 : List Int) : Option (Bool × List Int × Bool × List Int × Int) := (windbreakref03_Right.f a0_0 l0_1).bind fun t726 => ((windbreakref03_Right.f a1_0 l1_1).bind fun t727 => (if t726 = true then (windbreakref03_Floor.j0 k (!t727) a0_0 l0_1 a1_0 l1_1) else (windbreakref03_Floor.j0 k true a0_0 l0_1 a1_0 l1_1)))
theorem windbreakref03_Floor.calls (k : Nat) (a0_0 : Bool) (A0_1 : Option Addr) (c0_1 : Nat) (l0_1 : List Int) (a1_0 : Bool) (A1_1 : Option Addr) (c1_1 : Nat) (l1_1 : List Int) (r1 : Bool) (r2 : List Int) (r3 : Bool) (r4 : List Int) (r5 : Int) (w : World) (hr0_1 : Kd.C (Kd.int .u64) w A0_1 l0_1.length l0_1) (hc0_1 : l0_1.length ≤ c0_1) (hr1_1 : Kd.C (Kd.int .u64) w A1_1 l1_1.length l1_1) (hc1_1 : l1_1.length ≤ c1_1) (h : windbreakref03_Floor.f k a0_0 l0_1 a1_0 l1_1 = some (r1, r2, r3, r4, r5)) :
  Calls Try.prog 22 #[.agg #[.bool a0_0, .slice A0_1 l0_1.length c0_1], .agg #[.bool a1_0, .slice A1_1 l1_1.length c1_1]] w fun e w' => ∃ v1_ v3_ : Value, e = .returned (.tuple #[.agg #[.bool r1, v1_], .agg #[.bool r3, v3_], .int .i64 r5]) ∧ Kd.R (Kd.int .u64) 42 w' w.heap.size (fun k_ => some k_ ≠ (v3_ : Value).ownBlock) v1_ r2 ∧ Kd.R (Kd.int .u64) 42 w' w.heap.size (fun k_ => some k_ ≠ (v1_ : Value).ownBlock) v3_ r4 ∧ Below w.heap.size w w' := by
 have hu44 := Try.underlying44
 have HR0_1 := Aside0.mk hr0_1; have HC0_1 := Aside0.mk hc0_1; clear hr0_1 hc0_1; have HR1_1 := Aside0.mk hr1_1; have HC1_1 := Aside0.mk hc1_1; clear hr1_1 hc1_1
 have HB := Aside0.mk (Below.refl w.heap.size w)
 have H : ((windbreakref03_Right.f a0_0 l0_1).bind fun t726 => ((windbreakref03_Right.f a1_0 l1_1).bind fun t727 => (if t726 = true then (windbreakref03_Floor.j0 k (!t727) a0_0 l0_1 a1_0 l1_1) else (windbreakref03_Floor.j0 k true a0_0 l0_1 a1_0 l1_1)))) = some (r1, r2, r3, r4, r5) := h
 clear h
 replace H := ub H; obtain ⟨t726, A3, H⟩ := H
 replace H := ub H; obtain ⟨t727, A4, H⟩ := H
 have HC5 := Aside0.mk H; clear H
 go_enter Try.func22, Try.ntmps22
 go_upto_region 3 with (first | ((with_reducible refine gate_dst (N := 2) rfl ?_); refine ubx 2 #[.bool a0_0, .slice A0_1 l0_1.length c0_1] 44 rfl rfl ?_; intro gb722 hg w6 hbox hb; have BK722 := Aside0.mk (hbox); have GW722 := us hg; have GE722 := us hg; replace HB := uy hb; clear hb hbox hg) | ((with_reducible refine gate_dst (N := 3) rfl ?_); refine ubx 3 #[.bool a1_0, .slice A1_1 l1_1.length c1_1] 44 rfl rfl ?_; intro gb723 hg w7 hbox hb; have BK723 := Aside0.mk (hbox); have GW723 := us hg; have GE723 := us hg; replace HB := uy hb; obtain ⟨NB722_723, NB723_722⟩ := unb hg BK722; replace BK722 := ux BK722 hb; clear hb hbox hg) | ((with_reducible refine gate_dst (N := 4) rfl ?_); refine ubx 4 #[.bool false, .slice none 0 0] 44 rfl rfl ?_; intro gb724 hg w8 hbox hb; have BK724 := Aside0.mk (hbox); have GW724 := us hg; have GE724 := us hg; replace HB := uy hb; obtain ⟨NB722_724, NB724_722⟩ := unb hg BK722; replace BK722 := ux BK722 hb; obtain ⟨NB723_724, NB724_723⟩ := unb hg BK723; replace BK723 := ux BK723 hb; clear hb hbox hg) | ((with_reducible refine gate_dst (N := 5) rfl ?_); refine ubx 5 #[.bool false, .slice none 0 0] 44 rfl rfl ?_; intro gb725 hg w9 hbox hb; have BK725 := Aside0.mk (hbox); have GW725 := us hg; have GE725 := us hg; replace HB := uy hb; obtain ⟨NB722_725, NB725_722⟩ := unb hg BK722; replace BK722 := ux BK722 hb; obtain ⟨NB723_725, NB725_723⟩ := unb hg BK723; replace BK723 := ux BK723 hb; obtain ⟨NB724_725, NB725_724⟩ := unb hg BK724; replace BK724 := ux BK724 hb; clear hb hbox hg; have hnb10 := NB722_723.out; have hnc10 := NB723_722.out; have hnb11 := NB722_724.out; have hnc11 := NB724_722.out; have hnb12 := NB722_725.out; have hnc12 := NB725_722.out; obtain ⟨hcz13_0, hcz13_1, hfz13_0, hfz13_1⟩ := uz2 w9 BK722) | ((with_reducible refine ug 52 rfl ?_); refine uh (some 17) rfl Try.func52 #[.agg #[.bool a0_0, .slice A0_1 l0_1.length c0_1]] ?_; (with_reducible refine (windbreakref03_Right.calls a0_0 _ _ l0_1 t726 _ ?side1 ?side2 A3.out).mono ?_); (case side1 => exact uC (Kd.C_below HR0_1.out HB.out)); (case side2 => exact HC0_1.out); rintro e w14 ⟨rfl, hb⟩; refine ⟨_, rfl, ?_⟩; replace BK722 := ux BK722 hb; replace BK723 := ux BK723 hb; replace BK724 := ux BK724 hb; replace BK725 := ux BK725 hb; replace HB := uy hb; (try clear hb); have hnb15 := NB723_724.out; have hnc15 := NB724_723.out; have hnb16 := NB723_725.out; have hnc16 := NB725_723.out; obtain ⟨hcz17_0, hcz17_1, hfz17_0, hfz17_1⟩ := uz2 w14 BK723) | ((with_reducible refine ug 52 rfl ?_); refine uh (some 19) rfl Try.func52 #[.agg #[.bool a1_0, .slice A1_1 l1_1.length c1_1]] ?_; (with_reducible refine (windbreakref03_Right.calls a1_0 _ _ l1_1 t727 _ ?side1 ?side2 A4.out).mono ?_); (case side1 => exact uC (Kd.C_below HR1_1.out HB.out)); (case side2 => exact HC1_1.out); rintro e w18 ⟨rfl, hb⟩; refine ⟨_, rfl, ?_⟩; replace BK722 := ux BK722 hb; replace BK723 := ux BK723 hb; replace BK724 := ux BK724 hb; replace BK725 := ux BK725 hb; replace HB := uy hb; (try clear hb)))
 (try simp only [Act.put, List.setIfInBounds_toArray, List.set_cons_zero, List.set_cons_succ])
 go_cut [25] (fun v25 wc => ∃ (kq : Nat) (x25_4 : Bool), v25 = .bool x25_4 ∧ Aside0 (windbreakref03_Floor.j0 kq x25_4 a0_0 l0_1 a1_0 l1_1 = some (r1, r2, r3, r4, r5)) ∧ Aside0 (kq ≤ k) ∧ Aside0 (wc.heap[gb722]? = some (.cells #[.bool a0_0, (.slice A0_1 l0_1.length c0_1)] 44 (0, 0))) ∧ Aside0 (wc.heap[gb723]? = some (.cells #[.bool a1_0, (.slice A1_1 l1_1.length c1_1)] 44 (0, 0))) ∧ Aside0 (wc.heap[gb724]? = some (.cells #[.bool false, (.slice none 0 0)] 44 (0, 0))) ∧ Aside0 (wc.heap[gb725]? = some (.cells #[.bool false, (.slice none 0 0)] 44 (0, 0))) ∧ Aside0 (Below w.heap.size w wc))
 case first =>
  have H := HC5.out
  clear HC5
  by_cases c19 : t726 = true
  ·
   subst c19
   have H1 : (windbreakref03_Floor.j0 k (!t727) a0_0 l0_1 a1_0 l1_1) = some (r1, r2, r3, r4, r5) := by rw [if_pos rfl] at H; exact H
   clear H; have H := H1; clear H1
   have H' := Aside0.mk H
   clear H
   go_wp2
   go_meet
   case rel => exact ⟨_, (!t727), uG, H', ⟨uW⟩, ⟨uK BK722.out⟩, ⟨uK BK723.out⟩, ⟨uK BK724.out⟩, ⟨uK BK725.out⟩, ⟨uB⟩⟩
  replace c19 := Bool.eq_false_iff.mpr c19
  subst c19
  have H1 : (windbreakref03_Floor.j0 k true a0_0 l0_1 a1_0 l1_1) = some (r1, r2, r3, r4, r5) := by rw [if_neg (show ¬ (false = true) by decide)] at H; exact H
  clear H; have H := H1; clear H1
  have H' := Aside0.mk H
  clear H
  go_wp2
  go_meet
  case rel => exact ⟨_, (true), uG, H', ⟨uW⟩, ⟨uK BK722.out⟩, ⟨uK BK723.out⟩, ⟨uK BK724.out⟩, ⟨uK BK725.out⟩, ⟨uB⟩⟩
 case rest =>
  clear HC5; (try clear hcz13_0 hcz13_1); (try clear hcz17_0 hcz17_1); (try clear hfz13_0 hfz13_1); (try clear hfz17_0 hfz17_1)
  obtain ⟨kq, x25_4, rfl, HA, HJ4, BK722, BK723, BK724, BK725, HB⟩ := hcut
  cases kq with
  | zero => exact absurd HA.out (by simp [windbreakref03_Floor.j0])
  | succ kj4 =>
   have H := HA.out
   clear HA
   simp only [windbreakref03_Floor.j0] at H
   by_cases c20 : x25_4 = true
   ·
    subst c20
    have H1 : (some (false, ([] : List Int), false, ([] : List Int), 1)) = some (r1, r2, r3, r4, r5) := by rw [if_pos rfl] at H; exact H
    clear H; have H := H1; clear H1
    simp only [Option.some.injEq, Prod.mk.injEq] at H
    obtain ⟨rfl, rfl, rfl, rfl, rfl⟩ := H
    have hnb21 := NB724_722.out
    have hnc21 := NB722_724.out
    have hnb22 := NB724_723.out
    have hnc22 := NB723_724.out
    have hnb23 := NB724_725.out
    have hnc23 := NB725_724.out
    obtain ⟨hcz24_0, hcz24_1, hfz24_0, hfz24_1⟩ := uz2 wc BK724
    have hnb25 := NB725_722.out
    have hnc25 := NB722_725.out
    have hnb26 := NB725_723.out
    have hnc26 := NB723_725.out
    obtain ⟨hcz27_0, hcz27_1, hfz27_0, hfz27_1⟩ := uz2 wc BK725
    go_wp2
    refine bodyPost_ret (results_list (rs := [.cell 4 44, .cell 5 44, .tmp 6]) rfl (by simp) (.cell gb724 44 #[.bool false, .slice none 0 0] (0, 0) _ rfl (by refine blk_far ?_ NB724_725.out _; refine blk_far ?_ NB724_725.out _; refine blk_put (cs := #[.bool false, .slice none 0 0]) ?_ 1 _ rfl; refine blk_put (cs := #[.bool false, .slice none 0 0]) ?_ 0 _ rfl; exact uK BK724.out) Try.underlying44 rfl (by kernel_rfl) (.cell gb725 44 #[.bool false, .slice none 0 0] (0, 0) _ rfl (by refine blk_put (cs := #[.bool false, .slice none 0 0]) ?_ 1 _ rfl; refine blk_put (cs := #[.bool false, .slice none 0 0]) ?_ 0 _ rfl; refine blk_far ?_ NB725_724.out _; refine blk_far ?_ NB725_724.out _; exact uK BK725.out) Try.underlying44 rfl (by kernel_rfl) (.tmp .nil)))) rfl ?_
    exact ⟨_, _, uF, uI, uI, uB⟩
   replace c20 := Bool.eq_false_iff.mpr c20
   subst c20
   have H1 : (if (l1_1.length : Int) = 0 then (some (false, ([] : List Int), false, ([] : List Int), 3)) else (if a1_0 = true then (some (false, ([] : List Int), false, ([] : List Int), 1)) else ((windbreakref01_Div.f kj4 l0_1 l1_1).bind fun bt728 => (if a0_0 = true then (if (bt728.2.1.length : Int) = 0 then ((windbreakref03_From.f true bt728.1).bind fun bt743 => (some (bt743.1, bt743.2, false, ([] : List Int), 0))) else ((windbreakref01_Of.f 1).bind fun t747 => ((windbreakref01_Add.f kj4 bt728.1 t747).bind fun bt750 => (if bt750.2 = 0 then ((windbreakref01_Sub.f kj4 l1_1 bt728.2.1).bind fun bt754 => ((windbreakref03_From.f true bt750.1).bind fun bt758 => ((windbreakref03_From.f false bt754.1).bind fun bt762 => (some (bt758.1, bt758.2, bt762.1, bt762.2, 0))))) else (some (false, ([] : List Int), false, ([] : List Int), bt750.2)))))) else ((windbreakref03_From.f false bt728.1).bind fun bt735 => ((windbreakref03_From.f false bt728.2.1).bind fun bt739 => (some (bt735.1, bt735.2, bt739.1, bt739.2, 0)))))))) = some (r1, r2, r3, r4, r5) := by rw [if_neg (show ¬ (false = true) by decide)] at H; exact H
   clear H; have H := H1; clear H1
   by_cases c28 : (l1_1.length : Int) = 0
   ·
    rw [if_pos c28] at H
    have c28b0 := beq_iff_eq.mpr c28
    have c28b1 := bne_eq_false_iff_eq.mpr c28
    clear c28
    simp only [Option.some.injEq, Prod.mk.injEq] at H
    obtain ⟨rfl, rfl, rfl, rfl, rfl⟩ := H
    have hnb29 := NB723_722.out
    have hnc29 := NB722_723.out
    have hnb30 := NB723_724.out
    have hnc30 := NB724_723.out
    have hnb31 := NB723_725.out
    have hnc31 := NB725_723.out
    obtain ⟨hcz32_0, hcz32_1, hfz32_0, hfz32_1⟩ := uz2 wc BK723
    have hnb33 := NB724_722.out
    have hnc33 := NB722_724.out
    have hnb34 := NB724_725.out
    have hnc34 := NB725_724.out
    obtain ⟨hcz35_0, hcz35_1, hfz35_0, hfz35_1⟩ := uz2 wc BK724
    have hnb36 := NB725_722.out
    have hnc36 := NB722_725.out
    obtain ⟨hcz37_0, hcz37_1, hfz37_0, hfz37_1⟩ := uz2 wc BK725
    go_wp2
    refine bodyPost_ret (results_list (rs := [.cell 4 44, .cell 5 44, .tmp 6]) rfl (by simp) (.cell gb724 44 #[.bool false, .slice none 0 0] (0, 0) _ rfl (by refine blk_far ?_ NB724_725.out _; refine blk_far ?_ NB724_725.out _; refine blk_put (cs := #[.bool false, .slice none 0 0]) ?_ 1 _ rfl; refine blk_put (cs := #[.bool false, .slice none 0 0]) ?_ 0 _ rfl; exact uK BK724.out) Try.underlying44 rfl (by kernel_rfl) (.cell gb725 44 #[.bool false, .slice none 0 0] (0, 0) _ rfl (by refine blk_put (cs := #[.bool false, .slice none 0 0]) ?_ 1 _ rfl; refine blk_put (cs := #[.bool false, .slice none 0 0]) ?_ 0 _ rfl; refine blk_far ?_ NB725_724.out _; refine blk_far ?_ NB725_724.out _; exact uK BK725.out) Try.underlying44 rfl (by kernel_rfl) (.tmp .nil)))) rfl ?_
    exact ⟨_, _, uF, uI, uI, uB⟩
   rw [if_neg c28] at H
   have c28b0 := beq_eq_false_iff_ne.mpr c28
   have c28b1 := bne_iff_ne.mpr c28
   have c28b2 : ¬ (l1_1 = []) := fun h_ => c28 (by rw [h_]; rfl)
   by_cases c38 : a1_0 = true
   ·
    subst c38
    have H1 : (some (false, ([] : List Int), false, ([] : List Int), 1)) = some (r1, r2, r3, r4, r5) := by rw [if_pos rfl] at H; exact H
    clear H; have H := H1; clear H1
    simp only [Option.some.injEq, Prod.mk.injEq] at H
    obtain ⟨rfl, rfl, rfl, rfl, rfl⟩ := H
    have hnb39 := NB723_722.out
    have hnc39 := NB722_723.out
    have hnb40 := NB723_724.out
    have hnc40 := NB724_723.out
    have hnb41 := NB723_725.out
    have hnc41 := NB725_723.out
    obtain ⟨hcz42_0, hcz42_1, hfz42_0, hfz42_1⟩ := uz2 wc BK723
    have hnb43 := NB724_722.out
    have hnc43 := NB722_724.out
    have hnb44 := NB724_725.out
    have hnc44 := NB725_724.out
    obtain ⟨hcz45_0, hcz45_1, hfz45_0, hfz45_1⟩ := uz2 wc BK724
    have hnb46 := NB725_722.out
    have hnc46 := NB722_725.out
    obtain ⟨hcz47_0, hcz47_1, hfz47_0, hfz47_1⟩ := uz2 wc BK725
    go_wp2
    refine bodyPost_ret (results_list (rs := [.cell 4 44, .cell 5 44, .tmp 6]) rfl (by simp) (.cell gb724 44 #[.bool false, .slice none 0 0] (0, 0) _ rfl (by refine blk_far ?_ NB724_725.out _; refine blk_far ?_ NB724_725.out _; refine blk_put (cs := #[.bool false, .slice none 0 0]) ?_ 1 _ rfl; refine blk_put (cs := #[.bool false, .slice none 0 0]) ?_ 0 _ rfl; exact uK BK724.out) Try.underlying44 rfl (by kernel_rfl) (.cell gb725 44 #[.bool false, .slice none 0 0] (0, 0) _ rfl (by refine blk_put (cs := #[.bool false, .slice none 0 0]) ?_ 1 _ rfl; refine blk_put (cs := #[.bool false, .slice none 0 0]) ?_ 0 _ rfl; refine blk_far ?_ NB725_724.out _; refine blk_far ?_ NB725_724.out _; exact uK BK725.out) Try.underlying44 rfl (by kernel_rfl) (.tmp .nil)))) rfl ?_
    exact ⟨_, _, uF, uI, uI, uB⟩
   replace c38 := Bool.eq_false_iff.mpr c38
   subst c38
   have H1 : ((windbreakref01_Div.f kj4 l0_1 l1_1).bind fun bt728 => (if a0_0 = true then (if (bt728.2.1.length : Int) = 0 then ((windbreakref03_From.f true bt728.1).bind fun bt743 => (some (bt743.1, bt743.2, false, ([] : List Int), 0))) else ((windbreakref01_Of.f 1).bind fun t747 => ((windbreakref01_Add.f kj4 bt728.1 t747).bind fun bt750 => (if bt750.2 = 0 then ((windbreakref01_Sub.f kj4 l1_1 bt728.2.1).bind fun bt754 => ((windbreakref03_From.f true bt750.1).bind fun bt758 => ((windbreakref03_From.f false bt754.1).bind fun bt762 => (some (bt758.1, bt758.2, bt762.1, bt762.2, 0))))) else (some (false, ([] : List Int), false, ([] : List Int), bt750.2)))))) else ((windbreakref03_From.f false bt728.1).bind fun bt735 => ((windbreakref03_From.f false bt728.2.1).bind fun bt739 => (some (bt735.1, bt735.2, bt739.1, bt739.2, 0)))))) = some (r1, r2, r3, r4, r5) := by rw [if_neg (show ¬ (false = true) by decide)] at H; exact H
   clear H; have H := H1; clear H1
   replace H := ub H; obtain ⟨⟨t728, t729, t730⟩, A48, H⟩ := H
   (try dsimp only at H)
   by_cases c49 : a0_0 = true
   ·
    subst c49
    have H1 : (if (t729.length : Int) = 0 then ((windbreakref03_From.f true t728).bind fun bt743 => (some (bt743.1, bt743.2, false, ([] : List Int), 0))) else ((windbreakref01_Of.f 1).bind fun t747 => ((windbreakref01_Add.f kj4 t728 t747).bind fun bt750 => (if bt750.2 = 0 then ((windbreakref01_Sub.f kj4 l1_1 t729).bind fun bt754 => ((windbreakref03_From.f true bt750.1).bind fun bt758 => ((windbreakref03_From.f false bt754.1).bind fun bt762 => (some (bt758.1, bt758.2, bt762.1, bt762.2, 0))))) else (some (false, ([] : List Int), false, ([] : List Int), bt750.2)))))) = some (r1, r2, r3, r4, r5) := by rw [if_pos rfl] at H; exact H
    clear H; have H := H1; clear H1
    by_cases c50 : (t729.length : Int) = 0
    ·
     rw [if_pos c50] at H
     have c50b0 := beq_iff_eq.mpr c50
     have c50b1 := bne_eq_false_iff_eq.mpr c50
     clear c50
     replace H := ub H; obtain ⟨⟨t743, t744⟩, A51, H⟩ := H
     (try dsimp only at H)
     simp only [Option.some.injEq, Prod.mk.injEq] at H
     obtain ⟨rfl, rfl, rfl, rfl, rfl⟩ := H
     have hnb52 := NB723_722.out
     have hnc52 := NB722_723.out
     have hnb53 := NB723_724.out
     have hnc53 := NB724_723.out
     have hnb54 := NB723_725.out
     have hnc54 := NB725_723.out
     obtain ⟨hcz55_0, hcz55_1, hfz55_0, hfz55_1⟩ := uz2 wc BK723
     have hnb56 := NB722_724.out
     have hnc56 := NB724_722.out
     have hnb57 := NB722_725.out
     have hnc57 := NB725_722.out
     obtain ⟨hcz58_0, hcz58_1, hfz58_0, hfz58_1⟩ := uz2 wc BK722
     go_wp2_with (first | ((with_reducible refine ug 35 rfl ?_); refine uh (some 43) rfl Try.func35 #[.slice A0_1 l0_1.length c0_1, .slice A1_1 l1_1.length c1_1] ?_; (with_reducible refine (windbreakref01_Div.calls kj4 _ _ l0_1 _ _ l1_1 t728 t729 t730 _ ?side1 ?side2 ?side3 ?side4 A48.out).mono ?_); (case side1 => exact uC (Kd.C_below HR0_1.out HB.out)); (case side2 => exact HC0_1.out); (case side3 => exact uC (Kd.C_below HR1_1.out HB.out)); (case side4 => exact HC1_1.out); rintro e w59 ⟨v731, v733, rfl, ho0, ho1, hb⟩; refine ⟨_, rfl, ?_⟩; have HO732 := ulo ho0; have HO734 := ulo ho1; replace BK722 := ux BK722 hb; replace BK723 := ux BK723 hb; replace BK724 := ux BK724 hb; replace BK725 := ux BK725 hb; replace HB := uy hb; (try clear hb ho0 ho1); obtain ⟨hcz60_0, hcz60_1, hfz60_0, hfz60_1⟩ := uz2 w59 BK722; obtain ⟨Ao61, co61, eo61⟩ := Kd.R_slice HO734.out; subst eo61; obtain ⟨Ao62, co62, eo62⟩ := Kd.R_slice HO732.out; subst eo62) | ((with_reducible refine ug 50 rfl ?_); refine uh (some 58) rfl Try.func50 #[.bool true, .slice Ao62 t728.length co62] ?_; (with_reducible refine (windbreakref03_From.calls true _ _ t728 t743 t744 _ ?side1 ?side2 A51.out).mono ?_); (case side1 => exact uC (Kd.R_reads' HO732.out).2.2); (case side2 => exact (Kd.R_reads' HO732.out).2.1); rintro e w63 ⟨v745, rfl, ho0, hb⟩; refine ⟨_, rfl, ?_⟩; have HO746 := ulo (unw (unw ho0 HO732) HO734); replace HO732 := ueR HO732 ho0 hb; replace HO734 := ueR HO734 ho0 hb; replace BK722 := ux BK722 hb; replace BK723 := ux BK723 hb; replace BK724 := ux BK724 hb; replace BK725 := ux BK725 hb; replace HB := uy hb; (try clear hb ho0); have hnb64 := NB724_725.out; have hnc64 := NB725_724.out; obtain ⟨hcz65_0, hcz65_1, hfz65_0, hfz65_1⟩ := uz2 w63 BK724; obtain ⟨Ao66, co66, eo66⟩ := Kd.R_slice HO746.out; subst eo66; obtain ⟨hcz67_0, hcz67_1, hfz67_0, hfz67_1⟩ := uz2 w63 BK725))
     refine bodyPost_ret (results_list (rs := [.cell 4 44, .cell 5 44, .tmp 6]) rfl (by simp) (.cell gb724 44 #[.bool t743, .slice Ao66 t744.length co66] (0, 0) _ rfl (by refine blk_far ?_ NB724_725.out _; refine blk_far ?_ NB724_725.out _; refine blk_put (cs := #[.bool t743, .slice none 0 0]) ?_ 1 _ rfl; refine blk_put (cs := #[.bool false, .slice none 0 0]) ?_ 0 _ rfl; exact uK BK724.out) Try.underlying44 rfl (by kernel_rfl) (.cell gb725 44 #[.bool false, .slice none 0 0] (0, 0) _ rfl (by refine blk_put (cs := #[.bool false, .slice none 0 0]) ?_ 1 _ rfl; refine blk_put (cs := #[.bool false, .slice none 0 0]) ?_ 0 _ rfl; refine blk_far ?_ NB725_724.out _; refine blk_far ?_ NB725_724.out _; exact uK BK725.out) Try.underlying44 rfl (by kernel_rfl) (.tmp .nil)))) rfl ?_
     exact ⟨_, _, uF, by exact uR (Kd.R_mono (Kd.R_far (p := ⟨gb725, 1, none⟩) (Kd.R_far (p := ⟨gb725, 0, none⟩) (Kd.R_far (p := ⟨gb724, 1, none⟩) (Kd.R_far (p := ⟨gb724, 0, none⟩) (Kd.R_types (Kd.R_types HO746.out BK724.out (by decide)) BK725.out (by decide)) (fun _ hk => hk.1.2) (.bool t743)) (fun _ hk => hk.1.2) (.slice Ao66 t744.length co66)) (fun _ hk => hk.2) (.bool false)) (fun _ hk => hk.2) (.slice none 0 0)) (fun _ hk => (by simp [Value.ownBlock]))), uI, uB⟩
    rw [if_neg c50] at H
    have c50b0 := beq_eq_false_iff_ne.mpr c50
    have c50b1 := bne_iff_ne.mpr c50
    have c50b2 : ¬ (t729 = []) := fun h_ => c50 (by rw [h_]; rfl)
    replace H := ub H; obtain ⟨t747, A68, H⟩ := H
    replace H := ub H; obtain ⟨⟨t750, t751⟩, A69, H⟩ := H
    (try dsimp only at H)
    by_cases c70 : t751 = 0
    ·
     rw [if_pos c70] at H
     have c70b0 := beq_iff_eq.mpr c70
     have c70b1 := bne_eq_false_iff_eq.mpr c70
     clear c70
     replace H := ub H; obtain ⟨⟨t754, t755⟩, A71, H⟩ := H
     (try dsimp only at H)
     replace H := ub H; obtain ⟨⟨t758, t759⟩, A72, H⟩ := H
     (try dsimp only at H)
     replace H := ub H; obtain ⟨⟨t762, t763⟩, A73, H⟩ := H
     (try dsimp only at H)
     simp only [Option.some.injEq, Prod.mk.injEq] at H
     obtain ⟨rfl, rfl, rfl, rfl, rfl⟩ := H
     have hnb74 := NB723_722.out
     have hnc74 := NB722_723.out
     have hnb75 := NB723_724.out
     have hnc75 := NB724_723.out
     have hnb76 := NB723_725.out
     have hnc76 := NB725_723.out
     obtain ⟨hcz77_0, hcz77_1, hfz77_0, hfz77_1⟩ := uz2 wc BK723
     have hnb78 := NB722_724.out
     have hnc78 := NB724_722.out
     have hnb79 := NB722_725.out
     have hnc79 := NB725_722.out
     obtain ⟨hcz80_0, hcz80_1, hfz80_0, hfz80_1⟩ := uz2 wc BK722
     go_wp2_with (first | ((with_reducible refine ug 35 rfl ?_); refine uh (some 43) rfl Try.func35 #[.slice A0_1 l0_1.length c0_1, .slice A1_1 l1_1.length c1_1] ?_; (with_reducible refine (windbreakref01_Div.calls kj4 _ _ l0_1 _ _ l1_1 t728 t729 t730 _ ?side1 ?side2 ?side3 ?side4 A48.out).mono ?_); (case side1 => exact uC (Kd.C_below HR0_1.out HB.out)); (case side2 => exact HC0_1.out); (case side3 => exact uC (Kd.C_below HR1_1.out HB.out)); (case side4 => exact HC1_1.out); rintro e w81 ⟨v731, v733, rfl, ho0, ho1, hb⟩; refine ⟨_, rfl, ?_⟩; have HO732 := ulo ho0; have HO734 := ulo ho1; replace BK722 := ux BK722 hb; replace BK723 := ux BK723 hb; replace BK724 := ux BK724 hb; replace BK725 := ux BK725 hb; replace HB := uy hb; (try clear hb ho0 ho1); obtain ⟨hcz82_0, hcz82_1, hfz82_0, hfz82_1⟩ := uz2 w81 BK722; obtain ⟨Ao83, co83, eo83⟩ := Kd.R_slice HO734.out; subst eo83) | ((with_reducible refine ug 48 rfl ?_); refine uh (some 62) rfl Try.func48 #[.int .u64 1] ?_; (with_reducible refine (windbreakref01_Of.calls 1 t747 _ A68.out).mono ?_); rintro e w84 ⟨v748, rfl, ho0, hb⟩; refine ⟨_, rfl, ?_⟩; have HO749 := ulo (unw (unw ho0 HO732) HO734); replace HO732 := ueR HO732 ho0 hb; replace HO734 := ueR HO734 ho0 hb; replace BK722 := ux BK722 hb; replace BK723 := ux BK723 hb; replace BK724 := ux BK724 hb; replace BK725 := ux BK725 hb; replace HB := uy hb; (try clear hb ho0); obtain ⟨Ao85, co85, eo85⟩ := Kd.R_slice HO732.out; subst eo85; obtain ⟨Ao86, co86, eo86⟩ := Kd.R_slice HO749.out; subst eo86) | ((with_reducible refine ug 11 rfl ?_); refine uh (some 63) rfl Try.func11 #[.slice Ao85 t728.length co85, .slice Ao86 t747.length co86] ?_; (with_reducible refine (windbreakref01_Add.calls kj4 _ _ t728 _ _ t747 t750 t751 _ ?side1 ?side2 ?side3 ?side4 A69.out).mono ?_); (case side1 => exact uC (Kd.R_reads' HO732.out).2.2); (case side2 => exact (Kd.R_reads' HO732.out).2.1); (case side3 => exact uC (Kd.R_reads' HO749.out).2.2); (case side4 => exact (Kd.R_reads' HO749.out).2.1); rintro e w87 ⟨v752, rfl, ho0, hb⟩; refine ⟨_, rfl, ?_⟩; have HO753 := ulo (unw (unw (unw ho0 HO732) HO734) HO749); replace HO732 := ueR HO732 ho0 hb; replace HO734 := ueR HO734 ho0 hb; replace HO749 := ueR HO749 ho0 hb; replace BK722 := ux BK722 hb; replace BK723 := ux BK723 hb; replace BK724 := ux BK724 hb; replace BK725 := ux BK725 hb; replace HB := uy hb; (try clear hb ho0); obtain ⟨hcz88_0, hcz88_1, hfz88_0, hfz88_1⟩ := uz2 w87 BK723) | ((with_reducible refine ug 51 rfl ?_); refine uh (some 75) rfl Try.func51 #[.slice A1_1 l1_1.length c1_1, .slice Ao83 t729.length co83] ?_; (with_reducible refine (windbreakref01_Sub.calls kj4 _ _ l1_1 _ _ t729 t754 t755 _ ?side1 ?side2 ?side3 ?side4 A71.out).mono ?_); (case side1 => exact uC (Kd.C_below HR1_1.out HB.out)); (case side2 => exact HC1_1.out); (case side3 => exact uC (Kd.R_reads' HO734.out).2.2); (case side4 => exact (Kd.R_reads' HO734.out).2.1); rintro e w89 ⟨v756, rfl, ho0, hb⟩; refine ⟨_, rfl, ?_⟩; have HO757 := ulo (unw (unw (unw (unw ho0 HO732) HO734) HO749) HO753); replace HO732 := ueR HO732 ho0 hb; replace HO734 := ueR HO734 ho0 hb; replace HO749 := ueR HO749 ho0 hb; replace HO753 := ueR HO753 ho0 hb; replace BK722 := ux BK722 hb; replace BK723 := ux BK723 hb; replace BK724 := ux BK724 hb; replace BK725 := ux BK725 hb; replace HB := uy hb; (try clear hb ho0); obtain ⟨Ao90, co90, eo90⟩ := Kd.R_slice HO753.out; subst eo90) | ((with_reducible refine ug 50 rfl ?_); refine uh (some 79) rfl Try.func50 #[.bool true, .slice Ao90 t750.length co90] ?_; (with_reducible refine (windbreakref03_From.calls true _ _ t750 t758 t759 _ ?side1 ?side2 A72.out).mono ?_); (case side1 => exact uC (Kd.R_reads' HO753.out).2.2); (case side2 => exact (Kd.R_reads' HO753.out).2.1); rintro e w91 ⟨v760, rfl, ho0, hb⟩; refine ⟨_, rfl, ?_⟩; have HO761 := ulo (unw (unw (unw (unw (unw ho0 HO732) HO734) HO749) HO753) HO757); replace HO732 := ueR HO732 ho0 hb; replace HO734 := ueR HO734 ho0 hb; replace HO749 := ueR HO749 ho0 hb; replace HO753 := ueR HO753 ho0 hb; replace HO757 := ueR HO757 ho0 hb; replace BK722 := ux BK722 hb; replace BK723 := ux BK723 hb; replace BK724 := ux BK724 hb; replace BK725 := ux BK725 hb; replace HB := uy hb; (try clear hb ho0); obtain ⟨Ao92, co92, eo92⟩ := Kd.R_slice HO757.out; subst eo92) | ((with_reducible refine ug 50 rfl ?_); refine uh (some 81) rfl Try.func50 #[.bool false, .slice Ao92 t754.length co92] ?_; (with_reducible refine (windbreakref03_From.calls false _ _ t754 t762 t763 _ ?side1 ?side2 A73.out).mono ?_); (case side1 => exact uC (Kd.R_reads' HO757.out).2.2); (case side2 => exact (Kd.R_reads' HO757.out).2.1); rintro e w93 ⟨v764, rfl, ho0, hb⟩; refine ⟨_, rfl, ?_⟩; have HO765 := ulo (unw (unw (unw (unw (unw (unw ho0 HO732) HO734) HO749) HO753) HO757) HO761); replace HO732 := ueR HO732 ho0 hb; replace HO734 := ueR HO734 ho0 hb; replace HO749 := ueR HO749 ho0 hb; replace HO753 := ueR HO753 ho0 hb; replace HO757 := ueR HO757 ho0 hb; replace HO761 := ueR HO761 ho0 hb; replace BK722 := ux BK722 hb; replace BK723 := ux BK723 hb; replace BK724 := ux BK724 hb; replace BK725 := ux BK725 hb; replace HB := uy hb; (try clear hb ho0); have hnb94 := NB724_725.out; have hnc94 := NB725_724.out; obtain ⟨hcz95_0, hcz95_1, hfz95_0, hfz95_1⟩ := uz2 w93 BK724; obtain ⟨Ao96, co96, eo96⟩ := Kd.R_slice HO761.out; subst eo96; obtain ⟨hcz97_0, hcz97_1, hfz97_0, hfz97_1⟩ := uz2 w93 BK725; obtain ⟨Ao98, co98, eo98⟩ := Kd.R_slice HO765.out; subst eo98))
     refine bodyPost_ret (results_list (rs := [.cell 4 44, .cell 5 44, .tmp 6]) rfl (by simp) (.cell gb724 44 #[.bool t758, .slice Ao96 t759.length co96] (0, 0) _ rfl (by refine blk_far ?_ NB724_725.out _; refine blk_far ?_ NB724_725.out _; refine blk_put (cs := #[.bool t758, .slice none 0 0]) ?_ 1 _ rfl; refine blk_put (cs := #[.bool false, .slice none 0 0]) ?_ 0 _ rfl; exact uK BK724.out) Try.underlying44 rfl (by kernel_rfl) (.cell gb725 44 #[.bool t762, .slice Ao98 t763.length co98] (0, 0) _ rfl (by refine blk_put (cs := #[.bool t762, .slice none 0 0]) ?_ 1 _ rfl; refine blk_put (cs := #[.bool false, .slice none 0 0]) ?_ 0 _ rfl; refine blk_far ?_ NB725_724.out _; refine blk_far ?_ NB725_724.out _; exact uK BK725.out) Try.underlying44 rfl (by kernel_rfl) (.tmp .nil)))) rfl ?_
     exact ⟨_, _, uF, by exact uR (Kd.R_mono (Kd.R_far (p := ⟨gb725, 1, none⟩) (Kd.R_far (p := ⟨gb725, 0, none⟩) (Kd.R_far (p := ⟨gb724, 1, none⟩) (Kd.R_far (p := ⟨gb724, 0, none⟩) (Kd.R_types (Kd.R_types HO761.out BK724.out (by decide)) BK725.out (by decide)) (fun _ hk => hk.1.2) (.bool t758)) (fun _ hk => hk.1.2) (.slice Ao96 t759.length co96)) (fun _ hk => hk.2) (.bool t762)) (fun _ hk => hk.2) (.slice Ao98 t763.length co98)) (fun _ hk => hk.1.1.2)), by exact uR (Kd.R_mono (Kd.R_far (p := ⟨gb725, 1, none⟩) (Kd.R_far (p := ⟨gb725, 0, none⟩) (Kd.R_far (p := ⟨gb724, 1, none⟩) (Kd.R_far (p := ⟨gb724, 0, none⟩) (Kd.R_types (Kd.R_types HO765.out BK724.out (by decide)) BK725.out (by decide)) (fun _ hk => hk.1.2) (.bool t758)) (fun _ hk => hk.1.2) (.slice Ao96 t759.length co96)) (fun _ hk => hk.2) (.bool t762)) (fun _ hk => hk.2) (.slice Ao98 t763.length co98)) (fun _ hk => hk.1.1.2)), uB⟩
    rw [if_neg c70] at H
    have c70b0 := beq_eq_false_iff_ne.mpr c70
    have c70b1 := bne_iff_ne.mpr c70
    simp only [Option.some.injEq, Prod.mk.injEq] at H
    obtain ⟨rfl, rfl, rfl, rfl, rfl⟩ := H
    have hnb99 := NB723_722.out
    have hnc99 := NB722_723.out
    have hnb100 := NB723_724.out
    have hnc100 := NB724_723.out
    have hnb101 := NB723_725.out
    have hnc101 := NB725_723.out
    obtain ⟨hcz102_0, hcz102_1, hfz102_0, hfz102_1⟩ := uz2 wc BK723
    have hnb103 := NB722_724.out
    have hnc103 := NB724_722.out
    have hnb104 := NB722_725.out
    have hnc104 := NB725_722.out
    obtain ⟨hcz105_0, hcz105_1, hfz105_0, hfz105_1⟩ := uz2 wc BK722
    go_wp2_with (first | ((with_reducible refine ug 35 rfl ?_); refine uh (some 43) rfl Try.func35 #[.slice A0_1 l0_1.length c0_1, .slice A1_1 l1_1.length c1_1] ?_; (with_reducible refine (windbreakref01_Div.calls kj4 _ _ l0_1 _ _ l1_1 t728 t729 t730 _ ?side1 ?side2 ?side3 ?side4 A48.out).mono ?_); (case side1 => exact uC (Kd.C_below HR0_1.out HB.out)); (case side2 => exact HC0_1.out); (case side3 => exact uC (Kd.C_below HR1_1.out HB.out)); (case side4 => exact HC1_1.out); rintro e w106 ⟨v731, v733, rfl, ho0, ho1, hb⟩; refine ⟨_, rfl, ?_⟩; have HO732 := ulo ho0; have HO734 := ulo ho1; replace BK722 := ux BK722 hb; replace BK723 := ux BK723 hb; replace BK724 := ux BK724 hb; replace BK725 := ux BK725 hb; replace HB := uy hb; (try clear hb ho0 ho1); obtain ⟨hcz107_0, hcz107_1, hfz107_0, hfz107_1⟩ := uz2 w106 BK722; obtain ⟨Ao108, co108, eo108⟩ := Kd.R_slice HO734.out; subst eo108) | ((with_reducible refine ug 48 rfl ?_); refine uh (some 62) rfl Try.func48 #[.int .u64 1] ?_; (with_reducible refine (windbreakref01_Of.calls 1 t747 _ A68.out).mono ?_); rintro e w109 ⟨v748, rfl, ho0, hb⟩; refine ⟨_, rfl, ?_⟩; have HO749 := ulo (unw (unw ho0 HO732) HO734); replace HO732 := ueR HO732 ho0 hb; replace HO734 := ueR HO734 ho0 hb; replace BK722 := ux BK722 hb; replace BK723 := ux BK723 hb; replace BK724 := ux BK724 hb; replace BK725 := ux BK725 hb; replace HB := uy hb; (try clear hb ho0); obtain ⟨Ao110, co110, eo110⟩ := Kd.R_slice HO732.out; subst eo110; obtain ⟨Ao111, co111, eo111⟩ := Kd.R_slice HO749.out; subst eo111) | ((with_reducible refine ug 11 rfl ?_); refine uh (some 63) rfl Try.func11 #[.slice Ao110 t728.length co110, .slice Ao111 t747.length co111] ?_; (with_reducible refine (windbreakref01_Add.calls kj4 _ _ t728 _ _ t747 t750 t751 _ ?side1 ?side2 ?side3 ?side4 A69.out).mono ?_); (case side1 => exact uC (Kd.R_reads' HO732.out).2.2); (case side2 => exact (Kd.R_reads' HO732.out).2.1); (case side3 => exact uC (Kd.R_reads' HO749.out).2.2); (case side4 => exact (Kd.R_reads' HO749.out).2.1); rintro e w112 ⟨v752, rfl, ho0, hb⟩; refine ⟨_, rfl, ?_⟩; have HO753 := ulo (unw (unw (unw ho0 HO732) HO734) HO749); replace HO732 := ueR HO732 ho0 hb; replace HO734 := ueR HO734 ho0 hb; replace HO749 := ueR HO749 ho0 hb; replace BK722 := ux BK722 hb; replace BK723 := ux BK723 hb; replace BK724 := ux BK724 hb; replace BK725 := ux BK725 hb; replace HB := uy hb; (try clear hb ho0); have hnb113 := NB724_725.out; have hnc113 := NB725_724.out; obtain ⟨hcz114_0, hcz114_1, hfz114_0, hfz114_1⟩ := uz2 w112 BK724; obtain ⟨hcz115_0, hcz115_1, hfz115_0, hfz115_1⟩ := uz2 w112 BK725))
    refine bodyPost_ret (results_list (rs := [.cell 4 44, .cell 5 44, .tmp 6]) rfl (by simp) (.cell gb724 44 #[.bool false, .slice none 0 0] (0, 0) _ rfl (by refine blk_far ?_ NB724_725.out _; refine blk_far ?_ NB724_725.out _; refine blk_put (cs := #[.bool false, .slice none 0 0]) ?_ 1 _ rfl; refine blk_put (cs := #[.bool false, .slice none 0 0]) ?_ 0 _ rfl; exact uK BK724.out) Try.underlying44 rfl (by kernel_rfl) (.cell gb725 44 #[.bool false, .slice none 0 0] (0, 0) _ rfl (by refine blk_put (cs := #[.bool false, .slice none 0 0]) ?_ 1 _ rfl; refine blk_put (cs := #[.bool false, .slice none 0 0]) ?_ 0 _ rfl; refine blk_far ?_ NB725_724.out _; refine blk_far ?_ NB725_724.out _; exact uK BK725.out) Try.underlying44 rfl (by kernel_rfl) (.tmp .nil)))) rfl ?_
    exact ⟨_, _, uF, uI, uI, uB⟩
   replace c49 := Bool.eq_false_iff.mpr c49
   subst c49
   have H1 : ((windbreakref03_From.f false t728).bind fun bt735 => ((windbreakref03_From.f false t729).bind fun bt739 => (some (bt735.1, bt735.2, bt739.1, bt739.2, 0)))) = some (r1, r2, r3, r4, r5) := by rw [if_neg (show ¬ (false = true) by decide)] at H; exact H
   clear H; have H := H1; clear H1
   replace H := ub H; obtain ⟨⟨t735, t736⟩, A116, H⟩ := H
   (try dsimp only at H)
   replace H := ub H; obtain ⟨⟨t739, t740⟩, A117, H⟩ := H
   (try dsimp only at H)
   simp only [Option.some.injEq, Prod.mk.injEq] at H
   obtain ⟨rfl, rfl, rfl, rfl, rfl⟩ := H
   have hnb118 := NB723_722.out
   have hnc118 := NB722_723.out
   have hnb119 := NB723_724.out
   have hnc119 := NB724_723.out
   have hnb120 := NB723_725.out
   have hnc120 := NB725_723.out
   obtain ⟨hcz121_0, hcz121_1, hfz121_0, hfz121_1⟩ := uz2 wc BK723
   have hnb122 := NB722_724.out
   have hnc122 := NB724_722.out
   have hnb123 := NB722_725.out
   have hnc123 := NB725_722.out
   obtain ⟨hcz124_0, hcz124_1, hfz124_0, hfz124_1⟩ := uz2 wc BK722
   go_wp2_with (first | ((with_reducible refine ug 35 rfl ?_); refine uh (some 43) rfl Try.func35 #[.slice A0_1 l0_1.length c0_1, .slice A1_1 l1_1.length c1_1] ?_; (with_reducible refine (windbreakref01_Div.calls kj4 _ _ l0_1 _ _ l1_1 t728 t729 t730 _ ?side1 ?side2 ?side3 ?side4 A48.out).mono ?_); (case side1 => exact uC (Kd.C_below HR0_1.out HB.out)); (case side2 => exact HC0_1.out); (case side3 => exact uC (Kd.C_below HR1_1.out HB.out)); (case side4 => exact HC1_1.out); rintro e w125 ⟨v731, v733, rfl, ho0, ho1, hb⟩; refine ⟨_, rfl, ?_⟩; have HO732 := ulo ho0; have HO734 := ulo ho1; replace BK722 := ux BK722 hb; replace BK723 := ux BK723 hb; replace BK724 := ux BK724 hb; replace BK725 := ux BK725 hb; replace HB := uy hb; (try clear hb ho0 ho1); obtain ⟨hcz126_0, hcz126_1, hfz126_0, hfz126_1⟩ := uz2 w125 BK722; obtain ⟨Ao127, co127, eo127⟩ := Kd.R_slice HO732.out; subst eo127) | ((with_reducible refine ug 50 rfl ?_); refine uh (some 51) rfl Try.func50 #[.bool false, .slice Ao127 t728.length co127] ?_; (with_reducible refine (windbreakref03_From.calls false _ _ t728 t735 t736 _ ?side1 ?side2 A116.out).mono ?_); (case side1 => exact uC (Kd.R_reads' HO732.out).2.2); (case side2 => exact (Kd.R_reads' HO732.out).2.1); rintro e w128 ⟨v737, rfl, ho0, hb⟩; refine ⟨_, rfl, ?_⟩; have HO738 := ulo (unw (unw ho0 HO732) HO734); replace HO732 := ueR HO732 ho0 hb; replace HO734 := ueR HO734 ho0 hb; replace BK722 := ux BK722 hb; replace BK723 := ux BK723 hb; replace BK724 := ux BK724 hb; replace BK725 := ux BK725 hb; replace HB := uy hb; (try clear hb ho0); obtain ⟨Ao129, co129, eo129⟩ := Kd.R_slice HO734.out; subst eo129) | ((with_reducible refine ug 50 rfl ?_); refine uh (some 53) rfl Try.func50 #[.bool false, .slice Ao129 t729.length co129] ?_; (with_reducible refine (windbreakref03_From.calls false _ _ t729 t739 t740 _ ?side1 ?side2 A117.out).mono ?_); (case side1 => exact uC (Kd.R_reads' HO734.out).2.2); (case side2 => exact (Kd.R_reads' HO734.out).2.1); rintro e w130 ⟨v741, rfl, ho0, hb⟩; refine ⟨_, rfl, ?_⟩; have HO742 := ulo (unw (unw (unw ho0 HO732) HO734) HO738); replace HO732 := ueR HO732 ho0 hb; replace HO734 := ueR HO734 ho0 hb; replace HO738 := ueR HO738 ho0 hb; replace BK722 := ux BK722 hb; replace BK723 := ux BK723 hb; replace BK724 := ux BK724 hb; replace BK725 := ux BK725 hb; replace HB := uy hb; (try clear hb ho0); have hnb131 := NB724_725.out; have hnc131 := NB725_724.out; obtain ⟨hcz132_0, hcz132_1, hfz132_0, hfz132_1⟩ := uz2 w130 BK724; obtain ⟨Ao133, co133, eo133⟩ := Kd.R_slice HO738.out; subst eo133; obtain ⟨hcz134_0, hcz134_1, hfz134_0, hfz134_1⟩ := uz2 w130 BK725; obtain ⟨Ao135, co135, eo135⟩ := Kd.R_slice HO742.out; subst eo135))
   refine bodyPost_ret (results_list (rs := [.cell 4 44, .cell 5 44, .tmp 6]) rfl (by simp) (.cell gb724 44 #[.bool t735, .slice Ao133 t736.length co133] (0, 0) _ rfl (by refine blk_far ?_ NB724_725.out _; refine blk_far ?_ NB724_725.out _; refine blk_put (cs := #[.bool t735, .slice none 0 0]) ?_ 1 _ rfl; refine blk_put (cs := #[.bool false, .slice none 0 0]) ?_ 0 _ rfl; exact uK BK724.out) Try.underlying44 rfl (by kernel_rfl) (.cell gb725 44 #[.bool t739, .slice Ao135 t740.length co135] (0, 0) _ rfl (by refine blk_put (cs := #[.bool t739, .slice none 0 0]) ?_ 1 _ rfl; refine blk_put (cs := #[.bool false, .slice none 0 0]) ?_ 0 _ rfl; refine blk_far ?_ NB725_724.out _; refine blk_far ?_ NB725_724.out _; exact uK BK725.out) Try.underlying44 rfl (by kernel_rfl) (.tmp .nil)))) rfl ?_
   exact ⟨_, _, uF, by exact uR (Kd.R_mono (Kd.R_far (p := ⟨gb725, 1, none⟩) (Kd.R_far (p := ⟨gb725, 0, none⟩) (Kd.R_far (p := ⟨gb724, 1, none⟩) (Kd.R_far (p := ⟨gb724, 0, none⟩) (Kd.R_types (Kd.R_types HO738.out BK724.out (by decide)) BK725.out (by decide)) (fun _ hk => hk.1.2) (.bool t735)) (fun _ hk => hk.1.2) (.slice Ao133 t736.length co133)) (fun _ hk => hk.2) (.bool t739)) (fun _ hk => hk.2) (.slice Ao135 t740.length co135)) (fun _ hk => hk.1.1.2)), by exact uR (Kd.R_mono (Kd.R_far (p := ⟨gb725, 1, none⟩) (Kd.R_far (p := ⟨gb725, 0, none⟩) (Kd.R_far (p := ⟨gb724, 1, none⟩) (Kd.R_far (p := ⟨gb724, 0, none⟩) (Kd.R_types (Kd.R_types HO742.out BK724.out (by decide)) BK725.out (by decide)) (fun _ hk => hk.1.2) (.bool t735)) (fun _ hk => hk.1.2) (.slice Ao133 t736.length co133)) (fun _ hk => hk.2) (.bool t739)) (fun _ hk => hk.2) (.slice Ao135 t740.length co135)) (fun _ hk => hk.1.1.2)), uB⟩
def windbreakref01_Shl.j0 : Nat → List Int → Int → Bool → Option (List Int × Int)
 | 0, _, _, _ => none
 | k + 1, x0, x1, x14 => if x14 = true then (some (([] : List Int), 1)) else (if (x0.length : Int) = 0 then (some (([] : List Int), 0)) else (if x1 > 4096 then (some (([] : List Int), 4)) else ((windbreakref01_In.f k x0).bind fun t767 => ((windbreakref01_power.f k x1).bind fun t770 => ((windbreakref01_mul.f k t767 t770).bind fun t773 => ((windbreakref01_told.f k t773).bind fun bt776 => (some (bt776.1, bt776.2))))))))
def windbreakref01_Shl.f (k : Nat) (l0 : List Int) (a1 : Int) : Option (List Int × Int) := (windbreakref01_Right.f l0).bind fun t766 => (if t766 = true then (windbreakref01_Shl.j0 k l0 a1 (decide (a1 < 0))) else (windbreakref01_Shl.j0 k l0 a1 true))
theorem windbreakref01_Shl.calls (k : Nat) (A0 : Option Addr) (c0 : Nat) (l0 : List Int) (a1 : Int) (r1 : List Int) (r2 : Int) (w : World) (hr0 : Kd.C (Kd.int .u64) w A0 l0.length l0) (hc0 : l0.length ≤ c0) (h : windbreakref01_Shl.f k l0 a1 = some (r1, r2)) :
  Calls Try.prog 53 #[.slice A0 l0.length c0, .int .i64 a1] w fun e w' => ∃ v0_ : Value, e = .returned (.tuple #[v0_, .int .i64 r2]) ∧ Kd.R (Kd.int .u64) 42 w' w.heap.size (fun _ => True) v0_ r1 ∧ Below w.heap.size w w' := by
 have HR0 := Aside0.mk hr0; have HC0 := Aside0.mk hc0; clear hr0 hc0
 have HB := Aside0.mk (Below.refl w.heap.size w)
 have H : ((windbreakref01_Right.f l0).bind fun t766 => (if t766 = true then (windbreakref01_Shl.j0 k l0 a1 (decide (a1 < 0))) else (windbreakref01_Shl.j0 k l0 a1 true))) = some (r1, r2) := h
 clear h
 replace H := ub H; obtain ⟨t766, A3, H⟩ := H
 have HC4 := Aside0.mk H; clear H
 go_enter Try.func53, Try.ntmps53
 go_upto_region 2 with (first | ((with_reducible refine ug 31 rfl ?_); refine uh (some 8) rfl Try.func31 #[.slice A0 l0.length c0] ?_; (with_reducible refine (windbreakref01_Right.calls _ _ l0 t766 _ ?side1 ?side2 A3.out).mono ?_); (case side1 => exact uC HR0.out); (case side2 => exact HC0.out); rintro e w' ⟨rfl, ⟨nd, rfl⟩⟩; refine ⟨_, rfl, ?_⟩))
 (try simp only [Act.put, List.setIfInBounds_toArray, List.set_cons_zero, List.set_cons_succ])
 go_cut [14] (fun v14 wc => ∃ (kq : Nat) (x14_3 : Bool), v14 = .bool x14_3 ∧ Aside0 (windbreakref01_Shl.j0 kq l0 a1 x14_3 = some (r1, r2)) ∧ Aside0 (kq ≤ k) ∧ Aside0 (Below w.heap.size w wc))
 case first =>
  have H := HC4.out
  clear HC4
  by_cases c5 : t766 = true
  ·
   subst c5
   have H1 : (windbreakref01_Shl.j0 k l0 a1 (decide (a1 < 0))) = some (r1, r2) := by rw [if_pos rfl] at H; exact H
   clear H; have H := H1; clear H1
   have H' := Aside0.mk H
   clear H
   go_wp2
   go_meet
   case rel => exact ⟨_, (decide (a1 < 0)), uG, H', ⟨uW⟩, ⟨uB⟩⟩
  replace c5 := Bool.eq_false_iff.mpr c5
  subst c5
  have H1 : (windbreakref01_Shl.j0 k l0 a1 true) = some (r1, r2) := by rw [if_neg (show ¬ (false = true) by decide)] at H; exact H
  clear H; have H := H1; clear H1
  have H' := Aside0.mk H
  clear H
  go_wp2
  go_meet
  case rel => exact ⟨_, (true), uG, H', ⟨uW⟩, ⟨uB⟩⟩
 case rest =>
  clear HC4
  obtain ⟨kq, x14_3, rfl, HA, HJ3, HB⟩ := hcut
  cases kq with
  | zero => exact absurd HA.out (by simp [windbreakref01_Shl.j0])
  | succ kj3 =>
   have H := HA.out
   clear HA
   simp only [windbreakref01_Shl.j0] at H
   by_cases c6 : x14_3 = true
   ·
    subst c6
    have H1 : (some (([] : List Int), 1)) = some (r1, r2) := by rw [if_pos rfl] at H; exact H
    clear H; have H := H1; clear H1
    simp only [Option.some.injEq, Prod.mk.injEq] at H
    obtain ⟨rfl, rfl⟩ := H
    go_wp2
    go_ret2
    exact ⟨_, uF, uI, uB⟩
   replace c6 := Bool.eq_false_iff.mpr c6
   subst c6
   have H1 : (if (l0.length : Int) = 0 then (some (([] : List Int), 0)) else (if a1 > 4096 then (some (([] : List Int), 4)) else ((windbreakref01_In.f kj3 l0).bind fun t767 => ((windbreakref01_power.f kj3 a1).bind fun t770 => ((windbreakref01_mul.f kj3 t767 t770).bind fun t773 => ((windbreakref01_told.f kj3 t773).bind fun bt776 => (some (bt776.1, bt776.2)))))))) = some (r1, r2) := by rw [if_neg (show ¬ (false = true) by decide)] at H; exact H
   clear H; have H := H1; clear H1
   by_cases c7 : (l0.length : Int) = 0
   ·
    rw [if_pos c7] at H
    have c7b0 := beq_iff_eq.mpr c7
    have c7b1 := bne_eq_false_iff_eq.mpr c7
    clear c7
    simp only [Option.some.injEq, Prod.mk.injEq] at H
    obtain ⟨rfl, rfl⟩ := H
    go_wp2
    go_ret2
    exact ⟨_, uF, uI, uB⟩
   rw [if_neg c7] at H
   have c7b0 := beq_eq_false_iff_ne.mpr c7
   have c7b1 := bne_iff_ne.mpr c7
   have c7b2 : ¬ (l0 = []) := fun h_ => c7 (by rw [h_]; rfl)
   by_cases c8 : a1 > 4096
   ·
    rw [if_pos c8] at H
    have c8b0 := decide_eq_true c8
    clear c8
    simp only [Option.some.injEq, Prod.mk.injEq] at H
    obtain ⟨rfl, rfl⟩ := H
    go_wp2
    go_ret2
    exact ⟨_, uF, uI, uB⟩
   rw [if_neg c8] at H
   have c8b0 := decide_eq_false c8
   clear c8
   replace H := ub H; obtain ⟨t767, A9, H⟩ := H
   replace H := ub H; obtain ⟨t770, A10, H⟩ := H
   replace H := ub H; obtain ⟨t773, A11, H⟩ := H
   replace H := ub H; obtain ⟨⟨t776, t777⟩, A12, H⟩ := H
   (try dsimp only at H)
   simp only [Option.some.injEq, Prod.mk.injEq] at H
   obtain ⟨rfl, rfl⟩ := H
   go_wp2_with (first | ((with_reducible refine ug 34 rfl ?_); refine uh (some 21) rfl Try.func34 #[.slice A0 l0.length c0] ?_; (with_reducible refine (windbreakref01_In.calls kj3 _ _ l0 t767 _ ?side1 ?side2 A9.out).mono ?_); (case side1 => exact uC (Kd.C_below HR0.out HB.out)); (case side2 => exact HC0.out); rintro e w13 ⟨v768, rfl, ho0, hb⟩; refine ⟨_, rfl, ?_⟩; have HO769 := ulo ho0; replace HB := uy hb; (try clear hb ho0)) | ((with_reducible refine ug 78 rfl ?_); refine uh (some 23) rfl Try.func78 #[.int .i64 a1] ?_; (with_reducible refine (windbreakref01_power.calls kj3 a1 t770 _ A10.out).mono ?_); rintro e w14 ⟨v771, rfl, ho0, hb⟩; refine ⟨_, rfl, ?_⟩; have HO772 := ulo (unw ho0 HO769); replace HO769 := ueR HO769 ho0 hb; replace HB := uy hb; (try clear hb ho0); obtain ⟨Ao15, co15, eo15⟩ := Kd.R_slice HO769.out; subst eo15; obtain ⟨Ao16, co16, eo16⟩ := Kd.R_slice HO772.out; subst eo16) | ((with_reducible refine ug 77 rfl ?_); refine uh (some 24) rfl Try.func77 #[.slice Ao15 t767.length co15, .slice Ao16 t770.length co16] ?_; (with_reducible refine (windbreakref01_mul.calls kj3 _ _ t767 _ _ t770 t773 _ ?side1 ?side2 ?side3 ?side4 A11.out).mono ?_); (case side1 => exact uC (Kd.R_reads' HO769.out).2.2); (case side2 => exact (Kd.R_reads' HO769.out).2.1); (case side3 => exact uC (Kd.R_reads' HO772.out).2.2); (case side4 => exact (Kd.R_reads' HO772.out).2.1); rintro e w17 ⟨v774, rfl, ho0, hb⟩; refine ⟨_, rfl, ?_⟩; have HO775 := ulo (unw (unw ho0 HO769) HO772); replace HO769 := ueR HO769 ho0 hb; replace HO772 := ueR HO772 ho0 hb; replace HB := uy hb; (try clear hb ho0); obtain ⟨Ao18, co18, eo18⟩ := Kd.R_slice HO775.out; subst eo18) | ((with_reducible refine ug 32 rfl ?_); refine uh (some 25) rfl Try.func32 #[.slice Ao18 t773.length co18] ?_; (with_reducible refine (windbreakref01_told.calls kj3 _ _ t773 t776 t777 _ ?side1 ?side2 A12.out).mono ?_); (case side1 => exact uC (Kd.R_reads' HO775.out).2.2); (case side2 => exact (Kd.R_reads' HO775.out).2.1); rintro e w19 ⟨v778, rfl, ho0, hb⟩; refine ⟨_, rfl, ?_⟩; have HO779 := ulo (unw (unw (unw ho0 HO769) HO772) HO775); replace HO769 := ueR HO769 ho0 hb; replace HO772 := ueR HO772 ho0 hb; replace HO775 := ueR HO775 ho0 hb; replace HB := uy hb; (try clear hb ho0)))
   go_ret2
   exact ⟨_, uF, by exact uR (Kd.R_mono HO779.out (fun _ hk => trivial)), uB⟩
def windbreakref07_power.f (k : Nat) (a0 : Int) : Option (Bool × List Int) := (windbreakref01_Of.f 1).bind fun t781 => ((windbreakref01_Shl.f k t781 a0).bind fun bt784 => ((windbreakref03_From.f false bt784.1).bind fun bt788 => (some (bt788.1, bt788.2))))
theorem windbreakref07_power.calls (k : Nat) (a0 : Int) (r1 : Bool) (r2 : List Int) (w : World) (h : windbreakref07_power.f k a0 = some (r1, r2)) :
  Calls Try.prog 23 #[.int .i64 a0] w fun e w' => ∃ v1_ : Value, e = .returned (.agg #[.bool r1, v1_]) ∧ Kd.R (Kd.int .u64) 42 w' w.heap.size (fun _ => True) v1_ r2 ∧ Below w.heap.size w w' := by
 have hu44 := Try.underlying44
 have HB := Aside0.mk (Below.refl w.heap.size w)
 have H : ((windbreakref01_Of.f 1).bind fun t781 => ((windbreakref01_Shl.f k t781 a0).bind fun bt784 => ((windbreakref03_From.f false bt784.1).bind fun bt788 => (some (bt788.1, bt788.2))))) = some (r1, r2) := h
 clear h
 replace H := ub H; obtain ⟨t781, A2, H⟩ := H
 replace H := ub H; obtain ⟨⟨t784, t785⟩, A3, H⟩ := H
 (try dsimp only at H)
 replace H := ub H; obtain ⟨⟨t788, t789⟩, A4, H⟩ := H
 (try dsimp only at H)
 simp only [Option.some.injEq, Prod.mk.injEq] at H
 obtain ⟨rfl, rfl⟩ := H
 go_enter Try.func23, Try.ntmps23
 go_wp2_with (first | ((with_reducible refine gate_dst (N := 2) rfl ?_); refine ubx 2 #[.bool false, .slice none 0 0] 44 rfl rfl ?_; intro gb780 hg w5 hbox hb; have BK780 := Aside0.mk (hbox); have GW780 := us hg; have GE780 := us hg; replace HB := uy hb; clear hb hbox hg) | ((with_reducible refine ug 48 rfl ?_); refine uh (some 6) rfl Try.func48 #[.int .u64 1] ?_; (with_reducible refine (windbreakref01_Of.calls 1 t781 _ A2.out).mono ?_); rintro e w6 ⟨v782, rfl, ho0, hb⟩; refine ⟨_, rfl, ?_⟩; have HO783 := ulo ho0; replace BK780 := ux BK780 hb; replace HB := uy hb; (try clear hb ho0); obtain ⟨Ao7, co7, eo7⟩ := Kd.R_slice HO783.out; subst eo7) | ((with_reducible refine ug 53 rfl ?_); refine uh (some 8) rfl Try.func53 #[.slice Ao7 t781.length co7, .int .i64 a0] ?_; (with_reducible refine (windbreakref01_Shl.calls k _ _ t781 a0 t784 t785 _ ?side1 ?side2 A3.out).mono ?_); (case side1 => exact uC (Kd.R_reads' HO783.out).2.2); (case side2 => exact (Kd.R_reads' HO783.out).2.1); rintro e w8 ⟨v786, rfl, ho0, hb⟩; refine ⟨_, rfl, ?_⟩; have HO787 := ulo (unw ho0 HO783); replace HO783 := ueR HO783 ho0 hb; replace BK780 := ux BK780 hb; replace HB := uy hb; (try clear hb ho0); obtain ⟨Ao9, co9, eo9⟩ := Kd.R_slice HO787.out; subst eo9) | ((with_reducible refine ug 50 rfl ?_); refine uh (some 12) rfl Try.func50 #[.bool false, .slice Ao9 t784.length co9] ?_; (with_reducible refine (windbreakref03_From.calls false _ _ t784 t788 t789 _ ?side1 ?side2 A4.out).mono ?_); (case side1 => exact uC (Kd.R_reads' HO787.out).2.2); (case side2 => exact (Kd.R_reads' HO787.out).2.1); rintro e w10 ⟨v790, rfl, ho0, hb⟩; refine ⟨_, rfl, ?_⟩; have HO791 := ulo (unw (unw ho0 HO783) HO787); replace HO783 := ueR HO783 ho0 hb; replace HO787 := ueR HO787 ho0 hb; replace BK780 := ux BK780 hb; replace HB := uy hb; (try clear hb ho0); obtain ⟨hcz11_0, hcz11_1, hfz11_0, hfz11_1⟩ := uz2 w10 BK780; obtain ⟨Ao12, co12, eo12⟩ := Kd.R_slice HO791.out; subst eo12))
 refine bodyPost_ret (results_cell_row rfl _ _ gb780 44 #[.bool t788, .slice Ao12 t789.length co12] (0, 0) _ rfl (by refine blk_put (cs := #[.bool t788, .slice none 0 0]) ?_ 1 _ rfl; refine blk_put (cs := #[.bool false, .slice none 0 0]) ?_ 0 _ rfl; exact uK BK780.out) Try.underlying44 rfl (by kernel_rfl)) rfl ?_
 exact ⟨_, uF, by exact uR (Kd.R_mono (Kd.R_far (p := ⟨gb780, 1, none⟩) (Kd.R_far (p := ⟨gb780, 0, none⟩) (Kd.R_types HO791.out BK780.out (by decide)) (fun _ hk => hk.2) (.bool t788)) (fun _ hk => hk.2) (.slice Ao12 t789.length co12)) (fun _ hk => trivial)), uB⟩
def windbreakref01_Small.j0 : Nat → List Int → Bool → Option (Int × Bool)
 | 0, _, _ => none
 | k + 1, x0, x13 => if x13 = true then (some (0, false)) else (if (x0.length : Int) = 0 then (some (0, true)) else (if 0 < (x0.length : Int) then (some (rd x0 0, true)) else (none)))
def windbreakref01_Small.f (k : Nat) (l0 : List Int) : Option (Int × Bool) := (windbreakref01_Right.f l0).bind fun t792 => (if t792 = true then (windbreakref01_Small.j0 k l0 (decide ((l0.length : Int) > 1))) else (windbreakref01_Small.j0 k l0 true))
theorem windbreakref01_Small.calls (k : Nat) (A0 : Option Addr) (c0 : Nat) (l0 : List Int) (r1 : Int) (r2 : Bool) (w : World) (hr0 : Kd.C (Kd.int .u64) w A0 l0.length l0) (hc0 : l0.length ≤ c0) (h : windbreakref01_Small.f k l0 = some (r1, r2)) :
  Calls Try.prog 54 #[.slice A0 l0.length c0] w fun e w' => e = .returned (.tuple #[.int .u64 r1, .bool r2]) ∧ Drawn0 w w' := by
 have HR0 := Aside0.mk hr0; have HC0 := Aside0.mk hc0; clear hr0 hc0
 have H : ((windbreakref01_Right.f l0).bind fun t792 => (if t792 = true then (windbreakref01_Small.j0 k l0 (decide ((l0.length : Int) > 1))) else (windbreakref01_Small.j0 k l0 true))) = some (r1, r2) := h
 clear h
 replace H := ub H; obtain ⟨t792, A2, H⟩ := H
 have HC3 := Aside0.mk H; clear H
 go_enter Try.func54, Try.ntmps54
 go_upto_region 2 with (first | ((with_reducible refine ug 31 rfl ?_); refine uh (some 6) rfl Try.func31 #[.slice A0 l0.length c0] ?_; (with_reducible refine (windbreakref01_Right.calls _ _ l0 t792 _ ?side1 ?side2 A2.out).mono ?_); (case side1 => exact uC HR0.out); (case side2 => exact HC0.out); rintro e w' ⟨rfl, ⟨nd, rfl⟩⟩; refine ⟨_, rfl, ?_⟩))
 (try simp only [Act.put, List.setIfInBounds_toArray, List.set_cons_zero, List.set_cons_succ])
 go_cut [13] (fun v13 wc => ∃ (kq : Nat) (x13_2 : Bool), v13 = .bool x13_2 ∧ Aside0 (windbreakref01_Small.j0 kq l0 x13_2 = some (r1, r2)) ∧ Aside0 (kq ≤ k) ∧ Drawn0 w wc)
 case first =>
  have H := HC3.out
  clear HC3
  by_cases c4 : t792 = true
  ·
   subst c4
   have H1 : (windbreakref01_Small.j0 k l0 (decide ((l0.length : Int) > 1))) = some (r1, r2) := by rw [if_pos rfl] at H; exact H
   clear H; have H := H1; clear H1
   have H' := Aside0.mk H
   clear H
   go_wp2
   go_meet
   case rel => exact ⟨_, (decide ((l0.length : Int) > 1)), uG, H', ⟨uW⟩, by repeat (first | exact Drawn0.refl _ | apply Drawn0.step)⟩
  replace c4 := Bool.eq_false_iff.mpr c4
  subst c4
  have H1 : (windbreakref01_Small.j0 k l0 true) = some (r1, r2) := by rw [if_neg (show ¬ (false = true) by decide)] at H; exact H
  clear H; have H := H1; clear H1
  have H' := Aside0.mk H
  clear H
  go_wp2
  go_meet
  case rel => exact ⟨_, (true), uG, H', ⟨uW⟩, by repeat (first | exact Drawn0.refl _ | apply Drawn0.step)⟩
 case rest =>
  clear HC3
  obtain ⟨kq, x13_2, rfl, HA, HJ2, ⟨mc2, rfl⟩⟩ := hcut
  cases kq with
  | zero => exact absurd HA.out (by simp [windbreakref01_Small.j0])
  | succ kj2 =>
   have H := HA.out
   clear HA
   simp only [windbreakref01_Small.j0] at H
   by_cases c5 : x13_2 = true
   ·
    subst c5
    have H1 : (some (0, false)) = some (r1, r2) := by rw [if_pos rfl] at H; exact H
    clear H; have H := H1; clear H1
    simp only [Option.some.injEq, Prod.mk.injEq] at H
    obtain ⟨rfl, rfl⟩ := H
    go_wp2
    go_ret2
    exact ⟨by first | rfl | (simp; done) | (simp [*]; done), by repeat (first | exact Drawn0.refl _ | apply Drawn0.step)⟩
   replace c5 := Bool.eq_false_iff.mpr c5
   subst c5
   have H1 : (if (l0.length : Int) = 0 then (some (0, true)) else (if 0 < (l0.length : Int) then (some (rd l0 0, true)) else (none))) = some (r1, r2) := by rw [if_neg (show ¬ (false = true) by decide)] at H; exact H
   clear H; have H := H1; clear H1
   by_cases c6 : (l0.length : Int) = 0
   ·
    rw [if_pos c6] at H
    have c6b0 := beq_iff_eq.mpr c6
    have c6b1 := bne_eq_false_iff_eq.mpr c6
    clear c6
    simp only [Option.some.injEq, Prod.mk.injEq] at H
    obtain ⟨rfl, rfl⟩ := H
    go_wp2
    go_ret2
    exact ⟨by first | rfl | (simp; done) | (simp [*]; done), by repeat (first | exact Drawn0.refl _ | apply Drawn0.step)⟩
   rw [if_neg c6] at H
   have c6b0 := beq_eq_false_iff_ne.mpr c6
   have c6b1 := bne_iff_ne.mpr c6
   have c6b2 : ¬ (l0 = []) := fun h_ => c6 (by rw [h_]; rfl)
   replace H := uT H; obtain ⟨c7, H⟩ := H
   have c7b0 := decide_eq_true c7
   have c7b1 : decide (0 < l0.length) = true := decide_eq_true (by omega)
   clear c7
   simp only [Option.some.injEq, Prod.mk.injEq] at H
   obtain ⟨rfl, rfl⟩ := H
   have p793 : 0 ≤ (0 : Int) := (by omega)
   have q793 : 0 < (l0.length : Int) := uO
   obtain ⟨ad793, e793, hx793_0⟩ := Kd.at_int HR0.out 0 p793 q793
   cases e793
   have qi793 : (0 < l0.length) = True := eq_true (by omega)
   (try rw [show ((0 : Int)).toNat = 0 from rfl] at hx793_0)
   (try rw [Addr.add_zero'] at hx793_0)
   replace p793 := eq_true p793
   replace q793 := eq_true q793
   go_wp2
   go_ret2
   exact ⟨by first | rfl | (simp; done) | (simp [*]; done), by repeat (first | exact Drawn0.refl _ | apply Drawn0.step)⟩
def windbreakref03_Small.j0 : Nat → Int → Bool → Bool → List Int → Option (Int × Bool)
 | 0, _, _, _, _ => none
 | k + 1, x5, x37, x795000, x795001 => if x37 = true then (some (0, false)) else (if x795000 = true then (some (wrap64 ((wrap64 (-(wrap64 (IntKind.u64.wrap (x5 - 1))))) - 1), true)) else (some (wrap64 (x5), true)))
def windbreakref03_Small.f (k : Nat) (a0_0 : Bool) (l0_1 : List Int) : Option (Int × Bool) := (windbreakref03_Right.f a0_0 l0_1).bind fun t795 => ((windbreakref01_Small.f k l0_1).bind fun bt796 => (if t795 = true then (if bt796.2 = true then (if a0_0 = true then (windbreakref03_Small.j0 k bt796.1 (decide (bt796.1 > 9223372036854775808)) a0_0 l0_1) else (if bt796.1 > 9223372036854775807 then (windbreakref03_Small.j0 k bt796.1 true a0_0 l0_1) else (windbreakref03_Small.j0 k bt796.1 false a0_0 l0_1))) else (windbreakref03_Small.j0 k bt796.1 true a0_0 l0_1)) else (windbreakref03_Small.j0 k bt796.1 true a0_0 l0_1)))
theorem windbreakref03_Small.calls (k : Nat) (a0_0 : Bool) (A0_1 : Option Addr) (c0_1 : Nat) (l0_1 : List Int) (r1 : Int) (r2 : Bool) (w : World) (hr0_1 : Kd.C (Kd.int .u64) w A0_1 l0_1.length l0_1) (hc0_1 : l0_1.length ≤ c0_1) (h : windbreakref03_Small.f k a0_0 l0_1 = some (r1, r2)) :
  Calls Try.prog 24 #[.agg #[.bool a0_0, .slice A0_1 l0_1.length c0_1]] w fun e w' => e = .returned (.tuple #[.int .i64 r1, .bool r2]) ∧ Below w.heap.size w w' := by
 have hu44 := Try.underlying44
 have HR0_1 := Aside0.mk hr0_1; have HC0_1 := Aside0.mk hc0_1; clear hr0_1 hc0_1
 have HB := Aside0.mk (Below.refl w.heap.size w)
 have H : ((windbreakref03_Right.f a0_0 l0_1).bind fun t795 => ((windbreakref01_Small.f k l0_1).bind fun bt796 => (if t795 = true then (if bt796.2 = true then (if a0_0 = true then (windbreakref03_Small.j0 k bt796.1 (decide (bt796.1 > 9223372036854775808)) a0_0 l0_1) else (if bt796.1 > 9223372036854775807 then (windbreakref03_Small.j0 k bt796.1 true a0_0 l0_1) else (windbreakref03_Small.j0 k bt796.1 false a0_0 l0_1))) else (windbreakref03_Small.j0 k bt796.1 true a0_0 l0_1)) else (windbreakref03_Small.j0 k bt796.1 true a0_0 l0_1)))) = some (r1, r2) := h
 clear h
 replace H := ub H; obtain ⟨t795, A2, H⟩ := H
 replace H := ub H; obtain ⟨⟨t796, t797⟩, A3, H⟩ := H
 (try dsimp only at H)
 have HC4 := Aside0.mk H; clear H
 go_enter Try.func24, Try.ntmps24
 go_upto_region 3 with (first | ((with_reducible refine gate_dst (N := 1) rfl ?_); refine ubx 1 #[.bool a0_0, .slice A0_1 l0_1.length c0_1] 44 rfl rfl ?_; intro gb794 hg w5 hbox hb; have BK794 := Aside0.mk (hbox); have GW794 := us hg; have GE794 := us hg; replace HB := uy hb; clear hb hbox hg; obtain ⟨hcz6_0, hcz6_1, hfz6_0, hfz6_1⟩ := uz2 w5 BK794) | ((with_reducible refine ug 52 rfl ?_); refine uh (some 8) rfl Try.func52 #[.agg #[.bool a0_0, .slice A0_1 l0_1.length c0_1]] ?_; (with_reducible refine (windbreakref03_Right.calls a0_0 _ _ l0_1 t795 _ ?side1 ?side2 A2.out).mono ?_); (case side1 => exact uC (Kd.C_below HR0_1.out HB.out)); (case side2 => exact HC0_1.out); rintro e w7 ⟨rfl, hb⟩; refine ⟨_, rfl, ?_⟩; replace BK794 := ux BK794 hb; replace HB := uy hb; (try clear hb); obtain ⟨hcz8_0, hcz8_1, hfz8_0, hfz8_1⟩ := uz2 w7 BK794) | ((with_reducible refine ug 54 rfl ?_); refine uh (some 12) rfl Try.func54 #[.slice A0_1 l0_1.length c0_1] ?_; (with_reducible refine (windbreakref01_Small.calls k _ _ l0_1 t796 t797 _ ?side1 ?side2 A3.out).mono ?_); (case side1 => exact uC (Kd.C_below HR0_1.out HB.out)); (case side2 => exact HC0_1.out); rintro e w' ⟨rfl, ⟨nd, rfl⟩⟩; refine ⟨_, rfl, ?_⟩))
 (try simp only [Act.put, List.setIfInBounds_toArray, List.set_cons_zero, List.set_cons_succ])
 go_cut [37] (fun v37 wc => ∃ (kq : Nat) (x37_3 : Bool), v37 = .bool x37_3 ∧ Aside0 (windbreakref03_Small.j0 kq t796 x37_3 a0_0 l0_1 = some (r1, r2)) ∧ Aside0 (kq ≤ k) ∧ Aside0 (wc.heap[gb794]? = some (.cells #[.bool a0_0, (.slice A0_1 l0_1.length c0_1)] 44 (0, 0))) ∧ Aside0 (Below w.heap.size w wc))
 case first =>
  have H := HC4.out
  clear HC4
  by_cases c9 : t795 = true
  ·
   subst c9
   have H1 : (if t797 = true then (if a0_0 = true then (windbreakref03_Small.j0 k t796 (decide (t796 > 9223372036854775808)) a0_0 l0_1) else (if t796 > 9223372036854775807 then (windbreakref03_Small.j0 k t796 true a0_0 l0_1) else (windbreakref03_Small.j0 k t796 false a0_0 l0_1))) else (windbreakref03_Small.j0 k t796 true a0_0 l0_1)) = some (r1, r2) := by rw [if_pos rfl] at H; exact H
   clear H; have H := H1; clear H1
   by_cases c10 : t797 = true
   ·
    subst c10
    have H1 : (if a0_0 = true then (windbreakref03_Small.j0 k t796 (decide (t796 > 9223372036854775808)) a0_0 l0_1) else (if t796 > 9223372036854775807 then (windbreakref03_Small.j0 k t796 true a0_0 l0_1) else (windbreakref03_Small.j0 k t796 false a0_0 l0_1))) = some (r1, r2) := by rw [if_pos rfl] at H; exact H
    clear H; have H := H1; clear H1
    by_cases c11 : a0_0 = true
    ·
     subst c11
     have H1 : (windbreakref03_Small.j0 k t796 (decide (t796 > 9223372036854775808)) true l0_1) = some (r1, r2) := by rw [if_pos rfl] at H; exact H
     clear H; have H := H1; clear H1
     have H' := Aside0.mk H
     clear H; obtain ⟨hcz12_0, hcz12_1, hfz12_0, hfz12_1⟩ := uz2 w7 BK794
     go_wp2
     go_meet
     case rel => exact ⟨_, (decide (t796 > 9223372036854775808)), uG, H', ⟨uW⟩, ⟨uK BK794.out⟩, ⟨uB⟩⟩
    replace c11 := Bool.eq_false_iff.mpr c11
    subst c11
    have H1 : (if t796 > 9223372036854775807 then (windbreakref03_Small.j0 k t796 true false l0_1) else (windbreakref03_Small.j0 k t796 false false l0_1)) = some (r1, r2) := by rw [if_neg (show ¬ (false = true) by decide)] at H; exact H
    clear H; have H := H1; clear H1
    by_cases c13 : t796 > 9223372036854775807
    ·
     rw [if_pos c13] at H
     have c13b0 := decide_eq_true c13
     clear c13
     (first | rw [c13b0] | (simp only [i64_w, i32_w]; rw [c13b0]) | skip)
     have H' := Aside0.mk H
     clear H; obtain ⟨hcz14_0, hcz14_1, hfz14_0, hfz14_1⟩ := uz2 w7 BK794
     go_wp2
     go_meet
     case rel => exact ⟨_, (true), uG, H', ⟨uW⟩, ⟨uK BK794.out⟩, ⟨uB⟩⟩
    rw [if_neg c13] at H
    have c13b0 := decide_eq_false c13
    clear c13
    (first | rw [c13b0] | (simp only [i64_w, i32_w]; rw [c13b0]) | skip)
    have H' := Aside0.mk H
    clear H; obtain ⟨hcz15_0, hcz15_1, hfz15_0, hfz15_1⟩ := uz2 w7 BK794
    go_wp2
    go_meet
    case rel => exact ⟨_, (false), uG, H', ⟨uW⟩, ⟨uK BK794.out⟩, ⟨uB⟩⟩
   replace c10 := Bool.eq_false_iff.mpr c10
   subst c10
   have H1 : (windbreakref03_Small.j0 k t796 true a0_0 l0_1) = some (r1, r2) := by rw [if_neg (show ¬ (false = true) by decide)] at H; exact H
   clear H; have H := H1; clear H1
   have H' := Aside0.mk H
   clear H
   go_wp2
   go_meet
   case rel => exact ⟨_, (true), uG, H', ⟨uW⟩, ⟨uK BK794.out⟩, ⟨uB⟩⟩
  replace c9 := Bool.eq_false_iff.mpr c9
  subst c9
  have H1 : (windbreakref03_Small.j0 k t796 true a0_0 l0_1) = some (r1, r2) := by rw [if_neg (show ¬ (false = true) by decide)] at H; exact H
  clear H; have H := H1; clear H1
  have H' := Aside0.mk H
  clear H
  go_wp2
  go_meet
  case rel => exact ⟨_, (true), uG, H', ⟨uW⟩, ⟨uK BK794.out⟩, ⟨uB⟩⟩
 case rest =>
  clear HC4; (try clear hcz12_0 hcz12_1); (try clear hcz14_0 hcz14_1); (try clear hcz15_0 hcz15_1); (try clear hcz6_0 hcz6_1); (try clear hcz8_0 hcz8_1); (try clear hfz12_0 hfz12_1); (try clear hfz14_0 hfz14_1); (try clear hfz15_0 hfz15_1); (try clear hfz6_0 hfz6_1); (try clear hfz8_0 hfz8_1)
  obtain ⟨kq, x37_3, rfl, HA, HJ3, BK794, HB⟩ := hcut
  cases kq with
  | zero => exact absurd HA.out (by simp [windbreakref03_Small.j0])
  | succ kj3 =>
   have H := HA.out
   clear HA
   simp only [windbreakref03_Small.j0] at H
   by_cases c16 : x37_3 = true
   ·
    subst c16
    have H1 : (some (0, false)) = some (r1, r2) := by rw [if_pos rfl] at H; exact H
    clear H; have H := H1; clear H1
    simp only [Option.some.injEq, Prod.mk.injEq] at H
    obtain ⟨rfl, rfl⟩ := H
    go_wp2
    go_ret2
    exact ⟨uF, uB⟩
   replace c16 := Bool.eq_false_iff.mpr c16
   subst c16
   have H1 : (if a0_0 = true then (some (wrap64 ((wrap64 (-(wrap64 (IntKind.u64.wrap (t796 - 1))))) - 1), true)) else (some (wrap64 (t796), true))) = some (r1, r2) := by rw [if_neg (show ¬ (false = true) by decide)] at H; exact H
   clear H; have H := H1; clear H1
   by_cases c17 : a0_0 = true
   ·
    subst c17
    have H1 : (some (wrap64 ((wrap64 (-(wrap64 (IntKind.u64.wrap (t796 - 1))))) - 1), true)) = some (r1, r2) := by rw [if_pos rfl] at H; exact H
    clear H; have H := H1; clear H1
    simp only [Option.some.injEq, Prod.mk.injEq] at H
    obtain ⟨rfl, rfl⟩ := H
    obtain ⟨hcz18_0, hcz18_1, hfz18_0, hfz18_1⟩ := uz2 wc BK794
    go_wp2
    go_ret2
    exact ⟨uF, uB⟩
   replace c17 := Bool.eq_false_iff.mpr c17
   subst c17
   have H1 : (some (wrap64 (t796), true)) = some (r1, r2) := by rw [if_neg (show ¬ (false = true) by decide)] at H; exact H
   clear H; have H := H1; clear H1
   simp only [Option.some.injEq, Prod.mk.injEq] at H
   obtain ⟨rfl, rfl⟩ := H
   obtain ⟨hcz19_0, hcz19_1, hfz19_0, hfz19_1⟩ := uz2 wc BK794
   go_wp2
   go_ret2
   exact ⟨uF, uB⟩
def modint_Neg.f (a0_0 : Bool) (l0_1 : List Int) : Option (Bool × List Int) := (modint_Right.f a0_0 l0_1).bind fun t900 => (if t900 = true then ((modint_From.f (!a0_0) l0_1).bind fun bt901 => (some (bt901.1, bt901.2))) else (some (false, ([] : List Int))))
end Go.Proofs.Ytnaphgnkhhapoab.F
end
section
namespace Go.Proofs.Ytnaphgnkhhapoab.F
open Go.RowKit Go.Proofs.YtnaphgnkhhapoabW.PrintWords Go.Proofs.YtnaphgnkhhapoabW.PrintLast Go.Proofs.YtnaphgnkhhapoabW.PrintMore
set_option linter.unusedVariables false
set_option linter.unusedSimpArgs false
def nat_right.f : List (List Int) → Option Bool
  | [] => some true
  | a :: l => (nat_Right.f a).bind fun b => if b = true then nat_right.f l else some false
def nat_right.ix : List (List Int) → Option Nat
  | [] => some 0
  | a :: l => (nat_Right.f a).bind fun b => if b = true then (nat_right.ix l).map (· + 1) else some 0
theorem nat_right.ix_of {l : List (List Int)} {r : Bool} (h : nat_right.f l = some r) : ∃ k, nat_right.ix l = some k ∧ k ≤ l.length ∧ (r = true ↔ k = l.length) ∧ (∀ j, j < k → nat_Right.f (l.getD j []) = some true) ∧ (k < l.length → nat_Right.f (l.getD k []) = some false) := by
  induction l generalizing r with
  | nil =>
    simp only [nat_right.f, Option.some.injEq] at h
    exact ⟨0, rfl, Nat.le_refl _, by simp [← h], fun j hj => absurd hj (Nat.not_lt_zero _), fun hj => absurd hj (Nat.not_lt_zero _)⟩
  | cons a l ih =>
    simp only [nat_right.f] at h
    cases hb : nat_Right.f a with
    | none => rw [hb] at h; simp at h
    | some b =>
      rw [hb] at h
      simp only [Option.bind_some] at h
      cases b with
      | true =>
        simp only [if_true] at h
        obtain ⟨k, hk, hle, hr, hj, hl⟩ := ih h
        refine ⟨k + 1, by simp [nat_right.ix, hb, hk], by simp; omega, by simp [hr], ?_, ?_⟩
        · intro j hjk
          cases j with
          | zero => simpa using hb
          | succ j => simpa using hj j (by omega)
        · intro hlt
          simpa using hl (by simpa using hlt)
      | false =>
        simp at h
        refine ⟨0, by simp [nat_right.ix, hb], Nat.zero_le _, ?_, fun j hj => absurd hj (Nat.not_lt_zero _), fun _ => by simpa using hb⟩
        simp [← h]
theorem nat_right.closure (A0 : Option Addr) (c0 : Nat) (l0 : List Int) (r : Bool) (w : World) (hr0 : Kd.C (Kd.int .u64) w A0 l0.length l0) (hc0 : l0.length ≤ c0) (h : nat_Right.f l0 = some r) :
    Calls Try.prog 83 #[.slice A0 l0.length c0] w fun e w' => e = .returned (.bool (!r)) ∧ Drawn0 w w' := by
  have hcall := nat_Right.calls A0 c0 l0 r w hr0 hc0 h
  clear hr0 hc0 h
  have HC := Aside0.mk hcall
  clear hcall
  go_enter Try.func83, Try.ntmps83
  go_wp2_with (go_at_call 39; refine HC.out.mono ?_; rintro e w' ⟨rfl, hd⟩)
  go_ret
  exact ⟨rfl, hd⟩
theorem nat_right.index (A0 : Option Addr) (c0 : Nat) (l0 : List (List Int)) (r : Bool) (w : World) (hr0 : Kd.C (Kd.slice 42 (Kd.int .u64)) w A0 l0.length l0) (hc0 : l0.length ≤ c0) (h : nat_right.f l0 = some r) :
    Calls Try.prog 95 #[.slice A0 l0.length c0, .func (.func 83) #[] #[]] w fun e w' => (∃ k : Int, e = .returned (.int .i64 k) ∧ decide (0 ≤ k) = !r) ∧ Drawn0 w w' := by
  have HR0 := Aside0.mk hr0
  obtain ⟨k, hk, hle, hr, hj, hl⟩ := nat_right.ix_of h
  have hbig : l0.length ≤ 9223372036854775807 := hr0.2.1
  have HJ := Aside0.mk hj
  have HL := Aside0.mk hl
  have HRR := Aside0.mk hr
  clear hr0 hc0 hj hl hk h hr
  go_enter Try.func95, Try.ntmps95
  go_wp2
  go_loopg [5, 8] l0.length (fun gg _ s8 wr => ∃ kk : Nat, kk ≤ k ∧ l0.length - kk ≤ gg ∧ s8 = .int .i64 kk ∧ Aside0 (Drawn0 w wr))
  case atStart => exact ⟨0, Nat.zero_le _, by omega, rfl, ⟨Drawn0.refl _⟩⟩
  case round =>
    obtain ⟨kk, hkk, hg, rfl, D⟩ := hrel
    by_cases hlt : kk < l0.length
    · have hltz : (kk : Int) < (l0.length : Int) := by omega
      have hC1 : Kd.C (Kd.slice 42 (Kd.int .u64)) wr A0 l0.length l0 := Kd.C_below HR0.out D.out.below
      have h0k : (0 : Int) ≤ (kk : Int) := Int.natCast_nonneg kk
      obtain ⟨ad, c, hA, _, hK, hc⟩ := Kd.C_get hC1 ([] : List Int) (kk : Int) h0k hltz
      obtain ⟨A1, c1, rfl, hl1, hi1⟩ := hK
      subst hA
      have hcell := hc 0 _ rfl
      rw [Nat.add_zero, show (Kd.slice 42 (Kd.int .u64)).sz = 1 from rfl, Nat.mul_one] at hcell
      simp only [Go.IntWalk.toNatUp] at hcell hl1 hi1
      have HX := HJ.out kk
      have HY := HL.out
      clear hc hC1
      generalize hx : l0.getD kk [] = x at hcell hl1 hi1 HX
      by_cases hlast : kk < k
      · have hcall := Aside0.mk (nat_right.closure A1 c1 x true wr hi1 hl1 (HX hlast))
        have D2 := D
        clear D hi1 HX HY hx
        go_wp2_with (go_at_call 83; refine hcall.out.mono ?_; rintro e w' ⟨rfl, ⟨q, rfl⟩⟩)
        go_roundg (l0.length - (kk + 1))
        case measure => omega
        case rel => exact ⟨kk + 1, by omega, by omega, by go_num, ⟨D2.out.step _⟩⟩
      · have hkk' : kk = k := by omega
        subst hkk'
        have HZ := HY hlt
        rw [hx] at HZ
        have hcall := Aside0.mk (nat_right.closure A1 c1 x false wr hi1 hl1 HZ)
        have hr : r = false := by
          cases r with
          | false => rfl
          | true => have := HRR.out.1 rfl; omega
        have HR := Aside0.mk hr
        have D2 := D
        clear D hi1 HX HY hx HZ hr
        go_wp2_with (go_at_call 83; refine hcall.out.mono ?_; rintro e w' ⟨rfl, ⟨q, rfl⟩⟩)
        go_ret
        exact ⟨⟨_, rfl, by rw [HR.out]; simp⟩, D2.out.step _⟩
    · have hltz : ¬ (kk : Int) < (l0.length : Int) := by omega
      have hr : r = true := HRR.out.2 (by omega)
      have HR := Aside0.mk hr
      clear hr
      go_wp2
      go_ret
      exact ⟨⟨_, rfl, by rw [HR.out]; simp⟩, D.out⟩
theorem nat_right.contains (A0 : Option Addr) (c0 : Nat) (l0 : List (List Int)) (r : Bool) (w : World) (hr0 : Kd.C (Kd.slice 42 (Kd.int .u64)) w A0 l0.length l0) (hc0 : l0.length ≤ c0) (h : nat_right.f l0 = some r) :
    Calls Try.prog 82 #[.slice A0 l0.length c0, .func (.func 83) #[] #[]] w fun e w' => e = .returned (.bool (!r)) ∧ Drawn0 w w' := by
  have hcall := Aside0.mk (nat_right.index A0 c0 l0 r w hr0 hc0 h)
  clear hr0 hc0 h
  go_enter Try.func82, Try.ntmps82
  go_wp2_with (go_at_call 95; refine hcall.out.mono ?_; rintro e w' ⟨⟨k, rfl, hk⟩, hd⟩; have HK := Aside0.mk hk; have HD := Aside0.mk hd; clear hk hd)
  go_ret
  exact ⟨by rw [← HK.out]; rfl, HD.out⟩
theorem nat_right.calls (A0 : Option Addr) (c0 : Nat) (l0 : List (List Int)) (r : Bool) (w : World) (hr0 : Kd.C (Kd.slice 42 (Kd.int .u64)) w A0 l0.length l0) (hc0 : l0.length ≤ c0) (h : nat_right.f l0 = some r) :
    Calls Try.prog 62 #[.slice A0 l0.length c0] w fun e w' => e = .returned (.bool r) ∧ Drawn0 w w' := by
  have hcall := Aside0.mk (nat_right.contains A0 c0 l0 r w hr0 hc0 h)
  clear hr0 hc0 h
  go_enter Try.func62, Try.ntmps62
  go_wp2_with (go_at_call 82; refine hcall.out.mono ?_; rintro e w' ⟨rfl, hd⟩; have HD := Aside0.mk hd; clear hd)
  go_ret
  exact ⟨by cases r <;> rfl, HD.out⟩
def modint_right.f : List S44 → Option Bool
  | [] => some true
  | a :: l => (modint_Right.f a.f0 a.f1).bind fun b => if b = true then modint_right.f l else some false
def modint_right.ix : List S44 → Option Nat
  | [] => some 0
  | a :: l => (modint_Right.f a.f0 a.f1).bind fun b => if b = true then (modint_right.ix l).map (· + 1) else some 0
theorem modint_right.ix_of {l : List S44} {r : Bool} (h : modint_right.f l = some r) : ∃ k, modint_right.ix l = some k ∧ k ≤ l.length ∧ (r = true ↔ k = l.length) ∧ (∀ j, j < k → modint_Right.f (l.getD j z44).f0 (l.getD j z44).f1 = some true) ∧ (k < l.length → modint_Right.f (l.getD k z44).f0 (l.getD k z44).f1 = some false) := by
  induction l generalizing r with
  | nil =>
    simp only [modint_right.f, Option.some.injEq] at h
    exact ⟨0, rfl, Nat.le_refl _, by simp [← h], fun j hj => absurd hj (Nat.not_lt_zero _), fun hj => absurd hj (Nat.not_lt_zero _)⟩
  | cons a l ih =>
    simp only [modint_right.f] at h
    cases hb : modint_Right.f a.f0 a.f1 with
    | none => rw [hb] at h; simp at h
    | some b =>
      rw [hb] at h
      simp only [Option.bind_some] at h
      cases b with
      | true =>
        simp only [if_true] at h
        obtain ⟨k, hk, hle, hr, hj, hl⟩ := ih h
        refine ⟨k + 1, by simp [modint_right.ix, hb, hk], by simp; omega, by simp [hr], ?_, ?_⟩
        · intro j hjk
          cases j with
          | zero => simpa using hb
          | succ j => simpa using hj j (by omega)
        · intro hlt
          simpa using hl (by simpa using hlt)
      | false =>
        simp at h
        refine ⟨0, by simp [modint_right.ix, hb], Nat.zero_le _, ?_, fun j hj => absurd hj (Nat.not_lt_zero _), fun _ => by simpa using hb⟩
        simp [← h]
theorem modint_right.closure (b0 : Bool) (A0 : Option Addr) (c0 : Nat) (l0 : List Int) (r : Bool) (w : World) (hr0 : Kd.C (Kd.int .u64) w A0 l0.length l0) (hc0 : l0.length ≤ c0) (h : modint_Right.f b0 l0 = some r) :
    Calls Try.prog 69 #[.agg #[.bool b0, .slice A0 l0.length c0]] w fun e w' => e = .returned (.bool (!r)) ∧ Below w.heap.size w w' := by
  have HR0 := Aside0.mk hr0
  have HC0 := Aside0.mk hc0
  have HH := Aside0.mk h
  have HB := Aside0.mk (Below.refl w.heap.size w)
  clear hr0 hc0 h
  go_enter Try.func69, Try.ntmps69
  go_wp2_with (first | ((with_reducible refine gate_dst (N := 1) rfl ?_); (try (refine gate_guard (by rfl) ?_; dsimp only)); refine box_event ?hg (N := 1) ?hd (cs := #[.bool b0, .slice A0 l0.length c0]) (t := 44) ?hr ?_; (case hd => rfl); (case hg => rfl); (case hr => first | (go_simp; done) | (go_simp; rfl)); intro gb622 hg w5 hbox hb; have n0_ := Aside0.mk (below_step HB.out hb); have n1_ := Aside0.mk hbox; clear HB; have HB := n0_; have BK622 := n1_; clear n0_ n1_; clear hb hbox hg; have hcz6_0 : w5.cell? ⟨gb622, 0, none⟩ = some (.bool b0) := (blk_cell BK622.out 0).trans rfl; have hcz6_1 : w5.cell? ⟨gb622, 1, none⟩ = some (.slice A0 l0.length c0) := (blk_cell BK622.out 1).trans rfl; have hfz6_0 := blk_frozen BK622.out 0; have hfz6_1 := blk_frozen BK622.out 1) | (go_at_call 36; refine (modint_Right.calls b0 A0 c0 l0 r _ ?side1 HC0.out HH.out).mono ?_; (case side1 => repeat (first | exact (Kd.C_below HR0.out HB.out) | (with_reducible refine Kd.C_alloc ?_ _) | (with_reducible refine Kd.C_drewN ?_ _) | (with_reducible refine Kd.C_drew ?_))); rintro e w' ⟨rfl, hd⟩; have n0_ := Aside0.mk (below_step (by repeat (first | (with_reducible first | exact HB.out | apply below_alloc | apply pw_below_drewN | apply below_drew1) | exact HB.out)) hd); clear HB hd; have HB := n0_; clear n0_))
  go_ret
  exact ⟨rfl, by repeat (first | (with_reducible first | exact HB.out | apply below_alloc | apply pw_below_drewN | apply below_drew1) | exact HB.out)⟩
theorem modint_right.index (A0 : Option Addr) (c0 : Nat) (l0 : List S44) (r : Bool) (w : World) (hr0 : Kd.C k44 w A0 l0.length l0) (hc0 : l0.length ≤ c0) (h : modint_right.f l0 = some r) :
    Calls Try.prog 86 #[.slice A0 l0.length c0, .func (.func 69) #[] #[]] w fun e w' => (∃ k : Int, e = .returned (.int .i64 k) ∧ decide (0 ≤ k) = !r) ∧ Below w.heap.size w w' := by
  have HR0 := Aside0.mk hr0
  obtain ⟨k, hk, hle, hr, hj, hl⟩ := modint_right.ix_of h
  have hbig : l0.length ≤ 9223372036854775807 := hr0.2.1
  have HJ := Aside0.mk hj
  have HL := Aside0.mk hl
  have HRR := Aside0.mk hr
  clear hr0 hc0 hj hl hk h hr
  go_enter Try.func86, Try.ntmps86
  go_wp2
  go_loopg [5, 8] l0.length (fun gg _ s8 wr => ∃ kk : Nat, kk ≤ k ∧ l0.length - kk ≤ gg ∧ s8 = .int .i64 kk ∧ Aside0 (Below w.heap.size w wr))
  case atStart => exact ⟨0, Nat.zero_le _, by omega, rfl, ⟨Below.refl _ _⟩⟩
  case round =>
    obtain ⟨kk, hkk, hg, rfl, D⟩ := hrel
    by_cases hlt : kk < l0.length
    · have hltz : (kk : Int) < (l0.length : Int) := by omega
      have hC1 : Kd.C k44 wr A0 l0.length l0 := Kd.C_below HR0.out D.out
      have h0k : (0 : Int) ≤ (kk : Int) := Int.natCast_nonneg kk
      obtain ⟨ad, A1, c1, hA, hcell, hcell1, hl1, hi1⟩ := at_T44 hC1 (kk : Int) h0k hltz
      subst hA
      simp only [Go.IntWalk.toNatUp, rd_T44] at hcell hcell1 hl1 hi1
      have HX := HJ.out kk
      have HY := HL.out
      clear hC1
      generalize hx : l0.getD kk z44 = x at hcell hcell1 hl1 hi1 HX
      obtain ⟨x0, x1⟩ := x
      by_cases hlast : kk < k
      · have hcall := Aside0.mk (modint_right.closure x0 A1 c1 x1 true wr hi1 hl1 (HX hlast))
        have D2 := D
        clear D hi1 HX HY hx
        go_wp2_with (go_at_call 69; refine hcall.out.mono ?_; rintro e w' ⟨rfl, hb⟩; have D3 := Aside0.mk (below_step D2.out hb); clear hb)
        go_roundg (l0.length - (kk + 1))
        case measure => omega
        case rel => exact ⟨kk + 1, by omega, by omega, by go_num, D3⟩
      · have hkk' : kk = k := by omega
        subst hkk'
        have HZ := HY hlt
        rw [hx] at HZ
        have hcall := Aside0.mk (modint_right.closure x0 A1 c1 x1 false wr hi1 hl1 HZ)
        have hr : r = false := by
          cases r with
          | false => rfl
          | true => have := HRR.out.1 rfl; omega
        have HR := Aside0.mk hr
        have D2 := D
        clear D hi1 HX HY hx HZ hr
        go_wp2_with (go_at_call 69; refine hcall.out.mono ?_; rintro e w' ⟨rfl, hb⟩; have D3 := Aside0.mk (below_step D2.out hb); clear hb)
        go_ret
        exact ⟨⟨_, rfl, by rw [HR.out]; simp⟩, D3.out⟩
    · have hltz : ¬ (kk : Int) < (l0.length : Int) := by omega
      have hr : r = true := HRR.out.2 (by omega)
      have HR := Aside0.mk hr
      clear hr
      go_wp2
      go_ret
      exact ⟨⟨_, rfl, by rw [HR.out]; simp⟩, D.out⟩
theorem modint_right.contains (A0 : Option Addr) (c0 : Nat) (l0 : List S44) (r : Bool) (w : World) (hr0 : Kd.C k44 w A0 l0.length l0) (hc0 : l0.length ≤ c0) (h : modint_right.f l0 = some r) :
    Calls Try.prog 68 #[.slice A0 l0.length c0, .func (.func 69) #[] #[]] w fun e w' => e = .returned (.bool (!r)) ∧ Below w.heap.size w w' := by
  have hcall := Aside0.mk (modint_right.index A0 c0 l0 r w hr0 hc0 h)
  clear hr0 hc0 h
  go_enter Try.func68, Try.ntmps68
  go_wp2_with (go_at_call 86; refine hcall.out.mono ?_; rintro e w' ⟨⟨k, rfl, hk⟩, hd⟩; have HK := Aside0.mk hk; have HD := Aside0.mk hd; clear hk hd)
  go_ret
  exact ⟨by rw [← HK.out]; rfl, HD.out⟩
theorem modint_right.calls (A0 : Option Addr) (c0 : Nat) (l0 : List S44) (r : Bool) (w : World) (hr0 : Kd.C k44 w A0 l0.length l0) (hc0 : l0.length ≤ c0) (h : modint_right.f l0 = some r) :
    Calls Try.prog 42 #[.slice A0 l0.length c0] w fun e w' => e = .returned (.bool r) ∧ Below w.heap.size w w' := by
  have hcall := Aside0.mk (modint_right.contains A0 c0 l0 r w hr0 hc0 h)
  clear hr0 hc0 h
  go_enter Try.func42, Try.ntmps42
  go_wp2_with (go_at_call 68; refine hcall.out.mono ?_; rintro e w' ⟨rfl, hd⟩; have HD := Aside0.mk hd; clear hd)
  go_ret
  exact ⟨by cases r <;> rfl, HD.out⟩
end Go.Proofs.Ytnaphgnkhhapoab.F
end
section
namespace Go.Proofs.Ytnaphgnkhhapoab.F
open Go.RowKit Go.Proofs.YtnaphgnkhhapoabW.PrintWords Go.Proofs.YtnaphgnkhhapoabW.PrintLast Go.Proofs.YtnaphgnkhhapoabW.PrintMore
attribute [local go_sem] max2_int min2_int max_two min_two max_three min_three max_four min_four
set_option linter.unusedVariables false
set_option linter.unusedSimpArgs false
def nat_Cmp.f (k : Nat) (l0 : List Int) (l1 : List Int) : Option (Int) := (nat_right.f (([l0, l1] : List (List Int)))).bind fun t110 => (if t110 = true then ((nat_compare.f k l0 l1).bind fun t111 => (some t111)) else (some 0))
theorem nat_Cmp.calls (k : Nat) (P0_ : Nat → Prop) (A0 : Option Addr) (c0 : Nat) (l0 : List Int) (P1_ : Nat → Prop) (A1 : Option Addr) (c1 : Nat) (l1 : List Int) (r : Int) (w : World) (hs0 : Kd.V (Kd.int .u64) 42 w w.heap.size (fun k_ => P0_ k_) (.slice A0 l0.length c0) l0) (hs1 : Kd.V (Kd.int .u64) 42 w w.heap.size (fun k_ => P1_ k_) (.slice A1 l1.length c1) l1) (h : nat_Cmp.f k l0 l1 = some r) :
  Calls Try.prog 40 #[.slice A0 l0.length c0, .slice A1 l1.length c1] w fun e w' => e = .returned (.int .i64 r) ∧ Below w.heap.size w w' := by
 have HO0 := Aside0.mk (show Kd.V (Kd.int .u64) 42 w w.heap.size (fun k_ => ((P0_ k_ ∨ P1_ k_) ∨ w.heap.size ≤ k_)) (.slice A0 l0.length c0) l0 from Kd.V_mono hs0 (fun k_ hk => .inl (.inl hk)))
 have HO1 := Aside0.mk (show Kd.V (Kd.int .u64) 42 w w.heap.size (fun k_ => ((P0_ k_ ∨ P1_ k_) ∨ w.heap.size ≤ k_)) (.slice A1 l1.length c1) l1 from Kd.V_mono hs1 (fun k_ hk => .inl (.inr hk)))
 have HB := Aside0.mk (Below.refl w.heap.size w)
 have H : ((nat_right.f (([l0, l1] : List (List Int)))).bind fun t110 => (if t110 = true then ((nat_compare.f k l0 l1).bind fun t111 => (some t111)) else (some 0))) = some r := h
 clear h
 obtain ⟨y107, hy107⟩ : ∃ y_ : List (List Int), y_ = (([l0, l1] : List (List Int))) := ⟨_, rfl⟩
 replace H : ((nat_right.f y107).bind fun t110 => (if t110 = true then ((nat_compare.f k l0 l1).bind fun t111 => (some t111)) else (some 0))) = some r := by first | (rw [hy107]; with_reducible exact H) | (have H2_ := (Option.bind_some _ _).symm.trans H; rw [hy107]; with_reducible exact H2_) | (have H2_ := (Option.bind_some _ _).symm.trans H; with_reducible exact H2_) | with_reducible exact H | (rw [hy107]; exact H) | exact H
 have Ny107 := Aside0.mk hy107; clear hy107
 replace H := ub H; obtain ⟨t110, A3, H⟩ := H
 by_cases c4 : t110 = true
 ·
  subst c4
  have H1 : ((nat_compare.f k l0 l1).bind fun t111 => (some t111)) = some r := by rw [if_pos rfl] at H; exact H
  clear H; have H := H1; clear H1
  replace H := ub H; obtain ⟨t111, A5, H⟩ := H
  obtain rfl := Option.some.inj H
  go_enter Try.func40, Try.ntmps40
  go_wp2_with (first | ((with_reducible refine gate_dst (N := 7) rfl ?_); refine Kd.N_lit (Kd.slice 42 (Kd.int .u64)) _ 23 ?hg (N' := 7) ?hd (xs := ([l0, l1] : List (List Int))) (inner := [.slice A0 l0.length c0, .slice A1 l1.length c1]) (ok := (fun k_ => ((P0_ k_ ∨ P1_ k_) ∨ w.heap.size ≤ k_))) (okp := (fun k_ => ((P0_ k_ ∨ P1_ k_) ∨ w.heap.size ≤ k_))) ?hr ?hp (fun _ hk => hk) ((show ∀ k_, w.heap.size ≤ k_ → (fun k_ => ((P0_ k_ ∨ P1_ k_) ∨ w.heap.size ≤ k_)) k_ from fun k_ hk => (.inr (Nat.le_trans (below_size uB) hk))) _ (Nat.le_refl _)) (Below.refl _ _) (Nat.le_refl _) (by simp) ?_; (case hd => rfl); (case hg => rfl); (case hr => first | (go_simp; done) | (go_simp; rfl) | (go_simp; simp only [u64_u8]; done) | (go_simp; simp only [u64_u8]; rfl)); (case hp => exact (Reps.one (show Kd.FK (Kd.slice 42 (Kd.int .u64)) _ _ l0 [.slice A0 l0.length c0] from (Kd.FK_slice_mk (Kd.V_reads' (Kd.V_mono (ok' := (fun k_ => ((P0_ k_ ∨ P1_ k_) ∨ w.heap.size ≤ k_))) (HO0.out) (fun k_ hk => hk))).2.1 (Kd.V_F (Kd.V_mono (ok' := (fun k_ => ((P0_ k_ ∨ P1_ k_) ∨ w.heap.size ≤ k_))) (HO0.out) (fun k_ hk => hk))))) (Reps.one (show Kd.FK (Kd.slice 42 (Kd.int .u64)) _ _ l1 [.slice A1 l1.length c1] from (Kd.FK_slice_mk (Kd.V_reads' (Kd.V_mono (ok' := (fun k_ => ((P0_ k_ ∨ P1_ k_) ∨ w.heap.size ≤ k_))) (HO1.out) (fun k_ hk => hk))).2.1 (Kd.V_F (Kd.V_mono (ok' := (fun k_ => ((P0_ k_ ∨ P1_ k_) ∨ w.heap.size ≤ k_))) (HO1.out) (fun k_ hk => hk))))) (Reps.none _ _)))); intro v108 w6 ho7 hb hg_ hnew_; clear hg_ hnew_; (first | rw [← Ny107.out] at ho7 | (simp only [Int.reduceToNat] at ho7; rw [← Ny107.out] at ho7)); replace HO0 := Aside0.mk (Kd.V_elder' (uV HO0.out) (Kd.N_base ho7) hb); replace HO1 := Aside0.mk (Kd.V_elder' (uV HO1.out) (Kd.N_base ho7) hb); have HO109 := Aside0.mk (Kd.N_lower ho7 (below_size uB)); replace HB := uy hb; clear hb ho7; obtain ⟨Ao8, co8, eo8⟩ := Kd.N_slice HO109.out; subst eo8) | ((with_reducible refine ug 62 rfl ?_); refine uh (some 8) rfl Try.func62 #[.slice Ao8 y107.length co8] ?_; (with_reducible refine (nat_right.calls _ _ y107 true _ ?side1 ?side2 A3.out).mono ?_); (case side1 => exact uC (Kd.N_reads' HO109.out).2.2); (case side2 => exact (Kd.N_reads' HO109.out).2.1); rintro e w' ⟨rfl, ⟨nd, rfl⟩⟩; refine ⟨_, rfl, ?_⟩) | ((with_reducible refine ug 63 rfl ?_); refine uh (some 12) rfl Try.func63 #[.slice A0 l0.length c0, .slice A1 l1.length c1] ?_; (with_reducible refine (nat_compare.calls k _ _ l0 _ _ l1 t111 _ ?side1 ?side2 ?side3 ?side4 A5.out).mono ?_); (case side1 => exact uC (Kd.V_reads' HO0.out).2.2); (case side2 => exact (Kd.V_reads' HO0.out).2.1); (case side3 => exact uC (Kd.V_reads' HO1.out).2.2); (case side4 => exact (Kd.V_reads' HO1.out).2.1); rintro e w' ⟨rfl, ⟨nd, rfl⟩⟩; refine ⟨_, rfl, ?_⟩))
  go_ret
  exact ⟨uF, uB⟩
 replace c4 := Bool.eq_false_iff.mpr c4
 subst c4
 have H1 : (some 0) = some r := by rw [if_neg (show ¬ (false = true) by decide)] at H; exact H
 clear H; have H := H1; clear H1
 obtain rfl := Option.some.inj H
 go_enter Try.func40, Try.ntmps40
 go_wp2_with (first | ((with_reducible refine gate_dst (N := 7) rfl ?_); refine Kd.N_lit (Kd.slice 42 (Kd.int .u64)) _ 23 ?hg (N' := 7) ?hd (xs := ([l0, l1] : List (List Int))) (inner := [.slice A0 l0.length c0, .slice A1 l1.length c1]) (ok := (fun k_ => ((P0_ k_ ∨ P1_ k_) ∨ w.heap.size ≤ k_))) (okp := (fun k_ => ((P0_ k_ ∨ P1_ k_) ∨ w.heap.size ≤ k_))) ?hr ?hp (fun _ hk => hk) ((show ∀ k_, w.heap.size ≤ k_ → (fun k_ => ((P0_ k_ ∨ P1_ k_) ∨ w.heap.size ≤ k_)) k_ from fun k_ hk => (.inr (Nat.le_trans (below_size uB) hk))) _ (Nat.le_refl _)) (Below.refl _ _) (Nat.le_refl _) (by simp) ?_; (case hd => rfl); (case hg => rfl); (case hr => first | (go_simp; done) | (go_simp; rfl) | (go_simp; simp only [u64_u8]; done) | (go_simp; simp only [u64_u8]; rfl)); (case hp => exact (Reps.one (show Kd.FK (Kd.slice 42 (Kd.int .u64)) _ _ l0 [.slice A0 l0.length c0] from (Kd.FK_slice_mk (Kd.V_reads' (Kd.V_mono (ok' := (fun k_ => ((P0_ k_ ∨ P1_ k_) ∨ w.heap.size ≤ k_))) (HO0.out) (fun k_ hk => hk))).2.1 (Kd.V_F (Kd.V_mono (ok' := (fun k_ => ((P0_ k_ ∨ P1_ k_) ∨ w.heap.size ≤ k_))) (HO0.out) (fun k_ hk => hk))))) (Reps.one (show Kd.FK (Kd.slice 42 (Kd.int .u64)) _ _ l1 [.slice A1 l1.length c1] from (Kd.FK_slice_mk (Kd.V_reads' (Kd.V_mono (ok' := (fun k_ => ((P0_ k_ ∨ P1_ k_) ∨ w.heap.size ≤ k_))) (HO1.out) (fun k_ hk => hk))).2.1 (Kd.V_F (Kd.V_mono (ok' := (fun k_ => ((P0_ k_ ∨ P1_ k_) ∨ w.heap.size ≤ k_))) (HO1.out) (fun k_ hk => hk))))) (Reps.none _ _)))); intro v108 w9 ho10 hb hg_ hnew_; clear hg_ hnew_; (first | rw [← Ny107.out] at ho10 | (simp only [Int.reduceToNat] at ho10; rw [← Ny107.out] at ho10)); replace HO0 := Aside0.mk (Kd.V_elder' (uV HO0.out) (Kd.N_base ho10) hb); replace HO1 := Aside0.mk (Kd.V_elder' (uV HO1.out) (Kd.N_base ho10) hb); have HO109 := Aside0.mk (Kd.N_lower ho10 (below_size uB)); replace HB := uy hb; clear hb ho10; obtain ⟨Ao11, co11, eo11⟩ := Kd.N_slice HO109.out; subst eo11) | ((with_reducible refine ug 62 rfl ?_); refine uh (some 8) rfl Try.func62 #[.slice Ao11 y107.length co11] ?_; (with_reducible refine (nat_right.calls _ _ y107 false _ ?side1 ?side2 A3.out).mono ?_); (case side1 => exact uC (Kd.N_reads' HO109.out).2.2); (case side2 => exact (Kd.N_reads' HO109.out).2.1); rintro e w' ⟨rfl, ⟨nd, rfl⟩⟩; refine ⟨_, rfl, ?_⟩))
 go_ret
 exact ⟨uF, uB⟩
def fixenc_modulus_may.f (k : Nat) (l0 : List Int) : Option (Bool) := (nat_Right.f l0).bind fun t112 => (if t112 = true then (if (l0.length : Int) ≤ 8 then ((nat_Cmp.f k l0 (([3] : List Int))).bind fun t116 => (some (decide (t116 ≥ 0)))) else (some false)) else (some false))
theorem fixenc_modulus_may.calls (k : Nat) (A0 : Option Addr) (c0 : Nat) (l0 : List Int) (r : Bool) (w : World) (hr0 : Kd.C (Kd.int .u64) w A0 l0.length l0) (hc0 : l0.length ≤ c0) (h : fixenc_modulus_may.f k l0 = some r) :
  Calls Try.prog 14 #[.slice A0 l0.length c0] w fun e w' => e = .returned (.bool r) ∧ Below w.heap.size w w' := by
 have HR0 := Aside0.mk hr0; have HC0 := Aside0.mk hc0; clear hr0 hc0
 have HB := Aside0.mk (Below.refl w.heap.size w)
 have H : ((nat_Right.f l0).bind fun t112 => (if t112 = true then (if (l0.length : Int) ≤ 8 then ((nat_Cmp.f k l0 (([3] : List Int))).bind fun t116 => (some (decide (t116 ≥ 0)))) else (some false)) else (some false))) = some r := h
 clear h
 replace H := ub H; obtain ⟨t112, A2, H⟩ := H
 by_cases c3 : t112 = true
 ·
  subst c3
  have H1 : (if (l0.length : Int) ≤ 8 then ((nat_Cmp.f k l0 (([3] : List Int))).bind fun t116 => (some (decide (t116 ≥ 0)))) else (some false)) = some r := by rw [if_pos rfl] at H; exact H
  clear H; have H := H1; clear H1
  by_cases c4 : (l0.length : Int) ≤ 8
  ·
   rw [if_pos c4] at H
   have c4b0 := decide_eq_true c4
   have c4b1 : decide (l0.length ≤ 8) = true := decide_eq_true (by omega)
   clear c4
   obtain ⟨y113, hy113⟩ : ∃ y_ : List Int, y_ = (([3] : List Int)) := ⟨_, rfl⟩
   replace H : ((nat_Cmp.f k l0 y113).bind fun t116 => (some (decide (t116 ≥ 0)))) = some r := by first | (rw [hy113]; with_reducible exact H) | (have H2_ := (Option.bind_some _ _).symm.trans H; rw [hy113]; with_reducible exact H2_) | (have H2_ := (Option.bind_some _ _).symm.trans H; with_reducible exact H2_) | with_reducible exact H | (rw [hy113]; exact H) | exact H
   have Ny113 := Aside0.mk hy113; clear hy113
   replace H := ub H; obtain ⟨t116, A5, H⟩ := H
   obtain rfl := Option.some.inj H
   go_enter Try.func14, Try.ntmps14
   go_wp2_with (first | ((with_reducible refine ug 39 rfl ?_); refine uh (some 4) rfl Try.func39 #[.slice A0 l0.length c0] ?_; (with_reducible refine (nat_Right.calls _ _ l0 true _ ?side1 ?side2 A2.out).mono ?_); (case side1 => exact uC HR0.out); (case side2 => exact HC0.out); rintro e w' ⟨rfl, ⟨nd, rfl⟩⟩; refine ⟨_, rfl, ?_⟩) | ((with_reducible refine gate_dst (N := 12) rfl ?_); (try (refine gate_guard (by rfl) ?_; dsimp only)); refine Kd.R_lit (Kd.int .u64) _ 42 ?hg (N := 12) ?hd (xs := ([3] : List Int)) (inner := [.int .u64 3]) (ok := fun _ => True) (okp := fun _ => True) ?hr ?hp (fun _ hk => hk) trivial (Below.refl _ _) (Nat.le_refl _) (by simp) ?_; (case hd => rfl); (case hg => rfl); (case hr => first | (go_simp; done) | (go_simp; rfl) | (go_simp; simp only [u64_u8]; done) | (go_simp; simp only [u64_u8]; rfl)); (case hp => exact (Reps.one (show Kd.M (Kd.int .u64) _ _ _ 3 [.int .u64 3] from rfl) (Reps.none _ _))); intro v114 w6 ho7 hb hg_ hnew_; clear hg_ hnew_; (first | rw [← Ny113.out] at ho7 | (simp only [Int.reduceToNat] at ho7; rw [← Ny113.out] at ho7)); have HO115 := ulo ho7; replace HB := uy hb; clear hb ho7; obtain ⟨Ao8, co8, eo8⟩ := Kd.R_slice HO115.out; subst eo8) | (go_at_call 40; (with_reducible refine (nat_Cmp.calls k (fun k_ => k_ < w.heap.size) _ _ l0 (fun k_ => some k_ = (.slice Ao8 y113.length co8 : Value).ownBlock) _ _ y113 t116 _ ?side1 ?side2 A5.out).mono ?_); (case side1 => exact Kd.V_mk HC0.out (Kd.F_below (Kd.C_F (Kd.heap_int .u64) HR0.out) uB)); (case side2 => exact Kd.R_V (Kd.R_tight rfl (HO115.out))); rintro e w9 ⟨rfl, hb⟩; replace HO115 := urb HO115 hb; replace HB := uy hb; (try clear hb)))
   go_ret
   exact ⟨uF, uB⟩
  rw [if_neg c4] at H
  have c4b0 := decide_eq_false c4
  have c4b1 : decide (l0.length ≤ 8) = false := decide_eq_false (by omega)
  clear c4
  obtain rfl := Option.some.inj H
  go_enter Try.func14, Try.ntmps14
  go_wp2_with (first | ((with_reducible refine ug 39 rfl ?_); refine uh (some 4) rfl Try.func39 #[.slice A0 l0.length c0] ?_; (with_reducible refine (nat_Right.calls _ _ l0 true _ ?side1 ?side2 A2.out).mono ?_); (case side1 => exact uC HR0.out); (case side2 => exact HC0.out); rintro e w' ⟨rfl, ⟨nd, rfl⟩⟩; refine ⟨_, rfl, ?_⟩))
  go_ret
  exact ⟨uF, uB⟩
 replace c3 := Bool.eq_false_iff.mpr c3
 subst c3
 have H1 : (some false) = some r := by rw [if_neg (show ¬ (false = true) by decide)] at H; exact H
 clear H; have H := H1; clear H1
 obtain rfl := Option.some.inj H
 go_enter Try.func14, Try.ntmps14
 go_wp2_with (first | ((with_reducible refine ug 39 rfl ?_); refine uh (some 4) rfl Try.func39 #[.slice A0 l0.length c0] ?_; (with_reducible refine (nat_Right.calls _ _ l0 false _ ?side1 ?side2 A2.out).mono ?_); (case side1 => exact uC HR0.out); (case side2 => exact HC0.out); rintro e w' ⟨rfl, ⟨nd, rfl⟩⟩; refine ⟨_, rfl, ?_⟩))
 go_ret
 exact ⟨uF, uB⟩
end Go.Proofs.Ytnaphgnkhhapoab.F
end
section
namespace Go.Proofs.Ytnaphgnkhhapoab.F
open Go.RowKit Go.Proofs.YtnaphgnkhhapoabW.PrintWords Go.Proofs.YtnaphgnkhhapoabW.PrintLast Go.Proofs.YtnaphgnkhhapoabW.PrintMore
attribute [local go_sem] max2_int min2_int max_two min_two max_three min_three max_four min_four
set_option linter.unusedVariables false
set_option linter.unusedSimpArgs false
attribute [local go_sem] sub64_run
def nat_less.l0 : Nat → List Int → List Int → List Int → Int → Int → Int → Option (List Int)
 | 0, _, _, _, _, _, _ => none
 | k + 1, x0, x1, x5, x6, x13, x14 => if x14 < x13 then (if x14 < (x1.length : Int) then (if 0 ≤ x14 then (if x14 < (x0.length : Int) then (if carry01 x6 = true then (if x14 < (x5.length : Int) then (nat_less.l0 k x0 x1 (x5.set (x14 : Int).toNat (sub64_s (rd x0 x14) (rd x1 x14) x6)) (sub64_c (rd x0 x14) (rd x1 x14) x6) x13 (wrap64 (x14 + 1))) else (none)) else (none)) else (none)) else (none)) else (if 0 ≤ x14 then (if x14 < (x0.length : Int) then (if carry01 x6 = true then (if x14 < (x5.length : Int) then (nat_less.l0 k x0 x1 (x5.set (x14 : Int).toNat (sub64_s (rd x0 x14) 0 x6)) (sub64_c (rd x0 x14) 0 x6) x13 (wrap64 (x14 + 1))) else (none)) else (none)) else (none)) else (none))) else (some x5)
def nat_less.f (k : Nat) (l0 : List Int) (l1 : List Int) : Option (List Int) := if 0 ≤ (l0.length : Int) then (if ((l0.length : Int) : Int).toNat ≤ 35184372088832 then (nat_less.l0 k l0 l1 (List.replicate ((l0.length : Int) : Int).toNat 0) 0 (l0.length : Int) 0) else (none)) else (none)
theorem nat_less.calls (k : Nat) (A0 : Option Addr) (c0 : Nat) (l0 : List Int) (A1 : Option Addr) (c1 : Nat) (l1 : List Int) (r : List Int) (w : World) (hr0 : Kd.C (Kd.int .u64) w A0 l0.length l0) (hc0 : l0.length ≤ c0) (hr1 : Kd.C (Kd.int .u64) w A1 l1.length l1) (hc1 : l1.length ≤ c1) (h : nat_less.f k l0 l1 = some r) :
  Calls Try.prog 65 #[.slice A0 l0.length c0, .slice A1 l1.length c1] w fun e w' => ∃ v0_ : Value, e = .returned (v0_) ∧ Kd.R (Kd.int .u64) 42 w' w.heap.size (fun _ => True) v0_ r ∧ Below w.heap.size w w' := by
 have HR0 := Aside0.mk hr0; have HC0 := Aside0.mk hc0; clear hr0 hc0; have HR1 := Aside0.mk hr1; have HC1 := Aside0.mk hc1; clear hr1 hc1
 have HB := Aside0.mk (Below.refl w.heap.size w)
 have H : (if 0 ≤ (l0.length : Int) then (if ((l0.length : Int) : Int).toNat ≤ 35184372088832 then (nat_less.l0 k l0 l1 (List.replicate ((l0.length : Int) : Int).toNat 0) 0 (l0.length : Int) 0) else (none)) else (none)) = some r := h
 clear h
 replace H := uT H; obtain ⟨c3, H⟩ := H
 have c3b0 := eq_true c3
 have c3b1 := decide_eq_true c3
 clear c3
 replace H := uT H; obtain ⟨c4, H⟩ := H
 have c4b0 := eq_true c4
 have c4b1 := decide_eq_true c4
 clear c4
 obtain ⟨y127, hy127⟩ : ∃ y_ : List Int, y_ = (List.replicate ((l0.length : Int) : Int).toNat 0) := ⟨_, rfl⟩
 replace H : (nat_less.l0 k l0 l1 y127 0 (l0.length : Int) 0) = some r := by first | (rw [hy127]; with_reducible exact H) | (have H2_ := (Option.bind_some _ _).symm.trans H; rw [hy127]; with_reducible exact H2_) | (have H2_ := (Option.bind_some _ _).symm.trans H; with_reducible exact H2_) | with_reducible exact H | (rw [hy127]; exact H) | exact H
 have Ny127 := Aside0.mk hy127; clear hy127
 have H' := Aside0.mk H
 clear H
 go_enter Try.func65, Try.ntmps65
 go_wp2_with (first | ((with_reducible refine gate_dst (N := 11) rfl ?_); refine Kd.R_make (Kd.int .u64) _ 42 rfl (N := 11) rfl 23 _ _ rfl (l0.length : Int) rfl rfl Try.underlying23 (.int .u64 0) 8 info42 rfl (by decide) (by omega) 0 (ok := fun _ => True) (okp := fun _ => True) rfl (fun _ hk => hk) trivial uO (Nat.le_trans (Nat.mul_le_mul_right _ (uO : (l0.length : Int).toNat ≤ 35184372088832)) (by omega)) (Below.refl _ _) (Nat.le_refl _) ?_; intro v128 w5 ho6 hb hg_ hnew_; clear hg_ hnew_; (first | rw [← Ny127.out] at ho6 | (simp only [Int.reduceToNat] at ho6; rw [← Ny127.out] at ho6)); have HO129 := ulo ho6; replace HB := uy hb; clear hb ho6))
 go_loopg [6, 14] k (fun kq v6 v14 w' => ∃ (x5_1 : List Int) (x6_1 : Int) (x14_1 : Int), v6 = .int .u64 x6_1 ∧ v14 = .int .i64 x14_1 ∧ Aside0 (nat_less.l0 kq l0 l1 x5_1 x6_1 (l0.length : Int) x14_1 = some r) ∧ Aside0 (kq ≤ k) ∧ Aside0 (Kd.R (Kd.int .u64) 42 w' w.heap.size (fun _ => True) v128 x5_1) ∧ Aside0 (Below w.heap.size w w'))
 case atStart => exact ⟨(y127), (0), (0), uG, uG, H', ⟨Nat.le_refl _⟩, ⟨uR HO129.out⟩, ⟨uB⟩⟩
 case round =>
  clear H'
  obtain ⟨x5_1, x6_1, x14_1, rfl, rfl, HA, HK1, HO_5, HB⟩ := hrel
  cases gk with
  | zero => exact absurd HA.out (by simp [nat_less.l0])
  | succ k1 =>
   have H := HA.out
   clear HA
   simp only [nat_less.l0] at H
   by_cases c7 : x14_1 < (l0.length : Int)
   ·
    rw [if_pos c7] at H
    have c7b0 := decide_eq_true c7
    clear c7
    by_cases c8 : x14_1 < (l1.length : Int)
    ·
     rw [if_pos c8] at H
     have c8b0 := decide_eq_true c8
     clear c8
     replace H := uT H; obtain ⟨c9, H⟩ := H
     have c9b0 := decide_eq_true c9
     clear c9
     replace H := uT H; obtain ⟨c10, H⟩ := H
     have c10b0 := decide_eq_true c10
     clear c10
     replace H := uT H; obtain ⟨c11, H⟩ := H
     have c11b0 : carry01 x6_1 = true := c11
     clear c11
     replace H := uT H; obtain ⟨c12, H⟩ := H
     have c12b0 := decide_eq_true c12
     clear c12
     obtain ⟨y132, hy132⟩ : ∃ y_ : List Int, y_ = (x5_1.set (x14_1 : Int).toNat (sub64_s (rd l0 x14_1) (rd l1 x14_1) x6_1)) := ⟨_, rfl⟩
     replace H : (nat_less.l0 k1 l0 l1 y132 (sub64_c (rd l0 x14_1) (rd l1 x14_1) x6_1) (l0.length : Int) (wrap64 (x14_1 + 1))) = some r := by first | (rw [hy132]; with_reducible exact H) | (have H2_ := (Option.bind_some _ _).symm.trans H; rw [hy132]; with_reducible exact H2_) | (have H2_ := (Option.bind_some _ _).symm.trans H; with_reducible exact H2_) | with_reducible exact H | (rw [hy132]; exact H) | exact H
     have Ny132 := Aside0.mk hy132; clear hy132
     have H' := Aside0.mk H
     clear H
     have p130 : 0 ≤ (x14_1 : Int) := uO
     have q130 : x14_1 < (l1.length : Int) := uO
     obtain ⟨ad130, e130, hx130_0⟩ := Kd.at_int HR1.out x14_1 p130 q130
     cases e130
     replace hx130_0 := (HB.out.cell (World.block_lt_of_cell? w _ hx130_0)).trans hx130_0
     replace p130 := eq_true p130
     replace q130 := eq_true q130
     have p131 : 0 ≤ (x14_1 : Int) := uO
     have q131 : x14_1 < (l0.length : Int) := uO
     obtain ⟨ad131, e131, hx131_0⟩ := Kd.at_int HR0.out x14_1 p131 q131
     cases e131
     replace hx131_0 := (HB.out.cell (World.block_lt_of_cell? w _ hx131_0)).trans hx131_0
     replace p131 := eq_true p131
     replace q131 := eq_true q131
     have p13 : 0 ≤ (x14_1 : Int) := uO
     have q13 : (x14_1 : Int) < ((x5_1.length : Int) : Int) := uO
     obtain ⟨go13, co13, eo13, gb13, gl13, cl13, HG13⟩ := Kd.R_form HO_5.out (by omega)
     (first | cases eo13 | (injection eo13 with ea_ en_ ec_; (first | subst ea_ | (injection ea_ with ea_; subst ea_)); subst ec_; clear en_))
     have GB13 := Aside0.mk gb13; have GG13 := Aside0.mk HG13; clear gb13 gl13 HG13
     obtain ⟨hx13_0, hf13_0⟩ := Kd.R_celln 0 HO_5.out (x14_1 : Int) p13 q13
     replace p13 := eq_true p13
     replace q13 := eq_true q13
     have HP14 := Kd.R_putg HO_5.out (x14_1 : Int) (sub64_s (rd l0 x14_1) (rd l1 x14_1) x6_1)
     go_wp2_with (first | ((with_reducible refine gate_store (t := 42) (p := 37) rfl ?_); refine store_event (t := 42) (p := 37) (v := ?vo_w15) (w1 := (wr.setCell ⟨go13, (x14_1 : Int).toNat, none⟩ (.int .u64 (sub64_s (rd l0 x14_1) (rd l1 x14_1) x6_1)))) ?hg ?ho ?hn ?hr ?_; (case ho => rfl); (case hg => rfl); (case hn => rfl); (case hr => first | (go_simp; done) | (go_simp; rfl) | (obtain ⟨hy_, hz_⟩ := Kd.R_celln 0 HO_5.out (x14_1 : Int) uO uO; (try simp only [Go.IntWalk.toNatUp] at hy_ hz_); (try simp only [Int.reduceToNat, Int.toNat_zero, Int.toNat_ofNat] at hy_ hz_); first | (go_simp; done) | (go_simp; rfl))); intro w15 hw; have hg : wr.grownBy w15 (some go13) := (by rw [hw]; exact HP14.2); have hp_ : Kd.R (Kd.int .u64) 42 w15 w.heap.size (fun _ => True) (.slice (some ⟨go13, 0, none⟩) x5_1.length co13) y132 := (by rw [hw, Ny132.out]; exact HP14.1); clear HP14; replace HO_5 := Aside0.mk (hp_); replace HB := Aside0.mk ((by rw [hw]; exact below_set (HB.out) GB13.out : Below w.heap.size w w15)); clear hg hw hp_))
     go_roundg k1
     case measure => have := HK1.out; omega
     case rel => exact ⟨(y132), (sub64_c (rd l0 x14_1) (rd l1 x14_1) x6_1), (wrap64 (x14_1 + 1)), uG, uG, H', ⟨by have := HK1.out; omega⟩, ⟨uR HO_5.out⟩, ⟨uB⟩⟩
    rw [if_neg c8] at H
    have c8b0 := decide_eq_false c8
    clear c8
    replace H := uT H; obtain ⟨c16, H⟩ := H
    have c16b0 := decide_eq_true c16
    clear c16
    replace H := uT H; obtain ⟨c17, H⟩ := H
    have c17b0 := decide_eq_true c17
    clear c17
    replace H := uT H; obtain ⟨c18, H⟩ := H
    have c18b0 : carry01 x6_1 = true := c18
    clear c18
    replace H := uT H; obtain ⟨c19, H⟩ := H
    have c19b0 := decide_eq_true c19
    clear c19
    obtain ⟨y134, hy134⟩ : ∃ y_ : List Int, y_ = (x5_1.set (x14_1 : Int).toNat (sub64_s (rd l0 x14_1) 0 x6_1)) := ⟨_, rfl⟩
    replace H : (nat_less.l0 k1 l0 l1 y134 (sub64_c (rd l0 x14_1) 0 x6_1) (l0.length : Int) (wrap64 (x14_1 + 1))) = some r := by first | (rw [hy134]; with_reducible exact H) | (have H2_ := (Option.bind_some _ _).symm.trans H; rw [hy134]; with_reducible exact H2_) | (have H2_ := (Option.bind_some _ _).symm.trans H; with_reducible exact H2_) | with_reducible exact H | (rw [hy134]; exact H) | exact H
    have Ny134 := Aside0.mk hy134; clear hy134
    have H' := Aside0.mk H
    clear H
    have p133 : 0 ≤ (x14_1 : Int) := uO
    have q133 : x14_1 < (l0.length : Int) := uO
    obtain ⟨ad133, e133, hx133_0⟩ := Kd.at_int HR0.out x14_1 p133 q133
    cases e133
    replace hx133_0 := (HB.out.cell (World.block_lt_of_cell? w _ hx133_0)).trans hx133_0
    replace p133 := eq_true p133
    replace q133 := eq_true q133
    have p20 : 0 ≤ (x14_1 : Int) := uO
    have q20 : (x14_1 : Int) < ((x5_1.length : Int) : Int) := uO
    obtain ⟨go20, co20, eo20, gb20, gl20, cl20, HG20⟩ := Kd.R_form HO_5.out (by omega)
    (first | cases eo20 | (injection eo20 with ea_ en_ ec_; (first | subst ea_ | (injection ea_ with ea_; subst ea_)); subst ec_; clear en_))
    have GB20 := Aside0.mk gb20; have GG20 := Aside0.mk HG20; clear gb20 gl20 HG20
    obtain ⟨hx20_0, hf20_0⟩ := Kd.R_celln 0 HO_5.out (x14_1 : Int) p20 q20
    replace p20 := eq_true p20
    replace q20 := eq_true q20
    have HP21 := Kd.R_putg HO_5.out (x14_1 : Int) (sub64_s (rd l0 x14_1) 0 x6_1)
    go_wp2_with (first | ((with_reducible refine gate_store (t := 42) (p := 37) rfl ?_); refine store_event (t := 42) (p := 37) (v := ?vo_w22) (w1 := (wr.setCell ⟨go20, (x14_1 : Int).toNat, none⟩ (.int .u64 (sub64_s (rd l0 x14_1) 0 x6_1)))) ?hg ?ho ?hn ?hr ?_; (case ho => rfl); (case hg => rfl); (case hn => rfl); (case hr => first | (go_simp; done) | (go_simp; rfl) | (obtain ⟨hy_, hz_⟩ := Kd.R_celln 0 HO_5.out (x14_1 : Int) uO uO; (try simp only [Go.IntWalk.toNatUp] at hy_ hz_); (try simp only [Int.reduceToNat, Int.toNat_zero, Int.toNat_ofNat] at hy_ hz_); first | (go_simp; done) | (go_simp; rfl))); intro w22 hw; have hg : wr.grownBy w22 (some go20) := (by rw [hw]; exact HP21.2); have hp_ : Kd.R (Kd.int .u64) 42 w22 w.heap.size (fun _ => True) (.slice (some ⟨go20, 0, none⟩) x5_1.length co20) y134 := (by rw [hw, Ny134.out]; exact HP21.1); clear HP21; replace HO_5 := Aside0.mk (hp_); replace HB := Aside0.mk ((by rw [hw]; exact below_set (HB.out) GB20.out : Below w.heap.size w w22)); clear hg hw hp_))
    go_roundg k1
    case measure => have := HK1.out; omega
    case rel => exact ⟨(y134), (sub64_c (rd l0 x14_1) 0 x6_1), (wrap64 (x14_1 + 1)), uG, uG, H', ⟨by have := HK1.out; omega⟩, ⟨uR HO_5.out⟩, ⟨uB⟩⟩
   rw [if_neg c7] at H
   have c7b0 := decide_eq_false c7
   clear c7
   obtain rfl := Option.some.inj H
   go_wp2
   go_ret
   exact ⟨_, uF, uR HO_5.out, uB⟩
end Go.Proofs.Ytnaphgnkhhapoab.F
end
section
namespace Go.Proofs.Ytnaphgnkhhapoab.F
open Go.RowKit Go.Proofs.YtnaphgnkhhapoabW.PrintWords Go.Proofs.YtnaphgnkhhapoabW.PrintLast Go.Proofs.YtnaphgnkhhapoabW.PrintMore
attribute [local go_sem] max2_int min2_int max_two min_two max_three min_three max_four min_four
set_option linter.unusedVariables false
set_option linter.unusedSimpArgs false
def nat_Sub.f (k : Nat) (l0 : List Int) (l1 : List Int) : Option (List Int × Int) := (nat_right.f (([l0, l1] : List (List Int)))).bind fun t138 => (if t138 = true then ((nat_compare.f k l0 l1).bind fun t139 => (if t139 < 0 then (some (([] : List Int), 2)) else ((nat_less.f k l0 l1).bind fun t140 => ((nat_told.f k t140).bind fun bt143 => (some (bt143.1, bt143.2)))))) else (some (([] : List Int), 1)))
theorem nat_Sub.calls (k : Nat) (P0_ : Nat → Prop) (A0 : Option Addr) (c0 : Nat) (l0 : List Int) (P1_ : Nat → Prop) (A1 : Option Addr) (c1 : Nat) (l1 : List Int) (r1 : List Int) (r2 : Int) (w : World) (hs0 : Kd.V (Kd.int .u64) 42 w w.heap.size (fun k_ => P0_ k_) (.slice A0 l0.length c0) l0) (hs1 : Kd.V (Kd.int .u64) 42 w w.heap.size (fun k_ => P1_ k_) (.slice A1 l1.length c1) l1) (h : nat_Sub.f k l0 l1 = some (r1, r2)) :
  Calls Try.prog 37 #[.slice A0 l0.length c0, .slice A1 l1.length c1] w fun e w' => ∃ v0_ : Value, e = .returned (.tuple #[v0_, .int .i64 r2]) ∧ Kd.R (Kd.int .u64) 42 w' w.heap.size (fun k_ => (w.heap.size ≤ k_)) v0_ r1 ∧ Below w.heap.size w w' := by
 have HO0 := Aside0.mk (show Kd.V (Kd.int .u64) 42 w w.heap.size (fun k_ => ((P0_ k_ ∨ P1_ k_) ∨ w.heap.size ≤ k_)) (.slice A0 l0.length c0) l0 from Kd.V_mono hs0 (fun k_ hk => .inl (.inl hk)))
 have HO1 := Aside0.mk (show Kd.V (Kd.int .u64) 42 w w.heap.size (fun k_ => ((P0_ k_ ∨ P1_ k_) ∨ w.heap.size ≤ k_)) (.slice A1 l1.length c1) l1 from Kd.V_mono hs1 (fun k_ hk => .inl (.inr hk)))
 have HB := Aside0.mk (Below.refl w.heap.size w)
 have H : ((nat_right.f (([l0, l1] : List (List Int)))).bind fun t138 => (if t138 = true then ((nat_compare.f k l0 l1).bind fun t139 => (if t139 < 0 then (some (([] : List Int), 2)) else ((nat_less.f k l0 l1).bind fun t140 => ((nat_told.f k t140).bind fun bt143 => (some (bt143.1, bt143.2)))))) else (some (([] : List Int), 1)))) = some (r1, r2) := h
 clear h
 obtain ⟨y135, hy135⟩ : ∃ y_ : List (List Int), y_ = (([l0, l1] : List (List Int))) := ⟨_, rfl⟩
 replace H : ((nat_right.f y135).bind fun t138 => (if t138 = true then ((nat_compare.f k l0 l1).bind fun t139 => (if t139 < 0 then (some (([] : List Int), 2)) else ((nat_less.f k l0 l1).bind fun t140 => ((nat_told.f k t140).bind fun bt143 => (some (bt143.1, bt143.2)))))) else (some (([] : List Int), 1)))) = some (r1, r2) := by first | (rw [hy135]; with_reducible exact H) | (have H2_ := (Option.bind_some _ _).symm.trans H; rw [hy135]; with_reducible exact H2_) | (have H2_ := (Option.bind_some _ _).symm.trans H; with_reducible exact H2_) | with_reducible exact H | (rw [hy135]; exact H) | exact H
 have Ny135 := Aside0.mk hy135; clear hy135
 replace H := ub H; obtain ⟨t138, A3, H⟩ := H
 by_cases c4 : t138 = true
 ·
  subst c4
  have H1 : ((nat_compare.f k l0 l1).bind fun t139 => (if t139 < 0 then (some (([] : List Int), 2)) else ((nat_less.f k l0 l1).bind fun t140 => ((nat_told.f k t140).bind fun bt143 => (some (bt143.1, bt143.2)))))) = some (r1, r2) := by rw [if_pos rfl] at H; exact H
  clear H; have H := H1; clear H1
  replace H := ub H; obtain ⟨t139, A5, H⟩ := H
  by_cases c6 : t139 < 0
  ·
   rw [if_pos c6] at H
   have c6b0 := decide_eq_true c6
   clear c6
   simp only [Option.some.injEq, Prod.mk.injEq] at H
   obtain ⟨rfl, rfl⟩ := H
   go_enter Try.func37, Try.ntmps37
   go_wp2_with (first | ((with_reducible refine gate_dst (N := 9) rfl ?_); refine Kd.N_lit (Kd.slice 42 (Kd.int .u64)) _ 23 ?hg (N' := 9) ?hd (xs := ([l0, l1] : List (List Int))) (inner := [.slice A0 l0.length c0, .slice A1 l1.length c1]) (ok := (fun k_ => ((P0_ k_ ∨ P1_ k_) ∨ w.heap.size ≤ k_))) (okp := (fun k_ => ((P0_ k_ ∨ P1_ k_) ∨ w.heap.size ≤ k_))) ?hr ?hp (fun _ hk => hk) ((show ∀ k_, w.heap.size ≤ k_ → (fun k_ => ((P0_ k_ ∨ P1_ k_) ∨ w.heap.size ≤ k_)) k_ from fun k_ hk => (.inr (Nat.le_trans (below_size uB) hk))) _ (Nat.le_refl _)) (Below.refl _ _) (Nat.le_refl _) (by simp) ?_; (case hd => rfl); (case hg => rfl); (case hr => first | (go_simp; done) | (go_simp; rfl) | (go_simp; simp only [u64_u8]; done) | (go_simp; simp only [u64_u8]; rfl)); (case hp => exact (Reps.one (show Kd.FK (Kd.slice 42 (Kd.int .u64)) _ _ l0 [.slice A0 l0.length c0] from (Kd.FK_slice_mk (Kd.V_reads' (Kd.V_mono (ok' := (fun k_ => ((P0_ k_ ∨ P1_ k_) ∨ w.heap.size ≤ k_))) (HO0.out) (fun k_ hk => hk))).2.1 (Kd.V_F (Kd.V_mono (ok' := (fun k_ => ((P0_ k_ ∨ P1_ k_) ∨ w.heap.size ≤ k_))) (HO0.out) (fun k_ hk => hk))))) (Reps.one (show Kd.FK (Kd.slice 42 (Kd.int .u64)) _ _ l1 [.slice A1 l1.length c1] from (Kd.FK_slice_mk (Kd.V_reads' (Kd.V_mono (ok' := (fun k_ => ((P0_ k_ ∨ P1_ k_) ∨ w.heap.size ≤ k_))) (HO1.out) (fun k_ hk => hk))).2.1 (Kd.V_F (Kd.V_mono (ok' := (fun k_ => ((P0_ k_ ∨ P1_ k_) ∨ w.heap.size ≤ k_))) (HO1.out) (fun k_ hk => hk))))) (Reps.none _ _)))); intro v136 w7 ho8 hb hg_ hnew_; clear hg_ hnew_; (first | rw [← Ny135.out] at ho8 | (simp only [Int.reduceToNat] at ho8; rw [← Ny135.out] at ho8)); replace HO0 := Aside0.mk (Kd.V_elder' (uV HO0.out) (Kd.N_base ho8) hb); replace HO1 := Aside0.mk (Kd.V_elder' (uV HO1.out) (Kd.N_base ho8) hb); have HO137 := Aside0.mk (Kd.N_lower ho8 (below_size uB)); replace HB := uy hb; clear hb ho8; obtain ⟨Ao9, co9, eo9⟩ := Kd.N_slice HO137.out; subst eo9) | ((with_reducible refine ug 62 rfl ?_); refine uh (some 10) rfl Try.func62 #[.slice Ao9 y135.length co9] ?_; (with_reducible refine (nat_right.calls _ _ y135 true _ ?side1 ?side2 A3.out).mono ?_); (case side1 => exact uC (Kd.N_reads' HO137.out).2.2); (case side2 => exact (Kd.N_reads' HO137.out).2.1); rintro e w' ⟨rfl, ⟨nd, rfl⟩⟩; refine ⟨_, rfl, ?_⟩) | ((with_reducible refine ug 63 rfl ?_); refine uh (some 15) rfl Try.func63 #[.slice A0 l0.length c0, .slice A1 l1.length c1] ?_; (with_reducible refine (nat_compare.calls k _ _ l0 _ _ l1 t139 _ ?side1 ?side2 ?side3 ?side4 A5.out).mono ?_); (case side1 => exact uC (Kd.V_reads' HO0.out).2.2); (case side2 => exact (Kd.V_reads' HO0.out).2.1); (case side3 => exact uC (Kd.V_reads' HO1.out).2.2); (case side4 => exact (Kd.V_reads' HO1.out).2.1); rintro e w' ⟨rfl, ⟨nd, rfl⟩⟩; refine ⟨_, rfl, ?_⟩))
   go_ret2
   exact ⟨_, uF, uI, uB⟩
  rw [if_neg c6] at H
  have c6b0 := decide_eq_false c6
  clear c6
  replace H := ub H; obtain ⟨t140, A10, H⟩ := H
  replace H := ub H; obtain ⟨⟨t143, t146⟩, A11, H⟩ := H
  (try dsimp only at H)
  simp only [Option.some.injEq, Prod.mk.injEq] at H
  obtain ⟨rfl, rfl⟩ := H
  go_enter Try.func37, Try.ntmps37
  go_wp2_with (first | ((with_reducible refine gate_dst (N := 9) rfl ?_); refine Kd.N_lit (Kd.slice 42 (Kd.int .u64)) _ 23 ?hg (N' := 9) ?hd (xs := ([l0, l1] : List (List Int))) (inner := [.slice A0 l0.length c0, .slice A1 l1.length c1]) (ok := (fun k_ => ((P0_ k_ ∨ P1_ k_) ∨ w.heap.size ≤ k_))) (okp := (fun k_ => ((P0_ k_ ∨ P1_ k_) ∨ w.heap.size ≤ k_))) ?hr ?hp (fun _ hk => hk) ((show ∀ k_, w.heap.size ≤ k_ → (fun k_ => ((P0_ k_ ∨ P1_ k_) ∨ w.heap.size ≤ k_)) k_ from fun k_ hk => (.inr (Nat.le_trans (below_size uB) hk))) _ (Nat.le_refl _)) (Below.refl _ _) (Nat.le_refl _) (by simp) ?_; (case hd => rfl); (case hg => rfl); (case hr => first | (go_simp; done) | (go_simp; rfl) | (go_simp; simp only [u64_u8]; done) | (go_simp; simp only [u64_u8]; rfl)); (case hp => exact (Reps.one (show Kd.FK (Kd.slice 42 (Kd.int .u64)) _ _ l0 [.slice A0 l0.length c0] from (Kd.FK_slice_mk (Kd.V_reads' (Kd.V_mono (ok' := (fun k_ => ((P0_ k_ ∨ P1_ k_) ∨ w.heap.size ≤ k_))) (HO0.out) (fun k_ hk => hk))).2.1 (Kd.V_F (Kd.V_mono (ok' := (fun k_ => ((P0_ k_ ∨ P1_ k_) ∨ w.heap.size ≤ k_))) (HO0.out) (fun k_ hk => hk))))) (Reps.one (show Kd.FK (Kd.slice 42 (Kd.int .u64)) _ _ l1 [.slice A1 l1.length c1] from (Kd.FK_slice_mk (Kd.V_reads' (Kd.V_mono (ok' := (fun k_ => ((P0_ k_ ∨ P1_ k_) ∨ w.heap.size ≤ k_))) (HO1.out) (fun k_ hk => hk))).2.1 (Kd.V_F (Kd.V_mono (ok' := (fun k_ => ((P0_ k_ ∨ P1_ k_) ∨ w.heap.size ≤ k_))) (HO1.out) (fun k_ hk => hk))))) (Reps.none _ _)))); intro v136 w12 ho13 hb hg_ hnew_; clear hg_ hnew_; (first | rw [← Ny135.out] at ho13 | (simp only [Int.reduceToNat] at ho13; rw [← Ny135.out] at ho13)); replace HO0 := Aside0.mk (Kd.V_elder' (uV HO0.out) (Kd.N_base ho13) hb); replace HO1 := Aside0.mk (Kd.V_elder' (uV HO1.out) (Kd.N_base ho13) hb); have HO137 := Aside0.mk (Kd.N_lower ho13 (below_size uB)); replace HB := uy hb; clear hb ho13; obtain ⟨Ao14, co14, eo14⟩ := Kd.N_slice HO137.out; subst eo14) | ((with_reducible refine ug 62 rfl ?_); refine uh (some 10) rfl Try.func62 #[.slice Ao14 y135.length co14] ?_; (with_reducible refine (nat_right.calls _ _ y135 true _ ?side1 ?side2 A3.out).mono ?_); (case side1 => exact uC (Kd.N_reads' HO137.out).2.2); (case side2 => exact (Kd.N_reads' HO137.out).2.1); rintro e w' ⟨rfl, ⟨nd, rfl⟩⟩; refine ⟨_, rfl, ?_⟩) | ((with_reducible refine ug 63 rfl ?_); refine uh (some 15) rfl Try.func63 #[.slice A0 l0.length c0, .slice A1 l1.length c1] ?_; (with_reducible refine (nat_compare.calls k _ _ l0 _ _ l1 t139 _ ?side1 ?side2 ?side3 ?side4 A5.out).mono ?_); (case side1 => exact uC (Kd.V_reads' HO0.out).2.2); (case side2 => exact (Kd.V_reads' HO0.out).2.1); (case side3 => exact uC (Kd.V_reads' HO1.out).2.2); (case side4 => exact (Kd.V_reads' HO1.out).2.1); rintro e w' ⟨rfl, ⟨nd, rfl⟩⟩; refine ⟨_, rfl, ?_⟩) | ((with_reducible refine ug 65 rfl ?_); refine uh (some 19) rfl Try.func65 #[.slice A0 l0.length c0, .slice A1 l1.length c1] ?_; (with_reducible refine (nat_less.calls k _ _ l0 _ _ l1 t140 _ ?side1 ?side2 ?side3 ?side4 A10.out).mono ?_); (case side1 => exact uC (Kd.V_reads' HO0.out).2.2); (case side2 => exact (Kd.V_reads' HO0.out).2.1); (case side3 => exact uC (Kd.V_reads' HO1.out).2.2); (case side4 => exact (Kd.V_reads' HO1.out).2.1); rintro e w15 ⟨v141, rfl, ho0, hb⟩; refine ⟨_, rfl, ?_⟩; replace HO0 := ueV HO0 ho0 hb; replace HO1 := ueV HO1 ho0 hb; replace HO137 := ueN HO137 ho0 hb; have HO142 := ulo (Kd.R_newM (M := fun k_ => (w.heap.size ≤ k_)) ho0 (below_size uB) (fun k_ h_ => h_)); replace HB := uy hb; (try clear hb ho0); obtain ⟨Ao16, co16, eo16⟩ := Kd.R_slice HO142.out; subst eo16) | ((with_reducible refine ug 64 rfl ?_); refine uh (some 20) rfl Try.func64 #[.slice Ao16 t140.length co16] ?_; (with_reducible refine (nat_told.calls k (fun k_ => some k_ = (.slice Ao16 t140.length co16 : Value).ownBlock) (.slice Ao16 t140.length co16) t140 t143 t146 w _ ?side1 ?side2 A11.out).mono ?_); (case side1 => repeat (first | (with_reducible first | exact HB.out | apply below_alloc | apply pw_below_drewN | apply below_drew1) | exact HB.out)); (case side2 => exact Kd.R_tight rfl HO142.out); rintro e w17 ⟨v144, rfl, ho0, hb, hkp⟩; refine ⟨_, rfl, ?_⟩; replace HO0 := Aside0.mk (Kd.V_mono (ok' := fun k_ => ((P0_ k_ ∨ P1_ k_) ∨ w.heap.size ≤ k_) ∧ some k_ ≠ (.slice Ao14 y135.length co14 : Value).ownBlock ∧ some k_ ≠ (v144 : Value).ownBlock) (Kd.V_keptB (HO0.out) hkp (fun k_ hk_ hs_ => (hk_.2) hs_)) (fun k_ hk_ => ⟨hk_.1.1.1, hk_.1.1.2, fun e_ => Or.elim (ho0.1 k_ e_.symm) (fun hs_ => hk_.2.1 hs_) (fun hn_ => Nat.not_le.2 hk_.2.2 hn_)⟩)); replace HO1 := Aside0.mk (Kd.V_mono (ok' := fun k_ => ((P0_ k_ ∨ P1_ k_) ∨ w.heap.size ≤ k_) ∧ some k_ ≠ (.slice Ao14 y135.length co14 : Value).ownBlock ∧ some k_ ≠ (v144 : Value).ownBlock) (Kd.V_keptB (HO1.out) hkp (fun k_ hk_ hs_ => (hk_.2) hs_)) (fun k_ hk_ => ⟨hk_.1.1.1, hk_.1.1.2, fun e_ => Or.elim (ho0.1 k_ e_.symm) (fun hs_ => hk_.2.1 hs_) (fun hn_ => Nat.not_le.2 hk_.2.2 hn_)⟩)); replace HO137 := Aside0.mk (Kd.N_mono (ok' := fun k_ => ((P0_ k_ ∨ P1_ k_) ∨ w.heap.size ≤ k_) ∧ some k_ ≠ (v144 : Value).ownBlock) (Kd.N_keptB (HO137.out) hkp (fun k_ hk_ hs_ => (hk_.2) hs_)) (fun k_ hk_ => ⟨hk_.1.1, fun e_ => Or.elim (ho0.1 k_ e_.symm) (fun hs_ => hk_.2.1 hs_) (fun hn_ => Nat.not_le.2 hk_.2.2 hn_)⟩)); have HO145 := Aside0.mk (Kd.R_mono (ok' := fun k_ => (w.heap.size ≤ k_)) ho0 (fun k_ hk_ => Or.elim hk_ (fun hs_ => (HO142.out.1 k_ (hs_).symm).1) (fun hn_ => (Nat.le_trans (below_size uB) hn_)))); replace HB := Aside0.mk (hb); clear HO142; (try clear hb); (try clear hkp); (try clear ho0)))
  go_ret2
  exact ⟨_, uF, uR HO145.out, uB⟩
 replace c4 := Bool.eq_false_iff.mpr c4
 subst c4
 have H1 : (some (([] : List Int), 1)) = some (r1, r2) := by rw [if_neg (show ¬ (false = true) by decide)] at H; exact H
 clear H; have H := H1; clear H1
 simp only [Option.some.injEq, Prod.mk.injEq] at H
 obtain ⟨rfl, rfl⟩ := H
 go_enter Try.func37, Try.ntmps37
 go_wp2_with (first | ((with_reducible refine gate_dst (N := 9) rfl ?_); refine Kd.N_lit (Kd.slice 42 (Kd.int .u64)) _ 23 ?hg (N' := 9) ?hd (xs := ([l0, l1] : List (List Int))) (inner := [.slice A0 l0.length c0, .slice A1 l1.length c1]) (ok := (fun k_ => ((P0_ k_ ∨ P1_ k_) ∨ w.heap.size ≤ k_))) (okp := (fun k_ => ((P0_ k_ ∨ P1_ k_) ∨ w.heap.size ≤ k_))) ?hr ?hp (fun _ hk => hk) ((show ∀ k_, w.heap.size ≤ k_ → (fun k_ => ((P0_ k_ ∨ P1_ k_) ∨ w.heap.size ≤ k_)) k_ from fun k_ hk => (.inr (Nat.le_trans (below_size uB) hk))) _ (Nat.le_refl _)) (Below.refl _ _) (Nat.le_refl _) (by simp) ?_; (case hd => rfl); (case hg => rfl); (case hr => first | (go_simp; done) | (go_simp; rfl) | (go_simp; simp only [u64_u8]; done) | (go_simp; simp only [u64_u8]; rfl)); (case hp => exact (Reps.one (show Kd.FK (Kd.slice 42 (Kd.int .u64)) _ _ l0 [.slice A0 l0.length c0] from (Kd.FK_slice_mk (Kd.V_reads' (Kd.V_mono (ok' := (fun k_ => ((P0_ k_ ∨ P1_ k_) ∨ w.heap.size ≤ k_))) (HO0.out) (fun k_ hk => hk))).2.1 (Kd.V_F (Kd.V_mono (ok' := (fun k_ => ((P0_ k_ ∨ P1_ k_) ∨ w.heap.size ≤ k_))) (HO0.out) (fun k_ hk => hk))))) (Reps.one (show Kd.FK (Kd.slice 42 (Kd.int .u64)) _ _ l1 [.slice A1 l1.length c1] from (Kd.FK_slice_mk (Kd.V_reads' (Kd.V_mono (ok' := (fun k_ => ((P0_ k_ ∨ P1_ k_) ∨ w.heap.size ≤ k_))) (HO1.out) (fun k_ hk => hk))).2.1 (Kd.V_F (Kd.V_mono (ok' := (fun k_ => ((P0_ k_ ∨ P1_ k_) ∨ w.heap.size ≤ k_))) (HO1.out) (fun k_ hk => hk))))) (Reps.none _ _)))); intro v136 w18 ho19 hb hg_ hnew_; clear hg_ hnew_; (first | rw [← Ny135.out] at ho19 | (simp only [Int.reduceToNat] at ho19; rw [← Ny135.out] at ho19)); replace HO0 := Aside0.mk (Kd.V_elder' (uV HO0.out) (Kd.N_base ho19) hb); replace HO1 := Aside0.mk (Kd.V_elder' (uV HO1.out) (Kd.N_base ho19) hb); have HO137 := Aside0.mk (Kd.N_lower ho19 (below_size uB)); replace HB := uy hb; clear hb ho19; obtain ⟨Ao20, co20, eo20⟩ := Kd.N_slice HO137.out; subst eo20) | ((with_reducible refine ug 62 rfl ?_); refine uh (some 10) rfl Try.func62 #[.slice Ao20 y135.length co20] ?_; (with_reducible refine (nat_right.calls _ _ y135 false _ ?side1 ?side2 A3.out).mono ?_); (case side1 => exact uC (Kd.N_reads' HO137.out).2.2); (case side2 => exact (Kd.N_reads' HO137.out).2.1); rintro e w' ⟨rfl, ⟨nd, rfl⟩⟩; refine ⟨_, rfl, ?_⟩))
 go_ret2
 exact ⟨_, uF, uI, uB⟩
def fixenc_modulus_half.f (k : Nat) (l0 : List Int) : Option (List Int) := (nat_Shr.f k l0 1).bind fun bt163 => ((nat_Bit.f l0 0).bind fun t167 => (if t167 = true then (some bt163.1) else ((nat_Sub.f k bt163.1 (([1] : List Int))).bind fun bt171 => (some bt171.1))))
theorem fixenc_modulus_half.calls (k : Nat) (A0 : Option Addr) (c0 : Nat) (l0 : List Int) (r : List Int) (w : World) (hr0 : Kd.C (Kd.int .u64) w A0 l0.length l0) (hc0 : l0.length ≤ c0) (h : fixenc_modulus_half.f k l0 = some r) :
  Calls Try.prog 57 #[.slice A0 l0.length c0] w fun e w' => ∃ v0_ : Value, e = .returned (v0_) ∧ Kd.R (Kd.int .u64) 42 w' w.heap.size (fun _ => True) v0_ r ∧ Below w.heap.size w w' := by
 have HR0 := Aside0.mk hr0; have HC0 := Aside0.mk hc0; clear hr0 hc0
 have HB := Aside0.mk (Below.refl w.heap.size w)
 have H : ((nat_Shr.f k l0 1).bind fun bt163 => ((nat_Bit.f l0 0).bind fun t167 => (if t167 = true then (some bt163.1) else ((nat_Sub.f k bt163.1 (([1] : List Int))).bind fun bt171 => (some bt171.1))))) = some r := h
 clear h
 replace H := ub H; obtain ⟨⟨t163, t164⟩, A2, H⟩ := H
 (try dsimp only at H)
 replace H := ub H; obtain ⟨t167, A3, H⟩ := H
 by_cases c4 : t167 = true
 ·
  subst c4
  have H1 : (some t163) = some r := by rw [if_pos rfl] at H; exact H
  clear H; have H := H1; clear H1
  obtain rfl := Option.some.inj H
  go_enter Try.func57, Try.ntmps57
  go_wp2_with (first | ((with_reducible refine ug 80 rfl ?_); refine uh (some 7) rfl Try.func80 #[.slice A0 l0.length c0, .int .i64 1] ?_; (with_reducible refine (nat_Shr.calls k _ _ l0 1 t163 t164 _ ?side1 ?side2 A2.out).mono ?_); (case side1 => exact uC HR0.out); (case side2 => exact HC0.out); rintro e w5 ⟨v165, rfl, ho0, hb⟩; refine ⟨_, rfl, ?_⟩; have HO166 := ulo ho0; replace HB := uy hb; (try clear hb ho0)) | ((with_reducible refine ug 81 rfl ?_); refine uh (some 11) rfl Try.func81 #[.slice A0 l0.length c0, .int .i64 0] ?_; (with_reducible refine (nat_Bit.calls _ _ l0 0 true _ ?side1 ?side2 A3.out).mono ?_); (case side1 => exact uC (Kd.C_below HR0.out HB.out)); (case side2 => exact HC0.out); rintro e w' ⟨rfl, ⟨nd, rfl⟩⟩; refine ⟨_, rfl, ?_⟩))
  go_ret
  exact ⟨_, uF, uR HO166.out, uB⟩
 replace c4 := Bool.eq_false_iff.mpr c4
 subst c4
 have H1 : ((nat_Sub.f k t163 (([1] : List Int))).bind fun bt171 => (some bt171.1)) = some r := by rw [if_neg (show ¬ (false = true) by decide)] at H; exact H
 clear H; have H := H1; clear H1
 obtain ⟨y168, hy168⟩ : ∃ y_ : List Int, y_ = (([1] : List Int)) := ⟨_, rfl⟩
 replace H : ((nat_Sub.f k t163 y168).bind fun bt171 => (some bt171.1)) = some r := by first | (rw [hy168]; with_reducible exact H) | (have H2_ := (Option.bind_some _ _).symm.trans H; rw [hy168]; with_reducible exact H2_) | (have H2_ := (Option.bind_some _ _).symm.trans H; with_reducible exact H2_) | with_reducible exact H | (rw [hy168]; exact H) | exact H
 have Ny168 := Aside0.mk hy168; clear hy168
 replace H := ub H; obtain ⟨⟨t171, t174⟩, A6, H⟩ := H
 (try dsimp only at H)
 obtain rfl := Option.some.inj H
 go_enter Try.func57, Try.ntmps57
 go_wp2_with (first | ((with_reducible refine ug 80 rfl ?_); refine uh (some 7) rfl Try.func80 #[.slice A0 l0.length c0, .int .i64 1] ?_; (with_reducible refine (nat_Shr.calls k _ _ l0 1 t163 t164 _ ?side1 ?side2 A2.out).mono ?_); (case side1 => exact uC HR0.out); (case side2 => exact HC0.out); rintro e w7 ⟨v165, rfl, ho0, hb⟩; refine ⟨_, rfl, ?_⟩; have HO166 := ulo ho0; replace HB := uy hb; (try clear hb ho0)) | ((with_reducible refine ug 81 rfl ?_); refine uh (some 11) rfl Try.func81 #[.slice A0 l0.length c0, .int .i64 0] ?_; (with_reducible refine (nat_Bit.calls _ _ l0 0 false _ ?side1 ?side2 A3.out).mono ?_); (case side1 => exact uC (Kd.C_below HR0.out HB.out)); (case side2 => exact HC0.out); rintro e w' ⟨rfl, ⟨nd, rfl⟩⟩; refine ⟨_, rfl, ?_⟩) | ((with_reducible refine gate_dst (N := 15) rfl ?_); refine Kd.R_lit (Kd.int .u64) _ 42 ?hg (N := 15) ?hd (xs := ([1] : List Int)) (inner := [.int .u64 1]) (ok := fun _ => True) (okp := fun _ => True) ?hr ?hp (fun _ hk => hk) trivial (Below.refl _ _) (Nat.le_refl _) (by simp) ?_; (case hd => rfl); (case hg => rfl); (case hr => first | (go_simp; done) | (go_simp; rfl) | (go_simp; simp only [u64_u8]; done) | (go_simp; simp only [u64_u8]; rfl)); (case hp => exact (Reps.one (show Kd.M (Kd.int .u64) _ _ _ 1 [.int .u64 1] from rfl) (Reps.none _ _))); intro v169 w8 ho9 hb hg_ hnew_; clear hg_ hnew_; (first | rw [← Ny168.out] at ho9 | (simp only [Int.reduceToNat] at ho9; rw [← Ny168.out] at ho9)); have HO170 := ulo (unw ho9 HO166); replace HO166 := ueR HO166 ho9 hb; replace HB := uy hb; clear hb ho9; obtain ⟨Ao10, co10, eo10⟩ := Kd.R_slice HO166.out; subst eo10; obtain ⟨Ao11, co11, eo11⟩ := Kd.R_slice HO170.out; subst eo11) | ((with_reducible refine ug 37 rfl ?_); refine uh (some 16) rfl Try.func37 #[.slice Ao10 t163.length co10, .slice Ao11 y168.length co11] ?_; (with_reducible refine (nat_Sub.calls k (fun k_ => some k_ = (.slice Ao10 t163.length co10 : Value).ownBlock) _ _ t163 (fun k_ => some k_ = (.slice Ao11 y168.length co11 : Value).ownBlock) _ _ y168 t171 t174 _ ?side1 ?side2 A6.out).mono ?_); (case side1 => exact Kd.R_V (Kd.R_tight rfl (HO166.out))); (case side2 => exact Kd.R_V (Kd.R_tight rfl (HO170.out))); rintro e w12 ⟨v172, rfl, ho0, hb⟩; refine ⟨_, rfl, ?_⟩; have HO173 := ulo (unw (unw (Kd.R_mono (ok' := fun k_ => True) ho0 (fun _ hk_ => trivial)) HO166) HO170); replace HO166 := ueR HO166 ho0 hb; replace HO170 := ueR HO170 ho0 hb; replace HB := uy hb; (try clear hb ho0)))
 go_ret
 exact ⟨_, uF, by exact uR (Kd.R_mono HO173.out (fun _ hk => trivial)), uB⟩
end Go.Proofs.Ytnaphgnkhhapoab.F
end
section
namespace Go.Proofs.Ytnaphgnkhhapoab.F
open Go.RowKit Go.Proofs.YtnaphgnkhhapoabW.PrintWords Go.Proofs.YtnaphgnkhhapoabW.PrintLast Go.Proofs.YtnaphgnkhhapoabW.PrintMore
attribute [local go_sem] max2_int min2_int max_two min_two max_three min_three max_four min_four
set_option linter.unusedVariables false
set_option linter.unusedSimpArgs false
attribute [local go_sem] add64_run
mutual
def nat_sum.l0 : Nat → List Int → List Int → List Int → Int → Int → Int → Option (List Int)
 | 0, _, _, _, _, _, _ => none
 | k + 1, x0, x1, x5, x6, x21, x22 => if x22 < x21 then (if x22 < (x1.length : Int) then (if 0 ≤ x22 then (if x22 < (x0.length : Int) then (if carry01 x6 = true then (if x22 < (x5.length : Int) then (nat_sum.l0 k x0 x1 (x5.set (x22 : Int).toNat (add64_s (rd x0 x22) (rd x1 x22) x6)) (add64_c (rd x0 x22) (rd x1 x22) x6) x21 (wrap64 (x22 + 1))) else (none)) else (none)) else (none)) else (none)) else (if 0 ≤ x22 then (if x22 < (x0.length : Int) then (if carry01 x6 = true then (if x22 < (x5.length : Int) then (nat_sum.l0 k x0 x1 (x5.set (x22 : Int).toNat (add64_s (rd x0 x22) 0 x6)) (add64_c (rd x0 x22) 0 x6) x21 (wrap64 (x22 + 1))) else (none)) else (none)) else (none)) else (none))) else (if 0 ≤ (x0.length : Int) then (if (x0.length : Int) < (x5.length : Int) then (some (x5.set ((x0.length : Int) : Int).toNat x6)) else (none)) else (none))
def nat_sum.l51 : Nat → List Int → List Int → List Int → Int → Int → Int → Option (List Int)
 | 0, _, _, _, _, _, _ => none
 | k + 1, x0, x1, x5, x6, x21, x22 => if x22 < x21 then (if x22 < (x1.length : Int) then (if 0 ≤ x22 then (if x22 < (x0.length : Int) then (if carry01 x6 = true then (if x22 < (x5.length : Int) then (nat_sum.l51 k x0 x1 (x5.set (x22 : Int).toNat (add64_s (rd x0 x22) (rd x1 x22) x6)) (add64_c (rd x0 x22) (rd x1 x22) x6) x21 (wrap64 (x22 + 1))) else (none)) else (none)) else (none)) else (none)) else (if 0 ≤ x22 then (if x22 < (x0.length : Int) then (if carry01 x6 = true then (if x22 < (x5.length : Int) then (nat_sum.l51 k x0 x1 (x5.set (x22 : Int).toNat (add64_s (rd x0 x22) 0 x6)) (add64_c (rd x0 x22) 0 x6) x21 (wrap64 (x22 + 1))) else (none)) else (none)) else (none)) else (none))) else (if 0 ≤ (x0.length : Int) then (if (x0.length : Int) < (x5.length : Int) then (some (x5.set ((x0.length : Int) : Int).toNat x6)) else (none)) else (none))
end
def nat_sum.f (k : Nat) (l0 : List Int) (l1 : List Int) : Option (List Int) := if (l0.length : Int) < (l1.length : Int) then (if 0 ≤ (wrap64 ((l1.length : Int) + 1)) then (if (wrap64 ((l1.length : Int) + 1) : Int).toNat ≤ 35184372088832 then (nat_sum.l0 k l1 l0 (List.replicate (wrap64 ((l1.length : Int) + 1) : Int).toNat 0) 0 (l1.length : Int) 0) else (none)) else (none)) else (if 0 ≤ (wrap64 ((l0.length : Int) + 1)) then (if (wrap64 ((l0.length : Int) + 1) : Int).toNat ≤ 35184372088832 then (nat_sum.l51 k l0 l1 (List.replicate (wrap64 ((l0.length : Int) + 1) : Int).toNat 0) 0 (l0.length : Int) 0) else (none)) else (none))
theorem nat_sum.calls (k : Nat) (A0 : Option Addr) (c0 : Nat) (l0 : List Int) (A1 : Option Addr) (c1 : Nat) (l1 : List Int) (r : List Int) (w : World) (hr0 : Kd.C (Kd.int .u64) w A0 l0.length l0) (hc0 : l0.length ≤ c0) (hr1 : Kd.C (Kd.int .u64) w A1 l1.length l1) (hc1 : l1.length ≤ c1) (h : nat_sum.f k l0 l1 = some r) :
  Calls Try.prog 66 #[.slice A0 l0.length c0, .slice A1 l1.length c1] w fun e w' => ∃ v0_ : Value, e = .returned (v0_) ∧ Kd.R (Kd.int .u64) 42 w' w.heap.size (fun _ => True) v0_ r ∧ Below w.heap.size w w' := by
 have HR0 := Aside0.mk hr0; have HC0 := Aside0.mk hc0; clear hr0 hc0; have HR1 := Aside0.mk hr1; have HC1 := Aside0.mk hc1; clear hr1 hc1
 have HB := Aside0.mk (Below.refl w.heap.size w)
 have H : (if (l0.length : Int) < (l1.length : Int) then (if 0 ≤ (wrap64 ((l1.length : Int) + 1)) then (if (wrap64 ((l1.length : Int) + 1) : Int).toNat ≤ 35184372088832 then (nat_sum.l0 k l1 l0 (List.replicate (wrap64 ((l1.length : Int) + 1) : Int).toNat 0) 0 (l1.length : Int) 0) else (none)) else (none)) else (if 0 ≤ (wrap64 ((l0.length : Int) + 1)) then (if (wrap64 ((l0.length : Int) + 1) : Int).toNat ≤ 35184372088832 then (nat_sum.l51 k l0 l1 (List.replicate (wrap64 ((l0.length : Int) + 1) : Int).toNat 0) 0 (l0.length : Int) 0) else (none)) else (none))) = some r := h
 clear h
 by_cases c3 : (l0.length : Int) < (l1.length : Int)
 ·
  rw [if_pos c3] at H
  have c3b0 := decide_eq_true c3
  have c3b1 : decide (l0.length < l1.length) = true := decide_eq_true (Int.ofNat_lt.mp c3)
  clear c3
  obtain ⟨ji4, hji4⟩ : ∃ j_ : Int, (wrap64 ((l1.length : Int) + 1)) = j_ := ⟨_, rfl⟩
  first | rw [hji4] at H | simp only [hji4] at H
  have hji4w : (IntKind.i64.wrap ((l1.length : Int) + 1)) = ji4 := (i64_w _).trans hji4
  replace H := uT H; obtain ⟨c5, H⟩ := H
  have c5b0 := eq_true c5
  have c5b1 := decide_eq_true c5
  clear c5
  replace H := uT H; obtain ⟨c6, H⟩ := H
  have c6b0 := eq_true c6
  have c6b1 := decide_eq_true c6
  clear c6
  obtain ⟨y177, hy177⟩ : ∃ y_ : List Int, y_ = (List.replicate (ji4 : Int).toNat 0) := ⟨_, rfl⟩
  replace H : (nat_sum.l0 k l1 l0 y177 0 (l1.length : Int) 0) = some r := by first | (rw [hy177]; with_reducible exact H) | (have H2_ := (Option.bind_some _ _).symm.trans H; rw [hy177]; with_reducible exact H2_) | (have H2_ := (Option.bind_some _ _).symm.trans H; with_reducible exact H2_) | with_reducible exact H | (rw [hy177]; exact H) | exact H
  have Ny177 := Aside0.mk hy177; clear hy177
  have H' := Aside0.mk H
  clear H
  go_enter Try.func66, Try.ntmps66
  go_wp2_with (first | ((with_reducible refine gate_dst (N := 19) rfl ?_); refine Kd.R_make (Kd.int .u64) _ 42 rfl (N := 19) rfl 23 _ _ rfl ji4 rfl rfl Try.underlying23 (.int .u64 0) 8 info42 rfl (by decide) (by omega) 0 (ok := fun _ => True) (okp := fun _ => True) rfl (fun _ hk => hk) trivial uO (Nat.le_trans (Nat.mul_le_mul_right _ (uO : ji4.toNat ≤ 35184372088832)) (by omega)) (Below.refl _ _) (Nat.le_refl _) ?_; intro v178 w7 ho8 hb hg_ hnew_; clear hg_ hnew_; (first | rw [← Ny177.out] at ho8 | (simp only [Int.reduceToNat] at ho8; rw [← Ny177.out] at ho8)); have HO179 := ulo ho8; replace HB := uy hb; clear hb ho8))
  go_loopg [6, 22] k (fun kq v6 v22 w' => ∃ (x5_1 : List Int) (x6_1 : Int) (x22_1 : Int), v6 = .int .u64 x6_1 ∧ v22 = .int .i64 x22_1 ∧ Aside0 (nat_sum.l0 kq l1 l0 x5_1 x6_1 (l1.length : Int) x22_1 = some r) ∧ Aside0 (kq ≤ k) ∧ Aside0 (Kd.R (Kd.int .u64) 42 w' w.heap.size (fun _ => True) v178 x5_1) ∧ Aside0 (Below w.heap.size w w'))
  case atStart => exact ⟨(y177), (0), (0), uG, uG, H', ⟨Nat.le_refl _⟩, ⟨uR HO179.out⟩, ⟨uB⟩⟩
  case round =>
   clear H'
   obtain ⟨x5_1, x6_1, x22_1, rfl, rfl, HA, HK1, HO_5, HB⟩ := hrel
   cases gk with
   | zero => exact absurd HA.out (by simp [nat_sum.l0])
   | succ k1 =>
    have H := HA.out
    clear HA
    simp only [nat_sum.l0] at H
    by_cases c9 : x22_1 < (l1.length : Int)
    ·
     rw [if_pos c9] at H
     have c9b0 := decide_eq_true c9
     clear c9
     by_cases c10 : x22_1 < (l0.length : Int)
     ·
      rw [if_pos c10] at H
      have c10b0 := decide_eq_true c10
      clear c10
      replace H := uT H; obtain ⟨c11, H⟩ := H
      have c11b0 := decide_eq_true c11
      clear c11
      replace H := uT H; obtain ⟨c12, H⟩ := H
      have c12b0 := decide_eq_true c12
      clear c12
      replace H := uT H; obtain ⟨c13, H⟩ := H
      have c13b0 : carry01 x6_1 = true := c13
      clear c13
      replace H := uT H; obtain ⟨c14, H⟩ := H
      have c14b0 := decide_eq_true c14
      clear c14
      obtain ⟨y182, hy182⟩ : ∃ y_ : List Int, y_ = (x5_1.set (x22_1 : Int).toNat (add64_s (rd l1 x22_1) (rd l0 x22_1) x6_1)) := ⟨_, rfl⟩
      replace H : (nat_sum.l0 k1 l1 l0 y182 (add64_c (rd l1 x22_1) (rd l0 x22_1) x6_1) (l1.length : Int) (wrap64 (x22_1 + 1))) = some r := by first | (rw [hy182]; with_reducible exact H) | (have H2_ := (Option.bind_some _ _).symm.trans H; rw [hy182]; with_reducible exact H2_) | (have H2_ := (Option.bind_some _ _).symm.trans H; with_reducible exact H2_) | with_reducible exact H | (rw [hy182]; exact H) | exact H
      have Ny182 := Aside0.mk hy182; clear hy182
      have H' := Aside0.mk H
      clear H
      have p180 : 0 ≤ (x22_1 : Int) := uO
      have q180 : x22_1 < (l0.length : Int) := uO
      obtain ⟨ad180, e180, hx180_0⟩ := Kd.at_int HR0.out x22_1 p180 q180
      cases e180
      replace hx180_0 := (HB.out.cell (World.block_lt_of_cell? w _ hx180_0)).trans hx180_0
      replace p180 := eq_true p180
      replace q180 := eq_true q180
      have p181 : 0 ≤ (x22_1 : Int) := uO
      have q181 : x22_1 < (l1.length : Int) := uO
      obtain ⟨ad181, e181, hx181_0⟩ := Kd.at_int HR1.out x22_1 p181 q181
      cases e181
      replace hx181_0 := (HB.out.cell (World.block_lt_of_cell? w _ hx181_0)).trans hx181_0
      replace p181 := eq_true p181
      replace q181 := eq_true q181
      have p15 : 0 ≤ (x22_1 : Int) := uO
      have q15 : (x22_1 : Int) < ((x5_1.length : Int) : Int) := uO
      obtain ⟨go15, co15, eo15, gb15, gl15, cl15, HG15⟩ := Kd.R_form HO_5.out (by omega)
      (first | cases eo15 | (injection eo15 with ea_ en_ ec_; (first | subst ea_ | (injection ea_ with ea_; subst ea_)); subst ec_; clear en_))
      have GB15 := Aside0.mk gb15; have GG15 := Aside0.mk HG15; clear gb15 gl15 HG15
      obtain ⟨hx15_0, hf15_0⟩ := Kd.R_celln 0 HO_5.out (x22_1 : Int) p15 q15
      replace p15 := eq_true p15
      replace q15 := eq_true q15
      have HP16 := Kd.R_putg HO_5.out (x22_1 : Int) (add64_s (rd l1 x22_1) (rd l0 x22_1) x6_1)
      go_wp2_with (first | ((with_reducible refine gate_store (t := 42) (p := 45) rfl ?_); refine store_event (t := 42) (p := 45) (v := ?vo_w17) (w1 := (wr.setCell ⟨go15, (x22_1 : Int).toNat, none⟩ (.int .u64 (add64_s (rd l1 x22_1) (rd l0 x22_1) x6_1)))) ?hg ?ho ?hn ?hr ?_; (case ho => rfl); (case hg => rfl); (case hn => rfl); (case hr => first | (go_simp; done) | (go_simp; rfl) | (obtain ⟨hy_, hz_⟩ := Kd.R_celln 0 HO_5.out (x22_1 : Int) uO uO; (try simp only [Go.IntWalk.toNatUp] at hy_ hz_); (try simp only [Int.reduceToNat, Int.toNat_zero, Int.toNat_ofNat] at hy_ hz_); first | (go_simp; done) | (go_simp; rfl))); intro w17 hw; have hg : wr.grownBy w17 (some go15) := (by rw [hw]; exact HP16.2); have hp_ : Kd.R (Kd.int .u64) 42 w17 w.heap.size (fun _ => True) (.slice (some ⟨go15, 0, none⟩) x5_1.length co15) y182 := (by rw [hw, Ny182.out]; exact HP16.1); clear HP16; replace HO_5 := Aside0.mk (hp_); replace HB := Aside0.mk ((by rw [hw]; exact below_set (HB.out) GB15.out : Below w.heap.size w w17)); clear hg hw hp_))
      first | go_roundg k1 | ((try simp only [← hji4] at H'); simp only [← hji4]; go_roundg k1)
      case measure => have := HK1.out; omega
      case rel => first | exact ⟨(y182), (add64_c (rd l1 x22_1) (rd l0 x22_1) x6_1), (wrap64 (x22_1 + 1)), uG, uG, H', ⟨by have := HK1.out; omega⟩, ⟨uR HO_5.out⟩, ⟨uB⟩⟩ | (simp only [← hji4] at H'; exact ⟨(y182), (add64_c (rd l1 x22_1) (rd l0 x22_1) x6_1), (wrap64 (x22_1 + 1)), uG, uG, H', ⟨by have := HK1.out; omega⟩, ⟨uR HO_5.out⟩, ⟨uB⟩⟩)
     rw [if_neg c10] at H
     have c10b0 := decide_eq_false c10
     clear c10
     replace H := uT H; obtain ⟨c18, H⟩ := H
     have c18b0 := decide_eq_true c18
     clear c18
     replace H := uT H; obtain ⟨c19, H⟩ := H
     have c19b0 := decide_eq_true c19
     clear c19
     replace H := uT H; obtain ⟨c20, H⟩ := H
     have c20b0 : carry01 x6_1 = true := c20
     clear c20
     replace H := uT H; obtain ⟨c21, H⟩ := H
     have c21b0 := decide_eq_true c21
     clear c21
     obtain ⟨y184, hy184⟩ : ∃ y_ : List Int, y_ = (x5_1.set (x22_1 : Int).toNat (add64_s (rd l1 x22_1) 0 x6_1)) := ⟨_, rfl⟩
     replace H : (nat_sum.l0 k1 l1 l0 y184 (add64_c (rd l1 x22_1) 0 x6_1) (l1.length : Int) (wrap64 (x22_1 + 1))) = some r := by first | (rw [hy184]; with_reducible exact H) | (have H2_ := (Option.bind_some _ _).symm.trans H; rw [hy184]; with_reducible exact H2_) | (have H2_ := (Option.bind_some _ _).symm.trans H; with_reducible exact H2_) | with_reducible exact H | (rw [hy184]; exact H) | exact H
     have Ny184 := Aside0.mk hy184; clear hy184
     have H' := Aside0.mk H
     clear H
     have p183 : 0 ≤ (x22_1 : Int) := uO
     have q183 : x22_1 < (l1.length : Int) := uO
     obtain ⟨ad183, e183, hx183_0⟩ := Kd.at_int HR1.out x22_1 p183 q183
     cases e183
     replace hx183_0 := (HB.out.cell (World.block_lt_of_cell? w _ hx183_0)).trans hx183_0
     replace p183 := eq_true p183
     replace q183 := eq_true q183
     have p22 : 0 ≤ (x22_1 : Int) := uO
     have q22 : (x22_1 : Int) < ((x5_1.length : Int) : Int) := uO
     obtain ⟨go22, co22, eo22, gb22, gl22, cl22, HG22⟩ := Kd.R_form HO_5.out (by omega)
     (first | cases eo22 | (injection eo22 with ea_ en_ ec_; (first | subst ea_ | (injection ea_ with ea_; subst ea_)); subst ec_; clear en_))
     have GB22 := Aside0.mk gb22; have GG22 := Aside0.mk HG22; clear gb22 gl22 HG22
     obtain ⟨hx22_0, hf22_0⟩ := Kd.R_celln 0 HO_5.out (x22_1 : Int) p22 q22
     replace p22 := eq_true p22
     replace q22 := eq_true q22
     have HP23 := Kd.R_putg HO_5.out (x22_1 : Int) (add64_s (rd l1 x22_1) 0 x6_1)
     go_wp2_with (first | ((with_reducible refine gate_store (t := 42) (p := 45) rfl ?_); refine store_event (t := 42) (p := 45) (v := ?vo_w24) (w1 := (wr.setCell ⟨go22, (x22_1 : Int).toNat, none⟩ (.int .u64 (add64_s (rd l1 x22_1) 0 x6_1)))) ?hg ?ho ?hn ?hr ?_; (case ho => rfl); (case hg => rfl); (case hn => rfl); (case hr => first | (go_simp; done) | (go_simp; rfl) | (obtain ⟨hy_, hz_⟩ := Kd.R_celln 0 HO_5.out (x22_1 : Int) uO uO; (try simp only [Go.IntWalk.toNatUp] at hy_ hz_); (try simp only [Int.reduceToNat, Int.toNat_zero, Int.toNat_ofNat] at hy_ hz_); first | (go_simp; done) | (go_simp; rfl))); intro w24 hw; have hg : wr.grownBy w24 (some go22) := (by rw [hw]; exact HP23.2); have hp_ : Kd.R (Kd.int .u64) 42 w24 w.heap.size (fun _ => True) (.slice (some ⟨go22, 0, none⟩) x5_1.length co22) y184 := (by rw [hw, Ny184.out]; exact HP23.1); clear HP23; replace HO_5 := Aside0.mk (hp_); replace HB := Aside0.mk ((by rw [hw]; exact below_set (HB.out) GB22.out : Below w.heap.size w w24)); clear hg hw hp_))
     first | go_roundg k1 | ((try simp only [← hji4] at H'); simp only [← hji4]; go_roundg k1)
     case measure => have := HK1.out; omega
     case rel => first | exact ⟨(y184), (add64_c (rd l1 x22_1) 0 x6_1), (wrap64 (x22_1 + 1)), uG, uG, H', ⟨by have := HK1.out; omega⟩, ⟨uR HO_5.out⟩, ⟨uB⟩⟩ | (simp only [← hji4] at H'; exact ⟨(y184), (add64_c (rd l1 x22_1) 0 x6_1), (wrap64 (x22_1 + 1)), uG, uG, H', ⟨by have := HK1.out; omega⟩, ⟨uR HO_5.out⟩, ⟨uB⟩⟩)
    rw [if_neg c9] at H
    have c9b0 := decide_eq_false c9
    clear c9
    replace H := uT H; obtain ⟨c25, H⟩ := H
    have c25b0 := decide_eq_true c25
    have c25b1 : decide (0 ≤ l1.length) = true := decide_eq_true (by omega)
    clear c25
    replace H := uT H; obtain ⟨c26, H⟩ := H
    have c26b0 := decide_eq_true c26
    have c26b1 : decide (l1.length < x5_1.length) = true := decide_eq_true (Int.ofNat_lt.mp c26)
    clear c26
    obtain ⟨y185, hy185⟩ : ∃ y_ : List Int, y_ = (x5_1.set ((l1.length : Int) : Int).toNat x6_1) := ⟨_, rfl⟩
    replace H : (some y185) = some r := by first | (rw [hy185]; with_reducible exact H) | (have H2_ := (Option.bind_some _ _).symm.trans H; rw [hy185]; with_reducible exact H2_) | (have H2_ := (Option.bind_some _ _).symm.trans H; with_reducible exact H2_) | with_reducible exact H | (rw [hy185]; exact H) | exact H
    have Ny185 := Aside0.mk hy185; clear hy185
    obtain rfl := Option.some.inj H
    have p27 : 0 ≤ ((l1.length : Int) : Int) := uO
    have q27 : ((l1.length : Int) : Int) < ((x5_1.length : Int) : Int) := uO
    obtain ⟨go27, co27, eo27, gb27, gl27, cl27, HG27⟩ := Kd.R_form HO_5.out (by omega)
    (first | cases eo27 | (injection eo27 with ea_ en_ ec_; (first | subst ea_ | (injection ea_ with ea_; subst ea_)); subst ec_; clear en_))
    have GB27 := Aside0.mk gb27; have GG27 := Aside0.mk HG27; clear gb27 gl27 HG27
    obtain ⟨hx27_0, hf27_0⟩ := Kd.R_celln 0 HO_5.out ((l1.length : Int) : Int) p27 q27
    (try simp only [Go.IntWalk.toNatUp] at hx27_0 hf27_0)
    replace p27 := eq_true p27
    replace q27 := eq_true q27
    have HP28 := Kd.R_putg HO_5.out ((l1.length : Int) : Int) x6_1
    go_wp2_with (first | ((with_reducible refine gate_store (t := 42) (p := 51) rfl ?_); refine store_event (t := 42) (p := 51) (v := ?vo_w29) (w1 := (wr.setCell ⟨go27, ((l1.length : Int) : Int).toNat, none⟩ (.int .u64 x6_1))) ?hg ?ho ?hn ?hr ?_; (case ho => rfl); (case hg => rfl); (case hn => rfl); (case hr => first | (go_simp; done) | (go_simp; rfl) | (obtain ⟨hy_, hz_⟩ := Kd.R_celln 0 HO_5.out ((l1.length : Int) : Int) uO uO; (try simp only [Go.IntWalk.toNatUp] at hy_ hz_); (try simp only [Int.reduceToNat, Int.toNat_zero, Int.toNat_ofNat] at hy_ hz_); first | (go_simp; done) | (go_simp; rfl))); intro w29 hw; have hg : wr.grownBy w29 (some go27) := (by rw [hw]; exact HP28.2); have hp_ : Kd.R (Kd.int .u64) 42 w29 w.heap.size (fun _ => True) (.slice (some ⟨go27, 0, none⟩) x5_1.length co27) y185 := (by rw [hw, Ny185.out]; exact HP28.1); clear HP28; replace HO_5 := Aside0.mk (hp_); replace HB := Aside0.mk ((by rw [hw]; exact below_set (HB.out) GB27.out : Below w.heap.size w w29)); clear hg hw hp_))
    go_ret
    exact ⟨_, by first | rfl | (simp [errW_none, errW_some] <;> rfl) | (simp only [← hji4]; first | rfl | (simp [errW_none, errW_some] <;> rfl)) | (simp [*, errW_none, errW_some] <;> rfl), uR HO_5.out, uB⟩
 rw [if_neg c3] at H
 have c3b0 := decide_eq_false c3
 have c3b1 : decide (l0.length < l1.length) = false := decide_eq_false (fun h => c3 (Int.ofNat_lt.mpr h))
 clear c3
 obtain ⟨ji30, hji30⟩ : ∃ j_ : Int, (wrap64 ((l0.length : Int) + 1)) = j_ := ⟨_, rfl⟩
 first | rw [hji30] at H | simp only [hji30] at H
 have hji30w : (IntKind.i64.wrap ((l0.length : Int) + 1)) = ji30 := (i64_w _).trans hji30
 replace H := uT H; obtain ⟨c31, H⟩ := H
 have c31b0 := eq_true c31
 have c31b1 := decide_eq_true c31
 clear c31
 replace H := uT H; obtain ⟨c32, H⟩ := H
 have c32b0 := eq_true c32
 have c32b1 := decide_eq_true c32
 clear c32
 obtain ⟨y186, hy186⟩ : ∃ y_ : List Int, y_ = (List.replicate (ji30 : Int).toNat 0) := ⟨_, rfl⟩
 replace H : (nat_sum.l51 k l0 l1 y186 0 (l0.length : Int) 0) = some r := by first | (rw [hy186]; with_reducible exact H) | (have H2_ := (Option.bind_some _ _).symm.trans H; rw [hy186]; with_reducible exact H2_) | (have H2_ := (Option.bind_some _ _).symm.trans H; with_reducible exact H2_) | with_reducible exact H | (rw [hy186]; exact H) | exact H
 have Ny186 := Aside0.mk hy186; clear hy186
 have H' := Aside0.mk H
 clear H
 go_enter Try.func66, Try.ntmps66
 go_wp2_with (first | ((with_reducible refine gate_dst (N := 19) rfl ?_); refine Kd.R_make (Kd.int .u64) _ 42 rfl (N := 19) rfl 23 _ _ rfl ji30 rfl rfl Try.underlying23 (.int .u64 0) 8 info42 rfl (by decide) (by omega) 0 (ok := fun _ => True) (okp := fun _ => True) rfl (fun _ hk => hk) trivial uO (Nat.le_trans (Nat.mul_le_mul_right _ (uO : ji30.toNat ≤ 35184372088832)) (by omega)) (Below.refl _ _) (Nat.le_refl _) ?_; intro v187 w33 ho34 hb hg_ hnew_; clear hg_ hnew_; (first | rw [← Ny186.out] at ho34 | (simp only [Int.reduceToNat] at ho34; rw [← Ny186.out] at ho34)); have HO188 := ulo ho34; replace HB := uy hb; clear hb ho34))
 go_loopg [6, 22] k (fun kq v6 v22 w' => ∃ (x5_1 : List Int) (x6_1 : Int) (x22_1 : Int), v6 = .int .u64 x6_1 ∧ v22 = .int .i64 x22_1 ∧ Aside0 (nat_sum.l51 kq l0 l1 x5_1 x6_1 (l0.length : Int) x22_1 = some r) ∧ Aside0 (kq ≤ k) ∧ Aside0 (Kd.R (Kd.int .u64) 42 w' w.heap.size (fun _ => True) v187 x5_1) ∧ Aside0 (Below w.heap.size w w'))
 case atStart => exact ⟨(y186), (0), (0), uG, uG, H', ⟨Nat.le_refl _⟩, ⟨uR HO188.out⟩, ⟨uB⟩⟩
 case round =>
  clear H'
  ; (try clear q1); (try clear hx1); (try clear q2); (try clear hx2); (try clear hf2); (try clear q15 q15); (try clear hx15 hx15_0); (try clear hf15); (try clear q18); (try clear hx18); (try clear q22 q22); (try clear hx22 hx22_0); (try clear hf22); (try clear q27 q27); (try clear hx27 hx27_0); (try clear hf27); (try clear hx180_0); (try clear hx181_0); (try clear hx183_0); (try clear q180); (try clear q181); (try clear q183)
  obtain ⟨x5_1, x6_1, x22_1, rfl, rfl, HA, HK1, HO_5, HB⟩ := hrel
  cases gk with
  | zero => exact absurd HA.out (by simp [nat_sum.l51])
  | succ k1 =>
   have H := HA.out
   clear HA
   simp only [nat_sum.l51] at H
   by_cases c35 : x22_1 < (l0.length : Int)
   ·
    rw [if_pos c35] at H
    have c35b0 := decide_eq_true c35
    clear c35
    by_cases c36 : x22_1 < (l1.length : Int)
    ·
     rw [if_pos c36] at H
     have c36b0 := decide_eq_true c36
     clear c36
     replace H := uT H; obtain ⟨c37, H⟩ := H
     have c37b0 := decide_eq_true c37
     clear c37
     replace H := uT H; obtain ⟨c38, H⟩ := H
     have c38b0 := decide_eq_true c38
     clear c38
     replace H := uT H; obtain ⟨c39, H⟩ := H
     have c39b0 : carry01 x6_1 = true := c39
     clear c39
     replace H := uT H; obtain ⟨c40, H⟩ := H
     have c40b0 := decide_eq_true c40
     clear c40
     obtain ⟨y191, hy191⟩ : ∃ y_ : List Int, y_ = (x5_1.set (x22_1 : Int).toNat (add64_s (rd l0 x22_1) (rd l1 x22_1) x6_1)) := ⟨_, rfl⟩
     replace H : (nat_sum.l51 k1 l0 l1 y191 (add64_c (rd l0 x22_1) (rd l1 x22_1) x6_1) (l0.length : Int) (wrap64 (x22_1 + 1))) = some r := by first | (rw [hy191]; with_reducible exact H) | (have H2_ := (Option.bind_some _ _).symm.trans H; rw [hy191]; with_reducible exact H2_) | (have H2_ := (Option.bind_some _ _).symm.trans H; with_reducible exact H2_) | with_reducible exact H | (rw [hy191]; exact H) | exact H
     have Ny191 := Aside0.mk hy191; clear hy191
     have H' := Aside0.mk H
     clear H
     have p189 : 0 ≤ (x22_1 : Int) := uO
     have q189 : x22_1 < (l1.length : Int) := uO
     obtain ⟨ad189, e189, hx189_0⟩ := Kd.at_int HR1.out x22_1 p189 q189
     cases e189
     replace hx189_0 := (HB.out.cell (World.block_lt_of_cell? w _ hx189_0)).trans hx189_0
     replace p189 := eq_true p189
     replace q189 := eq_true q189
     have p190 : 0 ≤ (x22_1 : Int) := uO
     have q190 : x22_1 < (l0.length : Int) := uO
     obtain ⟨ad190, e190, hx190_0⟩ := Kd.at_int HR0.out x22_1 p190 q190
     cases e190
     replace hx190_0 := (HB.out.cell (World.block_lt_of_cell? w _ hx190_0)).trans hx190_0
     replace p190 := eq_true p190
     replace q190 := eq_true q190
     have p41 : 0 ≤ (x22_1 : Int) := uO
     have q41 : (x22_1 : Int) < ((x5_1.length : Int) : Int) := uO
     obtain ⟨go41, co41, eo41, gb41, gl41, cl41, HG41⟩ := Kd.R_form HO_5.out (by omega)
     (first | cases eo41 | (injection eo41 with ea_ en_ ec_; (first | subst ea_ | (injection ea_ with ea_; subst ea_)); subst ec_; clear en_))
     have GB41 := Aside0.mk gb41; have GG41 := Aside0.mk HG41; clear gb41 gl41 HG41
     obtain ⟨hx41_0, hf41_0⟩ := Kd.R_celln 0 HO_5.out (x22_1 : Int) p41 q41
     replace p41 := eq_true p41
     replace q41 := eq_true q41
     have HP42 := Kd.R_putg HO_5.out (x22_1 : Int) (add64_s (rd l0 x22_1) (rd l1 x22_1) x6_1)
     go_wp2_with (first | ((with_reducible refine gate_store (t := 42) (p := 45) rfl ?_); refine store_event (t := 42) (p := 45) (v := ?vo_w43) (w1 := (wr.setCell ⟨go41, (x22_1 : Int).toNat, none⟩ (.int .u64 (add64_s (rd l0 x22_1) (rd l1 x22_1) x6_1)))) ?hg ?ho ?hn ?hr ?_; (case ho => rfl); (case hg => rfl); (case hn => rfl); (case hr => first | (go_simp; done) | (go_simp; rfl) | (obtain ⟨hy_, hz_⟩ := Kd.R_celln 0 HO_5.out (x22_1 : Int) uO uO; (try simp only [Go.IntWalk.toNatUp] at hy_ hz_); (try simp only [Int.reduceToNat, Int.toNat_zero, Int.toNat_ofNat] at hy_ hz_); first | (go_simp; done) | (go_simp; rfl))); intro w43 hw; have hg : wr.grownBy w43 (some go41) := (by rw [hw]; exact HP42.2); have hp_ : Kd.R (Kd.int .u64) 42 w43 w.heap.size (fun _ => True) (.slice (some ⟨go41, 0, none⟩) x5_1.length co41) y191 := (by rw [hw, Ny191.out]; exact HP42.1); clear HP42; replace HO_5 := Aside0.mk (hp_); replace HB := Aside0.mk ((by rw [hw]; exact below_set (HB.out) GB41.out : Below w.heap.size w w43)); clear hg hw hp_))
     first | go_roundg k1 | ((try simp only [← hji30] at H'); simp only [← hji30]; go_roundg k1) | ((try simp only [← hji4] at H'); simp only [← hji4]; go_roundg k1)
     case measure => have := HK1.out; omega
     case rel => first | exact ⟨(y191), (add64_c (rd l0 x22_1) (rd l1 x22_1) x6_1), (wrap64 (x22_1 + 1)), uG, uG, H', ⟨by have := HK1.out; omega⟩, ⟨uR HO_5.out⟩, ⟨uB⟩⟩ | (simp only [← hji30] at H'; exact ⟨(y191), (add64_c (rd l0 x22_1) (rd l1 x22_1) x6_1), (wrap64 (x22_1 + 1)), uG, uG, H', ⟨by have := HK1.out; omega⟩, ⟨uR HO_5.out⟩, ⟨uB⟩⟩) | (simp only [← hji4] at H'; exact ⟨(y191), (add64_c (rd l0 x22_1) (rd l1 x22_1) x6_1), (wrap64 (x22_1 + 1)), uG, uG, H', ⟨by have := HK1.out; omega⟩, ⟨uR HO_5.out⟩, ⟨uB⟩⟩)
    rw [if_neg c36] at H
    have c36b0 := decide_eq_false c36
    clear c36
    replace H := uT H; obtain ⟨c44, H⟩ := H
    have c44b0 := decide_eq_true c44
    clear c44
    replace H := uT H; obtain ⟨c45, H⟩ := H
    have c45b0 := decide_eq_true c45
    clear c45
    replace H := uT H; obtain ⟨c46, H⟩ := H
    have c46b0 : carry01 x6_1 = true := c46
    clear c46
    replace H := uT H; obtain ⟨c47, H⟩ := H
    have c47b0 := decide_eq_true c47
    clear c47
    obtain ⟨y193, hy193⟩ : ∃ y_ : List Int, y_ = (x5_1.set (x22_1 : Int).toNat (add64_s (rd l0 x22_1) 0 x6_1)) := ⟨_, rfl⟩
    replace H : (nat_sum.l51 k1 l0 l1 y193 (add64_c (rd l0 x22_1) 0 x6_1) (l0.length : Int) (wrap64 (x22_1 + 1))) = some r := by first | (rw [hy193]; with_reducible exact H) | (have H2_ := (Option.bind_some _ _).symm.trans H; rw [hy193]; with_reducible exact H2_) | (have H2_ := (Option.bind_some _ _).symm.trans H; with_reducible exact H2_) | with_reducible exact H | (rw [hy193]; exact H) | exact H
    have Ny193 := Aside0.mk hy193; clear hy193
    have H' := Aside0.mk H
    clear H
    have p192 : 0 ≤ (x22_1 : Int) := uO
    have q192 : x22_1 < (l0.length : Int) := uO
    obtain ⟨ad192, e192, hx192_0⟩ := Kd.at_int HR0.out x22_1 p192 q192
    cases e192
    replace hx192_0 := (HB.out.cell (World.block_lt_of_cell? w _ hx192_0)).trans hx192_0
    replace p192 := eq_true p192
    replace q192 := eq_true q192
    have p48 : 0 ≤ (x22_1 : Int) := uO
    have q48 : (x22_1 : Int) < ((x5_1.length : Int) : Int) := uO
    obtain ⟨go48, co48, eo48, gb48, gl48, cl48, HG48⟩ := Kd.R_form HO_5.out (by omega)
    (first | cases eo48 | (injection eo48 with ea_ en_ ec_; (first | subst ea_ | (injection ea_ with ea_; subst ea_)); subst ec_; clear en_))
    have GB48 := Aside0.mk gb48; have GG48 := Aside0.mk HG48; clear gb48 gl48 HG48
    obtain ⟨hx48_0, hf48_0⟩ := Kd.R_celln 0 HO_5.out (x22_1 : Int) p48 q48
    replace p48 := eq_true p48
    replace q48 := eq_true q48
    have HP49 := Kd.R_putg HO_5.out (x22_1 : Int) (add64_s (rd l0 x22_1) 0 x6_1)
    go_wp2_with (first | ((with_reducible refine gate_store (t := 42) (p := 45) rfl ?_); refine store_event (t := 42) (p := 45) (v := ?vo_w50) (w1 := (wr.setCell ⟨go48, (x22_1 : Int).toNat, none⟩ (.int .u64 (add64_s (rd l0 x22_1) 0 x6_1)))) ?hg ?ho ?hn ?hr ?_; (case ho => rfl); (case hg => rfl); (case hn => rfl); (case hr => first | (go_simp; done) | (go_simp; rfl) | (obtain ⟨hy_, hz_⟩ := Kd.R_celln 0 HO_5.out (x22_1 : Int) uO uO; (try simp only [Go.IntWalk.toNatUp] at hy_ hz_); (try simp only [Int.reduceToNat, Int.toNat_zero, Int.toNat_ofNat] at hy_ hz_); first | (go_simp; done) | (go_simp; rfl))); intro w50 hw; have hg : wr.grownBy w50 (some go48) := (by rw [hw]; exact HP49.2); have hp_ : Kd.R (Kd.int .u64) 42 w50 w.heap.size (fun _ => True) (.slice (some ⟨go48, 0, none⟩) x5_1.length co48) y193 := (by rw [hw, Ny193.out]; exact HP49.1); clear HP49; replace HO_5 := Aside0.mk (hp_); replace HB := Aside0.mk ((by rw [hw]; exact below_set (HB.out) GB48.out : Below w.heap.size w w50)); clear hg hw hp_))
    first | go_roundg k1 | ((try simp only [← hji30] at H'); simp only [← hji30]; go_roundg k1) | ((try simp only [← hji4] at H'); simp only [← hji4]; go_roundg k1)
    case measure => have := HK1.out; omega
    case rel => first | exact ⟨(y193), (add64_c (rd l0 x22_1) 0 x6_1), (wrap64 (x22_1 + 1)), uG, uG, H', ⟨by have := HK1.out; omega⟩, ⟨uR HO_5.out⟩, ⟨uB⟩⟩ | (simp only [← hji30] at H'; exact ⟨(y193), (add64_c (rd l0 x22_1) 0 x6_1), (wrap64 (x22_1 + 1)), uG, uG, H', ⟨by have := HK1.out; omega⟩, ⟨uR HO_5.out⟩, ⟨uB⟩⟩) | (simp only [← hji4] at H'; exact ⟨(y193), (add64_c (rd l0 x22_1) 0 x6_1), (wrap64 (x22_1 + 1)), uG, uG, H', ⟨by have := HK1.out; omega⟩, ⟨uR HO_5.out⟩, ⟨uB⟩⟩)
   rw [if_neg c35] at H
   have c35b0 := decide_eq_false c35
   clear c35
   replace H := uT H; obtain ⟨c51, H⟩ := H
   have c51b0 := decide_eq_true c51
   have c51b1 : decide (0 ≤ l0.length) = true := decide_eq_true (by omega)
   clear c51
   replace H := uT H; obtain ⟨c52, H⟩ := H
   have c52b0 := decide_eq_true c52
   have c52b1 : decide (l0.length < x5_1.length) = true := decide_eq_true (Int.ofNat_lt.mp c52)
   clear c52
   obtain ⟨y194, hy194⟩ : ∃ y_ : List Int, y_ = (x5_1.set ((l0.length : Int) : Int).toNat x6_1) := ⟨_, rfl⟩
   replace H : (some y194) = some r := by first | (rw [hy194]; with_reducible exact H) | (have H2_ := (Option.bind_some _ _).symm.trans H; rw [hy194]; with_reducible exact H2_) | (have H2_ := (Option.bind_some _ _).symm.trans H; with_reducible exact H2_) | with_reducible exact H | (rw [hy194]; exact H) | exact H
   have Ny194 := Aside0.mk hy194; clear hy194
   obtain rfl := Option.some.inj H
   have p53 : 0 ≤ ((l0.length : Int) : Int) := uO
   have q53 : ((l0.length : Int) : Int) < ((x5_1.length : Int) : Int) := uO
   obtain ⟨go53, co53, eo53, gb53, gl53, cl53, HG53⟩ := Kd.R_form HO_5.out (by omega)
   (first | cases eo53 | (injection eo53 with ea_ en_ ec_; (first | subst ea_ | (injection ea_ with ea_; subst ea_)); subst ec_; clear en_))
   have GB53 := Aside0.mk gb53; have GG53 := Aside0.mk HG53; clear gb53 gl53 HG53
   obtain ⟨hx53_0, hf53_0⟩ := Kd.R_celln 0 HO_5.out ((l0.length : Int) : Int) p53 q53
   (try simp only [Go.IntWalk.toNatUp] at hx53_0 hf53_0)
   replace p53 := eq_true p53
   replace q53 := eq_true q53
   have HP54 := Kd.R_putg HO_5.out ((l0.length : Int) : Int) x6_1
   go_wp2_with (first | ((with_reducible refine gate_store (t := 42) (p := 51) rfl ?_); refine store_event (t := 42) (p := 51) (v := ?vo_w55) (w1 := (wr.setCell ⟨go53, ((l0.length : Int) : Int).toNat, none⟩ (.int .u64 x6_1))) ?hg ?ho ?hn ?hr ?_; (case ho => rfl); (case hg => rfl); (case hn => rfl); (case hr => first | (go_simp; done) | (go_simp; rfl) | (obtain ⟨hy_, hz_⟩ := Kd.R_celln 0 HO_5.out ((l0.length : Int) : Int) uO uO; (try simp only [Go.IntWalk.toNatUp] at hy_ hz_); (try simp only [Int.reduceToNat, Int.toNat_zero, Int.toNat_ofNat] at hy_ hz_); first | (go_simp; done) | (go_simp; rfl))); intro w55 hw; have hg : wr.grownBy w55 (some go53) := (by rw [hw]; exact HP54.2); have hp_ : Kd.R (Kd.int .u64) 42 w55 w.heap.size (fun _ => True) (.slice (some ⟨go53, 0, none⟩) x5_1.length co53) y194 := (by rw [hw, Ny194.out]; exact HP54.1); clear HP54; replace HO_5 := Aside0.mk (hp_); replace HB := Aside0.mk ((by rw [hw]; exact below_set (HB.out) GB53.out : Below w.heap.size w w55)); clear hg hw hp_))
   go_ret
   exact ⟨_, by first | rfl | (simp [errW_none, errW_some] <;> rfl) | (simp only [← hji30]; first | rfl | (simp [errW_none, errW_some] <;> rfl)) | (simp [*, errW_none, errW_some] <;> rfl), uR HO_5.out, uB⟩
mutual
def nat_school.l0 : Nat → List Int → List Int → List Int → Int → Int → Option (List Int)
 | 0, _, _, _, _, _ => none
 | k + 1, x1, x5, x20, x21, x22 => if x22 < x21 then (if 0 ≤ x22 then (if x22 < (x20.length : Int) then (nat_school.l1 k x1 x5 x22 (rd x20 x22) 0 x20 x21 x22 x1 (x1.length : Int) 0) else (none)) else (none)) else ((nat_trim.f k x5).bind fun t289 => (some t289))
def nat_school.l1 : Nat → List Int → List Int → Int → Int → Int → List Int → Int → Int → List Int → Int → Int → Option (List Int)
 | 0, _, _, _, _, _, _, _, _, _, _, _ => none
 | k + 1, x1, x5, x6, x7, x8, x20, x21, x22, x27, x28, x29 => if x29 < x28 then (if 0 ≤ x29 then (if x29 < (x27.length : Int) then ((bits_Mul64.f x7 (rd x27 x29)).bind fun bt294 => (if 0 ≤ (wrap64 (x6 + x29)) then (if (wrap64 (x6 + x29)) < (x5.length : Int) then (if carry01 0 = true then (nat_school.l1 k x1 (x5.set ((wrap64 (x6 + x29)) : Int).toNat (add64_s (add64_s bt294.2 (rd x5 (wrap64 (x6 + x29))) 0) x8 0)) x6 x7 (IntKind.u64.wrap ((IntKind.u64.wrap (bt294.1 + (add64_c bt294.2 (rd x5 (wrap64 (x6 + x29))) 0))) + (add64_c (add64_s bt294.2 (rd x5 (wrap64 (x6 + x29))) 0) x8 0))) x20 x21 x22 x27 x28 (wrap64 (x29 + 1))) else (none)) else (none)) else (none))) else (none)) else (none)) else (if 0 ≤ (wrap64 (x6 + (x1.length : Int))) then (if (wrap64 (x6 + (x1.length : Int))) < (x5.length : Int) then (nat_school.l0 k x1 (x5.set ((wrap64 (x6 + (x1.length : Int))) : Int).toNat x8) x20 x21 (wrap64 (x22 + 1))) else (none)) else (none))
end
def nat_school.f (k : Nat) (l0 : List Int) (l1 : List Int) : Option (List Int) := if 0 ≤ (wrap64 ((l0.length : Int) + (l1.length : Int))) then (if (wrap64 ((l0.length : Int) + (l1.length : Int)) : Int).toNat ≤ 35184372088832 then (nat_school.l0 k l1 (List.replicate (wrap64 ((l0.length : Int) + (l1.length : Int)) : Int).toNat 0) l0 (l0.length : Int) 0) else (none)) else (none)
theorem nat_school.calls (k : Nat) (A0 : Option Addr) (c0 : Nat) (l0 : List Int) (A1 : Option Addr) (c1 : Nat) (l1 : List Int) (r : List Int) (w : World) (hr0 : Kd.C (Kd.int .u64) w A0 l0.length l0) (hc0 : l0.length ≤ c0) (hr1 : Kd.C (Kd.int .u64) w A1 l1.length l1) (hc1 : l1.length ≤ c1) (h : nat_school.f k l0 l1 = some r) :
  Calls Try.prog 90 #[.slice A0 l0.length c0, .slice A1 l1.length c1] w fun e w' => ∃ v0_ : Value, e = .returned (v0_) ∧ Kd.R (Kd.int .u64) 42 w' w.heap.size (fun _ => True) v0_ r ∧ Below w.heap.size w w' := by
 have HR0 := Aside0.mk hr0; have HC0 := Aside0.mk hc0; clear hr0 hc0; have HR1 := Aside0.mk hr1; have HC1 := Aside0.mk hc1; clear hr1 hc1
 have HB := Aside0.mk (Below.refl w.heap.size w)
 have H : (if 0 ≤ (wrap64 ((l0.length : Int) + (l1.length : Int))) then (if (wrap64 ((l0.length : Int) + (l1.length : Int)) : Int).toNat ≤ 35184372088832 then (nat_school.l0 k l1 (List.replicate (wrap64 ((l0.length : Int) + (l1.length : Int)) : Int).toNat 0) l0 (l0.length : Int) 0) else (none)) else (none)) = some r := h
 clear h
 obtain ⟨ji3, hji3⟩ : ∃ j_ : Int, (wrap64 ((l0.length : Int) + (l1.length : Int))) = j_ := ⟨_, rfl⟩
 first | rw [hji3] at H | simp only [hji3] at H
 have hji3w : (IntKind.i64.wrap ((l0.length : Int) + (l1.length : Int))) = ji3 := (i64_w _).trans hji3
 replace H := uT H; obtain ⟨c4, H⟩ := H
 have c4b0 := eq_true c4
 have c4b1 := decide_eq_true c4
 clear c4
 replace H := uT H; obtain ⟨c5, H⟩ := H
 have c5b0 := eq_true c5
 have c5b1 := decide_eq_true c5
 clear c5
 obtain ⟨y286, hy286⟩ : ∃ y_ : List Int, y_ = (List.replicate (ji3 : Int).toNat 0) := ⟨_, rfl⟩
 replace H : (nat_school.l0 k l1 y286 l0 (l0.length : Int) 0) = some r := by first | (rw [hy286]; with_reducible exact H) | (have H2_ := (Option.bind_some _ _).symm.trans H; rw [hy286]; with_reducible exact H2_) | (have H2_ := (Option.bind_some _ _).symm.trans H; with_reducible exact H2_) | with_reducible exact H | (rw [hy286]; exact H) | exact H
 have Ny286 := Aside0.mk hy286; clear hy286
 have H' := Aside0.mk H
 clear H
 go_enter Try.func90, Try.ntmps90
 go_wp2_with (first | ((with_reducible refine gate_dst (N := 19) rfl ?_); refine Kd.R_make (Kd.int .u64) _ 42 rfl (N := 19) rfl 23 _ _ rfl ji3 rfl rfl Try.underlying23 (.int .u64 0) 8 info42 rfl (by decide) (by omega) 0 (ok := fun _ => True) (okp := fun _ => True) rfl (fun _ hk => hk) trivial uO (Nat.le_trans (Nat.mul_le_mul_right _ (uO : ji3.toNat ≤ 35184372088832)) (by omega)) (Below.refl _ _) (Nat.le_refl _) ?_; intro v287 w6 ho7 hb hg_ hnew_; clear hg_ hnew_; (first | rw [← Ny286.out] at ho7 | (simp only [Int.reduceToNat] at ho7; rw [← Ny286.out] at ho7)); have HO288 := ulo ho7; replace HB := uy hb; clear hb ho7))
 go_loopg [22] k (fun kq v22 w' => ∃ (x5_1 : List Int) (x22_1 : Int), v22 = .int .i64 x22_1 ∧ Aside0 (nat_school.l0 kq l1 x5_1 l0 (l0.length : Int) x22_1 = some r) ∧ Aside0 (kq ≤ k) ∧ Aside0 (Kd.R (Kd.int .u64) 42 w' w.heap.size (fun _ => True) v287 x5_1) ∧ Aside0 (Below w.heap.size w w'))
 case atStart => exact ⟨(y286), (0), uG, H', ⟨Nat.le_refl _⟩, ⟨uR HO288.out⟩, ⟨uB⟩⟩
 case round =>
  clear H'
  obtain ⟨x5_1, x22_1, rfl, HA, HK1, HO_5, HB⟩ := hrel
  cases gk with
  | zero => exact absurd HA.out (by simp [nat_school.l0])
  | succ k1 =>
   have H := HA.out
   clear HA
   simp only [nat_school.l0] at H
   by_cases c8 : x22_1 < (l0.length : Int)
   ·
    rw [if_pos c8] at H
    have c8b0 := decide_eq_true c8
    clear c8
    replace H := uT H; obtain ⟨c9, H⟩ := H
    have c9b0 := decide_eq_true c9
    clear c9
    replace H := uT H; obtain ⟨c10, H⟩ := H
    have c10b0 := decide_eq_true c10
    clear c10
    have H' := Aside0.mk H
    clear H
    have p292 : 0 ≤ (x22_1 : Int) := uO
    have q292 : x22_1 < (l0.length : Int) := uO
    obtain ⟨ad292, e292, hx292_0⟩ := Kd.at_int HR0.out x22_1 p292 q292
    cases e292
    replace hx292_0 := (HB.out.cell (World.block_lt_of_cell? w _ hx292_0)).trans hx292_0
    replace p292 := eq_true p292
    replace q292 := eq_true q292
    go_wp2
    go_loopg [8, 29] k1 (fun kq v8 v29 w' => ∃ (x5_2 : List Int) (x8_2 : Int) (x29_2 : Int), v8 = .int .u64 x8_2 ∧ v29 = .int .i64 x29_2 ∧ Aside0 (nat_school.l1 kq l1 x5_2 x22_1 (rd l0 x22_1) x8_2 l0 (l0.length : Int) x22_1 l1 (l1.length : Int) x29_2 = some r) ∧ Aside0 (kq ≤ k1) ∧ Aside0 (Kd.R (Kd.int .u64) 42 w' w.heap.size (fun _ => True) v287 x5_2) ∧ Aside0 (Below w.heap.size w w'))
    case atStart => exact ⟨(x5_1), (0), (0), uG, uG, H', ⟨Nat.le_refl _⟩, ⟨uR HO_5.out⟩, ⟨uB⟩⟩
    case round =>
     clear H'
     ; (try clear q2); (try clear hx2); (try clear hx292_0); (try clear q292)
     obtain ⟨x5_2, x8_2, x29_2, rfl, rfl, HA, HK2, HO_5, HB⟩ := hrel
     cases gk with
     | zero => exact absurd HA.out (by simp [nat_school.l1])
     | succ k2 =>
      have H := HA.out
      clear HA
      simp only [nat_school.l1] at H
      by_cases c11 : x29_2 < (l1.length : Int)
      ·
       rw [if_pos c11] at H
       have c11b0 := decide_eq_true c11
       clear c11
       replace H := uT H; obtain ⟨c12, H⟩ := H
       have c12b0 := decide_eq_true c12
       clear c12
       replace H := uT H; obtain ⟨c13, H⟩ := H
       have c13b0 := decide_eq_true c13
       clear c13
       replace H := ub H; obtain ⟨⟨t294, t295⟩, A14, H⟩ := H
       (try dsimp only at H)
       obtain ⟨ji15, hji15⟩ : ∃ j_ : Int, (wrap64 (x22_1 + x29_2)) = j_ := ⟨_, rfl⟩
       first | rw [hji15] at H | simp only [hji15] at H
       (try rw [hji15] at A14)
       have hji15w : (IntKind.i64.wrap (x22_1 + x29_2)) = ji15 := (i64_w _).trans hji15
       replace H := uT H; obtain ⟨c16, H⟩ := H
       have c16b0 := decide_eq_true c16
       clear c16
       replace H := uT H; obtain ⟨c17, H⟩ := H
       have c17b0 := decide_eq_true c17
       clear c17
       replace H := uT H; obtain ⟨c18, H⟩ := H
       have c18b0 : carry01 0 = true := c18
       clear c18
       obtain ⟨y297, hy297⟩ : ∃ y_ : List Int, y_ = (x5_2.set ((ji15) : Int).toNat (add64_s (add64_s t295 (rd x5_2 (ji15)) 0) x8_2 0)) := ⟨_, rfl⟩
       replace H : (nat_school.l1 k2 l1 y297 x22_1 (rd l0 x22_1) (IntKind.u64.wrap ((IntKind.u64.wrap (t294 + (add64_c t295 (rd x5_2 (ji15)) 0))) + (add64_c (add64_s t295 (rd x5_2 (ji15)) 0) x8_2 0))) l0 (l0.length : Int) x22_1 l1 (l1.length : Int) (wrap64 (x29_2 + 1))) = some r := by first | (rw [hy297]; with_reducible exact H) | (have H2_ := (Option.bind_some _ _).symm.trans H; rw [hy297]; with_reducible exact H2_) | (have H2_ := (Option.bind_some _ _).symm.trans H; with_reducible exact H2_) | with_reducible exact H | (rw [hy297]; exact H) | exact H
       have Ny297 := Aside0.mk hy297; clear hy297
       have H' := Aside0.mk H
       clear H
       have p293 : 0 ≤ (x29_2 : Int) := uO
       have q293 : x29_2 < (l1.length : Int) := uO
       obtain ⟨ad293, e293, hx293_0⟩ := Kd.at_int HR1.out x29_2 p293 q293
       cases e293
       replace hx293_0 := (HB.out.cell (World.block_lt_of_cell? w _ hx293_0)).trans hx293_0
       replace p293 := eq_true p293
       replace q293 := eq_true q293
       go_wp2_with (first | ((with_reducible refine ug 25 rfl ?_); refine uh (some 37) rfl Try.func25 #[.int .u64 (rd l0 x22_1), .int .u64 (rd l1 x29_2)] ?_; (with_reducible refine (bits_Mul64.calls (rd l0 x22_1) (rd l1 x29_2) t294 t295 _ A14.out).mono ?_); rintro e w' ⟨rfl, ⟨nd, rfl⟩⟩; refine ⟨_, rfl, ?_⟩; (try (rw [drewN_self wr]; generalize hq_ : World.drewN wr _ = wr; replace HO_5 : Aside0 (Kd.R (Kd.int .u64) 42 wr w.heap.size (fun _ => True) v287 x5_2) := ⟨by rw [← hq_]; exact (uR HO_5.out)⟩; replace HB : Aside0 (Below w.heap.size w wr) := ⟨by rw [← hq_]; exact uB⟩; clear hq_)); obtain ⟨Ao20, co20, eo20⟩ := Kd.R_slice HO_5.out; subst eo20; have p296 : 0 ≤ ((ji15) : Int) := uO; have q296 : (ji15) < (x5_2.length : Int) := uO; obtain ⟨ad296, e296, hx296_0⟩ := Kd.at_int (Kd.R_reads' HO_5.out).2.2 (ji15) p296 q296; cases e296; replace p296 := eq_true p296; replace q296 := eq_true q296; have p19 : 0 ≤ ((ji15) : Int) := uO; have q19 : ((ji15) : Int) < ((x5_2.length : Int) : Int) := uO; obtain ⟨go19, co19, eo19, gb19, gl19, cl19, HG19⟩ := Kd.R_form HO_5.out (by omega); (first | cases eo19 | (injection eo19 with ea_ en_ ec_; (first | subst ea_ | (injection ea_ with ea_; subst ea_)); subst ec_; clear en_)); have GB19 := Aside0.mk gb19; have GG19 := Aside0.mk HG19; clear gb19 gl19 HG19; (first | simp only [add_plain] at hx296_0 | skip); obtain ⟨hx19_0, hf19_0⟩ := Kd.R_celln 0 HO_5.out ((ji15) : Int) p19 q19; replace p19 := eq_true p19; replace q19 := eq_true q19; obtain ⟨hy21_, hz21_⟩ := Kd.R_celln 0 HO_5.out ((ji15) : Int) uO uO; have HP21 := Kd.R_putg HO_5.out ((ji15) : Int) (add64_s (add64_s t295 (rd x5_2 (ji15)) 0) x8_2 0)) | ((with_reducible refine gate_store (t := 42) (p := 68) rfl ?_); refine store_event (t := 42) (p := 68) (v := ?vo_w22) (w1 := (wr.setCell ⟨go19, ((ji15) : Int).toNat, none⟩ (.int .u64 (add64_s (add64_s t295 (rd x5_2 (ji15)) 0) x8_2 0)))) ?hg ?ho ?hn ?hr ?_; (case ho => rfl); (case hg => rfl); (case hn => rfl); (case hr => first | (go_simp; done) | (go_simp; rfl) | (obtain ⟨hy_, hz_⟩ := Kd.R_celln 0 HO_5.out ((ji15) : Int) uO uO; (try simp only [Go.IntWalk.toNatUp] at hy_ hz_); (try simp only [Int.reduceToNat, Int.toNat_zero, Int.toNat_ofNat] at hy_ hz_); first | (go_simp; done) | (go_simp; rfl))); intro w22 hw; have hg : wr.grownBy w22 (some go19) := (by rw [hw]; exact HP21.2); have hp_ : Kd.R (Kd.int .u64) 42 w22 w.heap.size (fun _ => True) (.slice (some ⟨go19, 0, none⟩) x5_2.length co20) y297 := (by rw [hw, Ny297.out]; exact HP21.1); clear HP21; replace HO_5 := Aside0.mk (hp_); replace HB := Aside0.mk ((by rw [hw]; exact below_set (HB.out) GB19.out : Below w.heap.size w w22)); clear hg hw hp_))
       first | go_roundg k2 | ((try simp only [← hji15] at H'); simp only [← hji15]; go_roundg k2) | ((try simp only [← hji3] at H'); simp only [← hji3]; go_roundg k2)
       case measure => have := HK1.out; have := HK2.out; omega
       case rel => first | exact ⟨(y297), (IntKind.u64.wrap ((IntKind.u64.wrap (t294 + (add64_c t295 (rd x5_2 (ji15)) 0))) + (add64_c (add64_s t295 (rd x5_2 (ji15)) 0) x8_2 0))), (wrap64 (x29_2 + 1)), (by first | rfl | (simp; done) | (simp only [← hji15] <;> (first | rfl | simp)) | (simp [*]; done)), uG, H', ⟨by have := HK1.out; have := HK2.out; omega⟩, ⟨uR HO_5.out⟩, ⟨uB⟩⟩ | (simp only [← hji15] at H'; exact ⟨(y297), (IntKind.u64.wrap ((IntKind.u64.wrap (t294 + (add64_c t295 (rd x5_2 (ji15)) 0))) + (add64_c (add64_s t295 (rd x5_2 (ji15)) 0) x8_2 0))), (wrap64 (x29_2 + 1)), (by first | rfl | (simp; done) | (simp only [← hji15] <;> (first | rfl | simp)) | (simp [*]; done)), uG, H', ⟨by have := HK1.out; have := HK2.out; omega⟩, ⟨uR HO_5.out⟩, ⟨uB⟩⟩) | (simp only [← hji3] at H'; exact ⟨(y297), (IntKind.u64.wrap ((IntKind.u64.wrap (t294 + (add64_c t295 (rd x5_2 (ji15)) 0))) + (add64_c (add64_s t295 (rd x5_2 (ji15)) 0) x8_2 0))), (wrap64 (x29_2 + 1)), (by first | rfl | (simp; done) | (simp only [← hji15] <;> (first | rfl | simp)) | (simp [*]; done)), uG, H', ⟨by have := HK1.out; have := HK2.out; omega⟩, ⟨uR HO_5.out⟩, ⟨uB⟩⟩)
      rw [if_neg c11] at H
      have c11b0 := decide_eq_false c11
      clear c11
      obtain ⟨ji23, hji23⟩ : ∃ j_ : Int, (wrap64 (x22_1 + (l1.length : Int))) = j_ := ⟨_, rfl⟩
      first | rw [hji23] at H | simp only [hji23] at H
      have hji23w : (IntKind.i64.wrap (x22_1 + (l1.length : Int))) = ji23 := (i64_w _).trans hji23
      replace H := uT H; obtain ⟨c24, H⟩ := H
      have c24b0 := decide_eq_true c24
      clear c24
      replace H := uT H; obtain ⟨c25, H⟩ := H
      have c25b0 := decide_eq_true c25
      clear c25
      obtain ⟨y298, hy298⟩ : ∃ y_ : List Int, y_ = (x5_2.set ((ji23) : Int).toNat x8_2) := ⟨_, rfl⟩
      replace H : (nat_school.l0 k2 l1 y298 l0 (l0.length : Int) (wrap64 (x22_1 + 1))) = some r := by first | (rw [hy298]; with_reducible exact H) | (have H2_ := (Option.bind_some _ _).symm.trans H; rw [hy298]; with_reducible exact H2_) | (have H2_ := (Option.bind_some _ _).symm.trans H; with_reducible exact H2_) | with_reducible exact H | (rw [hy298]; exact H) | exact H
      have Ny298 := Aside0.mk hy298; clear hy298
      have H' := Aside0.mk H
      clear H
      have p26 : 0 ≤ ((ji23) : Int) := uO
      have q26 : ((ji23) : Int) < ((x5_2.length : Int) : Int) := uO
      obtain ⟨go26, co26, eo26, gb26, gl26, cl26, HG26⟩ := Kd.R_form HO_5.out (by omega)
      (first | cases eo26 | (injection eo26 with ea_ en_ ec_; (first | subst ea_ | (injection ea_ with ea_; subst ea_)); subst ec_; clear en_))
      have GB26 := Aside0.mk gb26; have GG26 := Aside0.mk HG26; clear gb26 gl26 HG26
      obtain ⟨hx26_0, hf26_0⟩ := Kd.R_celln 0 HO_5.out ((ji23) : Int) p26 q26
      replace p26 := eq_true p26
      replace q26 := eq_true q26
      have HP27 := Kd.R_putg HO_5.out ((ji23) : Int) x8_2
      go_wp2_with (first | ((with_reducible refine gate_store (t := 42) (p := 76) rfl ?_); refine store_event (t := 42) (p := 76) (v := ?vo_w28) (w1 := (wr.setCell ⟨go26, ((ji23) : Int).toNat, none⟩ (.int .u64 x8_2))) ?hg ?ho ?hn ?hr ?_; (case ho => rfl); (case hg => rfl); (case hn => rfl); (case hr => first | (go_simp; done) | (go_simp; rfl) | (obtain ⟨hy_, hz_⟩ := Kd.R_celln 0 HO_5.out ((ji23) : Int) uO uO; (try simp only [Go.IntWalk.toNatUp] at hy_ hz_); (try simp only [Int.reduceToNat, Int.toNat_zero, Int.toNat_ofNat] at hy_ hz_); first | (go_simp; done) | (go_simp; rfl))); intro w28 hw; have hg : wr.grownBy w28 (some go26) := (by rw [hw]; exact HP27.2); have hp_ : Kd.R (Kd.int .u64) 42 w28 w.heap.size (fun _ => True) (.slice (some ⟨go26, 0, none⟩) x5_2.length co26) y298 := (by rw [hw, Ny298.out]; exact HP27.1); clear HP27; replace HO_5 := Aside0.mk (hp_); replace HB := Aside0.mk ((by rw [hw]; exact below_set (HB.out) GB26.out : Below w.heap.size w w28)); clear hg hw hp_))
      first | go_roundg k2 | ((try simp only [← hji23] at H'); simp only [← hji23]; go_roundg k2) | ((try simp only [← hji15] at H'); simp only [← hji15]; go_roundg k2) | ((try simp only [← hji3] at H'); simp only [← hji3]; go_roundg k2)
      case measure => have := HK1.out; have := HK2.out; omega
      case rel => first | exact ⟨(y298), (wrap64 (x22_1 + 1)), uG, H', ⟨by have := HK1.out; have := HK2.out; omega⟩, ⟨uR HO_5.out⟩, ⟨uB⟩⟩ | (simp only [← hji23] at H'; exact ⟨(y298), (wrap64 (x22_1 + 1)), uG, H', ⟨by have := HK1.out; have := HK2.out; omega⟩, ⟨uR HO_5.out⟩, ⟨uB⟩⟩) | (simp only [← hji15] at H'; exact ⟨(y298), (wrap64 (x22_1 + 1)), uG, H', ⟨by have := HK1.out; have := HK2.out; omega⟩, ⟨uR HO_5.out⟩, ⟨uB⟩⟩) | (simp only [← hji3] at H'; exact ⟨(y298), (wrap64 (x22_1 + 1)), uG, H', ⟨by have := HK1.out; have := HK2.out; omega⟩, ⟨uR HO_5.out⟩, ⟨uB⟩⟩)
   rw [if_neg c8] at H
   have c8b0 := decide_eq_false c8
   clear c8
   replace H := ub H; obtain ⟨t289, A29, H⟩ := H
   obtain rfl := Option.some.inj H
   obtain ⟨Ao30, co30, eo30⟩ := Kd.R_slice HO_5.out
   subst eo30
   go_wp2_with (first | ((with_reducible refine ug 72 rfl ?_); refine uh (some 79) rfl Try.func72 #[.slice Ao30 x5_1.length co30] ?_; (with_reducible refine (nat_trim.calls k1 (fun k_ => some k_ = (.slice Ao30 x5_1.length co30 : Value).ownBlock) (.slice Ao30 x5_1.length co30) x5_1 t289 w _ ?side1 ?side2 A29.out).mono ?_); (case side1 => repeat (first | (with_reducible first | exact HB.out | apply below_alloc | apply pw_below_drewN | apply below_drew1) | exact HB.out)); (case side2 => exact Kd.R_tight rfl HO_5.out); rintro e w31 ⟨v290, rfl, ho0, hb, hkp⟩; refine ⟨_, rfl, ?_⟩; have HO291 := Aside0.mk (Kd.R_mono (ok' := fun k_ => True) ho0 (fun k_ hk_ => trivial)); replace HB := Aside0.mk (hb); clear HO_5; (try clear hb); (try clear hkp); (try clear ho0)))
   go_ret
   exact ⟨_, by first | rfl | (simp [errW_none, errW_some] <;> rfl) | (simp only [← hji3]; first | rfl | (simp [errW_none, errW_some] <;> rfl)) | (simp [*, errW_none, errW_some] <;> rfl), uR HO291.out, uB⟩
mutual
def nat_into.l0 : Nat → List Int → List Int → Int → Int → Int → Option (List Int)
 | 0, _, _, _, _, _ => none
 | k + 1, x0, x1, x2, x6, x7 => if x7 < (x0.length : Int) then (if (wrap64 (x7 - x2)) < (x1.length : Int) then (nat_into.j1 k x0 x1 x2 x6 x7 true) else (nat_into.j1 k x0 x1 x2 x6 x7 (decide (x6 > 0)))) else (nat_into.j1 k x0 x1 x2 x6 x7 false)
def nat_into.j1 : Nat → List Int → List Int → Int → Int → Int → Bool → Option (List Int)
 | 0, _, _, _, _, _, _ => none
 | k + 1, x0, x1, x2, x6, x7, x25 => if x25 = true then (if (wrap64 (x7 - x2)) < (x1.length : Int) then (if 0 ≤ (wrap64 (x7 - x2)) then (if 0 ≤ x7 then (if x7 < (x0.length : Int) then (if carry01 x6 = true then (nat_into.l0 k (x0.set (x7 : Int).toNat (add64_s (rd x0 x7) (rd x1 (wrap64 (x7 - x2))) x6)) x1 x2 (add64_c (rd x0 x7) (rd x1 (wrap64 (x7 - x2))) x6) (wrap64 (x7 + 1))) else (none)) else (none)) else (none)) else (none)) else (if 0 ≤ x7 then (if x7 < (x0.length : Int) then (if carry01 x6 = true then (nat_into.l0 k (x0.set (x7 : Int).toNat (add64_s (rd x0 x7) 0 x6)) x1 x2 (add64_c (rd x0 x7) 0 x6) (wrap64 (x7 + 1))) else (none)) else (none)) else (none))) else (some x0)
end
def nat_into.f (k : Nat) (l0 : List Int) (l1 : List Int) (a2 : Int) : Option (List Int) := nat_into.l0 k l0 l1 a2 0 a2
end Go.Proofs.Ytnaphgnkhhapoab.F
end
section
namespace Go.Proofs.Ytnaphgnkhhapoab.F
open Go.RowKit Go.Proofs.YtnaphgnkhhapoabW.PrintWords Go.Proofs.YtnaphgnkhhapoabW.PrintLast Go.Proofs.YtnaphgnkhhapoabW.PrintMore
attribute [local go_sem] max2_int min2_int max_two min_two max_three min_three max_four min_four
set_option linter.unusedVariables false
set_option linter.unusedSimpArgs false
def nat_Add.f (k : Nat) (l0 : List Int) (l1 : List Int) : Option (List Int × Int) := (nat_right.f (([l0, l1] : List (List Int)))).bind fun t198 => (if t198 = true then ((nat_sum.f k l0 l1).bind fun t199 => ((nat_told.f k t199).bind fun bt202 => (some (bt202.1, bt202.2)))) else (some (([] : List Int), 1)))
theorem nat_Add.calls (k : Nat) (P0_ : Nat → Prop) (A0 : Option Addr) (c0 : Nat) (l0 : List Int) (P1_ : Nat → Prop) (A1 : Option Addr) (c1 : Nat) (l1 : List Int) (r1 : List Int) (r2 : Int) (w : World) (hs0 : Kd.V (Kd.int .u64) 42 w w.heap.size (fun k_ => P0_ k_) (.slice A0 l0.length c0) l0) (hs1 : Kd.V (Kd.int .u64) 42 w w.heap.size (fun k_ => P1_ k_) (.slice A1 l1.length c1) l1) (h : nat_Add.f k l0 l1 = some (r1, r2)) :
  Calls Try.prog 38 #[.slice A0 l0.length c0, .slice A1 l1.length c1] w fun e w' => ∃ v0_ : Value, e = .returned (.tuple #[v0_, .int .i64 r2]) ∧ Kd.R (Kd.int .u64) 42 w' w.heap.size (fun k_ => (w.heap.size ≤ k_)) v0_ r1 ∧ Below w.heap.size w w' := by
 have HO0 := Aside0.mk (show Kd.V (Kd.int .u64) 42 w w.heap.size (fun k_ => ((P0_ k_ ∨ P1_ k_) ∨ w.heap.size ≤ k_)) (.slice A0 l0.length c0) l0 from Kd.V_mono hs0 (fun k_ hk => .inl (.inl hk)))
 have HO1 := Aside0.mk (show Kd.V (Kd.int .u64) 42 w w.heap.size (fun k_ => ((P0_ k_ ∨ P1_ k_) ∨ w.heap.size ≤ k_)) (.slice A1 l1.length c1) l1 from Kd.V_mono hs1 (fun k_ hk => .inl (.inr hk)))
 have HB := Aside0.mk (Below.refl w.heap.size w)
 have H : ((nat_right.f (([l0, l1] : List (List Int)))).bind fun t198 => (if t198 = true then ((nat_sum.f k l0 l1).bind fun t199 => ((nat_told.f k t199).bind fun bt202 => (some (bt202.1, bt202.2)))) else (some (([] : List Int), 1)))) = some (r1, r2) := h
 clear h
 obtain ⟨y195, hy195⟩ : ∃ y_ : List (List Int), y_ = (([l0, l1] : List (List Int))) := ⟨_, rfl⟩
 replace H : ((nat_right.f y195).bind fun t198 => (if t198 = true then ((nat_sum.f k l0 l1).bind fun t199 => ((nat_told.f k t199).bind fun bt202 => (some (bt202.1, bt202.2)))) else (some (([] : List Int), 1)))) = some (r1, r2) := by first | (rw [hy195]; with_reducible exact H) | (have H2_ := (Option.bind_some _ _).symm.trans H; rw [hy195]; with_reducible exact H2_) | (have H2_ := (Option.bind_some _ _).symm.trans H; with_reducible exact H2_) | with_reducible exact H | (rw [hy195]; exact H) | exact H
 have Ny195 := Aside0.mk hy195; clear hy195
 replace H := ub H; obtain ⟨t198, A3, H⟩ := H
 by_cases c4 : t198 = true
 ·
  subst c4
  have H1 : ((nat_sum.f k l0 l1).bind fun t199 => ((nat_told.f k t199).bind fun bt202 => (some (bt202.1, bt202.2)))) = some (r1, r2) := by rw [if_pos rfl] at H; exact H
  clear H; have H := H1; clear H1
  replace H := ub H; obtain ⟨t199, A5, H⟩ := H
  replace H := ub H; obtain ⟨⟨t202, t205⟩, A6, H⟩ := H
  (try dsimp only at H)
  simp only [Option.some.injEq, Prod.mk.injEq] at H
  obtain ⟨rfl, rfl⟩ := H
  go_enter Try.func38, Try.ntmps38
  go_wp2_with (first | ((with_reducible refine gate_dst (N := 8) rfl ?_); refine Kd.N_lit (Kd.slice 42 (Kd.int .u64)) _ 23 ?hg (N' := 8) ?hd (xs := ([l0, l1] : List (List Int))) (inner := [.slice A0 l0.length c0, .slice A1 l1.length c1]) (ok := (fun k_ => ((P0_ k_ ∨ P1_ k_) ∨ w.heap.size ≤ k_))) (okp := (fun k_ => ((P0_ k_ ∨ P1_ k_) ∨ w.heap.size ≤ k_))) ?hr ?hp (fun _ hk => hk) ((show ∀ k_, w.heap.size ≤ k_ → (fun k_ => ((P0_ k_ ∨ P1_ k_) ∨ w.heap.size ≤ k_)) k_ from fun k_ hk => (.inr (Nat.le_trans (below_size uB) hk))) _ (Nat.le_refl _)) (Below.refl _ _) (Nat.le_refl _) (by simp) ?_; (case hd => rfl); (case hg => rfl); (case hr => first | (go_simp; done) | (go_simp; rfl) | (go_simp; simp only [u64_u8]; done) | (go_simp; simp only [u64_u8]; rfl)); (case hp => exact (Reps.one (show Kd.FK (Kd.slice 42 (Kd.int .u64)) _ _ l0 [.slice A0 l0.length c0] from (Kd.FK_slice_mk (Kd.V_reads' (Kd.V_mono (ok' := (fun k_ => ((P0_ k_ ∨ P1_ k_) ∨ w.heap.size ≤ k_))) (HO0.out) (fun k_ hk => hk))).2.1 (Kd.V_F (Kd.V_mono (ok' := (fun k_ => ((P0_ k_ ∨ P1_ k_) ∨ w.heap.size ≤ k_))) (HO0.out) (fun k_ hk => hk))))) (Reps.one (show Kd.FK (Kd.slice 42 (Kd.int .u64)) _ _ l1 [.slice A1 l1.length c1] from (Kd.FK_slice_mk (Kd.V_reads' (Kd.V_mono (ok' := (fun k_ => ((P0_ k_ ∨ P1_ k_) ∨ w.heap.size ≤ k_))) (HO1.out) (fun k_ hk => hk))).2.1 (Kd.V_F (Kd.V_mono (ok' := (fun k_ => ((P0_ k_ ∨ P1_ k_) ∨ w.heap.size ≤ k_))) (HO1.out) (fun k_ hk => hk))))) (Reps.none _ _)))); intro v196 w7 ho8 hb hg_ hnew_; clear hg_ hnew_; (first | rw [← Ny195.out] at ho8 | (simp only [Int.reduceToNat] at ho8; rw [← Ny195.out] at ho8)); replace HO0 := Aside0.mk (Kd.V_elder' (uV HO0.out) (Kd.N_base ho8) hb); replace HO1 := Aside0.mk (Kd.V_elder' (uV HO1.out) (Kd.N_base ho8) hb); have HO197 := Aside0.mk (Kd.N_lower ho8 (below_size uB)); replace HB := uy hb; clear hb ho8; obtain ⟨Ao9, co9, eo9⟩ := Kd.N_slice HO197.out; subst eo9) | ((with_reducible refine ug 62 rfl ?_); refine uh (some 9) rfl Try.func62 #[.slice Ao9 y195.length co9] ?_; (with_reducible refine (nat_right.calls _ _ y195 true _ ?side1 ?side2 A3.out).mono ?_); (case side1 => exact uC (Kd.N_reads' HO197.out).2.2); (case side2 => exact (Kd.N_reads' HO197.out).2.1); rintro e w' ⟨rfl, ⟨nd, rfl⟩⟩; refine ⟨_, rfl, ?_⟩) | ((with_reducible refine ug 66 rfl ?_); refine uh (some 13) rfl Try.func66 #[.slice A0 l0.length c0, .slice A1 l1.length c1] ?_; (with_reducible refine (nat_sum.calls k _ _ l0 _ _ l1 t199 _ ?side1 ?side2 ?side3 ?side4 A5.out).mono ?_); (case side1 => exact uC (Kd.V_reads' HO0.out).2.2); (case side2 => exact (Kd.V_reads' HO0.out).2.1); (case side3 => exact uC (Kd.V_reads' HO1.out).2.2); (case side4 => exact (Kd.V_reads' HO1.out).2.1); rintro e w10 ⟨v200, rfl, ho0, hb⟩; refine ⟨_, rfl, ?_⟩; replace HO0 := ueV HO0 ho0 hb; replace HO1 := ueV HO1 ho0 hb; replace HO197 := ueN HO197 ho0 hb; have HO201 := ulo (Kd.R_newM (M := fun k_ => (w.heap.size ≤ k_)) ho0 (below_size uB) (fun k_ h_ => h_)); replace HB := uy hb; (try clear hb ho0); obtain ⟨Ao11, co11, eo11⟩ := Kd.R_slice HO201.out; subst eo11) | ((with_reducible refine ug 64 rfl ?_); refine uh (some 14) rfl Try.func64 #[.slice Ao11 t199.length co11] ?_; (with_reducible refine (nat_told.calls k (fun k_ => some k_ = (.slice Ao11 t199.length co11 : Value).ownBlock) (.slice Ao11 t199.length co11) t199 t202 t205 w _ ?side1 ?side2 A6.out).mono ?_); (case side1 => repeat (first | (with_reducible first | exact HB.out | apply below_alloc | apply pw_below_drewN | apply below_drew1) | exact HB.out)); (case side2 => exact Kd.R_tight rfl HO201.out); rintro e w12 ⟨v203, rfl, ho0, hb, hkp⟩; refine ⟨_, rfl, ?_⟩; replace HO0 := Aside0.mk (Kd.V_mono (ok' := fun k_ => ((P0_ k_ ∨ P1_ k_) ∨ w.heap.size ≤ k_) ∧ some k_ ≠ (.slice Ao9 y195.length co9 : Value).ownBlock ∧ some k_ ≠ (v203 : Value).ownBlock) (Kd.V_keptB (HO0.out) hkp (fun k_ hk_ hs_ => (hk_.2) hs_)) (fun k_ hk_ => ⟨hk_.1.1.1, hk_.1.1.2, fun e_ => Or.elim (ho0.1 k_ e_.symm) (fun hs_ => hk_.2.1 hs_) (fun hn_ => Nat.not_le.2 hk_.2.2 hn_)⟩)); replace HO1 := Aside0.mk (Kd.V_mono (ok' := fun k_ => ((P0_ k_ ∨ P1_ k_) ∨ w.heap.size ≤ k_) ∧ some k_ ≠ (.slice Ao9 y195.length co9 : Value).ownBlock ∧ some k_ ≠ (v203 : Value).ownBlock) (Kd.V_keptB (HO1.out) hkp (fun k_ hk_ hs_ => (hk_.2) hs_)) (fun k_ hk_ => ⟨hk_.1.1.1, hk_.1.1.2, fun e_ => Or.elim (ho0.1 k_ e_.symm) (fun hs_ => hk_.2.1 hs_) (fun hn_ => Nat.not_le.2 hk_.2.2 hn_)⟩)); replace HO197 := Aside0.mk (Kd.N_mono (ok' := fun k_ => ((P0_ k_ ∨ P1_ k_) ∨ w.heap.size ≤ k_) ∧ some k_ ≠ (v203 : Value).ownBlock) (Kd.N_keptB (HO197.out) hkp (fun k_ hk_ hs_ => (hk_.2) hs_)) (fun k_ hk_ => ⟨hk_.1.1, fun e_ => Or.elim (ho0.1 k_ e_.symm) (fun hs_ => hk_.2.1 hs_) (fun hn_ => Nat.not_le.2 hk_.2.2 hn_)⟩)); have HO204 := Aside0.mk (Kd.R_mono (ok' := fun k_ => (w.heap.size ≤ k_)) ho0 (fun k_ hk_ => Or.elim hk_ (fun hs_ => (HO201.out.1 k_ (hs_).symm).1) (fun hn_ => (Nat.le_trans (below_size uB) hn_)))); replace HB := Aside0.mk (hb); clear HO201; (try clear hb); (try clear hkp); (try clear ho0)))
  go_ret2
  exact ⟨_, uF, uR HO204.out, uB⟩
 replace c4 := Bool.eq_false_iff.mpr c4
 subst c4
 have H1 : (some (([] : List Int), 1)) = some (r1, r2) := by rw [if_neg (show ¬ (false = true) by decide)] at H; exact H
 clear H; have H := H1; clear H1
 simp only [Option.some.injEq, Prod.mk.injEq] at H
 obtain ⟨rfl, rfl⟩ := H
 go_enter Try.func38, Try.ntmps38
 go_wp2_with (first | ((with_reducible refine gate_dst (N := 8) rfl ?_); refine Kd.N_lit (Kd.slice 42 (Kd.int .u64)) _ 23 ?hg (N' := 8) ?hd (xs := ([l0, l1] : List (List Int))) (inner := [.slice A0 l0.length c0, .slice A1 l1.length c1]) (ok := (fun k_ => ((P0_ k_ ∨ P1_ k_) ∨ w.heap.size ≤ k_))) (okp := (fun k_ => ((P0_ k_ ∨ P1_ k_) ∨ w.heap.size ≤ k_))) ?hr ?hp (fun _ hk => hk) ((show ∀ k_, w.heap.size ≤ k_ → (fun k_ => ((P0_ k_ ∨ P1_ k_) ∨ w.heap.size ≤ k_)) k_ from fun k_ hk => (.inr (Nat.le_trans (below_size uB) hk))) _ (Nat.le_refl _)) (Below.refl _ _) (Nat.le_refl _) (by simp) ?_; (case hd => rfl); (case hg => rfl); (case hr => first | (go_simp; done) | (go_simp; rfl) | (go_simp; simp only [u64_u8]; done) | (go_simp; simp only [u64_u8]; rfl)); (case hp => exact (Reps.one (show Kd.FK (Kd.slice 42 (Kd.int .u64)) _ _ l0 [.slice A0 l0.length c0] from (Kd.FK_slice_mk (Kd.V_reads' (Kd.V_mono (ok' := (fun k_ => ((P0_ k_ ∨ P1_ k_) ∨ w.heap.size ≤ k_))) (HO0.out) (fun k_ hk => hk))).2.1 (Kd.V_F (Kd.V_mono (ok' := (fun k_ => ((P0_ k_ ∨ P1_ k_) ∨ w.heap.size ≤ k_))) (HO0.out) (fun k_ hk => hk))))) (Reps.one (show Kd.FK (Kd.slice 42 (Kd.int .u64)) _ _ l1 [.slice A1 l1.length c1] from (Kd.FK_slice_mk (Kd.V_reads' (Kd.V_mono (ok' := (fun k_ => ((P0_ k_ ∨ P1_ k_) ∨ w.heap.size ≤ k_))) (HO1.out) (fun k_ hk => hk))).2.1 (Kd.V_F (Kd.V_mono (ok' := (fun k_ => ((P0_ k_ ∨ P1_ k_) ∨ w.heap.size ≤ k_))) (HO1.out) (fun k_ hk => hk))))) (Reps.none _ _)))); intro v196 w13 ho14 hb hg_ hnew_; clear hg_ hnew_; (first | rw [← Ny195.out] at ho14 | (simp only [Int.reduceToNat] at ho14; rw [← Ny195.out] at ho14)); replace HO0 := Aside0.mk (Kd.V_elder' (uV HO0.out) (Kd.N_base ho14) hb); replace HO1 := Aside0.mk (Kd.V_elder' (uV HO1.out) (Kd.N_base ho14) hb); have HO197 := Aside0.mk (Kd.N_lower ho14 (below_size uB)); replace HB := uy hb; clear hb ho14; obtain ⟨Ao15, co15, eo15⟩ := Kd.N_slice HO197.out; subst eo15) | ((with_reducible refine ug 62 rfl ?_); refine uh (some 9) rfl Try.func62 #[.slice Ao15 y195.length co15] ?_; (with_reducible refine (nat_right.calls _ _ y195 false _ ?side1 ?side2 A3.out).mono ?_); (case side1 => exact uC (Kd.N_reads' HO197.out).2.2); (case side2 => exact (Kd.N_reads' HO197.out).2.1); rintro e w' ⟨rfl, ⟨nd, rfl⟩⟩; refine ⟨_, rfl, ?_⟩))
 go_ret2
 exact ⟨_, uF, uI, uB⟩
end Go.Proofs.Ytnaphgnkhhapoab.F
end
