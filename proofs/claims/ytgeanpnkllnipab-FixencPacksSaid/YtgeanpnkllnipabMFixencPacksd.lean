/- Proved: the law FixencPacks of layer 7: any two whole numbers in one, as the document says; for every input, without a condition. -/
import Derived.Test.YtgeanpnkllnipabMFixencPacksc

section
namespace Go.Proofs.Ytgeanpnkllnipab.F
open Go.RowKit Go.Proofs.YtgeanpnkllnipabW.PrintWords Go.Proofs.YtgeanpnkllnipabW.PrintLast Go.Proofs.YtgeanpnkllnipabW.PrintMore
attribute [local go_sem] max2_int min2_int max_two min_two max_three min_three max_four min_four
set_option linter.unusedVariables false
set_option linter.unusedSimpArgs false

def windbreakref03_Of.f (a0 : Int) : Option (Bool × List Int) := if a0 < 0 then ((windbreakref01_Of.f (IntKind.u64.wrap ((IntKind.u64.wrap (wrap64 (-(wrap64 (a0 + 1))))) + 1))).bind fun t798 => ((windbreakref03_From.f true t798).bind fun bt801 => (some (bt801.1, bt801.2)))) else ((windbreakref01_Of.f (IntKind.u64.wrap (a0))).bind fun t805 => ((windbreakref03_From.f false t805).bind fun bt808 => (some (bt808.1, bt808.2))))
set_option maxHeartbeats 8000000 in
set_option maxRecDepth 100000 in
theorem windbreakref03_Of.calls (a0 : Int) (r1 : Bool) (r2 : List Int) (w : World) (h : windbreakref03_Of.f a0 = some (r1, r2)) :
  Calls Try.prog 61 #[.int .i64 a0] w fun e w' => ∃ v1_ : Value, e = .returned (.agg #[.bool r1, v1_]) ∧ Kd.R (Kd.int .u64) 27 w' w.heap.size (fun _ => True) v1_ r2 ∧ Below w.heap.size w w' := by
 have hu52 := Try.underlying52
 have HB := Aside0.mk (Below.refl w.heap.size w)
 have H : (if a0 < 0 then ((windbreakref01_Of.f (IntKind.u64.wrap ((IntKind.u64.wrap (wrap64 (-(wrap64 (a0 + 1))))) + 1))).bind fun t798 => ((windbreakref03_From.f true t798).bind fun bt801 => (some (bt801.1, bt801.2)))) else ((windbreakref01_Of.f (IntKind.u64.wrap (a0))).bind fun t805 => ((windbreakref03_From.f false t805).bind fun bt808 => (some (bt808.1, bt808.2))))) = some (r1, r2) := h
 clear h
 by_cases c2 : a0 < 0
 ·
  rw [if_pos c2] at H
  have c2b0 : decide (a0 < 0) = true := decide_eq_true c2
  clear c2
  replace H := Option.bind_eq_some_iff.mp H
  obtain ⟨t798, A30, H⟩ := H
  replace H : ((windbreakref03_From.f true t798).bind fun bt801 => (some (bt801.1, bt801.2))) = some (r1, r2) := H
  have A3 := Aside0.mk A30; clear A30
  replace H := Option.bind_eq_some_iff.mp H
  obtain ⟨⟨t801, t802⟩, A40, H⟩ := H
  replace H : (some (t801, t802)) = some (r1, r2) := H
  have A4 := Aside0.mk A40; clear A40
  simp only [Option.some.injEq, Prod.mk.injEq] at H
  obtain ⟨rfl, rfl⟩ := H
  go_enter Try.func61, Try.ntmps61
  go_wp2_with (first | ((with_reducible refine gate_dst (N := 2) rfl ?_); refine box_event ?hg (N := 2) ?hd (cs := #[.bool false, .slice none 0 0]) (t := 52) ?hr ?_; (case hd => rfl); (case hg => rfl); (case hr => first | (go_simp; done) | (go_simp; rfl)); intro gb797 hg w5 hbox hb; have n0_ := Aside0.mk (below_step uB hb); have n1_ := Aside0.mk (hbox); have n2_ := Aside0.mk ((by rw [hg]; exact (below_size uB) : w.heap.size ≤ gb797)); have n3_ := Aside0.mk ((by rw [hg]; exact (below_size uB) : w.heap.size ≤ gb797)); clear HB; have HB := n0_; have BK797 := n1_; have GW797 := n2_; have GE797 := n3_; clear n0_ n1_ n2_ n3_; clear hb hbox hg) | ((with_reducible refine gate_callee (f := 94) rfl ?_); refine goesL_ (some 10) rfl rfl Try.func94 (by kernel_rfl) rfl #[.int .u64 (IntKind.u64.wrap ((IntKind.u64.wrap (wrap64 (-(wrap64 (a0 + 1))))) + 1))] rfl uM ?_; (with_reducible refine (windbreakref01_Of.calls (IntKind.u64.wrap ((IntKind.u64.wrap (wrap64 (-(wrap64 (a0 + 1))))) + 1)) t798 _ A3.out).mono ?_); rintro e w6 ⟨v799, rfl, ho0, hb⟩; refine ⟨_, rfl, ?_⟩; have n0_ := Aside0.mk (Kd.R_lower ho0 (below_size uB)); have n1_ := Aside0.mk (blk_below (uK BK797.out) hb); have n2_ := Aside0.mk (below_step uB hb); clear BK797; clear HB; have HO800 := n0_; have BK797 := n1_; have HB := n2_; clear n0_ n1_ n2_; (try clear hb); (try clear hb2); (try clear hk); (try clear hi); (try clear ho0); obtain ⟨Ao7, co7, eo7⟩ := Kd.R_slice HO800.out; subst eo7) | ((with_reducible refine gate_callee (f := 104) rfl ?_); refine goesL_ (some 11) rfl rfl Try.func104 (by kernel_rfl) rfl #[.bool true, .slice Ao7 t798.length co7] rfl uM ?_; (with_reducible refine (windbreakref03_From.calls true _ _ t798 t801 t802 _ ?side1 ?side2 A4.out).mono ?_); (case side1 => exact uC (Kd.R_reads' HO800.out).2.2); (case side2 => exact (Kd.R_reads' HO800.out).2.1); rintro e w8 ⟨v803, rfl, ho0, hb⟩; refine ⟨_, rfl, ?_⟩; have n0_ := Aside0.mk (Kd.R_elder' (uR HO800.out) (Kd.R_base ho0) hb); have n1_ := Aside0.mk (Kd.R_lower (Kd.R_new' ho0 (Kd.R_lt (uR HO800.out))) (below_size uB)); have n2_ := Aside0.mk (blk_below (uK BK797.out) hb); have n3_ := Aside0.mk (below_step uB hb); clear HO800; clear BK797; clear HB; have HO800 := n0_; have HO804 := n1_; have BK797 := n2_; have HB := n3_; clear n0_ n1_ n2_ n3_; (try clear hb); (try clear hb2); (try clear hk); (try clear hi); (try clear ho0); have hcz9_0 : w8.cell? ⟨gb797, 0, none⟩ = some (.bool false) := (blk_cell BK797.out 0).trans rfl; have hcz9_1 : w8.cell? ⟨gb797, 1, none⟩ = some (.slice none 0 0) := (blk_cell BK797.out 1).trans rfl; have hfz9_0 := blk_frozen BK797.out 0; have hfz9_1 := blk_frozen BK797.out 1; obtain ⟨Ao10, co10, eo10⟩ := Kd.R_slice HO804.out; subst eo10))
  refine bodyPost_ret (results_cell_row rfl _ _ gb797 52 #[.bool t801, .slice Ao10 t802.length co10] (0, 0) _ rfl (by (with_reducible repeat (first | refine blk_drewN ?_ _ | refine blk_drew ?_ | refine blk_alloc ?_ _)); refine blk_put (cs := #[.bool t801, .slice none 0 0]) ?_ 1 _ rfl; (with_reducible repeat (first | refine blk_drewN ?_ _ | refine blk_drew ?_ | refine blk_alloc ?_ _)); refine blk_put (cs := #[.bool false, .slice none 0 0]) ?_ 0 _ rfl; (with_reducible repeat (first | refine blk_drewN ?_ _ | refine blk_drew ?_ | refine blk_alloc ?_ _)); exact BK797.out) Try.underlying52 rfl (by kernel_rfl)) rfl ?_
  exact ⟨_, by first | rfl | (simp [errW_none, errW_some] <;> rfl) | (simp [*, errW_none, errW_some] <;> rfl), by (with_reducible repeat (first | apply Kd.R_alloc | apply Kd.R_drewN | apply Kd.R_drew)); exact Kd.R_mono (Kd.R_far (p := ⟨gb797, 1, none⟩) (Kd.R_far (p := ⟨gb797, 0, none⟩) (Kd.R_types HO804.out BK797.out (by decide)) (fun _ hk => hk.2) (.bool t801)) (fun _ hk => hk.2) (.slice Ao10 t802.length co10)) (fun _ hk => trivial), uB⟩
 ·
  rw [if_neg c2] at H
  have c2b0 : decide (a0 < 0) = false := decide_eq_false c2
  clear c2
  replace H := Option.bind_eq_some_iff.mp H
  obtain ⟨t805, A110, H⟩ := H
  replace H : ((windbreakref03_From.f false t805).bind fun bt808 => (some (bt808.1, bt808.2))) = some (r1, r2) := H
  have A11 := Aside0.mk A110; clear A110
  replace H := Option.bind_eq_some_iff.mp H
  obtain ⟨⟨t808, t809⟩, A120, H⟩ := H
  replace H : (some (t808, t809)) = some (r1, r2) := H
  have A12 := Aside0.mk A120; clear A120
  simp only [Option.some.injEq, Prod.mk.injEq] at H
  obtain ⟨rfl, rfl⟩ := H
  go_enter Try.func61, Try.ntmps61
  go_wp2_with (first | ((with_reducible refine gate_dst (N := 2) rfl ?_); refine box_event ?hg (N := 2) ?hd (cs := #[.bool false, .slice none 0 0]) (t := 52) ?hr ?_; (case hd => rfl); (case hg => rfl); (case hr => first | (go_simp; done) | (go_simp; rfl)); intro gb797 hg w13 hbox hb; have n0_ := Aside0.mk (below_step uB hb); have n1_ := Aside0.mk (hbox); have n2_ := Aside0.mk ((by rw [hg]; exact (below_size uB) : w.heap.size ≤ gb797)); have n3_ := Aside0.mk ((by rw [hg]; exact (below_size uB) : w.heap.size ≤ gb797)); clear HB; have HB := n0_; have BK797 := n1_; have GW797 := n2_; have GE797 := n3_; clear n0_ n1_ n2_ n3_; clear hb hbox hg) | ((with_reducible refine gate_callee (f := 94) rfl ?_); refine goesL_ (some 14) rfl rfl Try.func94 (by kernel_rfl) rfl #[.int .u64 (IntKind.u64.wrap (a0))] rfl uM ?_; (with_reducible refine (windbreakref01_Of.calls (IntKind.u64.wrap (a0)) t805 _ A11.out).mono ?_); rintro e w14 ⟨v806, rfl, ho0, hb⟩; refine ⟨_, rfl, ?_⟩; have n0_ := Aside0.mk (Kd.R_lower ho0 (below_size uB)); have n1_ := Aside0.mk (blk_below (uK BK797.out) hb); have n2_ := Aside0.mk (below_step uB hb); clear BK797; clear HB; have HO807 := n0_; have BK797 := n1_; have HB := n2_; clear n0_ n1_ n2_; (try clear hb); (try clear hb2); (try clear hk); (try clear hi); (try clear ho0); obtain ⟨Ao15, co15, eo15⟩ := Kd.R_slice HO807.out; subst eo15) | ((with_reducible refine gate_callee (f := 104) rfl ?_); refine goesL_ (some 15) rfl rfl Try.func104 (by kernel_rfl) rfl #[.bool false, .slice Ao15 t805.length co15] rfl uM ?_; (with_reducible refine (windbreakref03_From.calls false _ _ t805 t808 t809 _ ?side1 ?side2 A12.out).mono ?_); (case side1 => exact uC (Kd.R_reads' HO807.out).2.2); (case side2 => exact (Kd.R_reads' HO807.out).2.1); rintro e w16 ⟨v810, rfl, ho0, hb⟩; refine ⟨_, rfl, ?_⟩; have n0_ := Aside0.mk (Kd.R_elder' (uR HO807.out) (Kd.R_base ho0) hb); have n1_ := Aside0.mk (Kd.R_lower (Kd.R_new' ho0 (Kd.R_lt (uR HO807.out))) (below_size uB)); have n2_ := Aside0.mk (blk_below (uK BK797.out) hb); have n3_ := Aside0.mk (below_step uB hb); clear HO807; clear BK797; clear HB; have HO807 := n0_; have HO811 := n1_; have BK797 := n2_; have HB := n3_; clear n0_ n1_ n2_ n3_; (try clear hb); (try clear hb2); (try clear hk); (try clear hi); (try clear ho0); have hcz17_0 : w16.cell? ⟨gb797, 0, none⟩ = some (.bool false) := (blk_cell BK797.out 0).trans rfl; have hcz17_1 : w16.cell? ⟨gb797, 1, none⟩ = some (.slice none 0 0) := (blk_cell BK797.out 1).trans rfl; have hfz17_0 := blk_frozen BK797.out 0; have hfz17_1 := blk_frozen BK797.out 1; obtain ⟨Ao18, co18, eo18⟩ := Kd.R_slice HO811.out; subst eo18))
  refine bodyPost_ret (results_cell_row rfl _ _ gb797 52 #[.bool t808, .slice Ao18 t809.length co18] (0, 0) _ rfl (by (with_reducible repeat (first | refine blk_drewN ?_ _ | refine blk_drew ?_ | refine blk_alloc ?_ _)); refine blk_put (cs := #[.bool t808, .slice none 0 0]) ?_ 1 _ rfl; (with_reducible repeat (first | refine blk_drewN ?_ _ | refine blk_drew ?_ | refine blk_alloc ?_ _)); refine blk_put (cs := #[.bool false, .slice none 0 0]) ?_ 0 _ rfl; (with_reducible repeat (first | refine blk_drewN ?_ _ | refine blk_drew ?_ | refine blk_alloc ?_ _)); exact BK797.out) Try.underlying52 rfl (by kernel_rfl)) rfl ?_
  exact ⟨_, by first | rfl | (simp [errW_none, errW_some] <;> rfl) | (simp [*, errW_none, errW_some] <;> rfl), by (with_reducible repeat (first | apply Kd.R_alloc | apply Kd.R_drewN | apply Kd.R_drew)); exact Kd.R_mono (Kd.R_far (p := ⟨gb797, 1, none⟩) (Kd.R_far (p := ⟨gb797, 0, none⟩) (Kd.R_types HO811.out BK797.out (by decide)) (fun _ hk => hk.2) (.bool t808)) (fun _ hk => hk.2) (.slice Ao18 t809.length co18)) (fun _ hk => trivial), uB⟩

end Go.Proofs.Ytgeanpnkllnipab.F
end

section
namespace Go.Proofs.Ytgeanpnkllnipab.F
open Go.RowKit Go.Proofs.YtgeanpnkllnipabW.PrintWords Go.Proofs.YtgeanpnkllnipabW.PrintLast Go.Proofs.YtgeanpnkllnipabW.PrintMore
attribute [local go_sem] max2_int min2_int max_two min_two max_three min_three max_four min_four
set_option linter.unusedVariables false
set_option linter.unusedSimpArgs false

mutual
def windbreakref01_Out.l0 : Nat → List Int → List Int → Int → Option (List Int × Bool)
 | 0, _, _, _ => none
 | k + 1, x0, x4, x5 => if x5 < (x0.length : Int) then (windbreakref01_Out.l1 k x0 x4 x5 0 3) else (some (x4, decide ((x4.length : Int) ≤ 64)))
def windbreakref01_Out.l1 : Nat → List Int → List Int → Int → Int → Int → Option (List Int × Bool)
 | 0, _, _, _, _, _ => none
 | k + 1, x0, x4, x5, x6, x7 => if x7 ≥ 0 then (if (wrap64 (x5 + x7)) < (x0.length : Int) then (if 0 ≤ (wrap64 (x5 + x7)) then (windbreakref01_Out.l1 k x0 x4 x5 (IntKind.u64.wrap ((IntKind.u64.wrap (x6 * 65536)) + (rd x0 (wrap64 (x5 + x7))))) (wrap64 (x7 - 1))) else (none)) else (windbreakref01_Out.l1 k x0 x4 x5 (IntKind.u64.wrap (x6 * 65536)) (wrap64 (x7 - 1)))) else (if x4.length < 17592186044416 then (windbreakref01_Out.l0 k x0 (x4 ++ [x6]) (wrap64 (x5 + 4))) else (none))
end
def windbreakref01_Out.f (k : Nat) (l0 : List Int) : Option (List Int × Bool) := windbreakref01_Out.l0 k l0 ([] : List Int) 0
set_option maxHeartbeats 8000000 in
set_option maxRecDepth 100000 in
theorem windbreakref01_Out.calls (k : Nat) (A0 : Option Addr) (c0 : Nat) (l0 : List Int) (r1 : List Int) (r2 : Bool) (w : World) (hr0 : Kd.C (Kd.int .u64) w A0 l0.length l0) (hc0 : l0.length ≤ c0) (h : windbreakref01_Out.f k l0 = some (r1, r2)) :
  Calls Try.prog 97 #[.slice A0 l0.length c0] w fun e w' => ∃ v0_ : Value, e = .returned (.tuple #[v0_, .bool r2]) ∧ Kd.R (Kd.int .u64) 27 w' w.heap.size (fun _ => True) v0_ r1 ∧ Below w.heap.size w w' := by
 have HR0 := Aside0.mk hr0; have HC0 := Aside0.mk hc0; clear hr0 hc0
 have HB := Aside0.mk (Below.refl w.heap.size w)
 have H : (windbreakref01_Out.l0 k l0 ([] : List Int) 0) = some (r1, r2) := h
 clear h
 have H' := Aside0.mk H
 clear H
 go_enter Try.func97, Try.ntmps97
 go_wp2
 go_loopg [4, 5] k (fun kq v4 v5 w' => ∃ (x4_1 : List Int) (x5_1 : Int), v5 = .int .i64 x5_1 ∧ Aside0 (windbreakref01_Out.l0 kq l0 x4_1 x5_1 = some (r1, r2)) ∧ Aside0 (kq ≤ k) ∧ Aside0 (Kd.R (Kd.int .u64) 27 w' w.heap.size (fun _ => True) v4 x4_1) ∧ Aside0 (Below w.heap.size w w'))
 case atStart => exact ⟨(([] : List Int)), (0), (by first | rfl | (simp; done) | (simp [*]; done)), H', ⟨Nat.le_refl _⟩, ⟨by first | exact Kd.R_nil _ _ _ _ _ | exact Kd.N_nil _ _ _ _ _ | exact Kd.V_nil _ _ _ _ _ | exact Kd.Q_nil _ _ _ _ _ | exact Kd.S_nil _ _ _ _ _⟩, ⟨uB⟩⟩
 case round =>
  clear H'
  obtain ⟨x4_1, x5_1, rfl, HA, HK1, HO_4, HB⟩ := hrel
  cases gk with
  | zero => exact absurd HA.out (by simp [windbreakref01_Out.l0])
  | succ k1 =>
   have H := HA.out
   clear HA
   simp only [windbreakref01_Out.l0] at H
   by_cases c2 : x5_1 < (l0.length : Int)
   ·
    rw [if_pos c2] at H
    have c2b0 : decide (x5_1 < (l0.length : Int)) = true := decide_eq_true c2
    clear c2
    have H' := Aside0.mk H
    clear H
    go_wp2
    go_loopg [6, 7] k1 (fun kq v6 v7 w' => ∃ (x6_2 : Int) (x7_2 : Int), v6 = .int .u64 x6_2 ∧ v7 = .int .i64 x7_2 ∧ Aside0 (windbreakref01_Out.l1 kq l0 x4_1 x5_1 x6_2 x7_2 = some (r1, r2)) ∧ Aside0 (kq ≤ k1) ∧ Aside0 (Kd.R (Kd.int .u64) 27 w' w.heap.size (fun _ => True) u4 x4_1) ∧ Aside0 (Below w.heap.size w w'))
    case atStart => exact ⟨(0), (3), (by first | rfl | (simp; done) | (simp [*]; done)), (by first | rfl | (simp; done) | (simp [*]; done)), H', ⟨Nat.le_refl _⟩, ⟨uR HO_4.out⟩, ⟨uB⟩⟩
    case round =>
     clear H'
     try clear c2
     try clear c2b0
     try clear p2
     obtain ⟨x6_2, x7_2, rfl, rfl, HA, HK2, HO_4, HB⟩ := hrel
     cases gk with
     | zero => exact absurd HA.out (by simp [windbreakref01_Out.l1])
     | succ k2 =>
      have H := HA.out
      clear HA
      simp only [windbreakref01_Out.l1] at H
      by_cases c3 : x7_2 ≥ 0
      ·
       rw [if_pos c3] at H
       have c3b0 : decide (0 ≤ x7_2) = true := decide_eq_true c3
       clear c3
       by_cases c4 : (wrap64 (x5_1 + x7_2)) < (l0.length : Int)
       ·
        rw [if_pos c4] at H
        have c4b0 : decide ((wrap64 (x5_1 + x7_2)) < (l0.length : Int)) = true := decide_eq_true c4
        clear c4
        obtain ⟨ji5, hji5⟩ : ∃ j_ : Int, (wrap64 (x5_1 + x7_2)) = j_ := ⟨_, rfl⟩
        replace H : (if 0 ≤ (ji5) then (windbreakref01_Out.l1 k2 l0 x4_1 x5_1 (IntKind.u64.wrap ((IntKind.u64.wrap (x6_2 * 65536)) + (rd l0 (ji5)))) (wrap64 (x7_2 - 1))) else (none)) = some (r1, r2) := by first | (rw [hji5] at H; exact H) | (simp only [hji5] at H ⊢; exact H)
        (try rw [hji5] at c4b0)
        have hji5w : (IntKind.i64.wrap (x5_1 + x7_2)) = ji5 := (i64_w _).trans hji5
        by_cases c6 : 0 ≤ (ji5)
        ·
         rw [if_pos c6] at H
         have c6b0 : decide (0 ≤ (ji5)) = true := decide_eq_true c6
         clear c6
         have H' := Aside0.mk H
         clear H
         have p345 : 0 ≤ ((ji5) : Int) := of_decide_eq_true (by first | (with_reducible assumption) | assumption)
         have q345 : (ji5) < (l0.length : Int) := of_decide_eq_true (by first | (with_reducible assumption) | assumption)
         obtain ⟨ad345, e345, hx345_0⟩ := Kd.at_int HR0.out (ji5) p345 q345
         cases e345
         replace hx345_0 := (HB.out.cell (World.block_lt_of_cell? w _ hx345_0)).trans hx345_0
         replace p345 := eq_true p345
         replace q345 := eq_true q345
         go_wp2
         first | go_roundg k2 | ((try simp only [← hji5] at H'); simp only [← hji5]; go_roundg k2)
         case measure => have := HK1.out; have := HK2.out; omega
         case rel => first | exact ⟨(IntKind.u64.wrap ((IntKind.u64.wrap (x6_2 * 65536)) + (rd l0 (ji5)))), (wrap64 (x7_2 - 1)), (by first | rfl | (simp; done) | (simp only [← hji5] <;> (first | rfl | simp)) | (simp [*]; done)), (by first | rfl | (simp; done) | (simp [*]; done)), H', ⟨by have := HK1.out; have := HK2.out; omega⟩, ⟨uR HO_4.out⟩, ⟨uB⟩⟩ | (simp only [← hji5] at H'; exact ⟨(IntKind.u64.wrap ((IntKind.u64.wrap (x6_2 * 65536)) + (rd l0 (ji5)))), (wrap64 (x7_2 - 1)), (by first | rfl | (simp; done) | (simp only [← hji5] <;> (first | rfl | simp)) | (simp [*]; done)), (by first | rfl | (simp; done) | (simp [*]; done)), H', ⟨by have := HK1.out; have := HK2.out; omega⟩, ⟨uR HO_4.out⟩, ⟨uB⟩⟩)
        ·
         rw [if_neg c6] at H
         exact absurd H (by simp)
       ·
        rw [if_neg c4] at H
        have c4b0 : decide ((wrap64 (x5_1 + x7_2)) < (l0.length : Int)) = false := decide_eq_false c4
        clear c4
        have H' := Aside0.mk H
        clear H
        go_wp2
        first | go_roundg k2 | ((try simp only [← hji5] at H'); simp only [← hji5]; go_roundg k2)
        case measure => have := HK1.out; have := HK2.out; omega
        case rel => first | exact ⟨(IntKind.u64.wrap (x6_2 * 65536)), (wrap64 (x7_2 - 1)), (by first | rfl | (simp; done) | (simp [*]; done)), (by first | rfl | (simp; done) | (simp [*]; done)), H', ⟨by have := HK1.out; have := HK2.out; omega⟩, ⟨uR HO_4.out⟩, ⟨uB⟩⟩ | (simp only [← hji5] at H'; exact ⟨(IntKind.u64.wrap (x6_2 * 65536)), (wrap64 (x7_2 - 1)), (by first | rfl | (simp; done) | (simp [*]; done)), (by first | rfl | (simp; done) | (simp [*]; done)), H', ⟨by have := HK1.out; have := HK2.out; omega⟩, ⟨uR HO_4.out⟩, ⟨uB⟩⟩)
      ·
       rw [if_neg c3] at H
       have c3b0 : decide (0 ≤ x7_2) = false := decide_eq_false c3
       clear c3
       by_cases c7 : x4_1.length < 17592186044416
       ·
        rw [if_pos c7] at H
        have LMc7 := Aside0.mk c7; clear c7
        obtain ⟨y346, hy346⟩ : ∃ y_ : List Int, y_ = (x4_1 ++ [x6_2]) := ⟨_, rfl⟩
        replace H : (windbreakref01_Out.l0 k2 l0 y346 (wrap64 (x5_1 + 4))) = some (r1, r2) := by first | (rw [hy346]; with_reducible exact H) | (have H2_ := (Option.bind_some _ _).symm.trans H; rw [hy346]; with_reducible exact H2_) | (have H2_ := (Option.bind_some _ _).symm.trans H; with_reducible exact H2_) | with_reducible exact H | (rw [hy346]; exact H) | exact H
        have Ny346 := Aside0.mk hy346; clear hy346
        have H' := Aside0.mk H
        clear H
        go_wp2_with (first | ((with_reducible refine gate_builtin (b := .append) (xs := #[.tmp 34, .tmp 36]) rfl ?_); at_builtin; refine Kd.R_append (Kd.int .u64) (w0 := w) w.heap.size rfl (.tmp 34) (.tmp 36) 23 27 (.int .u64 0) 8 rfl Try.underlying23 info27 rfl (by decide) (by omega) u4 x4_1 x6_2 [.int .u64 x6_2] (fun _ => True) (fun _ => False) rfl rfl ?aP (fun _ hk => hk.elim) ?aF ?aO ?aB ?aS ?aL ?_; (case aP => exact rfl); (case aB => exact uB); (case aF => exact (fun _ _ => trivial)); (case aO => exact (uR HO_4.out)); (case aS => exact (below_size uB)); (case aL => have := LMc7.out; omega); intro v347 w8 ho hb hg hat; rw [← Ny346.out] at ho; have n0_ := Aside0.mk (hb); have n1_ := Aside0.mk (ho); clear HB; clear HO_4; have HB := n0_; have HO348 := n1_; clear n0_ n1_; clear ho hb hg hat))
        first | go_roundg k2 | ((try simp only [← hji5] at H'); simp only [← hji5]; go_roundg k2)
        case measure => have := HK1.out; have := HK2.out; omega
        case rel => first | exact ⟨(y346), (wrap64 (x5_1 + 4)), (by first | rfl | (simp; done) | (simp [*]; done)), H', ⟨by have := HK1.out; have := HK2.out; omega⟩, ⟨uR HO348.out⟩, ⟨uB⟩⟩ | (simp only [← hji5] at H'; exact ⟨(y346), (wrap64 (x5_1 + 4)), (by first | rfl | (simp; done) | (simp [*]; done)), H', ⟨by have := HK1.out; have := HK2.out; omega⟩, ⟨uR HO348.out⟩, ⟨uB⟩⟩)
       ·
        rw [if_neg c7] at H
        exact absurd H (by simp)
   ·
    rw [if_neg c2] at H
    have c2b0 : decide (x5_1 < (l0.length : Int)) = false := decide_eq_false c2
    clear c2
    simp only [Option.some.injEq, Prod.mk.injEq] at H
    obtain ⟨rfl, rfl⟩ := H
    obtain ⟨Ao9, co9, eo9⟩ := Kd.R_slice HO_4.out
    subst eo9
    go_wp2
    go_ret2
    exact ⟨_, by first | rfl | (simp [errW_none, errW_some] <;> rfl) | (simp [*, errW_none, errW_some] <;> rfl), uR HO_4.out, uB⟩

end Go.Proofs.Ytgeanpnkllnipab.F
end

section
namespace Go.Proofs.Ytgeanpnkllnipab.F
open Go.RowKit Go.Proofs.YtgeanpnkllnipabW.PrintWords Go.Proofs.YtgeanpnkllnipabW.PrintLast Go.Proofs.YtgeanpnkllnipabW.PrintMore
attribute [local go_sem] max2_int min2_int max_two min_two max_three min_three max_four min_four
set_option linter.unusedVariables false
set_option linter.unusedSimpArgs false

def windbreakref01_told.f (k : Nat) (l0 : List Int) : Option (List Int × Int) := (windbreakref01_Out.f k l0).bind fun bt349 => (if bt349.2 = true then (some (bt349.1, 0)) else (some (([] : List Int), 4)))
set_option maxHeartbeats 8000000 in
set_option maxRecDepth 100000 in
theorem windbreakref01_told.calls (k : Nat) (A0 : Option Addr) (c0 : Nat) (l0 : List Int) (r1 : List Int) (r2 : Int) (w : World) (hr0 : Kd.C (Kd.int .u64) w A0 l0.length l0) (hc0 : l0.length ≤ c0) (h : windbreakref01_told.f k l0 = some (r1, r2)) :
  Calls Try.prog 52 #[.slice A0 l0.length c0] w fun e w' => ∃ v0_ : Value, e = .returned (.tuple #[v0_, .int .i64 r2]) ∧ Kd.R (Kd.int .u64) 27 w' w.heap.size (fun _ => True) v0_ r1 ∧ Below w.heap.size w w' := by
 have HR0 := Aside0.mk hr0; have HC0 := Aside0.mk hc0; clear hr0 hc0
 have HB := Aside0.mk (Below.refl w.heap.size w)
 have H : ((windbreakref01_Out.f k l0).bind fun bt349 => (if bt349.2 = true then (some (bt349.1, 0)) else (some (([] : List Int), 4)))) = some (r1, r2) := h
 clear h
 replace H := Option.bind_eq_some_iff.mp H
 obtain ⟨⟨t349, t350⟩, A20, H⟩ := H
 replace H : (if t350 = true then (some (t349, 0)) else (some (([] : List Int), 4))) = some (r1, r2) := H
 have A2 := Aside0.mk A20; clear A20
 by_cases c3 : t350 = true
 ·
  subst c3
  have H1 : (some (t349, 0)) = some (r1, r2) := by rw [if_pos rfl] at H; exact H
  clear H; have H := H1; clear H1
  simp only [Option.some.injEq, Prod.mk.injEq] at H
  obtain ⟨rfl, rfl⟩ := H
  go_enter Try.func52, Try.ntmps52
  go_wp2_with (first | ((with_reducible refine gate_callee (f := 97) rfl ?_); refine goesL_ (some 8) rfl rfl Try.func97 (by kernel_rfl) rfl #[.slice A0 l0.length c0] rfl uM ?_; (with_reducible refine (windbreakref01_Out.calls k _ _ l0 t349 true _ ?side1 ?side2 A2.out).mono ?_); (case side1 => exact uC HR0.out); (case side2 => exact HC0.out); rintro e w4 ⟨v351, rfl, ho0, hb⟩; refine ⟨_, rfl, ?_⟩; have n0_ := Aside0.mk (Kd.R_lower ho0 (below_size uB)); have n1_ := Aside0.mk (below_step uB hb); clear HB; have HO352 := n0_; have HB := n1_; clear n0_ n1_; (try clear hb); (try clear hb2); (try clear hk); (try clear hi); (try clear ho0)))
  go_ret2
  exact ⟨_, by first | rfl | (simp [errW_none, errW_some] <;> rfl) | (simp [*, errW_none, errW_some] <;> rfl), uR HO352.out, uB⟩
 ·
  replace c3 := Bool.eq_false_iff.mpr c3
  subst c3
  have H1 : (some (([] : List Int), 4)) = some (r1, r2) := by rw [if_neg (show ¬ (false = true) by decide)] at H; exact H
  clear H; have H := H1; clear H1
  simp only [Option.some.injEq, Prod.mk.injEq] at H
  obtain ⟨rfl, rfl⟩ := H
  go_enter Try.func52, Try.ntmps52
  go_wp2_with (first | ((with_reducible refine gate_callee (f := 97) rfl ?_); refine goesL_ (some 8) rfl rfl Try.func97 (by kernel_rfl) rfl #[.slice A0 l0.length c0] rfl uM ?_; (with_reducible refine (windbreakref01_Out.calls k _ _ l0 t349 false _ ?side1 ?side2 A2.out).mono ?_); (case side1 => exact uC HR0.out); (case side2 => exact HC0.out); rintro e w5 ⟨v351, rfl, ho0, hb⟩; refine ⟨_, rfl, ?_⟩; have n0_ := Aside0.mk (Kd.R_lower ho0 (below_size uB)); have n1_ := Aside0.mk (below_step uB hb); clear HB; have HO352 := n0_; have HB := n1_; clear n0_ n1_; (try clear hb); (try clear hb2); (try clear hk); (try clear hi); (try clear ho0)))
  go_ret2
  exact ⟨_, by first | rfl | (simp [errW_none, errW_some] <;> rfl) | (simp [*, errW_none, errW_some] <;> rfl), by first | exact Kd.R_nil _ _ _ _ _ | exact Kd.N_nil _ _ _ _ _ | exact Kd.V_nil _ _ _ _ _ | exact Kd.Q_nil _ _ _ _ _ | exact Kd.S_nil _ _ _ _ _, uB⟩

end Go.Proofs.Ytgeanpnkllnipab.F
end

section
namespace Go.Proofs.Ytgeanpnkllnipab.F
open Go.RowKit Go.Proofs.YtgeanpnkllnipabW.PrintWords Go.Proofs.YtgeanpnkllnipabW.PrintLast Go.Proofs.YtgeanpnkllnipabW.PrintMore
attribute [local go_sem] max2_int min2_int max_two min_two max_three min_three max_four min_four
set_option linter.unusedVariables false
set_option linter.unusedSimpArgs false

def windbreakref01_power.l0 : Nat → Int → List Int → Int → Option (List Int)
 | 0, _, _, _ => none
 | k + 1, x0, x3, x4 => if x4 < (Int.tmod x0 16) then (if 0 ≤ (wrap64 (Int.tdiv x0 16)) then (if (wrap64 (Int.tdiv x0 16)) < (x3.length : Int) then (windbreakref01_power.l0 k x0 (x3.set ((wrap64 (Int.tdiv x0 16)) : Int).toNat (IntKind.u64.wrap ((rd x3 (wrap64 (Int.tdiv x0 16))) * 2))) (wrap64 (x4 + 1))) else (none)) else (none)) else (some x3)
def windbreakref01_power.f (k : Nat) (a0 : Int) : Option (List Int) := if 0 ≤ (wrap64 ((wrap64 (Int.tdiv a0 16)) + 1)) then (if (wrap64 ((wrap64 (Int.tdiv a0 16)) + 1) : Int).toNat ≤ 35184372088832 then ((some (List.replicate (wrap64 ((wrap64 (Int.tdiv a0 16)) + 1) : Int).toNat 0 : List Int)).bind fun y380 => (if 0 ≤ (wrap64 (Int.tdiv a0 16)) then (if (wrap64 (Int.tdiv a0 16)) < (y380.length : Int) then (windbreakref01_power.l0 k a0 (y380.set ((wrap64 (Int.tdiv a0 16)) : Int).toNat 1) 0) else (none)) else (none))) else (none)) else (none)
set_option maxHeartbeats 8000000 in
set_option maxRecDepth 100000 in
theorem windbreakref01_power.calls (k : Nat) (a0 : Int) (r : List Int) (w : World) (h : windbreakref01_power.f k a0 = some r) :
  Calls Try.prog 92 #[.int .i64 a0] w fun e w' => ∃ v0_ : Value, e = .returned (v0_) ∧ Kd.R (Kd.int .u64) 27 w' w.heap.size (fun _ => True) v0_ r ∧ Below w.heap.size w w' := by
 have HB := Aside0.mk (Below.refl w.heap.size w)
 have H : (if 0 ≤ (wrap64 ((wrap64 (Int.tdiv a0 16)) + 1)) then (if (wrap64 ((wrap64 (Int.tdiv a0 16)) + 1) : Int).toNat ≤ 35184372088832 then ((some (List.replicate (wrap64 ((wrap64 (Int.tdiv a0 16)) + 1) : Int).toNat 0 : List Int)).bind fun y380 => (if 0 ≤ (wrap64 (Int.tdiv a0 16)) then (if (wrap64 (Int.tdiv a0 16)) < (y380.length : Int) then (windbreakref01_power.l0 k a0 (y380.set ((wrap64 (Int.tdiv a0 16)) : Int).toNat 1) 0) else (none)) else (none))) else (none)) else (none)) = some r := h
 clear h
 obtain ⟨ji2, hji2⟩ : ∃ j_ : Int, (wrap64 ((wrap64 (Int.tdiv a0 16)) + 1)) = j_ := ⟨_, rfl⟩
 replace H : (if 0 ≤ (ji2) then (if (ji2 : Int).toNat ≤ 35184372088832 then ((some (List.replicate (ji2 : Int).toNat 0 : List Int)).bind fun y380 => (if 0 ≤ (wrap64 (Int.tdiv a0 16)) then (if (wrap64 (Int.tdiv a0 16)) < (y380.length : Int) then (windbreakref01_power.l0 k a0 (y380.set ((wrap64 (Int.tdiv a0 16)) : Int).toNat 1) 0) else (none)) else (none))) else (none)) else (none)) = some r := by first | (rw [hji2] at H; exact H) | (simp only [hji2] at H ⊢; exact H)
 have hji2w : (IntKind.i64.wrap ((wrap64 (Int.tdiv a0 16)) + 1)) = ji2 := (i64_w _).trans hji2
 by_cases c3 : 0 ≤ (ji2)
 ·
  rw [if_pos c3] at H
  have c3b0 := eq_true c3
  have c3b1 : decide (0 ≤ (ji2)) = true := decide_eq_true c3
  clear c3
  by_cases c4 : (ji2 : Int).toNat ≤ 35184372088832
  ·
   rw [if_pos c4] at H
   have c4b0 := eq_true c4
   have c4b1 : decide ((ji2 : Int).toNat ≤ 35184372088832) = true := decide_eq_true c4
   clear c4
   obtain ⟨y380, hy380⟩ : ∃ y_ : List Int, y_ = (List.replicate (ji2 : Int).toNat 0) := ⟨_, rfl⟩
   replace H : (if 0 ≤ (wrap64 (Int.tdiv a0 16)) then (if (wrap64 (Int.tdiv a0 16)) < (y380.length : Int) then (windbreakref01_power.l0 k a0 (y380.set ((wrap64 (Int.tdiv a0 16)) : Int).toNat 1) 0) else (none)) else (none)) = some r := by first | (rw [hy380]; with_reducible exact H) | (have H2_ := (Option.bind_some _ _).symm.trans H; rw [hy380]; with_reducible exact H2_) | (have H2_ := (Option.bind_some _ _).symm.trans H; with_reducible exact H2_) | with_reducible exact H | (rw [hy380]; exact H) | exact H
   have Ny380 := Aside0.mk hy380; clear hy380
   obtain ⟨ji5, hji5⟩ : ∃ j_ : Int, (wrap64 (Int.tdiv a0 16)) = j_ := ⟨_, rfl⟩
   replace H : (if 0 ≤ (ji5) then (if (ji5) < (y380.length : Int) then (windbreakref01_power.l0 k a0 (y380.set ((ji5) : Int).toNat 1) 0) else (none)) else (none)) = some r := by first | (rw [hji5] at H; exact H) | (simp only [hji5] at H ⊢; exact H)
   have hji5w : (IntKind.i64.wrap (Int.tdiv a0 16)) = ji5 := (i64_w _).trans hji5
   (try simp only [hji5] at hji2)
   (try simp only [hji5] at hji2w)
   by_cases c6 : 0 ≤ (ji5)
   ·
    rw [if_pos c6] at H
    have c6b0 : decide (0 ≤ (ji5)) = true := decide_eq_true c6
    clear c6
    by_cases c7 : (ji5) < (y380.length : Int)
    ·
     rw [if_pos c7] at H
     have c7b0 : decide ((ji5) < (y380.length : Int)) = true := decide_eq_true c7
     clear c7
     obtain ⟨y383, hy383⟩ : ∃ y_ : List Int, y_ = (y380.set ((ji5) : Int).toNat 1) := ⟨_, rfl⟩
     replace H : (windbreakref01_power.l0 k a0 y383 0) = some r := by first | (rw [hy383]; with_reducible exact H) | (have H2_ := (Option.bind_some _ _).symm.trans H; rw [hy383]; with_reducible exact H2_) | (have H2_ := (Option.bind_some _ _).symm.trans H; with_reducible exact H2_) | with_reducible exact H | (rw [hy383]; exact H) | exact H
     have Ny383 := Aside0.mk hy383; clear hy383
     have H' := Aside0.mk H
     clear H
     go_enter Try.func92, Try.ntmps92
     go_wp2_with (first | ((with_reducible refine gate_dst (N := 8) rfl ?_); refine Kd.R_make (Kd.int .u64) _ 27 rfl (N := 8) rfl 70 _ _ rfl ji2 rfl rfl Try.underlying70 (.int .u64 0) 8 info27 rfl (by decide) (by omega) 0 (ok := fun _ => True) (okp := fun _ => True) rfl (fun _ hk => hk) trivial (of_decide_eq_true (by first | (with_reducible assumption) | assumption)) (Nat.le_trans (Nat.mul_le_mul_right _ (of_decide_eq_true (by first | (with_reducible assumption) | assumption) : ji2.toNat ≤ 35184372088832)) (by omega)) (Below.refl _ _) (Nat.le_refl _) ?_; intro v381 w9 ho10 hb hg_ hnew_; clear hg_ hnew_; (first | rw [← Ny380.out] at ho10 | (simp only [Int.reduceToNat] at ho10; rw [← Ny380.out] at ho10)); have n0_ := Aside0.mk (Kd.R_lower ho10 (below_size uB)); have n1_ := Aside0.mk (below_step uB hb); clear HB; have HO382 := n0_; have HB := n1_; clear n0_ n1_; clear hb ho10; have p8 : 0 ≤ ((ji5) : Int) := of_decide_eq_true (by first | (with_reducible assumption) | assumption); have q8 : ((ji5) : Int) < ((y380.length : Int) : Int) := of_decide_eq_true (by first | (with_reducible assumption) | assumption); obtain ⟨go8, co8, eo8, gb8, gl8, cl8, HG8⟩ := Kd.R_form HO382.out (by omega); (first | cases eo8 | (injection eo8 with ea_ en_ ec_; (first | subst ea_ | (injection ea_ with ea_; subst ea_)); subst ec_; clear en_)); have GB8 := Aside0.mk gb8; have GG8 := Aside0.mk HG8; clear gb8 gl8 HG8; obtain ⟨hx8_0, hf8_0⟩ := Kd.R_celln 0 HO382.out ((ji5) : Int) p8 q8; replace p8 := eq_true p8; replace q8 := eq_true q8; obtain ⟨hy11_, hz11_⟩ := Kd.R_celln 0 HO382.out ((ji5) : Int) (of_decide_eq_true (by first | (with_reducible assumption) | assumption)) (of_decide_eq_true (by first | (with_reducible assumption) | assumption)); have HP11 := Kd.R_putg HO382.out ((ji5) : Int) 1) | ((with_reducible refine gate_store (t := 27) (p := 12) rfl ?_); refine store_event (t := 27) (p := 12) (v := ?vo_w12) (w1 := (w9.setCell ⟨go8, ((ji5) : Int).toNat, none⟩ (.int .u64 1))) ?hg ?ho ?hn ?hr ?_; (case ho => rfl); (case hg => rfl); (case hn => rfl); (case hr => first | (go_simp; done) | (go_simp; rfl) | (obtain ⟨hy_, hz_⟩ := Kd.R_celln 0 HO382.out ((ji5) : Int) (of_decide_eq_true (by first | (with_reducible assumption) | assumption)) (of_decide_eq_true (by first | (with_reducible assumption) | assumption)); (try simp only [Go.IntWalk.toNatUp] at hy_ hz_); (try simp only [Int.reduceToNat, Int.toNat_zero, Int.toNat_ofNat] at hy_ hz_); first | (go_simp; done) | (go_simp; rfl))); intro w12 hw; have hg : w9.grownBy w12 (some go8) := (by rw [hw]; exact HP11.2); have hp_ : Kd.R (Kd.int .u64) 27 w12 w.heap.size (fun _ => True) (.slice (some ⟨go8, 0, none⟩) y380.length co8) y383 := (by rw [hw, Ny383.out]; exact HP11.1); clear HP11; have n0_ := Aside0.mk (hp_); have n1_ := Aside0.mk ((by rw [hw]; exact below_set (HB.out) GB8.out : Below w.heap.size w w12)); clear HO382; clear HB; have HO382 := n0_; have HB := n1_; clear n0_ n1_; clear hg hw hp_))
     go_loopg [4] k (fun kq v4 w' => ∃ (x3_1 : List Int) (x4_1 : Int), v4 = .int .i64 x4_1 ∧ Aside0 (windbreakref01_power.l0 kq a0 x3_1 x4_1 = some r) ∧ Aside0 (kq ≤ k) ∧ Aside0 (Kd.R (Kd.int .u64) 27 w' w.heap.size (fun _ => True) (.slice (some ⟨go8, 0, none⟩) y380.length co8) x3_1) ∧ Aside0 (Below w.heap.size w w'))
     case atStart => exact ⟨(y383), (0), (by first | rfl | (simp; done) | (simp [*]; done)), H', ⟨Nat.le_refl _⟩, ⟨uR HO382.out⟩, ⟨uB⟩⟩
     case round =>
      clear H'
      try clear p2
      try clear c3
      try clear c3b0
      try clear c3b1
      try clear c4
      try clear c4b0
      try clear c4b1
      try clear c6
      try clear c6b0
      try clear p6
      try clear c7
      try clear c7b0
      try clear p8
      try clear q8
      try clear hx8
      try clear hf8
      try clear c9
      try clear hx8_0
      try clear p8
      try clear q8
      obtain ⟨x3_1, x4_1, rfl, HA, HK1, HO_3, HB⟩ := hrel
      have hl3_1 := (Kd.R_reads' HO_3.out).1
      rw [hl3_1] at HO_3
      (try simp only [hl3_1])
      cases gk with
      | zero => exact absurd HA.out (by simp [windbreakref01_power.l0])
      | succ k1 =>
       have H := HA.out
       clear HA
       simp only [windbreakref01_power.l0] at H
       by_cases c13 : x4_1 < (Int.tmod a0 16)
       ·
        rw [if_pos c13] at H
        have c13b0 : decide (x4_1 < (Int.tmod a0 16)) = true := decide_eq_true c13
        clear c13
        obtain ⟨ji14, hji14⟩ : ∃ j_ : Int, (wrap64 (Int.tdiv a0 16)) = j_ := ⟨_, rfl⟩
        replace H : (if 0 ≤ (ji14) then (if (ji14) < (x3_1.length : Int) then (windbreakref01_power.l0 k1 a0 (x3_1.set ((ji14) : Int).toNat (IntKind.u64.wrap ((rd x3_1 (ji14)) * 2))) (wrap64 (x4_1 + 1))) else (none)) else (none)) = some r := by first | (rw [hji14] at H; exact H) | (simp only [hji14] at H ⊢; exact H)
        have hji14w : (IntKind.i64.wrap (Int.tdiv a0 16)) = ji14 := (i64_w _).trans hji14
        (try simp only [hji14] at hji2)
        (try simp only [hji14] at hji2w)
        (try (have e_ : ji14 = ji5 := hji14.symm.trans hji5; subst e_))
        by_cases c15 : 0 ≤ (ji14)
        ·
         rw [if_pos c15] at H
         have c15b0 : decide (0 ≤ (ji14)) = true := decide_eq_true c15
         clear c15
         by_cases c16 : (ji14) < (x3_1.length : Int)
         ·
          rw [if_pos c16] at H
          have c16b0 : decide ((ji14) < (x3_1.length : Int)) = true := decide_eq_true c16
          (try (have c16b0h0 := c16b0; simp only [hl3_1] at c16b0h0))
          clear c16
          obtain ⟨y385, hy385⟩ : ∃ y_ : List Int, y_ = (x3_1.set ((ji14) : Int).toNat (IntKind.u64.wrap ((rd x3_1 (ji14)) * 2))) := ⟨_, rfl⟩
          replace H : (windbreakref01_power.l0 k1 a0 y385 (wrap64 (x4_1 + 1))) = some r := by first | (rw [hy385]; with_reducible exact H) | (have H2_ := (Option.bind_some _ _).symm.trans H; rw [hy385]; with_reducible exact H2_) | (have H2_ := (Option.bind_some _ _).symm.trans H; with_reducible exact H2_) | with_reducible exact H | (rw [hy385]; exact H) | exact H
          have Ny385 := Aside0.mk hy385; clear hy385
          have H' := Aside0.mk H
          clear H
          have p384 : 0 ≤ ((ji14) : Int) := of_decide_eq_true (by first | (with_reducible assumption) | assumption)
          have q384 : (ji14) < (x3_1.length : Int) := of_decide_eq_true (by first | (with_reducible assumption) | assumption)
          obtain ⟨ad384, e384, hx384_0⟩ := Kd.at_int (Kd.R_reads' HO_3.out).2.2 (ji14) p384 q384
          obtain rfl : (⟨go8, 0, none⟩ : Addr) = ad384 := (by injection e384)
          (first | simp only [add_plain] at hx384_0 | simp only [add_at] at hx384_0 | simp only [Addr.add, Nat.zero_add] at hx384_0 | skip)
          replace p384 := eq_true p384
          replace q384 := eq_true q384
          have p17 : 0 ≤ ((ji14) : Int) := of_decide_eq_true (by first | (with_reducible assumption) | assumption)
          have q17 : ((ji14) : Int) < ((x3_1.length : Int) : Int) := of_decide_eq_true (by first | (with_reducible assumption) | assumption)
          obtain ⟨hx17_0, hf17_0⟩ := Kd.R_celln 0 HO_3.out ((ji14) : Int) p17 q17
          replace p17 := eq_true p17
          replace q17 := eq_true q17
          have HP18 := Kd.R_putg HO_3.out ((ji14) : Int) (IntKind.u64.wrap ((rd x3_1 (ji14)) * 2))
          go_wp2_with (first | ((with_reducible refine gate_store (t := 27) (p := 28) rfl ?_); refine store_event (t := 27) (p := 28) (v := ?vo_w19) (w1 := (wr.setCell ⟨go8, ((ji14) : Int).toNat, none⟩ (.int .u64 (IntKind.u64.wrap ((rd x3_1 (ji14)) * 2))))) ?hg ?ho ?hn ?hr ?_; (case ho => rfl); (case hg => rfl); (case hn => rfl); (case hr => first | (go_simp; done) | (go_simp; rfl) | (obtain ⟨hy_, hz_⟩ := Kd.R_celln 0 HO_3.out ((ji14) : Int) (of_decide_eq_true (by first | (with_reducible assumption) | assumption)) (of_decide_eq_true (by first | (with_reducible assumption) | assumption)); (try simp only [Go.IntWalk.toNatUp] at hy_ hz_); (try simp only [Int.reduceToNat, Int.toNat_zero, Int.toNat_ofNat] at hy_ hz_); first | (go_simp; done) | (go_simp; rfl))); intro w19 hw; have hg : wr.grownBy w19 (some go8) := (by rw [hw]; exact HP18.2); have hp_ : Kd.R (Kd.int .u64) 27 w19 w.heap.size (fun _ => True) (.slice (some ⟨go8, 0, none⟩) x3_1.length co8) y385 := (by rw [hw, Ny385.out]; exact HP18.1); clear HP18; have n0_ := Aside0.mk (hp_); have n1_ := Aside0.mk ((by rw [hw]; exact below_set (HB.out) GB8.out : Below w.heap.size w w19)); clear HO_3; clear HB; have HO_3 := n0_; have HB := n1_; clear n0_ n1_; clear hg hw hp_))
          (try simp only [← hl3_1])
          first | go_roundg k1 | ((try simp only [← hji14] at H'); simp only [← hji14]; go_roundg k1) | ((try simp only [← hji5] at H'); simp only [← hji5]; go_roundg k1) | ((try simp only [← hji2] at H'); simp only [← hji2]; go_roundg k1)
          case measure => have := HK1.out; omega
          case rel => first | exact ⟨(y385), (wrap64 (x4_1 + 1)), (by first | rfl | (simp; done) | (simp [*]; done)), H', ⟨by have := HK1.out; omega⟩, ⟨by (try simp only [hl3_1]); (with_reducible repeat (first | apply Kd.R_alloc | apply Kd.R_drewN | apply Kd.R_drew)); exact HO_3.out⟩, ⟨uB⟩⟩ | (simp only [← hji14] at H'; exact ⟨(y385), (wrap64 (x4_1 + 1)), (by first | rfl | (simp; done) | (simp [*]; done)), H', ⟨by have := HK1.out; omega⟩, ⟨by (try simp only [hl3_1]); (with_reducible repeat (first | apply Kd.R_alloc | apply Kd.R_drewN | apply Kd.R_drew)); exact HO_3.out⟩, ⟨uB⟩⟩) | (simp only [← hji5] at H'; exact ⟨(y385), (wrap64 (x4_1 + 1)), (by first | rfl | (simp; done) | (simp [*]; done)), H', ⟨by have := HK1.out; omega⟩, ⟨by (try simp only [hl3_1]); (with_reducible repeat (first | apply Kd.R_alloc | apply Kd.R_drewN | apply Kd.R_drew)); exact HO_3.out⟩, ⟨uB⟩⟩) | (simp only [← hji2] at H'; exact ⟨(y385), (wrap64 (x4_1 + 1)), (by first | rfl | (simp; done) | (simp [*]; done)), H', ⟨by have := HK1.out; omega⟩, ⟨by (try simp only [hl3_1]); (with_reducible repeat (first | apply Kd.R_alloc | apply Kd.R_drewN | apply Kd.R_drew)); exact HO_3.out⟩, ⟨uB⟩⟩)
         ·
          rw [if_neg c16] at H
          exact absurd H (by simp)
        ·
         rw [if_neg c15] at H
         exact absurd H (by simp)
       ·
        rw [if_neg c13] at H
        have c13b0 : decide (x4_1 < (Int.tmod a0 16)) = false := decide_eq_false c13
        clear c13
        obtain rfl := Option.some.inj H
        go_wp2
        go_ret
        exact ⟨_, by first | rfl | (simp [errW_none, errW_some] <;> rfl) | (simp only [← hji2, ← hji5]; first | rfl | (simp [errW_none, errW_some] <;> rfl)) | (simp [*, errW_none, errW_some] <;> rfl), uR HO_3.out, uB⟩
    ·
     rw [if_neg c7] at H
     exact absurd H (by simp)
   ·
    rw [if_neg c6] at H
    exact absurd H (by simp)
  ·
   rw [if_neg c4] at H
   exact absurd H (by simp)
 ·
  rw [if_neg c3] at H
  exact absurd H (by simp)

end Go.Proofs.Ytgeanpnkllnipab.F
end

section
namespace Go.Proofs.Ytgeanpnkllnipab.F
open Go.RowKit Go.Proofs.YtgeanpnkllnipabW.PrintWords Go.Proofs.YtgeanpnkllnipabW.PrintLast Go.Proofs.YtgeanpnkllnipabW.PrintMore
attribute [local go_sem] max2_int min2_int max_two min_two max_three min_three max_four min_four
set_option linter.unusedVariables false
set_option linter.unusedSimpArgs false

mutual
def windbreakref01_mul.l0 : Nat → List Int → List Int → List Int → Int → Option (List Int)
 | 0, _, _, _, _ => none
 | k + 1, x0, x1, x5, x6 => if x6 < (x0.length : Int) then (windbreakref01_mul.l1 k x0 x1 x5 x6 0 0) else ((windbreakref01_cut.f k x5).bind fun t389 => (some t389))
def windbreakref01_mul.l1 : Nat → List Int → List Int → List Int → Int → Int → Int → Option (List Int)
 | 0, _, _, _, _, _, _ => none
 | k + 1, x0, x1, x5, x6, x7, x8 => if x8 < (x1.length : Int) then (if 0 ≤ (wrap64 (x6 + x8)) then (if (wrap64 (x6 + x8)) < (x5.length : Int) then (if 0 ≤ x6 then (if x6 < (x0.length : Int) then (if 0 ≤ x8 then (windbreakref01_mul.l1 k x0 x1 (x5.set ((wrap64 (x6 + x8)) : Int).toNat (Int.tmod (IntKind.u64.wrap ((IntKind.u64.wrap ((rd x5 (wrap64 (x6 + x8))) + (IntKind.u64.wrap ((rd x0 x6) * (rd x1 x8))))) + x7)) 65536)) x6 (IntKind.u64.wrap (Int.tdiv (IntKind.u64.wrap ((IntKind.u64.wrap ((rd x5 (wrap64 (x6 + x8))) + (IntKind.u64.wrap ((rd x0 x6) * (rd x1 x8))))) + x7)) 65536)) (wrap64 (x8 + 1))) else (none)) else (none)) else (none)) else (none)) else (none)) else (if 0 ≤ (wrap64 (x6 + (x1.length : Int))) then (if (wrap64 (x6 + (x1.length : Int))) < (x5.length : Int) then (windbreakref01_mul.l0 k x0 x1 (x5.set ((wrap64 (x6 + (x1.length : Int))) : Int).toNat x7) (wrap64 (x6 + 1))) else (none)) else (none))
end
def windbreakref01_mul.f (k : Nat) (l0 : List Int) (l1 : List Int) : Option (List Int) := if 0 ≤ (wrap64 ((l0.length : Int) + (l1.length : Int))) then (if (wrap64 ((l0.length : Int) + (l1.length : Int)) : Int).toNat ≤ 35184372088832 then (windbreakref01_mul.l0 k l0 l1 (List.replicate (wrap64 ((l0.length : Int) + (l1.length : Int)) : Int).toNat 0) 0) else (none)) else (none)
set_option maxHeartbeats 8000000 in
set_option maxRecDepth 100000 in
theorem windbreakref01_mul.calls (k : Nat) (A0 : Option Addr) (c0 : Nat) (l0 : List Int) (A1 : Option Addr) (c1 : Nat) (l1 : List Int) (r : List Int) (w : World) (hr0 : Kd.C (Kd.int .u64) w A0 l0.length l0) (hc0 : l0.length ≤ c0) (hr1 : Kd.C (Kd.int .u64) w A1 l1.length l1) (hc1 : l1.length ≤ c1) (h : windbreakref01_mul.f k l0 l1 = some r) :
  Calls Try.prog 91 #[.slice A0 l0.length c0, .slice A1 l1.length c1] w fun e w' => ∃ v0_ : Value, e = .returned (v0_) ∧ Kd.R (Kd.int .u64) 27 w' w.heap.size (fun _ => True) v0_ r ∧ Below w.heap.size w w' := by
 have HR0 := Aside0.mk hr0; have HC0 := Aside0.mk hc0; clear hr0 hc0; have HR1 := Aside0.mk hr1; have HC1 := Aside0.mk hc1; clear hr1 hc1
 have HB := Aside0.mk (Below.refl w.heap.size w)
 have H : (if 0 ≤ (wrap64 ((l0.length : Int) + (l1.length : Int))) then (if (wrap64 ((l0.length : Int) + (l1.length : Int)) : Int).toNat ≤ 35184372088832 then (windbreakref01_mul.l0 k l0 l1 (List.replicate (wrap64 ((l0.length : Int) + (l1.length : Int)) : Int).toNat 0) 0) else (none)) else (none)) = some r := h
 clear h
 obtain ⟨ji3, hji3⟩ : ∃ j_ : Int, (wrap64 ((l0.length : Int) + (l1.length : Int))) = j_ := ⟨_, rfl⟩
 replace H : (if 0 ≤ (ji3) then (if (ji3 : Int).toNat ≤ 35184372088832 then (windbreakref01_mul.l0 k l0 l1 (List.replicate (ji3 : Int).toNat 0) 0) else (none)) else (none)) = some r := by first | (rw [hji3] at H; exact H) | (simp only [hji3] at H ⊢; exact H)
 have hji3w : (IntKind.i64.wrap ((l0.length : Int) + (l1.length : Int))) = ji3 := (i64_w _).trans hji3
 by_cases c4 : 0 ≤ (ji3)
 ·
  rw [if_pos c4] at H
  have c4b0 := eq_true c4
  have c4b1 : decide (0 ≤ (ji3)) = true := decide_eq_true c4
  clear c4
  by_cases c5 : (ji3 : Int).toNat ≤ 35184372088832
  ·
   rw [if_pos c5] at H
   have c5b0 := eq_true c5
   have c5b1 : decide ((ji3 : Int).toNat ≤ 35184372088832) = true := decide_eq_true c5
   clear c5
   obtain ⟨y386, hy386⟩ : ∃ y_ : List Int, y_ = (List.replicate (ji3 : Int).toNat 0) := ⟨_, rfl⟩
   replace H : (windbreakref01_mul.l0 k l0 l1 y386 0) = some r := by first | (rw [hy386]; with_reducible exact H) | (have H2_ := (Option.bind_some _ _).symm.trans H; rw [hy386]; with_reducible exact H2_) | (have H2_ := (Option.bind_some _ _).symm.trans H; with_reducible exact H2_) | with_reducible exact H | (rw [hy386]; exact H) | exact H
   have Ny386 := Aside0.mk hy386; clear hy386
   have H' := Aside0.mk H
   clear H
   go_enter Try.func91, Try.ntmps91
   go_wp2_with (first | ((with_reducible refine gate_dst (N := 15) rfl ?_); refine Kd.R_make (Kd.int .u64) _ 27 rfl (N := 15) rfl 70 _ _ rfl ji3 rfl rfl Try.underlying70 (.int .u64 0) 8 info27 rfl (by decide) (by omega) 0 (ok := fun _ => True) (okp := fun _ => True) rfl (fun _ hk => hk) trivial (of_decide_eq_true (by first | (with_reducible assumption) | assumption)) (Nat.le_trans (Nat.mul_le_mul_right _ (of_decide_eq_true (by first | (with_reducible assumption) | assumption) : ji3.toNat ≤ 35184372088832)) (by omega)) (Below.refl _ _) (Nat.le_refl _) ?_; intro v387 w6 ho7 hb hg_ hnew_; clear hg_ hnew_; (first | rw [← Ny386.out] at ho7 | (simp only [Int.reduceToNat] at ho7; rw [← Ny386.out] at ho7)); have n0_ := Aside0.mk (Kd.R_lower ho7 (below_size uB)); have n1_ := Aside0.mk (below_step uB hb); clear HB; have HO388 := n0_; have HB := n1_; clear n0_ n1_; clear hb ho7))
   repeat (go_quiet (first | ((with_reducible refine gate_dst (N := 15) rfl ?_); refine Kd.R_make (Kd.int .u64) _ 27 rfl (N := 15) rfl 70 _ _ rfl ji3 rfl rfl Try.underlying70 (.int .u64 0) 8 info27 rfl (by decide) (by omega) 0 (ok := fun _ => True) (okp := fun _ => True) rfl (fun _ hk => hk) trivial (of_decide_eq_true (by first | (with_reducible assumption) | assumption)) (Nat.le_trans (Nat.mul_le_mul_right _ (of_decide_eq_true (by first | (with_reducible assumption) | assumption) : ji3.toNat ≤ 35184372088832)) (by omega)) (Below.refl _ _) (Nat.le_refl _) ?_; intro v387 w6 ho7 hb hg_ hnew_; clear hg_ hnew_; (first | rw [← Ny386.out] at ho7 | (simp only [Int.reduceToNat] at ho7; rw [← Ny386.out] at ho7)); have n0_ := Aside0.mk (Kd.R_lower ho7 (below_size uB)); have n1_ := Aside0.mk (below_step uB hb); clear HB; have HO388 := n0_; have HB := n1_; clear n0_ n1_; clear hb ho7)); try go_wp2_with (first | ((with_reducible refine gate_dst (N := 15) rfl ?_); refine Kd.R_make (Kd.int .u64) _ 27 rfl (N := 15) rfl 70 _ _ rfl ji3 rfl rfl Try.underlying70 (.int .u64 0) 8 info27 rfl (by decide) (by omega) 0 (ok := fun _ => True) (okp := fun _ => True) rfl (fun _ hk => hk) trivial (of_decide_eq_true (by first | (with_reducible assumption) | assumption)) (Nat.le_trans (Nat.mul_le_mul_right _ (of_decide_eq_true (by first | (with_reducible assumption) | assumption) : ji3.toNat ≤ 35184372088832)) (by omega)) (Below.refl _ _) (Nat.le_refl _) ?_; intro v387 w6 ho7 hb hg_ hnew_; clear hg_ hnew_; (first | rw [← Ny386.out] at ho7 | (simp only [Int.reduceToNat] at ho7; rw [← Ny386.out] at ho7)); have n0_ := Aside0.mk (Kd.R_lower ho7 (below_size uB)); have n1_ := Aside0.mk (below_step uB hb); clear HB; have HO388 := n0_; have HB := n1_; clear n0_ n1_; clear hb ho7)))
   go_loopg [6] k (fun kq v6 w' => ∃ (x5_1 : List Int) (x6_1 : Int), v6 = .int .i64 x6_1 ∧ Aside0 (windbreakref01_mul.l0 kq l0 l1 x5_1 x6_1 = some r) ∧ Aside0 (kq ≤ k) ∧ Aside0 (Kd.R (Kd.int .u64) 27 w' w.heap.size (fun _ => True) v387 x5_1) ∧ Aside0 (Below w.heap.size w w'))
   case atStart => exact ⟨(y386), (0), (by first | rfl | (simp; done) | (simp [*]; done)), H', ⟨Nat.le_refl _⟩, ⟨uR HO388.out⟩, ⟨uB⟩⟩
   case round =>
    clear H'
    try clear c1
    try clear p2
    try clear c4
    try clear c4b0
    try clear c4b1
    try clear c5
    try clear c5b0
    try clear c5b1
    try clear p6
    obtain ⟨x5_1, x6_1, rfl, HA, HK1, HO_5, HB⟩ := hrel
    cases gk with
    | zero => exact absurd HA.out (by simp [windbreakref01_mul.l0])
    | succ k1 =>
     have H := HA.out
     clear HA
     simp only [windbreakref01_mul.l0] at H
     by_cases c8 : x6_1 < (l0.length : Int)
     ·
      rw [if_pos c8] at H
      have c8b0 : decide (x6_1 < (l0.length : Int)) = true := decide_eq_true c8
      clear c8
      have H' := Aside0.mk H
      clear H
      go_wp2
      repeat (go_quiet (fail); try go_wp2)
      go_loopg [7, 8] k1 (fun kq v7 v8 w' => ∃ (x5_2 : List Int) (x7_2 : Int) (x8_2 : Int), v7 = .int .u64 x7_2 ∧ v8 = .int .i64 x8_2 ∧ Aside0 (windbreakref01_mul.l1 kq l0 l1 x5_2 x6_1 x7_2 x8_2 = some r) ∧ Aside0 (kq ≤ k1) ∧ Aside0 (Kd.R (Kd.int .u64) 27 w' w.heap.size (fun _ => True) v387 x5_2) ∧ Aside0 (Below w.heap.size w w'))
      case atStart => exact ⟨(x5_1), (0), (0), (by first | rfl | (simp; done) | (simp [*]; done)), (by first | rfl | (simp; done) | (simp [*]; done)), H', ⟨Nat.le_refl _⟩, ⟨uR HO_5.out⟩, ⟨uB⟩⟩
      case round =>
       clear H'
       try clear c1
       try clear p2
       try clear c4
       try clear c4b0
       try clear c4b1
       try clear c5
       try clear c5b0
       try clear c5b1
       try clear p6
       try clear c8
       try clear c8b0
       try clear p2
       try clear p6
       obtain ⟨x5_2, x7_2, x8_2, rfl, rfl, HA, HK2, HO_5, HB⟩ := hrel
       cases gk with
       | zero => exact absurd HA.out (by simp [windbreakref01_mul.l1])
       | succ k2 =>
        have H := HA.out
        clear HA
        simp only [windbreakref01_mul.l1] at H
        by_cases c9 : x8_2 < (l1.length : Int)
        ·
         rw [if_pos c9] at H
         have c9b0 : decide (x8_2 < (l1.length : Int)) = true := decide_eq_true c9
         clear c9
         obtain ⟨ji10, hji10⟩ : ∃ j_ : Int, (wrap64 (x6_1 + x8_2)) = j_ := ⟨_, rfl⟩
         replace H : (if 0 ≤ (ji10) then (if (ji10) < (x5_2.length : Int) then (if 0 ≤ x6_1 then (if x6_1 < (l0.length : Int) then (if 0 ≤ x8_2 then (windbreakref01_mul.l1 k2 l0 l1 (x5_2.set ((ji10) : Int).toNat (Int.tmod (IntKind.u64.wrap ((IntKind.u64.wrap ((rd x5_2 (ji10)) + (IntKind.u64.wrap ((rd l0 x6_1) * (rd l1 x8_2))))) + x7_2)) 65536)) x6_1 (IntKind.u64.wrap (Int.tdiv (IntKind.u64.wrap ((IntKind.u64.wrap ((rd x5_2 (ji10)) + (IntKind.u64.wrap ((rd l0 x6_1) * (rd l1 x8_2))))) + x7_2)) 65536)) (wrap64 (x8_2 + 1))) else (none)) else (none)) else (none)) else (none)) else (none)) = some r := by first | (rw [hji10] at H; exact H) | (simp only [hji10] at H ⊢; exact H)
         have hji10w : (IntKind.i64.wrap (x6_1 + x8_2)) = ji10 := (i64_w _).trans hji10
         by_cases c11 : 0 ≤ (ji10)
         ·
          rw [if_pos c11] at H
          have c11b0 : decide (0 ≤ (ji10)) = true := decide_eq_true c11
          clear c11
          by_cases c12 : (ji10) < (x5_2.length : Int)
          ·
           rw [if_pos c12] at H
           have c12b0 : decide ((ji10) < (x5_2.length : Int)) = true := decide_eq_true c12
           clear c12
           by_cases c13 : 0 ≤ x6_1
           ·
            rw [if_pos c13] at H
            have c13b0 : decide (0 ≤ x6_1) = true := decide_eq_true c13
            clear c13
            by_cases c14 : x6_1 < (l0.length : Int)
            ·
             rw [if_pos c14] at H
             have c14b0 : decide (x6_1 < (l0.length : Int)) = true := decide_eq_true c14
             clear c14
             by_cases c15 : 0 ≤ x8_2
             ·
              rw [if_pos c15] at H
              have c15b0 : decide (0 ≤ x8_2) = true := decide_eq_true c15
              clear c15
              obtain ⟨y395, hy395⟩ : ∃ y_ : List Int, y_ = (x5_2.set ((ji10) : Int).toNat (Int.tmod (IntKind.u64.wrap ((IntKind.u64.wrap ((rd x5_2 (ji10)) + (IntKind.u64.wrap ((rd l0 x6_1) * (rd l1 x8_2))))) + x7_2)) 65536)) := ⟨_, rfl⟩
              replace H : (windbreakref01_mul.l1 k2 l0 l1 y395 x6_1 (IntKind.u64.wrap (Int.tdiv (IntKind.u64.wrap ((IntKind.u64.wrap ((rd x5_2 (ji10)) + (IntKind.u64.wrap ((rd l0 x6_1) * (rd l1 x8_2))))) + x7_2)) 65536)) (wrap64 (x8_2 + 1))) = some r := by first | (rw [hy395]; with_reducible exact H) | (have H2_ := (Option.bind_some _ _).symm.trans H; rw [hy395]; with_reducible exact H2_) | (have H2_ := (Option.bind_some _ _).symm.trans H; with_reducible exact H2_) | with_reducible exact H | (rw [hy395]; exact H) | exact H
              have Ny395 := Aside0.mk hy395; clear hy395
              have H' := Aside0.mk H
              clear H
              obtain ⟨Ao17, co17, eo17⟩ := Kd.R_slice HO_5.out
              subst eo17
              have p392 : 0 ≤ ((ji10) : Int) := of_decide_eq_true (by first | (with_reducible assumption) | assumption)
              have q392 : (ji10) < (x5_2.length : Int) := of_decide_eq_true (by first | (with_reducible assumption) | assumption)
              obtain ⟨ad392, e392, hx392_0⟩ := Kd.at_int (Kd.R_reads' HO_5.out).2.2 (ji10) p392 q392
              cases e392
              replace p392 := eq_true p392
              replace q392 := eq_true q392
              have p393 : 0 ≤ (x6_1 : Int) := of_decide_eq_true (by first | (with_reducible assumption) | assumption)
              have q393 : x6_1 < (l0.length : Int) := of_decide_eq_true (by first | (with_reducible assumption) | assumption)
              obtain ⟨ad393, e393, hx393_0⟩ := Kd.at_int HR0.out x6_1 p393 q393
              cases e393
              replace hx393_0 := (HB.out.cell (World.block_lt_of_cell? w _ hx393_0)).trans hx393_0
              replace p393 := eq_true p393
              replace q393 := eq_true q393
              have p394 : 0 ≤ (x8_2 : Int) := of_decide_eq_true (by first | (with_reducible assumption) | assumption)
              have q394 : x8_2 < (l1.length : Int) := of_decide_eq_true (by first | (with_reducible assumption) | assumption)
              obtain ⟨ad394, e394, hx394_0⟩ := Kd.at_int HR1.out x8_2 p394 q394
              cases e394
              replace hx394_0 := (HB.out.cell (World.block_lt_of_cell? w _ hx394_0)).trans hx394_0
              replace p394 := eq_true p394
              replace q394 := eq_true q394
              have p16 : 0 ≤ ((ji10) : Int) := of_decide_eq_true (by first | (with_reducible assumption) | assumption)
              have q16 : ((ji10) : Int) < ((x5_2.length : Int) : Int) := of_decide_eq_true (by first | (with_reducible assumption) | assumption)
              obtain ⟨go16, co16, eo16, gb16, gl16, cl16, HG16⟩ := Kd.R_form HO_5.out (by omega)
              (first | cases eo16 | (injection eo16 with ea_ en_ ec_; (first | subst ea_ | (injection ea_ with ea_; subst ea_)); subst ec_; clear en_))
              have GB16 := Aside0.mk gb16; have GG16 := Aside0.mk HG16; clear gb16 gl16 HG16
              (first | simp only [add_plain] at hx392_0 | skip)
              obtain ⟨hx16_0, hf16_0⟩ := Kd.R_celln 0 HO_5.out ((ji10) : Int) p16 q16
              replace p16 := eq_true p16
              replace q16 := eq_true q16
              have HP18 := Kd.R_putg HO_5.out ((ji10) : Int) (Int.tmod (IntKind.u64.wrap ((IntKind.u64.wrap ((rd x5_2 (ji10)) + (IntKind.u64.wrap ((rd l0 x6_1) * (rd l1 x8_2))))) + x7_2)) 65536)
              go_wp2_with (first | ((with_reducible refine gate_store (t := 27) (p := 52) rfl ?_); (try (rw [drewN_self wr]; generalize hq_ : World.drewN wr _ = wr; have n0_ := Aside0.mk (Kd.R_at hq_ HO_5.out); have n1_ := Aside0.mk (below_at hq_ HB.out); clear hq_ HO_5 HB; have HO_5 := n0_; have HB := n1_; clear n0_ n1_; (try (have HP18 := Kd.R_putg HO_5.out ((ji10) : Int) (Int.tmod (IntKind.u64.wrap ((IntKind.u64.wrap ((rd x5_2 (ji10)) + (IntKind.u64.wrap ((rd l0 x6_1) * (rd l1 x8_2))))) + x7_2)) 65536))))); refine store_event (t := 27) (p := 52) (v := ?vo_w19) (w1 := (wr.setCell ⟨go16, ((ji10) : Int).toNat, none⟩ (.int .u64 (Int.tmod (IntKind.u64.wrap ((IntKind.u64.wrap ((rd x5_2 (ji10)) + (IntKind.u64.wrap ((rd l0 x6_1) * (rd l1 x8_2))))) + x7_2)) 65536)))) ?hg ?ho ?hn ?hr ?_; (case ho => rfl); (case hg => rfl); (case hn => rfl); (case hr => first | (go_simp; done) | (go_simp; rfl) | (obtain ⟨hy_, hz_⟩ := Kd.R_celln 0 HO_5.out ((ji10) : Int) (of_decide_eq_true (by first | (with_reducible assumption) | assumption)) (of_decide_eq_true (by first | (with_reducible assumption) | assumption)); (try simp only [Go.IntWalk.toNatUp] at hy_ hz_); (try simp only [Int.reduceToNat, Int.toNat_zero, Int.toNat_ofNat] at hy_ hz_); first | (go_simp; done) | (go_simp; rfl))); intro w19 hw; have hg : wr.grownBy w19 (some go16) := (by rw [hw]; exact HP18.2); have hp_ : Kd.R (Kd.int .u64) 27 w19 w.heap.size (fun _ => True) (.slice (some ⟨go16, 0, none⟩) x5_2.length co17) y395 := (by rw [hw, Ny395.out]; exact HP18.1); clear HP18; have n0_ := Aside0.mk (hp_); have n1_ := Aside0.mk ((by rw [hw]; exact below_set (HB.out) GB16.out : Below w.heap.size w w19)); clear HO_5; clear HB; have HO_5 := n0_; have HB := n1_; clear n0_ n1_; clear hg hw hp_))
              repeat (go_quiet (first | ((with_reducible refine gate_store (t := 27) (p := 52) rfl ?_); (try (rw [drewN_self wr]; generalize hq_ : World.drewN wr _ = wr; have n0_ := Aside0.mk (Kd.R_at hq_ HO_5.out); have n1_ := Aside0.mk (below_at hq_ HB.out); clear hq_ HO_5 HB; have HO_5 := n0_; have HB := n1_; clear n0_ n1_; (try (have HP18 := Kd.R_putg HO_5.out ((ji10) : Int) (Int.tmod (IntKind.u64.wrap ((IntKind.u64.wrap ((rd x5_2 (ji10)) + (IntKind.u64.wrap ((rd l0 x6_1) * (rd l1 x8_2))))) + x7_2)) 65536))))); refine store_event (t := 27) (p := 52) (v := ?vo_w19) (w1 := (wr.setCell ⟨go16, ((ji10) : Int).toNat, none⟩ (.int .u64 (Int.tmod (IntKind.u64.wrap ((IntKind.u64.wrap ((rd x5_2 (ji10)) + (IntKind.u64.wrap ((rd l0 x6_1) * (rd l1 x8_2))))) + x7_2)) 65536)))) ?hg ?ho ?hn ?hr ?_; (case ho => rfl); (case hg => rfl); (case hn => rfl); (case hr => first | (go_simp; done) | (go_simp; rfl) | (obtain ⟨hy_, hz_⟩ := Kd.R_celln 0 HO_5.out ((ji10) : Int) (of_decide_eq_true (by first | (with_reducible assumption) | assumption)) (of_decide_eq_true (by first | (with_reducible assumption) | assumption)); (try simp only [Go.IntWalk.toNatUp] at hy_ hz_); (try simp only [Int.reduceToNat, Int.toNat_zero, Int.toNat_ofNat] at hy_ hz_); first | (go_simp; done) | (go_simp; rfl))); intro w19 hw; have hg : wr.grownBy w19 (some go16) := (by rw [hw]; exact HP18.2); have hp_ : Kd.R (Kd.int .u64) 27 w19 w.heap.size (fun _ => True) (.slice (some ⟨go16, 0, none⟩) x5_2.length co17) y395 := (by rw [hw, Ny395.out]; exact HP18.1); clear HP18; have n0_ := Aside0.mk (hp_); have n1_ := Aside0.mk ((by rw [hw]; exact below_set (HB.out) GB16.out : Below w.heap.size w w19)); clear HO_5; clear HB; have HO_5 := n0_; have HB := n1_; clear n0_ n1_; clear hg hw hp_)); try go_wp2_with (first | ((with_reducible refine gate_store (t := 27) (p := 52) rfl ?_); (try (rw [drewN_self wr]; generalize hq_ : World.drewN wr _ = wr; have n0_ := Aside0.mk (Kd.R_at hq_ HO_5.out); have n1_ := Aside0.mk (below_at hq_ HB.out); clear hq_ HO_5 HB; have HO_5 := n0_; have HB := n1_; clear n0_ n1_; (try (have HP18 := Kd.R_putg HO_5.out ((ji10) : Int) (Int.tmod (IntKind.u64.wrap ((IntKind.u64.wrap ((rd x5_2 (ji10)) + (IntKind.u64.wrap ((rd l0 x6_1) * (rd l1 x8_2))))) + x7_2)) 65536))))); refine store_event (t := 27) (p := 52) (v := ?vo_w19) (w1 := (wr.setCell ⟨go16, ((ji10) : Int).toNat, none⟩ (.int .u64 (Int.tmod (IntKind.u64.wrap ((IntKind.u64.wrap ((rd x5_2 (ji10)) + (IntKind.u64.wrap ((rd l0 x6_1) * (rd l1 x8_2))))) + x7_2)) 65536)))) ?hg ?ho ?hn ?hr ?_; (case ho => rfl); (case hg => rfl); (case hn => rfl); (case hr => first | (go_simp; done) | (go_simp; rfl) | (obtain ⟨hy_, hz_⟩ := Kd.R_celln 0 HO_5.out ((ji10) : Int) (of_decide_eq_true (by first | (with_reducible assumption) | assumption)) (of_decide_eq_true (by first | (with_reducible assumption) | assumption)); (try simp only [Go.IntWalk.toNatUp] at hy_ hz_); (try simp only [Int.reduceToNat, Int.toNat_zero, Int.toNat_ofNat] at hy_ hz_); first | (go_simp; done) | (go_simp; rfl))); intro w19 hw; have hg : wr.grownBy w19 (some go16) := (by rw [hw]; exact HP18.2); have hp_ : Kd.R (Kd.int .u64) 27 w19 w.heap.size (fun _ => True) (.slice (some ⟨go16, 0, none⟩) x5_2.length co17) y395 := (by rw [hw, Ny395.out]; exact HP18.1); clear HP18; have n0_ := Aside0.mk (hp_); have n1_ := Aside0.mk ((by rw [hw]; exact below_set (HB.out) GB16.out : Below w.heap.size w w19)); clear HO_5; clear HB; have HO_5 := n0_; have HB := n1_; clear n0_ n1_; clear hg hw hp_)))
              first | go_roundg k2 | ((try simp only [← hji10] at H'); simp only [← hji10]; go_roundg k2) | ((try simp only [← hji3] at H'); simp only [← hji3]; go_roundg k2)
              case measure => have := HK1.out; have := HK2.out; omega
              case rel => first | exact ⟨(y395), (IntKind.u64.wrap (Int.tdiv (IntKind.u64.wrap ((IntKind.u64.wrap ((rd x5_2 (ji10)) + (IntKind.u64.wrap ((rd l0 x6_1) * (rd l1 x8_2))))) + x7_2)) 65536)), (wrap64 (x8_2 + 1)), (by first | rfl | (simp; done) | (simp only [← hji10] <;> (first | rfl | simp)) | (simp [*]; done)), (by first | rfl | (simp; done) | (simp [*]; done)), H', ⟨by have := HK1.out; have := HK2.out; omega⟩, ⟨uR HO_5.out⟩, ⟨uB⟩⟩ | (simp only [← hji10] at H'; exact ⟨(y395), (IntKind.u64.wrap (Int.tdiv (IntKind.u64.wrap ((IntKind.u64.wrap ((rd x5_2 (ji10)) + (IntKind.u64.wrap ((rd l0 x6_1) * (rd l1 x8_2))))) + x7_2)) 65536)), (wrap64 (x8_2 + 1)), (by first | rfl | (simp; done) | (simp only [← hji10] <;> (first | rfl | simp)) | (simp [*]; done)), (by first | rfl | (simp; done) | (simp [*]; done)), H', ⟨by have := HK1.out; have := HK2.out; omega⟩, ⟨uR HO_5.out⟩, ⟨uB⟩⟩) | (simp only [← hji3] at H'; exact ⟨(y395), (IntKind.u64.wrap (Int.tdiv (IntKind.u64.wrap ((IntKind.u64.wrap ((rd x5_2 (ji10)) + (IntKind.u64.wrap ((rd l0 x6_1) * (rd l1 x8_2))))) + x7_2)) 65536)), (wrap64 (x8_2 + 1)), (by first | rfl | (simp; done) | (simp only [← hji10] <;> (first | rfl | simp)) | (simp [*]; done)), (by first | rfl | (simp; done) | (simp [*]; done)), H', ⟨by have := HK1.out; have := HK2.out; omega⟩, ⟨uR HO_5.out⟩, ⟨uB⟩⟩)
             ·
              rw [if_neg c15] at H
              exact absurd H (by simp)
            ·
             rw [if_neg c14] at H
             exact absurd H (by simp)
           ·
            rw [if_neg c13] at H
            exact absurd H (by simp)
          ·
           rw [if_neg c12] at H
           exact absurd H (by simp)
         ·
          rw [if_neg c11] at H
          exact absurd H (by simp)
        ·
         rw [if_neg c9] at H
         have c9b0 : decide (x8_2 < (l1.length : Int)) = false := decide_eq_false c9
         clear c9
         obtain ⟨ji20, hji20⟩ : ∃ j_ : Int, (wrap64 (x6_1 + (l1.length : Int))) = j_ := ⟨_, rfl⟩
         replace H : (if 0 ≤ (ji20) then (if (ji20) < (x5_2.length : Int) then (windbreakref01_mul.l0 k2 l0 l1 (x5_2.set ((ji20) : Int).toNat x7_2) (wrap64 (x6_1 + 1))) else (none)) else (none)) = some r := by first | (rw [hji20] at H; exact H) | (simp only [hji20] at H ⊢; exact H)
         have hji20w : (IntKind.i64.wrap (x6_1 + (l1.length : Int))) = ji20 := (i64_w _).trans hji20
         by_cases c21 : 0 ≤ (ji20)
         ·
          rw [if_pos c21] at H
          have c21b0 : decide (0 ≤ (ji20)) = true := decide_eq_true c21
          clear c21
          by_cases c22 : (ji20) < (x5_2.length : Int)
          ·
           rw [if_pos c22] at H
           have c22b0 : decide ((ji20) < (x5_2.length : Int)) = true := decide_eq_true c22
           clear c22
           obtain ⟨y396, hy396⟩ : ∃ y_ : List Int, y_ = (x5_2.set ((ji20) : Int).toNat x7_2) := ⟨_, rfl⟩
           replace H : (windbreakref01_mul.l0 k2 l0 l1 y396 (wrap64 (x6_1 + 1))) = some r := by first | (rw [hy396]; with_reducible exact H) | (have H2_ := (Option.bind_some _ _).symm.trans H; rw [hy396]; with_reducible exact H2_) | (have H2_ := (Option.bind_some _ _).symm.trans H; with_reducible exact H2_) | with_reducible exact H | (rw [hy396]; exact H) | exact H
           have Ny396 := Aside0.mk hy396; clear hy396
           have H' := Aside0.mk H
           clear H
           have p23 : 0 ≤ ((ji20) : Int) := of_decide_eq_true (by first | (with_reducible assumption) | assumption)
           have q23 : ((ji20) : Int) < ((x5_2.length : Int) : Int) := of_decide_eq_true (by first | (with_reducible assumption) | assumption)
           obtain ⟨go23, co23, eo23, gb23, gl23, cl23, HG23⟩ := Kd.R_form HO_5.out (by omega)
           (first | cases eo23 | (injection eo23 with ea_ en_ ec_; (first | subst ea_ | (injection ea_ with ea_; subst ea_)); subst ec_; clear en_))
           have GB23 := Aside0.mk gb23; have GG23 := Aside0.mk HG23; clear gb23 gl23 HG23
           obtain ⟨hx23_0, hf23_0⟩ := Kd.R_celln 0 HO_5.out ((ji20) : Int) p23 q23
           replace p23 := eq_true p23
           replace q23 := eq_true q23
           have HP24 := Kd.R_putg HO_5.out ((ji20) : Int) x7_2
           go_wp2_with (first | ((with_reducible refine gate_store (t := 27) (p := 61) rfl ?_); (try (rw [drewN_self wr]; generalize hq_ : World.drewN wr _ = wr; have n0_ := Aside0.mk (Kd.R_at hq_ HO_5.out); have n1_ := Aside0.mk (below_at hq_ HB.out); clear hq_ HO_5 HB; have HO_5 := n0_; have HB := n1_; clear n0_ n1_; (try (have HP24 := Kd.R_putg HO_5.out ((ji20) : Int) x7_2)))); refine store_event (t := 27) (p := 61) (v := ?vo_w25) (w1 := (wr.setCell ⟨go23, ((ji20) : Int).toNat, none⟩ (.int .u64 x7_2))) ?hg ?ho ?hn ?hr ?_; (case ho => rfl); (case hg => rfl); (case hn => rfl); (case hr => first | (go_simp; done) | (go_simp; rfl) | (obtain ⟨hy_, hz_⟩ := Kd.R_celln 0 HO_5.out ((ji20) : Int) (of_decide_eq_true (by first | (with_reducible assumption) | assumption)) (of_decide_eq_true (by first | (with_reducible assumption) | assumption)); (try simp only [Go.IntWalk.toNatUp] at hy_ hz_); (try simp only [Int.reduceToNat, Int.toNat_zero, Int.toNat_ofNat] at hy_ hz_); first | (go_simp; done) | (go_simp; rfl))); intro w25 hw; have hg : wr.grownBy w25 (some go23) := (by rw [hw]; exact HP24.2); have hp_ : Kd.R (Kd.int .u64) 27 w25 w.heap.size (fun _ => True) (.slice (some ⟨go23, 0, none⟩) x5_2.length co23) y396 := (by rw [hw, Ny396.out]; exact HP24.1); clear HP24; have n0_ := Aside0.mk (hp_); have n1_ := Aside0.mk ((by rw [hw]; exact below_set (HB.out) GB23.out : Below w.heap.size w w25)); clear HO_5; clear HB; have HO_5 := n0_; have HB := n1_; clear n0_ n1_; clear hg hw hp_))
           repeat (go_quiet (first | ((with_reducible refine gate_store (t := 27) (p := 61) rfl ?_); (try (rw [drewN_self wr]; generalize hq_ : World.drewN wr _ = wr; have n0_ := Aside0.mk (Kd.R_at hq_ HO_5.out); have n1_ := Aside0.mk (below_at hq_ HB.out); clear hq_ HO_5 HB; have HO_5 := n0_; have HB := n1_; clear n0_ n1_; (try (have HP24 := Kd.R_putg HO_5.out ((ji20) : Int) x7_2)))); refine store_event (t := 27) (p := 61) (v := ?vo_w25) (w1 := (wr.setCell ⟨go23, ((ji20) : Int).toNat, none⟩ (.int .u64 x7_2))) ?hg ?ho ?hn ?hr ?_; (case ho => rfl); (case hg => rfl); (case hn => rfl); (case hr => first | (go_simp; done) | (go_simp; rfl) | (obtain ⟨hy_, hz_⟩ := Kd.R_celln 0 HO_5.out ((ji20) : Int) (of_decide_eq_true (by first | (with_reducible assumption) | assumption)) (of_decide_eq_true (by first | (with_reducible assumption) | assumption)); (try simp only [Go.IntWalk.toNatUp] at hy_ hz_); (try simp only [Int.reduceToNat, Int.toNat_zero, Int.toNat_ofNat] at hy_ hz_); first | (go_simp; done) | (go_simp; rfl))); intro w25 hw; have hg : wr.grownBy w25 (some go23) := (by rw [hw]; exact HP24.2); have hp_ : Kd.R (Kd.int .u64) 27 w25 w.heap.size (fun _ => True) (.slice (some ⟨go23, 0, none⟩) x5_2.length co23) y396 := (by rw [hw, Ny396.out]; exact HP24.1); clear HP24; have n0_ := Aside0.mk (hp_); have n1_ := Aside0.mk ((by rw [hw]; exact below_set (HB.out) GB23.out : Below w.heap.size w w25)); clear HO_5; clear HB; have HO_5 := n0_; have HB := n1_; clear n0_ n1_; clear hg hw hp_)); try go_wp2_with (first | ((with_reducible refine gate_store (t := 27) (p := 61) rfl ?_); (try (rw [drewN_self wr]; generalize hq_ : World.drewN wr _ = wr; have n0_ := Aside0.mk (Kd.R_at hq_ HO_5.out); have n1_ := Aside0.mk (below_at hq_ HB.out); clear hq_ HO_5 HB; have HO_5 := n0_; have HB := n1_; clear n0_ n1_; (try (have HP24 := Kd.R_putg HO_5.out ((ji20) : Int) x7_2)))); refine store_event (t := 27) (p := 61) (v := ?vo_w25) (w1 := (wr.setCell ⟨go23, ((ji20) : Int).toNat, none⟩ (.int .u64 x7_2))) ?hg ?ho ?hn ?hr ?_; (case ho => rfl); (case hg => rfl); (case hn => rfl); (case hr => first | (go_simp; done) | (go_simp; rfl) | (obtain ⟨hy_, hz_⟩ := Kd.R_celln 0 HO_5.out ((ji20) : Int) (of_decide_eq_true (by first | (with_reducible assumption) | assumption)) (of_decide_eq_true (by first | (with_reducible assumption) | assumption)); (try simp only [Go.IntWalk.toNatUp] at hy_ hz_); (try simp only [Int.reduceToNat, Int.toNat_zero, Int.toNat_ofNat] at hy_ hz_); first | (go_simp; done) | (go_simp; rfl))); intro w25 hw; have hg : wr.grownBy w25 (some go23) := (by rw [hw]; exact HP24.2); have hp_ : Kd.R (Kd.int .u64) 27 w25 w.heap.size (fun _ => True) (.slice (some ⟨go23, 0, none⟩) x5_2.length co23) y396 := (by rw [hw, Ny396.out]; exact HP24.1); clear HP24; have n0_ := Aside0.mk (hp_); have n1_ := Aside0.mk ((by rw [hw]; exact below_set (HB.out) GB23.out : Below w.heap.size w w25)); clear HO_5; clear HB; have HO_5 := n0_; have HB := n1_; clear n0_ n1_; clear hg hw hp_)))
           first | go_roundg k2 | ((try simp only [← hji20] at H'); simp only [← hji20]; go_roundg k2) | ((try simp only [← hji10] at H'); simp only [← hji10]; go_roundg k2) | ((try simp only [← hji3] at H'); simp only [← hji3]; go_roundg k2)
           case measure => have := HK1.out; have := HK2.out; omega
           case rel => first | exact ⟨(y396), (wrap64 (x6_1 + 1)), (by first | rfl | (simp; done) | (simp [*]; done)), H', ⟨by have := HK1.out; have := HK2.out; omega⟩, ⟨uR HO_5.out⟩, ⟨uB⟩⟩ | (simp only [← hji20] at H'; exact ⟨(y396), (wrap64 (x6_1 + 1)), (by first | rfl | (simp; done) | (simp [*]; done)), H', ⟨by have := HK1.out; have := HK2.out; omega⟩, ⟨uR HO_5.out⟩, ⟨uB⟩⟩) | (simp only [← hji10] at H'; exact ⟨(y396), (wrap64 (x6_1 + 1)), (by first | rfl | (simp; done) | (simp [*]; done)), H', ⟨by have := HK1.out; have := HK2.out; omega⟩, ⟨uR HO_5.out⟩, ⟨uB⟩⟩) | (simp only [← hji3] at H'; exact ⟨(y396), (wrap64 (x6_1 + 1)), (by first | rfl | (simp; done) | (simp [*]; done)), H', ⟨by have := HK1.out; have := HK2.out; omega⟩, ⟨uR HO_5.out⟩, ⟨uB⟩⟩)
          ·
           rw [if_neg c22] at H
           exact absurd H (by simp)
         ·
          rw [if_neg c21] at H
          exact absurd H (by simp)
     ·
      rw [if_neg c8] at H
      have c8b0 : decide (x6_1 < (l0.length : Int)) = false := decide_eq_false c8
      clear c8
      replace H := Option.bind_eq_some_iff.mp H
      obtain ⟨t389, A260, H⟩ := H
      replace H : (some t389) = some r := H
      have A26 := Aside0.mk A260; clear A260
      obtain rfl := Option.some.inj H
      obtain ⟨Ao27, co27, eo27⟩ := Kd.R_slice HO_5.out
      subst eo27
      go_wp2_with (first | (go_at_call 99; (with_reducible refine (windbreakref01_cut.calls k1 (fun k_ => some k_ = (.slice Ao27 x5_1.length co27 : Value).ownBlock) (.slice Ao27 x5_1.length co27) x5_1 t389 w _ ?side1 ?side2 A26.out).mono ?_); (case side1 => repeat (first | (with_reducible first | exact HB.out | apply below_alloc | apply pw_below_drewN | apply below_drew1) | exact HB.out)); (case side2 => exact Kd.R_tight rfl HO_5.out); rintro e w28 ⟨v390, rfl, ho0, hb, hkp⟩; have n0_ := Aside0.mk (Kd.R_mono (ok' := fun k_ => True) ho0 (fun k_ hk_ => trivial)); have n1_ := Aside0.mk (hb); clear HB; clear HO_5; have HO391 := n0_; have HB := n1_; clear n0_ n1_; (try clear hb); (try clear hkp); (try clear ho0)))
      repeat (go_quiet (first | (go_at_call 99; (with_reducible refine (windbreakref01_cut.calls k1 (fun k_ => some k_ = (.slice Ao27 x5_1.length co27 : Value).ownBlock) (.slice Ao27 x5_1.length co27) x5_1 t389 w _ ?side1 ?side2 A26.out).mono ?_); (case side1 => repeat (first | (with_reducible first | exact HB.out | apply below_alloc | apply pw_below_drewN | apply below_drew1) | exact HB.out)); (case side2 => exact Kd.R_tight rfl HO_5.out); rintro e w28 ⟨v390, rfl, ho0, hb, hkp⟩; have n0_ := Aside0.mk (Kd.R_mono (ok' := fun k_ => True) ho0 (fun k_ hk_ => trivial)); have n1_ := Aside0.mk (hb); clear HB; clear HO_5; have HO391 := n0_; have HB := n1_; clear n0_ n1_; (try clear hb); (try clear hkp); (try clear ho0))); try go_wp2_with (first | (go_at_call 99; (with_reducible refine (windbreakref01_cut.calls k1 (fun k_ => some k_ = (.slice Ao27 x5_1.length co27 : Value).ownBlock) (.slice Ao27 x5_1.length co27) x5_1 t389 w _ ?side1 ?side2 A26.out).mono ?_); (case side1 => repeat (first | (with_reducible first | exact HB.out | apply below_alloc | apply pw_below_drewN | apply below_drew1) | exact HB.out)); (case side2 => exact Kd.R_tight rfl HO_5.out); rintro e w28 ⟨v390, rfl, ho0, hb, hkp⟩; have n0_ := Aside0.mk (Kd.R_mono (ok' := fun k_ => True) ho0 (fun k_ hk_ => trivial)); have n1_ := Aside0.mk (hb); clear HB; clear HO_5; have HO391 := n0_; have HB := n1_; clear n0_ n1_; (try clear hb); (try clear hkp); (try clear ho0))))
      go_ret
      exact ⟨_, by first | rfl | (simp [errW_none, errW_some] <;> rfl) | (simp only [← hji3]; first | rfl | (simp [errW_none, errW_some] <;> rfl)) | (simp [*, errW_none, errW_some] <;> rfl), uR HO391.out, uB⟩
  ·
   rw [if_neg c5] at H
   exact absurd H (by simp)
 ·
  rw [if_neg c4] at H
  exact absurd H (by simp)

end Go.Proofs.Ytgeanpnkllnipab.F
end

section
namespace Go.Proofs.Ytgeanpnkllnipab.F
open Go.RowKit Go.Proofs.YtgeanpnkllnipabW.PrintWords Go.Proofs.YtgeanpnkllnipabW.PrintLast Go.Proofs.YtgeanpnkllnipabW.PrintMore
attribute [local go_sem] max2_int min2_int max_two min_two max_three min_three max_four min_four
set_option linter.unusedVariables false
set_option linter.unusedSimpArgs false

def windbreakref01_Shl.j0 : Nat → List Int → Int → Bool → Option (List Int × Int)
 | 0, _, _, _ => none
 | k + 1, x0, x1, x14 => if x14 = true then (some (([] : List Int), 1)) else (if (x0.length : Int) = 0 then (some (([] : List Int), 0)) else (if x1 > 4096 then (some (([] : List Int), 4)) else ((windbreakref01_In.f k x0).bind fun t535 => ((windbreakref01_power.f k x1).bind fun t538 => ((windbreakref01_mul.f k t535 t538).bind fun t541 => ((windbreakref01_told.f k t541).bind fun bt544 => (some (bt544.1, bt544.2))))))))
def windbreakref01_Shl.f (k : Nat) (l0 : List Int) (a1 : Int) : Option (List Int × Int) := (windbreakref01_Right.f l0).bind fun t534 => (if t534 = true then (windbreakref01_Shl.j0 k l0 a1 (decide (a1 < 0))) else (windbreakref01_Shl.j0 k l0 a1 true))
set_option maxHeartbeats 8000000 in
set_option maxRecDepth 100000 in
theorem windbreakref01_Shl.calls (k : Nat) (A0 : Option Addr) (c0 : Nat) (l0 : List Int) (a1 : Int) (r1 : List Int) (r2 : Int) (w : World) (hr0 : Kd.C (Kd.int .u64) w A0 l0.length l0) (hc0 : l0.length ≤ c0) (h : windbreakref01_Shl.f k l0 a1 = some (r1, r2)) :
  Calls Try.prog 44 #[.slice A0 l0.length c0, .int .i64 a1] w fun e w' => ∃ v0_ : Value, e = .returned (.tuple #[v0_, .int .i64 r2]) ∧ Kd.R (Kd.int .u64) 27 w' w.heap.size (fun _ => True) v0_ r1 ∧ Below w.heap.size w w' := by
 have HR0 := Aside0.mk hr0; have HC0 := Aside0.mk hc0; clear hr0 hc0
 have HB := Aside0.mk (Below.refl w.heap.size w)
 have H : ((windbreakref01_Right.f l0).bind fun t534 => (if t534 = true then (windbreakref01_Shl.j0 k l0 a1 (decide (a1 < 0))) else (windbreakref01_Shl.j0 k l0 a1 true))) = some (r1, r2) := h
 clear h
 replace H := Option.bind_eq_some_iff.mp H
 obtain ⟨t534, A30, H⟩ := H
 replace H : (if t534 = true then (windbreakref01_Shl.j0 k l0 a1 (decide (a1 < 0))) else (windbreakref01_Shl.j0 k l0 a1 true)) = some (r1, r2) := H
 have A3 := Aside0.mk A30; clear A30; have HC4 := Aside0.mk H; clear H
 go_enter Try.func44, Try.ntmps44
 go_upto_region 2 with (first | ((with_reducible refine gate_callee (f := 50) rfl ?_); refine goesL_ (some 8) rfl rfl Try.func50 (by kernel_rfl) rfl #[.slice A0 l0.length c0] rfl uM ?_; (with_reducible refine (windbreakref01_Right.calls _ _ l0 t534 _ ?side1 ?side2 A3.out).mono ?_); (case side1 => exact uC HR0.out); (case side2 => exact HC0.out); rintro e w' ⟨rfl, ⟨nd, rfl⟩⟩; refine ⟨_, rfl, ?_⟩))
 (try simp only [Act.put, List.setIfInBounds_toArray, List.set_cons_zero, List.set_cons_succ])
 go_cut [14] (fun v14 wc => ∃ (kq : Nat) (x14_3 : Bool), v14 = .bool x14_3 ∧ Aside0 (windbreakref01_Shl.j0 kq l0 a1 x14_3 = some (r1, r2)) ∧ Aside0 (kq ≤ k) ∧ Aside0 (Below w.heap.size w wc))
 case first =>
  have H := HC4.out
  clear HC4
  by_cases c5 : t534 = true
  ·
   subst c5
   have H1 : (windbreakref01_Shl.j0 k l0 a1 (decide (a1 < 0))) = some (r1, r2) := by rw [if_pos rfl] at H; exact H
   clear H; have H := H1; clear H1
   have H' := Aside0.mk H
   clear H
   go_wp2
   go_meet
   case rel => exact ⟨_, (decide (a1 < 0)), (by first | rfl | (simp; done) | (simp [*]; done)), H', ⟨by first | omega | exact Nat.le_refl _⟩, ⟨uB⟩⟩
  ·
   replace c5 := Bool.eq_false_iff.mpr c5
   subst c5
   have H1 : (windbreakref01_Shl.j0 k l0 a1 true) = some (r1, r2) := by rw [if_neg (show ¬ (false = true) by decide)] at H; exact H
   clear H; have H := H1; clear H1
   have H' := Aside0.mk H
   clear H
   go_wp2
   go_meet
   case rel => exact ⟨_, (true), (by first | rfl | (simp; done) | (simp [*]; done)), H', ⟨by first | omega | exact Nat.le_refl _⟩, ⟨uB⟩⟩
 case rest =>
  clear HC4
  try clear p2
  try clear c4
  try clear c5
  obtain ⟨kq, x14_3, rfl, HA, HJ3, HB⟩ := hcut
  cases kq with
  | zero => exact absurd HA.out (by simp [windbreakref01_Shl.j0])
  | succ kj3 =>
   have H := HA.out
   clear HA
   simp only [windbreakref01_Shl.j0] at H
   by_cases c6 : x14_3 = true
   ·
    subst c6
    have H1 : (some (([] : List Int), 1)) = some (r1, r2) := by rw [if_pos rfl] at H; exact H
    clear H; have H := H1; clear H1
    simp only [Option.some.injEq, Prod.mk.injEq] at H
    obtain ⟨rfl, rfl⟩ := H
    go_wp2
    go_ret2
    exact ⟨_, by first | rfl | (simp [errW_none, errW_some] <;> rfl) | (simp [*, errW_none, errW_some] <;> rfl), by first | exact Kd.R_nil _ _ _ _ _ | exact Kd.N_nil _ _ _ _ _ | exact Kd.V_nil _ _ _ _ _ | exact Kd.Q_nil _ _ _ _ _ | exact Kd.S_nil _ _ _ _ _, uB⟩
   ·
    replace c6 := Bool.eq_false_iff.mpr c6
    subst c6
    have H1 : (if (l0.length : Int) = 0 then (some (([] : List Int), 0)) else (if a1 > 4096 then (some (([] : List Int), 4)) else ((windbreakref01_In.f kj3 l0).bind fun t535 => ((windbreakref01_power.f kj3 a1).bind fun t538 => ((windbreakref01_mul.f kj3 t535 t538).bind fun t541 => ((windbreakref01_told.f kj3 t541).bind fun bt544 => (some (bt544.1, bt544.2)))))))) = some (r1, r2) := by rw [if_neg (show ¬ (false = true) by decide)] at H; exact H
    clear H; have H := H1; clear H1
    by_cases c7 : (l0.length : Int) = 0
    ·
     rw [if_pos c7] at H
     have c7b0 : ((l0.length : Int) == 0) = true := beq_iff_eq.mpr c7
     have c7b1 : ((l0.length : Int) != 0) = false := bne_eq_false_iff_eq.mpr c7
     clear c7
     simp only [Option.some.injEq, Prod.mk.injEq] at H
     obtain ⟨rfl, rfl⟩ := H
     go_wp2
     go_ret2
     exact ⟨_, by first | rfl | (simp [errW_none, errW_some] <;> rfl) | (simp [*, errW_none, errW_some] <;> rfl), by first | exact Kd.R_nil _ _ _ _ _ | exact Kd.N_nil _ _ _ _ _ | exact Kd.V_nil _ _ _ _ _ | exact Kd.Q_nil _ _ _ _ _ | exact Kd.S_nil _ _ _ _ _, uB⟩
    ·
     rw [if_neg c7] at H
     have c7b0 : ((l0.length : Int) == 0) = false := beq_eq_false_iff_ne.mpr c7
     have c7b1 : ((l0.length : Int) != 0) = true := bne_iff_ne.mpr c7
     have c7b2 : ¬ (l0 = []) := fun h_ => c7 (by rw [h_]; rfl)
     by_cases c8 : a1 > 4096
     ·
      rw [if_pos c8] at H
      have c8b0 : decide (4096 < a1) = true := decide_eq_true c8
      clear c8
      simp only [Option.some.injEq, Prod.mk.injEq] at H
      obtain ⟨rfl, rfl⟩ := H
      go_wp2
      go_ret2
      exact ⟨_, by first | rfl | (simp [errW_none, errW_some] <;> rfl) | (simp [*, errW_none, errW_some] <;> rfl), by first | exact Kd.R_nil _ _ _ _ _ | exact Kd.N_nil _ _ _ _ _ | exact Kd.V_nil _ _ _ _ _ | exact Kd.Q_nil _ _ _ _ _ | exact Kd.S_nil _ _ _ _ _, uB⟩
     ·
      rw [if_neg c8] at H
      have c8b0 : decide (4096 < a1) = false := decide_eq_false c8
      clear c8
      replace H := Option.bind_eq_some_iff.mp H
      obtain ⟨t535, A90, H⟩ := H
      replace H : ((windbreakref01_power.f kj3 a1).bind fun t538 => ((windbreakref01_mul.f kj3 t535 t538).bind fun t541 => ((windbreakref01_told.f kj3 t541).bind fun bt544 => (some (bt544.1, bt544.2))))) = some (r1, r2) := H
      have A9 := Aside0.mk A90; clear A90
      replace H := Option.bind_eq_some_iff.mp H
      obtain ⟨t538, A100, H⟩ := H
      replace H : ((windbreakref01_mul.f kj3 t535 t538).bind fun t541 => ((windbreakref01_told.f kj3 t541).bind fun bt544 => (some (bt544.1, bt544.2)))) = some (r1, r2) := H
      have A10 := Aside0.mk A100; clear A100
      replace H := Option.bind_eq_some_iff.mp H
      obtain ⟨t541, A110, H⟩ := H
      replace H : ((windbreakref01_told.f kj3 t541).bind fun bt544 => (some (bt544.1, bt544.2))) = some (r1, r2) := H
      have A11 := Aside0.mk A110; clear A110
      replace H := Option.bind_eq_some_iff.mp H
      obtain ⟨⟨t544, t545⟩, A120, H⟩ := H
      replace H : (some (t544, t545)) = some (r1, r2) := H
      have A12 := Aside0.mk A120; clear A120
      simp only [Option.some.injEq, Prod.mk.injEq] at H
      obtain ⟨rfl, rfl⟩ := H
      go_wp2_with (first | ((with_reducible refine gate_callee (f := 54) rfl ?_); refine goesL_ (some 21) rfl rfl Try.func54 (by kernel_rfl) rfl #[.slice A0 l0.length c0] rfl uM ?_; (with_reducible refine (windbreakref01_In.calls kj3 _ _ l0 t535 _ ?side1 ?side2 A9.out).mono ?_); (case side1 => exact uC (Kd.C_below HR0.out HB.out)); (case side2 => exact HC0.out); rintro e w13 ⟨v536, rfl, ho0, hb⟩; refine ⟨_, rfl, ?_⟩; have n0_ := Aside0.mk (Kd.R_lower ho0 (below_size uB)); have n1_ := Aside0.mk (below_step uB hb); clear HB; have HO537 := n0_; have HB := n1_; clear n0_ n1_; (try clear hb); (try clear hb2); (try clear hk); (try clear hi); (try clear ho0)) | ((with_reducible refine gate_callee (f := 92) rfl ?_); refine goesL_ (some 23) rfl rfl Try.func92 (by kernel_rfl) rfl #[.int .i64 a1] rfl uM ?_; (with_reducible refine (windbreakref01_power.calls kj3 a1 t538 _ A10.out).mono ?_); rintro e w14 ⟨v539, rfl, ho0, hb⟩; refine ⟨_, rfl, ?_⟩; have n0_ := Aside0.mk (Kd.R_elder' (uR HO537.out) (Kd.R_base ho0) hb); have n1_ := Aside0.mk (Kd.R_lower (Kd.R_new' ho0 (Kd.R_lt (uR HO537.out))) (below_size uB)); have n2_ := Aside0.mk (below_step uB hb); clear HO537; clear HB; have HO537 := n0_; have HO540 := n1_; have HB := n2_; clear n0_ n1_ n2_; (try clear hb); (try clear hb2); (try clear hk); (try clear hi); (try clear ho0); obtain ⟨Ao15, co15, eo15⟩ := Kd.R_slice HO537.out; subst eo15; obtain ⟨Ao16, co16, eo16⟩ := Kd.R_slice HO540.out; subst eo16) | ((with_reducible refine gate_callee (f := 91) rfl ?_); refine goesL_ (some 24) rfl rfl Try.func91 (by kernel_rfl) rfl #[.slice Ao15 t535.length co15, .slice Ao16 t538.length co16] rfl uM ?_; (with_reducible refine (windbreakref01_mul.calls kj3 _ _ t535 _ _ t538 t541 _ ?side1 ?side2 ?side3 ?side4 A11.out).mono ?_); (case side1 => exact uC (Kd.R_reads' HO537.out).2.2); (case side2 => exact (Kd.R_reads' HO537.out).2.1); (case side3 => exact uC (Kd.R_reads' HO540.out).2.2); (case side4 => exact (Kd.R_reads' HO540.out).2.1); rintro e w17 ⟨v542, rfl, ho0, hb⟩; refine ⟨_, rfl, ?_⟩; have n0_ := Aside0.mk (Kd.R_elder' (uR HO537.out) (Kd.R_base ho0) hb); have n1_ := Aside0.mk (Kd.R_elder' (uR HO540.out) (Kd.R_base ho0) hb); have n2_ := Aside0.mk (Kd.R_lower (Kd.R_new' (Kd.R_new' ho0 (Kd.R_lt (uR HO537.out))) (Kd.R_lt (uR HO540.out))) (below_size uB)); have n3_ := Aside0.mk (below_step uB hb); clear HO537; clear HO540; clear HB; have HO537 := n0_; have HO540 := n1_; have HO543 := n2_; have HB := n3_; clear n0_ n1_ n2_ n3_; (try clear hb); (try clear hb2); (try clear hk); (try clear hi); (try clear ho0); obtain ⟨Ao18, co18, eo18⟩ := Kd.R_slice HO543.out; subst eo18) | ((with_reducible refine gate_callee (f := 52) rfl ?_); refine goesL_ (some 25) rfl rfl Try.func52 (by kernel_rfl) rfl #[.slice Ao18 t541.length co18] rfl uM ?_; (with_reducible refine (windbreakref01_told.calls kj3 _ _ t541 t544 t545 _ ?side1 ?side2 A12.out).mono ?_); (case side1 => exact uC (Kd.R_reads' HO543.out).2.2); (case side2 => exact (Kd.R_reads' HO543.out).2.1); rintro e w19 ⟨v546, rfl, ho0, hb⟩; refine ⟨_, rfl, ?_⟩; have n0_ := Aside0.mk (Kd.R_elder' (uR HO537.out) (Kd.R_base ho0) hb); have n1_ := Aside0.mk (Kd.R_elder' (uR HO540.out) (Kd.R_base ho0) hb); have n2_ := Aside0.mk (Kd.R_elder' (uR HO543.out) (Kd.R_base ho0) hb); have n3_ := Aside0.mk (Kd.R_lower (Kd.R_new' (Kd.R_new' (Kd.R_new' ho0 (Kd.R_lt (uR HO537.out))) (Kd.R_lt (uR HO540.out))) (Kd.R_lt (uR HO543.out))) (below_size uB)); have n4_ := Aside0.mk (below_step uB hb); clear HO537; clear HO540; clear HO543; clear HB; have HO537 := n0_; have HO540 := n1_; have HO543 := n2_; have HO547 := n3_; have HB := n4_; clear n0_ n1_ n2_ n3_ n4_; (try clear hb); (try clear hb2); (try clear hk); (try clear hi); (try clear ho0)))
      go_ret2
      exact ⟨_, by first | rfl | (simp [errW_none, errW_some] <;> rfl) | (simp [*, errW_none, errW_some] <;> rfl), by (with_reducible repeat (first | apply Kd.R_alloc | apply Kd.R_drewN | apply Kd.R_drew)); exact Kd.R_mono HO547.out (fun _ hk => trivial), uB⟩

end Go.Proofs.Ytgeanpnkllnipab.F
end

section
namespace Go.Proofs.Ytgeanpnkllnipab.F
open Go.RowKit Go.Proofs.YtgeanpnkllnipabW.PrintWords Go.Proofs.YtgeanpnkllnipabW.PrintLast Go.Proofs.YtgeanpnkllnipabW.PrintMore
attribute [local go_sem] max2_int min2_int max_two min_two max_three min_three max_four min_four
set_option linter.unusedVariables false
set_option linter.unusedSimpArgs false

def windbreakref07_power.f (k : Nat) (a0 : Int) : Option (Bool × List Int) := (windbreakref01_Of.f 1).bind fun t813 => ((windbreakref01_Shl.f k t813 a0).bind fun bt816 => ((windbreakref03_From.f false bt816.1).bind fun bt820 => (some (bt820.1, bt820.2))))
set_option maxHeartbeats 8000000 in
set_option maxRecDepth 100000 in
theorem windbreakref07_power.calls (k : Nat) (a0 : Int) (r1 : Bool) (r2 : List Int) (w : World) (h : windbreakref07_power.f k a0 = some (r1, r2)) :
  Calls Try.prog 62 #[.int .i64 a0] w fun e w' => ∃ v1_ : Value, e = .returned (.agg #[.bool r1, v1_]) ∧ Kd.R (Kd.int .u64) 27 w' w.heap.size (fun _ => True) v1_ r2 ∧ Below w.heap.size w w' := by
 have hu52 := Try.underlying52
 have HB := Aside0.mk (Below.refl w.heap.size w)
 have H : ((windbreakref01_Of.f 1).bind fun t813 => ((windbreakref01_Shl.f k t813 a0).bind fun bt816 => ((windbreakref03_From.f false bt816.1).bind fun bt820 => (some (bt820.1, bt820.2))))) = some (r1, r2) := h
 clear h
 replace H := Option.bind_eq_some_iff.mp H
 obtain ⟨t813, A20, H⟩ := H
 replace H : ((windbreakref01_Shl.f k t813 a0).bind fun bt816 => ((windbreakref03_From.f false bt816.1).bind fun bt820 => (some (bt820.1, bt820.2)))) = some (r1, r2) := H
 have A2 := Aside0.mk A20; clear A20
 replace H := Option.bind_eq_some_iff.mp H
 obtain ⟨⟨t816, t817⟩, A30, H⟩ := H
 replace H : ((windbreakref03_From.f false t816).bind fun bt820 => (some (bt820.1, bt820.2))) = some (r1, r2) := H
 have A3 := Aside0.mk A30; clear A30
 replace H := Option.bind_eq_some_iff.mp H
 obtain ⟨⟨t820, t821⟩, A40, H⟩ := H
 replace H : (some (t820, t821)) = some (r1, r2) := H
 have A4 := Aside0.mk A40; clear A40
 simp only [Option.some.injEq, Prod.mk.injEq] at H
 obtain ⟨rfl, rfl⟩ := H
 go_enter Try.func62, Try.ntmps62
 go_wp2_with (first | ((with_reducible refine gate_dst (N := 2) rfl ?_); refine box_event ?hg (N := 2) ?hd (cs := #[.bool false, .slice none 0 0]) (t := 52) ?hr ?_; (case hd => rfl); (case hg => rfl); (case hr => first | (go_simp; done) | (go_simp; rfl)); intro gb812 hg w5 hbox hb; have n0_ := Aside0.mk (below_step uB hb); have n1_ := Aside0.mk (hbox); have n2_ := Aside0.mk ((by rw [hg]; exact (below_size uB) : w.heap.size ≤ gb812)); have n3_ := Aside0.mk ((by rw [hg]; exact (below_size uB) : w.heap.size ≤ gb812)); clear HB; have HB := n0_; have BK812 := n1_; have GW812 := n2_; have GE812 := n3_; clear n0_ n1_ n2_ n3_; clear hb hbox hg) | ((with_reducible refine gate_callee (f := 94) rfl ?_); refine goesL_ (some 6) rfl rfl Try.func94 (by kernel_rfl) rfl #[.int .u64 1] rfl uM ?_; (with_reducible refine (windbreakref01_Of.calls 1 t813 _ A2.out).mono ?_); rintro e w6 ⟨v814, rfl, ho0, hb⟩; refine ⟨_, rfl, ?_⟩; have n0_ := Aside0.mk (Kd.R_lower ho0 (below_size uB)); have n1_ := Aside0.mk (blk_below (uK BK812.out) hb); have n2_ := Aside0.mk (below_step uB hb); clear BK812; clear HB; have HO815 := n0_; have BK812 := n1_; have HB := n2_; clear n0_ n1_ n2_; (try clear hb); (try clear hb2); (try clear hk); (try clear hi); (try clear ho0); obtain ⟨Ao7, co7, eo7⟩ := Kd.R_slice HO815.out; subst eo7) | ((with_reducible refine gate_callee (f := 44) rfl ?_); refine goesL_ (some 8) rfl rfl Try.func44 (by kernel_rfl) rfl #[.slice Ao7 t813.length co7, .int .i64 a0] rfl uM ?_; (with_reducible refine (windbreakref01_Shl.calls k _ _ t813 a0 t816 t817 _ ?side1 ?side2 A3.out).mono ?_); (case side1 => exact uC (Kd.R_reads' HO815.out).2.2); (case side2 => exact (Kd.R_reads' HO815.out).2.1); rintro e w8 ⟨v818, rfl, ho0, hb⟩; refine ⟨_, rfl, ?_⟩; have n0_ := Aside0.mk (Kd.R_elder' (uR HO815.out) (Kd.R_base ho0) hb); have n1_ := Aside0.mk (Kd.R_lower (Kd.R_new' ho0 (Kd.R_lt (uR HO815.out))) (below_size uB)); have n2_ := Aside0.mk (blk_below (uK BK812.out) hb); have n3_ := Aside0.mk (below_step uB hb); clear HO815; clear BK812; clear HB; have HO815 := n0_; have HO819 := n1_; have BK812 := n2_; have HB := n3_; clear n0_ n1_ n2_ n3_; (try clear hb); (try clear hb2); (try clear hk); (try clear hi); (try clear ho0); obtain ⟨Ao9, co9, eo9⟩ := Kd.R_slice HO819.out; subst eo9) | ((with_reducible refine gate_callee (f := 104) rfl ?_); refine goesL_ (some 12) rfl rfl Try.func104 (by kernel_rfl) rfl #[.bool false, .slice Ao9 t816.length co9] rfl uM ?_; (with_reducible refine (windbreakref03_From.calls false _ _ t816 t820 t821 _ ?side1 ?side2 A4.out).mono ?_); (case side1 => exact uC (Kd.R_reads' HO819.out).2.2); (case side2 => exact (Kd.R_reads' HO819.out).2.1); rintro e w10 ⟨v822, rfl, ho0, hb⟩; refine ⟨_, rfl, ?_⟩; have n0_ := Aside0.mk (Kd.R_elder' (uR HO815.out) (Kd.R_base ho0) hb); have n1_ := Aside0.mk (Kd.R_elder' (uR HO819.out) (Kd.R_base ho0) hb); have n2_ := Aside0.mk (Kd.R_lower (Kd.R_new' (Kd.R_new' ho0 (Kd.R_lt (uR HO815.out))) (Kd.R_lt (uR HO819.out))) (below_size uB)); have n3_ := Aside0.mk (blk_below (uK BK812.out) hb); have n4_ := Aside0.mk (below_step uB hb); clear HO815; clear HO819; clear BK812; clear HB; have HO815 := n0_; have HO819 := n1_; have HO823 := n2_; have BK812 := n3_; have HB := n4_; clear n0_ n1_ n2_ n3_ n4_; (try clear hb); (try clear hb2); (try clear hk); (try clear hi); (try clear ho0); have hcz11_0 : w10.cell? ⟨gb812, 0, none⟩ = some (.bool false) := (blk_cell BK812.out 0).trans rfl; have hcz11_1 : w10.cell? ⟨gb812, 1, none⟩ = some (.slice none 0 0) := (blk_cell BK812.out 1).trans rfl; have hfz11_0 := blk_frozen BK812.out 0; have hfz11_1 := blk_frozen BK812.out 1; obtain ⟨Ao12, co12, eo12⟩ := Kd.R_slice HO823.out; subst eo12))
 refine bodyPost_ret (results_cell_row rfl _ _ gb812 52 #[.bool t820, .slice Ao12 t821.length co12] (0, 0) _ rfl (by (with_reducible repeat (first | refine blk_drewN ?_ _ | refine blk_drew ?_ | refine blk_alloc ?_ _)); refine blk_put (cs := #[.bool t820, .slice none 0 0]) ?_ 1 _ rfl; (with_reducible repeat (first | refine blk_drewN ?_ _ | refine blk_drew ?_ | refine blk_alloc ?_ _)); refine blk_put (cs := #[.bool false, .slice none 0 0]) ?_ 0 _ rfl; (with_reducible repeat (first | refine blk_drewN ?_ _ | refine blk_drew ?_ | refine blk_alloc ?_ _)); exact BK812.out) Try.underlying52 rfl (by kernel_rfl)) rfl ?_
 exact ⟨_, by first | rfl | (simp [errW_none, errW_some] <;> rfl) | (simp [*, errW_none, errW_some] <;> rfl), by (with_reducible repeat (first | apply Kd.R_alloc | apply Kd.R_drewN | apply Kd.R_drew)); exact Kd.R_mono (Kd.R_far (p := ⟨gb812, 1, none⟩) (Kd.R_far (p := ⟨gb812, 0, none⟩) (Kd.R_types HO823.out BK812.out (by decide)) (fun _ hk => hk.2) (.bool t820)) (fun _ hk => hk.2) (.slice Ao12 t821.length co12)) (fun _ hk => trivial), uB⟩

end Go.Proofs.Ytgeanpnkllnipab.F
end

section
namespace Go.Proofs.Ytgeanpnkllnipab.F
open Go.RowKit Go.Proofs.YtgeanpnkllnipabW.PrintWords Go.Proofs.YtgeanpnkllnipabW.PrintLast Go.Proofs.YtgeanpnkllnipabW.PrintMore
attribute [local go_sem] max2_int min2_int max_two min_two max_three min_three max_four min_four
set_option linter.unusedVariables false
set_option linter.unusedSimpArgs false

def windbreakref01_Mul.j0 : Nat → List Int → List Int → Bool → Option (List Int × Int)
 | 0, _, _, _ => none
 | k + 1, x0, x1, x17 => if x17 = true then (some (([] : List Int), 1)) else ((windbreakref01_In.f k x0).bind fun t503 => ((windbreakref01_In.f k x1).bind fun t506 => ((windbreakref01_mul.f k t503 t506).bind fun t509 => ((windbreakref01_told.f k t509).bind fun bt512 => (some (bt512.1, bt512.2))))))
def windbreakref01_Mul.f (k : Nat) (l0 : List Int) (l1 : List Int) : Option (List Int × Int) := (windbreakref01_Right.f l0).bind fun t501 => ((windbreakref01_Right.f l1).bind fun t502 => (if t501 = true then (windbreakref01_Mul.j0 k l0 l1 (!t502)) else (windbreakref01_Mul.j0 k l0 l1 true)))
set_option maxHeartbeats 8000000 in
set_option maxRecDepth 100000 in
theorem windbreakref01_Mul.calls (k : Nat) (A0 : Option Addr) (c0 : Nat) (l0 : List Int) (A1 : Option Addr) (c1 : Nat) (l1 : List Int) (r1 : List Int) (r2 : Int) (w : World) (hr0 : Kd.C (Kd.int .u64) w A0 l0.length l0) (hc0 : l0.length ≤ c0) (hr1 : Kd.C (Kd.int .u64) w A1 l1.length l1) (hc1 : l1.length ≤ c1) (h : windbreakref01_Mul.f k l0 l1 = some (r1, r2)) :
  Calls Try.prog 46 #[.slice A0 l0.length c0, .slice A1 l1.length c1] w fun e w' => ∃ v0_ : Value, e = .returned (.tuple #[v0_, .int .i64 r2]) ∧ Kd.R (Kd.int .u64) 27 w' w.heap.size (fun _ => True) v0_ r1 ∧ Below w.heap.size w w' := by
 have HR0 := Aside0.mk hr0; have HC0 := Aside0.mk hc0; clear hr0 hc0; have HR1 := Aside0.mk hr1; have HC1 := Aside0.mk hc1; clear hr1 hc1
 have HB := Aside0.mk (Below.refl w.heap.size w)
 have H : ((windbreakref01_Right.f l0).bind fun t501 => ((windbreakref01_Right.f l1).bind fun t502 => (if t501 = true then (windbreakref01_Mul.j0 k l0 l1 (!t502)) else (windbreakref01_Mul.j0 k l0 l1 true)))) = some (r1, r2) := h
 clear h
 replace H := Option.bind_eq_some_iff.mp H
 obtain ⟨t501, A30, H⟩ := H
 replace H : ((windbreakref01_Right.f l1).bind fun t502 => (if t501 = true then (windbreakref01_Mul.j0 k l0 l1 (!t502)) else (windbreakref01_Mul.j0 k l0 l1 true))) = some (r1, r2) := H
 have A3 := Aside0.mk A30; clear A30
 replace H := Option.bind_eq_some_iff.mp H
 obtain ⟨t502, A40, H⟩ := H
 replace H : (if t501 = true then (windbreakref01_Mul.j0 k l0 l1 (!t502)) else (windbreakref01_Mul.j0 k l0 l1 true)) = some (r1, r2) := H
 have A4 := Aside0.mk A40; clear A40; have HC5 := Aside0.mk H; clear H
 go_enter Try.func46, Try.ntmps46
 go_upto_region 3 with (first | ((with_reducible refine gate_callee (f := 50) rfl ?_); refine goesL_ (some 9) rfl rfl Try.func50 (by kernel_rfl) rfl #[.slice A0 l0.length c0] rfl uM ?_; (with_reducible refine (windbreakref01_Right.calls _ _ l0 t501 _ ?side1 ?side2 A3.out).mono ?_); (case side1 => exact uC HR0.out); (case side2 => exact HC0.out); rintro e w' ⟨rfl, ⟨nd, rfl⟩⟩; refine ⟨_, rfl, ?_⟩) | ((with_reducible refine gate_callee (f := 50) rfl ?_); refine goesL_ (some 11) rfl rfl Try.func50 (by kernel_rfl) rfl #[.slice A1 l1.length c1] rfl uM ?_; (with_reducible refine (windbreakref01_Right.calls _ _ l1 t502 _ ?side1 ?side2 A4.out).mono ?_); (case side1 => exact uC HR1.out); (case side2 => exact HC1.out); rintro e w' ⟨rfl, ⟨nd, rfl⟩⟩; refine ⟨_, rfl, ?_⟩))
 (try simp only [Act.put, List.setIfInBounds_toArray, List.set_cons_zero, List.set_cons_succ])
 go_cut [17] (fun v17 wc => ∃ (kq : Nat) (x17_4 : Bool), v17 = .bool x17_4 ∧ Aside0 (windbreakref01_Mul.j0 kq l0 l1 x17_4 = some (r1, r2)) ∧ Aside0 (kq ≤ k) ∧ Aside0 (Below w.heap.size w wc))
 case first =>
  have H := HC5.out
  clear HC5
  by_cases c6 : t501 = true
  ·
   subst c6
   have H1 : (windbreakref01_Mul.j0 k l0 l1 (!t502)) = some (r1, r2) := by rw [if_pos rfl] at H; exact H
   clear H; have H := H1; clear H1
   have H' := Aside0.mk H
   clear H
   go_wp2
   go_meet
   case rel => exact ⟨_, (!t502), (by first | rfl | (simp; done) | (simp [*]; done)), H', ⟨by first | omega | exact Nat.le_refl _⟩, ⟨uB⟩⟩
  ·
   replace c6 := Bool.eq_false_iff.mpr c6
   subst c6
   have H1 : (windbreakref01_Mul.j0 k l0 l1 true) = some (r1, r2) := by rw [if_neg (show ¬ (false = true) by decide)] at H; exact H
   clear H; have H := H1; clear H1
   have H' := Aside0.mk H
   clear H
   go_wp2
   go_meet
   case rel => exact ⟨_, (true), (by first | rfl | (simp; done) | (simp [*]; done)), H', ⟨by first | omega | exact Nat.le_refl _⟩, ⟨uB⟩⟩
 case rest =>
  clear HC5
  try clear c1
  try clear p2
  try clear c4
  try clear c5
  try clear c6
  obtain ⟨kq, x17_4, rfl, HA, HJ4, HB⟩ := hcut
  cases kq with
  | zero => exact absurd HA.out (by simp [windbreakref01_Mul.j0])
  | succ kj4 =>
   have H := HA.out
   clear HA
   simp only [windbreakref01_Mul.j0] at H
   by_cases c7 : x17_4 = true
   ·
    subst c7
    have H1 : (some (([] : List Int), 1)) = some (r1, r2) := by rw [if_pos rfl] at H; exact H
    clear H; have H := H1; clear H1
    simp only [Option.some.injEq, Prod.mk.injEq] at H
    obtain ⟨rfl, rfl⟩ := H
    go_wp2
    go_ret2
    exact ⟨_, by first | rfl | (simp [errW_none, errW_some] <;> rfl) | (simp [*, errW_none, errW_some] <;> rfl), by first | exact Kd.R_nil _ _ _ _ _ | exact Kd.N_nil _ _ _ _ _ | exact Kd.V_nil _ _ _ _ _ | exact Kd.Q_nil _ _ _ _ _ | exact Kd.S_nil _ _ _ _ _, uB⟩
   ·
    replace c7 := Bool.eq_false_iff.mpr c7
    subst c7
    have H1 : ((windbreakref01_In.f kj4 l0).bind fun t503 => ((windbreakref01_In.f kj4 l1).bind fun t506 => ((windbreakref01_mul.f kj4 t503 t506).bind fun t509 => ((windbreakref01_told.f kj4 t509).bind fun bt512 => (some (bt512.1, bt512.2)))))) = some (r1, r2) := by rw [if_neg (show ¬ (false = true) by decide)] at H; exact H
    clear H; have H := H1; clear H1
    replace H := Option.bind_eq_some_iff.mp H
    obtain ⟨t503, A80, H⟩ := H
    replace H : ((windbreakref01_In.f kj4 l1).bind fun t506 => ((windbreakref01_mul.f kj4 t503 t506).bind fun t509 => ((windbreakref01_told.f kj4 t509).bind fun bt512 => (some (bt512.1, bt512.2))))) = some (r1, r2) := H
    have A8 := Aside0.mk A80; clear A80
    replace H := Option.bind_eq_some_iff.mp H
    obtain ⟨t506, A90, H⟩ := H
    replace H : ((windbreakref01_mul.f kj4 t503 t506).bind fun t509 => ((windbreakref01_told.f kj4 t509).bind fun bt512 => (some (bt512.1, bt512.2)))) = some (r1, r2) := H
    have A9 := Aside0.mk A90; clear A90
    replace H := Option.bind_eq_some_iff.mp H
    obtain ⟨t509, A100, H⟩ := H
    replace H : ((windbreakref01_told.f kj4 t509).bind fun bt512 => (some (bt512.1, bt512.2))) = some (r1, r2) := H
    have A10 := Aside0.mk A100; clear A100
    replace H := Option.bind_eq_some_iff.mp H
    obtain ⟨⟨t512, t513⟩, A110, H⟩ := H
    replace H : (some (t512, t513)) = some (r1, r2) := H
    have A11 := Aside0.mk A110; clear A110
    simp only [Option.some.injEq, Prod.mk.injEq] at H
    obtain ⟨rfl, rfl⟩ := H
    go_wp2_with (first | ((with_reducible refine gate_callee (f := 54) rfl ?_); refine goesL_ (some 19) rfl rfl Try.func54 (by kernel_rfl) rfl #[.slice A0 l0.length c0] rfl uM ?_; (with_reducible refine (windbreakref01_In.calls kj4 _ _ l0 t503 _ ?side1 ?side2 A8.out).mono ?_); (case side1 => exact uC (Kd.C_below HR0.out HB.out)); (case side2 => exact HC0.out); rintro e w12 ⟨v504, rfl, ho0, hb⟩; refine ⟨_, rfl, ?_⟩; have n0_ := Aside0.mk (Kd.R_lower ho0 (below_size uB)); have n1_ := Aside0.mk (below_step uB hb); clear HB; have HO505 := n0_; have HB := n1_; clear n0_ n1_; (try clear hb); (try clear hb2); (try clear hk); (try clear hi); (try clear ho0)) | ((with_reducible refine gate_callee (f := 54) rfl ?_); refine goesL_ (some 21) rfl rfl Try.func54 (by kernel_rfl) rfl #[.slice A1 l1.length c1] rfl uM ?_; (with_reducible refine (windbreakref01_In.calls kj4 _ _ l1 t506 _ ?side1 ?side2 A9.out).mono ?_); (case side1 => exact uC (Kd.C_below HR1.out HB.out)); (case side2 => exact HC1.out); rintro e w13 ⟨v507, rfl, ho0, hb⟩; refine ⟨_, rfl, ?_⟩; have n0_ := Aside0.mk (Kd.R_elder' (uR HO505.out) (Kd.R_base ho0) hb); have n1_ := Aside0.mk (Kd.R_lower (Kd.R_new' ho0 (Kd.R_lt (uR HO505.out))) (below_size uB)); have n2_ := Aside0.mk (below_step uB hb); clear HO505; clear HB; have HO505 := n0_; have HO508 := n1_; have HB := n2_; clear n0_ n1_ n2_; (try clear hb); (try clear hb2); (try clear hk); (try clear hi); (try clear ho0); obtain ⟨Ao14, co14, eo14⟩ := Kd.R_slice HO505.out; subst eo14; obtain ⟨Ao15, co15, eo15⟩ := Kd.R_slice HO508.out; subst eo15) | ((with_reducible refine gate_callee (f := 91) rfl ?_); refine goesL_ (some 22) rfl rfl Try.func91 (by kernel_rfl) rfl #[.slice Ao14 t503.length co14, .slice Ao15 t506.length co15] rfl uM ?_; (with_reducible refine (windbreakref01_mul.calls kj4 _ _ t503 _ _ t506 t509 _ ?side1 ?side2 ?side3 ?side4 A10.out).mono ?_); (case side1 => exact uC (Kd.R_reads' HO505.out).2.2); (case side2 => exact (Kd.R_reads' HO505.out).2.1); (case side3 => exact uC (Kd.R_reads' HO508.out).2.2); (case side4 => exact (Kd.R_reads' HO508.out).2.1); rintro e w16 ⟨v510, rfl, ho0, hb⟩; refine ⟨_, rfl, ?_⟩; have n0_ := Aside0.mk (Kd.R_elder' (uR HO505.out) (Kd.R_base ho0) hb); have n1_ := Aside0.mk (Kd.R_elder' (uR HO508.out) (Kd.R_base ho0) hb); have n2_ := Aside0.mk (Kd.R_lower (Kd.R_new' (Kd.R_new' ho0 (Kd.R_lt (uR HO505.out))) (Kd.R_lt (uR HO508.out))) (below_size uB)); have n3_ := Aside0.mk (below_step uB hb); clear HO505; clear HO508; clear HB; have HO505 := n0_; have HO508 := n1_; have HO511 := n2_; have HB := n3_; clear n0_ n1_ n2_ n3_; (try clear hb); (try clear hb2); (try clear hk); (try clear hi); (try clear ho0); obtain ⟨Ao17, co17, eo17⟩ := Kd.R_slice HO511.out; subst eo17) | ((with_reducible refine gate_callee (f := 52) rfl ?_); refine goesL_ (some 23) rfl rfl Try.func52 (by kernel_rfl) rfl #[.slice Ao17 t509.length co17] rfl uM ?_; (with_reducible refine (windbreakref01_told.calls kj4 _ _ t509 t512 t513 _ ?side1 ?side2 A11.out).mono ?_); (case side1 => exact uC (Kd.R_reads' HO511.out).2.2); (case side2 => exact (Kd.R_reads' HO511.out).2.1); rintro e w18 ⟨v514, rfl, ho0, hb⟩; refine ⟨_, rfl, ?_⟩; have n0_ := Aside0.mk (Kd.R_elder' (uR HO505.out) (Kd.R_base ho0) hb); have n1_ := Aside0.mk (Kd.R_elder' (uR HO508.out) (Kd.R_base ho0) hb); have n2_ := Aside0.mk (Kd.R_elder' (uR HO511.out) (Kd.R_base ho0) hb); have n3_ := Aside0.mk (Kd.R_lower (Kd.R_new' (Kd.R_new' (Kd.R_new' ho0 (Kd.R_lt (uR HO505.out))) (Kd.R_lt (uR HO508.out))) (Kd.R_lt (uR HO511.out))) (below_size uB)); have n4_ := Aside0.mk (below_step uB hb); clear HO505; clear HO508; clear HO511; clear HB; have HO505 := n0_; have HO508 := n1_; have HO511 := n2_; have HO515 := n3_; have HB := n4_; clear n0_ n1_ n2_ n3_ n4_; (try clear hb); (try clear hb2); (try clear hk); (try clear hi); (try clear ho0)))
    go_ret2
    exact ⟨_, by first | rfl | (simp [errW_none, errW_some] <;> rfl) | (simp [*, errW_none, errW_some] <;> rfl), by (with_reducible repeat (first | apply Kd.R_alloc | apply Kd.R_drewN | apply Kd.R_drew)); exact Kd.R_mono HO515.out (fun _ hk => trivial), uB⟩

end Go.Proofs.Ytgeanpnkllnipab.F
end

section
namespace Go.Proofs.Ytgeanpnkllnipab.F
open Go.RowKit Go.Proofs.YtgeanpnkllnipabW.PrintWords Go.Proofs.YtgeanpnkllnipabW.PrintLast Go.Proofs.YtgeanpnkllnipabW.PrintMore
attribute [local go_sem] max2_int min2_int max_two min_two max_three min_three max_four min_four
set_option linter.unusedVariables false
set_option linter.unusedSimpArgs false

def windbreakref03_Mul.j0 : Nat → Bool → Bool → List Int → Bool → List Int → Option (Bool × List Int × Int)
 | 0, _, _, _, _, _ => none
 | k + 1, x19, x825000, x825001, x826000, x826001 => if x19 = true then (some (false, ([] : List Int), 1)) else ((windbreakref01_Mul.f k x825001 x826001).bind fun bt829 => ((windbreakref03_From.f (x825000 != x826000) bt829.1).bind fun bt833 => (some (bt833.1, bt833.2, bt829.2))))
def windbreakref03_Mul.f (k : Nat) (a0_0 : Bool) (l0_1 : List Int) (a1_0 : Bool) (l1_1 : List Int) : Option (Bool × List Int × Int) := (windbreakref03_Right.f a0_0 l0_1).bind fun t827 => ((windbreakref03_Right.f a1_0 l1_1).bind fun t828 => (if t827 = true then (windbreakref03_Mul.j0 k (!t828) a0_0 l0_1 a1_0 l1_1) else (windbreakref03_Mul.j0 k true a0_0 l0_1 a1_0 l1_1)))
set_option maxHeartbeats 8000000 in
set_option maxRecDepth 100000 in
theorem windbreakref03_Mul.calls (k : Nat) (a0_0 : Bool) (A0_1 : Option Addr) (c0_1 : Nat) (l0_1 : List Int) (a1_0 : Bool) (A1_1 : Option Addr) (c1_1 : Nat) (l1_1 : List Int) (r1 : Bool) (r2 : List Int) (r3 : Int) (w : World) (hr0_1 : Kd.C (Kd.int .u64) w A0_1 l0_1.length l0_1) (hc0_1 : l0_1.length ≤ c0_1) (hr1_1 : Kd.C (Kd.int .u64) w A1_1 l1_1.length l1_1) (hc1_1 : l1_1.length ≤ c1_1) (h : windbreakref03_Mul.f k a0_0 l0_1 a1_0 l1_1 = some (r1, r2, r3)) :
  Calls Try.prog 63 #[.agg #[.bool a0_0, .slice A0_1 l0_1.length c0_1], .agg #[.bool a1_0, .slice A1_1 l1_1.length c1_1]] w fun e w' => ∃ v1_ : Value, e = .returned (.tuple #[.agg #[.bool r1, v1_], .int .i64 r3]) ∧ Kd.R (Kd.int .u64) 27 w' w.heap.size (fun _ => True) v1_ r2 ∧ Below w.heap.size w w' := by
 have hu52 := Try.underlying52
 have HR0_1 := Aside0.mk hr0_1; have HC0_1 := Aside0.mk hc0_1; clear hr0_1 hc0_1; have HR1_1 := Aside0.mk hr1_1; have HC1_1 := Aside0.mk hc1_1; clear hr1_1 hc1_1
 have HB := Aside0.mk (Below.refl w.heap.size w)
 have H : ((windbreakref03_Right.f a0_0 l0_1).bind fun t827 => ((windbreakref03_Right.f a1_0 l1_1).bind fun t828 => (if t827 = true then (windbreakref03_Mul.j0 k (!t828) a0_0 l0_1 a1_0 l1_1) else (windbreakref03_Mul.j0 k true a0_0 l0_1 a1_0 l1_1)))) = some (r1, r2, r3) := h
 clear h
 replace H := Option.bind_eq_some_iff.mp H
 obtain ⟨t827, A30, H⟩ := H
 replace H : ((windbreakref03_Right.f a1_0 l1_1).bind fun t828 => (if t827 = true then (windbreakref03_Mul.j0 k (!t828) a0_0 l0_1 a1_0 l1_1) else (windbreakref03_Mul.j0 k true a0_0 l0_1 a1_0 l1_1))) = some (r1, r2, r3) := H
 have A3 := Aside0.mk A30; clear A30
 replace H := Option.bind_eq_some_iff.mp H
 obtain ⟨t828, A40, H⟩ := H
 replace H : (if t827 = true then (windbreakref03_Mul.j0 k (!t828) a0_0 l0_1 a1_0 l1_1) else (windbreakref03_Mul.j0 k true a0_0 l0_1 a1_0 l1_1)) = some (r1, r2, r3) := H
 have A4 := Aside0.mk A40; clear A40; have HC5 := Aside0.mk H; clear H
 go_enter Try.func63, Try.ntmps63
 go_upto_region 3 with (first | ((with_reducible refine gate_dst (N := 2) rfl ?_); refine box_event ?hg (N := 2) ?hd (cs := #[.bool a0_0, .slice A0_1 l0_1.length c0_1]) (t := 52) ?hr ?_; (case hd => rfl); (case hg => rfl); (case hr => first | (go_simp; done) | (go_simp; rfl)); intro gb824 hg w6 hbox hb; have n0_ := Aside0.mk (below_step uB hb); have n1_ := Aside0.mk (hbox); have n2_ := Aside0.mk ((by rw [hg]; exact (below_size uB) : w.heap.size ≤ gb824)); have n3_ := Aside0.mk ((by rw [hg]; exact (below_size uB) : w.heap.size ≤ gb824)); clear HB; have HB := n0_; have BK824 := n1_; have GW824 := n2_; have GE824 := n3_; clear n0_ n1_ n2_ n3_; clear hb hbox hg) | ((with_reducible refine gate_dst (N := 3) rfl ?_); refine box_event ?hg (N := 3) ?hd (cs := #[.bool a1_0, .slice A1_1 l1_1.length c1_1]) (t := 52) ?hr ?_; (case hd => rfl); (case hg => rfl); (case hr => first | (go_simp; done) | (go_simp; rfl)); intro gb825 hg w7 hbox hb; have n0_ := Aside0.mk (blk_below (uK BK824.out) hb); have n1_ := Aside0.mk (below_step uB hb); have n2_ := Aside0.mk (hbox); have n3_ := Aside0.mk ((by rw [hg]; exact (below_size uB) : w.heap.size ≤ gb825)); have n4_ := Aside0.mk ((by rw [hg]; exact (below_size uB) : w.heap.size ≤ gb825)); have n5_ := Aside0.mk ((by rw [hg]; exact Nat.ne_of_lt (blk_lt (uK BK824.out)) : gb824 ≠ gb825)); have n6_ := Aside0.mk ((by rw [hg]; exact Nat.ne_of_gt (blk_lt (uK BK824.out)) : gb825 ≠ gb824)); clear BK824; clear HB; have BK824 := n0_; have HB := n1_; have BK825 := n2_; have GW825 := n3_; have GE825 := n4_; have NB824_825 := n5_; have NB825_824 := n6_; clear n0_ n1_ n2_ n3_ n4_ n5_ n6_; clear hb hbox hg) | ((with_reducible refine gate_dst (N := 4) rfl ?_); refine box_event ?hg (N := 4) ?hd (cs := #[.bool false, .slice none 0 0]) (t := 52) ?hr ?_; (case hd => rfl); (case hg => rfl); (case hr => first | (go_simp; done) | (go_simp; rfl)); intro gb826 hg w8 hbox hb; have n0_ := Aside0.mk (blk_below (uK BK824.out) hb); have n1_ := Aside0.mk (blk_below (uK BK825.out) hb); have n2_ := Aside0.mk (below_step uB hb); have n3_ := Aside0.mk (hbox); have n4_ := Aside0.mk ((by rw [hg]; exact (below_size uB) : w.heap.size ≤ gb826)); have n5_ := Aside0.mk ((by rw [hg]; exact (below_size uB) : w.heap.size ≤ gb826)); have n6_ := Aside0.mk ((by rw [hg]; exact Nat.ne_of_lt (blk_lt (uK BK824.out)) : gb824 ≠ gb826)); have n7_ := Aside0.mk ((by rw [hg]; exact Nat.ne_of_gt (blk_lt (uK BK824.out)) : gb826 ≠ gb824)); have n8_ := Aside0.mk ((by rw [hg]; exact Nat.ne_of_lt (blk_lt (uK BK825.out)) : gb825 ≠ gb826)); have n9_ := Aside0.mk ((by rw [hg]; exact Nat.ne_of_gt (blk_lt (uK BK825.out)) : gb826 ≠ gb825)); clear BK824; clear BK825; clear HB; have BK824 := n0_; have BK825 := n1_; have HB := n2_; have BK826 := n3_; have GW826 := n4_; have GE826 := n5_; have NB824_826 := n6_; have NB826_824 := n7_; have NB825_826 := n8_; have NB826_825 := n9_; clear n0_ n1_ n2_ n3_ n4_ n5_ n6_ n7_ n8_ n9_; clear hb hbox hg; have hnb9 := NB824_825.out; have hnc9 := NB825_824.out; have hnb10 := NB824_826.out; have hnc10 := NB826_824.out; have hcz11_0 : w8.cell? ⟨gb824, 0, none⟩ = some (.bool a0_0) := (blk_cell BK824.out 0).trans rfl; have hcz11_1 : w8.cell? ⟨gb824, 1, none⟩ = some (.slice A0_1 l0_1.length c0_1) := (blk_cell BK824.out 1).trans rfl; have hfz11_0 := blk_frozen BK824.out 0; have hfz11_1 := blk_frozen BK824.out 1) | ((with_reducible refine gate_callee (f := 103) rfl ?_); refine goesL_ (some 11) rfl rfl Try.func103 (by kernel_rfl) rfl #[.agg #[.bool a0_0, .slice A0_1 l0_1.length c0_1]] rfl uM ?_; (with_reducible refine (windbreakref03_Right.calls a0_0 _ _ l0_1 t827 _ ?side1 ?side2 A3.out).mono ?_); (case side1 => exact uC (Kd.C_below HR0_1.out HB.out)); (case side2 => exact HC0_1.out); rintro e w12 ⟨rfl, hb⟩; refine ⟨_, rfl, ?_⟩; have n0_ := Aside0.mk (blk_below (uK BK824.out) hb); have n1_ := Aside0.mk (blk_below (uK BK825.out) hb); have n2_ := Aside0.mk (blk_below (uK BK826.out) hb); have n3_ := Aside0.mk (below_step uB hb); clear BK824; clear BK825; clear BK826; clear HB; have BK824 := n0_; have BK825 := n1_; have BK826 := n2_; have HB := n3_; clear n0_ n1_ n2_ n3_; (try clear hb); (try clear hb2); (try clear hk); (try clear hi); have hnb13 := NB825_826.out; have hnc13 := NB826_825.out; have hcz14_0 : w12.cell? ⟨gb825, 0, none⟩ = some (.bool a1_0) := (blk_cell BK825.out 0).trans rfl; have hcz14_1 : w12.cell? ⟨gb825, 1, none⟩ = some (.slice A1_1 l1_1.length c1_1) := (blk_cell BK825.out 1).trans rfl; have hfz14_0 := blk_frozen BK825.out 0; have hfz14_1 := blk_frozen BK825.out 1) | ((with_reducible refine gate_callee (f := 103) rfl ?_); refine goesL_ (some 13) rfl rfl Try.func103 (by kernel_rfl) rfl #[.agg #[.bool a1_0, .slice A1_1 l1_1.length c1_1]] rfl uM ?_; (with_reducible refine (windbreakref03_Right.calls a1_0 _ _ l1_1 t828 _ ?side1 ?side2 A4.out).mono ?_); (case side1 => exact uC (Kd.C_below HR1_1.out HB.out)); (case side2 => exact HC1_1.out); rintro e w15 ⟨rfl, hb⟩; refine ⟨_, rfl, ?_⟩; have n0_ := Aside0.mk (blk_below (uK BK824.out) hb); have n1_ := Aside0.mk (blk_below (uK BK825.out) hb); have n2_ := Aside0.mk (blk_below (uK BK826.out) hb); have n3_ := Aside0.mk (below_step uB hb); clear BK824; clear BK825; clear BK826; clear HB; have BK824 := n0_; have BK825 := n1_; have BK826 := n2_; have HB := n3_; clear n0_ n1_ n2_ n3_; (try clear hb); (try clear hb2); (try clear hk); (try clear hi)))
 (try simp only [Act.put, List.setIfInBounds_toArray, List.set_cons_zero, List.set_cons_succ])
 go_cut [19] (fun v19 wc => ∃ (kq : Nat) (x19_4 : Bool), v19 = .bool x19_4 ∧ Aside0 (windbreakref03_Mul.j0 kq x19_4 a0_0 l0_1 a1_0 l1_1 = some (r1, r2, r3)) ∧ Aside0 (kq ≤ k) ∧ Aside0 (wc.heap[gb824]? = some (.cells #[.bool a0_0, (.slice A0_1 l0_1.length c0_1)] 52 (0, 0))) ∧ Aside0 (wc.heap[gb825]? = some (.cells #[.bool a1_0, (.slice A1_1 l1_1.length c1_1)] 52 (0, 0))) ∧ Aside0 (wc.heap[gb826]? = some (.cells #[.bool false, (.slice none 0 0)] 52 (0, 0))) ∧ Aside0 (Below w.heap.size w wc))
 case first =>
  have H := HC5.out
  clear HC5
  by_cases c16 : t827 = true
  ·
   subst c16
   have H1 : (windbreakref03_Mul.j0 k (!t828) a0_0 l0_1 a1_0 l1_1) = some (r1, r2, r3) := by rw [if_pos rfl] at H; exact H
   clear H; have H := H1; clear H1
   have H' := Aside0.mk H
   clear H
   go_wp2
   go_meet
   case rel => exact ⟨_, (!t828), (by first | rfl | (simp; done) | (simp [*]; done)), H', ⟨by first | omega | exact Nat.le_refl _⟩, ⟨uK BK824.out⟩, ⟨uK BK825.out⟩, ⟨uK BK826.out⟩, ⟨uB⟩⟩
  ·
   replace c16 := Bool.eq_false_iff.mpr c16
   subst c16
   have H1 : (windbreakref03_Mul.j0 k true a0_0 l0_1 a1_0 l1_1) = some (r1, r2, r3) := by rw [if_neg (show ¬ (false = true) by decide)] at H; exact H
   clear H; have H := H1; clear H1
   have H' := Aside0.mk H
   clear H
   go_wp2
   go_meet
   case rel => exact ⟨_, (true), (by first | rfl | (simp; done) | (simp [*]; done)), H', ⟨by first | omega | exact Nat.le_refl _⟩, ⟨uK BK824.out⟩, ⟨uK BK825.out⟩, ⟨uK BK826.out⟩, ⟨uB⟩⟩
 case rest =>
  clear HC5
  try clear c1
  try clear p2
  try clear c6
  try clear c9
  try clear c10
  try clear c13
  try clear c16
  try clear hcz11_0
  try clear hcz11_1
  try clear hcz14_0
  try clear hcz14_1
  try clear hfz11_0
  try clear hfz11_1
  try clear hfz14_0
  try clear hfz14_1
  obtain ⟨kq, x19_4, rfl, HA, HJ4, BK824, BK825, BK826, HB⟩ := hcut
  cases kq with
  | zero => exact absurd HA.out (by simp [windbreakref03_Mul.j0])
  | succ kj4 =>
   have H := HA.out
   clear HA
   simp only [windbreakref03_Mul.j0] at H
   by_cases c17 : x19_4 = true
   ·
    subst c17
    have H1 : (some (false, ([] : List Int), 1)) = some (r1, r2, r3) := by rw [if_pos rfl] at H; exact H
    clear H; have H := H1; clear H1
    simp only [Option.some.injEq, Prod.mk.injEq] at H
    obtain ⟨rfl, rfl, rfl⟩ := H
    have hnb18 := NB826_824.out
    have hnc18 := NB824_826.out
    have hnb19 := NB826_825.out
    have hnc19 := NB825_826.out
    have hcz20_0 : wc.cell? ⟨gb826, 0, none⟩ = some (.bool false) := (blk_cell BK826.out 0).trans rfl
    have hcz20_1 : wc.cell? ⟨gb826, 1, none⟩ = some (.slice none 0 0) := (blk_cell BK826.out 1).trans rfl
    have hfz20_0 := blk_frozen BK826.out 0
    have hfz20_1 := blk_frozen BK826.out 1
    go_wp2
    refine bodyPost_ret (results_ct rfl _ _ gb826 52 #[.bool false, .slice none 0 0] (0, 0) _ rfl (by (with_reducible repeat (first | refine blk_drewN ?_ _ | refine blk_drew ?_ | refine blk_alloc ?_ _)); refine blk_put (cs := #[.bool false, .slice none 0 0]) ?_ 1 _ rfl; (with_reducible repeat (first | refine blk_drewN ?_ _ | refine blk_drew ?_ | refine blk_alloc ?_ _)); refine blk_put (cs := #[.bool false, .slice none 0 0]) ?_ 0 _ rfl; (with_reducible repeat (first | refine blk_drewN ?_ _ | refine blk_drew ?_ | refine blk_alloc ?_ _)); exact BK826.out) Try.underlying52 rfl (by kernel_rfl)) rfl ?_
    exact ⟨_, by first | rfl | (simp [errW_none, errW_some] <;> rfl) | (simp [*, errW_none, errW_some] <;> rfl), by first | exact Kd.R_nil _ _ _ _ _ | exact Kd.N_nil _ _ _ _ _ | exact Kd.V_nil _ _ _ _ _ | exact Kd.Q_nil _ _ _ _ _ | exact Kd.S_nil _ _ _ _ _, uB⟩
   ·
    replace c17 := Bool.eq_false_iff.mpr c17
    subst c17
    have H1 : ((windbreakref01_Mul.f kj4 l0_1 l1_1).bind fun bt829 => ((windbreakref03_From.f (a0_0 != a1_0) bt829.1).bind fun bt833 => (some (bt833.1, bt833.2, bt829.2)))) = some (r1, r2, r3) := by rw [if_neg (show ¬ (false = true) by decide)] at H; exact H
    clear H; have H := H1; clear H1
    replace H := Option.bind_eq_some_iff.mp H
    obtain ⟨⟨t829, t830⟩, A210, H⟩ := H
    replace H : ((windbreakref03_From.f (a0_0 != a1_0) t829).bind fun bt833 => (some (bt833.1, bt833.2, t830))) = some (r1, r2, r3) := H
    have A21 := Aside0.mk A210; clear A210
    replace H := Option.bind_eq_some_iff.mp H
    obtain ⟨⟨t833, t834⟩, A220, H⟩ := H
    replace H : (some (t833, t834, t830)) = some (r1, r2, r3) := H
    have A22 := Aside0.mk A220; clear A220
    simp only [Option.some.injEq, Prod.mk.injEq] at H
    obtain ⟨rfl, rfl, rfl⟩ := H
    have hnb23 := NB824_825.out
    have hnc23 := NB825_824.out
    have hnb24 := NB824_826.out
    have hnc24 := NB826_824.out
    have hcz25_0 : wc.cell? ⟨gb824, 0, none⟩ = some (.bool a0_0) := (blk_cell BK824.out 0).trans rfl
    have hcz25_1 : wc.cell? ⟨gb824, 1, none⟩ = some (.slice A0_1 l0_1.length c0_1) := (blk_cell BK824.out 1).trans rfl
    have hfz25_0 := blk_frozen BK824.out 0
    have hfz25_1 := blk_frozen BK824.out 1
    have hnb26 := NB825_826.out
    have hnc26 := NB826_825.out
    have hcz27_0 : wc.cell? ⟨gb825, 0, none⟩ = some (.bool a1_0) := (blk_cell BK825.out 0).trans rfl
    have hcz27_1 : wc.cell? ⟨gb825, 1, none⟩ = some (.slice A1_1 l1_1.length c1_1) := (blk_cell BK825.out 1).trans rfl
    have hfz27_0 := blk_frozen BK825.out 0
    have hfz27_1 := blk_frozen BK825.out 1
    go_wp2_with (first | ((with_reducible refine gate_callee (f := 46) rfl ?_); refine goesL_ (some 26) rfl rfl Try.func46 (by kernel_rfl) rfl #[.slice A0_1 l0_1.length c0_1, .slice A1_1 l1_1.length c1_1] rfl uM ?_; (with_reducible refine (windbreakref01_Mul.calls kj4 _ _ l0_1 _ _ l1_1 t829 t830 _ ?side1 ?side2 ?side3 ?side4 A21.out).mono ?_); (case side1 => exact uC (Kd.C_below HR0_1.out HB.out)); (case side2 => exact HC0_1.out); (case side3 => exact uC (Kd.C_below HR1_1.out HB.out)); (case side4 => exact HC1_1.out); rintro e w28 ⟨v831, rfl, ho0, hb⟩; refine ⟨_, rfl, ?_⟩; have n0_ := Aside0.mk (Kd.R_lower ho0 (below_size uB)); have n1_ := Aside0.mk (blk_below (uK BK824.out) hb); have n2_ := Aside0.mk (blk_below (uK BK825.out) hb); have n3_ := Aside0.mk (blk_below (uK BK826.out) hb); have n4_ := Aside0.mk (below_step uB hb); clear BK824; clear BK825; clear BK826; clear HB; have HO832 := n0_; have BK824 := n1_; have BK825 := n2_; have BK826 := n3_; have HB := n4_; clear n0_ n1_ n2_ n3_ n4_; (try clear hb); (try clear hb2); (try clear hk); (try clear hi); (try clear ho0); have hcz29_0 : w28.cell? ⟨gb824, 0, none⟩ = some (.bool a0_0) := (blk_cell BK824.out 0).trans rfl; have hcz29_1 : w28.cell? ⟨gb824, 1, none⟩ = some (.slice A0_1 l0_1.length c0_1) := (blk_cell BK824.out 1).trans rfl; have hfz29_0 := blk_frozen BK824.out 0; have hfz29_1 := blk_frozen BK824.out 1; have hcz30_0 : w28.cell? ⟨gb825, 0, none⟩ = some (.bool a1_0) := (blk_cell BK825.out 0).trans rfl; have hcz30_1 : w28.cell? ⟨gb825, 1, none⟩ = some (.slice A1_1 l1_1.length c1_1) := (blk_cell BK825.out 1).trans rfl; have hfz30_0 := blk_frozen BK825.out 0; have hfz30_1 := blk_frozen BK825.out 1; obtain ⟨Ao31, co31, eo31⟩ := Kd.R_slice HO832.out; subst eo31) | ((with_reducible refine gate_callee (f := 104) rfl ?_); refine goesL_ (some 35) rfl rfl Try.func104 (by kernel_rfl) rfl #[.bool (a0_0 != a1_0), .slice Ao31 t829.length co31] rfl uM ?_; (with_reducible refine (windbreakref03_From.calls (a0_0 != a1_0) _ _ t829 t833 t834 _ ?side1 ?side2 A22.out).mono ?_); (case side1 => exact uC (Kd.R_reads' HO832.out).2.2); (case side2 => exact (Kd.R_reads' HO832.out).2.1); rintro e w32 ⟨v835, rfl, ho0, hb⟩; refine ⟨_, rfl, ?_⟩; have n0_ := Aside0.mk (Kd.R_elder' (uR HO832.out) (Kd.R_base ho0) hb); have n1_ := Aside0.mk (Kd.R_lower (Kd.R_new' ho0 (Kd.R_lt (uR HO832.out))) (below_size uB)); have n2_ := Aside0.mk (blk_below (uK BK824.out) hb); have n3_ := Aside0.mk (blk_below (uK BK825.out) hb); have n4_ := Aside0.mk (blk_below (uK BK826.out) hb); have n5_ := Aside0.mk (below_step uB hb); clear HO832; clear BK824; clear BK825; clear BK826; clear HB; have HO832 := n0_; have HO836 := n1_; have BK824 := n2_; have BK825 := n3_; have BK826 := n4_; have HB := n5_; clear n0_ n1_ n2_ n3_ n4_ n5_; (try clear hb); (try clear hb2); (try clear hk); (try clear hi); (try clear ho0); have hcz33_0 : w32.cell? ⟨gb826, 0, none⟩ = some (.bool false) := (blk_cell BK826.out 0).trans rfl; have hcz33_1 : w32.cell? ⟨gb826, 1, none⟩ = some (.slice none 0 0) := (blk_cell BK826.out 1).trans rfl; have hfz33_0 := blk_frozen BK826.out 0; have hfz33_1 := blk_frozen BK826.out 1; obtain ⟨Ao34, co34, eo34⟩ := Kd.R_slice HO836.out; subst eo34))
    refine bodyPost_ret (results_ct rfl _ _ gb826 52 #[.bool t833, .slice Ao34 t834.length co34] (0, 0) _ rfl (by (with_reducible repeat (first | refine blk_drewN ?_ _ | refine blk_drew ?_ | refine blk_alloc ?_ _)); refine blk_put (cs := #[.bool t833, .slice none 0 0]) ?_ 1 _ rfl; (with_reducible repeat (first | refine blk_drewN ?_ _ | refine blk_drew ?_ | refine blk_alloc ?_ _)); refine blk_put (cs := #[.bool false, .slice none 0 0]) ?_ 0 _ rfl; (with_reducible repeat (first | refine blk_drewN ?_ _ | refine blk_drew ?_ | refine blk_alloc ?_ _)); exact BK826.out) Try.underlying52 rfl (by kernel_rfl)) rfl ?_
    exact ⟨_, by first | rfl | (simp [errW_none, errW_some] <;> rfl) | (simp [*, errW_none, errW_some] <;> rfl), by (with_reducible repeat (first | apply Kd.R_alloc | apply Kd.R_drewN | apply Kd.R_drew)); exact Kd.R_mono (Kd.R_far (p := ⟨gb826, 1, none⟩) (Kd.R_far (p := ⟨gb826, 0, none⟩) (Kd.R_types HO836.out BK826.out (by decide)) (fun _ hk => hk.2) (.bool t833)) (fun _ hk => hk.2) (.slice Ao34 t834.length co34)) (fun _ hk => trivial), uB⟩

end Go.Proofs.Ytgeanpnkllnipab.F
end

section
namespace Go.Proofs.Ytgeanpnkllnipab.F
open Go.RowKit Go.Proofs.YtgeanpnkllnipabW.PrintWords Go.Proofs.YtgeanpnkllnipabW.PrintLast Go.Proofs.YtgeanpnkllnipabW.PrintMore
attribute [local go_sem] max2_int min2_int max_two min_two max_three min_three max_four min_four
set_option linter.unusedVariables false
set_option linter.unusedSimpArgs false

def windbreakref01_digit.f (l0 : List Int) (a1 : Int) : Option (Int) := if a1 < (l0.length : Int) then (if 0 ≤ a1 then (some (rd l0 a1)) else (none)) else (some 0)
set_option maxHeartbeats 8000000 in
set_option maxRecDepth 100000 in
theorem windbreakref01_digit.calls (A0 : Option Addr) (c0 : Nat) (l0 : List Int) (a1 : Int) (r : Int) (w : World) (hr0 : Kd.C (Kd.int .u64) w A0 l0.length l0) (hc0 : l0.length ≤ c0) (h : windbreakref01_digit.f l0 a1 = some r) :
  Calls Try.prog 98 #[.slice A0 l0.length c0, .int .i64 a1] w fun e w' => e = .returned (.int .u64 r) ∧ Drawn0 w w' := by
 have HR0 := Aside0.mk hr0; have HC0 := Aside0.mk hc0; clear hr0 hc0
 have H : (if a1 < (l0.length : Int) then (if 0 ≤ a1 then (some (rd l0 a1)) else (none)) else (some 0)) = some r := h
 clear h
 by_cases c3 : a1 < (l0.length : Int)
 ·
  rw [if_pos c3] at H
  have c3b0 : decide (a1 < (l0.length : Int)) = true := decide_eq_true c3
  clear c3
  by_cases c4 : 0 ≤ a1
  ·
   rw [if_pos c4] at H
   have c4b0 : decide (0 ≤ a1) = true := decide_eq_true c4
   clear c4
   obtain rfl := Option.some.inj H
   have p353 : 0 ≤ (a1 : Int) := of_decide_eq_true (by first | (with_reducible assumption) | assumption)
   have q353 : a1 < (l0.length : Int) := of_decide_eq_true (by first | (with_reducible assumption) | assumption)
   obtain ⟨ad353, e353, hx353_0⟩ := Kd.at_int HR0.out a1 p353 q353
   cases e353
   replace p353 := eq_true p353
   replace q353 := eq_true q353
   go_enter Try.func98, Try.ntmps98
   go_wp2
   go_ret
   exact ⟨by first | rfl | (simp; done) | (simp [*]; done), by repeat (first | exact Drawn0.refl _ | apply Drawn0.step)⟩
  ·
   rw [if_neg c4] at H
   exact absurd H (by simp)
 ·
  rw [if_neg c3] at H
  have c3b0 : decide (a1 < (l0.length : Int)) = false := decide_eq_false c3
  clear c3
  obtain rfl := Option.some.inj H
  go_enter Try.func98, Try.ntmps98
  go_wp2
  go_ret
  exact ⟨by first | rfl | (simp; done) | (simp [*]; done), by repeat (first | exact Drawn0.refl _ | apply Drawn0.step)⟩

end Go.Proofs.Ytgeanpnkllnipab.F
end

section
namespace Go.Proofs.Ytgeanpnkllnipab.F
open Go.RowKit Go.Proofs.YtgeanpnkllnipabW.PrintWords Go.Proofs.YtgeanpnkllnipabW.PrintLast Go.Proofs.YtgeanpnkllnipabW.PrintMore
attribute [local go_sem] max2_int min2_int max_two min_two max_three min_three max_four min_four
set_option linter.unusedVariables false
set_option linter.unusedSimpArgs false

mutual
def windbreakref01_add.l0 : Nat → List Int → List Int → List Int → Int → Int → Option (List Int)
 | 0, _, _, _, _, _ => none
 | k + 1, x0, x1, x5, x6, x7 => if x7 < (x0.length : Int) then (windbreakref01_add.j1 k x0 x1 x5 x6 x7 true) else (windbreakref01_add.j1 k x0 x1 x5 x6 x7 (decide (x7 < (x1.length : Int))))
def windbreakref01_add.j1 : Nat → List Int → List Int → List Int → Int → Int → Bool → Option (List Int)
 | 0, _, _, _, _, _, _ => none
 | k + 1, x0, x1, x5, x6, x7, x18 => if x18 = true then ((windbreakref01_digit.f x0 x7).bind fun t354 => ((windbreakref01_digit.f x1 x7).bind fun t355 => (if x5.length < 17592186044416 then (windbreakref01_add.l0 k x0 x1 (x5 ++ [Int.tmod (IntKind.u64.wrap ((IntKind.u64.wrap (t354 + t355)) + x6)) 65536]) (IntKind.u64.wrap (Int.tdiv (IntKind.u64.wrap ((IntKind.u64.wrap (t354 + t355)) + x6)) 65536)) (wrap64 (x7 + 1))) else (none)))) else (if x5.length < 17592186044416 then ((windbreakref01_cut.f k (x5 ++ [x6])).bind fun t362 => (some t362)) else (none))
end
def windbreakref01_add.f (k : Nat) (l0 : List Int) (l1 : List Int) : Option (List Int) := windbreakref01_add.l0 k l0 l1 ([] : List Int) 0 0
set_option maxHeartbeats 8000000 in
set_option maxRecDepth 100000 in
theorem windbreakref01_add.calls (k : Nat) (A0 : Option Addr) (c0 : Nat) (l0 : List Int) (A1 : Option Addr) (c1 : Nat) (l1 : List Int) (r : List Int) (w : World) (hr0 : Kd.C (Kd.int .u64) w A0 l0.length l0) (hc0 : l0.length ≤ c0) (hr1 : Kd.C (Kd.int .u64) w A1 l1.length l1) (hc1 : l1.length ≤ c1) (h : windbreakref01_add.f k l0 l1 = some r) :
  Calls Try.prog 53 #[.slice A0 l0.length c0, .slice A1 l1.length c1] w fun e w' => ∃ v0_ : Value, e = .returned (v0_) ∧ Kd.R (Kd.int .u64) 27 w' w.heap.size (fun _ => True) v0_ r ∧ Below w.heap.size w w' := by
 have HR0 := Aside0.mk hr0; have HC0 := Aside0.mk hc0; clear hr0 hc0; have HR1 := Aside0.mk hr1; have HC1 := Aside0.mk hc1; clear hr1 hc1
 have HB := Aside0.mk (Below.refl w.heap.size w)
 have H : (windbreakref01_add.l0 k l0 l1 ([] : List Int) 0 0) = some r := h
 clear h
 have H' := Aside0.mk H
 clear H
 go_enter Try.func53, Try.ntmps53
 go_wp2
 go_loopg [5, 6, 7] k (fun kq v5 v6 v7 w' => ∃ (x5_1 : List Int) (x6_1 : Int) (x7_1 : Int), v6 = .int .u64 x6_1 ∧ v7 = .int .i64 x7_1 ∧ Aside0 (windbreakref01_add.l0 kq l0 l1 x5_1 x6_1 x7_1 = some r) ∧ Aside0 (kq ≤ k) ∧ Aside0 (Kd.R (Kd.int .u64) 27 w' w.heap.size (fun _ => True) v5 x5_1) ∧ Aside0 (Below w.heap.size w w'))
 case atStart => exact ⟨(([] : List Int)), (0), (0), (by first | rfl | (simp; done) | (simp [*]; done)), (by first | rfl | (simp; done) | (simp [*]; done)), H', ⟨Nat.le_refl _⟩, ⟨by first | exact Kd.R_nil _ _ _ _ _ | exact Kd.N_nil _ _ _ _ _ | exact Kd.V_nil _ _ _ _ _ | exact Kd.Q_nil _ _ _ _ _ | exact Kd.S_nil _ _ _ _ _⟩, ⟨uB⟩⟩
 case round =>
  clear H'
  try clear c1
  try clear p2
  obtain ⟨x5_1, x6_1, x7_1, rfl, rfl, HA, HK1, HO_5, HB⟩ := hrel
  cases gk with
  | zero => exact absurd HA.out (by simp [windbreakref01_add.l0])
  | succ k1 =>
   have H := HA.out
   clear HA
   simp only [windbreakref01_add.l0] at H
   have HC3 := Aside0.mk H; clear H
   go_upto_region 4 with (fail)
   go_cut [18] (fun v18 wc => ∃ (kq : Nat) (x18_2 : Bool), v18 = .bool x18_2 ∧ Aside0 (windbreakref01_add.j1 kq l0 l1 x5_1 x6_1 x7_1 x18_2 = some r) ∧ Aside0 (kq ≤ k1) ∧ Aside0 (Kd.R (Kd.int .u64) 27 wc w.heap.size (fun _ => True) u5 x5_1) ∧ Aside0 (Below w.heap.size w wc))
   case first =>
    have H := HC3.out
    clear HC3
    by_cases c4 : x7_1 < (l0.length : Int)
    ·
     rw [if_pos c4] at H
     have c4b0 : decide (x7_1 < (l0.length : Int)) = true := decide_eq_true c4
     clear c4
     (first | rw [c4b0] | (simp only [i64_w, i32_w]; rw [c4b0]) | skip)
     have H' := Aside0.mk H
     clear H
     go_wp2
     go_meet
     case rel => exact ⟨_, (true), (by first | rfl | (simp; done) | (simp [*]; done)), H', ⟨by have := HK1.out; first | omega | exact Nat.le_refl _⟩, ⟨uR HO_5.out⟩, ⟨uB⟩⟩
    ·
     rw [if_neg c4] at H
     have c4b0 : decide (x7_1 < (l0.length : Int)) = false := decide_eq_false c4
     clear c4
     (first | rw [c4b0] | (simp only [i64_w, i32_w]; rw [c4b0]) | skip)
     have H' := Aside0.mk H
     clear H
     go_wp2
     go_meet
     case rel => exact ⟨_, (decide (x7_1 < (l1.length : Int))), (by first | rfl | (simp; done) | (simp [*]; done)), H', ⟨by have := HK1.out; first | omega | exact Nat.le_refl _⟩, ⟨uR HO_5.out⟩, ⟨uB⟩⟩
   case rest =>
    clear HC3
    try clear c1
    try clear p2
    try clear c4
    try clear c4b0
    try clear p2
    obtain ⟨kq, x18_2, rfl, HA, HJ2, HO_5, HB⟩ := hcut
    cases kq with
    | zero => exact absurd HA.out (by simp [windbreakref01_add.j1])
    | succ kj2 =>
     have H := HA.out
     clear HA
     simp only [windbreakref01_add.j1] at H
     by_cases c5 : x18_2 = true
     ·
      subst c5
      have H1 : ((windbreakref01_digit.f l0 x7_1).bind fun t354 => ((windbreakref01_digit.f l1 x7_1).bind fun t355 => (if x5_1.length < 17592186044416 then (windbreakref01_add.l0 kj2 l0 l1 (x5_1 ++ [Int.tmod (IntKind.u64.wrap ((IntKind.u64.wrap (t354 + t355)) + x6_1)) 65536]) (IntKind.u64.wrap (Int.tdiv (IntKind.u64.wrap ((IntKind.u64.wrap (t354 + t355)) + x6_1)) 65536)) (wrap64 (x7_1 + 1))) else (none)))) = some r := by rw [if_pos rfl] at H; exact H
      clear H; have H := H1; clear H1
      replace H := Option.bind_eq_some_iff.mp H
      obtain ⟨t354, A60, H⟩ := H
      replace H : ((windbreakref01_digit.f l1 x7_1).bind fun t355 => (if x5_1.length < 17592186044416 then (windbreakref01_add.l0 kj2 l0 l1 (x5_1 ++ [Int.tmod (IntKind.u64.wrap ((IntKind.u64.wrap (t354 + t355)) + x6_1)) 65536]) (IntKind.u64.wrap (Int.tdiv (IntKind.u64.wrap ((IntKind.u64.wrap (t354 + t355)) + x6_1)) 65536)) (wrap64 (x7_1 + 1))) else (none))) = some r := H
      have A6 := Aside0.mk A60; clear A60
      replace H := Option.bind_eq_some_iff.mp H
      obtain ⟨t355, A70, H⟩ := H
      replace H : (if x5_1.length < 17592186044416 then (windbreakref01_add.l0 kj2 l0 l1 (x5_1 ++ [Int.tmod (IntKind.u64.wrap ((IntKind.u64.wrap (t354 + t355)) + x6_1)) 65536]) (IntKind.u64.wrap (Int.tdiv (IntKind.u64.wrap ((IntKind.u64.wrap (t354 + t355)) + x6_1)) 65536)) (wrap64 (x7_1 + 1))) else (none)) = some r := H
      have A7 := Aside0.mk A70; clear A70
      by_cases c8 : x5_1.length < 17592186044416
      ·
       rw [if_pos c8] at H
       have LMc8 := Aside0.mk c8; clear c8
       obtain ⟨y356, hy356⟩ : ∃ y_ : List Int, y_ = (x5_1 ++ [Int.tmod (IntKind.u64.wrap ((IntKind.u64.wrap (t354 + t355)) + x6_1)) 65536]) := ⟨_, rfl⟩
       replace H : (windbreakref01_add.l0 kj2 l0 l1 y356 (IntKind.u64.wrap (Int.tdiv (IntKind.u64.wrap ((IntKind.u64.wrap (t354 + t355)) + x6_1)) 65536)) (wrap64 (x7_1 + 1))) = some r := by first | (rw [hy356]; with_reducible exact H) | (have H2_ := (Option.bind_some _ _).symm.trans H; rw [hy356]; with_reducible exact H2_) | (have H2_ := (Option.bind_some _ _).symm.trans H; with_reducible exact H2_) | with_reducible exact H | (rw [hy356]; exact H) | exact H
       have Ny356 := Aside0.mk hy356; clear hy356
       have H' := Aside0.mk H
       clear H
       go_wp2_with (first | ((with_reducible refine gate_callee (f := 98) rfl ?_); refine goesL_ (some 23) rfl rfl Try.func98 (by kernel_rfl) rfl #[.slice A0 l0.length c0, .int .i64 x7_1] rfl uM ?_; (with_reducible refine (windbreakref01_digit.calls _ _ l0 x7_1 t354 _ ?side1 ?side2 A6.out).mono ?_); (case side1 => exact uC (Kd.C_below HR0.out HB.out)); (case side2 => exact HC0.out); rintro e w' ⟨rfl, ⟨nd, rfl⟩⟩; refine ⟨_, rfl, ?_⟩) | ((with_reducible refine gate_callee (f := 98) rfl ?_); refine goesL_ (some 26) rfl rfl Try.func98 (by kernel_rfl) rfl #[.slice A1 l1.length c1, .int .i64 x7_1] rfl uM ?_; (with_reducible refine (windbreakref01_digit.calls _ _ l1 x7_1 t355 _ ?side1 ?side2 A7.out).mono ?_); (case side1 => exact uC (Kd.C_below HR1.out uB)); (case side2 => exact HC1.out); rintro e w' ⟨rfl, ⟨nd, rfl⟩⟩; refine ⟨_, rfl, ?_⟩) | ((with_reducible refine gate_builtin (b := .append) (xs := #[.tmp 30, .tmp 33]) rfl ?_); (try (refine gate_guard (by rfl) ?_; dsimp only)); at_builtin; refine Kd.R_append (Kd.int .u64) (w0 := w) w.heap.size rfl (.tmp 30) (.tmp 33) 70 27 (.int .u64 0) 8 rfl Try.underlying70 info27 rfl (by decide) (by omega) u5 x5_1 (Int.tmod (IntKind.u64.wrap ((IntKind.u64.wrap (t354 + t355)) + x6_1)) 65536) [.int .u64 (Int.tmod (IntKind.u64.wrap ((IntKind.u64.wrap (t354 + t355)) + x6_1)) 65536)] (fun _ => True) (fun _ => False) rfl rfl ?aP (fun _ hk => hk.elim) ?aF ?aO ?aB ?aS ?aL ?_; (case aP => exact rfl); (case aB => exact uB); (case aF => exact (fun _ _ => trivial)); (case aO => exact (uR HO_5.out)); (case aS => exact (below_size uB)); (case aL => have := LMc8.out; omega); intro v357 w9 ho hb hg hat; rw [← Ny356.out] at ho; have n0_ := Aside0.mk (hb); have n1_ := Aside0.mk (ho); clear HB; clear HO_5; have HB := n0_; have HO358 := n1_; clear n0_ n1_; clear ho hb hg hat))
       go_roundg kj2
       case measure => have := HK1.out; have := HJ2.out; omega
       case rel => exact ⟨(y356), (IntKind.u64.wrap (Int.tdiv (IntKind.u64.wrap ((IntKind.u64.wrap (t354 + t355)) + x6_1)) 65536)), (wrap64 (x7_1 + 1)), (by first | rfl | (simp; done) | (simp [*]; done)), (by first | rfl | (simp; done) | (simp [*]; done)), H', ⟨by have := HK1.out; have := HJ2.out; omega⟩, ⟨uR HO358.out⟩, ⟨uB⟩⟩
      ·
       rw [if_neg c8] at H
       exact absurd H (by simp)
     ·
      replace c5 := Bool.eq_false_iff.mpr c5
      subst c5
      have H1 : (if x5_1.length < 17592186044416 then ((windbreakref01_cut.f kj2 (x5_1 ++ [x6_1])).bind fun t362 => (some t362)) else (none)) = some r := by rw [if_neg (show ¬ (false = true) by decide)] at H; exact H
      clear H; have H := H1; clear H1
      by_cases c10 : x5_1.length < 17592186044416
      ·
       rw [if_pos c10] at H
       have LMc10 := Aside0.mk c10; clear c10
       obtain ⟨y359, hy359⟩ : ∃ y_ : List Int, y_ = (x5_1 ++ [x6_1]) := ⟨_, rfl⟩
       replace H : ((windbreakref01_cut.f kj2 y359).bind fun t362 => (some t362)) = some r := by first | (rw [hy359]; with_reducible exact H) | (have H2_ := (Option.bind_some _ _).symm.trans H; rw [hy359]; with_reducible exact H2_) | (have H2_ := (Option.bind_some _ _).symm.trans H; with_reducible exact H2_) | with_reducible exact H | (rw [hy359]; exact H) | exact H
       have Ny359 := Aside0.mk hy359; clear hy359
       replace H := Option.bind_eq_some_iff.mp H
       obtain ⟨t362, A110, H⟩ := H
       replace H : (some t362) = some r := H
       have A11 := Aside0.mk A110; clear A110
       obtain rfl := Option.some.inj H
       go_wp2_with (first | ((with_reducible refine gate_builtin (b := .append) (xs := #[.tmp 37, .tmp 39]) rfl ?_); (try (refine gate_guard (by rfl) ?_; dsimp only)); at_builtin; refine Kd.R_append (Kd.int .u64) (w0 := w) w.heap.size rfl (.tmp 37) (.tmp 39) 70 27 (.int .u64 0) 8 rfl Try.underlying70 info27 rfl (by decide) (by omega) u5 x5_1 x6_1 [.int .u64 x6_1] (fun _ => True) (fun _ => False) rfl rfl ?aP (fun _ hk => hk.elim) ?aF ?aO ?aB ?aS ?aL ?_; (case aP => exact rfl); (case aB => exact uB); (case aF => exact (fun _ _ => trivial)); (case aO => exact (uR HO_5.out)); (case aS => exact (below_size uB)); (case aL => have := LMc10.out; omega); intro v360 w12 ho hb hg hat; rw [← Ny359.out] at ho; have n0_ := Aside0.mk (hb); have n1_ := Aside0.mk (ho); clear HB; clear HO_5; have HB := n0_; have HO361 := n1_; clear n0_ n1_; clear ho hb hg hat; obtain ⟨Ao13, co13, eo13⟩ := Kd.R_slice HO361.out; subst eo13) | ((with_reducible refine gate_callee (f := 99) rfl ?_); refine goesL_ (some 41) rfl rfl Try.func99 (by kernel_rfl) rfl #[.slice Ao13 y359.length co13] rfl uM ?_; (with_reducible refine (windbreakref01_cut.calls kj2 (fun k_ => some k_ = (.slice Ao13 y359.length co13 : Value).ownBlock) (.slice Ao13 y359.length co13) y359 t362 w _ ?side1 ?side2 A11.out).mono ?_); (case side1 => repeat (first | (with_reducible first | exact HB.out | apply below_alloc | apply pw_below_drewN | apply below_drew1) | exact HB.out)); (case side2 => exact Kd.R_tight rfl HO361.out); rintro e w14 ⟨v363, rfl, ho0, hb, hkp⟩; refine ⟨_, rfl, ?_⟩; have n0_ := Aside0.mk (Kd.R_mono (ok' := fun k_ => True) ho0 (fun k_ hk_ => trivial)); have n1_ := Aside0.mk (hb); clear HB; clear HO361; have HO364 := n0_; have HB := n1_; clear n0_ n1_; (try clear hb); (try clear hkp); (try clear ho0)))
       go_ret
       exact ⟨_, by first | rfl | (simp [errW_none, errW_some] <;> rfl) | (simp [*, errW_none, errW_some] <;> rfl), uR HO364.out, uB⟩
      ·
       rw [if_neg c10] at H
       exact absurd H (by simp)

end Go.Proofs.Ytgeanpnkllnipab.F
end

section
namespace Go.Proofs.Ytgeanpnkllnipab.F
open Go.RowKit Go.Proofs.YtgeanpnkllnipabW.PrintWords Go.Proofs.YtgeanpnkllnipabW.PrintLast Go.Proofs.YtgeanpnkllnipabW.PrintMore
attribute [local go_sem] max2_int min2_int max_two min_two max_three min_three max_four min_four
set_option linter.unusedVariables false
set_option linter.unusedSimpArgs false

def windbreakref01_Add.j0 : Nat → List Int → List Int → Bool → Option (List Int × Int)
 | 0, _, _, _ => none
 | k + 1, x0, x1, x17 => if x17 = true then (some (([] : List Int), 1)) else ((windbreakref01_In.f k x0).bind fun t367 => ((windbreakref01_In.f k x1).bind fun t370 => ((windbreakref01_add.f k t367 t370).bind fun t373 => ((windbreakref01_told.f k t373).bind fun bt376 => (some (bt376.1, bt376.2))))))
def windbreakref01_Add.f (k : Nat) (l0 : List Int) (l1 : List Int) : Option (List Int × Int) := (windbreakref01_Right.f l0).bind fun t365 => ((windbreakref01_Right.f l1).bind fun t366 => (if t365 = true then (windbreakref01_Add.j0 k l0 l1 (!t366)) else (windbreakref01_Add.j0 k l0 l1 true)))
set_option maxHeartbeats 8000000 in
set_option maxRecDepth 100000 in
theorem windbreakref01_Add.calls (k : Nat) (A0 : Option Addr) (c0 : Nat) (l0 : List Int) (A1 : Option Addr) (c1 : Nat) (l1 : List Int) (r1 : List Int) (r2 : Int) (w : World) (hr0 : Kd.C (Kd.int .u64) w A0 l0.length l0) (hc0 : l0.length ≤ c0) (hr1 : Kd.C (Kd.int .u64) w A1 l1.length l1) (hc1 : l1.length ≤ c1) (h : windbreakref01_Add.f k l0 l1 = some (r1, r2)) :
  Calls Try.prog 26 #[.slice A0 l0.length c0, .slice A1 l1.length c1] w fun e w' => ∃ v0_ : Value, e = .returned (.tuple #[v0_, .int .i64 r2]) ∧ Kd.R (Kd.int .u64) 27 w' w.heap.size (fun _ => True) v0_ r1 ∧ Below w.heap.size w w' := by
 have HR0 := Aside0.mk hr0; have HC0 := Aside0.mk hc0; clear hr0 hc0; have HR1 := Aside0.mk hr1; have HC1 := Aside0.mk hc1; clear hr1 hc1
 have HB := Aside0.mk (Below.refl w.heap.size w)
 have H : ((windbreakref01_Right.f l0).bind fun t365 => ((windbreakref01_Right.f l1).bind fun t366 => (if t365 = true then (windbreakref01_Add.j0 k l0 l1 (!t366)) else (windbreakref01_Add.j0 k l0 l1 true)))) = some (r1, r2) := h
 clear h
 replace H := Option.bind_eq_some_iff.mp H
 obtain ⟨t365, A30, H⟩ := H
 replace H : ((windbreakref01_Right.f l1).bind fun t366 => (if t365 = true then (windbreakref01_Add.j0 k l0 l1 (!t366)) else (windbreakref01_Add.j0 k l0 l1 true))) = some (r1, r2) := H
 have A3 := Aside0.mk A30; clear A30
 replace H := Option.bind_eq_some_iff.mp H
 obtain ⟨t366, A40, H⟩ := H
 replace H : (if t365 = true then (windbreakref01_Add.j0 k l0 l1 (!t366)) else (windbreakref01_Add.j0 k l0 l1 true)) = some (r1, r2) := H
 have A4 := Aside0.mk A40; clear A40; have HC5 := Aside0.mk H; clear H
 go_enter Try.func26, Try.ntmps26
 go_upto_region 3 with (first | ((with_reducible refine gate_callee (f := 50) rfl ?_); refine goesL_ (some 9) rfl rfl Try.func50 (by kernel_rfl) rfl #[.slice A0 l0.length c0] rfl uM ?_; (with_reducible refine (windbreakref01_Right.calls _ _ l0 t365 _ ?side1 ?side2 A3.out).mono ?_); (case side1 => exact uC HR0.out); (case side2 => exact HC0.out); rintro e w' ⟨rfl, ⟨nd, rfl⟩⟩; refine ⟨_, rfl, ?_⟩) | ((with_reducible refine gate_callee (f := 50) rfl ?_); refine goesL_ (some 11) rfl rfl Try.func50 (by kernel_rfl) rfl #[.slice A1 l1.length c1] rfl uM ?_; (with_reducible refine (windbreakref01_Right.calls _ _ l1 t366 _ ?side1 ?side2 A4.out).mono ?_); (case side1 => exact uC HR1.out); (case side2 => exact HC1.out); rintro e w' ⟨rfl, ⟨nd, rfl⟩⟩; refine ⟨_, rfl, ?_⟩))
 (try simp only [Act.put, List.setIfInBounds_toArray, List.set_cons_zero, List.set_cons_succ])
 go_cut [17] (fun v17 wc => ∃ (kq : Nat) (x17_4 : Bool), v17 = .bool x17_4 ∧ Aside0 (windbreakref01_Add.j0 kq l0 l1 x17_4 = some (r1, r2)) ∧ Aside0 (kq ≤ k) ∧ Aside0 (Below w.heap.size w wc))
 case first =>
  have H := HC5.out
  clear HC5
  by_cases c6 : t365 = true
  ·
   subst c6
   have H1 : (windbreakref01_Add.j0 k l0 l1 (!t366)) = some (r1, r2) := by rw [if_pos rfl] at H; exact H
   clear H; have H := H1; clear H1
   have H' := Aside0.mk H
   clear H
   go_wp2
   go_meet
   case rel => exact ⟨_, (!t366), (by first | rfl | (simp; done) | (simp [*]; done)), H', ⟨by first | omega | exact Nat.le_refl _⟩, ⟨uB⟩⟩
  ·
   replace c6 := Bool.eq_false_iff.mpr c6
   subst c6
   have H1 : (windbreakref01_Add.j0 k l0 l1 true) = some (r1, r2) := by rw [if_neg (show ¬ (false = true) by decide)] at H; exact H
   clear H; have H := H1; clear H1
   have H' := Aside0.mk H
   clear H
   go_wp2
   go_meet
   case rel => exact ⟨_, (true), (by first | rfl | (simp; done) | (simp [*]; done)), H', ⟨by first | omega | exact Nat.le_refl _⟩, ⟨uB⟩⟩
 case rest =>
  clear HC5
  try clear c1
  try clear c2
  try clear p2
  try clear c5
  try clear c6
  obtain ⟨kq, x17_4, rfl, HA, HJ4, HB⟩ := hcut
  cases kq with
  | zero => exact absurd HA.out (by simp [windbreakref01_Add.j0])
  | succ kj4 =>
   have H := HA.out
   clear HA
   simp only [windbreakref01_Add.j0] at H
   by_cases c7 : x17_4 = true
   ·
    subst c7
    have H1 : (some (([] : List Int), 1)) = some (r1, r2) := by rw [if_pos rfl] at H; exact H
    clear H; have H := H1; clear H1
    simp only [Option.some.injEq, Prod.mk.injEq] at H
    obtain ⟨rfl, rfl⟩ := H
    go_wp2
    go_ret2
    exact ⟨_, by first | rfl | (simp [errW_none, errW_some] <;> rfl) | (simp [*, errW_none, errW_some] <;> rfl), by first | exact Kd.R_nil _ _ _ _ _ | exact Kd.N_nil _ _ _ _ _ | exact Kd.V_nil _ _ _ _ _ | exact Kd.Q_nil _ _ _ _ _ | exact Kd.S_nil _ _ _ _ _, uB⟩
   ·
    replace c7 := Bool.eq_false_iff.mpr c7
    subst c7
    have H1 : ((windbreakref01_In.f kj4 l0).bind fun t367 => ((windbreakref01_In.f kj4 l1).bind fun t370 => ((windbreakref01_add.f kj4 t367 t370).bind fun t373 => ((windbreakref01_told.f kj4 t373).bind fun bt376 => (some (bt376.1, bt376.2)))))) = some (r1, r2) := by rw [if_neg (show ¬ (false = true) by decide)] at H; exact H
    clear H; have H := H1; clear H1
    replace H := Option.bind_eq_some_iff.mp H
    obtain ⟨t367, A80, H⟩ := H
    replace H : ((windbreakref01_In.f kj4 l1).bind fun t370 => ((windbreakref01_add.f kj4 t367 t370).bind fun t373 => ((windbreakref01_told.f kj4 t373).bind fun bt376 => (some (bt376.1, bt376.2))))) = some (r1, r2) := H
    have A8 := Aside0.mk A80; clear A80
    replace H := Option.bind_eq_some_iff.mp H
    obtain ⟨t370, A90, H⟩ := H
    replace H : ((windbreakref01_add.f kj4 t367 t370).bind fun t373 => ((windbreakref01_told.f kj4 t373).bind fun bt376 => (some (bt376.1, bt376.2)))) = some (r1, r2) := H
    have A9 := Aside0.mk A90; clear A90
    replace H := Option.bind_eq_some_iff.mp H
    obtain ⟨t373, A100, H⟩ := H
    replace H : ((windbreakref01_told.f kj4 t373).bind fun bt376 => (some (bt376.1, bt376.2))) = some (r1, r2) := H
    have A10 := Aside0.mk A100; clear A100
    replace H := Option.bind_eq_some_iff.mp H
    obtain ⟨⟨t376, t377⟩, A110, H⟩ := H
    replace H : (some (t376, t377)) = some (r1, r2) := H
    have A11 := Aside0.mk A110; clear A110
    simp only [Option.some.injEq, Prod.mk.injEq] at H
    obtain ⟨rfl, rfl⟩ := H
    go_wp2_with (first | ((with_reducible refine gate_callee (f := 54) rfl ?_); refine goesL_ (some 19) rfl rfl Try.func54 (by kernel_rfl) rfl #[.slice A0 l0.length c0] rfl uM ?_; (with_reducible refine (windbreakref01_In.calls kj4 _ _ l0 t367 _ ?side1 ?side2 A8.out).mono ?_); (case side1 => exact uC (Kd.C_below HR0.out HB.out)); (case side2 => exact HC0.out); rintro e w12 ⟨v368, rfl, ho0, hb⟩; refine ⟨_, rfl, ?_⟩; have n0_ := Aside0.mk (Kd.R_lower ho0 (below_size uB)); have n1_ := Aside0.mk (below_step uB hb); clear HB; have HO369 := n0_; have HB := n1_; clear n0_ n1_; (try clear hb); (try clear hb2); (try clear hk); (try clear hi); (try clear ho0)) | ((with_reducible refine gate_callee (f := 54) rfl ?_); refine goesL_ (some 21) rfl rfl Try.func54 (by kernel_rfl) rfl #[.slice A1 l1.length c1] rfl uM ?_; (with_reducible refine (windbreakref01_In.calls kj4 _ _ l1 t370 _ ?side1 ?side2 A9.out).mono ?_); (case side1 => exact uC (Kd.C_below HR1.out HB.out)); (case side2 => exact HC1.out); rintro e w13 ⟨v371, rfl, ho0, hb⟩; refine ⟨_, rfl, ?_⟩; have n0_ := Aside0.mk (Kd.R_elder' (uR HO369.out) (Kd.R_base ho0) hb); have n1_ := Aside0.mk (Kd.R_lower (Kd.R_new' ho0 (Kd.R_lt (uR HO369.out))) (below_size uB)); have n2_ := Aside0.mk (below_step uB hb); clear HO369; clear HB; have HO369 := n0_; have HO372 := n1_; have HB := n2_; clear n0_ n1_ n2_; (try clear hb); (try clear hb2); (try clear hk); (try clear hi); (try clear ho0); obtain ⟨Ao14, co14, eo14⟩ := Kd.R_slice HO369.out; subst eo14; obtain ⟨Ao15, co15, eo15⟩ := Kd.R_slice HO372.out; subst eo15) | ((with_reducible refine gate_callee (f := 53) rfl ?_); refine goesL_ (some 22) rfl rfl Try.func53 (by kernel_rfl) rfl #[.slice Ao14 t367.length co14, .slice Ao15 t370.length co15] rfl uM ?_; (with_reducible refine (windbreakref01_add.calls kj4 _ _ t367 _ _ t370 t373 _ ?side1 ?side2 ?side3 ?side4 A10.out).mono ?_); (case side1 => exact uC (Kd.R_reads' HO369.out).2.2); (case side2 => exact (Kd.R_reads' HO369.out).2.1); (case side3 => exact uC (Kd.R_reads' HO372.out).2.2); (case side4 => exact (Kd.R_reads' HO372.out).2.1); rintro e w16 ⟨v374, rfl, ho0, hb⟩; refine ⟨_, rfl, ?_⟩; have n0_ := Aside0.mk (Kd.R_elder' (uR HO369.out) (Kd.R_base ho0) hb); have n1_ := Aside0.mk (Kd.R_elder' (uR HO372.out) (Kd.R_base ho0) hb); have n2_ := Aside0.mk (Kd.R_lower (Kd.R_new' (Kd.R_new' ho0 (Kd.R_lt (uR HO369.out))) (Kd.R_lt (uR HO372.out))) (below_size uB)); have n3_ := Aside0.mk (below_step uB hb); clear HO369; clear HO372; clear HB; have HO369 := n0_; have HO372 := n1_; have HO375 := n2_; have HB := n3_; clear n0_ n1_ n2_ n3_; (try clear hb); (try clear hb2); (try clear hk); (try clear hi); (try clear ho0); obtain ⟨Ao17, co17, eo17⟩ := Kd.R_slice HO375.out; subst eo17) | ((with_reducible refine gate_callee (f := 52) rfl ?_); refine goesL_ (some 23) rfl rfl Try.func52 (by kernel_rfl) rfl #[.slice Ao17 t373.length co17] rfl uM ?_; (with_reducible refine (windbreakref01_told.calls kj4 _ _ t373 t376 t377 _ ?side1 ?side2 A11.out).mono ?_); (case side1 => exact uC (Kd.R_reads' HO375.out).2.2); (case side2 => exact (Kd.R_reads' HO375.out).2.1); rintro e w18 ⟨v378, rfl, ho0, hb⟩; refine ⟨_, rfl, ?_⟩; have n0_ := Aside0.mk (Kd.R_elder' (uR HO369.out) (Kd.R_base ho0) hb); have n1_ := Aside0.mk (Kd.R_elder' (uR HO372.out) (Kd.R_base ho0) hb); have n2_ := Aside0.mk (Kd.R_elder' (uR HO375.out) (Kd.R_base ho0) hb); have n3_ := Aside0.mk (Kd.R_lower (Kd.R_new' (Kd.R_new' (Kd.R_new' ho0 (Kd.R_lt (uR HO369.out))) (Kd.R_lt (uR HO372.out))) (Kd.R_lt (uR HO375.out))) (below_size uB)); have n4_ := Aside0.mk (below_step uB hb); clear HO369; clear HO372; clear HO375; clear HB; have HO369 := n0_; have HO372 := n1_; have HO375 := n2_; have HO379 := n3_; have HB := n4_; clear n0_ n1_ n2_ n3_ n4_; (try clear hb); (try clear hb2); (try clear hk); (try clear hi); (try clear ho0)))
    go_ret2
    exact ⟨_, by first | rfl | (simp [errW_none, errW_some] <;> rfl) | (simp [*, errW_none, errW_some] <;> rfl), by (with_reducible repeat (first | apply Kd.R_alloc | apply Kd.R_drewN | apply Kd.R_drew)); exact Kd.R_mono HO379.out (fun _ hk => trivial), uB⟩

end Go.Proofs.Ytgeanpnkllnipab.F
end

section
namespace Go.Proofs.Ytgeanpnkllnipab.F
open Go.RowKit Go.Proofs.YtgeanpnkllnipabW.PrintWords Go.Proofs.YtgeanpnkllnipabW.PrintLast Go.Proofs.YtgeanpnkllnipabW.PrintMore
attribute [local go_sem] max2_int min2_int max_two min_two max_three min_three max_four min_four
set_option linter.unusedVariables false
set_option linter.unusedSimpArgs false

def windbreakref01_sub.l0 : Nat → List Int → List Int → List Int → Int → Int → Option (List Int)
 | 0, _, _, _, _, _ => none
 | k + 1, x0, x1, x5, x6, x7 => if x7 < (x0.length : Int) then (if 0 ≤ x7 then ((windbreakref01_digit.f x1 x7).bind fun t398 => (if x5.length < 17592186044416 then (windbreakref01_sub.l0 k x0 x1 (x5 ++ [Int.tmod (IntKind.u64.wrap ((IntKind.u64.wrap ((IntKind.u64.wrap (65536 + (rd x0 x7))) - t398)) - x6)) 65536]) (IntKind.u64.wrap (1 - (IntKind.u64.wrap (Int.tdiv (IntKind.u64.wrap ((IntKind.u64.wrap ((IntKind.u64.wrap (65536 + (rd x0 x7))) - t398)) - x6)) 65536)))) (wrap64 (x7 + 1))) else (none))) else (none)) else ((windbreakref01_cut.f k x5).bind fun t402 => (some t402))
def windbreakref01_sub.f (k : Nat) (l0 : List Int) (l1 : List Int) : Option (List Int) := windbreakref01_sub.l0 k l0 l1 ([] : List Int) 0 0
set_option maxHeartbeats 8000000 in
set_option maxRecDepth 100000 in
theorem windbreakref01_sub.calls (k : Nat) (A0 : Option Addr) (c0 : Nat) (l0 : List Int) (A1 : Option Addr) (c1 : Nat) (l1 : List Int) (r : List Int) (w : World) (hr0 : Kd.C (Kd.int .u64) w A0 l0.length l0) (hc0 : l0.length ≤ c0) (hr1 : Kd.C (Kd.int .u64) w A1 l1.length l1) (hc1 : l1.length ≤ c1) (h : windbreakref01_sub.f k l0 l1 = some r) :
  Calls Try.prog 126 #[.slice A0 l0.length c0, .slice A1 l1.length c1] w fun e w' => ∃ v0_ : Value, e = .returned (v0_) ∧ Kd.R (Kd.int .u64) 27 w' w.heap.size (fun _ => True) v0_ r ∧ Below w.heap.size w w' := by
 have HR0 := Aside0.mk hr0; have HC0 := Aside0.mk hc0; clear hr0 hc0; have HR1 := Aside0.mk hr1; have HC1 := Aside0.mk hc1; clear hr1 hc1
 have HB := Aside0.mk (Below.refl w.heap.size w)
 have H : (windbreakref01_sub.l0 k l0 l1 ([] : List Int) 0 0) = some r := h
 clear h
 have H' := Aside0.mk H
 clear H
 go_enter Try.func126, Try.ntmps126
 go_wp2
 repeat (go_quiet (fail); try go_wp2)
 go_loopg [5, 6, 7] k (fun kq v5 v6 v7 w' => ∃ (x5_1 : List Int) (x6_1 : Int) (x7_1 : Int), v6 = .int .u64 x6_1 ∧ v7 = .int .i64 x7_1 ∧ Aside0 (windbreakref01_sub.l0 kq l0 l1 x5_1 x6_1 x7_1 = some r) ∧ Aside0 (kq ≤ k) ∧ Aside0 (Kd.R (Kd.int .u64) 27 w' w.heap.size (fun _ => True) v5 x5_1) ∧ Aside0 (Below w.heap.size w w'))
 case atStart => exact ⟨(([] : List Int)), (0), (0), (by first | rfl | (simp; done) | (simp [*]; done)), (by first | rfl | (simp; done) | (simp [*]; done)), H', ⟨Nat.le_refl _⟩, ⟨by first | exact Kd.R_nil _ _ _ _ _ | exact Kd.N_nil _ _ _ _ _ | exact Kd.V_nil _ _ _ _ _ | exact Kd.Q_nil _ _ _ _ _ | exact Kd.S_nil _ _ _ _ _⟩, ⟨uB⟩⟩
 case round =>
  clear H'
  try clear c1
  try clear p2
  obtain ⟨x5_1, x6_1, x7_1, rfl, rfl, HA, HK1, HO_5, HB⟩ := hrel
  cases gk with
  | zero => exact absurd HA.out (by simp [windbreakref01_sub.l0])
  | succ k1 =>
   have H := HA.out
   clear HA
   simp only [windbreakref01_sub.l0] at H
   by_cases c3 : x7_1 < (l0.length : Int)
   ·
    rw [if_pos c3] at H
    have c3b0 : decide (x7_1 < (l0.length : Int)) = true := decide_eq_true c3
    clear c3
    by_cases c4 : 0 ≤ x7_1
    ·
     rw [if_pos c4] at H
     have c4b0 : decide (0 ≤ x7_1) = true := decide_eq_true c4
     clear c4
     replace H := Option.bind_eq_some_iff.mp H
     obtain ⟨t398, A50, H⟩ := H
     replace H : (if x5_1.length < 17592186044416 then (windbreakref01_sub.l0 k1 l0 l1 (x5_1 ++ [Int.tmod (IntKind.u64.wrap ((IntKind.u64.wrap ((IntKind.u64.wrap (65536 + (rd l0 x7_1))) - t398)) - x6_1)) 65536]) (IntKind.u64.wrap (1 - (IntKind.u64.wrap (Int.tdiv (IntKind.u64.wrap ((IntKind.u64.wrap ((IntKind.u64.wrap (65536 + (rd l0 x7_1))) - t398)) - x6_1)) 65536)))) (wrap64 (x7_1 + 1))) else (none)) = some r := H
     have A5 := Aside0.mk A50; clear A50
     by_cases c6 : x5_1.length < 17592186044416
     ·
      rw [if_pos c6] at H
      have LMc6 := Aside0.mk c6; clear c6
      obtain ⟨y399, hy399⟩ : ∃ y_ : List Int, y_ = (x5_1 ++ [Int.tmod (IntKind.u64.wrap ((IntKind.u64.wrap ((IntKind.u64.wrap (65536 + (rd l0 x7_1))) - t398)) - x6_1)) 65536]) := ⟨_, rfl⟩
      replace H : (windbreakref01_sub.l0 k1 l0 l1 y399 (IntKind.u64.wrap (1 - (IntKind.u64.wrap (Int.tdiv (IntKind.u64.wrap ((IntKind.u64.wrap ((IntKind.u64.wrap (65536 + (rd l0 x7_1))) - t398)) - x6_1)) 65536)))) (wrap64 (x7_1 + 1))) = some r := by first | (rw [hy399]; with_reducible exact H) | (have H2_ := (Option.bind_some _ _).symm.trans H; rw [hy399]; with_reducible exact H2_) | (have H2_ := (Option.bind_some _ _).symm.trans H; with_reducible exact H2_) | with_reducible exact H | (rw [hy399]; exact H) | exact H
      have Ny399 := Aside0.mk hy399; clear hy399
      have H' := Aside0.mk H
      clear H
      have p397 : 0 ≤ (x7_1 : Int) := of_decide_eq_true (by first | (with_reducible assumption) | assumption)
      have q397 : x7_1 < (l0.length : Int) := of_decide_eq_true (by first | (with_reducible assumption) | assumption)
      obtain ⟨ad397, e397, hx397_0⟩ := Kd.at_int HR0.out x7_1 p397 q397
      cases e397
      replace hx397_0 := (HB.out.cell (World.block_lt_of_cell? w _ hx397_0)).trans hx397_0
      replace p397 := eq_true p397
      replace q397 := eq_true q397
      go_wp2_with (first | (go_at_call 98; (with_reducible refine (windbreakref01_digit.calls _ _ l1 x7_1 t398 _ ?side1 ?side2 A5.out).mono ?_); (case side1 => exact uC (Kd.C_below HR1.out HB.out)); (case side2 => exact HC1.out); rintro e w' ⟨rfl, ⟨nd, rfl⟩⟩; (try first | exact ⟨rfl, _, World.drewN_drewN _ _ _⟩ | exact ⟨rfl, _, Eq.trans (World.drewN_drewN _ _ _) (congrArg (World.drewN _) (Nat.add_assoc _ _ _))⟩)) | ((with_reducible refine gate_builtin (b := .append) (xs := #[.tmp 26, .tmp 29]) rfl ?_); at_builtin; refine Kd.R_append (Kd.int .u64) (w0 := w) w.heap.size rfl (.tmp 26) (.tmp 29) 70 27 (.int .u64 0) 8 rfl Try.underlying70 info27 rfl (by decide) (by omega) u5 x5_1 (Int.tmod (IntKind.u64.wrap ((IntKind.u64.wrap ((IntKind.u64.wrap (65536 + (rd l0 x7_1))) - t398)) - x6_1)) 65536) [.int .u64 (Int.tmod (IntKind.u64.wrap ((IntKind.u64.wrap ((IntKind.u64.wrap (65536 + (rd l0 x7_1))) - t398)) - x6_1)) 65536)] (fun _ => True) (fun _ => False) rfl rfl ?aP (fun _ hk => hk.elim) ?aF ?aO ?aB ?aS ?aL ?_; (case aP => exact rfl); (case aB => exact uB); (case aF => exact (fun _ _ => trivial)); (case aO => exact (uR HO_5.out)); (case aS => exact (below_size uB)); (case aL => have := LMc6.out; omega); intro v400 w7 ho hb hg hat; rw [← Ny399.out] at ho; have n0_ := Aside0.mk (hb); have n1_ := Aside0.mk (ho); clear HB; clear HO_5; have HB := n0_; have HO401 := n1_; clear n0_ n1_; clear ho hb hg hat))
      repeat (go_quiet (first | (go_at_call 98; (with_reducible refine (windbreakref01_digit.calls _ _ l1 x7_1 t398 _ ?side1 ?side2 A5.out).mono ?_); (case side1 => exact uC (Kd.C_below HR1.out HB.out)); (case side2 => exact HC1.out); rintro e w' ⟨rfl, ⟨nd, rfl⟩⟩; (try first | exact ⟨rfl, _, World.drewN_drewN _ _ _⟩ | exact ⟨rfl, _, Eq.trans (World.drewN_drewN _ _ _) (congrArg (World.drewN _) (Nat.add_assoc _ _ _))⟩)) | ((with_reducible refine gate_builtin (b := .append) (xs := #[.tmp 26, .tmp 29]) rfl ?_); at_builtin; refine Kd.R_append (Kd.int .u64) (w0 := w) w.heap.size rfl (.tmp 26) (.tmp 29) 70 27 (.int .u64 0) 8 rfl Try.underlying70 info27 rfl (by decide) (by omega) u5 x5_1 (Int.tmod (IntKind.u64.wrap ((IntKind.u64.wrap ((IntKind.u64.wrap (65536 + (rd l0 x7_1))) - t398)) - x6_1)) 65536) [.int .u64 (Int.tmod (IntKind.u64.wrap ((IntKind.u64.wrap ((IntKind.u64.wrap (65536 + (rd l0 x7_1))) - t398)) - x6_1)) 65536)] (fun _ => True) (fun _ => False) rfl rfl ?aP (fun _ hk => hk.elim) ?aF ?aO ?aB ?aS ?aL ?_; (case aP => exact rfl); (case aB => exact uB); (case aF => exact (fun _ _ => trivial)); (case aO => exact (uR HO_5.out)); (case aS => exact (below_size uB)); (case aL => have := LMc6.out; omega); intro v400 w7 ho hb hg hat; rw [← Ny399.out] at ho; have n0_ := Aside0.mk (hb); have n1_ := Aside0.mk (ho); clear HB; clear HO_5; have HB := n0_; have HO401 := n1_; clear n0_ n1_; clear ho hb hg hat)); try go_wp2_with (first | (go_at_call 98; (with_reducible refine (windbreakref01_digit.calls _ _ l1 x7_1 t398 _ ?side1 ?side2 A5.out).mono ?_); (case side1 => exact uC (Kd.C_below HR1.out HB.out)); (case side2 => exact HC1.out); rintro e w' ⟨rfl, ⟨nd, rfl⟩⟩; (try first | exact ⟨rfl, _, World.drewN_drewN _ _ _⟩ | exact ⟨rfl, _, Eq.trans (World.drewN_drewN _ _ _) (congrArg (World.drewN _) (Nat.add_assoc _ _ _))⟩)) | ((with_reducible refine gate_builtin (b := .append) (xs := #[.tmp 26, .tmp 29]) rfl ?_); at_builtin; refine Kd.R_append (Kd.int .u64) (w0 := w) w.heap.size rfl (.tmp 26) (.tmp 29) 70 27 (.int .u64 0) 8 rfl Try.underlying70 info27 rfl (by decide) (by omega) u5 x5_1 (Int.tmod (IntKind.u64.wrap ((IntKind.u64.wrap ((IntKind.u64.wrap (65536 + (rd l0 x7_1))) - t398)) - x6_1)) 65536) [.int .u64 (Int.tmod (IntKind.u64.wrap ((IntKind.u64.wrap ((IntKind.u64.wrap (65536 + (rd l0 x7_1))) - t398)) - x6_1)) 65536)] (fun _ => True) (fun _ => False) rfl rfl ?aP (fun _ hk => hk.elim) ?aF ?aO ?aB ?aS ?aL ?_; (case aP => exact rfl); (case aB => exact uB); (case aF => exact (fun _ _ => trivial)); (case aO => exact (uR HO_5.out)); (case aS => exact (below_size uB)); (case aL => have := LMc6.out; omega); intro v400 w7 ho hb hg hat; rw [← Ny399.out] at ho; have n0_ := Aside0.mk (hb); have n1_ := Aside0.mk (ho); clear HB; clear HO_5; have HB := n0_; have HO401 := n1_; clear n0_ n1_; clear ho hb hg hat)))
      go_roundg k1
      case measure => have := HK1.out; omega
      case rel => exact ⟨(y399), (IntKind.u64.wrap (1 - (IntKind.u64.wrap (Int.tdiv (IntKind.u64.wrap ((IntKind.u64.wrap ((IntKind.u64.wrap (65536 + (rd l0 x7_1))) - t398)) - x6_1)) 65536)))), (wrap64 (x7_1 + 1)), (by first | rfl | (simp; done) | (simp [*]; done)), (by first | rfl | (simp; done) | (simp [*]; done)), H', ⟨by have := HK1.out; omega⟩, ⟨uR HO401.out⟩, ⟨uB⟩⟩
     ·
      rw [if_neg c6] at H
      exact absurd H (by simp)
    ·
     rw [if_neg c4] at H
     exact absurd H (by simp)
   ·
    rw [if_neg c3] at H
    have c3b0 : decide (x7_1 < (l0.length : Int)) = false := decide_eq_false c3
    clear c3
    replace H := Option.bind_eq_some_iff.mp H
    obtain ⟨t402, A80, H⟩ := H
    replace H : (some t402) = some r := H
    have A8 := Aside0.mk A80; clear A80
    obtain rfl := Option.some.inj H
    obtain ⟨Ao9, co9, eo9⟩ := Kd.R_slice HO_5.out
    subst eo9
    go_wp2_with (first | (go_at_call 99; (with_reducible refine (windbreakref01_cut.calls k1 (fun k_ => some k_ = (.slice Ao9 x5_1.length co9 : Value).ownBlock) (.slice Ao9 x5_1.length co9) x5_1 t402 w _ ?side1 ?side2 A8.out).mono ?_); (case side1 => repeat (first | (with_reducible first | exact HB.out | apply below_alloc | apply pw_below_drewN | apply below_drew1) | exact HB.out)); (case side2 => exact Kd.R_tight rfl HO_5.out); rintro e w10 ⟨v403, rfl, ho0, hb, hkp⟩; have n0_ := Aside0.mk (Kd.R_mono (ok' := fun k_ => True) ho0 (fun k_ hk_ => trivial)); have n1_ := Aside0.mk (hb); clear HB; clear HO_5; have HO404 := n0_; have HB := n1_; clear n0_ n1_; (try clear hb); (try clear hkp); (try clear ho0)))
    repeat (go_quiet (first | (go_at_call 99; (with_reducible refine (windbreakref01_cut.calls k1 (fun k_ => some k_ = (.slice Ao9 x5_1.length co9 : Value).ownBlock) (.slice Ao9 x5_1.length co9) x5_1 t402 w _ ?side1 ?side2 A8.out).mono ?_); (case side1 => repeat (first | (with_reducible first | exact HB.out | apply below_alloc | apply pw_below_drewN | apply below_drew1) | exact HB.out)); (case side2 => exact Kd.R_tight rfl HO_5.out); rintro e w10 ⟨v403, rfl, ho0, hb, hkp⟩; have n0_ := Aside0.mk (Kd.R_mono (ok' := fun k_ => True) ho0 (fun k_ hk_ => trivial)); have n1_ := Aside0.mk (hb); clear HB; clear HO_5; have HO404 := n0_; have HB := n1_; clear n0_ n1_; (try clear hb); (try clear hkp); (try clear ho0))); try go_wp2_with (first | (go_at_call 99; (with_reducible refine (windbreakref01_cut.calls k1 (fun k_ => some k_ = (.slice Ao9 x5_1.length co9 : Value).ownBlock) (.slice Ao9 x5_1.length co9) x5_1 t402 w _ ?side1 ?side2 A8.out).mono ?_); (case side1 => repeat (first | (with_reducible first | exact HB.out | apply below_alloc | apply pw_below_drewN | apply below_drew1) | exact HB.out)); (case side2 => exact Kd.R_tight rfl HO_5.out); rintro e w10 ⟨v403, rfl, ho0, hb, hkp⟩; have n0_ := Aside0.mk (Kd.R_mono (ok' := fun k_ => True) ho0 (fun k_ hk_ => trivial)); have n1_ := Aside0.mk (hb); clear HB; clear HO_5; have HO404 := n0_; have HB := n1_; clear n0_ n1_; (try clear hb); (try clear hkp); (try clear ho0))))
    go_ret
    exact ⟨_, by first | rfl | (simp [errW_none, errW_some] <;> rfl) | (simp [*, errW_none, errW_some] <;> rfl), uR HO404.out, uB⟩

end Go.Proofs.Ytgeanpnkllnipab.F
end

section
namespace Go.Proofs.Ytgeanpnkllnipab.F
open Go.RowKit Go.Proofs.YtgeanpnkllnipabW.PrintWords Go.Proofs.YtgeanpnkllnipabW.PrintLast Go.Proofs.YtgeanpnkllnipabW.PrintMore
attribute [local go_sem] max2_int min2_int max_two min_two max_three min_three max_four min_four
set_option linter.unusedVariables false
set_option linter.unusedSimpArgs false

def windbreakref01_Sub.j0 : Nat → List Int → List Int → Bool → Option (List Int × Int)
 | 0, _, _, _ => none
 | k + 1, x0, x1, x19 => if x19 = true then (some (([] : List Int), 1)) else ((windbreakref01_In.f k x0).bind fun t839 => ((windbreakref01_In.f k x1).bind fun t842 => ((windbreakref01_compare.f k t839 t842).bind fun t845 => (if t845 < 0 then (some (([] : List Int), 2)) else ((windbreakref01_sub.f k t839 t842).bind fun t846 => ((windbreakref01_told.f k t846).bind fun bt849 => (some (bt849.1, bt849.2))))))))
def windbreakref01_Sub.f (k : Nat) (l0 : List Int) (l1 : List Int) : Option (List Int × Int) := (windbreakref01_Right.f l0).bind fun t837 => ((windbreakref01_Right.f l1).bind fun t838 => (if t837 = true then (windbreakref01_Sub.j0 k l0 l1 (!t838)) else (windbreakref01_Sub.j0 k l0 l1 true)))
set_option maxHeartbeats 8000000 in
set_option maxRecDepth 100000 in
theorem windbreakref01_Sub.calls (k : Nat) (A0 : Option Addr) (c0 : Nat) (l0 : List Int) (A1 : Option Addr) (c1 : Nat) (l1 : List Int) (r1 : List Int) (r2 : Int) (w : World) (hr0 : Kd.C (Kd.int .u64) w A0 l0.length l0) (hc0 : l0.length ≤ c0) (hr1 : Kd.C (Kd.int .u64) w A1 l1.length l1) (hc1 : l1.length ≤ c1) (h : windbreakref01_Sub.f k l0 l1 = some (r1, r2)) :
  Calls Try.prog 105 #[.slice A0 l0.length c0, .slice A1 l1.length c1] w fun e w' => ∃ v0_ : Value, e = .returned (.tuple #[v0_, .int .i64 r2]) ∧ Kd.R (Kd.int .u64) 27 w' w.heap.size (fun _ => True) v0_ r1 ∧ Below w.heap.size w w' := by
 have HR0 := Aside0.mk hr0; have HC0 := Aside0.mk hc0; clear hr0 hc0; have HR1 := Aside0.mk hr1; have HC1 := Aside0.mk hc1; clear hr1 hc1
 have HB := Aside0.mk (Below.refl w.heap.size w)
 have H : ((windbreakref01_Right.f l0).bind fun t837 => ((windbreakref01_Right.f l1).bind fun t838 => (if t837 = true then (windbreakref01_Sub.j0 k l0 l1 (!t838)) else (windbreakref01_Sub.j0 k l0 l1 true)))) = some (r1, r2) := h
 clear h
 replace H := Option.bind_eq_some_iff.mp H
 obtain ⟨t837, A30, H⟩ := H
 replace H : ((windbreakref01_Right.f l1).bind fun t838 => (if t837 = true then (windbreakref01_Sub.j0 k l0 l1 (!t838)) else (windbreakref01_Sub.j0 k l0 l1 true))) = some (r1, r2) := H
 have A3 := Aside0.mk A30; clear A30
 replace H := Option.bind_eq_some_iff.mp H
 obtain ⟨t838, A40, H⟩ := H
 replace H : (if t837 = true then (windbreakref01_Sub.j0 k l0 l1 (!t838)) else (windbreakref01_Sub.j0 k l0 l1 true)) = some (r1, r2) := H
 have A4 := Aside0.mk A40; clear A40; have HC5 := Aside0.mk H; clear H
 go_enter Try.func105, Try.ntmps105
 go_upto_region 3 with (first | ((with_reducible refine gate_callee (f := 50) rfl ?_); refine goesL_ (some 11) rfl rfl Try.func50 (by kernel_rfl) rfl #[.slice A0 l0.length c0] rfl uM ?_; (with_reducible refine (windbreakref01_Right.calls _ _ l0 t837 _ ?side1 ?side2 A3.out).mono ?_); (case side1 => exact uC HR0.out); (case side2 => exact HC0.out); rintro e w' ⟨rfl, ⟨nd, rfl⟩⟩; refine ⟨_, rfl, ?_⟩) | ((with_reducible refine gate_callee (f := 50) rfl ?_); refine goesL_ (some 13) rfl rfl Try.func50 (by kernel_rfl) rfl #[.slice A1 l1.length c1] rfl uM ?_; (with_reducible refine (windbreakref01_Right.calls _ _ l1 t838 _ ?side1 ?side2 A4.out).mono ?_); (case side1 => exact uC HR1.out); (case side2 => exact HC1.out); rintro e w' ⟨rfl, ⟨nd, rfl⟩⟩; refine ⟨_, rfl, ?_⟩))
 (try simp only [Act.put, List.setIfInBounds_toArray, List.set_cons_zero, List.set_cons_succ])
 go_cut [19] (fun v19 wc => ∃ (kq : Nat) (x19_4 : Bool), v19 = .bool x19_4 ∧ Aside0 (windbreakref01_Sub.j0 kq l0 l1 x19_4 = some (r1, r2)) ∧ Aside0 (kq ≤ k) ∧ Aside0 (Below w.heap.size w wc))
 case first =>
  have H := HC5.out
  clear HC5
  by_cases c6 : t837 = true
  ·
   subst c6
   have H1 : (windbreakref01_Sub.j0 k l0 l1 (!t838)) = some (r1, r2) := by rw [if_pos rfl] at H; exact H
   clear H; have H := H1; clear H1
   have H' := Aside0.mk H
   clear H
   go_wp2
   go_meet
   case rel => exact ⟨_, (!t838), (by first | rfl | (simp; done) | (simp [*]; done)), H', ⟨by first | omega | exact Nat.le_refl _⟩, ⟨uB⟩⟩
  ·
   replace c6 := Bool.eq_false_iff.mpr c6
   subst c6
   have H1 : (windbreakref01_Sub.j0 k l0 l1 true) = some (r1, r2) := by rw [if_neg (show ¬ (false = true) by decide)] at H; exact H
   clear H; have H := H1; clear H1
   have H' := Aside0.mk H
   clear H
   go_wp2
   go_meet
   case rel => exact ⟨_, (true), (by first | rfl | (simp; done) | (simp [*]; done)), H', ⟨by first | omega | exact Nat.le_refl _⟩, ⟨uB⟩⟩
 case rest =>
  clear HC5
  try clear c1
  try clear p2
  try clear c5
  try clear c6
  obtain ⟨kq, x19_4, rfl, HA, HJ4, HB⟩ := hcut
  cases kq with
  | zero => exact absurd HA.out (by simp [windbreakref01_Sub.j0])
  | succ kj4 =>
   have H := HA.out
   clear HA
   simp only [windbreakref01_Sub.j0] at H
   by_cases c7 : x19_4 = true
   ·
    subst c7
    have H1 : (some (([] : List Int), 1)) = some (r1, r2) := by rw [if_pos rfl] at H; exact H
    clear H; have H := H1; clear H1
    simp only [Option.some.injEq, Prod.mk.injEq] at H
    obtain ⟨rfl, rfl⟩ := H
    go_wp2
    go_ret2
    exact ⟨_, by first | rfl | (simp [errW_none, errW_some] <;> rfl) | (simp [*, errW_none, errW_some] <;> rfl), by first | exact Kd.R_nil _ _ _ _ _ | exact Kd.N_nil _ _ _ _ _ | exact Kd.V_nil _ _ _ _ _ | exact Kd.Q_nil _ _ _ _ _ | exact Kd.S_nil _ _ _ _ _, uB⟩
   ·
    replace c7 := Bool.eq_false_iff.mpr c7
    subst c7
    have H1 : ((windbreakref01_In.f kj4 l0).bind fun t839 => ((windbreakref01_In.f kj4 l1).bind fun t842 => ((windbreakref01_compare.f kj4 t839 t842).bind fun t845 => (if t845 < 0 then (some (([] : List Int), 2)) else ((windbreakref01_sub.f kj4 t839 t842).bind fun t846 => ((windbreakref01_told.f kj4 t846).bind fun bt849 => (some (bt849.1, bt849.2)))))))) = some (r1, r2) := by rw [if_neg (show ¬ (false = true) by decide)] at H; exact H
    clear H; have H := H1; clear H1
    replace H := Option.bind_eq_some_iff.mp H
    obtain ⟨t839, A80, H⟩ := H
    replace H : ((windbreakref01_In.f kj4 l1).bind fun t842 => ((windbreakref01_compare.f kj4 t839 t842).bind fun t845 => (if t845 < 0 then (some (([] : List Int), 2)) else ((windbreakref01_sub.f kj4 t839 t842).bind fun t846 => ((windbreakref01_told.f kj4 t846).bind fun bt849 => (some (bt849.1, bt849.2))))))) = some (r1, r2) := H
    have A8 := Aside0.mk A80; clear A80
    replace H := Option.bind_eq_some_iff.mp H
    obtain ⟨t842, A90, H⟩ := H
    replace H : ((windbreakref01_compare.f kj4 t839 t842).bind fun t845 => (if t845 < 0 then (some (([] : List Int), 2)) else ((windbreakref01_sub.f kj4 t839 t842).bind fun t846 => ((windbreakref01_told.f kj4 t846).bind fun bt849 => (some (bt849.1, bt849.2)))))) = some (r1, r2) := H
    have A9 := Aside0.mk A90; clear A90
    replace H := Option.bind_eq_some_iff.mp H
    obtain ⟨t845, A100, H⟩ := H
    replace H : (if t845 < 0 then (some (([] : List Int), 2)) else ((windbreakref01_sub.f kj4 t839 t842).bind fun t846 => ((windbreakref01_told.f kj4 t846).bind fun bt849 => (some (bt849.1, bt849.2))))) = some (r1, r2) := H
    have A10 := Aside0.mk A100; clear A100
    by_cases c11 : t845 < 0
    ·
     rw [if_pos c11] at H
     have c11b0 : decide (t845 < 0) = true := decide_eq_true c11
     clear c11
     simp only [Option.some.injEq, Prod.mk.injEq] at H
     obtain ⟨rfl, rfl⟩ := H
     go_wp2_with (first | ((with_reducible refine gate_callee (f := 54) rfl ?_); refine goesL_ (some 21) rfl rfl Try.func54 (by kernel_rfl) rfl #[.slice A0 l0.length c0] rfl uM ?_; (with_reducible refine (windbreakref01_In.calls kj4 _ _ l0 t839 _ ?side1 ?side2 A8.out).mono ?_); (case side1 => exact uC (Kd.C_below HR0.out HB.out)); (case side2 => exact HC0.out); rintro e w12 ⟨v840, rfl, ho0, hb⟩; refine ⟨_, rfl, ?_⟩; have n0_ := Aside0.mk (Kd.R_lower ho0 (below_size uB)); have n1_ := Aside0.mk (below_step uB hb); clear HB; have HO841 := n0_; have HB := n1_; clear n0_ n1_; (try clear hb); (try clear hb2); (try clear hk); (try clear hi); (try clear ho0)) | ((with_reducible refine gate_callee (f := 54) rfl ?_); refine goesL_ (some 23) rfl rfl Try.func54 (by kernel_rfl) rfl #[.slice A1 l1.length c1] rfl uM ?_; (with_reducible refine (windbreakref01_In.calls kj4 _ _ l1 t842 _ ?side1 ?side2 A9.out).mono ?_); (case side1 => exact uC (Kd.C_below HR1.out HB.out)); (case side2 => exact HC1.out); rintro e w13 ⟨v843, rfl, ho0, hb⟩; refine ⟨_, rfl, ?_⟩; have n0_ := Aside0.mk (Kd.R_elder' (uR HO841.out) (Kd.R_base ho0) hb); have n1_ := Aside0.mk (Kd.R_lower (Kd.R_new' ho0 (Kd.R_lt (uR HO841.out))) (below_size uB)); have n2_ := Aside0.mk (below_step uB hb); clear HO841; clear HB; have HO841 := n0_; have HO844 := n1_; have HB := n2_; clear n0_ n1_ n2_; (try clear hb); (try clear hb2); (try clear hk); (try clear hi); (try clear ho0); obtain ⟨Ao14, co14, eo14⟩ := Kd.R_slice HO841.out; subst eo14; obtain ⟨Ao15, co15, eo15⟩ := Kd.R_slice HO844.out; subst eo15) | ((with_reducible refine gate_callee (f := 110) rfl ?_); refine goesL_ (some 26) rfl rfl Try.func110 (by kernel_rfl) rfl #[.slice Ao14 t839.length co14, .slice Ao15 t842.length co15] rfl uM ?_; (with_reducible refine (windbreakref01_compare.calls kj4 _ _ t839 _ _ t842 t845 _ ?side1 ?side2 ?side3 ?side4 A10.out).mono ?_); (case side1 => exact uC (Kd.R_reads' HO841.out).2.2); (case side2 => exact (Kd.R_reads' HO841.out).2.1); (case side3 => exact uC (Kd.R_reads' HO844.out).2.2); (case side4 => exact (Kd.R_reads' HO844.out).2.1); rintro e w' ⟨rfl, ⟨nd, rfl⟩⟩; refine ⟨_, rfl, ?_⟩))
     go_ret2
     exact ⟨_, by first | rfl | (simp [errW_none, errW_some] <;> rfl) | (simp [*, errW_none, errW_some] <;> rfl), by first | exact Kd.R_nil _ _ _ _ _ | exact Kd.N_nil _ _ _ _ _ | exact Kd.V_nil _ _ _ _ _ | exact Kd.Q_nil _ _ _ _ _ | exact Kd.S_nil _ _ _ _ _, uB⟩
    ·
     rw [if_neg c11] at H
     have c11b0 : decide (t845 < 0) = false := decide_eq_false c11
     clear c11
     replace H := Option.bind_eq_some_iff.mp H
     obtain ⟨t846, A160, H⟩ := H
     replace H : ((windbreakref01_told.f kj4 t846).bind fun bt849 => (some (bt849.1, bt849.2))) = some (r1, r2) := H
     have A16 := Aside0.mk A160; clear A160
     replace H := Option.bind_eq_some_iff.mp H
     obtain ⟨⟨t849, t850⟩, A170, H⟩ := H
     replace H : (some (t849, t850)) = some (r1, r2) := H
     have A17 := Aside0.mk A170; clear A170
     simp only [Option.some.injEq, Prod.mk.injEq] at H
     obtain ⟨rfl, rfl⟩ := H
     go_wp2_with (first | ((with_reducible refine gate_callee (f := 54) rfl ?_); refine goesL_ (some 21) rfl rfl Try.func54 (by kernel_rfl) rfl #[.slice A0 l0.length c0] rfl uM ?_; (with_reducible refine (windbreakref01_In.calls kj4 _ _ l0 t839 _ ?side1 ?side2 A8.out).mono ?_); (case side1 => exact uC (Kd.C_below HR0.out HB.out)); (case side2 => exact HC0.out); rintro e w18 ⟨v840, rfl, ho0, hb⟩; refine ⟨_, rfl, ?_⟩; have n0_ := Aside0.mk (Kd.R_lower ho0 (below_size uB)); have n1_ := Aside0.mk (below_step uB hb); clear HB; have HO841 := n0_; have HB := n1_; clear n0_ n1_; (try clear hb); (try clear hb2); (try clear hk); (try clear hi); (try clear ho0)) | ((with_reducible refine gate_callee (f := 54) rfl ?_); refine goesL_ (some 23) rfl rfl Try.func54 (by kernel_rfl) rfl #[.slice A1 l1.length c1] rfl uM ?_; (with_reducible refine (windbreakref01_In.calls kj4 _ _ l1 t842 _ ?side1 ?side2 A9.out).mono ?_); (case side1 => exact uC (Kd.C_below HR1.out HB.out)); (case side2 => exact HC1.out); rintro e w19 ⟨v843, rfl, ho0, hb⟩; refine ⟨_, rfl, ?_⟩; have n0_ := Aside0.mk (Kd.R_elder' (uR HO841.out) (Kd.R_base ho0) hb); have n1_ := Aside0.mk (Kd.R_lower (Kd.R_new' ho0 (Kd.R_lt (uR HO841.out))) (below_size uB)); have n2_ := Aside0.mk (below_step uB hb); clear HO841; clear HB; have HO841 := n0_; have HO844 := n1_; have HB := n2_; clear n0_ n1_ n2_; (try clear hb); (try clear hb2); (try clear hk); (try clear hi); (try clear ho0); obtain ⟨Ao20, co20, eo20⟩ := Kd.R_slice HO841.out; subst eo20; obtain ⟨Ao21, co21, eo21⟩ := Kd.R_slice HO844.out; subst eo21) | ((with_reducible refine gate_callee (f := 110) rfl ?_); refine goesL_ (some 26) rfl rfl Try.func110 (by kernel_rfl) rfl #[.slice Ao20 t839.length co20, .slice Ao21 t842.length co21] rfl uM ?_; (with_reducible refine (windbreakref01_compare.calls kj4 _ _ t839 _ _ t842 t845 _ ?side1 ?side2 ?side3 ?side4 A10.out).mono ?_); (case side1 => exact uC (Kd.R_reads' HO841.out).2.2); (case side2 => exact (Kd.R_reads' HO841.out).2.1); (case side3 => exact uC (Kd.R_reads' HO844.out).2.2); (case side4 => exact (Kd.R_reads' HO844.out).2.1); rintro e w' ⟨rfl, ⟨nd, rfl⟩⟩; refine ⟨_, rfl, ?_⟩) | ((with_reducible refine gate_callee (f := 126) rfl ?_); refine goesL_ (some 30) rfl rfl Try.func126 (by kernel_rfl) rfl #[.slice Ao20 t839.length co20, .slice Ao21 t842.length co21] rfl uM ?_; (with_reducible refine (windbreakref01_sub.calls kj4 _ _ t839 _ _ t842 t846 _ ?side1 ?side2 ?side3 ?side4 A16.out).mono ?_); (case side1 => exact uC (Kd.R_reads' HO841.out).2.2); (case side2 => exact (Kd.R_reads' HO841.out).2.1); (case side3 => exact uC (Kd.R_reads' HO844.out).2.2); (case side4 => exact (Kd.R_reads' HO844.out).2.1); rintro e w22 ⟨v847, rfl, ho0, hb⟩; refine ⟨_, rfl, ?_⟩; have n0_ := Aside0.mk (Kd.R_elder' (uR HO841.out) (Kd.R_base ho0) hb); have n1_ := Aside0.mk (Kd.R_elder' (uR HO844.out) (Kd.R_base ho0) hb); have n2_ := Aside0.mk (Kd.R_lower (Kd.R_new' (Kd.R_new' ho0 (Kd.R_lt (uR HO841.out))) (Kd.R_lt (uR HO844.out))) (below_size uB)); have n3_ := Aside0.mk (below_step uB hb); clear HO841; clear HO844; clear HB; have HO841 := n0_; have HO844 := n1_; have HO848 := n2_; have HB := n3_; clear n0_ n1_ n2_ n3_; (try clear hb); (try clear hb2); (try clear hk); (try clear hi); (try clear ho0); obtain ⟨Ao23, co23, eo23⟩ := Kd.R_slice HO848.out; subst eo23) | ((with_reducible refine gate_callee (f := 52) rfl ?_); refine goesL_ (some 31) rfl rfl Try.func52 (by kernel_rfl) rfl #[.slice Ao23 t846.length co23] rfl uM ?_; (with_reducible refine (windbreakref01_told.calls kj4 _ _ t846 t849 t850 _ ?side1 ?side2 A17.out).mono ?_); (case side1 => exact uC (Kd.R_reads' HO848.out).2.2); (case side2 => exact (Kd.R_reads' HO848.out).2.1); rintro e w24 ⟨v851, rfl, ho0, hb⟩; refine ⟨_, rfl, ?_⟩; have n0_ := Aside0.mk (Kd.R_elder' (uR HO841.out) (Kd.R_base ho0) hb); have n1_ := Aside0.mk (Kd.R_elder' (uR HO844.out) (Kd.R_base ho0) hb); have n2_ := Aside0.mk (Kd.R_elder' (uR HO848.out) (Kd.R_base ho0) hb); have n3_ := Aside0.mk (Kd.R_lower (Kd.R_new' (Kd.R_new' (Kd.R_new' ho0 (Kd.R_lt (uR HO841.out))) (Kd.R_lt (uR HO844.out))) (Kd.R_lt (uR HO848.out))) (below_size uB)); have n4_ := Aside0.mk (below_step uB hb); clear HO841; clear HO844; clear HO848; clear HB; have HO841 := n0_; have HO844 := n1_; have HO848 := n2_; have HO852 := n3_; have HB := n4_; clear n0_ n1_ n2_ n3_ n4_; (try clear hb); (try clear hb2); (try clear hk); (try clear hi); (try clear ho0)))
     go_ret2
     exact ⟨_, by first | rfl | (simp [errW_none, errW_some] <;> rfl) | (simp [*, errW_none, errW_some] <;> rfl), by (with_reducible repeat (first | apply Kd.R_alloc | apply Kd.R_drewN | apply Kd.R_drew)); exact Kd.R_mono HO852.out (fun _ hk => trivial), uB⟩

end Go.Proofs.Ytgeanpnkllnipab.F
end

section
namespace Go.Proofs.Ytgeanpnkllnipab.F
open Go.RowKit Go.Proofs.YtgeanpnkllnipabW.PrintWords Go.Proofs.YtgeanpnkllnipabW.PrintLast Go.Proofs.YtgeanpnkllnipabW.PrintMore
attribute [local go_sem] max2_int min2_int max_two min_two max_three min_three max_four min_four
set_option linter.unusedVariables false
set_option linter.unusedSimpArgs false

def windbreakref03_Add.j0 : Nat → Bool → Bool → List Int → Bool → List Int → Option (Bool × List Int × Int)
 | 0, _, _, _, _, _ => none
 | k + 1, x23, x854000, x854001, x855000, x855001 => if x23 = true then (some (false, ([] : List Int), 1)) else (if (x854000 == x855000) = true then ((windbreakref01_Add.f k x854001 x855001).bind fun bt858 => ((windbreakref03_From.f x854000 bt858.1).bind fun bt862 => (some (bt862.1, bt862.2, bt858.2)))) else ((windbreakref01_Cmp.f k x854001 x855001).bind fun t866 => (if t866 ≥ 0 then ((windbreakref01_Sub.f k x854001 x855001).bind fun bt867 => ((windbreakref03_From.f x854000 bt867.1).bind fun bt871 => (some (bt871.1, bt871.2, 0)))) else ((windbreakref01_Sub.f k x855001 x854001).bind fun bt875 => ((windbreakref03_From.f x855000 bt875.1).bind fun bt879 => (some (bt879.1, bt879.2, 0)))))))
def windbreakref03_Add.f (k : Nat) (a0_0 : Bool) (l0_1 : List Int) (a1_0 : Bool) (l1_1 : List Int) : Option (Bool × List Int × Int) := (windbreakref03_Right.f a0_0 l0_1).bind fun t856 => ((windbreakref03_Right.f a1_0 l1_1).bind fun t857 => (if t856 = true then (windbreakref03_Add.j0 k (!t857) a0_0 l0_1 a1_0 l1_1) else (windbreakref03_Add.j0 k true a0_0 l0_1 a1_0 l1_1)))
set_option maxHeartbeats 8000000 in
set_option maxRecDepth 100000 in
theorem windbreakref03_Add.calls (k : Nat) (a0_0 : Bool) (A0_1 : Option Addr) (c0_1 : Nat) (l0_1 : List Int) (a1_0 : Bool) (A1_1 : Option Addr) (c1_1 : Nat) (l1_1 : List Int) (r1 : Bool) (r2 : List Int) (r3 : Int) (w : World) (hr0_1 : Kd.C (Kd.int .u64) w A0_1 l0_1.length l0_1) (hc0_1 : l0_1.length ≤ c0_1) (hr1_1 : Kd.C (Kd.int .u64) w A1_1 l1_1.length l1_1) (hc1_1 : l1_1.length ≤ c1_1) (h : windbreakref03_Add.f k a0_0 l0_1 a1_0 l1_1 = some (r1, r2, r3)) :
  Calls Try.prog 64 #[.agg #[.bool a0_0, .slice A0_1 l0_1.length c0_1], .agg #[.bool a1_0, .slice A1_1 l1_1.length c1_1]] w fun e w' => ∃ v1_ : Value, e = .returned (.tuple #[.agg #[.bool r1, v1_], .int .i64 r3]) ∧ Kd.R (Kd.int .u64) 27 w' w.heap.size (fun _ => True) v1_ r2 ∧ Below w.heap.size w w' := by
 have hu52 := Try.underlying52
 have HR0_1 := Aside0.mk hr0_1; have HC0_1 := Aside0.mk hc0_1; clear hr0_1 hc0_1; have HR1_1 := Aside0.mk hr1_1; have HC1_1 := Aside0.mk hc1_1; clear hr1_1 hc1_1
 have HB := Aside0.mk (Below.refl w.heap.size w)
 have H : ((windbreakref03_Right.f a0_0 l0_1).bind fun t856 => ((windbreakref03_Right.f a1_0 l1_1).bind fun t857 => (if t856 = true then (windbreakref03_Add.j0 k (!t857) a0_0 l0_1 a1_0 l1_1) else (windbreakref03_Add.j0 k true a0_0 l0_1 a1_0 l1_1)))) = some (r1, r2, r3) := h
 clear h
 replace H := Option.bind_eq_some_iff.mp H
 obtain ⟨t856, A30, H⟩ := H
 replace H : ((windbreakref03_Right.f a1_0 l1_1).bind fun t857 => (if t856 = true then (windbreakref03_Add.j0 k (!t857) a0_0 l0_1 a1_0 l1_1) else (windbreakref03_Add.j0 k true a0_0 l0_1 a1_0 l1_1))) = some (r1, r2, r3) := H
 have A3 := Aside0.mk A30; clear A30
 replace H := Option.bind_eq_some_iff.mp H
 obtain ⟨t857, A40, H⟩ := H
 replace H : (if t856 = true then (windbreakref03_Add.j0 k (!t857) a0_0 l0_1 a1_0 l1_1) else (windbreakref03_Add.j0 k true a0_0 l0_1 a1_0 l1_1)) = some (r1, r2, r3) := H
 have A4 := Aside0.mk A40; clear A40; have HC5 := Aside0.mk H; clear H
 go_enter Try.func64, Try.ntmps64
 go_upto_region 3 with (first | ((with_reducible refine gate_dst (N := 2) rfl ?_); refine box_event ?hg (N := 2) ?hd (cs := #[.bool a0_0, .slice A0_1 l0_1.length c0_1]) (t := 52) ?hr ?_; (case hd => rfl); (case hg => rfl); (case hr => first | (go_simp; done) | (go_simp; rfl)); intro gb853 hg w6 hbox hb; have n0_ := Aside0.mk (below_step uB hb); have n1_ := Aside0.mk (hbox); have n2_ := Aside0.mk ((by rw [hg]; exact (below_size uB) : w.heap.size ≤ gb853)); have n3_ := Aside0.mk ((by rw [hg]; exact (below_size uB) : w.heap.size ≤ gb853)); clear HB; have HB := n0_; have BK853 := n1_; have GW853 := n2_; have GE853 := n3_; clear n0_ n1_ n2_ n3_; clear hb hbox hg) | ((with_reducible refine gate_dst (N := 3) rfl ?_); refine box_event ?hg (N := 3) ?hd (cs := #[.bool a1_0, .slice A1_1 l1_1.length c1_1]) (t := 52) ?hr ?_; (case hd => rfl); (case hg => rfl); (case hr => first | (go_simp; done) | (go_simp; rfl)); intro gb854 hg w7 hbox hb; have n0_ := Aside0.mk (blk_below (uK BK853.out) hb); have n1_ := Aside0.mk (below_step uB hb); have n2_ := Aside0.mk (hbox); have n3_ := Aside0.mk ((by rw [hg]; exact (below_size uB) : w.heap.size ≤ gb854)); have n4_ := Aside0.mk ((by rw [hg]; exact (below_size uB) : w.heap.size ≤ gb854)); have n5_ := Aside0.mk ((by rw [hg]; exact Nat.ne_of_lt (blk_lt (uK BK853.out)) : gb853 ≠ gb854)); have n6_ := Aside0.mk ((by rw [hg]; exact Nat.ne_of_gt (blk_lt (uK BK853.out)) : gb854 ≠ gb853)); clear BK853; clear HB; have BK853 := n0_; have HB := n1_; have BK854 := n2_; have GW854 := n3_; have GE854 := n4_; have NB853_854 := n5_; have NB854_853 := n6_; clear n0_ n1_ n2_ n3_ n4_ n5_ n6_; clear hb hbox hg) | ((with_reducible refine gate_dst (N := 4) rfl ?_); refine box_event ?hg (N := 4) ?hd (cs := #[.bool false, .slice none 0 0]) (t := 52) ?hr ?_; (case hd => rfl); (case hg => rfl); (case hr => first | (go_simp; done) | (go_simp; rfl)); intro gb855 hg w8 hbox hb; have n0_ := Aside0.mk (blk_below (uK BK853.out) hb); have n1_ := Aside0.mk (blk_below (uK BK854.out) hb); have n2_ := Aside0.mk (below_step uB hb); have n3_ := Aside0.mk (hbox); have n4_ := Aside0.mk ((by rw [hg]; exact (below_size uB) : w.heap.size ≤ gb855)); have n5_ := Aside0.mk ((by rw [hg]; exact (below_size uB) : w.heap.size ≤ gb855)); have n6_ := Aside0.mk ((by rw [hg]; exact Nat.ne_of_lt (blk_lt (uK BK853.out)) : gb853 ≠ gb855)); have n7_ := Aside0.mk ((by rw [hg]; exact Nat.ne_of_gt (blk_lt (uK BK853.out)) : gb855 ≠ gb853)); have n8_ := Aside0.mk ((by rw [hg]; exact Nat.ne_of_lt (blk_lt (uK BK854.out)) : gb854 ≠ gb855)); have n9_ := Aside0.mk ((by rw [hg]; exact Nat.ne_of_gt (blk_lt (uK BK854.out)) : gb855 ≠ gb854)); clear BK853; clear BK854; clear HB; have BK853 := n0_; have BK854 := n1_; have HB := n2_; have BK855 := n3_; have GW855 := n4_; have GE855 := n5_; have NB853_855 := n6_; have NB855_853 := n7_; have NB854_855 := n8_; have NB855_854 := n9_; clear n0_ n1_ n2_ n3_ n4_ n5_ n6_ n7_ n8_ n9_; clear hb hbox hg; have hnb9 := NB853_854.out; have hnc9 := NB854_853.out; have hnb10 := NB853_855.out; have hnc10 := NB855_853.out; have hcz11_0 : w8.cell? ⟨gb853, 0, none⟩ = some (.bool a0_0) := (blk_cell BK853.out 0).trans rfl; have hcz11_1 : w8.cell? ⟨gb853, 1, none⟩ = some (.slice A0_1 l0_1.length c0_1) := (blk_cell BK853.out 1).trans rfl; have hfz11_0 := blk_frozen BK853.out 0; have hfz11_1 := blk_frozen BK853.out 1) | ((with_reducible refine gate_callee (f := 103) rfl ?_); refine goesL_ (some 15) rfl rfl Try.func103 (by kernel_rfl) rfl #[.agg #[.bool a0_0, .slice A0_1 l0_1.length c0_1]] rfl uM ?_; (with_reducible refine (windbreakref03_Right.calls a0_0 _ _ l0_1 t856 _ ?side1 ?side2 A3.out).mono ?_); (case side1 => exact uC (Kd.C_below HR0_1.out HB.out)); (case side2 => exact HC0_1.out); rintro e w12 ⟨rfl, hb⟩; refine ⟨_, rfl, ?_⟩; have n0_ := Aside0.mk (blk_below (uK BK853.out) hb); have n1_ := Aside0.mk (blk_below (uK BK854.out) hb); have n2_ := Aside0.mk (blk_below (uK BK855.out) hb); have n3_ := Aside0.mk (below_step uB hb); clear BK853; clear BK854; clear BK855; clear HB; have BK853 := n0_; have BK854 := n1_; have BK855 := n2_; have HB := n3_; clear n0_ n1_ n2_ n3_; (try clear hb); (try clear hb2); (try clear hk); (try clear hi); have hnb13 := NB854_855.out; have hnc13 := NB855_854.out; have hcz14_0 : w12.cell? ⟨gb854, 0, none⟩ = some (.bool a1_0) := (blk_cell BK854.out 0).trans rfl; have hcz14_1 : w12.cell? ⟨gb854, 1, none⟩ = some (.slice A1_1 l1_1.length c1_1) := (blk_cell BK854.out 1).trans rfl; have hfz14_0 := blk_frozen BK854.out 0; have hfz14_1 := blk_frozen BK854.out 1) | ((with_reducible refine gate_callee (f := 103) rfl ?_); refine goesL_ (some 17) rfl rfl Try.func103 (by kernel_rfl) rfl #[.agg #[.bool a1_0, .slice A1_1 l1_1.length c1_1]] rfl uM ?_; (with_reducible refine (windbreakref03_Right.calls a1_0 _ _ l1_1 t857 _ ?side1 ?side2 A4.out).mono ?_); (case side1 => exact uC (Kd.C_below HR1_1.out HB.out)); (case side2 => exact HC1_1.out); rintro e w15 ⟨rfl, hb⟩; refine ⟨_, rfl, ?_⟩; have n0_ := Aside0.mk (blk_below (uK BK853.out) hb); have n1_ := Aside0.mk (blk_below (uK BK854.out) hb); have n2_ := Aside0.mk (blk_below (uK BK855.out) hb); have n3_ := Aside0.mk (below_step uB hb); clear BK853; clear BK854; clear BK855; clear HB; have BK853 := n0_; have BK854 := n1_; have BK855 := n2_; have HB := n3_; clear n0_ n1_ n2_ n3_; (try clear hb); (try clear hb2); (try clear hk); (try clear hi)))
 (try simp only [Act.put, List.setIfInBounds_toArray, List.set_cons_zero, List.set_cons_succ])
 go_cut [23] (fun v23 wc => ∃ (kq : Nat) (x23_4 : Bool), v23 = .bool x23_4 ∧ Aside0 (windbreakref03_Add.j0 kq x23_4 a0_0 l0_1 a1_0 l1_1 = some (r1, r2, r3)) ∧ Aside0 (kq ≤ k) ∧ Aside0 (wc.heap[gb853]? = some (.cells #[.bool a0_0, (.slice A0_1 l0_1.length c0_1)] 52 (0, 0))) ∧ Aside0 (wc.heap[gb854]? = some (.cells #[.bool a1_0, (.slice A1_1 l1_1.length c1_1)] 52 (0, 0))) ∧ Aside0 (wc.heap[gb855]? = some (.cells #[.bool false, (.slice none 0 0)] 52 (0, 0))) ∧ Aside0 (Below w.heap.size w wc))
 case first =>
  have H := HC5.out
  clear HC5
  by_cases c16 : t856 = true
  ·
   subst c16
   have H1 : (windbreakref03_Add.j0 k (!t857) a0_0 l0_1 a1_0 l1_1) = some (r1, r2, r3) := by rw [if_pos rfl] at H; exact H
   clear H; have H := H1; clear H1
   have H' := Aside0.mk H
   clear H
   go_wp2
   go_meet
   case rel => exact ⟨_, (!t857), (by first | rfl | (simp; done) | (simp [*]; done)), H', ⟨by first | omega | exact Nat.le_refl _⟩, ⟨uK BK853.out⟩, ⟨uK BK854.out⟩, ⟨uK BK855.out⟩, ⟨uB⟩⟩
  ·
   replace c16 := Bool.eq_false_iff.mpr c16
   subst c16
   have H1 : (windbreakref03_Add.j0 k true a0_0 l0_1 a1_0 l1_1) = some (r1, r2, r3) := by rw [if_neg (show ¬ (false = true) by decide)] at H; exact H
   clear H; have H := H1; clear H1
   have H' := Aside0.mk H
   clear H
   go_wp2
   go_meet
   case rel => exact ⟨_, (true), (by first | rfl | (simp; done) | (simp [*]; done)), H', ⟨by first | omega | exact Nat.le_refl _⟩, ⟨uK BK853.out⟩, ⟨uK BK854.out⟩, ⟨uK BK855.out⟩, ⟨uB⟩⟩
 case rest =>
  clear HC5
  try clear c1
  try clear p2
  try clear c6
  try clear c9
  try clear c10
  try clear c13
  try clear c16
  try clear hcz11_0
  try clear hcz11_1
  try clear hcz14_0
  try clear hcz14_1
  try clear hfz11_0
  try clear hfz11_1
  try clear hfz14_0
  try clear hfz14_1
  obtain ⟨kq, x23_4, rfl, HA, HJ4, BK853, BK854, BK855, HB⟩ := hcut
  cases kq with
  | zero => exact absurd HA.out (by simp [windbreakref03_Add.j0])
  | succ kj4 =>
   have H := HA.out
   clear HA
   simp only [windbreakref03_Add.j0] at H
   by_cases c17 : x23_4 = true
   ·
    subst c17
    have H1 : (some (false, ([] : List Int), 1)) = some (r1, r2, r3) := by rw [if_pos rfl] at H; exact H
    clear H; have H := H1; clear H1
    simp only [Option.some.injEq, Prod.mk.injEq] at H
    obtain ⟨rfl, rfl, rfl⟩ := H
    have hnb18 := NB855_853.out
    have hnc18 := NB853_855.out
    have hnb19 := NB855_854.out
    have hnc19 := NB854_855.out
    have hcz20_0 : wc.cell? ⟨gb855, 0, none⟩ = some (.bool false) := (blk_cell BK855.out 0).trans rfl
    have hcz20_1 : wc.cell? ⟨gb855, 1, none⟩ = some (.slice none 0 0) := (blk_cell BK855.out 1).trans rfl
    have hfz20_0 := blk_frozen BK855.out 0
    have hfz20_1 := blk_frozen BK855.out 1
    go_wp2
    refine bodyPost_ret (results_ct rfl _ _ gb855 52 #[.bool false, .slice none 0 0] (0, 0) _ rfl (by (with_reducible repeat (first | refine blk_drewN ?_ _ | refine blk_drew ?_ | refine blk_alloc ?_ _)); refine blk_put (cs := #[.bool false, .slice none 0 0]) ?_ 1 _ rfl; (with_reducible repeat (first | refine blk_drewN ?_ _ | refine blk_drew ?_ | refine blk_alloc ?_ _)); refine blk_put (cs := #[.bool false, .slice none 0 0]) ?_ 0 _ rfl; (with_reducible repeat (first | refine blk_drewN ?_ _ | refine blk_drew ?_ | refine blk_alloc ?_ _)); exact BK855.out) Try.underlying52 rfl (by kernel_rfl)) rfl ?_
    exact ⟨_, by first | rfl | (simp [errW_none, errW_some] <;> rfl) | (simp [*, errW_none, errW_some] <;> rfl), by first | exact Kd.R_nil _ _ _ _ _ | exact Kd.N_nil _ _ _ _ _ | exact Kd.V_nil _ _ _ _ _ | exact Kd.Q_nil _ _ _ _ _ | exact Kd.S_nil _ _ _ _ _, uB⟩
   ·
    replace c17 := Bool.eq_false_iff.mpr c17
    subst c17
    have H1 : (if (a0_0 == a1_0) = true then ((windbreakref01_Add.f kj4 l0_1 l1_1).bind fun bt858 => ((windbreakref03_From.f a0_0 bt858.1).bind fun bt862 => (some (bt862.1, bt862.2, bt858.2)))) else ((windbreakref01_Cmp.f kj4 l0_1 l1_1).bind fun t866 => (if t866 ≥ 0 then ((windbreakref01_Sub.f kj4 l0_1 l1_1).bind fun bt867 => ((windbreakref03_From.f a0_0 bt867.1).bind fun bt871 => (some (bt871.1, bt871.2, 0)))) else ((windbreakref01_Sub.f kj4 l1_1 l0_1).bind fun bt875 => ((windbreakref03_From.f a1_0 bt875.1).bind fun bt879 => (some (bt879.1, bt879.2, 0))))))) = some (r1, r2, r3) := by rw [if_neg (show ¬ (false = true) by decide)] at H; exact H
    clear H; have H := H1; clear H1
    by_cases c21 : (a0_0 == a1_0) = true
    ·
     rw [if_pos c21] at H
     have c21b0 : (a0_0 == a1_0) = true := c21
     (try (have c21b1 : decide (a0_0 = a1_0) = true := by simpa using c21))
     (try (have c21b2 : (a0_0 == a1_0) = true := by simpa using c21))
     clear c21
     replace H := Option.bind_eq_some_iff.mp H
     obtain ⟨⟨t858, t859⟩, A220, H⟩ := H
     replace H : ((windbreakref03_From.f a0_0 t858).bind fun bt862 => (some (bt862.1, bt862.2, t859))) = some (r1, r2, r3) := H
     have A22 := Aside0.mk A220; clear A220
     replace H := Option.bind_eq_some_iff.mp H
     obtain ⟨⟨t862, t863⟩, A230, H⟩ := H
     replace H : (some (t862, t863, t859)) = some (r1, r2, r3) := H
     have A23 := Aside0.mk A230; clear A230
     simp only [Option.some.injEq, Prod.mk.injEq] at H
     obtain ⟨rfl, rfl, rfl⟩ := H
     have hnb24 := NB853_854.out
     have hnc24 := NB854_853.out
     have hnb25 := NB853_855.out
     have hnc25 := NB855_853.out
     have hcz26_0 : wc.cell? ⟨gb853, 0, none⟩ = some (.bool a0_0) := (blk_cell BK853.out 0).trans rfl
     have hcz26_1 : wc.cell? ⟨gb853, 1, none⟩ = some (.slice A0_1 l0_1.length c0_1) := (blk_cell BK853.out 1).trans rfl
     have hfz26_0 := blk_frozen BK853.out 0
     have hfz26_1 := blk_frozen BK853.out 1
     have hnb27 := NB854_855.out
     have hnc27 := NB855_854.out
     have hcz28_0 : wc.cell? ⟨gb854, 0, none⟩ = some (.bool a1_0) := (blk_cell BK854.out 0).trans rfl
     have hcz28_1 : wc.cell? ⟨gb854, 1, none⟩ = some (.slice A1_1 l1_1.length c1_1) := (blk_cell BK854.out 1).trans rfl
     have hfz28_0 := blk_frozen BK854.out 0
     have hfz28_1 := blk_frozen BK854.out 1
     go_wp2_with (first | ((with_reducible refine gate_callee (f := 26) rfl ?_); refine goesL_ (some 35) rfl rfl Try.func26 (by kernel_rfl) rfl #[.slice A0_1 l0_1.length c0_1, .slice A1_1 l1_1.length c1_1] rfl uM ?_; (with_reducible refine (windbreakref01_Add.calls kj4 _ _ l0_1 _ _ l1_1 t858 t859 _ ?side1 ?side2 ?side3 ?side4 A22.out).mono ?_); (case side1 => exact uC (Kd.C_below HR0_1.out HB.out)); (case side2 => exact HC0_1.out); (case side3 => exact uC (Kd.C_below HR1_1.out HB.out)); (case side4 => exact HC1_1.out); rintro e w29 ⟨v860, rfl, ho0, hb⟩; refine ⟨_, rfl, ?_⟩; have n0_ := Aside0.mk (Kd.R_lower ho0 (below_size uB)); have n1_ := Aside0.mk (blk_below (uK BK853.out) hb); have n2_ := Aside0.mk (blk_below (uK BK854.out) hb); have n3_ := Aside0.mk (blk_below (uK BK855.out) hb); have n4_ := Aside0.mk (below_step uB hb); clear BK853; clear BK854; clear BK855; clear HB; have HO861 := n0_; have BK853 := n1_; have BK854 := n2_; have BK855 := n3_; have HB := n4_; clear n0_ n1_ n2_ n3_ n4_; (try clear hb); (try clear hb2); (try clear hk); (try clear hi); (try clear ho0); have hcz30_0 : w29.cell? ⟨gb853, 0, none⟩ = some (.bool a0_0) := (blk_cell BK853.out 0).trans rfl; have hcz30_1 : w29.cell? ⟨gb853, 1, none⟩ = some (.slice A0_1 l0_1.length c0_1) := (blk_cell BK853.out 1).trans rfl; have hfz30_0 := blk_frozen BK853.out 0; have hfz30_1 := blk_frozen BK853.out 1; obtain ⟨Ao31, co31, eo31⟩ := Kd.R_slice HO861.out; subst eo31) | ((with_reducible refine gate_callee (f := 104) rfl ?_); refine goesL_ (some 41) rfl rfl Try.func104 (by kernel_rfl) rfl #[.bool a0_0, .slice Ao31 t858.length co31] rfl uM ?_; (with_reducible refine (windbreakref03_From.calls a0_0 _ _ t858 t862 t863 _ ?side1 ?side2 A23.out).mono ?_); (case side1 => exact uC (Kd.R_reads' HO861.out).2.2); (case side2 => exact (Kd.R_reads' HO861.out).2.1); rintro e w32 ⟨v864, rfl, ho0, hb⟩; refine ⟨_, rfl, ?_⟩; have n0_ := Aside0.mk (Kd.R_elder' (uR HO861.out) (Kd.R_base ho0) hb); have n1_ := Aside0.mk (Kd.R_lower (Kd.R_new' ho0 (Kd.R_lt (uR HO861.out))) (below_size uB)); have n2_ := Aside0.mk (blk_below (uK BK853.out) hb); have n3_ := Aside0.mk (blk_below (uK BK854.out) hb); have n4_ := Aside0.mk (blk_below (uK BK855.out) hb); have n5_ := Aside0.mk (below_step uB hb); clear HO861; clear BK853; clear BK854; clear BK855; clear HB; have HO861 := n0_; have HO865 := n1_; have BK853 := n2_; have BK854 := n3_; have BK855 := n4_; have HB := n5_; clear n0_ n1_ n2_ n3_ n4_ n5_; (try clear hb); (try clear hb2); (try clear hk); (try clear hi); (try clear ho0); have hcz33_0 : w32.cell? ⟨gb855, 0, none⟩ = some (.bool false) := (blk_cell BK855.out 0).trans rfl; have hcz33_1 : w32.cell? ⟨gb855, 1, none⟩ = some (.slice none 0 0) := (blk_cell BK855.out 1).trans rfl; have hfz33_0 := blk_frozen BK855.out 0; have hfz33_1 := blk_frozen BK855.out 1; obtain ⟨Ao34, co34, eo34⟩ := Kd.R_slice HO865.out; subst eo34))
     refine bodyPost_ret (results_ct rfl _ _ gb855 52 #[.bool t862, .slice Ao34 t863.length co34] (0, 0) _ rfl (by (with_reducible repeat (first | refine blk_drewN ?_ _ | refine blk_drew ?_ | refine blk_alloc ?_ _)); refine blk_put (cs := #[.bool t862, .slice none 0 0]) ?_ 1 _ rfl; (with_reducible repeat (first | refine blk_drewN ?_ _ | refine blk_drew ?_ | refine blk_alloc ?_ _)); refine blk_put (cs := #[.bool false, .slice none 0 0]) ?_ 0 _ rfl; (with_reducible repeat (first | refine blk_drewN ?_ _ | refine blk_drew ?_ | refine blk_alloc ?_ _)); exact BK855.out) Try.underlying52 rfl (by kernel_rfl)) rfl ?_
     exact ⟨_, by first | rfl | (simp [errW_none, errW_some] <;> rfl) | (simp [*, errW_none, errW_some] <;> rfl), by (with_reducible repeat (first | apply Kd.R_alloc | apply Kd.R_drewN | apply Kd.R_drew)); exact Kd.R_mono (Kd.R_far (p := ⟨gb855, 1, none⟩) (Kd.R_far (p := ⟨gb855, 0, none⟩) (Kd.R_types HO865.out BK855.out (by decide)) (fun _ hk => hk.2) (.bool t862)) (fun _ hk => hk.2) (.slice Ao34 t863.length co34)) (fun _ hk => trivial), uB⟩
    ·
     rw [if_neg c21] at H
     have c21b0 : (a0_0 == a1_0) = false := by simpa using c21
     (try (have c21b1 : decide (a0_0 = a1_0) = false := by simpa using c21))
     (try (have c21b2 : (a0_0 == a1_0) = false := by simpa using c21))
     (try (have c21b3 : ¬ (a0_0 = a1_0) := by simpa using c21))
     clear c21
     replace H := Option.bind_eq_some_iff.mp H
     obtain ⟨t866, A350, H⟩ := H
     replace H : (if t866 ≥ 0 then ((windbreakref01_Sub.f kj4 l0_1 l1_1).bind fun bt867 => ((windbreakref03_From.f a0_0 bt867.1).bind fun bt871 => (some (bt871.1, bt871.2, 0)))) else ((windbreakref01_Sub.f kj4 l1_1 l0_1).bind fun bt875 => ((windbreakref03_From.f a1_0 bt875.1).bind fun bt879 => (some (bt879.1, bt879.2, 0))))) = some (r1, r2, r3) := H
     have A35 := Aside0.mk A350; clear A350
     by_cases c36 : t866 ≥ 0
     ·
      rw [if_pos c36] at H
      have c36b0 : decide (0 ≤ t866) = true := decide_eq_true c36
      clear c36
      replace H := Option.bind_eq_some_iff.mp H
      obtain ⟨⟨t867, t868⟩, A370, H⟩ := H
      replace H : ((windbreakref03_From.f a0_0 t867).bind fun bt871 => (some (bt871.1, bt871.2, 0))) = some (r1, r2, r3) := H
      have A37 := Aside0.mk A370; clear A370
      replace H := Option.bind_eq_some_iff.mp H
      obtain ⟨⟨t871, t872⟩, A380, H⟩ := H
      replace H : (some (t871, t872, 0)) = some (r1, r2, r3) := H
      have A38 := Aside0.mk A380; clear A380
      simp only [Option.some.injEq, Prod.mk.injEq] at H
      obtain ⟨rfl, rfl, rfl⟩ := H
      have hnb39 := NB853_854.out
      have hnc39 := NB854_853.out
      have hnb40 := NB853_855.out
      have hnc40 := NB855_853.out
      have hcz41_0 : wc.cell? ⟨gb853, 0, none⟩ = some (.bool a0_0) := (blk_cell BK853.out 0).trans rfl
      have hcz41_1 : wc.cell? ⟨gb853, 1, none⟩ = some (.slice A0_1 l0_1.length c0_1) := (blk_cell BK853.out 1).trans rfl
      have hfz41_0 := blk_frozen BK853.out 0
      have hfz41_1 := blk_frozen BK853.out 1
      have hnb42 := NB854_855.out
      have hnc42 := NB855_854.out
      have hcz43_0 : wc.cell? ⟨gb854, 0, none⟩ = some (.bool a1_0) := (blk_cell BK854.out 0).trans rfl
      have hcz43_1 : wc.cell? ⟨gb854, 1, none⟩ = some (.slice A1_1 l1_1.length c1_1) := (blk_cell BK854.out 1).trans rfl
      have hfz43_0 := blk_frozen BK854.out 0
      have hfz43_1 := blk_frozen BK854.out 1
      go_wp2_with (first | ((with_reducible refine gate_callee (f := 72) rfl ?_); refine goesL_ (some 47) rfl rfl Try.func72 (by kernel_rfl) rfl #[.slice A0_1 l0_1.length c0_1, .slice A1_1 l1_1.length c1_1] rfl uM ?_; (with_reducible refine (windbreakref01_Cmp.calls kj4 _ _ l0_1 _ _ l1_1 t866 _ ?side1 ?side2 ?side3 ?side4 A35.out).mono ?_); (case side1 => exact uC (Kd.C_below HR0_1.out HB.out)); (case side2 => exact HC0_1.out); (case side3 => exact uC (Kd.C_below HR1_1.out HB.out)); (case side4 => exact HC1_1.out); rintro e w44 ⟨rfl, hb⟩; refine ⟨_, rfl, ?_⟩; have n0_ := Aside0.mk (blk_below (uK BK853.out) hb); have n1_ := Aside0.mk (blk_below (uK BK854.out) hb); have n2_ := Aside0.mk (blk_below (uK BK855.out) hb); have n3_ := Aside0.mk (below_step uB hb); clear BK853; clear BK854; clear BK855; clear HB; have BK853 := n0_; have BK854 := n1_; have BK855 := n2_; have HB := n3_; clear n0_ n1_ n2_ n3_; (try clear hb); (try clear hb2); (try clear hk); (try clear hi); have hcz45_0 : w44.cell? ⟨gb853, 0, none⟩ = some (.bool a0_0) := (blk_cell BK853.out 0).trans rfl; have hcz45_1 : w44.cell? ⟨gb853, 1, none⟩ = some (.slice A0_1 l0_1.length c0_1) := (blk_cell BK853.out 1).trans rfl; have hfz45_0 := blk_frozen BK853.out 0; have hfz45_1 := blk_frozen BK853.out 1; have hcz46_0 : w44.cell? ⟨gb854, 0, none⟩ = some (.bool a1_0) := (blk_cell BK854.out 0).trans rfl; have hcz46_1 : w44.cell? ⟨gb854, 1, none⟩ = some (.slice A1_1 l1_1.length c1_1) := (blk_cell BK854.out 1).trans rfl; have hfz46_0 := blk_frozen BK854.out 0; have hfz46_1 := blk_frozen BK854.out 1) | ((with_reducible refine gate_callee (f := 105) rfl ?_); refine goesL_ (some 54) rfl rfl Try.func105 (by kernel_rfl) rfl #[.slice A0_1 l0_1.length c0_1, .slice A1_1 l1_1.length c1_1] rfl uM ?_; (with_reducible refine (windbreakref01_Sub.calls kj4 _ _ l0_1 _ _ l1_1 t867 t868 _ ?side1 ?side2 ?side3 ?side4 A37.out).mono ?_); (case side1 => exact uC (Kd.C_below HR0_1.out HB.out)); (case side2 => exact HC0_1.out); (case side3 => exact uC (Kd.C_below HR1_1.out HB.out)); (case side4 => exact HC1_1.out); rintro e w47 ⟨v869, rfl, ho0, hb⟩; refine ⟨_, rfl, ?_⟩; have n0_ := Aside0.mk (Kd.R_lower ho0 (below_size uB)); have n1_ := Aside0.mk (blk_below (uK BK853.out) hb); have n2_ := Aside0.mk (blk_below (uK BK854.out) hb); have n3_ := Aside0.mk (blk_below (uK BK855.out) hb); have n4_ := Aside0.mk (below_step uB hb); clear BK853; clear BK854; clear BK855; clear HB; have HO870 := n0_; have BK853 := n1_; have BK854 := n2_; have BK855 := n3_; have HB := n4_; clear n0_ n1_ n2_ n3_ n4_; (try clear hb); (try clear hb2); (try clear hk); (try clear hi); (try clear ho0); have hcz48_0 : w47.cell? ⟨gb853, 0, none⟩ = some (.bool a0_0) := (blk_cell BK853.out 0).trans rfl; have hcz48_1 : w47.cell? ⟨gb853, 1, none⟩ = some (.slice A0_1 l0_1.length c0_1) := (blk_cell BK853.out 1).trans rfl; have hfz48_0 := blk_frozen BK853.out 0; have hfz48_1 := blk_frozen BK853.out 1; obtain ⟨Ao49, co49, eo49⟩ := Kd.R_slice HO870.out; subst eo49) | ((with_reducible refine gate_callee (f := 104) rfl ?_); refine goesL_ (some 60) rfl rfl Try.func104 (by kernel_rfl) rfl #[.bool a0_0, .slice Ao49 t867.length co49] rfl uM ?_; (with_reducible refine (windbreakref03_From.calls a0_0 _ _ t867 t871 t872 _ ?side1 ?side2 A38.out).mono ?_); (case side1 => exact uC (Kd.R_reads' HO870.out).2.2); (case side2 => exact (Kd.R_reads' HO870.out).2.1); rintro e w50 ⟨v873, rfl, ho0, hb⟩; refine ⟨_, rfl, ?_⟩; have n0_ := Aside0.mk (Kd.R_elder' (uR HO870.out) (Kd.R_base ho0) hb); have n1_ := Aside0.mk (Kd.R_lower (Kd.R_new' ho0 (Kd.R_lt (uR HO870.out))) (below_size uB)); have n2_ := Aside0.mk (blk_below (uK BK853.out) hb); have n3_ := Aside0.mk (blk_below (uK BK854.out) hb); have n4_ := Aside0.mk (blk_below (uK BK855.out) hb); have n5_ := Aside0.mk (below_step uB hb); clear HO870; clear BK853; clear BK854; clear BK855; clear HB; have HO870 := n0_; have HO874 := n1_; have BK853 := n2_; have BK854 := n3_; have BK855 := n4_; have HB := n5_; clear n0_ n1_ n2_ n3_ n4_ n5_; (try clear hb); (try clear hb2); (try clear hk); (try clear hi); (try clear ho0); have hcz51_0 : w50.cell? ⟨gb855, 0, none⟩ = some (.bool false) := (blk_cell BK855.out 0).trans rfl; have hcz51_1 : w50.cell? ⟨gb855, 1, none⟩ = some (.slice none 0 0) := (blk_cell BK855.out 1).trans rfl; have hfz51_0 := blk_frozen BK855.out 0; have hfz51_1 := blk_frozen BK855.out 1; obtain ⟨Ao52, co52, eo52⟩ := Kd.R_slice HO874.out; subst eo52))
      refine bodyPost_ret (results_ct rfl _ _ gb855 52 #[.bool t871, .slice Ao52 t872.length co52] (0, 0) _ rfl (by (with_reducible repeat (first | refine blk_drewN ?_ _ | refine blk_drew ?_ | refine blk_alloc ?_ _)); refine blk_put (cs := #[.bool t871, .slice none 0 0]) ?_ 1 _ rfl; (with_reducible repeat (first | refine blk_drewN ?_ _ | refine blk_drew ?_ | refine blk_alloc ?_ _)); refine blk_put (cs := #[.bool false, .slice none 0 0]) ?_ 0 _ rfl; (with_reducible repeat (first | refine blk_drewN ?_ _ | refine blk_drew ?_ | refine blk_alloc ?_ _)); exact BK855.out) Try.underlying52 rfl (by kernel_rfl)) rfl ?_
      exact ⟨_, by first | rfl | (simp [errW_none, errW_some] <;> rfl) | (simp [*, errW_none, errW_some] <;> rfl), by (with_reducible repeat (first | apply Kd.R_alloc | apply Kd.R_drewN | apply Kd.R_drew)); exact Kd.R_mono (Kd.R_far (p := ⟨gb855, 1, none⟩) (Kd.R_far (p := ⟨gb855, 0, none⟩) (Kd.R_types HO874.out BK855.out (by decide)) (fun _ hk => hk.2) (.bool t871)) (fun _ hk => hk.2) (.slice Ao52 t872.length co52)) (fun _ hk => trivial), uB⟩
     ·
      rw [if_neg c36] at H
      have c36b0 : decide (0 ≤ t866) = false := decide_eq_false c36
      clear c36
      replace H := Option.bind_eq_some_iff.mp H
      obtain ⟨⟨t875, t876⟩, A530, H⟩ := H
      replace H : ((windbreakref03_From.f a1_0 t875).bind fun bt879 => (some (bt879.1, bt879.2, 0))) = some (r1, r2, r3) := H
      have A53 := Aside0.mk A530; clear A530
      replace H := Option.bind_eq_some_iff.mp H
      obtain ⟨⟨t879, t880⟩, A540, H⟩ := H
      replace H : (some (t879, t880, 0)) = some (r1, r2, r3) := H
      have A54 := Aside0.mk A540; clear A540
      simp only [Option.some.injEq, Prod.mk.injEq] at H
      obtain ⟨rfl, rfl, rfl⟩ := H
      have hnb55 := NB853_854.out
      have hnc55 := NB854_853.out
      have hnb56 := NB853_855.out
      have hnc56 := NB855_853.out
      have hcz57_0 : wc.cell? ⟨gb853, 0, none⟩ = some (.bool a0_0) := (blk_cell BK853.out 0).trans rfl
      have hcz57_1 : wc.cell? ⟨gb853, 1, none⟩ = some (.slice A0_1 l0_1.length c0_1) := (blk_cell BK853.out 1).trans rfl
      have hfz57_0 := blk_frozen BK853.out 0
      have hfz57_1 := blk_frozen BK853.out 1
      have hnb58 := NB854_855.out
      have hnc58 := NB855_854.out
      have hcz59_0 : wc.cell? ⟨gb854, 0, none⟩ = some (.bool a1_0) := (blk_cell BK854.out 0).trans rfl
      have hcz59_1 : wc.cell? ⟨gb854, 1, none⟩ = some (.slice A1_1 l1_1.length c1_1) := (blk_cell BK854.out 1).trans rfl
      have hfz59_0 := blk_frozen BK854.out 0
      have hfz59_1 := blk_frozen BK854.out 1
      go_wp2_with (first | ((with_reducible refine gate_callee (f := 72) rfl ?_); refine goesL_ (some 47) rfl rfl Try.func72 (by kernel_rfl) rfl #[.slice A0_1 l0_1.length c0_1, .slice A1_1 l1_1.length c1_1] rfl uM ?_; (with_reducible refine (windbreakref01_Cmp.calls kj4 _ _ l0_1 _ _ l1_1 t866 _ ?side1 ?side2 ?side3 ?side4 A35.out).mono ?_); (case side1 => exact uC (Kd.C_below HR0_1.out HB.out)); (case side2 => exact HC0_1.out); (case side3 => exact uC (Kd.C_below HR1_1.out HB.out)); (case side4 => exact HC1_1.out); rintro e w60 ⟨rfl, hb⟩; refine ⟨_, rfl, ?_⟩; have n0_ := Aside0.mk (blk_below (uK BK853.out) hb); have n1_ := Aside0.mk (blk_below (uK BK854.out) hb); have n2_ := Aside0.mk (blk_below (uK BK855.out) hb); have n3_ := Aside0.mk (below_step uB hb); clear BK853; clear BK854; clear BK855; clear HB; have BK853 := n0_; have BK854 := n1_; have BK855 := n2_; have HB := n3_; clear n0_ n1_ n2_ n3_; (try clear hb); (try clear hb2); (try clear hk); (try clear hi); have hcz61_0 : w60.cell? ⟨gb854, 0, none⟩ = some (.bool a1_0) := (blk_cell BK854.out 0).trans rfl; have hcz61_1 : w60.cell? ⟨gb854, 1, none⟩ = some (.slice A1_1 l1_1.length c1_1) := (blk_cell BK854.out 1).trans rfl; have hfz61_0 := blk_frozen BK854.out 0; have hfz61_1 := blk_frozen BK854.out 1; have hcz62_0 : w60.cell? ⟨gb853, 0, none⟩ = some (.bool a0_0) := (blk_cell BK853.out 0).trans rfl; have hcz62_1 : w60.cell? ⟨gb853, 1, none⟩ = some (.slice A0_1 l0_1.length c0_1) := (blk_cell BK853.out 1).trans rfl; have hfz62_0 := blk_frozen BK853.out 0; have hfz62_1 := blk_frozen BK853.out 1) | ((with_reducible refine gate_callee (f := 105) rfl ?_); refine goesL_ (some 66) rfl rfl Try.func105 (by kernel_rfl) rfl #[.slice A1_1 l1_1.length c1_1, .slice A0_1 l0_1.length c0_1] rfl uM ?_; (with_reducible refine (windbreakref01_Sub.calls kj4 _ _ l1_1 _ _ l0_1 t875 t876 _ ?side1 ?side2 ?side3 ?side4 A53.out).mono ?_); (case side1 => exact uC (Kd.C_below HR1_1.out HB.out)); (case side2 => exact HC1_1.out); (case side3 => exact uC (Kd.C_below HR0_1.out HB.out)); (case side4 => exact HC0_1.out); rintro e w63 ⟨v877, rfl, ho0, hb⟩; refine ⟨_, rfl, ?_⟩; have n0_ := Aside0.mk (Kd.R_lower ho0 (below_size uB)); have n1_ := Aside0.mk (blk_below (uK BK853.out) hb); have n2_ := Aside0.mk (blk_below (uK BK854.out) hb); have n3_ := Aside0.mk (blk_below (uK BK855.out) hb); have n4_ := Aside0.mk (below_step uB hb); clear BK853; clear BK854; clear BK855; clear HB; have HO878 := n0_; have BK853 := n1_; have BK854 := n2_; have BK855 := n3_; have HB := n4_; clear n0_ n1_ n2_ n3_ n4_; (try clear hb); (try clear hb2); (try clear hk); (try clear hi); (try clear ho0); have hcz64_0 : w63.cell? ⟨gb854, 0, none⟩ = some (.bool a1_0) := (blk_cell BK854.out 0).trans rfl; have hcz64_1 : w63.cell? ⟨gb854, 1, none⟩ = some (.slice A1_1 l1_1.length c1_1) := (blk_cell BK854.out 1).trans rfl; have hfz64_0 := blk_frozen BK854.out 0; have hfz64_1 := blk_frozen BK854.out 1; obtain ⟨Ao65, co65, eo65⟩ := Kd.R_slice HO878.out; subst eo65) | ((with_reducible refine gate_callee (f := 104) rfl ?_); refine goesL_ (some 72) rfl rfl Try.func104 (by kernel_rfl) rfl #[.bool a1_0, .slice Ao65 t875.length co65] rfl uM ?_; (with_reducible refine (windbreakref03_From.calls a1_0 _ _ t875 t879 t880 _ ?side1 ?side2 A54.out).mono ?_); (case side1 => exact uC (Kd.R_reads' HO878.out).2.2); (case side2 => exact (Kd.R_reads' HO878.out).2.1); rintro e w66 ⟨v881, rfl, ho0, hb⟩; refine ⟨_, rfl, ?_⟩; have n0_ := Aside0.mk (Kd.R_elder' (uR HO878.out) (Kd.R_base ho0) hb); have n1_ := Aside0.mk (Kd.R_lower (Kd.R_new' ho0 (Kd.R_lt (uR HO878.out))) (below_size uB)); have n2_ := Aside0.mk (blk_below (uK BK853.out) hb); have n3_ := Aside0.mk (blk_below (uK BK854.out) hb); have n4_ := Aside0.mk (blk_below (uK BK855.out) hb); have n5_ := Aside0.mk (below_step uB hb); clear HO878; clear BK853; clear BK854; clear BK855; clear HB; have HO878 := n0_; have HO882 := n1_; have BK853 := n2_; have BK854 := n3_; have BK855 := n4_; have HB := n5_; clear n0_ n1_ n2_ n3_ n4_ n5_; (try clear hb); (try clear hb2); (try clear hk); (try clear hi); (try clear ho0); have hcz67_0 : w66.cell? ⟨gb855, 0, none⟩ = some (.bool false) := (blk_cell BK855.out 0).trans rfl; have hcz67_1 : w66.cell? ⟨gb855, 1, none⟩ = some (.slice none 0 0) := (blk_cell BK855.out 1).trans rfl; have hfz67_0 := blk_frozen BK855.out 0; have hfz67_1 := blk_frozen BK855.out 1; obtain ⟨Ao68, co68, eo68⟩ := Kd.R_slice HO882.out; subst eo68))
      refine bodyPost_ret (results_ct rfl _ _ gb855 52 #[.bool t879, .slice Ao68 t880.length co68] (0, 0) _ rfl (by (with_reducible repeat (first | refine blk_drewN ?_ _ | refine blk_drew ?_ | refine blk_alloc ?_ _)); refine blk_put (cs := #[.bool t879, .slice none 0 0]) ?_ 1 _ rfl; (with_reducible repeat (first | refine blk_drewN ?_ _ | refine blk_drew ?_ | refine blk_alloc ?_ _)); refine blk_put (cs := #[.bool false, .slice none 0 0]) ?_ 0 _ rfl; (with_reducible repeat (first | refine blk_drewN ?_ _ | refine blk_drew ?_ | refine blk_alloc ?_ _)); exact BK855.out) Try.underlying52 rfl (by kernel_rfl)) rfl ?_
      exact ⟨_, by first | rfl | (simp [errW_none, errW_some] <;> rfl) | (simp [*, errW_none, errW_some] <;> rfl), by (with_reducible repeat (first | apply Kd.R_alloc | apply Kd.R_drewN | apply Kd.R_drew)); exact Kd.R_mono (Kd.R_far (p := ⟨gb855, 1, none⟩) (Kd.R_far (p := ⟨gb855, 0, none⟩) (Kd.R_types HO882.out BK855.out (by decide)) (fun _ hk => hk.2) (.bool t879)) (fun _ hk => hk.2) (.slice Ao68 t880.length co68)) (fun _ hk => trivial), uB⟩

end Go.Proofs.Ytgeanpnkllnipab.F
end

section
namespace Go.Proofs.Ytgeanpnkllnipab.F
open Go.RowKit Go.Proofs.YtgeanpnkllnipabW.PrintWords Go.Proofs.YtgeanpnkllnipabW.PrintLast Go.Proofs.YtgeanpnkllnipabW.PrintMore
attribute [local go_sem] max2_int min2_int max_two min_two max_three min_three max_four min_four
set_option linter.unusedVariables false
set_option linter.unusedSimpArgs false

mutual
def windbreakref01_div.l0 : Nat → List Int → List Int → List Int → List Int → Int → Option (List Int × List Int)
 | 0, _, _, _, _, _ => none
 | k + 1, x0, x1, x6, x7, x8 => if x8 ≥ 0 then (if 0 ≤ x8 then (if x8 < (x0.length : Int) then ((some (([rd x0 x8] : List Int) : List Int)).bind fun y412 => (if y412.length + x7.length < 17592186044416 then ((windbreakref01_cut.f k (y412 ++ x7)).bind fun t418 => (windbreakref01_div.l1 k x0 x1 x6 t418 x8 0 65535)) else (none))) else (none)) else (none)) else ((windbreakref01_cut.f k x6).bind fun t408 => (some (t408, x7)))
def windbreakref01_div.l1 : Nat → List Int → List Int → List Int → List Int → Int → Int → Int → Option (List Int × List Int)
 | 0, _, _, _, _, _, _, _ => none
 | k + 1, x0, x1, x6, x7, x8, x9, x10 => if x9 < x10 then ((windbreakref01_mul.f k x1 (([IntKind.u64.wrap (Int.tdiv (IntKind.u64.wrap ((IntKind.u64.wrap (x9 + x10)) + 1)) 2)] : List Int))).bind fun t434 => ((windbreakref01_compare.f k t434 x7).bind fun t437 => (if t437 ≤ 0 then (windbreakref01_div.l1 k x0 x1 x6 x7 x8 (IntKind.u64.wrap (Int.tdiv (IntKind.u64.wrap ((IntKind.u64.wrap (x9 + x10)) + 1)) 2)) x10) else (windbreakref01_div.l1 k x0 x1 x6 x7 x8 x9 (IntKind.u64.wrap ((IntKind.u64.wrap (Int.tdiv (IntKind.u64.wrap ((IntKind.u64.wrap (x9 + x10)) + 1)) 2)) - 1)))))) else (if 0 ≤ x8 then (if x8 < (x6.length : Int) then ((windbreakref01_mul.f k x1 (([x9] : List Int))).bind fun t425 => ((windbreakref01_sub.f k x7 t425).bind fun t428 => (windbreakref01_div.l0 k x0 x1 (x6.set (x8 : Int).toNat x9) t428 (wrap64 (x8 - 1))))) else (none)) else (none))
end
def windbreakref01_div.f (k : Nat) (l0 : List Int) (l1 : List Int) : Option (List Int × List Int) := if 0 ≤ (l0.length : Int) then (if ((l0.length : Int) : Int).toNat ≤ 35184372088832 then (windbreakref01_div.l0 k l0 l1 (List.replicate ((l0.length : Int) : Int).toNat 0) ([] : List Int) (wrap64 ((l0.length : Int) - 1))) else (none)) else (none)
set_option maxHeartbeats 8000000 in
set_option maxRecDepth 100000 in
theorem windbreakref01_div.calls (k : Nat) (A0 : Option Addr) (c0 : Nat) (l0 : List Int) (A1 : Option Addr) (c1 : Nat) (l1 : List Int) (r1 : List Int) (r2 : List Int) (w : World) (hr0 : Kd.C (Kd.int .u64) w A0 l0.length l0) (hc0 : l0.length ≤ c0) (hr1 : Kd.C (Kd.int .u64) w A1 l1.length l1) (hc1 : l1.length ≤ c1) (h : windbreakref01_div.f k l0 l1 = some (r1, r2)) :
  Calls Try.prog 119 #[.slice A0 l0.length c0, .slice A1 l1.length c1] w fun e w' => ∃ v0_ v1_ : Value, e = .returned (.tuple #[v0_, v1_]) ∧ Kd.R (Kd.int .u64) 27 w' w.heap.size (fun k_ => some k_ ≠ (v1_ : Value).ownBlock) v0_ r1 ∧ Kd.R (Kd.int .u64) 27 w' w.heap.size (fun k_ => some k_ ≠ (v0_ : Value).ownBlock) v1_ r2 ∧ Below w.heap.size w w' := by
 have HR0 := Aside0.mk hr0; have HC0 := Aside0.mk hc0; clear hr0 hc0; have HR1 := Aside0.mk hr1; have HC1 := Aside0.mk hc1; clear hr1 hc1
 have HB := Aside0.mk (Below.refl w.heap.size w)
 have H : (if 0 ≤ (l0.length : Int) then (if ((l0.length : Int) : Int).toNat ≤ 35184372088832 then (windbreakref01_div.l0 k l0 l1 (List.replicate ((l0.length : Int) : Int).toNat 0) ([] : List Int) (wrap64 ((l0.length : Int) - 1))) else (none)) else (none)) = some (r1, r2) := h
 clear h
 by_cases c3 : 0 ≤ (l0.length : Int)
 ·
  rw [if_pos c3] at H
  have c3b0 := eq_true c3
  have c3b1 : decide (0 ≤ (l0.length : Int)) = true := decide_eq_true c3
  clear c3
  by_cases c4 : ((l0.length : Int) : Int).toNat ≤ 35184372088832
  ·
   rw [if_pos c4] at H
   have c4b0 := eq_true c4
   have c4b1 : decide (((l0.length : Int) : Int).toNat ≤ 35184372088832) = true := decide_eq_true c4
   clear c4
   obtain ⟨y405, hy405⟩ : ∃ y_ : List Int, y_ = (List.replicate ((l0.length : Int) : Int).toNat 0) := ⟨_, rfl⟩
   replace H : (windbreakref01_div.l0 k l0 l1 y405 ([] : List Int) (wrap64 ((l0.length : Int) - 1))) = some (r1, r2) := by first | (rw [hy405]; with_reducible exact H) | (have H2_ := (Option.bind_some _ _).symm.trans H; rw [hy405]; with_reducible exact H2_) | (have H2_ := (Option.bind_some _ _).symm.trans H; with_reducible exact H2_) | with_reducible exact H | (rw [hy405]; exact H) | exact H
   have Ny405 := Aside0.mk hy405; clear hy405
   have H' := Aside0.mk H
   clear H
   go_enter Try.func119, Try.ntmps119
   go_wp2_with (first | ((with_reducible refine gate_dst (N := 14) rfl ?_); refine Kd.R_make (Kd.int .u64) _ 27 rfl (N := 14) rfl 70 _ _ rfl (l0.length : Int) rfl rfl Try.underlying70 (.int .u64 0) 8 info27 rfl (by decide) (by omega) 0 (ok := fun _ => True) (okp := fun _ => True) rfl (fun _ hk => hk) trivial (of_decide_eq_true (by first | (with_reducible assumption) | assumption)) (Nat.le_trans (Nat.mul_le_mul_right _ (of_decide_eq_true (by first | (with_reducible assumption) | assumption) : (l0.length : Int).toNat ≤ 35184372088832)) (by omega)) (Below.refl _ _) (Nat.le_refl _) ?_; intro v406 w5 ho6 hb hg_ hnew_; clear hg_ hnew_; (first | rw [← Ny405.out] at ho6 | (simp only [Int.reduceToNat] at ho6; rw [← Ny405.out] at ho6)); have n0_ := Aside0.mk (Kd.R_lower ho6 (below_size uB)); have n1_ := Aside0.mk (below_step uB hb); clear HB; have HO407 := n0_; have HB := n1_; clear n0_ n1_; clear hb ho6))
   go_loopg [7, 8] k (fun kq v7 v8 w' => ∃ (x6_1 : List Int) (x7_1 : List Int) (x8_1 : Int), v8 = .int .i64 x8_1 ∧ Aside0 (windbreakref01_div.l0 kq l0 l1 x6_1 x7_1 x8_1 = some (r1, r2)) ∧ Aside0 (kq ≤ k) ∧ Aside0 (Kd.R (Kd.int .u64) 27 w' w.heap.size (fun k_ => some k_ ≠ (v7 : Value).ownBlock) v406 x6_1) ∧ Aside0 (Kd.R (Kd.int .u64) 27 w' w.heap.size (fun k_ => some k_ ≠ (v406 : Value).ownBlock) v7 x7_1) ∧ Aside0 (Below w.heap.size w w'))
   case atStart => exact ⟨(y405), (([] : List Int)), (wrap64 ((l0.length : Int) - 1)), (by first | rfl | (simp; done) | (simp [*]; done)), H', ⟨Nat.le_refl _⟩, ⟨by (with_reducible repeat (first | apply Kd.R_alloc | apply Kd.R_drewN | apply Kd.R_drew)); exact Kd.R_mono HO407.out (fun _ hk => (by simp [Value.ownBlock]))⟩, ⟨by first | exact Kd.R_nil _ _ _ _ _ | exact Kd.N_nil _ _ _ _ _ | exact Kd.V_nil _ _ _ _ _ | exact Kd.Q_nil _ _ _ _ _ | exact Kd.S_nil _ _ _ _ _⟩, ⟨uB⟩⟩
   case round =>
    clear H'
    try clear c1
    try clear p2
    try clear c3
    try clear c3b0
    try clear c3b1
    try clear c4
    try clear c4b0
    try clear c4b1
    try clear p6
    obtain ⟨x6_1, x7_1, x8_1, rfl, HA, HK1, HO_6, HO_7, HB⟩ := hrel
    cases gk with
    | zero => exact absurd HA.out (by simp [windbreakref01_div.l0])
    | succ k1 =>
     have H := HA.out
     clear HA
     simp only [windbreakref01_div.l0] at H
     by_cases c7 : x8_1 ≥ 0
     ·
      rw [if_pos c7] at H
      have c7b0 : decide (0 ≤ x8_1) = true := decide_eq_true c7
      clear c7
      by_cases c8 : 0 ≤ x8_1
      ·
       rw [if_pos c8] at H
       have c8b0 : decide (0 ≤ x8_1) = true := decide_eq_true c8
       clear c8
       by_cases c9 : x8_1 < (l0.length : Int)
       ·
        rw [if_pos c9] at H
        have c9b0 : decide (x8_1 < (l0.length : Int)) = true := decide_eq_true c9
        clear c9
        obtain ⟨y412, hy412⟩ : ∃ y_ : List Int, y_ = (([rd l0 x8_1] : List Int)) := ⟨_, rfl⟩
        replace H : (if y412.length + x7_1.length < 17592186044416 then ((windbreakref01_cut.f k1 (y412 ++ x7_1)).bind fun t418 => (windbreakref01_div.l1 k1 l0 l1 x6_1 t418 x8_1 0 65535)) else (none)) = some (r1, r2) := by first | (rw [hy412]; with_reducible exact H) | (have H2_ := (Option.bind_some _ _).symm.trans H; rw [hy412]; with_reducible exact H2_) | (have H2_ := (Option.bind_some _ _).symm.trans H; with_reducible exact H2_) | with_reducible exact H | (rw [hy412]; exact H) | exact H
        have Ny412 := Aside0.mk hy412; clear hy412
        by_cases c10 : y412.length + x7_1.length < 17592186044416
        ·
         rw [if_pos c10] at H
         have LMc10 := Aside0.mk c10; clear c10
         obtain ⟨y415, hy415⟩ : ∃ y_ : List Int, y_ = (y412 ++ x7_1) := ⟨_, rfl⟩
         replace H : ((windbreakref01_cut.f k1 y415).bind fun t418 => (windbreakref01_div.l1 k1 l0 l1 x6_1 t418 x8_1 0 65535)) = some (r1, r2) := by first | (rw [hy415]; with_reducible exact H) | (have H2_ := (Option.bind_some _ _).symm.trans H; rw [hy415]; with_reducible exact H2_) | (have H2_ := (Option.bind_some _ _).symm.trans H; with_reducible exact H2_) | with_reducible exact H | (rw [hy415]; exact H) | exact H
         have Ny415 := Aside0.mk hy415; clear hy415
         replace H := Option.bind_eq_some_iff.mp H
         obtain ⟨t418, A110, H⟩ := H
         replace H : (windbreakref01_div.l1 k1 l0 l1 x6_1 t418 x8_1 0 65535) = some (r1, r2) := H
         have A11 := Aside0.mk A110; clear A110
         have H' := Aside0.mk H
         clear H
         have p411 : 0 ≤ (x8_1 : Int) := of_decide_eq_true (by first | (with_reducible assumption) | assumption)
         have q411 : x8_1 < (l0.length : Int) := of_decide_eq_true (by first | (with_reducible assumption) | assumption)
         obtain ⟨ad411, e411, hx411_0⟩ := Kd.at_int HR0.out x8_1 p411 q411
         cases e411
         replace hx411_0 := (HB.out.cell (World.block_lt_of_cell? w _ hx411_0)).trans hx411_0
         replace p411 := eq_true p411
         replace q411 := eq_true q411
         go_wp2_with (first | ((with_reducible refine gate_dst (N := 26) rfl ?_); refine Kd.R_lit (Kd.int .u64) _ 27 ?hg (N := 26) ?hd (xs := ([rd l0 x8_1] : List Int)) (inner := [.int .u64 (rd l0 x8_1)]) (ok := fun _ => True) (okp := fun _ => True) ?hr ?hp (fun _ hk => hk) trivial (Below.refl _ _) (Nat.le_refl _) (by simp) ?_; (case hd => rfl); (case hg => rfl); (case hr => first | (go_simp; done) | (go_simp; rfl) | (go_simp; simp only [u64_u8]; done) | (go_simp; simp only [u64_u8]; rfl)); (case hp => exact (Reps.one (show Kd.M (Kd.int .u64) _ _ _ (rd l0 x8_1) [.int .u64 (rd l0 x8_1)] from rfl) (Reps.none _ _))); intro v413 w12 ho13 hb hg_ hnew_; clear hg_ hnew_; (first | rw [← Ny412.out] at ho13 | (simp only [Int.reduceToNat] at ho13; rw [← Ny412.out] at ho13)); have n0_ := Aside0.mk (Kd.R_elder' (uR HO_6.out) (Kd.R_base ho13) hb); have n1_ := Aside0.mk (Kd.R_elder' (uR HO_7.out) (Kd.R_base ho13) hb); have n2_ := Aside0.mk (Kd.R_lower (Kd.R_new' (Kd.R_new' ho13 (Kd.R_lt (uR HO_6.out))) (Kd.R_lt (uR HO_7.out))) (below_size uB)); have n3_ := Aside0.mk (below_step uB hb); clear HO_6; clear HO_7; clear HB; have HO_6 := n0_; have HO_7 := n1_; have HO414 := n2_; have HB := n3_; clear n0_ n1_ n2_ n3_; clear hb ho13; obtain ⟨Ao15, co15, eo15⟩ := Kd.R_slice HO_7.out; subst eo15) | ((with_reducible refine gate_builtin (b := .append) (xs := #[.tmp 26, .tmp 27]) rfl ?_); at_builtin; refine Kd.R_append_rows (Kd.int .u64) (w0 := w) w.heap.size rfl (.tmp 26) (.tmp 27) 70 27 (.int .u64 0) 8 rfl Try.underlying70 info27 rfl (by decide) (by omega) v413 y412 x7_1 _ _ _ (fun k_ => some k_ ≠ (v406 : Value).ownBlock ∧ some k_ ≠ (.slice Ao15 x7_1.length co15 : Value).ownBlock) (fun _ => False) rfl rfl ?aO ?aR (fun _ _ h => h) (fun _ h => h.elim) ?aF ?aB ?aS ?aL ?_; (case aR => exact uC (Kd.R_reads' HO_7.out).2.2); (case aB => exact uB); (case aF => exact (fun k_ hk => ⟨Kd.fresh' (Kd.R_lt (uR HO_6.out)) k_ hk, Kd.fresh' (Kd.R_lt (uR HO_7.out)) k_ hk⟩)); (case aO => exact (uR (Kd.R_mono HO414.out (fun _ hk => ⟨hk.1.2, hk.2⟩)))); (case aS => exact (below_size uB)); (case aL => have := LMc10.out; omega); intro v416 w14 ho hb hg hat; rw [← Ny415.out] at ho; have n0_ := Aside0.mk (Kd.R_after (ok := (fun k_ => some k_ ≠ (.slice Ao15 x7_1.length co15 : Value).ownBlock)) (uR HO_6.out) hg hat); have n1_ := Aside0.mk (Kd.R_after (ok := (fun k_ => some k_ ≠ (v406 : Value).ownBlock)) (uR HO_7.out) hg hat); have n2_ := Aside0.mk (hb); have n3_ := Aside0.mk (ho); clear HO_6; clear HO_7; clear HB; clear HO414; have HO_6 := n0_; have HO_7 := n1_; have HB := n2_; have HO417 := n3_; clear n0_ n1_ n2_ n3_; clear ho hb hg hat; obtain ⟨Ao16, co16, eo16⟩ := Kd.R_slice HO417.out; subst eo16) | ((with_reducible refine gate_callee (f := 99) rfl ?_); refine goesL_ (some 29) rfl rfl Try.func99 (by kernel_rfl) rfl #[.slice Ao16 y415.length co16] rfl uM ?_; (with_reducible refine (windbreakref01_cut.calls k1 (fun k_ => some k_ = (.slice Ao16 y415.length co16 : Value).ownBlock) (.slice Ao16 y415.length co16) y415 t418 w _ ?side1 ?side2 A11.out).mono ?_); (case side1 => repeat (first | (with_reducible first | exact HB.out | apply below_alloc | apply pw_below_drewN | apply below_drew1) | exact HB.out)); (case side2 => exact Kd.R_tight rfl HO417.out); rintro e w17 ⟨v419, rfl, ho0, hb, hkp⟩; refine ⟨_, rfl, ?_⟩; have n0_ := Aside0.mk (Kd.R_mono (ok' := fun k_ => some k_ ≠ (.slice Ao15 x7_1.length co15 : Value).ownBlock ∧ some k_ ≠ (v419 : Value).ownBlock) (Kd.R_keptB (HO_6.out) hkp (fun k_ hk_ hs_ => (hk_.2) hs_)) (fun k_ hk_ => ⟨hk_.1.1, fun e_ => Or.elim (ho0.1 k_ e_.symm) (fun hs_ => hk_.2.1 hs_) (fun hn_ => Nat.not_le.2 hk_.2.2 hn_)⟩)); have n1_ := Aside0.mk (Kd.R_mono (ok' := fun k_ => some k_ ≠ (v406 : Value).ownBlock ∧ some k_ ≠ (v419 : Value).ownBlock) (Kd.R_keptB (HO_7.out) hkp (fun k_ hk_ hs_ => (hk_.2) hs_)) (fun k_ hk_ => ⟨hk_.1.1, fun e_ => Or.elim (ho0.1 k_ e_.symm) (fun hs_ => hk_.2.1 hs_) (fun hn_ => Nat.not_le.2 hk_.2.2 hn_)⟩)); have n2_ := Aside0.mk (Kd.R_mono (ok' := fun k_ => some k_ ≠ (v406 : Value).ownBlock ∧ some k_ ≠ (.slice Ao15 x7_1.length co15 : Value).ownBlock) ho0 (fun k_ hk_ => ⟨Or.elim hk_ (fun hs_ => fun e_ => (((HO_6.out).1 k_ e_.symm).2) hs_) (fun hn_ => (Kd.fresh' (Kd.R_lt (uR HO_6.out)) k_ hn_)), Or.elim hk_ (fun hs_ => fun e_ => (((HO_7.out).1 k_ e_.symm).2) hs_) (fun hn_ => (Kd.fresh' (Kd.R_lt (uR HO_7.out)) k_ hn_))⟩)); have n3_ := Aside0.mk (hb); clear HO_6; clear HO_7; clear HB; clear HO417; have HO_6 := n0_; have HO_7 := n1_; have HO420 := n2_; have HB := n3_; clear n0_ n1_ n2_ n3_; (try clear hb); (try clear hkp); (try clear ho0)))
         go_loopg [9, 10] k1 (fun kq v9 v10 w' => ∃ (x9_2 : Int) (x10_2 : Int), v9 = .int .u64 x9_2 ∧ v10 = .int .u64 x10_2 ∧ Aside0 (windbreakref01_div.l1 kq l0 l1 x6_1 t418 x8_1 x9_2 x10_2 = some (r1, r2)) ∧ Aside0 (kq ≤ k1) ∧ Aside0 (Kd.R (Kd.int .u64) 27 w' w.heap.size (fun k_ => some k_ ≠ (v419 : Value).ownBlock) v406 x6_1) ∧ Aside0 (Kd.R (Kd.int .u64) 27 w' w.heap.size (fun k_ => some k_ ≠ (v406 : Value).ownBlock) v419 t418) ∧ Aside0 (Below w.heap.size w w'))
         case atStart => exact ⟨(0), (65535), (by first | rfl | (simp; done) | (simp [*]; done)), (by first | rfl | (simp; done) | (simp [*]; done)), H', ⟨Nat.le_refl _⟩, ⟨by (with_reducible repeat (first | apply Kd.R_alloc | apply Kd.R_drewN | apply Kd.R_drew)); exact Kd.R_mono HO_6.out (fun _ hk => hk.2)⟩, ⟨by (with_reducible repeat (first | apply Kd.R_alloc | apply Kd.R_drewN | apply Kd.R_drew)); exact Kd.R_mono HO420.out (fun _ hk => hk.1)⟩, ⟨uB⟩⟩
         case round =>
          clear H'
          try clear c1
          try clear p2
          try clear c3
          try clear c3b0
          try clear c3b1
          try clear c4
          try clear c4b0
          try clear c4b1
          try clear p4
          try clear q4
          try clear hx4
          try clear p6
          try clear c7
          try clear c7b0
          try clear c8
          try clear c8b0
          try clear c9
          try clear c9b0
          try clear c10
          try clear c11
          try clear hx411_0
          try clear p2
          try clear p411
          try clear p6
          try clear q411
          obtain ⟨x9_2, x10_2, rfl, rfl, HA, HK2, HO_6, HO_7, HB⟩ := hrel
          cases gk with
          | zero => exact absurd HA.out (by simp [windbreakref01_div.l1])
          | succ k2 =>
           have H := HA.out
           clear HA
           simp only [windbreakref01_div.l1] at H
           by_cases c18 : x9_2 < x10_2
           ·
            rw [if_pos c18] at H
            have c18b0 : decide (x9_2 < x10_2) = true := decide_eq_true c18
            clear c18
            obtain ⟨y431, hy431⟩ : ∃ y_ : List Int, y_ = (([IntKind.u64.wrap (Int.tdiv (IntKind.u64.wrap ((IntKind.u64.wrap (x9_2 + x10_2)) + 1)) 2)] : List Int)) := ⟨_, rfl⟩
            replace H : ((windbreakref01_mul.f k2 l1 y431).bind fun t434 => ((windbreakref01_compare.f k2 t434 t418).bind fun t437 => (if t437 ≤ 0 then (windbreakref01_div.l1 k2 l0 l1 x6_1 t418 x8_1 (IntKind.u64.wrap (Int.tdiv (IntKind.u64.wrap ((IntKind.u64.wrap (x9_2 + x10_2)) + 1)) 2)) x10_2) else (windbreakref01_div.l1 k2 l0 l1 x6_1 t418 x8_1 x9_2 (IntKind.u64.wrap ((IntKind.u64.wrap (Int.tdiv (IntKind.u64.wrap ((IntKind.u64.wrap (x9_2 + x10_2)) + 1)) 2)) - 1)))))) = some (r1, r2) := by first | (rw [hy431]; with_reducible exact H) | (have H2_ := (Option.bind_some _ _).symm.trans H; rw [hy431]; with_reducible exact H2_) | (have H2_ := (Option.bind_some _ _).symm.trans H; with_reducible exact H2_) | with_reducible exact H | (rw [hy431]; exact H) | exact H
            have Ny431 := Aside0.mk hy431; clear hy431
            replace H := Option.bind_eq_some_iff.mp H
            obtain ⟨t434, A190, H⟩ := H
            replace H : ((windbreakref01_compare.f k2 t434 t418).bind fun t437 => (if t437 ≤ 0 then (windbreakref01_div.l1 k2 l0 l1 x6_1 t418 x8_1 (IntKind.u64.wrap (Int.tdiv (IntKind.u64.wrap ((IntKind.u64.wrap (x9_2 + x10_2)) + 1)) 2)) x10_2) else (windbreakref01_div.l1 k2 l0 l1 x6_1 t418 x8_1 x9_2 (IntKind.u64.wrap ((IntKind.u64.wrap (Int.tdiv (IntKind.u64.wrap ((IntKind.u64.wrap (x9_2 + x10_2)) + 1)) 2)) - 1))))) = some (r1, r2) := H
            have A19 := Aside0.mk A190; clear A190
            replace H := Option.bind_eq_some_iff.mp H
            obtain ⟨t437, A200, H⟩ := H
            replace H : (if t437 ≤ 0 then (windbreakref01_div.l1 k2 l0 l1 x6_1 t418 x8_1 (IntKind.u64.wrap (Int.tdiv (IntKind.u64.wrap ((IntKind.u64.wrap (x9_2 + x10_2)) + 1)) 2)) x10_2) else (windbreakref01_div.l1 k2 l0 l1 x6_1 t418 x8_1 x9_2 (IntKind.u64.wrap ((IntKind.u64.wrap (Int.tdiv (IntKind.u64.wrap ((IntKind.u64.wrap (x9_2 + x10_2)) + 1)) 2)) - 1)))) = some (r1, r2) := H
            have A20 := Aside0.mk A200; clear A200
            by_cases c21 : t437 ≤ 0
            ·
             rw [if_pos c21] at H
             have c21b0 : decide (t437 ≤ 0) = true := decide_eq_true c21
             clear c21
             have H' := Aside0.mk H
             clear H
             go_wp2_with (first | ((with_reducible refine gate_dst (N := 40) rfl ?_); refine Kd.R_lit (Kd.int .u64) _ 27 ?hg (N := 40) ?hd (xs := ([IntKind.u64.wrap (Int.tdiv (IntKind.u64.wrap ((IntKind.u64.wrap (x9_2 + x10_2)) + 1)) 2)] : List Int)) (inner := [.int .u64 (IntKind.u64.wrap (Int.tdiv (IntKind.u64.wrap ((IntKind.u64.wrap (x9_2 + x10_2)) + 1)) 2))]) (ok := fun _ => True) (okp := fun _ => True) ?hr ?hp (fun _ hk => hk) trivial (Below.refl _ _) (Nat.le_refl _) (by simp) ?_; (case hd => rfl); (case hg => rfl); (case hr => first | (go_simp; done) | (go_simp; rfl) | (go_simp; simp only [u64_u8]; done) | (go_simp; simp only [u64_u8]; rfl)); (case hp => exact (Reps.one (show Kd.M (Kd.int .u64) _ _ _ (IntKind.u64.wrap (Int.tdiv (IntKind.u64.wrap ((IntKind.u64.wrap (x9_2 + x10_2)) + 1)) 2)) [.int .u64 (IntKind.u64.wrap (Int.tdiv (IntKind.u64.wrap ((IntKind.u64.wrap (x9_2 + x10_2)) + 1)) 2))] from rfl) (Reps.none _ _))); intro v432 w22 ho23 hb hg_ hnew_; clear hg_ hnew_; (first | rw [← Ny431.out] at ho23 | (simp only [Int.reduceToNat] at ho23; rw [← Ny431.out] at ho23)); have n0_ := Aside0.mk (Kd.R_elder' (uR HO_6.out) (Kd.R_base ho23) hb); have n1_ := Aside0.mk (Kd.R_elder' (uR HO_7.out) (Kd.R_base ho23) hb); have n2_ := Aside0.mk (Kd.R_lower (Kd.R_new' (Kd.R_new' ho23 (Kd.R_lt (uR HO_6.out))) (Kd.R_lt (uR HO_7.out))) (below_size uB)); have n3_ := Aside0.mk (below_step uB hb); clear HO_6; clear HO_7; clear HB; have HO_6 := n0_; have HO_7 := n1_; have HO433 := n2_; have HB := n3_; clear n0_ n1_ n2_ n3_; clear hb ho23; obtain ⟨Ao24, co24, eo24⟩ := Kd.R_slice HO433.out; subst eo24) | ((with_reducible refine gate_callee (f := 91) rfl ?_); refine goesL_ (some 41) rfl rfl Try.func91 (by kernel_rfl) rfl #[.slice A1 l1.length c1, .slice Ao24 y431.length co24] rfl uM ?_; (with_reducible refine (windbreakref01_mul.calls k2 _ _ l1 _ _ y431 t434 _ ?side1 ?side2 ?side3 ?side4 A19.out).mono ?_); (case side1 => exact uC (Kd.C_below HR1.out HB.out)); (case side2 => exact HC1.out); (case side3 => exact uC (Kd.R_reads' HO433.out).2.2); (case side4 => exact (Kd.R_reads' HO433.out).2.1); rintro e w25 ⟨v435, rfl, ho0, hb⟩; refine ⟨_, rfl, ?_⟩; have n0_ := Aside0.mk (Kd.R_elder' (uR HO_6.out) (Kd.R_base ho0) hb); have n1_ := Aside0.mk (Kd.R_elder' (uR HO_7.out) (Kd.R_base ho0) hb); have n2_ := Aside0.mk (Kd.R_elder' (uR HO433.out) (Kd.R_base ho0) hb); have n3_ := Aside0.mk (Kd.R_lower (Kd.R_new' (Kd.R_new' (Kd.R_new' ho0 (Kd.R_lt (uR HO_6.out))) (Kd.R_lt (uR HO_7.out))) (Kd.R_lt (uR HO433.out))) (below_size uB)); have n4_ := Aside0.mk (below_step uB hb); clear HO_6; clear HO_7; clear HO433; clear HB; have HO_6 := n0_; have HO_7 := n1_; have HO433 := n2_; have HO436 := n3_; have HB := n4_; clear n0_ n1_ n2_ n3_ n4_; (try clear hb); (try clear hb2); (try clear hk); (try clear hi); (try clear ho0); obtain ⟨Ao26, co26, eo26⟩ := Kd.R_slice HO436.out; subst eo26; obtain ⟨Ao27, co27, eo27⟩ := Kd.R_slice HO_7.out; subst eo27) | ((with_reducible refine gate_callee (f := 110) rfl ?_); refine goesL_ (some 43) rfl rfl Try.func110 (by kernel_rfl) rfl #[.slice Ao26 t434.length co26, .slice Ao27 t418.length co27] rfl uM ?_; (with_reducible refine (windbreakref01_compare.calls k2 _ _ t434 _ _ t418 t437 _ ?side1 ?side2 ?side3 ?side4 A20.out).mono ?_); (case side1 => exact uC (Kd.R_reads' HO436.out).2.2); (case side2 => exact (Kd.R_reads' HO436.out).2.1); (case side3 => exact uC (Kd.R_reads' HO_7.out).2.2); (case side4 => exact (Kd.R_reads' HO_7.out).2.1); rintro e w' ⟨rfl, ⟨nd, rfl⟩⟩; refine ⟨_, rfl, ?_⟩))
             go_roundg k2
             case measure => have := HK1.out; have := HK2.out; omega
             case rel => exact ⟨(IntKind.u64.wrap (Int.tdiv (IntKind.u64.wrap ((IntKind.u64.wrap (x9_2 + x10_2)) + 1)) 2)), (x10_2), (by first | rfl | (simp; done) | (simp [*]; done)), (by first | rfl | (simp; done) | (simp [*]; done)), H', ⟨by have := HK1.out; have := HK2.out; omega⟩, ⟨by (with_reducible repeat (first | apply Kd.R_alloc | apply Kd.R_drewN | apply Kd.R_drew)); exact Kd.R_mono HO_6.out (fun _ hk => hk.1.1)⟩, ⟨by (with_reducible repeat (first | apply Kd.R_alloc | apply Kd.R_drewN | apply Kd.R_drew)); exact Kd.R_mono HO_7.out (fun _ hk => hk.1.1)⟩, ⟨uB⟩⟩
            ·
             rw [if_neg c21] at H
             have c21b0 : decide (t437 ≤ 0) = false := decide_eq_false c21
             clear c21
             have H' := Aside0.mk H
             clear H
             go_wp2_with (first | ((with_reducible refine gate_dst (N := 40) rfl ?_); refine Kd.R_lit (Kd.int .u64) _ 27 ?hg (N := 40) ?hd (xs := ([IntKind.u64.wrap (Int.tdiv (IntKind.u64.wrap ((IntKind.u64.wrap (x9_2 + x10_2)) + 1)) 2)] : List Int)) (inner := [.int .u64 (IntKind.u64.wrap (Int.tdiv (IntKind.u64.wrap ((IntKind.u64.wrap (x9_2 + x10_2)) + 1)) 2))]) (ok := fun _ => True) (okp := fun _ => True) ?hr ?hp (fun _ hk => hk) trivial (Below.refl _ _) (Nat.le_refl _) (by simp) ?_; (case hd => rfl); (case hg => rfl); (case hr => first | (go_simp; done) | (go_simp; rfl) | (go_simp; simp only [u64_u8]; done) | (go_simp; simp only [u64_u8]; rfl)); (case hp => exact (Reps.one (show Kd.M (Kd.int .u64) _ _ _ (IntKind.u64.wrap (Int.tdiv (IntKind.u64.wrap ((IntKind.u64.wrap (x9_2 + x10_2)) + 1)) 2)) [.int .u64 (IntKind.u64.wrap (Int.tdiv (IntKind.u64.wrap ((IntKind.u64.wrap (x9_2 + x10_2)) + 1)) 2))] from rfl) (Reps.none _ _))); intro v432 w28 ho29 hb hg_ hnew_; clear hg_ hnew_; (first | rw [← Ny431.out] at ho29 | (simp only [Int.reduceToNat] at ho29; rw [← Ny431.out] at ho29)); have n0_ := Aside0.mk (Kd.R_elder' (uR HO_6.out) (Kd.R_base ho29) hb); have n1_ := Aside0.mk (Kd.R_elder' (uR HO_7.out) (Kd.R_base ho29) hb); have n2_ := Aside0.mk (Kd.R_lower (Kd.R_new' (Kd.R_new' ho29 (Kd.R_lt (uR HO_6.out))) (Kd.R_lt (uR HO_7.out))) (below_size uB)); have n3_ := Aside0.mk (below_step uB hb); clear HO_6; clear HO_7; clear HB; have HO_6 := n0_; have HO_7 := n1_; have HO433 := n2_; have HB := n3_; clear n0_ n1_ n2_ n3_; clear hb ho29; obtain ⟨Ao30, co30, eo30⟩ := Kd.R_slice HO433.out; subst eo30) | ((with_reducible refine gate_callee (f := 91) rfl ?_); refine goesL_ (some 41) rfl rfl Try.func91 (by kernel_rfl) rfl #[.slice A1 l1.length c1, .slice Ao30 y431.length co30] rfl uM ?_; (with_reducible refine (windbreakref01_mul.calls k2 _ _ l1 _ _ y431 t434 _ ?side1 ?side2 ?side3 ?side4 A19.out).mono ?_); (case side1 => exact uC (Kd.C_below HR1.out HB.out)); (case side2 => exact HC1.out); (case side3 => exact uC (Kd.R_reads' HO433.out).2.2); (case side4 => exact (Kd.R_reads' HO433.out).2.1); rintro e w31 ⟨v435, rfl, ho0, hb⟩; refine ⟨_, rfl, ?_⟩; have n0_ := Aside0.mk (Kd.R_elder' (uR HO_6.out) (Kd.R_base ho0) hb); have n1_ := Aside0.mk (Kd.R_elder' (uR HO_7.out) (Kd.R_base ho0) hb); have n2_ := Aside0.mk (Kd.R_elder' (uR HO433.out) (Kd.R_base ho0) hb); have n3_ := Aside0.mk (Kd.R_lower (Kd.R_new' (Kd.R_new' (Kd.R_new' ho0 (Kd.R_lt (uR HO_6.out))) (Kd.R_lt (uR HO_7.out))) (Kd.R_lt (uR HO433.out))) (below_size uB)); have n4_ := Aside0.mk (below_step uB hb); clear HO_6; clear HO_7; clear HO433; clear HB; have HO_6 := n0_; have HO_7 := n1_; have HO433 := n2_; have HO436 := n3_; have HB := n4_; clear n0_ n1_ n2_ n3_ n4_; (try clear hb); (try clear hb2); (try clear hk); (try clear hi); (try clear ho0); obtain ⟨Ao32, co32, eo32⟩ := Kd.R_slice HO436.out; subst eo32; obtain ⟨Ao33, co33, eo33⟩ := Kd.R_slice HO_7.out; subst eo33) | ((with_reducible refine gate_callee (f := 110) rfl ?_); refine goesL_ (some 43) rfl rfl Try.func110 (by kernel_rfl) rfl #[.slice Ao32 t434.length co32, .slice Ao33 t418.length co33] rfl uM ?_; (with_reducible refine (windbreakref01_compare.calls k2 _ _ t434 _ _ t418 t437 _ ?side1 ?side2 ?side3 ?side4 A20.out).mono ?_); (case side1 => exact uC (Kd.R_reads' HO436.out).2.2); (case side2 => exact (Kd.R_reads' HO436.out).2.1); (case side3 => exact uC (Kd.R_reads' HO_7.out).2.2); (case side4 => exact (Kd.R_reads' HO_7.out).2.1); rintro e w' ⟨rfl, ⟨nd, rfl⟩⟩; refine ⟨_, rfl, ?_⟩))
             go_roundg k2
             case measure => have := HK1.out; have := HK2.out; omega
             case rel => exact ⟨(x9_2), (IntKind.u64.wrap ((IntKind.u64.wrap (Int.tdiv (IntKind.u64.wrap ((IntKind.u64.wrap (x9_2 + x10_2)) + 1)) 2)) - 1)), (by first | rfl | (simp; done) | (simp [*]; done)), (by first | rfl | (simp; done) | (simp [*]; done)), H', ⟨by have := HK1.out; have := HK2.out; omega⟩, ⟨by (with_reducible repeat (first | apply Kd.R_alloc | apply Kd.R_drewN | apply Kd.R_drew)); exact Kd.R_mono HO_6.out (fun _ hk => hk.1.1)⟩, ⟨by (with_reducible repeat (first | apply Kd.R_alloc | apply Kd.R_drewN | apply Kd.R_drew)); exact Kd.R_mono HO_7.out (fun _ hk => hk.1.1)⟩, ⟨uB⟩⟩
           ·
            rw [if_neg c18] at H
            have c18b0 : decide (x9_2 < x10_2) = false := decide_eq_false c18
            clear c18
            by_cases c34 : 0 ≤ x8_1
            ·
             rw [if_pos c34] at H
             have c34b0 : decide (0 ≤ x8_1) = true := decide_eq_true c34
             clear c34
             by_cases c35 : x8_1 < (x6_1.length : Int)
             ·
              rw [if_pos c35] at H
              have c35b0 : decide (x8_1 < (x6_1.length : Int)) = true := decide_eq_true c35
              clear c35
              obtain ⟨y421, hy421⟩ : ∃ y_ : List Int, y_ = (x6_1.set (x8_1 : Int).toNat x9_2) := ⟨_, rfl⟩
              replace H : ((windbreakref01_mul.f k2 l1 (([x9_2] : List Int))).bind fun t425 => ((windbreakref01_sub.f k2 t418 t425).bind fun t428 => (windbreakref01_div.l0 k2 l0 l1 y421 t428 (wrap64 (x8_1 - 1))))) = some (r1, r2) := by first | (rw [hy421]; with_reducible exact H) | (have H2_ := (Option.bind_some _ _).symm.trans H; rw [hy421]; with_reducible exact H2_) | (have H2_ := (Option.bind_some _ _).symm.trans H; with_reducible exact H2_) | with_reducible exact H | (rw [hy421]; exact H) | exact H
              have Ny421 := Aside0.mk hy421; clear hy421
              obtain ⟨y422, hy422⟩ : ∃ y_ : List Int, y_ = (([x9_2] : List Int)) := ⟨_, rfl⟩
              replace H : ((windbreakref01_mul.f k2 l1 y422).bind fun t425 => ((windbreakref01_sub.f k2 t418 t425).bind fun t428 => (windbreakref01_div.l0 k2 l0 l1 y421 t428 (wrap64 (x8_1 - 1))))) = some (r1, r2) := by first | (rw [hy422]; with_reducible exact H) | (have H2_ := (Option.bind_some _ _).symm.trans H; rw [hy422]; with_reducible exact H2_) | (have H2_ := (Option.bind_some _ _).symm.trans H; with_reducible exact H2_) | with_reducible exact H | (rw [hy422]; exact H) | exact H
              have Ny422 := Aside0.mk hy422; clear hy422
              replace H := Option.bind_eq_some_iff.mp H
              obtain ⟨t425, A370, H⟩ := H
              replace H : ((windbreakref01_sub.f k2 t418 t425).bind fun t428 => (windbreakref01_div.l0 k2 l0 l1 y421 t428 (wrap64 (x8_1 - 1)))) = some (r1, r2) := H
              have A37 := Aside0.mk A370; clear A370
              replace H := Option.bind_eq_some_iff.mp H
              obtain ⟨t428, A380, H⟩ := H
              replace H : (windbreakref01_div.l0 k2 l0 l1 y421 t428 (wrap64 (x8_1 - 1))) = some (r1, r2) := H
              have A38 := Aside0.mk A380; clear A380
              have H' := Aside0.mk H
              clear H
              have p36 : 0 ≤ (x8_1 : Int) := of_decide_eq_true (by first | (with_reducible assumption) | assumption)
              have q36 : (x8_1 : Int) < ((x6_1.length : Int) : Int) := of_decide_eq_true (by first | (with_reducible assumption) | assumption)
              obtain ⟨go36, co36, eo36, gb36, gl36, cl36, HG36⟩ := Kd.R_form HO_6.out (by omega)
              (first | cases eo36 | (injection eo36 with ea_ en_ ec_; (first | subst ea_ | (injection ea_ with ea_; subst ea_)); subst ec_; clear en_))
              have GB36 := Aside0.mk gb36; have GG36 := Aside0.mk HG36; clear gb36 gl36 HG36
              obtain ⟨hx36_0, hf36_0⟩ := Kd.R_celln 0 HO_6.out (x8_1 : Int) p36 q36
              replace p36 := eq_true p36
              replace q36 := eq_true q36
              have HP39 := Kd.R_putg HO_6.out (x8_1 : Int) x9_2
              go_wp2_with (first | ((with_reducible refine gate_store (t := 27) (p := 51) rfl ?_); refine store_event (t := 27) (p := 51) (v := ?vo_w40) (w1 := (wr.setCell ⟨go36, (x8_1 : Int).toNat, none⟩ (.int .u64 x9_2))) ?hg ?ho ?hn ?hr ?_; (case ho => rfl); (case hg => rfl); (case hn => rfl); (case hr => first | (go_simp; done) | (go_simp; rfl) | (obtain ⟨hy_, hz_⟩ := Kd.R_celln 0 HO_6.out (x8_1 : Int) (of_decide_eq_true (by first | (with_reducible assumption) | assumption)) (of_decide_eq_true (by first | (with_reducible assumption) | assumption)); (try simp only [Go.IntWalk.toNatUp] at hy_ hz_); (try simp only [Int.reduceToNat, Int.toNat_zero, Int.toNat_ofNat] at hy_ hz_); first | (go_simp; done) | (go_simp; rfl))); intro w40 hw; have hg : wr.grownBy w40 (some go36) := (by rw [hw]; exact HP39.2); have hp_ : Kd.R (Kd.int .u64) 27 w40 w.heap.size (fun k_ => some k_ ≠ (v419 : Value).ownBlock) (.slice (some ⟨go36, 0, none⟩) x6_1.length co36) y421 := (by rw [hw, Ny421.out]; exact HP39.1); clear HP39; have n0_ := Aside0.mk (hp_); have n1_ := Aside0.mk (Kd.R_after (v := (.slice (some ⟨go36, 0, none⟩) x6_1.length co36)) (v1 := (.slice (some ⟨go36, 0, none⟩) x6_1.length co36)) (ok := (fun _ => True)) (uR (Kd.R_mono HO_7.out (fun _ hk => ⟨trivial, hk⟩))) hg (.inl rfl)); have n2_ := Aside0.mk ((by rw [hw]; exact below_set (HB.out) GB36.out : Below w.heap.size w w40)); clear HO_6; clear HO_7; clear HB; have HO_6 := n0_; have HO_7 := n1_; have HB := n2_; clear n0_ n1_ n2_; clear hg hw hp_) | ((with_reducible refine gate_dst (N := 55) rfl ?_); refine Kd.R_lit (Kd.int .u64) _ 27 ?hg (N := 55) ?hd (xs := ([x9_2] : List Int)) (inner := [.int .u64 x9_2]) (ok := fun _ => True) (okp := fun _ => True) ?hr ?hp (fun _ hk => hk) trivial (Below.refl _ _) (Nat.le_refl _) (by simp) ?_; (case hd => rfl); (case hg => rfl); (case hr => first | (go_simp; done) | (go_simp; rfl) | (go_simp; simp only [u64_u8]; done) | (go_simp; simp only [u64_u8]; rfl)); (case hp => exact (Reps.one (show Kd.M (Kd.int .u64) _ _ _ x9_2 [.int .u64 x9_2] from rfl) (Reps.none _ _))); intro v423 w41 ho42 hb hg_ hnew_; clear hg_ hnew_; (first | rw [← Ny422.out] at ho42 | (simp only [Int.reduceToNat] at ho42; rw [← Ny422.out] at ho42)); have n0_ := Aside0.mk (Kd.R_elder' (uR HO_6.out) (Kd.R_base ho42) hb); have n1_ := Aside0.mk (Kd.R_elder' (uR HO_7.out) (Kd.R_base ho42) hb); have n2_ := Aside0.mk (Kd.R_lower (Kd.R_new' (Kd.R_new' ho42 (Kd.R_lt (uR HO_6.out))) (Kd.R_lt (uR HO_7.out))) (below_size uB)); have n3_ := Aside0.mk (below_step uB hb); clear HO_6; clear HO_7; clear HB; have HO_6 := n0_; have HO_7 := n1_; have HO424 := n2_; have HB := n3_; clear n0_ n1_ n2_ n3_; clear hb ho42; obtain ⟨Ao43, co43, eo43⟩ := Kd.R_slice HO424.out; subst eo43) | ((with_reducible refine gate_callee (f := 91) rfl ?_); refine goesL_ (some 56) rfl rfl Try.func91 (by kernel_rfl) rfl #[.slice A1 l1.length c1, .slice Ao43 y422.length co43] rfl uM ?_; (with_reducible refine (windbreakref01_mul.calls k2 _ _ l1 _ _ y422 t425 _ ?side1 ?side2 ?side3 ?side4 A37.out).mono ?_); (case side1 => exact uC (Kd.C_below HR1.out HB.out)); (case side2 => exact HC1.out); (case side3 => exact uC (Kd.R_reads' HO424.out).2.2); (case side4 => exact (Kd.R_reads' HO424.out).2.1); rintro e w44 ⟨v426, rfl, ho0, hb⟩; refine ⟨_, rfl, ?_⟩; have n0_ := Aside0.mk (Kd.R_elder' (uR HO_6.out) (Kd.R_base ho0) hb); have n1_ := Aside0.mk (Kd.R_elder' (uR HO_7.out) (Kd.R_base ho0) hb); have n2_ := Aside0.mk (Kd.R_elder' (uR HO424.out) (Kd.R_base ho0) hb); have n3_ := Aside0.mk (Kd.R_lower (Kd.R_new' (Kd.R_new' (Kd.R_new' ho0 (Kd.R_lt (uR HO_6.out))) (Kd.R_lt (uR HO_7.out))) (Kd.R_lt (uR HO424.out))) (below_size uB)); have n4_ := Aside0.mk (below_step uB hb); clear HO_6; clear HO_7; clear HO424; clear HB; have HO_6 := n0_; have HO_7 := n1_; have HO424 := n2_; have HO427 := n3_; have HB := n4_; clear n0_ n1_ n2_ n3_ n4_; (try clear hb); (try clear hb2); (try clear hk); (try clear hi); (try clear ho0); obtain ⟨Ao45, co45, eo45⟩ := Kd.R_slice HO_7.out; subst eo45; obtain ⟨Ao46, co46, eo46⟩ := Kd.R_slice HO427.out; subst eo46) | ((with_reducible refine gate_callee (f := 126) rfl ?_); refine goesL_ (some 57) rfl rfl Try.func126 (by kernel_rfl) rfl #[.slice Ao45 t418.length co45, .slice Ao46 t425.length co46] rfl uM ?_; (with_reducible refine (windbreakref01_sub.calls k2 _ _ t418 _ _ t425 t428 _ ?side1 ?side2 ?side3 ?side4 A38.out).mono ?_); (case side1 => exact uC (Kd.R_reads' HO_7.out).2.2); (case side2 => exact (Kd.R_reads' HO_7.out).2.1); (case side3 => exact uC (Kd.R_reads' HO427.out).2.2); (case side4 => exact (Kd.R_reads' HO427.out).2.1); rintro e w47 ⟨v429, rfl, ho0, hb⟩; refine ⟨_, rfl, ?_⟩; have n0_ := Aside0.mk (Kd.R_elder' (uR HO_6.out) (Kd.R_base ho0) hb); have n1_ := Aside0.mk (Kd.R_elder' (uR HO_7.out) (Kd.R_base ho0) hb); have n2_ := Aside0.mk (Kd.R_elder' (uR HO424.out) (Kd.R_base ho0) hb); have n3_ := Aside0.mk (Kd.R_elder' (uR HO427.out) (Kd.R_base ho0) hb); have n4_ := Aside0.mk (Kd.R_lower (Kd.R_new' (Kd.R_new' (Kd.R_new' (Kd.R_new' ho0 (Kd.R_lt (uR HO_6.out))) (Kd.R_lt (uR HO_7.out))) (Kd.R_lt (uR HO424.out))) (Kd.R_lt (uR HO427.out))) (below_size uB)); have n5_ := Aside0.mk (below_step uB hb); clear HO_6; clear HO_7; clear HO424; clear HO427; clear HB; have HO_6 := n0_; have HO_7 := n1_; have HO424 := n2_; have HO427 := n3_; have HO430 := n4_; have HB := n5_; clear n0_ n1_ n2_ n3_ n4_ n5_; (try clear hb); (try clear hb2); (try clear hk); (try clear hi); (try clear ho0)))
              go_roundg k2
              case measure => have := HK1.out; have := HK2.out; omega
              case rel => exact ⟨(y421), (t428), (wrap64 (x8_1 - 1)), (by first | rfl | (simp; done) | (simp [*]; done)), H', ⟨by have := HK1.out; have := HK2.out; omega⟩, ⟨by (with_reducible repeat (first | apply Kd.R_alloc | apply Kd.R_drewN | apply Kd.R_drew)); exact Kd.R_mono HO_6.out (fun _ hk => hk.2)⟩, ⟨by (with_reducible repeat (first | apply Kd.R_alloc | apply Kd.R_drewN | apply Kd.R_drew)); exact Kd.R_mono HO430.out (fun _ hk => hk.1.1.1.2)⟩, ⟨uB⟩⟩
             ·
              rw [if_neg c35] at H
              exact absurd H (by simp)
            ·
             rw [if_neg c34] at H
             exact absurd H (by simp)
        ·
         rw [if_neg c10] at H
         exact absurd H (by simp)
       ·
        rw [if_neg c9] at H
        exact absurd H (by simp)
      ·
       rw [if_neg c8] at H
       exact absurd H (by simp)
     ·
      rw [if_neg c7] at H
      have c7b0 : decide (0 ≤ x8_1) = false := decide_eq_false c7
      clear c7
      replace H := Option.bind_eq_some_iff.mp H
      obtain ⟨t408, A480, H⟩ := H
      replace H : (some (t408, x7_1)) = some (r1, r2) := H
      have A48 := Aside0.mk A480; clear A480
      simp only [Option.some.injEq, Prod.mk.injEq] at H
      obtain ⟨rfl, rfl⟩ := H
      obtain ⟨Ao49, co49, eo49⟩ := Kd.R_slice HO_6.out
      subst eo49
      go_wp2_with (first | ((with_reducible refine gate_callee (f := 99) rfl ?_); refine goesL_ (some 59) rfl rfl Try.func99 (by kernel_rfl) rfl #[.slice Ao49 x6_1.length co49] rfl uM ?_; (with_reducible refine (windbreakref01_cut.calls k1 (fun k_ => some k_ = (.slice Ao49 x6_1.length co49 : Value).ownBlock) (.slice Ao49 x6_1.length co49) x6_1 t408 w _ ?side1 ?side2 A48.out).mono ?_); (case side1 => repeat (first | (with_reducible first | exact HB.out | apply below_alloc | apply pw_below_drewN | apply below_drew1) | exact HB.out)); (case side2 => exact Kd.R_tight rfl HO_6.out); rintro e w50 ⟨v409, rfl, ho0, hb, hkp⟩; refine ⟨_, rfl, ?_⟩; have n0_ := Aside0.mk (Kd.R_mono (ok' := fun k_ => some k_ ≠ (v409 : Value).ownBlock) (Kd.R_keptB (HO_7.out) hkp (fun k_ hk_ hs_ => (hk_) hs_)) (fun k_ hk_ => fun e_ => Or.elim (ho0.1 k_ e_.symm) (fun hs_ => hk_.2.1 hs_) (fun hn_ => Nat.not_le.2 hk_.2.2 hn_))); have n1_ := Aside0.mk (Kd.R_mono (ok' := fun k_ => some k_ ≠ (u7 : Value).ownBlock) ho0 (fun k_ hk_ => Or.elim hk_ (fun hs_ => fun e_ => (((HO_7.out).1 k_ e_.symm)) hs_) (fun hn_ => (Kd.fresh' (Kd.R_lt (uR HO_7.out)) k_ hn_)))); have n2_ := Aside0.mk (hb); clear HO_7; clear HB; clear HO_6; have HO_7 := n0_; have HO410 := n1_; have HB := n2_; clear n0_ n1_ n2_; (try clear hb); (try clear hkp); (try clear ho0)))
      go_ret2
      exact ⟨_, _, by first | rfl | (simp [errW_none, errW_some] <;> rfl) | (simp [*, errW_none, errW_some] <;> rfl), uR HO410.out, uR HO_7.out, uB⟩
  ·
   rw [if_neg c4] at H
   exact absurd H (by simp)
 ·
  rw [if_neg c3] at H
  exact absurd H (by simp)

end Go.Proofs.Ytgeanpnkllnipab.F
end

section
namespace Go.Proofs.Ytgeanpnkllnipab.F
open Go.RowKit Go.Proofs.YtgeanpnkllnipabW.PrintWords Go.Proofs.YtgeanpnkllnipabW.PrintLast Go.Proofs.YtgeanpnkllnipabW.PrintMore
attribute [local go_sem] max2_int min2_int max_two min_two max_three min_three max_four min_four
set_option linter.unusedVariables false
set_option linter.unusedSimpArgs false

def windbreakref01_Shr.j0 : Nat → List Int → Int → Bool → Option (List Int × Int)
 | 0, _, _, _ => none
 | k + 1, x0, x1, x16 => if x16 = true then (some (([] : List Int), 1)) else (if x1 ≥ 4096 then (some (([] : List Int), 0)) else ((windbreakref01_In.f k x0).bind fun t439 => ((windbreakref01_power.f k x1).bind fun t442 => ((windbreakref01_div.f k t439 t442).bind fun bt445 => ((windbreakref01_told.f k bt445.1).bind fun bt451 => (some (bt451.1, bt451.2)))))))
def windbreakref01_Shr.f (k : Nat) (l0 : List Int) (a1 : Int) : Option (List Int × Int) := (windbreakref01_Right.f l0).bind fun t438 => (if t438 = true then (windbreakref01_Shr.j0 k l0 a1 (decide (a1 < 0))) else (windbreakref01_Shr.j0 k l0 a1 true))
set_option maxHeartbeats 8000000 in
set_option maxRecDepth 100000 in
theorem windbreakref01_Shr.calls (k : Nat) (A0 : Option Addr) (c0 : Nat) (l0 : List Int) (a1 : Int) (r1 : List Int) (r2 : Int) (w : World) (hr0 : Kd.C (Kd.int .u64) w A0 l0.length l0) (hc0 : l0.length ≤ c0) (h : windbreakref01_Shr.f k l0 a1 = some (r1, r2)) :
  Calls Try.prog 93 #[.slice A0 l0.length c0, .int .i64 a1] w fun e w' => ∃ v0_ : Value, e = .returned (.tuple #[v0_, .int .i64 r2]) ∧ Kd.R (Kd.int .u64) 27 w' w.heap.size (fun _ => True) v0_ r1 ∧ Below w.heap.size w w' := by
 have HR0 := Aside0.mk hr0; have HC0 := Aside0.mk hc0; clear hr0 hc0
 have HB := Aside0.mk (Below.refl w.heap.size w)
 have H : ((windbreakref01_Right.f l0).bind fun t438 => (if t438 = true then (windbreakref01_Shr.j0 k l0 a1 (decide (a1 < 0))) else (windbreakref01_Shr.j0 k l0 a1 true))) = some (r1, r2) := h
 clear h
 replace H := Option.bind_eq_some_iff.mp H
 obtain ⟨t438, A30, H⟩ := H
 replace H : (if t438 = true then (windbreakref01_Shr.j0 k l0 a1 (decide (a1 < 0))) else (windbreakref01_Shr.j0 k l0 a1 true)) = some (r1, r2) := H
 have A3 := Aside0.mk A30; clear A30; have HC4 := Aside0.mk H; clear H
 go_enter Try.func93, Try.ntmps93
 go_upto_region 2 with (first | ((with_reducible refine gate_callee (f := 50) rfl ?_); refine goesL_ (some 10) rfl rfl Try.func50 (by kernel_rfl) rfl #[.slice A0 l0.length c0] rfl uM ?_; (with_reducible refine (windbreakref01_Right.calls _ _ l0 t438 _ ?side1 ?side2 A3.out).mono ?_); (case side1 => exact uC HR0.out); (case side2 => exact HC0.out); rintro e w' ⟨rfl, ⟨nd, rfl⟩⟩; refine ⟨_, rfl, ?_⟩))
 (try simp only [Act.put, List.setIfInBounds_toArray, List.set_cons_zero, List.set_cons_succ])
 go_cut [16] (fun v16 wc => ∃ (kq : Nat) (x16_3 : Bool), v16 = .bool x16_3 ∧ Aside0 (windbreakref01_Shr.j0 kq l0 a1 x16_3 = some (r1, r2)) ∧ Aside0 (kq ≤ k) ∧ Aside0 (Below w.heap.size w wc))
 case first =>
  have H := HC4.out
  clear HC4
  by_cases c5 : t438 = true
  ·
   subst c5
   have H1 : (windbreakref01_Shr.j0 k l0 a1 (decide (a1 < 0))) = some (r1, r2) := by rw [if_pos rfl] at H; exact H
   clear H; have H := H1; clear H1
   have H' := Aside0.mk H
   clear H
   go_wp2
   go_meet
   case rel => exact ⟨_, (decide (a1 < 0)), (by first | rfl | (simp; done) | (simp [*]; done)), H', ⟨by first | omega | exact Nat.le_refl _⟩, ⟨uB⟩⟩
  ·
   replace c5 := Bool.eq_false_iff.mpr c5
   subst c5
   have H1 : (windbreakref01_Shr.j0 k l0 a1 true) = some (r1, r2) := by rw [if_neg (show ¬ (false = true) by decide)] at H; exact H
   clear H; have H := H1; clear H1
   have H' := Aside0.mk H
   clear H
   go_wp2
   go_meet
   case rel => exact ⟨_, (true), (by first | rfl | (simp; done) | (simp [*]; done)), H', ⟨by first | omega | exact Nat.le_refl _⟩, ⟨uB⟩⟩
 case rest =>
  clear HC4
  try clear p2
  try clear c5
  obtain ⟨kq, x16_3, rfl, HA, HJ3, HB⟩ := hcut
  cases kq with
  | zero => exact absurd HA.out (by simp [windbreakref01_Shr.j0])
  | succ kj3 =>
   have H := HA.out
   clear HA
   simp only [windbreakref01_Shr.j0] at H
   by_cases c6 : x16_3 = true
   ·
    subst c6
    have H1 : (some (([] : List Int), 1)) = some (r1, r2) := by rw [if_pos rfl] at H; exact H
    clear H; have H := H1; clear H1
    simp only [Option.some.injEq, Prod.mk.injEq] at H
    obtain ⟨rfl, rfl⟩ := H
    go_wp2
    go_ret2
    exact ⟨_, by first | rfl | (simp [errW_none, errW_some] <;> rfl) | (simp [*, errW_none, errW_some] <;> rfl), by first | exact Kd.R_nil _ _ _ _ _ | exact Kd.N_nil _ _ _ _ _ | exact Kd.V_nil _ _ _ _ _ | exact Kd.Q_nil _ _ _ _ _ | exact Kd.S_nil _ _ _ _ _, uB⟩
   ·
    replace c6 := Bool.eq_false_iff.mpr c6
    subst c6
    have H1 : (if a1 ≥ 4096 then (some (([] : List Int), 0)) else ((windbreakref01_In.f kj3 l0).bind fun t439 => ((windbreakref01_power.f kj3 a1).bind fun t442 => ((windbreakref01_div.f kj3 t439 t442).bind fun bt445 => ((windbreakref01_told.f kj3 bt445.1).bind fun bt451 => (some (bt451.1, bt451.2))))))) = some (r1, r2) := by rw [if_neg (show ¬ (false = true) by decide)] at H; exact H
    clear H; have H := H1; clear H1
    by_cases c7 : a1 ≥ 4096
    ·
     rw [if_pos c7] at H
     have c7b0 : decide (4096 ≤ a1) = true := decide_eq_true c7
     clear c7
     simp only [Option.some.injEq, Prod.mk.injEq] at H
     obtain ⟨rfl, rfl⟩ := H
     go_wp2
     go_ret2
     exact ⟨_, by first | rfl | (simp [errW_none, errW_some] <;> rfl) | (simp [*, errW_none, errW_some] <;> rfl), by first | exact Kd.R_nil _ _ _ _ _ | exact Kd.N_nil _ _ _ _ _ | exact Kd.V_nil _ _ _ _ _ | exact Kd.Q_nil _ _ _ _ _ | exact Kd.S_nil _ _ _ _ _, uB⟩
    ·
     rw [if_neg c7] at H
     have c7b0 : decide (4096 ≤ a1) = false := decide_eq_false c7
     clear c7
     replace H := Option.bind_eq_some_iff.mp H
     obtain ⟨t439, A80, H⟩ := H
     replace H : ((windbreakref01_power.f kj3 a1).bind fun t442 => ((windbreakref01_div.f kj3 t439 t442).bind fun bt445 => ((windbreakref01_told.f kj3 bt445.1).bind fun bt451 => (some (bt451.1, bt451.2))))) = some (r1, r2) := H
     have A8 := Aside0.mk A80; clear A80
     replace H := Option.bind_eq_some_iff.mp H
     obtain ⟨t442, A90, H⟩ := H
     replace H : ((windbreakref01_div.f kj3 t439 t442).bind fun bt445 => ((windbreakref01_told.f kj3 bt445.1).bind fun bt451 => (some (bt451.1, bt451.2)))) = some (r1, r2) := H
     have A9 := Aside0.mk A90; clear A90
     replace H := Option.bind_eq_some_iff.mp H
     obtain ⟨⟨t445, t446⟩, A100, H⟩ := H
     replace H : ((windbreakref01_told.f kj3 t445).bind fun bt451 => (some (bt451.1, bt451.2))) = some (r1, r2) := H
     have A10 := Aside0.mk A100; clear A100
     replace H := Option.bind_eq_some_iff.mp H
     obtain ⟨⟨t451, t452⟩, A110, H⟩ := H
     replace H : (some (t451, t452)) = some (r1, r2) := H
     have A11 := Aside0.mk A110; clear A110
     simp only [Option.some.injEq, Prod.mk.injEq] at H
     obtain ⟨rfl, rfl⟩ := H
     go_wp2_with (first | ((with_reducible refine gate_callee (f := 54) rfl ?_); refine goesL_ (some 21) rfl rfl Try.func54 (by kernel_rfl) rfl #[.slice A0 l0.length c0] rfl uM ?_; (with_reducible refine (windbreakref01_In.calls kj3 _ _ l0 t439 _ ?side1 ?side2 A8.out).mono ?_); (case side1 => exact uC (Kd.C_below HR0.out HB.out)); (case side2 => exact HC0.out); rintro e w12 ⟨v440, rfl, ho0, hb⟩; refine ⟨_, rfl, ?_⟩; have n0_ := Aside0.mk (Kd.R_lower ho0 (below_size uB)); have n1_ := Aside0.mk (below_step uB hb); clear HB; have HO441 := n0_; have HB := n1_; clear n0_ n1_; (try clear hb); (try clear hb2); (try clear hk); (try clear hi); (try clear ho0)) | ((with_reducible refine gate_callee (f := 92) rfl ?_); refine goesL_ (some 23) rfl rfl Try.func92 (by kernel_rfl) rfl #[.int .i64 a1] rfl uM ?_; (with_reducible refine (windbreakref01_power.calls kj3 a1 t442 _ A9.out).mono ?_); rintro e w13 ⟨v443, rfl, ho0, hb⟩; refine ⟨_, rfl, ?_⟩; have n0_ := Aside0.mk (Kd.R_elder' (uR HO441.out) (Kd.R_base ho0) hb); have n1_ := Aside0.mk (Kd.R_lower (Kd.R_new' ho0 (Kd.R_lt (uR HO441.out))) (below_size uB)); have n2_ := Aside0.mk (below_step uB hb); clear HO441; clear HB; have HO441 := n0_; have HO444 := n1_; have HB := n2_; clear n0_ n1_ n2_; (try clear hb); (try clear hb2); (try clear hk); (try clear hi); (try clear ho0); obtain ⟨Ao14, co14, eo14⟩ := Kd.R_slice HO441.out; subst eo14; obtain ⟨Ao15, co15, eo15⟩ := Kd.R_slice HO444.out; subst eo15) | ((with_reducible refine gate_callee (f := 119) rfl ?_); refine goesL_ (some 24) rfl rfl Try.func119 (by kernel_rfl) rfl #[.slice Ao14 t439.length co14, .slice Ao15 t442.length co15] rfl uM ?_; (with_reducible refine (windbreakref01_div.calls kj3 _ _ t439 _ _ t442 t445 t446 _ ?side1 ?side2 ?side3 ?side4 A10.out).mono ?_); (case side1 => exact uC (Kd.R_reads' HO441.out).2.2); (case side2 => exact (Kd.R_reads' HO441.out).2.1); (case side3 => exact uC (Kd.R_reads' HO444.out).2.2); (case side4 => exact (Kd.R_reads' HO444.out).2.1); rintro e w16 ⟨v447, v449, rfl, ho0, ho1, hb⟩; refine ⟨_, rfl, ?_⟩; have n0_ := Aside0.mk (Kd.R_mono (Kd.R_told (Kd.R_told (Kd.R_old (uR HO441.out) hb) (Kd.R_base ho0)) (Kd.R_base ho1)) (fun _ h_ => h_.1)); have n1_ := Aside0.mk (Kd.R_mono (Kd.R_told (Kd.R_told (Kd.R_old (uR HO444.out) hb) (Kd.R_base ho0)) (Kd.R_base ho1)) (fun _ h_ => h_.1)); have n2_ := Aside0.mk (Kd.R_lower (Kd.R_new' (Kd.R_new' ho0 (Kd.R_lt (uR HO441.out))) (Kd.R_lt (uR HO444.out))) (below_size uB)); have n3_ := Aside0.mk (Kd.R_lower (Kd.R_new' (Kd.R_new' ho1 (Kd.R_lt (uR HO441.out))) (Kd.R_lt (uR HO444.out))) (below_size uB)); have n4_ := Aside0.mk (below_step uB hb); clear HO441; clear HO444; clear HB; have HO441 := n0_; have HO444 := n1_; have HO448 := n2_; have HO450 := n3_; have HB := n4_; clear n0_ n1_ n2_ n3_ n4_; (try clear hb); (try clear hb2); (try clear hk); (try clear hi); (try clear ho0); (try clear ho1); obtain ⟨Ao17, co17, eo17⟩ := Kd.R_slice HO448.out; subst eo17) | ((with_reducible refine gate_callee (f := 52) rfl ?_); refine goesL_ (some 28) rfl rfl Try.func52 (by kernel_rfl) rfl #[.slice Ao17 t445.length co17] rfl uM ?_; (with_reducible refine (windbreakref01_told.calls kj3 _ _ t445 t451 t452 _ ?side1 ?side2 A11.out).mono ?_); (case side1 => exact uC (Kd.R_reads' HO448.out).2.2); (case side2 => exact (Kd.R_reads' HO448.out).2.1); rintro e w18 ⟨v453, rfl, ho0, hb⟩; refine ⟨_, rfl, ?_⟩; have n0_ := Aside0.mk (Kd.R_elder' (uR HO441.out) (Kd.R_base ho0) hb); have n1_ := Aside0.mk (Kd.R_elder' (uR HO444.out) (Kd.R_base ho0) hb); have n2_ := Aside0.mk (Kd.R_elder' (uR HO448.out) (Kd.R_base ho0) hb); have n3_ := Aside0.mk (Kd.R_elder' (uR HO450.out) (Kd.R_base ho0) hb); have n4_ := Aside0.mk (Kd.R_lower (Kd.R_new' (Kd.R_new' (Kd.R_new' (Kd.R_new' ho0 (Kd.R_lt (uR HO441.out))) (Kd.R_lt (uR HO444.out))) (Kd.R_lt (uR HO448.out))) (Kd.R_lt (uR HO450.out))) (below_size uB)); have n5_ := Aside0.mk (below_step uB hb); clear HO441; clear HO444; clear HO448; clear HO450; clear HB; have HO441 := n0_; have HO444 := n1_; have HO448 := n2_; have HO450 := n3_; have HO454 := n4_; have HB := n5_; clear n0_ n1_ n2_ n3_ n4_ n5_; (try clear hb); (try clear hb2); (try clear hk); (try clear hi); (try clear ho0)))
     go_ret2
     exact ⟨_, by first | rfl | (simp [errW_none, errW_some] <;> rfl) | (simp [*, errW_none, errW_some] <;> rfl), by (with_reducible repeat (first | apply Kd.R_alloc | apply Kd.R_drewN | apply Kd.R_drew)); exact Kd.R_mono HO454.out (fun _ hk => trivial), uB⟩

end Go.Proofs.Ytgeanpnkllnipab.F
end
