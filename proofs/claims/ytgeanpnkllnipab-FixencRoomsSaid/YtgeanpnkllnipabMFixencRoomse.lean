/- Proved: the law FixencRooms of layer 7: how far the first one is moved so that any sums fit is the document's; for every input, without a condition. -/
import Derived.Test.YtgeanpnkllnipabMFixencRoomsd
section
namespace Go.Proofs.Ytgeanpnkllnipab.F
open Go.RowKit Go.Proofs.YtgeanpnkllnipabW.PrintWords Go.Proofs.YtgeanpnkllnipabW.PrintLast Go.Proofs.YtgeanpnkllnipabW.PrintMore
attribute [local go_sem] max2_int min2_int max_two min_two max_three min_three max_four min_four
set_option linter.unusedVariables false
set_option linter.unusedSimpArgs false
def windbreakref03_Mul.j0 : Nat → Bool → Bool → List Int → Bool → List Int → Option (Bool × List Int × Int)
 | 0, _, _, _, _, _ => none
 | k + 1, x19, x825000, x825001, x826000, x826001 => if x19 = true then (some (false, ([] : List Int), 1)) else ((windbreakref01_Mul.f k x825001 x826001).bind fun bt829 => ((windbreakref03_From.f (x825000 != x826000) bt829.1).bind fun bt833 => (some (bt833.1, bt833.2, bt829.2))))
def windbreakref03_Mul.f (k : Nat) (a0_0 : Bool) (l0_1 : List Int) (a1_0 : Bool) (l1_1 : List Int) : Option (Bool × List Int × Int) := (windbreakref03_Right.f a0_0 l0_1).bind fun t827 => ((windbreakref03_Right.f a1_0 l1_1).bind fun t828 => (if t827 = true then (windbreakref03_Mul.j0 k (!t828) a0_0 l0_1 a1_0 l1_1) else (windbreakref03_Mul.j0 k true a0_0 l0_1 a1_0 l1_1)))
set_option maxHeartbeats 8000000 in
set_option maxRecDepth 100000 in
theorem windbreakref03_Mul.calls (k : Nat) (a0_0 : Bool) (A0_1 : Option Addr) (c0_1 : Nat) (l0_1 : List Int) (a1_0 : Bool) (A1_1 : Option Addr) (c1_1 : Nat) (l1_1 : List Int) (r1 : Bool) (r2 : List Int) (r3 : Int) (w : World) (hr0_1 : Kd.C (Kd.int .u64) w A0_1 l0_1.length l0_1) (hc0_1 : l0_1.length ≤ c0_1) (hr1_1 : Kd.C (Kd.int .u64) w A1_1 l1_1.length l1_1) (hc1_1 : l1_1.length ≤ c1_1) (h : windbreakref03_Mul.f k a0_0 l0_1 a1_0 l1_1 = some (r1, r2, r3)) :
  Calls Try.prog 63 #[.agg #[.bool a0_0, .slice A0_1 l0_1.length c0_1], .agg #[.bool a1_0, .slice A1_1 l1_1.length c1_1]] w fun e w' => ∃ v1_ : Value, e = .returned (.tuple #[.agg #[.bool r1, v1_], .int .i64 r3]) ∧ Kd.R (Kd.int .u64) 27 w' w.heap.size (fun _ => True) v1_ r2 ∧ Below w.heap.size w w' := by
 have hu52 := Try.underlying52
 have HR0_1 := Aside0.mk hr0_1; have HC0_1 := Aside0.mk hc0_1; clear hr0_1 hc0_1; have HR1_1 := Aside0.mk hr1_1; have HC1_1 := Aside0.mk hc1_1; clear hr1_1 hc1_1
 have HB := Aside0.mk (Below.refl w.heap.size w)
 have H : ((windbreakref03_Right.f a0_0 l0_1).bind fun t827 => ((windbreakref03_Right.f a1_0 l1_1).bind fun t828 => (if t827 = true then (windbreakref03_Mul.j0 k (!t828) a0_0 l0_1 a1_0 l1_1) else (windbreakref03_Mul.j0 k true a0_0 l0_1 a1_0 l1_1)))) = some (r1, r2, r3) := h
 clear h
 replace H := ub H; obtain ⟨t827, A3, H⟩ := H
 replace H := ub H; obtain ⟨t828, A4, H⟩ := H
 have HC5 := Aside0.mk H; clear H
 go_enter Try.func63, Try.ntmps63
 go_upto_region 3 with (first | ((with_reducible refine gate_dst (N := 2) rfl ?_); refine box_event ?hg (N := 2) ?hd (cs := #[.bool a0_0, .slice A0_1 l0_1.length c0_1]) (t := 52) ?hr ?_; (case hd => rfl); (case hg => rfl); (case hr => first | (go_simp; done) | (go_simp; rfl)); intro gb824 hg w6 hbox hb; have BK824 := Aside0.mk (hbox); have GW824 := us hg; have GE824 := us hg; replace HB := uy hb; clear hb hbox hg) | ((with_reducible refine gate_dst (N := 3) rfl ?_); refine box_event ?hg (N := 3) ?hd (cs := #[.bool a1_0, .slice A1_1 l1_1.length c1_1]) (t := 52) ?hr ?_; (case hd => rfl); (case hg => rfl); (case hr => first | (go_simp; done) | (go_simp; rfl)); intro gb825 hg w7 hbox hb; have BK825 := Aside0.mk (hbox); have GW825 := us hg; have GE825 := us hg; replace HB := uy hb; have NB824_825 := Aside0.mk ((by rw [hg]; exact Nat.ne_of_lt (blk_lt (uK BK824.out)) : gb824 ≠ gb825)); have NB825_824 := Aside0.mk ((by rw [hg]; exact Nat.ne_of_gt (blk_lt (uK BK824.out)) : gb825 ≠ gb824)); replace BK824 := ux BK824 hb; clear hb hbox hg) | ((with_reducible refine gate_dst (N := 4) rfl ?_); refine box_event ?hg (N := 4) ?hd (cs := #[.bool false, .slice none 0 0]) (t := 52) ?hr ?_; (case hd => rfl); (case hg => rfl); (case hr => first | (go_simp; done) | (go_simp; rfl)); intro gb826 hg w8 hbox hb; have BK826 := Aside0.mk (hbox); have GW826 := us hg; have GE826 := us hg; replace HB := uy hb; have NB824_826 := Aside0.mk ((by rw [hg]; exact Nat.ne_of_lt (blk_lt (uK BK824.out)) : gb824 ≠ gb826)); have NB826_824 := Aside0.mk ((by rw [hg]; exact Nat.ne_of_gt (blk_lt (uK BK824.out)) : gb826 ≠ gb824)); replace BK824 := ux BK824 hb; have NB825_826 := Aside0.mk ((by rw [hg]; exact Nat.ne_of_lt (blk_lt (uK BK825.out)) : gb825 ≠ gb826)); have NB826_825 := Aside0.mk ((by rw [hg]; exact Nat.ne_of_gt (blk_lt (uK BK825.out)) : gb826 ≠ gb825)); replace BK825 := ux BK825 hb; clear hb hbox hg; have hnb9 := NB824_825.out; have hnc9 := NB825_824.out; have hnb10 := NB824_826.out; have hnc10 := NB826_824.out; have hcz11_0 : w8.cell? ⟨gb824, 0, none⟩ = some (.bool a0_0) := (blk_cell BK824.out 0).trans rfl; have hcz11_1 : w8.cell? ⟨gb824, 1, none⟩ = some (.slice A0_1 l0_1.length c0_1) := (blk_cell BK824.out 1).trans rfl; have hfz11_0 := blk_frozen BK824.out 0; have hfz11_1 := blk_frozen BK824.out 1) | ((with_reducible refine gate_callee (f := 103) rfl ?_); refine goesL_ (some 11) rfl rfl Try.func103 (by kernel_rfl) rfl #[.agg #[.bool a0_0, .slice A0_1 l0_1.length c0_1]] rfl uM ?_; (with_reducible refine (windbreakref03_Right.calls a0_0 _ _ l0_1 t827 _ ?side1 ?side2 A3.out).mono ?_); (case side1 => exact uC (Kd.C_below HR0_1.out HB.out)); (case side2 => exact HC0_1.out); rintro e w12 ⟨rfl, hb⟩; refine ⟨_, rfl, ?_⟩; replace BK824 := ux BK824 hb; replace BK825 := ux BK825 hb; replace BK826 := ux BK826 hb; replace HB := uy hb; (try clear hb); have hnb13 := NB825_826.out; have hnc13 := NB826_825.out; have hcz14_0 : w12.cell? ⟨gb825, 0, none⟩ = some (.bool a1_0) := (blk_cell BK825.out 0).trans rfl; have hcz14_1 : w12.cell? ⟨gb825, 1, none⟩ = some (.slice A1_1 l1_1.length c1_1) := (blk_cell BK825.out 1).trans rfl; have hfz14_0 := blk_frozen BK825.out 0; have hfz14_1 := blk_frozen BK825.out 1) | ((with_reducible refine gate_callee (f := 103) rfl ?_); refine goesL_ (some 13) rfl rfl Try.func103 (by kernel_rfl) rfl #[.agg #[.bool a1_0, .slice A1_1 l1_1.length c1_1]] rfl uM ?_; (with_reducible refine (windbreakref03_Right.calls a1_0 _ _ l1_1 t828 _ ?side1 ?side2 A4.out).mono ?_); (case side1 => exact uC (Kd.C_below HR1_1.out HB.out)); (case side2 => exact HC1_1.out); rintro e w15 ⟨rfl, hb⟩; refine ⟨_, rfl, ?_⟩; replace BK824 := ux BK824 hb; replace BK825 := ux BK825 hb; replace BK826 := ux BK826 hb; replace HB := uy hb; (try clear hb)))
 (try simp only [Act.put, List.setIfInBounds_toArray, List.set_cons_zero, List.set_cons_succ])
 go_cut [19] (fun v19 wc => ∃ (kq : Nat) (x19_4 : Bool), v19 = .bool x19_4 ∧ Aside0 (windbreakref03_Mul.j0 kq x19_4 a0_0 l0_1 a1_0 l1_1 = some (r1, r2, r3)) ∧ Aside0 (kq ≤ k) ∧ Aside0 (wc.heap[gb824]? = some (.cells #[.bool a0_0, (.slice A0_1 l0_1.length c0_1)] 52 (0, 0))) ∧ Aside0 (wc.heap[gb825]? = some (.cells #[.bool a1_0, (.slice A1_1 l1_1.length c1_1)] 52 (0, 0))) ∧ Aside0 (wc.heap[gb826]? = some (.cells #[.bool false, (.slice none 0 0)] 52 (0, 0))) ∧ Aside0 (Below w.heap.size w wc))
 case first =>
  have H := HC5.out
  clear HC5
  by_cases c16 : t827 = true
  ·
   subst c16
   have H1 : (windbreakref03_Mul.j0 k (!t828) a0_0 l0_1 a1_0 l1_1) = some (r1, r2, r3) := by rw [if_pos rfl] at H; exact H
   clear H; have H := H1; clear H1
   have H' := Aside0.mk H
   clear H
   go_wp2
   go_meet
   case rel => exact ⟨_, (!t828), uG, H', ⟨uW⟩, ⟨uK BK824.out⟩, ⟨uK BK825.out⟩, ⟨uK BK826.out⟩, ⟨uB⟩⟩
  replace c16 := Bool.eq_false_iff.mpr c16
  subst c16
  have H1 : (windbreakref03_Mul.j0 k true a0_0 l0_1 a1_0 l1_1) = some (r1, r2, r3) := by rw [if_neg (show ¬ (false = true) by decide)] at H; exact H
  clear H; have H := H1; clear H1
  have H' := Aside0.mk H
  clear H
  go_wp2
  go_meet
  case rel => exact ⟨_, (true), uG, H', ⟨uW⟩, ⟨uK BK824.out⟩, ⟨uK BK825.out⟩, ⟨uK BK826.out⟩, ⟨uB⟩⟩
 case rest =>
  clear HC5; (try clear c1); (try clear p2); (try clear c6); (try clear c9); (try clear c10); (try clear c13); (try clear c16); (try clear hcz11_0 hcz11_1); (try clear hcz14_0 hcz14_1); (try clear hfz11_0 hfz11_1); (try clear hfz14_0 hfz14_1)
  obtain ⟨kq, x19_4, rfl, HA, HJ4, BK824, BK825, BK826, HB⟩ := hcut
  cases kq with
  | zero => exact absurd HA.out (by simp [windbreakref03_Mul.j0])
  | succ kj4 =>
   have H := HA.out
   clear HA
   simp only [windbreakref03_Mul.j0] at H
   by_cases c17 : x19_4 = true
   ·
    subst c17
    have H1 : (some (false, ([] : List Int), 1)) = some (r1, r2, r3) := by rw [if_pos rfl] at H; exact H
    clear H; have H := H1; clear H1
    simp only [Option.some.injEq, Prod.mk.injEq] at H
    obtain ⟨rfl, rfl, rfl⟩ := H
    have hnb18 := NB826_824.out
    have hnc18 := NB824_826.out
    have hnb19 := NB826_825.out
    have hnc19 := NB825_826.out
    have hcz20_0 : wc.cell? ⟨gb826, 0, none⟩ = some (.bool false) := (blk_cell BK826.out 0).trans rfl; have hcz20_1 : wc.cell? ⟨gb826, 1, none⟩ = some (.slice none 0 0) := (blk_cell BK826.out 1).trans rfl; have hfz20_0 := blk_frozen BK826.out 0; have hfz20_1 := blk_frozen BK826.out 1
    go_wp2
    refine bodyPost_ret (results_ct rfl _ _ gb826 52 #[.bool false, .slice none 0 0] (0, 0) _ rfl (by (with_reducible repeat (first | refine blk_drewN ?_ _ | refine blk_drew ?_ | refine blk_alloc ?_ _)); refine blk_put (cs := #[.bool false, .slice none 0 0]) ?_ 1 _ rfl; (with_reducible repeat (first | refine blk_drewN ?_ _ | refine blk_drew ?_ | refine blk_alloc ?_ _)); refine blk_put (cs := #[.bool false, .slice none 0 0]) ?_ 0 _ rfl; (with_reducible repeat (first | refine blk_drewN ?_ _ | refine blk_drew ?_ | refine blk_alloc ?_ _)); exact BK826.out) Try.underlying52 rfl (by kernel_rfl)) rfl ?_
    exact ⟨_, uF, uI, uB⟩
   replace c17 := Bool.eq_false_iff.mpr c17
   subst c17
   have H1 : ((windbreakref01_Mul.f kj4 l0_1 l1_1).bind fun bt829 => ((windbreakref03_From.f (a0_0 != a1_0) bt829.1).bind fun bt833 => (some (bt833.1, bt833.2, bt829.2)))) = some (r1, r2, r3) := by rw [if_neg (show ¬ (false = true) by decide)] at H; exact H
   clear H; have H := H1; clear H1
   replace H := ub H; obtain ⟨⟨t829, t830⟩, A21, H⟩ := H
   (try dsimp only at H)
   replace H := ub H; obtain ⟨⟨t833, t834⟩, A22, H⟩ := H
   (try dsimp only at H)
   simp only [Option.some.injEq, Prod.mk.injEq] at H
   obtain ⟨rfl, rfl, rfl⟩ := H
   have hnb23 := NB824_825.out
   have hnc23 := NB825_824.out
   have hnb24 := NB824_826.out
   have hnc24 := NB826_824.out
   have hcz25_0 : wc.cell? ⟨gb824, 0, none⟩ = some (.bool a0_0) := (blk_cell BK824.out 0).trans rfl; have hcz25_1 : wc.cell? ⟨gb824, 1, none⟩ = some (.slice A0_1 l0_1.length c0_1) := (blk_cell BK824.out 1).trans rfl; have hfz25_0 := blk_frozen BK824.out 0; have hfz25_1 := blk_frozen BK824.out 1
   have hnb26 := NB825_826.out
   have hnc26 := NB826_825.out
   have hcz27_0 : wc.cell? ⟨gb825, 0, none⟩ = some (.bool a1_0) := (blk_cell BK825.out 0).trans rfl; have hcz27_1 : wc.cell? ⟨gb825, 1, none⟩ = some (.slice A1_1 l1_1.length c1_1) := (blk_cell BK825.out 1).trans rfl; have hfz27_0 := blk_frozen BK825.out 0; have hfz27_1 := blk_frozen BK825.out 1
   go_wp2_with (first | ((with_reducible refine gate_callee (f := 46) rfl ?_); refine goesL_ (some 26) rfl rfl Try.func46 (by kernel_rfl) rfl #[.slice A0_1 l0_1.length c0_1, .slice A1_1 l1_1.length c1_1] rfl uM ?_; (with_reducible refine (windbreakref01_Mul.calls kj4 _ _ l0_1 _ _ l1_1 t829 t830 _ ?side1 ?side2 ?side3 ?side4 A21.out).mono ?_); (case side1 => exact uC (Kd.C_below HR0_1.out HB.out)); (case side2 => exact HC0_1.out); (case side3 => exact uC (Kd.C_below HR1_1.out HB.out)); (case side4 => exact HC1_1.out); rintro e w28 ⟨v831, rfl, ho0, hb⟩; refine ⟨_, rfl, ?_⟩; have HO832 := Aside0.mk (Kd.R_lower ho0 (below_size uB)); replace BK824 := ux BK824 hb; replace BK825 := ux BK825 hb; replace BK826 := ux BK826 hb; replace HB := uy hb; (try clear hb ho0); have hcz29_0 : w28.cell? ⟨gb824, 0, none⟩ = some (.bool a0_0) := (blk_cell BK824.out 0).trans rfl; have hcz29_1 : w28.cell? ⟨gb824, 1, none⟩ = some (.slice A0_1 l0_1.length c0_1) := (blk_cell BK824.out 1).trans rfl; have hfz29_0 := blk_frozen BK824.out 0; have hfz29_1 := blk_frozen BK824.out 1; have hcz30_0 : w28.cell? ⟨gb825, 0, none⟩ = some (.bool a1_0) := (blk_cell BK825.out 0).trans rfl; have hcz30_1 : w28.cell? ⟨gb825, 1, none⟩ = some (.slice A1_1 l1_1.length c1_1) := (blk_cell BK825.out 1).trans rfl; have hfz30_0 := blk_frozen BK825.out 0; have hfz30_1 := blk_frozen BK825.out 1; obtain ⟨Ao31, co31, eo31⟩ := Kd.R_slice HO832.out; subst eo31) | ((with_reducible refine gate_callee (f := 104) rfl ?_); refine goesL_ (some 35) rfl rfl Try.func104 (by kernel_rfl) rfl #[.bool (a0_0 != a1_0), .slice Ao31 t829.length co31] rfl uM ?_; (with_reducible refine (windbreakref03_From.calls (a0_0 != a1_0) _ _ t829 t833 t834 _ ?side1 ?side2 A22.out).mono ?_); (case side1 => exact uC (Kd.R_reads' HO832.out).2.2); (case side2 => exact (Kd.R_reads' HO832.out).2.1); rintro e w32 ⟨v835, rfl, ho0, hb⟩; refine ⟨_, rfl, ?_⟩; have HO836 := Aside0.mk (Kd.R_lower (Kd.R_new' ho0 (Kd.R_lt (uR HO832.out))) (below_size uB)); replace HO832 := ueR HO832 ho0 hb; replace BK824 := ux BK824 hb; replace BK825 := ux BK825 hb; replace BK826 := ux BK826 hb; replace HB := uy hb; (try clear hb ho0); have hcz33_0 : w32.cell? ⟨gb826, 0, none⟩ = some (.bool false) := (blk_cell BK826.out 0).trans rfl; have hcz33_1 : w32.cell? ⟨gb826, 1, none⟩ = some (.slice none 0 0) := (blk_cell BK826.out 1).trans rfl; have hfz33_0 := blk_frozen BK826.out 0; have hfz33_1 := blk_frozen BK826.out 1; obtain ⟨Ao34, co34, eo34⟩ := Kd.R_slice HO836.out; subst eo34))
   refine bodyPost_ret (results_ct rfl _ _ gb826 52 #[.bool t833, .slice Ao34 t834.length co34] (0, 0) _ rfl (by (with_reducible repeat (first | refine blk_drewN ?_ _ | refine blk_drew ?_ | refine blk_alloc ?_ _)); refine blk_put (cs := #[.bool t833, .slice none 0 0]) ?_ 1 _ rfl; (with_reducible repeat (first | refine blk_drewN ?_ _ | refine blk_drew ?_ | refine blk_alloc ?_ _)); refine blk_put (cs := #[.bool false, .slice none 0 0]) ?_ 0 _ rfl; (with_reducible repeat (first | refine blk_drewN ?_ _ | refine blk_drew ?_ | refine blk_alloc ?_ _)); exact BK826.out) Try.underlying52 rfl (by kernel_rfl)) rfl ?_
   exact ⟨_, uF, by (with_reducible repeat (first | apply Kd.R_alloc | apply Kd.R_drewN | apply Kd.R_drew)); exact Kd.R_mono (Kd.R_far (p := ⟨gb826, 1, none⟩) (Kd.R_far (p := ⟨gb826, 0, none⟩) (Kd.R_types HO836.out BK826.out (by decide)) (fun _ hk => hk.2) (.bool t833)) (fun _ hk => hk.2) (.slice Ao34 t834.length co34)) (fun _ hk => trivial), uB⟩
end Go.Proofs.Ytgeanpnkllnipab.F
end
section
namespace Go.Proofs.Ytgeanpnkllnipab.F
open Go.RowKit Go.Proofs.YtgeanpnkllnipabW.PrintWords Go.Proofs.YtgeanpnkllnipabW.PrintLast Go.Proofs.YtgeanpnkllnipabW.PrintMore
attribute [local go_sem] max2_int min2_int max_two min_two max_three min_three max_four min_four
set_option linter.unusedVariables false
set_option linter.unusedSimpArgs false
mutual
def windbreakref01_add.l0 : Nat → List Int → List Int → List Int → Int → Int → Option (List Int)
 | 0, _, _, _, _, _ => none
 | k + 1, x0, x1, x5, x6, x7 => if x7 < (x0.length : Int) then (windbreakref01_add.j1 k x0 x1 x5 x6 x7 true) else (windbreakref01_add.j1 k x0 x1 x5 x6 x7 (decide (x7 < (x1.length : Int))))
def windbreakref01_add.j1 : Nat → List Int → List Int → List Int → Int → Int → Bool → Option (List Int)
 | 0, _, _, _, _, _, _ => none
 | k + 1, x0, x1, x5, x6, x7, x18 => if x18 = true then ((windbreakref01_digit.f x0 x7).bind fun t354 => ((windbreakref01_digit.f x1 x7).bind fun t355 => (if x5.length < 17592186044416 then (windbreakref01_add.l0 k x0 x1 (x5 ++ [Int.tmod (IntKind.u64.wrap ((IntKind.u64.wrap (t354 + t355)) + x6)) 65536]) (IntKind.u64.wrap (Int.tdiv (IntKind.u64.wrap ((IntKind.u64.wrap (t354 + t355)) + x6)) 65536)) (wrap64 (x7 + 1))) else (none)))) else (if x5.length < 17592186044416 then ((windbreakref01_cut.f k (x5 ++ [x6])).bind fun t362 => (some t362)) else (none))
end
def windbreakref01_add.f (k : Nat) (l0 : List Int) (l1 : List Int) : Option (List Int) := windbreakref01_add.l0 k l0 l1 ([] : List Int) 0 0
set_option maxHeartbeats 8000000 in
set_option maxRecDepth 100000 in
theorem windbreakref01_add.calls (k : Nat) (A0 : Option Addr) (c0 : Nat) (l0 : List Int) (A1 : Option Addr) (c1 : Nat) (l1 : List Int) (r : List Int) (w : World) (hr0 : Kd.C (Kd.int .u64) w A0 l0.length l0) (hc0 : l0.length ≤ c0) (hr1 : Kd.C (Kd.int .u64) w A1 l1.length l1) (hc1 : l1.length ≤ c1) (h : windbreakref01_add.f k l0 l1 = some r) :
  Calls Try.prog 53 #[.slice A0 l0.length c0, .slice A1 l1.length c1] w fun e w' => ∃ v0_ : Value, e = .returned (v0_) ∧ Kd.R (Kd.int .u64) 27 w' w.heap.size (fun _ => True) v0_ r ∧ Below w.heap.size w w' := by
 have HR0 := Aside0.mk hr0; have HC0 := Aside0.mk hc0; clear hr0 hc0; have HR1 := Aside0.mk hr1; have HC1 := Aside0.mk hc1; clear hr1 hc1
 have HB := Aside0.mk (Below.refl w.heap.size w)
 have H : (windbreakref01_add.l0 k l0 l1 ([] : List Int) 0 0) = some r := h
 clear h
 have H' := Aside0.mk H
 clear H
 go_enter Try.func53, Try.ntmps53
 go_wp2
 go_loopg [5, 6, 7] k (fun kq v5 v6 v7 w' => ∃ (x5_1 : List Int) (x6_1 : Int) (x7_1 : Int), v6 = .int .u64 x6_1 ∧ v7 = .int .i64 x7_1 ∧ Aside0 (windbreakref01_add.l0 kq l0 l1 x5_1 x6_1 x7_1 = some r) ∧ Aside0 (kq ≤ k) ∧ Aside0 (Kd.R (Kd.int .u64) 27 w' w.heap.size (fun _ => True) v5 x5_1) ∧ Aside0 (Below w.heap.size w w'))
 case atStart => exact ⟨(([] : List Int)), (0), (0), uG, uG, H', ⟨Nat.le_refl _⟩, ⟨uI⟩, ⟨uB⟩⟩
 case round =>
  clear H'
  (try clear c1); (try clear p2)
  obtain ⟨x5_1, x6_1, x7_1, rfl, rfl, HA, HK1, HO_5, HB⟩ := hrel
  cases gk with
  | zero => exact absurd HA.out (by simp [windbreakref01_add.l0])
  | succ k1 =>
   have H := HA.out
   clear HA
   simp only [windbreakref01_add.l0] at H
   have HC3 := Aside0.mk H; clear H
   go_upto_region 4 with (fail)
   go_cut [18] (fun v18 wc => ∃ (kq : Nat) (x18_2 : Bool), v18 = .bool x18_2 ∧ Aside0 (windbreakref01_add.j1 kq l0 l1 x5_1 x6_1 x7_1 x18_2 = some r) ∧ Aside0 (kq ≤ k1) ∧ Aside0 (Kd.R (Kd.int .u64) 27 wc w.heap.size (fun _ => True) u5 x5_1) ∧ Aside0 (Below w.heap.size w wc))
   case first =>
    have H := HC3.out
    clear HC3
    by_cases c4 : x7_1 < (l0.length : Int)
    ·
     rw [if_pos c4] at H
     have c4b0 : decide (x7_1 < (l0.length : Int)) = true := decide_eq_true c4
     clear c4
     (first | rw [c4b0] | (simp only [i64_w, i32_w]; rw [c4b0]) | skip)
     have H' := Aside0.mk H
     clear H
     go_wp2
     go_meet
     case rel => exact ⟨_, (true), uG, H', ⟨by have := HK1.out; first | omega | exact Nat.le_refl _⟩, ⟨uR HO_5.out⟩, ⟨uB⟩⟩
    rw [if_neg c4] at H
    have c4b0 : decide (x7_1 < (l0.length : Int)) = false := decide_eq_false c4
    clear c4
    (first | rw [c4b0] | (simp only [i64_w, i32_w]; rw [c4b0]) | skip)
    have H' := Aside0.mk H
    clear H
    go_wp2
    go_meet
    case rel => exact ⟨_, (decide (x7_1 < (l1.length : Int))), uG, H', ⟨by have := HK1.out; first | omega | exact Nat.le_refl _⟩, ⟨uR HO_5.out⟩, ⟨uB⟩⟩
   case rest =>
    clear HC3; (try clear c1); (try clear p2); (try clear c4); (try clear c4b0); (try clear p2)
    obtain ⟨kq, x18_2, rfl, HA, HJ2, HO_5, HB⟩ := hcut
    cases kq with
    | zero => exact absurd HA.out (by simp [windbreakref01_add.j1])
    | succ kj2 =>
     have H := HA.out
     clear HA
     simp only [windbreakref01_add.j1] at H
     by_cases c5 : x18_2 = true
     ·
      subst c5
      have H1 : ((windbreakref01_digit.f l0 x7_1).bind fun t354 => ((windbreakref01_digit.f l1 x7_1).bind fun t355 => (if x5_1.length < 17592186044416 then (windbreakref01_add.l0 kj2 l0 l1 (x5_1 ++ [Int.tmod (IntKind.u64.wrap ((IntKind.u64.wrap (t354 + t355)) + x6_1)) 65536]) (IntKind.u64.wrap (Int.tdiv (IntKind.u64.wrap ((IntKind.u64.wrap (t354 + t355)) + x6_1)) 65536)) (wrap64 (x7_1 + 1))) else (none)))) = some r := by rw [if_pos rfl] at H; exact H
      clear H; have H := H1; clear H1
      replace H := ub H; obtain ⟨t354, A6, H⟩ := H
      replace H := ub H; obtain ⟨t355, A7, H⟩ := H
      replace H := uT H; obtain ⟨c8, H⟩ := H
      have LMc8 := Aside0.mk c8; clear c8
      obtain ⟨y356, hy356⟩ : ∃ y_ : List Int, y_ = (x5_1 ++ [Int.tmod (IntKind.u64.wrap ((IntKind.u64.wrap (t354 + t355)) + x6_1)) 65536]) := ⟨_, rfl⟩
      replace H : (windbreakref01_add.l0 kj2 l0 l1 y356 (IntKind.u64.wrap (Int.tdiv (IntKind.u64.wrap ((IntKind.u64.wrap (t354 + t355)) + x6_1)) 65536)) (wrap64 (x7_1 + 1))) = some r := by first | (rw [hy356]; with_reducible exact H) | (have H2_ := (Option.bind_some _ _).symm.trans H; rw [hy356]; with_reducible exact H2_) | (have H2_ := (Option.bind_some _ _).symm.trans H; with_reducible exact H2_) | with_reducible exact H | (rw [hy356]; exact H) | exact H
      have Ny356 := Aside0.mk hy356; clear hy356
      have H' := Aside0.mk H
      clear H
      go_wp2_with (first | ((with_reducible refine gate_callee (f := 98) rfl ?_); refine goesL_ (some 23) rfl rfl Try.func98 (by kernel_rfl) rfl #[.slice A0 l0.length c0, .int .i64 x7_1] rfl uM ?_; (with_reducible refine (windbreakref01_digit.calls _ _ l0 x7_1 t354 _ ?side1 ?side2 A6.out).mono ?_); (case side1 => exact uC (Kd.C_below HR0.out HB.out)); (case side2 => exact HC0.out); rintro e w' ⟨rfl, ⟨nd, rfl⟩⟩; refine ⟨_, rfl, ?_⟩) | ((with_reducible refine gate_callee (f := 98) rfl ?_); refine goesL_ (some 26) rfl rfl Try.func98 (by kernel_rfl) rfl #[.slice A1 l1.length c1, .int .i64 x7_1] rfl uM ?_; (with_reducible refine (windbreakref01_digit.calls _ _ l1 x7_1 t355 _ ?side1 ?side2 A7.out).mono ?_); (case side1 => exact uC (Kd.C_below HR1.out uB)); (case side2 => exact HC1.out); rintro e w' ⟨rfl, ⟨nd, rfl⟩⟩; refine ⟨_, rfl, ?_⟩) | ((with_reducible refine gate_builtin (b := .append) (xs := #[.tmp 30, .tmp 33]) rfl ?_); (try (refine gate_guard (by rfl) ?_; dsimp only)); at_builtin; refine Kd.R_append (Kd.int .u64) (w0 := w) w.heap.size rfl (.tmp 30) (.tmp 33) 70 27 (.int .u64 0) 8 rfl Try.underlying70 info27 rfl (by decide) (by omega) u5 x5_1 (Int.tmod (IntKind.u64.wrap ((IntKind.u64.wrap (t354 + t355)) + x6_1)) 65536) [.int .u64 (Int.tmod (IntKind.u64.wrap ((IntKind.u64.wrap (t354 + t355)) + x6_1)) 65536)] (fun _ => True) (fun _ => False) rfl rfl ?aP (fun _ hk => hk.elim) ?aF ?aO ?aB ?aS ?aL ?_; (case aP => exact rfl); (case aB => exact uB); (case aF => exact (fun _ _ => trivial)); (case aO => exact (uR HO_5.out)); (case aS => exact (below_size uB)); (case aL => have := LMc8.out; omega); intro v357 w9 ho hb hg hat; rw [← Ny356.out] at ho; replace HB := Aside0.mk (hb); have HO358 := Aside0.mk (ho); clear HO_5; clear ho hb hg hat))
      go_roundg kj2
      case measure => have := HK1.out; have := HJ2.out; omega
      case rel => exact ⟨(y356), (IntKind.u64.wrap (Int.tdiv (IntKind.u64.wrap ((IntKind.u64.wrap (t354 + t355)) + x6_1)) 65536)), (wrap64 (x7_1 + 1)), uG, uG, H', ⟨by have := HK1.out; have := HJ2.out; omega⟩, ⟨uR HO358.out⟩, ⟨uB⟩⟩
     replace c5 := Bool.eq_false_iff.mpr c5
     subst c5
     have H1 : (if x5_1.length < 17592186044416 then ((windbreakref01_cut.f kj2 (x5_1 ++ [x6_1])).bind fun t362 => (some t362)) else (none)) = some r := by rw [if_neg (show ¬ (false = true) by decide)] at H; exact H
     clear H; have H := H1; clear H1
     replace H := uT H; obtain ⟨c10, H⟩ := H
     have LMc10 := Aside0.mk c10; clear c10
     obtain ⟨y359, hy359⟩ : ∃ y_ : List Int, y_ = (x5_1 ++ [x6_1]) := ⟨_, rfl⟩
     replace H : ((windbreakref01_cut.f kj2 y359).bind fun t362 => (some t362)) = some r := by first | (rw [hy359]; with_reducible exact H) | (have H2_ := (Option.bind_some _ _).symm.trans H; rw [hy359]; with_reducible exact H2_) | (have H2_ := (Option.bind_some _ _).symm.trans H; with_reducible exact H2_) | with_reducible exact H | (rw [hy359]; exact H) | exact H
     have Ny359 := Aside0.mk hy359; clear hy359
     replace H := ub H; obtain ⟨t362, A11, H⟩ := H
     obtain rfl := Option.some.inj H
     go_wp2_with (first | ((with_reducible refine gate_builtin (b := .append) (xs := #[.tmp 37, .tmp 39]) rfl ?_); (try (refine gate_guard (by rfl) ?_; dsimp only)); at_builtin; refine Kd.R_append (Kd.int .u64) (w0 := w) w.heap.size rfl (.tmp 37) (.tmp 39) 70 27 (.int .u64 0) 8 rfl Try.underlying70 info27 rfl (by decide) (by omega) u5 x5_1 x6_1 [.int .u64 x6_1] (fun _ => True) (fun _ => False) rfl rfl ?aP (fun _ hk => hk.elim) ?aF ?aO ?aB ?aS ?aL ?_; (case aP => exact rfl); (case aB => exact uB); (case aF => exact (fun _ _ => trivial)); (case aO => exact (uR HO_5.out)); (case aS => exact (below_size uB)); (case aL => have := LMc10.out; omega); intro v360 w12 ho hb hg hat; rw [← Ny359.out] at ho; replace HB := Aside0.mk (hb); have HO361 := Aside0.mk (ho); clear HO_5; clear ho hb hg hat; obtain ⟨Ao13, co13, eo13⟩ := Kd.R_slice HO361.out; subst eo13) | ((with_reducible refine gate_callee (f := 99) rfl ?_); refine goesL_ (some 41) rfl rfl Try.func99 (by kernel_rfl) rfl #[.slice Ao13 y359.length co13] rfl uM ?_; (with_reducible refine (windbreakref01_cut.calls kj2 (fun k_ => some k_ = (.slice Ao13 y359.length co13 : Value).ownBlock) (.slice Ao13 y359.length co13) y359 t362 w _ ?side1 ?side2 A11.out).mono ?_); (case side1 => repeat (first | (with_reducible first | exact HB.out | apply below_alloc | apply pw_below_drewN | apply below_drew1) | exact HB.out)); (case side2 => exact Kd.R_tight rfl HO361.out); rintro e w14 ⟨v363, rfl, ho0, hb, hkp⟩; refine ⟨_, rfl, ?_⟩; have HO364 := Aside0.mk (Kd.R_mono (ok' := fun k_ => True) ho0 (fun k_ hk_ => trivial)); replace HB := Aside0.mk (hb); clear HO361; (try clear hb); (try clear hkp); (try clear ho0)))
     go_ret
     exact ⟨_, uF, uR HO364.out, uB⟩
end Go.Proofs.Ytgeanpnkllnipab.F
end
section
namespace Go.Proofs.Ytgeanpnkllnipab.F
open Go.RowKit Go.Proofs.YtgeanpnkllnipabW.PrintWords Go.Proofs.YtgeanpnkllnipabW.PrintLast Go.Proofs.YtgeanpnkllnipabW.PrintMore
attribute [local go_sem] max2_int min2_int max_two min_two max_three min_three max_four min_four
set_option linter.unusedVariables false
set_option linter.unusedSimpArgs false
def windbreakref01_Add.j0 : Nat → List Int → List Int → Bool → Option (List Int × Int)
 | 0, _, _, _ => none
 | k + 1, x0, x1, x17 => if x17 = true then (some (([] : List Int), 1)) else ((windbreakref01_In.f k x0).bind fun t367 => ((windbreakref01_In.f k x1).bind fun t370 => ((windbreakref01_add.f k t367 t370).bind fun t373 => ((windbreakref01_told.f k t373).bind fun bt376 => (some (bt376.1, bt376.2))))))
def windbreakref01_Add.f (k : Nat) (l0 : List Int) (l1 : List Int) : Option (List Int × Int) := (windbreakref01_Right.f l0).bind fun t365 => ((windbreakref01_Right.f l1).bind fun t366 => (if t365 = true then (windbreakref01_Add.j0 k l0 l1 (!t366)) else (windbreakref01_Add.j0 k l0 l1 true)))
set_option maxHeartbeats 8000000 in
set_option maxRecDepth 100000 in
theorem windbreakref01_Add.calls (k : Nat) (A0 : Option Addr) (c0 : Nat) (l0 : List Int) (A1 : Option Addr) (c1 : Nat) (l1 : List Int) (r1 : List Int) (r2 : Int) (w : World) (hr0 : Kd.C (Kd.int .u64) w A0 l0.length l0) (hc0 : l0.length ≤ c0) (hr1 : Kd.C (Kd.int .u64) w A1 l1.length l1) (hc1 : l1.length ≤ c1) (h : windbreakref01_Add.f k l0 l1 = some (r1, r2)) :
  Calls Try.prog 26 #[.slice A0 l0.length c0, .slice A1 l1.length c1] w fun e w' => ∃ v0_ : Value, e = .returned (.tuple #[v0_, .int .i64 r2]) ∧ Kd.R (Kd.int .u64) 27 w' w.heap.size (fun _ => True) v0_ r1 ∧ Below w.heap.size w w' := by
 have HR0 := Aside0.mk hr0; have HC0 := Aside0.mk hc0; clear hr0 hc0; have HR1 := Aside0.mk hr1; have HC1 := Aside0.mk hc1; clear hr1 hc1
 have HB := Aside0.mk (Below.refl w.heap.size w)
 have H : ((windbreakref01_Right.f l0).bind fun t365 => ((windbreakref01_Right.f l1).bind fun t366 => (if t365 = true then (windbreakref01_Add.j0 k l0 l1 (!t366)) else (windbreakref01_Add.j0 k l0 l1 true)))) = some (r1, r2) := h
 clear h
 replace H := ub H; obtain ⟨t365, A3, H⟩ := H
 replace H := ub H; obtain ⟨t366, A4, H⟩ := H
 have HC5 := Aside0.mk H; clear H
 go_enter Try.func26, Try.ntmps26
 go_upto_region 3 with (first | ((with_reducible refine gate_callee (f := 50) rfl ?_); refine goesL_ (some 9) rfl rfl Try.func50 (by kernel_rfl) rfl #[.slice A0 l0.length c0] rfl uM ?_; (with_reducible refine (windbreakref01_Right.calls _ _ l0 t365 _ ?side1 ?side2 A3.out).mono ?_); (case side1 => exact uC HR0.out); (case side2 => exact HC0.out); rintro e w' ⟨rfl, ⟨nd, rfl⟩⟩; refine ⟨_, rfl, ?_⟩) | ((with_reducible refine gate_callee (f := 50) rfl ?_); refine goesL_ (some 11) rfl rfl Try.func50 (by kernel_rfl) rfl #[.slice A1 l1.length c1] rfl uM ?_; (with_reducible refine (windbreakref01_Right.calls _ _ l1 t366 _ ?side1 ?side2 A4.out).mono ?_); (case side1 => exact uC HR1.out); (case side2 => exact HC1.out); rintro e w' ⟨rfl, ⟨nd, rfl⟩⟩; refine ⟨_, rfl, ?_⟩))
 (try simp only [Act.put, List.setIfInBounds_toArray, List.set_cons_zero, List.set_cons_succ])
 go_cut [17] (fun v17 wc => ∃ (kq : Nat) (x17_4 : Bool), v17 = .bool x17_4 ∧ Aside0 (windbreakref01_Add.j0 kq l0 l1 x17_4 = some (r1, r2)) ∧ Aside0 (kq ≤ k) ∧ Aside0 (Below w.heap.size w wc))
 case first =>
  have H := HC5.out
  clear HC5
  by_cases c6 : t365 = true
  ·
   subst c6
   have H1 : (windbreakref01_Add.j0 k l0 l1 (!t366)) = some (r1, r2) := by rw [if_pos rfl] at H; exact H
   clear H; have H := H1; clear H1
   have H' := Aside0.mk H
   clear H
   go_wp2
   go_meet
   case rel => exact ⟨_, (!t366), uG, H', ⟨uW⟩, ⟨uB⟩⟩
  replace c6 := Bool.eq_false_iff.mpr c6
  subst c6
  have H1 : (windbreakref01_Add.j0 k l0 l1 true) = some (r1, r2) := by rw [if_neg (show ¬ (false = true) by decide)] at H; exact H
  clear H; have H := H1; clear H1
  have H' := Aside0.mk H
  clear H
  go_wp2
  go_meet
  case rel => exact ⟨_, (true), uG, H', ⟨uW⟩, ⟨uB⟩⟩
 case rest =>
  clear HC5; (try clear c1); (try clear c2); (try clear p2); (try clear c5); (try clear c6)
  obtain ⟨kq, x17_4, rfl, HA, HJ4, HB⟩ := hcut
  cases kq with
  | zero => exact absurd HA.out (by simp [windbreakref01_Add.j0])
  | succ kj4 =>
   have H := HA.out
   clear HA
   simp only [windbreakref01_Add.j0] at H
   by_cases c7 : x17_4 = true
   ·
    subst c7
    have H1 : (some (([] : List Int), 1)) = some (r1, r2) := by rw [if_pos rfl] at H; exact H
    clear H; have H := H1; clear H1
    simp only [Option.some.injEq, Prod.mk.injEq] at H
    obtain ⟨rfl, rfl⟩ := H
    go_wp2
    go_ret2
    exact ⟨_, uF, uI, uB⟩
   replace c7 := Bool.eq_false_iff.mpr c7
   subst c7
   have H1 : ((windbreakref01_In.f kj4 l0).bind fun t367 => ((windbreakref01_In.f kj4 l1).bind fun t370 => ((windbreakref01_add.f kj4 t367 t370).bind fun t373 => ((windbreakref01_told.f kj4 t373).bind fun bt376 => (some (bt376.1, bt376.2)))))) = some (r1, r2) := by rw [if_neg (show ¬ (false = true) by decide)] at H; exact H
   clear H; have H := H1; clear H1
   replace H := ub H; obtain ⟨t367, A8, H⟩ := H
   replace H := ub H; obtain ⟨t370, A9, H⟩ := H
   replace H := ub H; obtain ⟨t373, A10, H⟩ := H
   replace H := ub H; obtain ⟨⟨t376, t377⟩, A11, H⟩ := H
   (try dsimp only at H)
   simp only [Option.some.injEq, Prod.mk.injEq] at H
   obtain ⟨rfl, rfl⟩ := H
   go_wp2_with (first | ((with_reducible refine gate_callee (f := 54) rfl ?_); refine goesL_ (some 19) rfl rfl Try.func54 (by kernel_rfl) rfl #[.slice A0 l0.length c0] rfl uM ?_; (with_reducible refine (windbreakref01_In.calls kj4 _ _ l0 t367 _ ?side1 ?side2 A8.out).mono ?_); (case side1 => exact uC (Kd.C_below HR0.out HB.out)); (case side2 => exact HC0.out); rintro e w12 ⟨v368, rfl, ho0, hb⟩; refine ⟨_, rfl, ?_⟩; have HO369 := Aside0.mk (Kd.R_lower ho0 (below_size uB)); replace HB := uy hb; (try clear hb ho0)) | ((with_reducible refine gate_callee (f := 54) rfl ?_); refine goesL_ (some 21) rfl rfl Try.func54 (by kernel_rfl) rfl #[.slice A1 l1.length c1] rfl uM ?_; (with_reducible refine (windbreakref01_In.calls kj4 _ _ l1 t370 _ ?side1 ?side2 A9.out).mono ?_); (case side1 => exact uC (Kd.C_below HR1.out HB.out)); (case side2 => exact HC1.out); rintro e w13 ⟨v371, rfl, ho0, hb⟩; refine ⟨_, rfl, ?_⟩; have HO372 := Aside0.mk (Kd.R_lower (Kd.R_new' ho0 (Kd.R_lt (uR HO369.out))) (below_size uB)); replace HO369 := ueR HO369 ho0 hb; replace HB := uy hb; (try clear hb ho0); obtain ⟨Ao14, co14, eo14⟩ := Kd.R_slice HO369.out; subst eo14; obtain ⟨Ao15, co15, eo15⟩ := Kd.R_slice HO372.out; subst eo15) | ((with_reducible refine gate_callee (f := 53) rfl ?_); refine goesL_ (some 22) rfl rfl Try.func53 (by kernel_rfl) rfl #[.slice Ao14 t367.length co14, .slice Ao15 t370.length co15] rfl uM ?_; (with_reducible refine (windbreakref01_add.calls kj4 _ _ t367 _ _ t370 t373 _ ?side1 ?side2 ?side3 ?side4 A10.out).mono ?_); (case side1 => exact uC (Kd.R_reads' HO369.out).2.2); (case side2 => exact (Kd.R_reads' HO369.out).2.1); (case side3 => exact uC (Kd.R_reads' HO372.out).2.2); (case side4 => exact (Kd.R_reads' HO372.out).2.1); rintro e w16 ⟨v374, rfl, ho0, hb⟩; refine ⟨_, rfl, ?_⟩; have HO375 := Aside0.mk (Kd.R_lower (Kd.R_new' (Kd.R_new' ho0 (Kd.R_lt (uR HO369.out))) (Kd.R_lt (uR HO372.out))) (below_size uB)); replace HO369 := ueR HO369 ho0 hb; replace HO372 := ueR HO372 ho0 hb; replace HB := uy hb; (try clear hb ho0); obtain ⟨Ao17, co17, eo17⟩ := Kd.R_slice HO375.out; subst eo17) | ((with_reducible refine gate_callee (f := 52) rfl ?_); refine goesL_ (some 23) rfl rfl Try.func52 (by kernel_rfl) rfl #[.slice Ao17 t373.length co17] rfl uM ?_; (with_reducible refine (windbreakref01_told.calls kj4 _ _ t373 t376 t377 _ ?side1 ?side2 A11.out).mono ?_); (case side1 => exact uC (Kd.R_reads' HO375.out).2.2); (case side2 => exact (Kd.R_reads' HO375.out).2.1); rintro e w18 ⟨v378, rfl, ho0, hb⟩; refine ⟨_, rfl, ?_⟩; have HO379 := Aside0.mk (Kd.R_lower (Kd.R_new' (Kd.R_new' (Kd.R_new' ho0 (Kd.R_lt (uR HO369.out))) (Kd.R_lt (uR HO372.out))) (Kd.R_lt (uR HO375.out))) (below_size uB)); replace HO369 := ueR HO369 ho0 hb; replace HO372 := ueR HO372 ho0 hb; replace HO375 := ueR HO375 ho0 hb; replace HB := uy hb; (try clear hb ho0)))
   go_ret2
   exact ⟨_, uF, by (with_reducible repeat (first | apply Kd.R_alloc | apply Kd.R_drewN | apply Kd.R_drew)); exact Kd.R_mono HO379.out (fun _ hk => trivial), uB⟩
def windbreakref03_Add.j0 : Nat → Bool → Bool → List Int → Bool → List Int → Option (Bool × List Int × Int)
 | 0, _, _, _, _, _ => none
 | k + 1, x23, x854000, x854001, x855000, x855001 => if x23 = true then (some (false, ([] : List Int), 1)) else (if (x854000 == x855000) = true then ((windbreakref01_Add.f k x854001 x855001).bind fun bt858 => ((windbreakref03_From.f x854000 bt858.1).bind fun bt862 => (some (bt862.1, bt862.2, bt858.2)))) else ((windbreakref01_Cmp.f k x854001 x855001).bind fun t866 => (if t866 ≥ 0 then ((windbreakref01_Sub.f k x854001 x855001).bind fun bt867 => ((windbreakref03_From.f x854000 bt867.1).bind fun bt871 => (some (bt871.1, bt871.2, 0)))) else ((windbreakref01_Sub.f k x855001 x854001).bind fun bt875 => ((windbreakref03_From.f x855000 bt875.1).bind fun bt879 => (some (bt879.1, bt879.2, 0)))))))
def windbreakref03_Add.f (k : Nat) (a0_0 : Bool) (l0_1 : List Int) (a1_0 : Bool) (l1_1 : List Int) : Option (Bool × List Int × Int) := (windbreakref03_Right.f a0_0 l0_1).bind fun t856 => ((windbreakref03_Right.f a1_0 l1_1).bind fun t857 => (if t856 = true then (windbreakref03_Add.j0 k (!t857) a0_0 l0_1 a1_0 l1_1) else (windbreakref03_Add.j0 k true a0_0 l0_1 a1_0 l1_1)))
set_option maxHeartbeats 8000000 in
set_option maxRecDepth 100000 in
theorem windbreakref03_Add.calls (k : Nat) (a0_0 : Bool) (A0_1 : Option Addr) (c0_1 : Nat) (l0_1 : List Int) (a1_0 : Bool) (A1_1 : Option Addr) (c1_1 : Nat) (l1_1 : List Int) (r1 : Bool) (r2 : List Int) (r3 : Int) (w : World) (hr0_1 : Kd.C (Kd.int .u64) w A0_1 l0_1.length l0_1) (hc0_1 : l0_1.length ≤ c0_1) (hr1_1 : Kd.C (Kd.int .u64) w A1_1 l1_1.length l1_1) (hc1_1 : l1_1.length ≤ c1_1) (h : windbreakref03_Add.f k a0_0 l0_1 a1_0 l1_1 = some (r1, r2, r3)) :
  Calls Try.prog 64 #[.agg #[.bool a0_0, .slice A0_1 l0_1.length c0_1], .agg #[.bool a1_0, .slice A1_1 l1_1.length c1_1]] w fun e w' => ∃ v1_ : Value, e = .returned (.tuple #[.agg #[.bool r1, v1_], .int .i64 r3]) ∧ Kd.R (Kd.int .u64) 27 w' w.heap.size (fun _ => True) v1_ r2 ∧ Below w.heap.size w w' := by
 have hu52 := Try.underlying52
 have HR0_1 := Aside0.mk hr0_1; have HC0_1 := Aside0.mk hc0_1; clear hr0_1 hc0_1; have HR1_1 := Aside0.mk hr1_1; have HC1_1 := Aside0.mk hc1_1; clear hr1_1 hc1_1
 have HB := Aside0.mk (Below.refl w.heap.size w)
 have H : ((windbreakref03_Right.f a0_0 l0_1).bind fun t856 => ((windbreakref03_Right.f a1_0 l1_1).bind fun t857 => (if t856 = true then (windbreakref03_Add.j0 k (!t857) a0_0 l0_1 a1_0 l1_1) else (windbreakref03_Add.j0 k true a0_0 l0_1 a1_0 l1_1)))) = some (r1, r2, r3) := h
 clear h
 replace H := ub H; obtain ⟨t856, A3, H⟩ := H
 replace H := ub H; obtain ⟨t857, A4, H⟩ := H
 have HC5 := Aside0.mk H; clear H
 go_enter Try.func64, Try.ntmps64
 go_upto_region 3 with (first | ((with_reducible refine gate_dst (N := 2) rfl ?_); refine box_event ?hg (N := 2) ?hd (cs := #[.bool a0_0, .slice A0_1 l0_1.length c0_1]) (t := 52) ?hr ?_; (case hd => rfl); (case hg => rfl); (case hr => first | (go_simp; done) | (go_simp; rfl)); intro gb853 hg w6 hbox hb; have BK853 := Aside0.mk (hbox); have GW853 := us hg; have GE853 := us hg; replace HB := uy hb; clear hb hbox hg) | ((with_reducible refine gate_dst (N := 3) rfl ?_); refine box_event ?hg (N := 3) ?hd (cs := #[.bool a1_0, .slice A1_1 l1_1.length c1_1]) (t := 52) ?hr ?_; (case hd => rfl); (case hg => rfl); (case hr => first | (go_simp; done) | (go_simp; rfl)); intro gb854 hg w7 hbox hb; have BK854 := Aside0.mk (hbox); have GW854 := us hg; have GE854 := us hg; replace HB := uy hb; have NB853_854 := Aside0.mk ((by rw [hg]; exact Nat.ne_of_lt (blk_lt (uK BK853.out)) : gb853 ≠ gb854)); have NB854_853 := Aside0.mk ((by rw [hg]; exact Nat.ne_of_gt (blk_lt (uK BK853.out)) : gb854 ≠ gb853)); replace BK853 := ux BK853 hb; clear hb hbox hg) | ((with_reducible refine gate_dst (N := 4) rfl ?_); refine box_event ?hg (N := 4) ?hd (cs := #[.bool false, .slice none 0 0]) (t := 52) ?hr ?_; (case hd => rfl); (case hg => rfl); (case hr => first | (go_simp; done) | (go_simp; rfl)); intro gb855 hg w8 hbox hb; have BK855 := Aside0.mk (hbox); have GW855 := us hg; have GE855 := us hg; replace HB := uy hb; have NB853_855 := Aside0.mk ((by rw [hg]; exact Nat.ne_of_lt (blk_lt (uK BK853.out)) : gb853 ≠ gb855)); have NB855_853 := Aside0.mk ((by rw [hg]; exact Nat.ne_of_gt (blk_lt (uK BK853.out)) : gb855 ≠ gb853)); replace BK853 := ux BK853 hb; have NB854_855 := Aside0.mk ((by rw [hg]; exact Nat.ne_of_lt (blk_lt (uK BK854.out)) : gb854 ≠ gb855)); have NB855_854 := Aside0.mk ((by rw [hg]; exact Nat.ne_of_gt (blk_lt (uK BK854.out)) : gb855 ≠ gb854)); replace BK854 := ux BK854 hb; clear hb hbox hg; have hnb9 := NB853_854.out; have hnc9 := NB854_853.out; have hnb10 := NB853_855.out; have hnc10 := NB855_853.out; have hcz11_0 : w8.cell? ⟨gb853, 0, none⟩ = some (.bool a0_0) := (blk_cell BK853.out 0).trans rfl; have hcz11_1 : w8.cell? ⟨gb853, 1, none⟩ = some (.slice A0_1 l0_1.length c0_1) := (blk_cell BK853.out 1).trans rfl; have hfz11_0 := blk_frozen BK853.out 0; have hfz11_1 := blk_frozen BK853.out 1) | ((with_reducible refine gate_callee (f := 103) rfl ?_); refine goesL_ (some 15) rfl rfl Try.func103 (by kernel_rfl) rfl #[.agg #[.bool a0_0, .slice A0_1 l0_1.length c0_1]] rfl uM ?_; (with_reducible refine (windbreakref03_Right.calls a0_0 _ _ l0_1 t856 _ ?side1 ?side2 A3.out).mono ?_); (case side1 => exact uC (Kd.C_below HR0_1.out HB.out)); (case side2 => exact HC0_1.out); rintro e w12 ⟨rfl, hb⟩; refine ⟨_, rfl, ?_⟩; replace BK853 := ux BK853 hb; replace BK854 := ux BK854 hb; replace BK855 := ux BK855 hb; replace HB := uy hb; (try clear hb); have hnb13 := NB854_855.out; have hnc13 := NB855_854.out; have hcz14_0 : w12.cell? ⟨gb854, 0, none⟩ = some (.bool a1_0) := (blk_cell BK854.out 0).trans rfl; have hcz14_1 : w12.cell? ⟨gb854, 1, none⟩ = some (.slice A1_1 l1_1.length c1_1) := (blk_cell BK854.out 1).trans rfl; have hfz14_0 := blk_frozen BK854.out 0; have hfz14_1 := blk_frozen BK854.out 1) | ((with_reducible refine gate_callee (f := 103) rfl ?_); refine goesL_ (some 17) rfl rfl Try.func103 (by kernel_rfl) rfl #[.agg #[.bool a1_0, .slice A1_1 l1_1.length c1_1]] rfl uM ?_; (with_reducible refine (windbreakref03_Right.calls a1_0 _ _ l1_1 t857 _ ?side1 ?side2 A4.out).mono ?_); (case side1 => exact uC (Kd.C_below HR1_1.out HB.out)); (case side2 => exact HC1_1.out); rintro e w15 ⟨rfl, hb⟩; refine ⟨_, rfl, ?_⟩; replace BK853 := ux BK853 hb; replace BK854 := ux BK854 hb; replace BK855 := ux BK855 hb; replace HB := uy hb; (try clear hb)))
 (try simp only [Act.put, List.setIfInBounds_toArray, List.set_cons_zero, List.set_cons_succ])
 go_cut [23] (fun v23 wc => ∃ (kq : Nat) (x23_4 : Bool), v23 = .bool x23_4 ∧ Aside0 (windbreakref03_Add.j0 kq x23_4 a0_0 l0_1 a1_0 l1_1 = some (r1, r2, r3)) ∧ Aside0 (kq ≤ k) ∧ Aside0 (wc.heap[gb853]? = some (.cells #[.bool a0_0, (.slice A0_1 l0_1.length c0_1)] 52 (0, 0))) ∧ Aside0 (wc.heap[gb854]? = some (.cells #[.bool a1_0, (.slice A1_1 l1_1.length c1_1)] 52 (0, 0))) ∧ Aside0 (wc.heap[gb855]? = some (.cells #[.bool false, (.slice none 0 0)] 52 (0, 0))) ∧ Aside0 (Below w.heap.size w wc))
 case first =>
  have H := HC5.out
  clear HC5
  by_cases c16 : t856 = true
  ·
   subst c16
   have H1 : (windbreakref03_Add.j0 k (!t857) a0_0 l0_1 a1_0 l1_1) = some (r1, r2, r3) := by rw [if_pos rfl] at H; exact H
   clear H; have H := H1; clear H1
   have H' := Aside0.mk H
   clear H
   go_wp2
   go_meet
   case rel => exact ⟨_, (!t857), uG, H', ⟨uW⟩, ⟨uK BK853.out⟩, ⟨uK BK854.out⟩, ⟨uK BK855.out⟩, ⟨uB⟩⟩
  replace c16 := Bool.eq_false_iff.mpr c16
  subst c16
  have H1 : (windbreakref03_Add.j0 k true a0_0 l0_1 a1_0 l1_1) = some (r1, r2, r3) := by rw [if_neg (show ¬ (false = true) by decide)] at H; exact H
  clear H; have H := H1; clear H1
  have H' := Aside0.mk H
  clear H
  go_wp2
  go_meet
  case rel => exact ⟨_, (true), uG, H', ⟨uW⟩, ⟨uK BK853.out⟩, ⟨uK BK854.out⟩, ⟨uK BK855.out⟩, ⟨uB⟩⟩
 case rest =>
  clear HC5; (try clear c1); (try clear p2); (try clear c6); (try clear c9); (try clear c10); (try clear c13); (try clear c16); (try clear hcz11_0 hcz11_1); (try clear hcz14_0 hcz14_1); (try clear hfz11_0 hfz11_1); (try clear hfz14_0 hfz14_1)
  obtain ⟨kq, x23_4, rfl, HA, HJ4, BK853, BK854, BK855, HB⟩ := hcut
  cases kq with
  | zero => exact absurd HA.out (by simp [windbreakref03_Add.j0])
  | succ kj4 =>
   have H := HA.out
   clear HA
   simp only [windbreakref03_Add.j0] at H
   by_cases c17 : x23_4 = true
   ·
    subst c17
    have H1 : (some (false, ([] : List Int), 1)) = some (r1, r2, r3) := by rw [if_pos rfl] at H; exact H
    clear H; have H := H1; clear H1
    simp only [Option.some.injEq, Prod.mk.injEq] at H
    obtain ⟨rfl, rfl, rfl⟩ := H
    have hnb18 := NB855_853.out
    have hnc18 := NB853_855.out
    have hnb19 := NB855_854.out
    have hnc19 := NB854_855.out
    have hcz20_0 : wc.cell? ⟨gb855, 0, none⟩ = some (.bool false) := (blk_cell BK855.out 0).trans rfl; have hcz20_1 : wc.cell? ⟨gb855, 1, none⟩ = some (.slice none 0 0) := (blk_cell BK855.out 1).trans rfl; have hfz20_0 := blk_frozen BK855.out 0; have hfz20_1 := blk_frozen BK855.out 1
    go_wp2
    refine bodyPost_ret (results_ct rfl _ _ gb855 52 #[.bool false, .slice none 0 0] (0, 0) _ rfl (by (with_reducible repeat (first | refine blk_drewN ?_ _ | refine blk_drew ?_ | refine blk_alloc ?_ _)); refine blk_put (cs := #[.bool false, .slice none 0 0]) ?_ 1 _ rfl; (with_reducible repeat (first | refine blk_drewN ?_ _ | refine blk_drew ?_ | refine blk_alloc ?_ _)); refine blk_put (cs := #[.bool false, .slice none 0 0]) ?_ 0 _ rfl; (with_reducible repeat (first | refine blk_drewN ?_ _ | refine blk_drew ?_ | refine blk_alloc ?_ _)); exact BK855.out) Try.underlying52 rfl (by kernel_rfl)) rfl ?_
    exact ⟨_, uF, uI, uB⟩
   replace c17 := Bool.eq_false_iff.mpr c17
   subst c17
   have H1 : (if (a0_0 == a1_0) = true then ((windbreakref01_Add.f kj4 l0_1 l1_1).bind fun bt858 => ((windbreakref03_From.f a0_0 bt858.1).bind fun bt862 => (some (bt862.1, bt862.2, bt858.2)))) else ((windbreakref01_Cmp.f kj4 l0_1 l1_1).bind fun t866 => (if t866 ≥ 0 then ((windbreakref01_Sub.f kj4 l0_1 l1_1).bind fun bt867 => ((windbreakref03_From.f a0_0 bt867.1).bind fun bt871 => (some (bt871.1, bt871.2, 0)))) else ((windbreakref01_Sub.f kj4 l1_1 l0_1).bind fun bt875 => ((windbreakref03_From.f a1_0 bt875.1).bind fun bt879 => (some (bt879.1, bt879.2, 0))))))) = some (r1, r2, r3) := by rw [if_neg (show ¬ (false = true) by decide)] at H; exact H
   clear H; have H := H1; clear H1
   by_cases c21 : (a0_0 == a1_0) = true
   ·
    rw [if_pos c21] at H
    have c21b0 : (a0_0 == a1_0) = true := c21
    (try (have c21b1 : decide (a0_0 = a1_0) = true := by simpa using c21))
    (try (have c21b2 : (a0_0 == a1_0) = true := by simpa using c21))
    clear c21
    replace H := ub H; obtain ⟨⟨t858, t859⟩, A22, H⟩ := H
    (try dsimp only at H)
    replace H := ub H; obtain ⟨⟨t862, t863⟩, A23, H⟩ := H
    (try dsimp only at H)
    simp only [Option.some.injEq, Prod.mk.injEq] at H
    obtain ⟨rfl, rfl, rfl⟩ := H
    have hnb24 := NB853_854.out
    have hnc24 := NB854_853.out
    have hnb25 := NB853_855.out
    have hnc25 := NB855_853.out
    have hcz26_0 : wc.cell? ⟨gb853, 0, none⟩ = some (.bool a0_0) := (blk_cell BK853.out 0).trans rfl; have hcz26_1 : wc.cell? ⟨gb853, 1, none⟩ = some (.slice A0_1 l0_1.length c0_1) := (blk_cell BK853.out 1).trans rfl; have hfz26_0 := blk_frozen BK853.out 0; have hfz26_1 := blk_frozen BK853.out 1
    have hnb27 := NB854_855.out
    have hnc27 := NB855_854.out
    have hcz28_0 : wc.cell? ⟨gb854, 0, none⟩ = some (.bool a1_0) := (blk_cell BK854.out 0).trans rfl; have hcz28_1 : wc.cell? ⟨gb854, 1, none⟩ = some (.slice A1_1 l1_1.length c1_1) := (blk_cell BK854.out 1).trans rfl; have hfz28_0 := blk_frozen BK854.out 0; have hfz28_1 := blk_frozen BK854.out 1
    go_wp2_with (first | ((with_reducible refine gate_callee (f := 26) rfl ?_); refine goesL_ (some 35) rfl rfl Try.func26 (by kernel_rfl) rfl #[.slice A0_1 l0_1.length c0_1, .slice A1_1 l1_1.length c1_1] rfl uM ?_; (with_reducible refine (windbreakref01_Add.calls kj4 _ _ l0_1 _ _ l1_1 t858 t859 _ ?side1 ?side2 ?side3 ?side4 A22.out).mono ?_); (case side1 => exact uC (Kd.C_below HR0_1.out HB.out)); (case side2 => exact HC0_1.out); (case side3 => exact uC (Kd.C_below HR1_1.out HB.out)); (case side4 => exact HC1_1.out); rintro e w29 ⟨v860, rfl, ho0, hb⟩; refine ⟨_, rfl, ?_⟩; have HO861 := Aside0.mk (Kd.R_lower ho0 (below_size uB)); replace BK853 := ux BK853 hb; replace BK854 := ux BK854 hb; replace BK855 := ux BK855 hb; replace HB := uy hb; (try clear hb ho0); have hcz30_0 : w29.cell? ⟨gb853, 0, none⟩ = some (.bool a0_0) := (blk_cell BK853.out 0).trans rfl; have hcz30_1 : w29.cell? ⟨gb853, 1, none⟩ = some (.slice A0_1 l0_1.length c0_1) := (blk_cell BK853.out 1).trans rfl; have hfz30_0 := blk_frozen BK853.out 0; have hfz30_1 := blk_frozen BK853.out 1; obtain ⟨Ao31, co31, eo31⟩ := Kd.R_slice HO861.out; subst eo31) | ((with_reducible refine gate_callee (f := 104) rfl ?_); refine goesL_ (some 41) rfl rfl Try.func104 (by kernel_rfl) rfl #[.bool a0_0, .slice Ao31 t858.length co31] rfl uM ?_; (with_reducible refine (windbreakref03_From.calls a0_0 _ _ t858 t862 t863 _ ?side1 ?side2 A23.out).mono ?_); (case side1 => exact uC (Kd.R_reads' HO861.out).2.2); (case side2 => exact (Kd.R_reads' HO861.out).2.1); rintro e w32 ⟨v864, rfl, ho0, hb⟩; refine ⟨_, rfl, ?_⟩; have HO865 := Aside0.mk (Kd.R_lower (Kd.R_new' ho0 (Kd.R_lt (uR HO861.out))) (below_size uB)); replace HO861 := ueR HO861 ho0 hb; replace BK853 := ux BK853 hb; replace BK854 := ux BK854 hb; replace BK855 := ux BK855 hb; replace HB := uy hb; (try clear hb ho0); have hcz33_0 : w32.cell? ⟨gb855, 0, none⟩ = some (.bool false) := (blk_cell BK855.out 0).trans rfl; have hcz33_1 : w32.cell? ⟨gb855, 1, none⟩ = some (.slice none 0 0) := (blk_cell BK855.out 1).trans rfl; have hfz33_0 := blk_frozen BK855.out 0; have hfz33_1 := blk_frozen BK855.out 1; obtain ⟨Ao34, co34, eo34⟩ := Kd.R_slice HO865.out; subst eo34))
    refine bodyPost_ret (results_ct rfl _ _ gb855 52 #[.bool t862, .slice Ao34 t863.length co34] (0, 0) _ rfl (by (with_reducible repeat (first | refine blk_drewN ?_ _ | refine blk_drew ?_ | refine blk_alloc ?_ _)); refine blk_put (cs := #[.bool t862, .slice none 0 0]) ?_ 1 _ rfl; (with_reducible repeat (first | refine blk_drewN ?_ _ | refine blk_drew ?_ | refine blk_alloc ?_ _)); refine blk_put (cs := #[.bool false, .slice none 0 0]) ?_ 0 _ rfl; (with_reducible repeat (first | refine blk_drewN ?_ _ | refine blk_drew ?_ | refine blk_alloc ?_ _)); exact BK855.out) Try.underlying52 rfl (by kernel_rfl)) rfl ?_
    exact ⟨_, uF, by (with_reducible repeat (first | apply Kd.R_alloc | apply Kd.R_drewN | apply Kd.R_drew)); exact Kd.R_mono (Kd.R_far (p := ⟨gb855, 1, none⟩) (Kd.R_far (p := ⟨gb855, 0, none⟩) (Kd.R_types HO865.out BK855.out (by decide)) (fun _ hk => hk.2) (.bool t862)) (fun _ hk => hk.2) (.slice Ao34 t863.length co34)) (fun _ hk => trivial), uB⟩
   rw [if_neg c21] at H
   have c21b0 : (a0_0 == a1_0) = false := by simpa using c21
   (try (have c21b1 : decide (a0_0 = a1_0) = false := by simpa using c21))
   (try (have c21b2 : (a0_0 == a1_0) = false := by simpa using c21))
   (try (have c21b3 : ¬ (a0_0 = a1_0) := by simpa using c21))
   clear c21
   replace H := ub H; obtain ⟨t866, A35, H⟩ := H
   by_cases c36 : t866 ≥ 0
   ·
    rw [if_pos c36] at H
    have c36b0 : decide (0 ≤ t866) = true := decide_eq_true c36
    clear c36
    replace H := ub H; obtain ⟨⟨t867, t868⟩, A37, H⟩ := H
    (try dsimp only at H)
    replace H := ub H; obtain ⟨⟨t871, t872⟩, A38, H⟩ := H
    (try dsimp only at H)
    simp only [Option.some.injEq, Prod.mk.injEq] at H
    obtain ⟨rfl, rfl, rfl⟩ := H
    have hnb39 := NB853_854.out
    have hnc39 := NB854_853.out
    have hnb40 := NB853_855.out
    have hnc40 := NB855_853.out
    have hcz41_0 : wc.cell? ⟨gb853, 0, none⟩ = some (.bool a0_0) := (blk_cell BK853.out 0).trans rfl; have hcz41_1 : wc.cell? ⟨gb853, 1, none⟩ = some (.slice A0_1 l0_1.length c0_1) := (blk_cell BK853.out 1).trans rfl; have hfz41_0 := blk_frozen BK853.out 0; have hfz41_1 := blk_frozen BK853.out 1
    have hnb42 := NB854_855.out
    have hnc42 := NB855_854.out
    have hcz43_0 : wc.cell? ⟨gb854, 0, none⟩ = some (.bool a1_0) := (blk_cell BK854.out 0).trans rfl; have hcz43_1 : wc.cell? ⟨gb854, 1, none⟩ = some (.slice A1_1 l1_1.length c1_1) := (blk_cell BK854.out 1).trans rfl; have hfz43_0 := blk_frozen BK854.out 0; have hfz43_1 := blk_frozen BK854.out 1
    go_wp2_with (first | ((with_reducible refine gate_callee (f := 72) rfl ?_); refine goesL_ (some 47) rfl rfl Try.func72 (by kernel_rfl) rfl #[.slice A0_1 l0_1.length c0_1, .slice A1_1 l1_1.length c1_1] rfl uM ?_; (with_reducible refine (windbreakref01_Cmp.calls kj4 _ _ l0_1 _ _ l1_1 t866 _ ?side1 ?side2 ?side3 ?side4 A35.out).mono ?_); (case side1 => exact uC (Kd.C_below HR0_1.out HB.out)); (case side2 => exact HC0_1.out); (case side3 => exact uC (Kd.C_below HR1_1.out HB.out)); (case side4 => exact HC1_1.out); rintro e w44 ⟨rfl, hb⟩; refine ⟨_, rfl, ?_⟩; replace BK853 := ux BK853 hb; replace BK854 := ux BK854 hb; replace BK855 := ux BK855 hb; replace HB := uy hb; (try clear hb); have hcz45_0 : w44.cell? ⟨gb853, 0, none⟩ = some (.bool a0_0) := (blk_cell BK853.out 0).trans rfl; have hcz45_1 : w44.cell? ⟨gb853, 1, none⟩ = some (.slice A0_1 l0_1.length c0_1) := (blk_cell BK853.out 1).trans rfl; have hfz45_0 := blk_frozen BK853.out 0; have hfz45_1 := blk_frozen BK853.out 1; have hcz46_0 : w44.cell? ⟨gb854, 0, none⟩ = some (.bool a1_0) := (blk_cell BK854.out 0).trans rfl; have hcz46_1 : w44.cell? ⟨gb854, 1, none⟩ = some (.slice A1_1 l1_1.length c1_1) := (blk_cell BK854.out 1).trans rfl; have hfz46_0 := blk_frozen BK854.out 0; have hfz46_1 := blk_frozen BK854.out 1) | ((with_reducible refine gate_callee (f := 105) rfl ?_); refine goesL_ (some 54) rfl rfl Try.func105 (by kernel_rfl) rfl #[.slice A0_1 l0_1.length c0_1, .slice A1_1 l1_1.length c1_1] rfl uM ?_; (with_reducible refine (windbreakref01_Sub.calls kj4 _ _ l0_1 _ _ l1_1 t867 t868 _ ?side1 ?side2 ?side3 ?side4 A37.out).mono ?_); (case side1 => exact uC (Kd.C_below HR0_1.out HB.out)); (case side2 => exact HC0_1.out); (case side3 => exact uC (Kd.C_below HR1_1.out HB.out)); (case side4 => exact HC1_1.out); rintro e w47 ⟨v869, rfl, ho0, hb⟩; refine ⟨_, rfl, ?_⟩; have HO870 := Aside0.mk (Kd.R_lower ho0 (below_size uB)); replace BK853 := ux BK853 hb; replace BK854 := ux BK854 hb; replace BK855 := ux BK855 hb; replace HB := uy hb; (try clear hb ho0); have hcz48_0 : w47.cell? ⟨gb853, 0, none⟩ = some (.bool a0_0) := (blk_cell BK853.out 0).trans rfl; have hcz48_1 : w47.cell? ⟨gb853, 1, none⟩ = some (.slice A0_1 l0_1.length c0_1) := (blk_cell BK853.out 1).trans rfl; have hfz48_0 := blk_frozen BK853.out 0; have hfz48_1 := blk_frozen BK853.out 1; obtain ⟨Ao49, co49, eo49⟩ := Kd.R_slice HO870.out; subst eo49) | ((with_reducible refine gate_callee (f := 104) rfl ?_); refine goesL_ (some 60) rfl rfl Try.func104 (by kernel_rfl) rfl #[.bool a0_0, .slice Ao49 t867.length co49] rfl uM ?_; (with_reducible refine (windbreakref03_From.calls a0_0 _ _ t867 t871 t872 _ ?side1 ?side2 A38.out).mono ?_); (case side1 => exact uC (Kd.R_reads' HO870.out).2.2); (case side2 => exact (Kd.R_reads' HO870.out).2.1); rintro e w50 ⟨v873, rfl, ho0, hb⟩; refine ⟨_, rfl, ?_⟩; have HO874 := Aside0.mk (Kd.R_lower (Kd.R_new' ho0 (Kd.R_lt (uR HO870.out))) (below_size uB)); replace HO870 := ueR HO870 ho0 hb; replace BK853 := ux BK853 hb; replace BK854 := ux BK854 hb; replace BK855 := ux BK855 hb; replace HB := uy hb; (try clear hb ho0); have hcz51_0 : w50.cell? ⟨gb855, 0, none⟩ = some (.bool false) := (blk_cell BK855.out 0).trans rfl; have hcz51_1 : w50.cell? ⟨gb855, 1, none⟩ = some (.slice none 0 0) := (blk_cell BK855.out 1).trans rfl; have hfz51_0 := blk_frozen BK855.out 0; have hfz51_1 := blk_frozen BK855.out 1; obtain ⟨Ao52, co52, eo52⟩ := Kd.R_slice HO874.out; subst eo52))
    refine bodyPost_ret (results_ct rfl _ _ gb855 52 #[.bool t871, .slice Ao52 t872.length co52] (0, 0) _ rfl (by (with_reducible repeat (first | refine blk_drewN ?_ _ | refine blk_drew ?_ | refine blk_alloc ?_ _)); refine blk_put (cs := #[.bool t871, .slice none 0 0]) ?_ 1 _ rfl; (with_reducible repeat (first | refine blk_drewN ?_ _ | refine blk_drew ?_ | refine blk_alloc ?_ _)); refine blk_put (cs := #[.bool false, .slice none 0 0]) ?_ 0 _ rfl; (with_reducible repeat (first | refine blk_drewN ?_ _ | refine blk_drew ?_ | refine blk_alloc ?_ _)); exact BK855.out) Try.underlying52 rfl (by kernel_rfl)) rfl ?_
    exact ⟨_, uF, by (with_reducible repeat (first | apply Kd.R_alloc | apply Kd.R_drewN | apply Kd.R_drew)); exact Kd.R_mono (Kd.R_far (p := ⟨gb855, 1, none⟩) (Kd.R_far (p := ⟨gb855, 0, none⟩) (Kd.R_types HO874.out BK855.out (by decide)) (fun _ hk => hk.2) (.bool t871)) (fun _ hk => hk.2) (.slice Ao52 t872.length co52)) (fun _ hk => trivial), uB⟩
   rw [if_neg c36] at H
   have c36b0 : decide (0 ≤ t866) = false := decide_eq_false c36
   clear c36
   replace H := ub H; obtain ⟨⟨t875, t876⟩, A53, H⟩ := H
   (try dsimp only at H)
   replace H := ub H; obtain ⟨⟨t879, t880⟩, A54, H⟩ := H
   (try dsimp only at H)
   simp only [Option.some.injEq, Prod.mk.injEq] at H
   obtain ⟨rfl, rfl, rfl⟩ := H
   have hnb55 := NB853_854.out
   have hnc55 := NB854_853.out
   have hnb56 := NB853_855.out
   have hnc56 := NB855_853.out
   have hcz57_0 : wc.cell? ⟨gb853, 0, none⟩ = some (.bool a0_0) := (blk_cell BK853.out 0).trans rfl; have hcz57_1 : wc.cell? ⟨gb853, 1, none⟩ = some (.slice A0_1 l0_1.length c0_1) := (blk_cell BK853.out 1).trans rfl; have hfz57_0 := blk_frozen BK853.out 0; have hfz57_1 := blk_frozen BK853.out 1
   have hnb58 := NB854_855.out
   have hnc58 := NB855_854.out
   have hcz59_0 : wc.cell? ⟨gb854, 0, none⟩ = some (.bool a1_0) := (blk_cell BK854.out 0).trans rfl; have hcz59_1 : wc.cell? ⟨gb854, 1, none⟩ = some (.slice A1_1 l1_1.length c1_1) := (blk_cell BK854.out 1).trans rfl; have hfz59_0 := blk_frozen BK854.out 0; have hfz59_1 := blk_frozen BK854.out 1
   go_wp2_with (first | ((with_reducible refine gate_callee (f := 72) rfl ?_); refine goesL_ (some 47) rfl rfl Try.func72 (by kernel_rfl) rfl #[.slice A0_1 l0_1.length c0_1, .slice A1_1 l1_1.length c1_1] rfl uM ?_; (with_reducible refine (windbreakref01_Cmp.calls kj4 _ _ l0_1 _ _ l1_1 t866 _ ?side1 ?side2 ?side3 ?side4 A35.out).mono ?_); (case side1 => exact uC (Kd.C_below HR0_1.out HB.out)); (case side2 => exact HC0_1.out); (case side3 => exact uC (Kd.C_below HR1_1.out HB.out)); (case side4 => exact HC1_1.out); rintro e w60 ⟨rfl, hb⟩; refine ⟨_, rfl, ?_⟩; replace BK853 := ux BK853 hb; replace BK854 := ux BK854 hb; replace BK855 := ux BK855 hb; replace HB := uy hb; (try clear hb); have hcz61_0 : w60.cell? ⟨gb854, 0, none⟩ = some (.bool a1_0) := (blk_cell BK854.out 0).trans rfl; have hcz61_1 : w60.cell? ⟨gb854, 1, none⟩ = some (.slice A1_1 l1_1.length c1_1) := (blk_cell BK854.out 1).trans rfl; have hfz61_0 := blk_frozen BK854.out 0; have hfz61_1 := blk_frozen BK854.out 1; have hcz62_0 : w60.cell? ⟨gb853, 0, none⟩ = some (.bool a0_0) := (blk_cell BK853.out 0).trans rfl; have hcz62_1 : w60.cell? ⟨gb853, 1, none⟩ = some (.slice A0_1 l0_1.length c0_1) := (blk_cell BK853.out 1).trans rfl; have hfz62_0 := blk_frozen BK853.out 0; have hfz62_1 := blk_frozen BK853.out 1) | ((with_reducible refine gate_callee (f := 105) rfl ?_); refine goesL_ (some 66) rfl rfl Try.func105 (by kernel_rfl) rfl #[.slice A1_1 l1_1.length c1_1, .slice A0_1 l0_1.length c0_1] rfl uM ?_; (with_reducible refine (windbreakref01_Sub.calls kj4 _ _ l1_1 _ _ l0_1 t875 t876 _ ?side1 ?side2 ?side3 ?side4 A53.out).mono ?_); (case side1 => exact uC (Kd.C_below HR1_1.out HB.out)); (case side2 => exact HC1_1.out); (case side3 => exact uC (Kd.C_below HR0_1.out HB.out)); (case side4 => exact HC0_1.out); rintro e w63 ⟨v877, rfl, ho0, hb⟩; refine ⟨_, rfl, ?_⟩; have HO878 := Aside0.mk (Kd.R_lower ho0 (below_size uB)); replace BK853 := ux BK853 hb; replace BK854 := ux BK854 hb; replace BK855 := ux BK855 hb; replace HB := uy hb; (try clear hb ho0); have hcz64_0 : w63.cell? ⟨gb854, 0, none⟩ = some (.bool a1_0) := (blk_cell BK854.out 0).trans rfl; have hcz64_1 : w63.cell? ⟨gb854, 1, none⟩ = some (.slice A1_1 l1_1.length c1_1) := (blk_cell BK854.out 1).trans rfl; have hfz64_0 := blk_frozen BK854.out 0; have hfz64_1 := blk_frozen BK854.out 1; obtain ⟨Ao65, co65, eo65⟩ := Kd.R_slice HO878.out; subst eo65) | ((with_reducible refine gate_callee (f := 104) rfl ?_); refine goesL_ (some 72) rfl rfl Try.func104 (by kernel_rfl) rfl #[.bool a1_0, .slice Ao65 t875.length co65] rfl uM ?_; (with_reducible refine (windbreakref03_From.calls a1_0 _ _ t875 t879 t880 _ ?side1 ?side2 A54.out).mono ?_); (case side1 => exact uC (Kd.R_reads' HO878.out).2.2); (case side2 => exact (Kd.R_reads' HO878.out).2.1); rintro e w66 ⟨v881, rfl, ho0, hb⟩; refine ⟨_, rfl, ?_⟩; have HO882 := Aside0.mk (Kd.R_lower (Kd.R_new' ho0 (Kd.R_lt (uR HO878.out))) (below_size uB)); replace HO878 := ueR HO878 ho0 hb; replace BK853 := ux BK853 hb; replace BK854 := ux BK854 hb; replace BK855 := ux BK855 hb; replace HB := uy hb; (try clear hb ho0); have hcz67_0 : w66.cell? ⟨gb855, 0, none⟩ = some (.bool false) := (blk_cell BK855.out 0).trans rfl; have hcz67_1 : w66.cell? ⟨gb855, 1, none⟩ = some (.slice none 0 0) := (blk_cell BK855.out 1).trans rfl; have hfz67_0 := blk_frozen BK855.out 0; have hfz67_1 := blk_frozen BK855.out 1; obtain ⟨Ao68, co68, eo68⟩ := Kd.R_slice HO882.out; subst eo68))
   refine bodyPost_ret (results_ct rfl _ _ gb855 52 #[.bool t879, .slice Ao68 t880.length co68] (0, 0) _ rfl (by (with_reducible repeat (first | refine blk_drewN ?_ _ | refine blk_drew ?_ | refine blk_alloc ?_ _)); refine blk_put (cs := #[.bool t879, .slice none 0 0]) ?_ 1 _ rfl; (with_reducible repeat (first | refine blk_drewN ?_ _ | refine blk_drew ?_ | refine blk_alloc ?_ _)); refine blk_put (cs := #[.bool false, .slice none 0 0]) ?_ 0 _ rfl; (with_reducible repeat (first | refine blk_drewN ?_ _ | refine blk_drew ?_ | refine blk_alloc ?_ _)); exact BK855.out) Try.underlying52 rfl (by kernel_rfl)) rfl ?_
   exact ⟨_, uF, by (with_reducible repeat (first | apply Kd.R_alloc | apply Kd.R_drewN | apply Kd.R_drew)); exact Kd.R_mono (Kd.R_far (p := ⟨gb855, 1, none⟩) (Kd.R_far (p := ⟨gb855, 0, none⟩) (Kd.R_types HO882.out BK855.out (by decide)) (fun _ hk => hk.2) (.bool t879)) (fun _ hk => hk.2) (.slice Ao68 t880.length co68)) (fun _ hk => trivial), uB⟩
def windbreakref03_Sub.j0 : Nat → Bool → Bool → List Int → Bool → List Int → Option (Bool × List Int × Int)
 | 0, _, _, _, _, _ => none
 | k + 1, x17, x1067000, x1067001, x1068000, x1068001 => if x17 = true then (some (false, ([] : List Int), 1)) else ((windbreakref03_Neg.f x1068000 x1068001).bind fun bt1071 => ((windbreakref03_Add.f k x1067000 x1067001 bt1071.1 bt1071.2).bind fun bt1075 => (some (bt1075.1, bt1075.2.1, bt1075.2.2))))
def windbreakref03_Sub.f (k : Nat) (a0_0 : Bool) (l0_1 : List Int) (a1_0 : Bool) (l1_1 : List Int) : Option (Bool × List Int × Int) := (windbreakref03_Right.f a0_0 l0_1).bind fun t1069 => ((windbreakref03_Right.f a1_0 l1_1).bind fun t1070 => (if t1069 = true then (windbreakref03_Sub.j0 k (!t1070) a0_0 l0_1 a1_0 l1_1) else (windbreakref03_Sub.j0 k true a0_0 l0_1 a1_0 l1_1)))
def windbreakref03_Sub.T5 : Bool × List (List Nat × List Nat) := (true, [([], []), ([], []), ([1], [1]), ([0, 2, 2], [0, 2]), ([3], [3]), ([3], [3]), ([4, 3, 0, 1, 2, 3, 4, 5], [4]), ([5, 6, 0, 1, 2, 3, 4, 5, 6], [5])])
def windbreakref03_Sub.B5 : List Nat := [0, 0, 2, 7, 15, 15, 63, 127]
theorem windbreakref03_Sub.tab5 : rtab .any (opsOf Try.f71 5) = windbreakref03_Sub.T5 := by kernel_rfl
theorem windbreakref03_Sub.bits5 : waitsOk windbreakref03_Sub.T5.2 windbreakref03_Sub.B5 = true := by kernel_rfl
set_option maxHeartbeats 8000000 in
set_option maxRecDepth 100000 in
theorem windbreakref03_Sub.calls (k : Nat) (a0_0 : Bool) (A0_1 : Option Addr) (c0_1 : Nat) (l0_1 : List Int) (a1_0 : Bool) (A1_1 : Option Addr) (c1_1 : Nat) (l1_1 : List Int) (r1 : Bool) (r2 : List Int) (r3 : Int) (w : World) (hr0_1 : Kd.C (Kd.int .u64) w A0_1 l0_1.length l0_1) (hc0_1 : l0_1.length ≤ c0_1) (hr1_1 : Kd.C (Kd.int .u64) w A1_1 l1_1.length l1_1) (hc1_1 : l1_1.length ≤ c1_1) (h : windbreakref03_Sub.f k a0_0 l0_1 a1_0 l1_1 = some (r1, r2, r3)) :
  Calls Try.prog 71 #[.agg #[.bool a0_0, .slice A0_1 l0_1.length c0_1], .agg #[.bool a1_0, .slice A1_1 l1_1.length c1_1]] w fun e w' => ∃ v1_ : Value, e = .returned (.tuple #[.agg #[.bool r1, v1_], .int .i64 r3]) ∧ Kd.R (Kd.int .u64) 27 w' w.heap.size (fun _ => True) v1_ r2 ∧ Below w.heap.size w w' := by
 have hu52 := Try.underlying52
 have HR0_1 := Aside0.mk hr0_1; have HC0_1 := Aside0.mk hc0_1; clear hr0_1 hc0_1; have HR1_1 := Aside0.mk hr1_1; have HC1_1 := Aside0.mk hc1_1; clear hr1_1 hc1_1
 have HB := Aside0.mk (Below.refl w.heap.size w)
 have H : ((windbreakref03_Right.f a0_0 l0_1).bind fun t1069 => ((windbreakref03_Right.f a1_0 l1_1).bind fun t1070 => (if t1069 = true then (windbreakref03_Sub.j0 k (!t1070) a0_0 l0_1 a1_0 l1_1) else (windbreakref03_Sub.j0 k true a0_0 l0_1 a1_0 l1_1)))) = some (r1, r2, r3) := h
 clear h
 replace H := ub H; obtain ⟨t1069, A3, H⟩ := H
 replace H := ub H; obtain ⟨t1070, A4, H⟩ := H
 have HC5 := Aside0.mk H; clear H
 go_enter Try.func71, Try.ntmps71
 go_upto_region 3 with (first | ((with_reducible refine gate_dst (N := 2) rfl ?_); refine box_event ?hg (N := 2) ?hd (cs := #[.bool a0_0, .slice A0_1 l0_1.length c0_1]) (t := 52) ?hr ?_; (case hd => rfl); (case hg => rfl); (case hr => first | (go_simp; done) | (go_simp; rfl)); intro gb1066 hg w6 hbox hb; have BK1066 := Aside0.mk (hbox); have GW1066 := us hg; have GE1066 := us hg; replace HB := uy hb; clear hb hbox hg) | ((with_reducible refine gate_dst (N := 3) rfl ?_); refine box_event ?hg (N := 3) ?hd (cs := #[.bool a1_0, .slice A1_1 l1_1.length c1_1]) (t := 52) ?hr ?_; (case hd => rfl); (case hg => rfl); (case hr => first | (go_simp; done) | (go_simp; rfl)); intro gb1067 hg w7 hbox hb; have BK1067 := Aside0.mk (hbox); have GW1067 := us hg; have GE1067 := us hg; replace HB := uy hb; have NB1066_1067 := Aside0.mk ((by rw [hg]; exact Nat.ne_of_lt (blk_lt (uK BK1066.out)) : gb1066 ≠ gb1067)); have NB1067_1066 := Aside0.mk ((by rw [hg]; exact Nat.ne_of_gt (blk_lt (uK BK1066.out)) : gb1067 ≠ gb1066)); replace BK1066 := ux BK1066 hb; clear hb hbox hg) | ((with_reducible refine gate_dst (N := 4) rfl ?_); refine box_event ?hg (N := 4) ?hd (cs := #[.bool false, .slice none 0 0]) (t := 52) ?hr ?_; (case hd => rfl); (case hg => rfl); (case hr => first | (go_simp; done) | (go_simp; rfl)); intro gb1068 hg w8 hbox hb; have BK1068 := Aside0.mk (hbox); have GW1068 := us hg; have GE1068 := us hg; replace HB := uy hb; have NB1066_1068 := Aside0.mk ((by rw [hg]; exact Nat.ne_of_lt (blk_lt (uK BK1066.out)) : gb1066 ≠ gb1068)); have NB1068_1066 := Aside0.mk ((by rw [hg]; exact Nat.ne_of_gt (blk_lt (uK BK1066.out)) : gb1068 ≠ gb1066)); replace BK1066 := ux BK1066 hb; have NB1067_1068 := Aside0.mk ((by rw [hg]; exact Nat.ne_of_lt (blk_lt (uK BK1067.out)) : gb1067 ≠ gb1068)); have NB1068_1067 := Aside0.mk ((by rw [hg]; exact Nat.ne_of_gt (blk_lt (uK BK1067.out)) : gb1068 ≠ gb1067)); replace BK1067 := ux BK1067 hb; clear hb hbox hg; have hnb9 := NB1066_1067.out; have hnc9 := NB1067_1066.out; have hnb10 := NB1066_1068.out; have hnc10 := NB1068_1066.out; have hcz11_0 : w8.cell? ⟨gb1066, 0, none⟩ = some (.bool a0_0) := (blk_cell BK1066.out 0).trans rfl; have hcz11_1 : w8.cell? ⟨gb1066, 1, none⟩ = some (.slice A0_1 l0_1.length c0_1) := (blk_cell BK1066.out 1).trans rfl; have hfz11_0 := blk_frozen BK1066.out 0; have hfz11_1 := blk_frozen BK1066.out 1) | ((with_reducible refine gate_callee (f := 103) rfl ?_); refine goesL_ (some 9) rfl rfl Try.func103 (by kernel_rfl) rfl #[.agg #[.bool a0_0, .slice A0_1 l0_1.length c0_1]] rfl uM ?_; (with_reducible refine (windbreakref03_Right.calls a0_0 _ _ l0_1 t1069 _ ?side1 ?side2 A3.out).mono ?_); (case side1 => exact uC (Kd.C_below HR0_1.out HB.out)); (case side2 => exact HC0_1.out); rintro e w12 ⟨rfl, hb⟩; refine ⟨_, rfl, ?_⟩; replace BK1066 := ux BK1066 hb; replace BK1067 := ux BK1067 hb; replace BK1068 := ux BK1068 hb; replace HB := uy hb; (try clear hb); have hnb13 := NB1067_1068.out; have hnc13 := NB1068_1067.out; have hcz14_0 : w12.cell? ⟨gb1067, 0, none⟩ = some (.bool a1_0) := (blk_cell BK1067.out 0).trans rfl; have hcz14_1 : w12.cell? ⟨gb1067, 1, none⟩ = some (.slice A1_1 l1_1.length c1_1) := (blk_cell BK1067.out 1).trans rfl; have hfz14_0 := blk_frozen BK1067.out 0; have hfz14_1 := blk_frozen BK1067.out 1) | ((with_reducible refine gate_callee (f := 103) rfl ?_); refine goesL_ (some 11) rfl rfl Try.func103 (by kernel_rfl) rfl #[.agg #[.bool a1_0, .slice A1_1 l1_1.length c1_1]] rfl uM ?_; (with_reducible refine (windbreakref03_Right.calls a1_0 _ _ l1_1 t1070 _ ?side1 ?side2 A4.out).mono ?_); (case side1 => exact uC (Kd.C_below HR1_1.out HB.out)); (case side2 => exact HC1_1.out); rintro e w15 ⟨rfl, hb⟩; refine ⟨_, rfl, ?_⟩; replace BK1066 := ux BK1066 hb; replace BK1067 := ux BK1067 hb; replace BK1068 := ux BK1068 hb; replace HB := uy hb; (try clear hb)))
 (try simp only [Act.put, List.setIfInBounds_toArray, List.set_cons_zero, List.set_cons_succ])
 go_cut [17] (fun v17 wc => ∃ (kq : Nat) (x17_4 : Bool), v17 = .bool x17_4 ∧ Aside0 (windbreakref03_Sub.j0 kq x17_4 a0_0 l0_1 a1_0 l1_1 = some (r1, r2, r3)) ∧ Aside0 (kq ≤ k) ∧ Aside0 (wc.heap[gb1066]? = some (.cells #[.bool a0_0, (.slice A0_1 l0_1.length c0_1)] 52 (0, 0))) ∧ Aside0 (wc.heap[gb1067]? = some (.cells #[.bool a1_0, (.slice A1_1 l1_1.length c1_1)] 52 (0, 0))) ∧ Aside0 (wc.heap[gb1068]? = some (.cells #[.bool false, (.slice none 0 0)] 52 (0, 0))) ∧ Aside0 (Below w.heap.size w wc))
 case first =>
  have H := HC5.out
  clear HC5
  by_cases c16 : t1069 = true
  ·
   subst c16
   have H1 : (windbreakref03_Sub.j0 k (!t1070) a0_0 l0_1 a1_0 l1_1) = some (r1, r2, r3) := by rw [if_pos rfl] at H; exact H
   clear H; have H := H1; clear H1
   have H' := Aside0.mk H
   clear H
   go_wp2
   go_meet
   case rel => exact ⟨_, (!t1070), uG, H', ⟨uW⟩, ⟨uK BK1066.out⟩, ⟨uK BK1067.out⟩, ⟨uK BK1068.out⟩, ⟨uB⟩⟩
  replace c16 := Bool.eq_false_iff.mpr c16
  subst c16
  have H1 : (windbreakref03_Sub.j0 k true a0_0 l0_1 a1_0 l1_1) = some (r1, r2, r3) := by rw [if_neg (show ¬ (false = true) by decide)] at H; exact H
  clear H; have H := H1; clear H1
  have H' := Aside0.mk H
  clear H
  go_wp2
  go_meet
  case rel => exact ⟨_, (true), uG, H', ⟨uW⟩, ⟨uK BK1066.out⟩, ⟨uK BK1067.out⟩, ⟨uK BK1068.out⟩, ⟨uB⟩⟩
 case rest =>
  clear HC5; (try clear c1); (try clear p2); (try clear c7); (try clear c9); (try clear c10); (try clear c13); (try clear c16); (try clear hcz11_0 hcz11_1); (try clear hcz14_0 hcz14_1); (try clear hfz11_0 hfz11_1); (try clear hfz14_0 hfz14_1)
  obtain ⟨kq, x17_4, rfl, HA, HJ4, BK1066, BK1067, BK1068, HB⟩ := hcut
  cases kq with
  | zero => exact absurd HA.out (by simp [windbreakref03_Sub.j0])
  | succ kj4 =>
   have H := HA.out
   clear HA
   simp only [windbreakref03_Sub.j0] at H
   by_cases c17 : x17_4 = true
   ·
    subst c17
    have H1 : (some (false, ([] : List Int), 1)) = some (r1, r2, r3) := by rw [if_pos rfl] at H; exact H
    clear H; have H := H1; clear H1
    simp only [Option.some.injEq, Prod.mk.injEq] at H
    obtain ⟨rfl, rfl, rfl⟩ := H
    have hnb18 := NB1068_1066.out
    have hnc18 := NB1066_1068.out
    have hnb19 := NB1068_1067.out
    have hnc19 := NB1067_1068.out
    have hcz20_0 : wc.cell? ⟨gb1068, 0, none⟩ = some (.bool false) := (blk_cell BK1068.out 0).trans rfl; have hcz20_1 : wc.cell? ⟨gb1068, 1, none⟩ = some (.slice none 0 0) := (blk_cell BK1068.out 1).trans rfl; have hfz20_0 := blk_frozen BK1068.out 0; have hfz20_1 := blk_frozen BK1068.out 1
    go_wp2
    refine bodyPost_ret (results_ct rfl _ _ gb1068 52 #[.bool false, .slice none 0 0] (0, 0) _ rfl (by (with_reducible repeat (first | refine blk_drewN ?_ _ | refine blk_drew ?_ | refine blk_alloc ?_ _)); refine blk_put (cs := #[.bool false, .slice none 0 0]) ?_ 1 _ rfl; (with_reducible repeat (first | refine blk_drewN ?_ _ | refine blk_drew ?_ | refine blk_alloc ?_ _)); refine blk_put (cs := #[.bool false, .slice none 0 0]) ?_ 0 _ rfl; (with_reducible repeat (first | refine blk_drewN ?_ _ | refine blk_drew ?_ | refine blk_alloc ?_ _)); exact BK1068.out) Try.underlying52 rfl (by kernel_rfl)) rfl ?_
    exact ⟨_, uF, uI, uB⟩
   replace c17 := Bool.eq_false_iff.mpr c17
   subst c17
   have H1 : ((windbreakref03_Neg.f a1_0 l1_1).bind fun bt1071 => ((windbreakref03_Add.f kj4 a0_0 l0_1 bt1071.1 bt1071.2).bind fun bt1075 => (some (bt1075.1, bt1075.2.1, bt1075.2.2)))) = some (r1, r2, r3) := by rw [if_neg (show ¬ (false = true) by decide)] at H; exact H
   clear H; have H := H1; clear H1
   replace H := ub H; obtain ⟨⟨t1071, t1072⟩, A21, H⟩ := H
   (try dsimp only at H)
   replace H := ub H; obtain ⟨⟨t1075, t1076, t1079⟩, A22, H⟩ := H
   (try dsimp only at H)
   simp only [Option.some.injEq, Prod.mk.injEq] at H
   obtain ⟨rfl, rfl, rfl⟩ := H
   try go_wp2
   replace BK1066 := Aside0.mk (blk_drew BK1066.out); replace BK1067 := Aside0.mk (blk_drew BK1067.out); replace BK1068 := Aside0.mk (blk_drew BK1068.out); replace HB := Aside0.mk (below_drew1 HB.out)
   refine start_ (n := 8) (S := fun w' => w'.cell? ⟨gb1066, 0, none⟩ = some (.bool a0_0) ∧ w'.cell? ⟨gb1066, 1, none⟩ = some (.slice A0_1 l0_1.length c0_1) ∧ w'.cell? ⟨gb1067, 0, none⟩ = some (.bool a1_0) ∧ w'.cell? ⟨gb1067, 1, none⟩ = some (.slice A1_1 l1_1.length c1_1)) (ds := []) #[false,false,false,false,false,false,false,false] (by kernel_rfl) rfl rfl ⟨(blk_cell BK1066.out 0).trans rfl, (blk_cell BK1066.out 1).trans rfl, (blk_cell BK1067.out 0).trans rfl, (blk_cell BK1067.out 1).trans rfl⟩ (fun hHeld => ?_); refine with_tabW windbreakref03_Sub.tab5 windbreakref03_Sub.bits5 (fun HT_ HW_ => ?_)
   generalize wc.drew = w23 at BK1066 BK1067 BK1068 HB hHeld ⊢
   refine take_ (i := 0) (N := some 19) (v := ?_) (a' := ?_) #[true,false,false,false,false,false,false,false] rfl rfl (take_ofW HT_.out HW_.out (by kernel_rfl)) (fun _ _ _ h => h) (Or.inl ⟨by rfl, ?_⟩) hHeld ?_ ?_
   rotate_left
   ·
    rintro w' ⟨s0, s1, s2, s3⟩
    go_simp
    with_reducible rfl
   rotate_left
   · exact uQ
   refine take_ (i := 1) (N := some 20) (v := ?_) (a' := ?_) #[true,true,false,false,false,false,false,false] rfl rfl (take_ofW HT_.out HW_.out (by kernel_rfl)) (fun _ _ _ h => h) (Or.inl ⟨by rfl, ?_⟩) hHeld ?_ ?_
   rotate_left
   ·
    rintro w' ⟨s0, s1, s2, s3⟩
    go_simp
    with_reducible rfl
   rotate_left
   · exact uQ
   refine one_ (i := 2) (N := some 21) #[true,true,true,false,false,false,false,false] rfl rfl (one_of HT_.out (by kernel_rfl)) (by decide) (fun K hK => ?_)
   refine goes_ Try.func109 (by kernel_rfl) rfl #[.agg #[.bool a1_0, .slice A1_1 l1_1.length c1_1]] (by rfl) rfl rfl uM ?_
   with_reducible refine (windbreakref03_Neg.calls a1_0 _ _ l1_1 t1071 t1072 _ ?side1 ?side2 A21.out).mono ?_
   (case side1 => exact uC (Kd.C_below HR1_1.out HB.out))
   (case side2 => exact HC1_1.out)
   rintro e w24 ⟨v1073, rfl, ho0, hb⟩
   refine ⟨_, rfl, ?_⟩; have HO1074 := Aside0.mk (Kd.R_lower ho0 (below_size uB)); replace BK1066 := ux BK1066 hb; replace BK1067 := ux BK1067 hb; replace BK1068 := ux BK1068 hb; replace HB := uy hb; (try clear hb ho0)
   obtain ⟨Ao25, co25, eo25⟩ := Kd.R_slice HO1074.out
   (first | subst eo25 | (injection eo25 with f1_ f2_ f3_; have f4_ := f1_.symm; have f5_ := f3_.symm; clear f1_ f2_ f3_; subst f4_; subst f5_))
   refine hK.out _ _ ⟨(blk_cell BK1066.out 0).trans rfl, (blk_cell BK1066.out 1).trans rfl, (blk_cell BK1067.out 0).trans rfl, (blk_cell BK1067.out 1).trans rfl⟩ (fun hHeld => ?_); clear hK K; refine norm_ (a' := ?_) ?_ ?_; rotate_left
   · exact (show Act.put _ (some 21) _ = _ from uQ)
   refine one_ (i := 3) (N := some 22) #[true,true,true,true,false,false,false,false] rfl rfl (one_of HT_.out (by kernel_rfl)) (by decide) (fun K hK => ?_)
   refine goes_ Try.func64 (by kernel_rfl) rfl #[.agg #[.bool a0_0, .slice A0_1 l0_1.length c0_1], .agg #[.bool t1071, .slice Ao25 t1072.length co25]] (by rfl) rfl rfl uM ?_
   with_reducible refine (windbreakref03_Add.calls kj4 a0_0 _ _ l0_1 t1071 _ _ t1072 t1075 t1076 t1079 _ ?side1 ?side2 ?side3 ?side4 A22.out).mono ?_
   (case side1 => exact uC (Kd.C_below HR0_1.out HB.out))
   (case side2 => exact HC0_1.out)
   (case side3 => exact uC (Kd.R_reads' HO1074.out).2.2)
   (case side4 => exact (Kd.R_reads' HO1074.out).2.1)
   rintro e w26 ⟨v1077, rfl, ho0, hb⟩
   refine ⟨_, rfl, ?_⟩; have HO1078 := Aside0.mk (Kd.R_lower (Kd.R_new' ho0 (Kd.R_lt (uR HO1074.out))) (below_size uB)); replace HO1074 := ueR HO1074 ho0 hb; replace BK1066 := ux BK1066 hb; replace BK1067 := ux BK1067 hb; replace BK1068 := ux BK1068 hb; replace HB := uy hb; (try clear hb ho0)
   obtain ⟨Ao28, co28, eo28⟩ := Kd.R_slice HO1078.out
   (first | subst eo28 | (injection eo28 with f1_ f2_ f3_; have f4_ := f1_.symm; have f5_ := f3_.symm; clear f1_ f2_ f3_; subst f4_; subst f5_))
   refine hK.out _ _ ⟨(blk_cell BK1066.out 0).trans rfl, (blk_cell BK1066.out 1).trans rfl, (blk_cell BK1067.out 0).trans rfl, (blk_cell BK1067.out 1).trans rfl⟩ (fun hHeld => ?_); clear hK K; refine norm_ (a' := ?_) ?_ ?_; rotate_left
   · exact (show Act.put _ (some 22) _ = _ from uQ)
   refine pure_ (i := 4) (N := some 23) (v := ?_) (a' := ?_) #[true,true,true,true,true,false,false,false] rfl rfl (any_of HT_.out (by kernel_rfl)) (fun _ _ _ h => h) (Or.inl ⟨by rfl, ?_⟩) ?_ ?_
   rotate_left
   ·
    intro w'
    go_simp
    with_reducible rfl
   rotate_left
   · exact uQ
   refine pure_ (i := 5) (N := some 24) (v := ?_) (a' := ?_) #[true,true,true,true,true,true,false,false] rfl rfl (any_of HT_.out (by kernel_rfl)) (fun _ _ _ h => h) (Or.inl ⟨by rfl, ?_⟩) ?_ ?_
   rotate_left
   ·
    intro w'
    go_simp
    with_reducible rfl
   rotate_left
   · exact uQ
   refine one_ (i := 6) (N := none) #[true,true,true,true,true,true,true,false] rfl rfl (one_of HT_.out (by kernel_rfl)) (by decide) (fun K hK => ?_)
   have hs27 : w26.cell? ⟨gb1068, 0, none⟩ = some (.bool false) := (blk_cell BK1068.out 0).trans rfl
   have hfs27 := blk_frozen BK1068.out 0
   have hns27_0 := NB1066_1068.out
   have hns27_1 := NB1067_1068.out
   have hms27_0 := NB1068_1066.out
   have hms27_1 := NB1068_1067.out
   have hs29 : w26.cell? ⟨gb1068, 1, none⟩ = some (.slice none 0 0) := (blk_cell BK1068.out 1).trans rfl
   have hfs29 := blk_frozen BK1068.out 1
   have hns29_0 := NB1066_1068.out
   have hns29_1 := NB1067_1068.out
   have hms29_0 := NB1068_1066.out
   have hms29_1 := NB1068_1067.out
   refine skip_ (w1 := ?_) (by rfl) rfl ?_ ?_
   rotate_left
   ·
    go_simp
    rfl
   refine hK.out _ _ ⟨((cell_far (p := ⟨gb1068, _, none⟩) NB1066_1068.out _).trans (((cell_far (p := ⟨gb1068, _, none⟩) NB1066_1068.out _).trans (hHeld.1)))), ((cell_far (p := ⟨gb1068, _, none⟩) NB1066_1068.out _).trans (((cell_far (p := ⟨gb1068, _, none⟩) NB1066_1068.out _).trans (hHeld.2.1)))), ((cell_far (p := ⟨gb1068, _, none⟩) NB1067_1068.out _).trans (((cell_far (p := ⟨gb1068, _, none⟩) NB1067_1068.out _).trans (hHeld.2.2.1)))), ((cell_far (p := ⟨gb1068, _, none⟩) NB1067_1068.out _).trans (((cell_far (p := ⟨gb1068, _, none⟩) NB1067_1068.out _).trans (hHeld.2.2.2))))⟩ (fun hHeld => ?_); clear hK K
   refine pure_ (i := 7) (N := some 5) (v := ?_) (a' := ?_) #[true,true,true,true,true,true,true,true] rfl rfl (any_of HT_.out (by kernel_rfl)) (fun _ _ _ h => h) (Or.inl ⟨by rfl, ?_⟩) ?_ ?_
   rotate_left
   ·
    intro w'
    go_simp
    with_reducible rfl
   rotate_left
   · exact uQ
   refine done_ (done_of HT_.out (by kernel_rfl)) ?_
   try go_wp2
   refine bodyPost_ret (results_ct rfl _ _ gb1068 52 #[.bool t1075, .slice Ao28 t1076.length co28] (0, 0) _ rfl (by (with_reducible repeat (first | refine blk_drewN ?_ _ | refine blk_drew ?_ | refine blk_alloc ?_ _)); refine blk_put (cs := #[.bool t1075, .slice none 0 0]) ?_ 1 _ rfl; (with_reducible repeat (first | refine blk_drewN ?_ _ | refine blk_drew ?_ | refine blk_alloc ?_ _)); refine blk_put (cs := #[.bool false, .slice none 0 0]) ?_ 0 _ rfl; (with_reducible repeat (first | refine blk_drewN ?_ _ | refine blk_drew ?_ | refine blk_alloc ?_ _)); exact BK1068.out) Try.underlying52 rfl (by kernel_rfl)) rfl ?_
   exact ⟨_, uF, by (with_reducible repeat (first | apply Kd.R_alloc | apply Kd.R_drewN | apply Kd.R_drew)); exact Kd.R_mono (Kd.R_far (p := ⟨gb1068, 1, none⟩) (Kd.R_far (p := ⟨gb1068, 0, none⟩) (Kd.R_types HO1078.out BK1068.out (by decide)) (fun _ hk => hk.2) (.bool t1075)) (fun _ hk => hk.2) (.slice Ao28 t1076.length co28)) (fun _ hk => trivial), uB⟩
end Go.Proofs.Ytgeanpnkllnipab.F
end
section
namespace Go.Proofs.Ytgeanpnkllnipab.F
open Go.RowKit Go.Proofs.YtgeanpnkllnipabW.PrintWords Go.Proofs.YtgeanpnkllnipabW.PrintLast Go.Proofs.YtgeanpnkllnipabW.PrintMore
attribute [local go_sem] max2_int min2_int max_two min_two max_three min_three max_four min_four
set_option linter.unusedVariables false
set_option linter.unusedSimpArgs false
mutual
def windbreakref01_div.l0 : Nat → List Int → List Int → List Int → List Int → Int → Option (List Int × List Int)
 | 0, _, _, _, _, _ => none
 | k + 1, x0, x1, x6, x7, x8 => if x8 ≥ 0 then (if 0 ≤ x8 then (if x8 < (x0.length : Int) then ((some (([rd x0 x8] : List Int) : List Int)).bind fun y412 => (if y412.length + x7.length < 17592186044416 then ((windbreakref01_cut.f k (y412 ++ x7)).bind fun t418 => (windbreakref01_div.l1 k x0 x1 x6 t418 x8 0 65535)) else (none))) else (none)) else (none)) else ((windbreakref01_cut.f k x6).bind fun t408 => (some (t408, x7)))
def windbreakref01_div.l1 : Nat → List Int → List Int → List Int → List Int → Int → Int → Int → Option (List Int × List Int)
 | 0, _, _, _, _, _, _, _ => none
 | k + 1, x0, x1, x6, x7, x8, x9, x10 => if x9 < x10 then ((windbreakref01_mul.f k x1 (([IntKind.u64.wrap (Int.tdiv (IntKind.u64.wrap ((IntKind.u64.wrap (x9 + x10)) + 1)) 2)] : List Int))).bind fun t434 => ((windbreakref01_compare.f k t434 x7).bind fun t437 => (if t437 ≤ 0 then (windbreakref01_div.l1 k x0 x1 x6 x7 x8 (IntKind.u64.wrap (Int.tdiv (IntKind.u64.wrap ((IntKind.u64.wrap (x9 + x10)) + 1)) 2)) x10) else (windbreakref01_div.l1 k x0 x1 x6 x7 x8 x9 (IntKind.u64.wrap ((IntKind.u64.wrap (Int.tdiv (IntKind.u64.wrap ((IntKind.u64.wrap (x9 + x10)) + 1)) 2)) - 1)))))) else (if 0 ≤ x8 then (if x8 < (x6.length : Int) then ((windbreakref01_mul.f k x1 (([x9] : List Int))).bind fun t425 => ((windbreakref01_sub.f k x7 t425).bind fun t428 => (windbreakref01_div.l0 k x0 x1 (x6.set (x8 : Int).toNat x9) t428 (wrap64 (x8 - 1))))) else (none)) else (none))
end
def windbreakref01_div.f (k : Nat) (l0 : List Int) (l1 : List Int) : Option (List Int × List Int) := if 0 ≤ (l0.length : Int) then (if ((l0.length : Int) : Int).toNat ≤ 35184372088832 then (windbreakref01_div.l0 k l0 l1 (List.replicate ((l0.length : Int) : Int).toNat 0) ([] : List Int) (wrap64 ((l0.length : Int) - 1))) else (none)) else (none)
set_option maxHeartbeats 8000000 in
set_option maxRecDepth 100000 in
theorem windbreakref01_div.calls (k : Nat) (A0 : Option Addr) (c0 : Nat) (l0 : List Int) (A1 : Option Addr) (c1 : Nat) (l1 : List Int) (r1 : List Int) (r2 : List Int) (w : World) (hr0 : Kd.C (Kd.int .u64) w A0 l0.length l0) (hc0 : l0.length ≤ c0) (hr1 : Kd.C (Kd.int .u64) w A1 l1.length l1) (hc1 : l1.length ≤ c1) (h : windbreakref01_div.f k l0 l1 = some (r1, r2)) :
  Calls Try.prog 119 #[.slice A0 l0.length c0, .slice A1 l1.length c1] w fun e w' => ∃ v0_ v1_ : Value, e = .returned (.tuple #[v0_, v1_]) ∧ Kd.R (Kd.int .u64) 27 w' w.heap.size (fun k_ => some k_ ≠ (v1_ : Value).ownBlock) v0_ r1 ∧ Kd.R (Kd.int .u64) 27 w' w.heap.size (fun k_ => some k_ ≠ (v0_ : Value).ownBlock) v1_ r2 ∧ Below w.heap.size w w' := by
 have HR0 := Aside0.mk hr0; have HC0 := Aside0.mk hc0; clear hr0 hc0; have HR1 := Aside0.mk hr1; have HC1 := Aside0.mk hc1; clear hr1 hc1
 have HB := Aside0.mk (Below.refl w.heap.size w)
 have H : (if 0 ≤ (l0.length : Int) then (if ((l0.length : Int) : Int).toNat ≤ 35184372088832 then (windbreakref01_div.l0 k l0 l1 (List.replicate ((l0.length : Int) : Int).toNat 0) ([] : List Int) (wrap64 ((l0.length : Int) - 1))) else (none)) else (none)) = some (r1, r2) := h
 clear h
 replace H := uT H; obtain ⟨c3, H⟩ := H
 have c3b0 := eq_true c3
 have c3b1 : decide (0 ≤ (l0.length : Int)) = true := decide_eq_true c3
 clear c3
 replace H := uT H; obtain ⟨c4, H⟩ := H
 have c4b0 := eq_true c4
 have c4b1 : decide (((l0.length : Int) : Int).toNat ≤ 35184372088832) = true := decide_eq_true c4
 clear c4
 obtain ⟨y405, hy405⟩ : ∃ y_ : List Int, y_ = (List.replicate ((l0.length : Int) : Int).toNat 0) := ⟨_, rfl⟩
 replace H : (windbreakref01_div.l0 k l0 l1 y405 ([] : List Int) (wrap64 ((l0.length : Int) - 1))) = some (r1, r2) := by first | (rw [hy405]; with_reducible exact H) | (have H2_ := (Option.bind_some _ _).symm.trans H; rw [hy405]; with_reducible exact H2_) | (have H2_ := (Option.bind_some _ _).symm.trans H; with_reducible exact H2_) | with_reducible exact H | (rw [hy405]; exact H) | exact H
 have Ny405 := Aside0.mk hy405; clear hy405
 have H' := Aside0.mk H
 clear H
 go_enter Try.func119, Try.ntmps119
 go_wp2_with (first | ((with_reducible refine gate_dst (N := 14) rfl ?_); refine Kd.R_make (Kd.int .u64) _ 27 rfl (N := 14) rfl 70 _ _ rfl (l0.length : Int) rfl rfl Try.underlying70 (.int .u64 0) 8 info27 rfl (by decide) (by omega) 0 (ok := fun _ => True) (okp := fun _ => True) rfl (fun _ hk => hk) trivial uO (Nat.le_trans (Nat.mul_le_mul_right _ (uO : (l0.length : Int).toNat ≤ 35184372088832)) (by omega)) (Below.refl _ _) (Nat.le_refl _) ?_; intro v406 w5 ho6 hb hg_ hnew_; clear hg_ hnew_; (first | rw [← Ny405.out] at ho6 | (simp only [Int.reduceToNat] at ho6; rw [← Ny405.out] at ho6)); have HO407 := Aside0.mk (Kd.R_lower ho6 (below_size uB)); replace HB := uy hb; clear hb ho6))
 go_loopg [7, 8] k (fun kq v7 v8 w' => ∃ (x6_1 : List Int) (x7_1 : List Int) (x8_1 : Int), v8 = .int .i64 x8_1 ∧ Aside0 (windbreakref01_div.l0 kq l0 l1 x6_1 x7_1 x8_1 = some (r1, r2)) ∧ Aside0 (kq ≤ k) ∧ Aside0 (Kd.R (Kd.int .u64) 27 w' w.heap.size (fun k_ => some k_ ≠ (v7 : Value).ownBlock) v406 x6_1) ∧ Aside0 (Kd.R (Kd.int .u64) 27 w' w.heap.size (fun k_ => some k_ ≠ (v406 : Value).ownBlock) v7 x7_1) ∧ Aside0 (Below w.heap.size w w'))
 case atStart => exact ⟨(y405), (([] : List Int)), (wrap64 ((l0.length : Int) - 1)), uG, H', ⟨Nat.le_refl _⟩, ⟨by (with_reducible repeat (first | apply Kd.R_alloc | apply Kd.R_drewN | apply Kd.R_drew)); exact Kd.R_mono HO407.out (fun _ hk => (by simp [Value.ownBlock]))⟩, ⟨uI⟩, ⟨uB⟩⟩
 case round =>
  clear H'
  (try clear c1); (try clear p2); (try clear c3); (try clear c3b0); (try clear c3b1); (try clear c4); (try clear c4b0); (try clear c4b1); (try clear p6)
  obtain ⟨x6_1, x7_1, x8_1, rfl, HA, HK1, HO_6, HO_7, HB⟩ := hrel
  cases gk with
  | zero => exact absurd HA.out (by simp [windbreakref01_div.l0])
  | succ k1 =>
   have H := HA.out
   clear HA
   simp only [windbreakref01_div.l0] at H
   by_cases c7 : x8_1 ≥ 0
   ·
    rw [if_pos c7] at H
    have c7b0 : decide (0 ≤ x8_1) = true := decide_eq_true c7
    clear c7
    replace H := uT H; obtain ⟨c8, H⟩ := H
    have c8b0 : decide (0 ≤ x8_1) = true := decide_eq_true c8
    clear c8
    replace H := uT H; obtain ⟨c9, H⟩ := H
    have c9b0 : decide (x8_1 < (l0.length : Int)) = true := decide_eq_true c9
    clear c9
    obtain ⟨y412, hy412⟩ : ∃ y_ : List Int, y_ = (([rd l0 x8_1] : List Int)) := ⟨_, rfl⟩
    replace H : (if y412.length + x7_1.length < 17592186044416 then ((windbreakref01_cut.f k1 (y412 ++ x7_1)).bind fun t418 => (windbreakref01_div.l1 k1 l0 l1 x6_1 t418 x8_1 0 65535)) else (none)) = some (r1, r2) := by first | (rw [hy412]; with_reducible exact H) | (have H2_ := (Option.bind_some _ _).symm.trans H; rw [hy412]; with_reducible exact H2_) | (have H2_ := (Option.bind_some _ _).symm.trans H; with_reducible exact H2_) | with_reducible exact H | (rw [hy412]; exact H) | exact H
    have Ny412 := Aside0.mk hy412; clear hy412
    replace H := uT H; obtain ⟨c10, H⟩ := H
    have LMc10 := Aside0.mk c10; clear c10
    obtain ⟨y415, hy415⟩ : ∃ y_ : List Int, y_ = (y412 ++ x7_1) := ⟨_, rfl⟩
    replace H : ((windbreakref01_cut.f k1 y415).bind fun t418 => (windbreakref01_div.l1 k1 l0 l1 x6_1 t418 x8_1 0 65535)) = some (r1, r2) := by first | (rw [hy415]; with_reducible exact H) | (have H2_ := (Option.bind_some _ _).symm.trans H; rw [hy415]; with_reducible exact H2_) | (have H2_ := (Option.bind_some _ _).symm.trans H; with_reducible exact H2_) | with_reducible exact H | (rw [hy415]; exact H) | exact H
    have Ny415 := Aside0.mk hy415; clear hy415
    replace H := ub H; obtain ⟨t418, A11, H⟩ := H
    have H' := Aside0.mk H
    clear H
    have p411 : 0 ≤ (x8_1 : Int) := uO
    have q411 : x8_1 < (l0.length : Int) := uO
    obtain ⟨ad411, e411, hx411_0⟩ := Kd.at_int HR0.out x8_1 p411 q411
    cases e411
    replace hx411_0 := (HB.out.cell (World.block_lt_of_cell? w _ hx411_0)).trans hx411_0
    replace p411 := eq_true p411
    replace q411 := eq_true q411
    go_wp2_with (first | ((with_reducible refine gate_dst (N := 26) rfl ?_); refine Kd.R_lit (Kd.int .u64) _ 27 ?hg (N := 26) ?hd (xs := ([rd l0 x8_1] : List Int)) (inner := [.int .u64 (rd l0 x8_1)]) (ok := fun _ => True) (okp := fun _ => True) ?hr ?hp (fun _ hk => hk) trivial (Below.refl _ _) (Nat.le_refl _) (by simp) ?_; (case hd => rfl); (case hg => rfl); (case hr => first | (go_simp; done) | (go_simp; rfl) | (go_simp; simp only [u64_u8]; done) | (go_simp; simp only [u64_u8]; rfl)); (case hp => exact (Reps.one (show Kd.M (Kd.int .u64) _ _ _ (rd l0 x8_1) [.int .u64 (rd l0 x8_1)] from rfl) (Reps.none _ _))); intro v413 w12 ho13 hb hg_ hnew_; clear hg_ hnew_; (first | rw [← Ny412.out] at ho13 | (simp only [Int.reduceToNat] at ho13; rw [← Ny412.out] at ho13)); have HO414 := Aside0.mk (Kd.R_lower (Kd.R_new' (Kd.R_new' ho13 (Kd.R_lt (uR HO_6.out))) (Kd.R_lt (uR HO_7.out))) (below_size uB)); replace HO_6 := ueR HO_6 ho13 hb; replace HO_7 := ueR HO_7 ho13 hb; replace HB := uy hb; clear hb ho13; obtain ⟨Ao15, co15, eo15⟩ := Kd.R_slice HO_7.out; subst eo15) | ((with_reducible refine gate_builtin (b := .append) (xs := #[.tmp 26, .tmp 27]) rfl ?_); at_builtin; refine Kd.R_append_rows (Kd.int .u64) (w0 := w) w.heap.size rfl (.tmp 26) (.tmp 27) 70 27 (.int .u64 0) 8 rfl Try.underlying70 info27 rfl (by decide) (by omega) v413 y412 x7_1 _ _ _ (fun k_ => some k_ ≠ (v406 : Value).ownBlock ∧ some k_ ≠ (.slice Ao15 x7_1.length co15 : Value).ownBlock) (fun _ => False) rfl rfl ?aO ?aR (fun _ _ h => h) (fun _ h => h.elim) ?aF ?aB ?aS ?aL ?_; (case aR => exact uC (Kd.R_reads' HO_7.out).2.2); (case aB => exact uB); (case aF => exact (fun k_ hk => ⟨Kd.fresh' (Kd.R_lt (uR HO_6.out)) k_ hk, Kd.fresh' (Kd.R_lt (uR HO_7.out)) k_ hk⟩)); (case aO => exact (uR (Kd.R_mono HO414.out (fun _ hk => ⟨hk.1.2, hk.2⟩)))); (case aS => exact (below_size uB)); (case aL => have := LMc10.out; omega); intro v416 w14 ho hb hg hat; rw [← Ny415.out] at ho; replace HO_6 := Aside0.mk (Kd.R_after (ok := (fun k_ => some k_ ≠ (.slice Ao15 x7_1.length co15 : Value).ownBlock)) (uR HO_6.out) hg hat); replace HO_7 := Aside0.mk (Kd.R_after (ok := (fun k_ => some k_ ≠ (v406 : Value).ownBlock)) (uR HO_7.out) hg hat); replace HB := Aside0.mk (hb); have HO417 := Aside0.mk (ho); clear HO414; clear ho hb hg hat; obtain ⟨Ao16, co16, eo16⟩ := Kd.R_slice HO417.out; subst eo16) | ((with_reducible refine gate_callee (f := 99) rfl ?_); refine goesL_ (some 29) rfl rfl Try.func99 (by kernel_rfl) rfl #[.slice Ao16 y415.length co16] rfl uM ?_; (with_reducible refine (windbreakref01_cut.calls k1 (fun k_ => some k_ = (.slice Ao16 y415.length co16 : Value).ownBlock) (.slice Ao16 y415.length co16) y415 t418 w _ ?side1 ?side2 A11.out).mono ?_); (case side1 => repeat (first | (with_reducible first | exact HB.out | apply below_alloc | apply pw_below_drewN | apply below_drew1) | exact HB.out)); (case side2 => exact Kd.R_tight rfl HO417.out); rintro e w17 ⟨v419, rfl, ho0, hb, hkp⟩; refine ⟨_, rfl, ?_⟩; have HO420 := Aside0.mk (Kd.R_mono (ok' := fun k_ => some k_ ≠ (v406 : Value).ownBlock ∧ some k_ ≠ (.slice Ao15 x7_1.length co15 : Value).ownBlock) ho0 (fun k_ hk_ => ⟨Or.elim hk_ (fun hs_ => fun e_ => (((HO_6.out).1 k_ e_.symm).2) hs_) (fun hn_ => (Kd.fresh' (Kd.R_lt (uR HO_6.out)) k_ hn_)), Or.elim hk_ (fun hs_ => fun e_ => (((HO_7.out).1 k_ e_.symm).2) hs_) (fun hn_ => (Kd.fresh' (Kd.R_lt (uR HO_7.out)) k_ hn_))⟩)); replace HO_6 := Aside0.mk (Kd.R_mono (ok' := fun k_ => some k_ ≠ (.slice Ao15 x7_1.length co15 : Value).ownBlock ∧ some k_ ≠ (v419 : Value).ownBlock) (Kd.R_keptB (HO_6.out) hkp (fun k_ hk_ hs_ => (hk_.2) hs_)) (fun k_ hk_ => ⟨hk_.1.1, fun e_ => Or.elim (ho0.1 k_ e_.symm) (fun hs_ => hk_.2.1 hs_) (fun hn_ => Nat.not_le.2 hk_.2.2 hn_)⟩)); replace HO_7 := Aside0.mk (Kd.R_mono (ok' := fun k_ => some k_ ≠ (v406 : Value).ownBlock ∧ some k_ ≠ (v419 : Value).ownBlock) (Kd.R_keptB (HO_7.out) hkp (fun k_ hk_ hs_ => (hk_.2) hs_)) (fun k_ hk_ => ⟨hk_.1.1, fun e_ => Or.elim (ho0.1 k_ e_.symm) (fun hs_ => hk_.2.1 hs_) (fun hn_ => Nat.not_le.2 hk_.2.2 hn_)⟩)); replace HB := Aside0.mk (hb); clear HO417; (try clear hb); (try clear hkp); (try clear ho0)))
    go_loopg [9, 10] k1 (fun kq v9 v10 w' => ∃ (x9_2 : Int) (x10_2 : Int), v9 = .int .u64 x9_2 ∧ v10 = .int .u64 x10_2 ∧ Aside0 (windbreakref01_div.l1 kq l0 l1 x6_1 t418 x8_1 x9_2 x10_2 = some (r1, r2)) ∧ Aside0 (kq ≤ k1) ∧ Aside0 (Kd.R (Kd.int .u64) 27 w' w.heap.size (fun k_ => some k_ ≠ (v419 : Value).ownBlock) v406 x6_1) ∧ Aside0 (Kd.R (Kd.int .u64) 27 w' w.heap.size (fun k_ => some k_ ≠ (v406 : Value).ownBlock) v419 t418) ∧ Aside0 (Below w.heap.size w w'))
    case atStart => exact ⟨(0), (65535), uG, uG, H', ⟨Nat.le_refl _⟩, ⟨by (with_reducible repeat (first | apply Kd.R_alloc | apply Kd.R_drewN | apply Kd.R_drew)); exact Kd.R_mono HO_6.out (fun _ hk => hk.2)⟩, ⟨by (with_reducible repeat (first | apply Kd.R_alloc | apply Kd.R_drewN | apply Kd.R_drew)); exact Kd.R_mono HO420.out (fun _ hk => hk.1)⟩, ⟨uB⟩⟩
    case round =>
     clear H'
     (try clear c1); (try clear p2 p2); (try clear c3); (try clear c3b0); (try clear c3b1); (try clear c4); (try clear c4b0); (try clear c4b1); (try clear p4); (try clear q4); (try clear hx4); (try clear p6 p6); (try clear c7); (try clear c7b0); (try clear c8); (try clear c8b0); (try clear c9); (try clear c9b0); (try clear c10); (try clear c11); (try clear hx411_0); (try clear p411); (try clear q411)
     obtain ⟨x9_2, x10_2, rfl, rfl, HA, HK2, HO_6, HO_7, HB⟩ := hrel
     cases gk with
     | zero => exact absurd HA.out (by simp [windbreakref01_div.l1])
     | succ k2 =>
      have H := HA.out
      clear HA
      simp only [windbreakref01_div.l1] at H
      by_cases c18 : x9_2 < x10_2
      ·
       rw [if_pos c18] at H
       have c18b0 : decide (x9_2 < x10_2) = true := decide_eq_true c18
       clear c18
       obtain ⟨y431, hy431⟩ : ∃ y_ : List Int, y_ = (([IntKind.u64.wrap (Int.tdiv (IntKind.u64.wrap ((IntKind.u64.wrap (x9_2 + x10_2)) + 1)) 2)] : List Int)) := ⟨_, rfl⟩
       replace H : ((windbreakref01_mul.f k2 l1 y431).bind fun t434 => ((windbreakref01_compare.f k2 t434 t418).bind fun t437 => (if t437 ≤ 0 then (windbreakref01_div.l1 k2 l0 l1 x6_1 t418 x8_1 (IntKind.u64.wrap (Int.tdiv (IntKind.u64.wrap ((IntKind.u64.wrap (x9_2 + x10_2)) + 1)) 2)) x10_2) else (windbreakref01_div.l1 k2 l0 l1 x6_1 t418 x8_1 x9_2 (IntKind.u64.wrap ((IntKind.u64.wrap (Int.tdiv (IntKind.u64.wrap ((IntKind.u64.wrap (x9_2 + x10_2)) + 1)) 2)) - 1)))))) = some (r1, r2) := by first | (rw [hy431]; with_reducible exact H) | (have H2_ := (Option.bind_some _ _).symm.trans H; rw [hy431]; with_reducible exact H2_) | (have H2_ := (Option.bind_some _ _).symm.trans H; with_reducible exact H2_) | with_reducible exact H | (rw [hy431]; exact H) | exact H
       have Ny431 := Aside0.mk hy431; clear hy431
       replace H := ub H; obtain ⟨t434, A19, H⟩ := H
       replace H := ub H; obtain ⟨t437, A20, H⟩ := H
       by_cases c21 : t437 ≤ 0
       ·
        rw [if_pos c21] at H
        have c21b0 : decide (t437 ≤ 0) = true := decide_eq_true c21
        clear c21
        have H' := Aside0.mk H
        clear H
        go_wp2_with (first | ((with_reducible refine gate_dst (N := 40) rfl ?_); refine Kd.R_lit (Kd.int .u64) _ 27 ?hg (N := 40) ?hd (xs := ([IntKind.u64.wrap (Int.tdiv (IntKind.u64.wrap ((IntKind.u64.wrap (x9_2 + x10_2)) + 1)) 2)] : List Int)) (inner := [.int .u64 (IntKind.u64.wrap (Int.tdiv (IntKind.u64.wrap ((IntKind.u64.wrap (x9_2 + x10_2)) + 1)) 2))]) (ok := fun _ => True) (okp := fun _ => True) ?hr ?hp (fun _ hk => hk) trivial (Below.refl _ _) (Nat.le_refl _) (by simp) ?_; (case hd => rfl); (case hg => rfl); (case hr => first | (go_simp; done) | (go_simp; rfl) | (go_simp; simp only [u64_u8]; done) | (go_simp; simp only [u64_u8]; rfl)); (case hp => exact (Reps.one (show Kd.M (Kd.int .u64) _ _ _ (IntKind.u64.wrap (Int.tdiv (IntKind.u64.wrap ((IntKind.u64.wrap (x9_2 + x10_2)) + 1)) 2)) [.int .u64 (IntKind.u64.wrap (Int.tdiv (IntKind.u64.wrap ((IntKind.u64.wrap (x9_2 + x10_2)) + 1)) 2))] from rfl) (Reps.none _ _))); intro v432 w22 ho23 hb hg_ hnew_; clear hg_ hnew_; (first | rw [← Ny431.out] at ho23 | (simp only [Int.reduceToNat] at ho23; rw [← Ny431.out] at ho23)); have HO433 := Aside0.mk (Kd.R_lower (Kd.R_new' (Kd.R_new' ho23 (Kd.R_lt (uR HO_6.out))) (Kd.R_lt (uR HO_7.out))) (below_size uB)); replace HO_6 := ueR HO_6 ho23 hb; replace HO_7 := ueR HO_7 ho23 hb; replace HB := uy hb; clear hb ho23; obtain ⟨Ao24, co24, eo24⟩ := Kd.R_slice HO433.out; subst eo24) | ((with_reducible refine gate_callee (f := 91) rfl ?_); refine goesL_ (some 41) rfl rfl Try.func91 (by kernel_rfl) rfl #[.slice A1 l1.length c1, .slice Ao24 y431.length co24] rfl uM ?_; (with_reducible refine (windbreakref01_mul.calls k2 _ _ l1 _ _ y431 t434 _ ?side1 ?side2 ?side3 ?side4 A19.out).mono ?_); (case side1 => exact uC (Kd.C_below HR1.out HB.out)); (case side2 => exact HC1.out); (case side3 => exact uC (Kd.R_reads' HO433.out).2.2); (case side4 => exact (Kd.R_reads' HO433.out).2.1); rintro e w25 ⟨v435, rfl, ho0, hb⟩; refine ⟨_, rfl, ?_⟩; have HO436 := Aside0.mk (Kd.R_lower (Kd.R_new' (Kd.R_new' (Kd.R_new' ho0 (Kd.R_lt (uR HO_6.out))) (Kd.R_lt (uR HO_7.out))) (Kd.R_lt (uR HO433.out))) (below_size uB)); replace HO_6 := ueR HO_6 ho0 hb; replace HO_7 := ueR HO_7 ho0 hb; replace HO433 := ueR HO433 ho0 hb; replace HB := uy hb; (try clear hb ho0); obtain ⟨Ao26, co26, eo26⟩ := Kd.R_slice HO436.out; subst eo26; obtain ⟨Ao27, co27, eo27⟩ := Kd.R_slice HO_7.out; subst eo27) | ((with_reducible refine gate_callee (f := 110) rfl ?_); refine goesL_ (some 43) rfl rfl Try.func110 (by kernel_rfl) rfl #[.slice Ao26 t434.length co26, .slice Ao27 t418.length co27] rfl uM ?_; (with_reducible refine (windbreakref01_compare.calls k2 _ _ t434 _ _ t418 t437 _ ?side1 ?side2 ?side3 ?side4 A20.out).mono ?_); (case side1 => exact uC (Kd.R_reads' HO436.out).2.2); (case side2 => exact (Kd.R_reads' HO436.out).2.1); (case side3 => exact uC (Kd.R_reads' HO_7.out).2.2); (case side4 => exact (Kd.R_reads' HO_7.out).2.1); rintro e w' ⟨rfl, ⟨nd, rfl⟩⟩; refine ⟨_, rfl, ?_⟩))
        go_roundg k2
        case measure => have := HK1.out; have := HK2.out; omega
        case rel => exact ⟨(IntKind.u64.wrap (Int.tdiv (IntKind.u64.wrap ((IntKind.u64.wrap (x9_2 + x10_2)) + 1)) 2)), (x10_2), uG, uG, H', ⟨by have := HK1.out; have := HK2.out; omega⟩, ⟨by (with_reducible repeat (first | apply Kd.R_alloc | apply Kd.R_drewN | apply Kd.R_drew)); exact Kd.R_mono HO_6.out (fun _ hk => hk.1.1)⟩, ⟨by (with_reducible repeat (first | apply Kd.R_alloc | apply Kd.R_drewN | apply Kd.R_drew)); exact Kd.R_mono HO_7.out (fun _ hk => hk.1.1)⟩, ⟨uB⟩⟩
       rw [if_neg c21] at H
       have c21b0 : decide (t437 ≤ 0) = false := decide_eq_false c21
       clear c21
       have H' := Aside0.mk H
       clear H
       go_wp2_with (first | ((with_reducible refine gate_dst (N := 40) rfl ?_); refine Kd.R_lit (Kd.int .u64) _ 27 ?hg (N := 40) ?hd (xs := ([IntKind.u64.wrap (Int.tdiv (IntKind.u64.wrap ((IntKind.u64.wrap (x9_2 + x10_2)) + 1)) 2)] : List Int)) (inner := [.int .u64 (IntKind.u64.wrap (Int.tdiv (IntKind.u64.wrap ((IntKind.u64.wrap (x9_2 + x10_2)) + 1)) 2))]) (ok := fun _ => True) (okp := fun _ => True) ?hr ?hp (fun _ hk => hk) trivial (Below.refl _ _) (Nat.le_refl _) (by simp) ?_; (case hd => rfl); (case hg => rfl); (case hr => first | (go_simp; done) | (go_simp; rfl) | (go_simp; simp only [u64_u8]; done) | (go_simp; simp only [u64_u8]; rfl)); (case hp => exact (Reps.one (show Kd.M (Kd.int .u64) _ _ _ (IntKind.u64.wrap (Int.tdiv (IntKind.u64.wrap ((IntKind.u64.wrap (x9_2 + x10_2)) + 1)) 2)) [.int .u64 (IntKind.u64.wrap (Int.tdiv (IntKind.u64.wrap ((IntKind.u64.wrap (x9_2 + x10_2)) + 1)) 2))] from rfl) (Reps.none _ _))); intro v432 w28 ho29 hb hg_ hnew_; clear hg_ hnew_; (first | rw [← Ny431.out] at ho29 | (simp only [Int.reduceToNat] at ho29; rw [← Ny431.out] at ho29)); have HO433 := Aside0.mk (Kd.R_lower (Kd.R_new' (Kd.R_new' ho29 (Kd.R_lt (uR HO_6.out))) (Kd.R_lt (uR HO_7.out))) (below_size uB)); replace HO_6 := ueR HO_6 ho29 hb; replace HO_7 := ueR HO_7 ho29 hb; replace HB := uy hb; clear hb ho29; obtain ⟨Ao30, co30, eo30⟩ := Kd.R_slice HO433.out; subst eo30) | ((with_reducible refine gate_callee (f := 91) rfl ?_); refine goesL_ (some 41) rfl rfl Try.func91 (by kernel_rfl) rfl #[.slice A1 l1.length c1, .slice Ao30 y431.length co30] rfl uM ?_; (with_reducible refine (windbreakref01_mul.calls k2 _ _ l1 _ _ y431 t434 _ ?side1 ?side2 ?side3 ?side4 A19.out).mono ?_); (case side1 => exact uC (Kd.C_below HR1.out HB.out)); (case side2 => exact HC1.out); (case side3 => exact uC (Kd.R_reads' HO433.out).2.2); (case side4 => exact (Kd.R_reads' HO433.out).2.1); rintro e w31 ⟨v435, rfl, ho0, hb⟩; refine ⟨_, rfl, ?_⟩; have HO436 := Aside0.mk (Kd.R_lower (Kd.R_new' (Kd.R_new' (Kd.R_new' ho0 (Kd.R_lt (uR HO_6.out))) (Kd.R_lt (uR HO_7.out))) (Kd.R_lt (uR HO433.out))) (below_size uB)); replace HO_6 := ueR HO_6 ho0 hb; replace HO_7 := ueR HO_7 ho0 hb; replace HO433 := ueR HO433 ho0 hb; replace HB := uy hb; (try clear hb ho0); obtain ⟨Ao32, co32, eo32⟩ := Kd.R_slice HO436.out; subst eo32; obtain ⟨Ao33, co33, eo33⟩ := Kd.R_slice HO_7.out; subst eo33) | ((with_reducible refine gate_callee (f := 110) rfl ?_); refine goesL_ (some 43) rfl rfl Try.func110 (by kernel_rfl) rfl #[.slice Ao32 t434.length co32, .slice Ao33 t418.length co33] rfl uM ?_; (with_reducible refine (windbreakref01_compare.calls k2 _ _ t434 _ _ t418 t437 _ ?side1 ?side2 ?side3 ?side4 A20.out).mono ?_); (case side1 => exact uC (Kd.R_reads' HO436.out).2.2); (case side2 => exact (Kd.R_reads' HO436.out).2.1); (case side3 => exact uC (Kd.R_reads' HO_7.out).2.2); (case side4 => exact (Kd.R_reads' HO_7.out).2.1); rintro e w' ⟨rfl, ⟨nd, rfl⟩⟩; refine ⟨_, rfl, ?_⟩))
       go_roundg k2
       case measure => have := HK1.out; have := HK2.out; omega
       case rel => exact ⟨(x9_2), (IntKind.u64.wrap ((IntKind.u64.wrap (Int.tdiv (IntKind.u64.wrap ((IntKind.u64.wrap (x9_2 + x10_2)) + 1)) 2)) - 1)), uG, uG, H', ⟨by have := HK1.out; have := HK2.out; omega⟩, ⟨by (with_reducible repeat (first | apply Kd.R_alloc | apply Kd.R_drewN | apply Kd.R_drew)); exact Kd.R_mono HO_6.out (fun _ hk => hk.1.1)⟩, ⟨by (with_reducible repeat (first | apply Kd.R_alloc | apply Kd.R_drewN | apply Kd.R_drew)); exact Kd.R_mono HO_7.out (fun _ hk => hk.1.1)⟩, ⟨uB⟩⟩
      rw [if_neg c18] at H
      have c18b0 : decide (x9_2 < x10_2) = false := decide_eq_false c18
      clear c18
      replace H := uT H; obtain ⟨c34, H⟩ := H
      have c34b0 : decide (0 ≤ x8_1) = true := decide_eq_true c34
      clear c34
      replace H := uT H; obtain ⟨c35, H⟩ := H
      have c35b0 : decide (x8_1 < (x6_1.length : Int)) = true := decide_eq_true c35
      clear c35
      obtain ⟨y421, hy421⟩ : ∃ y_ : List Int, y_ = (x6_1.set (x8_1 : Int).toNat x9_2) := ⟨_, rfl⟩
      replace H : ((windbreakref01_mul.f k2 l1 (([x9_2] : List Int))).bind fun t425 => ((windbreakref01_sub.f k2 t418 t425).bind fun t428 => (windbreakref01_div.l0 k2 l0 l1 y421 t428 (wrap64 (x8_1 - 1))))) = some (r1, r2) := by first | (rw [hy421]; with_reducible exact H) | (have H2_ := (Option.bind_some _ _).symm.trans H; rw [hy421]; with_reducible exact H2_) | (have H2_ := (Option.bind_some _ _).symm.trans H; with_reducible exact H2_) | with_reducible exact H | (rw [hy421]; exact H) | exact H
      have Ny421 := Aside0.mk hy421; clear hy421
      obtain ⟨y422, hy422⟩ : ∃ y_ : List Int, y_ = (([x9_2] : List Int)) := ⟨_, rfl⟩
      replace H : ((windbreakref01_mul.f k2 l1 y422).bind fun t425 => ((windbreakref01_sub.f k2 t418 t425).bind fun t428 => (windbreakref01_div.l0 k2 l0 l1 y421 t428 (wrap64 (x8_1 - 1))))) = some (r1, r2) := by first | (rw [hy422]; with_reducible exact H) | (have H2_ := (Option.bind_some _ _).symm.trans H; rw [hy422]; with_reducible exact H2_) | (have H2_ := (Option.bind_some _ _).symm.trans H; with_reducible exact H2_) | with_reducible exact H | (rw [hy422]; exact H) | exact H
      have Ny422 := Aside0.mk hy422; clear hy422
      replace H := ub H; obtain ⟨t425, A37, H⟩ := H
      replace H := ub H; obtain ⟨t428, A38, H⟩ := H
      have H' := Aside0.mk H
      clear H
      have p36 : 0 ≤ (x8_1 : Int) := uO
      have q36 : (x8_1 : Int) < ((x6_1.length : Int) : Int) := uO
      obtain ⟨go36, co36, eo36, gb36, gl36, cl36, HG36⟩ := Kd.R_form HO_6.out (by omega)
      (first | cases eo36 | (injection eo36 with ea_ en_ ec_; (first | subst ea_ | (injection ea_ with ea_; subst ea_)); subst ec_; clear en_))
      have GB36 := Aside0.mk gb36; have GG36 := Aside0.mk HG36; clear gb36 gl36 HG36
      obtain ⟨hx36_0, hf36_0⟩ := Kd.R_celln 0 HO_6.out (x8_1 : Int) p36 q36
      replace p36 := eq_true p36
      replace q36 := eq_true q36
      have HP39 := Kd.R_putg HO_6.out (x8_1 : Int) x9_2
      go_wp2_with (first | ((with_reducible refine gate_store (t := 27) (p := 51) rfl ?_); refine store_event (t := 27) (p := 51) (v := ?vo_w40) (w1 := (wr.setCell ⟨go36, (x8_1 : Int).toNat, none⟩ (.int .u64 x9_2))) ?hg ?ho ?hn ?hr ?_; (case ho => rfl); (case hg => rfl); (case hn => rfl); (case hr => first | (go_simp; done) | (go_simp; rfl) | (obtain ⟨hy_, hz_⟩ := Kd.R_celln 0 HO_6.out (x8_1 : Int) uO uO; (try simp only [Go.IntWalk.toNatUp] at hy_ hz_); (try simp only [Int.reduceToNat, Int.toNat_zero, Int.toNat_ofNat] at hy_ hz_); first | (go_simp; done) | (go_simp; rfl))); intro w40 hw; have hg : wr.grownBy w40 (some go36) := (by rw [hw]; exact HP39.2); have hp_ : Kd.R (Kd.int .u64) 27 w40 w.heap.size (fun k_ => some k_ ≠ (v419 : Value).ownBlock) (.slice (some ⟨go36, 0, none⟩) x6_1.length co36) y421 := (by rw [hw, Ny421.out]; exact HP39.1); clear HP39; replace HO_6 := Aside0.mk (hp_); replace HO_7 := Aside0.mk (Kd.R_after (v := (.slice (some ⟨go36, 0, none⟩) x6_1.length co36)) (v1 := (.slice (some ⟨go36, 0, none⟩) x6_1.length co36)) (ok := (fun _ => True)) (uR (Kd.R_mono HO_7.out (fun _ hk => ⟨trivial, hk⟩))) hg (.inl rfl)); replace HB := Aside0.mk ((by rw [hw]; exact below_set (HB.out) GB36.out : Below w.heap.size w w40)); clear hg hw hp_) | ((with_reducible refine gate_dst (N := 55) rfl ?_); refine Kd.R_lit (Kd.int .u64) _ 27 ?hg (N := 55) ?hd (xs := ([x9_2] : List Int)) (inner := [.int .u64 x9_2]) (ok := fun _ => True) (okp := fun _ => True) ?hr ?hp (fun _ hk => hk) trivial (Below.refl _ _) (Nat.le_refl _) (by simp) ?_; (case hd => rfl); (case hg => rfl); (case hr => first | (go_simp; done) | (go_simp; rfl) | (go_simp; simp only [u64_u8]; done) | (go_simp; simp only [u64_u8]; rfl)); (case hp => exact (Reps.one (show Kd.M (Kd.int .u64) _ _ _ x9_2 [.int .u64 x9_2] from rfl) (Reps.none _ _))); intro v423 w41 ho42 hb hg_ hnew_; clear hg_ hnew_; (first | rw [← Ny422.out] at ho42 | (simp only [Int.reduceToNat] at ho42; rw [← Ny422.out] at ho42)); have HO424 := Aside0.mk (Kd.R_lower (Kd.R_new' (Kd.R_new' ho42 (Kd.R_lt (uR HO_6.out))) (Kd.R_lt (uR HO_7.out))) (below_size uB)); replace HO_6 := ueR HO_6 ho42 hb; replace HO_7 := ueR HO_7 ho42 hb; replace HB := uy hb; clear hb ho42; obtain ⟨Ao43, co43, eo43⟩ := Kd.R_slice HO424.out; subst eo43) | ((with_reducible refine gate_callee (f := 91) rfl ?_); refine goesL_ (some 56) rfl rfl Try.func91 (by kernel_rfl) rfl #[.slice A1 l1.length c1, .slice Ao43 y422.length co43] rfl uM ?_; (with_reducible refine (windbreakref01_mul.calls k2 _ _ l1 _ _ y422 t425 _ ?side1 ?side2 ?side3 ?side4 A37.out).mono ?_); (case side1 => exact uC (Kd.C_below HR1.out HB.out)); (case side2 => exact HC1.out); (case side3 => exact uC (Kd.R_reads' HO424.out).2.2); (case side4 => exact (Kd.R_reads' HO424.out).2.1); rintro e w44 ⟨v426, rfl, ho0, hb⟩; refine ⟨_, rfl, ?_⟩; have HO427 := Aside0.mk (Kd.R_lower (Kd.R_new' (Kd.R_new' (Kd.R_new' ho0 (Kd.R_lt (uR HO_6.out))) (Kd.R_lt (uR HO_7.out))) (Kd.R_lt (uR HO424.out))) (below_size uB)); replace HO_6 := ueR HO_6 ho0 hb; replace HO_7 := ueR HO_7 ho0 hb; replace HO424 := ueR HO424 ho0 hb; replace HB := uy hb; (try clear hb ho0); obtain ⟨Ao45, co45, eo45⟩ := Kd.R_slice HO_7.out; subst eo45; obtain ⟨Ao46, co46, eo46⟩ := Kd.R_slice HO427.out; subst eo46) | ((with_reducible refine gate_callee (f := 126) rfl ?_); refine goesL_ (some 57) rfl rfl Try.func126 (by kernel_rfl) rfl #[.slice Ao45 t418.length co45, .slice Ao46 t425.length co46] rfl uM ?_; (with_reducible refine (windbreakref01_sub.calls k2 _ _ t418 _ _ t425 t428 _ ?side1 ?side2 ?side3 ?side4 A38.out).mono ?_); (case side1 => exact uC (Kd.R_reads' HO_7.out).2.2); (case side2 => exact (Kd.R_reads' HO_7.out).2.1); (case side3 => exact uC (Kd.R_reads' HO427.out).2.2); (case side4 => exact (Kd.R_reads' HO427.out).2.1); rintro e w47 ⟨v429, rfl, ho0, hb⟩; refine ⟨_, rfl, ?_⟩; have HO430 := Aside0.mk (Kd.R_lower (Kd.R_new' (Kd.R_new' (Kd.R_new' (Kd.R_new' ho0 (Kd.R_lt (uR HO_6.out))) (Kd.R_lt (uR HO_7.out))) (Kd.R_lt (uR HO424.out))) (Kd.R_lt (uR HO427.out))) (below_size uB)); replace HO_6 := ueR HO_6 ho0 hb; replace HO_7 := ueR HO_7 ho0 hb; replace HO424 := ueR HO424 ho0 hb; replace HO427 := ueR HO427 ho0 hb; replace HB := uy hb; (try clear hb ho0)))
      go_roundg k2
      case measure => have := HK1.out; have := HK2.out; omega
      case rel => exact ⟨(y421), (t428), (wrap64 (x8_1 - 1)), uG, H', ⟨by have := HK1.out; have := HK2.out; omega⟩, ⟨by (with_reducible repeat (first | apply Kd.R_alloc | apply Kd.R_drewN | apply Kd.R_drew)); exact Kd.R_mono HO_6.out (fun _ hk => hk.2)⟩, ⟨by (with_reducible repeat (first | apply Kd.R_alloc | apply Kd.R_drewN | apply Kd.R_drew)); exact Kd.R_mono HO430.out (fun _ hk => hk.1.1.1.2)⟩, ⟨uB⟩⟩
   rw [if_neg c7] at H
   have c7b0 : decide (0 ≤ x8_1) = false := decide_eq_false c7
   clear c7
   replace H := ub H; obtain ⟨t408, A48, H⟩ := H
   simp only [Option.some.injEq, Prod.mk.injEq] at H
   obtain ⟨rfl, rfl⟩ := H
   obtain ⟨Ao49, co49, eo49⟩ := Kd.R_slice HO_6.out
   subst eo49
   go_wp2_with (first | ((with_reducible refine gate_callee (f := 99) rfl ?_); refine goesL_ (some 59) rfl rfl Try.func99 (by kernel_rfl) rfl #[.slice Ao49 x6_1.length co49] rfl uM ?_; (with_reducible refine (windbreakref01_cut.calls k1 (fun k_ => some k_ = (.slice Ao49 x6_1.length co49 : Value).ownBlock) (.slice Ao49 x6_1.length co49) x6_1 t408 w _ ?side1 ?side2 A48.out).mono ?_); (case side1 => repeat (first | (with_reducible first | exact HB.out | apply below_alloc | apply pw_below_drewN | apply below_drew1) | exact HB.out)); (case side2 => exact Kd.R_tight rfl HO_6.out); rintro e w50 ⟨v409, rfl, ho0, hb, hkp⟩; refine ⟨_, rfl, ?_⟩; have HO410 := Aside0.mk (Kd.R_mono (ok' := fun k_ => some k_ ≠ (u7 : Value).ownBlock) ho0 (fun k_ hk_ => Or.elim hk_ (fun hs_ => fun e_ => (((HO_7.out).1 k_ e_.symm)) hs_) (fun hn_ => (Kd.fresh' (Kd.R_lt (uR HO_7.out)) k_ hn_)))); replace HO_7 := Aside0.mk (Kd.R_mono (ok' := fun k_ => some k_ ≠ (v409 : Value).ownBlock) (Kd.R_keptB (HO_7.out) hkp (fun k_ hk_ hs_ => (hk_) hs_)) (fun k_ hk_ => fun e_ => Or.elim (ho0.1 k_ e_.symm) (fun hs_ => hk_.2.1 hs_) (fun hn_ => Nat.not_le.2 hk_.2.2 hn_))); replace HB := Aside0.mk (hb); clear HO_6; (try clear hb); (try clear hkp); (try clear ho0)))
   go_ret2
   exact ⟨_, _, uF, uR HO410.out, uR HO_7.out, uB⟩
end Go.Proofs.Ytgeanpnkllnipab.F
end
section
namespace Go.Proofs.Ytgeanpnkllnipab.F
open Go.RowKit Go.Proofs.YtgeanpnkllnipabW.PrintWords Go.Proofs.YtgeanpnkllnipabW.PrintLast Go.Proofs.YtgeanpnkllnipabW.PrintMore
attribute [local go_sem] max2_int min2_int max_two min_two max_three min_three max_four min_four
set_option linter.unusedVariables false
set_option linter.unusedSimpArgs false
def windbreakref01_Shr.j0 : Nat → List Int → Int → Bool → Option (List Int × Int)
 | 0, _, _, _ => none
 | k + 1, x0, x1, x16 => if x16 = true then (some (([] : List Int), 1)) else (if x1 ≥ 4096 then (some (([] : List Int), 0)) else ((windbreakref01_In.f k x0).bind fun t439 => ((windbreakref01_power.f k x1).bind fun t442 => ((windbreakref01_div.f k t439 t442).bind fun bt445 => ((windbreakref01_told.f k bt445.1).bind fun bt451 => (some (bt451.1, bt451.2)))))))
def windbreakref01_Shr.f (k : Nat) (l0 : List Int) (a1 : Int) : Option (List Int × Int) := (windbreakref01_Right.f l0).bind fun t438 => (if t438 = true then (windbreakref01_Shr.j0 k l0 a1 (decide (a1 < 0))) else (windbreakref01_Shr.j0 k l0 a1 true))
set_option maxHeartbeats 8000000 in
set_option maxRecDepth 100000 in
theorem windbreakref01_Shr.calls (k : Nat) (A0 : Option Addr) (c0 : Nat) (l0 : List Int) (a1 : Int) (r1 : List Int) (r2 : Int) (w : World) (hr0 : Kd.C (Kd.int .u64) w A0 l0.length l0) (hc0 : l0.length ≤ c0) (h : windbreakref01_Shr.f k l0 a1 = some (r1, r2)) :
  Calls Try.prog 93 #[.slice A0 l0.length c0, .int .i64 a1] w fun e w' => ∃ v0_ : Value, e = .returned (.tuple #[v0_, .int .i64 r2]) ∧ Kd.R (Kd.int .u64) 27 w' w.heap.size (fun _ => True) v0_ r1 ∧ Below w.heap.size w w' := by
 have HR0 := Aside0.mk hr0; have HC0 := Aside0.mk hc0; clear hr0 hc0
 have HB := Aside0.mk (Below.refl w.heap.size w)
 have H : ((windbreakref01_Right.f l0).bind fun t438 => (if t438 = true then (windbreakref01_Shr.j0 k l0 a1 (decide (a1 < 0))) else (windbreakref01_Shr.j0 k l0 a1 true))) = some (r1, r2) := h
 clear h
 replace H := ub H; obtain ⟨t438, A3, H⟩ := H
 have HC4 := Aside0.mk H; clear H
 go_enter Try.func93, Try.ntmps93
 go_upto_region 2 with (first | ((with_reducible refine gate_callee (f := 50) rfl ?_); refine goesL_ (some 10) rfl rfl Try.func50 (by kernel_rfl) rfl #[.slice A0 l0.length c0] rfl uM ?_; (with_reducible refine (windbreakref01_Right.calls _ _ l0 t438 _ ?side1 ?side2 A3.out).mono ?_); (case side1 => exact uC HR0.out); (case side2 => exact HC0.out); rintro e w' ⟨rfl, ⟨nd, rfl⟩⟩; refine ⟨_, rfl, ?_⟩))
 (try simp only [Act.put, List.setIfInBounds_toArray, List.set_cons_zero, List.set_cons_succ])
 go_cut [16] (fun v16 wc => ∃ (kq : Nat) (x16_3 : Bool), v16 = .bool x16_3 ∧ Aside0 (windbreakref01_Shr.j0 kq l0 a1 x16_3 = some (r1, r2)) ∧ Aside0 (kq ≤ k) ∧ Aside0 (Below w.heap.size w wc))
 case first =>
  have H := HC4.out
  clear HC4
  by_cases c5 : t438 = true
  ·
   subst c5
   have H1 : (windbreakref01_Shr.j0 k l0 a1 (decide (a1 < 0))) = some (r1, r2) := by rw [if_pos rfl] at H; exact H
   clear H; have H := H1; clear H1
   have H' := Aside0.mk H
   clear H
   go_wp2
   go_meet
   case rel => exact ⟨_, (decide (a1 < 0)), uG, H', ⟨uW⟩, ⟨uB⟩⟩
  replace c5 := Bool.eq_false_iff.mpr c5
  subst c5
  have H1 : (windbreakref01_Shr.j0 k l0 a1 true) = some (r1, r2) := by rw [if_neg (show ¬ (false = true) by decide)] at H; exact H
  clear H; have H := H1; clear H1
  have H' := Aside0.mk H
  clear H
  go_wp2
  go_meet
  case rel => exact ⟨_, (true), uG, H', ⟨uW⟩, ⟨uB⟩⟩
 case rest =>
  clear HC4; (try clear p2); (try clear c5)
  obtain ⟨kq, x16_3, rfl, HA, HJ3, HB⟩ := hcut
  cases kq with
  | zero => exact absurd HA.out (by simp [windbreakref01_Shr.j0])
  | succ kj3 =>
   have H := HA.out
   clear HA
   simp only [windbreakref01_Shr.j0] at H
   by_cases c6 : x16_3 = true
   ·
    subst c6
    have H1 : (some (([] : List Int), 1)) = some (r1, r2) := by rw [if_pos rfl] at H; exact H
    clear H; have H := H1; clear H1
    simp only [Option.some.injEq, Prod.mk.injEq] at H
    obtain ⟨rfl, rfl⟩ := H
    go_wp2
    go_ret2
    exact ⟨_, uF, uI, uB⟩
   replace c6 := Bool.eq_false_iff.mpr c6
   subst c6
   have H1 : (if a1 ≥ 4096 then (some (([] : List Int), 0)) else ((windbreakref01_In.f kj3 l0).bind fun t439 => ((windbreakref01_power.f kj3 a1).bind fun t442 => ((windbreakref01_div.f kj3 t439 t442).bind fun bt445 => ((windbreakref01_told.f kj3 bt445.1).bind fun bt451 => (some (bt451.1, bt451.2))))))) = some (r1, r2) := by rw [if_neg (show ¬ (false = true) by decide)] at H; exact H
   clear H; have H := H1; clear H1
   by_cases c7 : a1 ≥ 4096
   ·
    rw [if_pos c7] at H
    have c7b0 : decide (4096 ≤ a1) = true := decide_eq_true c7
    clear c7
    simp only [Option.some.injEq, Prod.mk.injEq] at H
    obtain ⟨rfl, rfl⟩ := H
    go_wp2
    go_ret2
    exact ⟨_, uF, uI, uB⟩
   rw [if_neg c7] at H
   have c7b0 : decide (4096 ≤ a1) = false := decide_eq_false c7
   clear c7
   replace H := ub H; obtain ⟨t439, A8, H⟩ := H
   replace H := ub H; obtain ⟨t442, A9, H⟩ := H
   replace H := ub H; obtain ⟨⟨t445, t446⟩, A10, H⟩ := H
   (try dsimp only at H)
   replace H := ub H; obtain ⟨⟨t451, t452⟩, A11, H⟩ := H
   (try dsimp only at H)
   simp only [Option.some.injEq, Prod.mk.injEq] at H
   obtain ⟨rfl, rfl⟩ := H
   go_wp2_with (first | ((with_reducible refine gate_callee (f := 54) rfl ?_); refine goesL_ (some 21) rfl rfl Try.func54 (by kernel_rfl) rfl #[.slice A0 l0.length c0] rfl uM ?_; (with_reducible refine (windbreakref01_In.calls kj3 _ _ l0 t439 _ ?side1 ?side2 A8.out).mono ?_); (case side1 => exact uC (Kd.C_below HR0.out HB.out)); (case side2 => exact HC0.out); rintro e w12 ⟨v440, rfl, ho0, hb⟩; refine ⟨_, rfl, ?_⟩; have HO441 := Aside0.mk (Kd.R_lower ho0 (below_size uB)); replace HB := uy hb; (try clear hb ho0)) | ((with_reducible refine gate_callee (f := 92) rfl ?_); refine goesL_ (some 23) rfl rfl Try.func92 (by kernel_rfl) rfl #[.int .i64 a1] rfl uM ?_; (with_reducible refine (windbreakref01_power.calls kj3 a1 t442 _ A9.out).mono ?_); rintro e w13 ⟨v443, rfl, ho0, hb⟩; refine ⟨_, rfl, ?_⟩; have HO444 := Aside0.mk (Kd.R_lower (Kd.R_new' ho0 (Kd.R_lt (uR HO441.out))) (below_size uB)); replace HO441 := ueR HO441 ho0 hb; replace HB := uy hb; (try clear hb ho0); obtain ⟨Ao14, co14, eo14⟩ := Kd.R_slice HO441.out; subst eo14; obtain ⟨Ao15, co15, eo15⟩ := Kd.R_slice HO444.out; subst eo15) | ((with_reducible refine gate_callee (f := 119) rfl ?_); refine goesL_ (some 24) rfl rfl Try.func119 (by kernel_rfl) rfl #[.slice Ao14 t439.length co14, .slice Ao15 t442.length co15] rfl uM ?_; (with_reducible refine (windbreakref01_div.calls kj3 _ _ t439 _ _ t442 t445 t446 _ ?side1 ?side2 ?side3 ?side4 A10.out).mono ?_); (case side1 => exact uC (Kd.R_reads' HO441.out).2.2); (case side2 => exact (Kd.R_reads' HO441.out).2.1); (case side3 => exact uC (Kd.R_reads' HO444.out).2.2); (case side4 => exact (Kd.R_reads' HO444.out).2.1); rintro e w16 ⟨v447, v449, rfl, ho0, ho1, hb⟩; refine ⟨_, rfl, ?_⟩; have HO448 := Aside0.mk (Kd.R_lower (Kd.R_new' (Kd.R_new' ho0 (Kd.R_lt (uR HO441.out))) (Kd.R_lt (uR HO444.out))) (below_size uB)); have HO450 := Aside0.mk (Kd.R_lower (Kd.R_new' (Kd.R_new' ho1 (Kd.R_lt (uR HO441.out))) (Kd.R_lt (uR HO444.out))) (below_size uB)); replace HO441 := Aside0.mk (Kd.R_mono (Kd.R_told (Kd.R_told (Kd.R_old (uR HO441.out) hb) (Kd.R_base ho0)) (Kd.R_base ho1)) (fun _ h_ => h_.1)); replace HO444 := Aside0.mk (Kd.R_mono (Kd.R_told (Kd.R_told (Kd.R_old (uR HO444.out) hb) (Kd.R_base ho0)) (Kd.R_base ho1)) (fun _ h_ => h_.1)); replace HB := uy hb; (try clear hb ho0 ho1); obtain ⟨Ao17, co17, eo17⟩ := Kd.R_slice HO448.out; subst eo17) | ((with_reducible refine gate_callee (f := 52) rfl ?_); refine goesL_ (some 28) rfl rfl Try.func52 (by kernel_rfl) rfl #[.slice Ao17 t445.length co17] rfl uM ?_; (with_reducible refine (windbreakref01_told.calls kj3 _ _ t445 t451 t452 _ ?side1 ?side2 A11.out).mono ?_); (case side1 => exact uC (Kd.R_reads' HO448.out).2.2); (case side2 => exact (Kd.R_reads' HO448.out).2.1); rintro e w18 ⟨v453, rfl, ho0, hb⟩; refine ⟨_, rfl, ?_⟩; have HO454 := Aside0.mk (Kd.R_lower (Kd.R_new' (Kd.R_new' (Kd.R_new' (Kd.R_new' ho0 (Kd.R_lt (uR HO441.out))) (Kd.R_lt (uR HO444.out))) (Kd.R_lt (uR HO448.out))) (Kd.R_lt (uR HO450.out))) (below_size uB)); replace HO441 := ueR HO441 ho0 hb; replace HO444 := ueR HO444 ho0 hb; replace HO448 := ueR HO448 ho0 hb; replace HO450 := ueR HO450 ho0 hb; replace HB := uy hb; (try clear hb ho0)))
   go_ret2
   exact ⟨_, uF, by (with_reducible repeat (first | apply Kd.R_alloc | apply Kd.R_drewN | apply Kd.R_drew)); exact Kd.R_mono HO454.out (fun _ hk => trivial), uB⟩
def windbreakref07_half.f (k : Nat) (l0 : List Int) : Option (List Int) := (windbreakref01_Of.f 1).bind fun t883 => ((windbreakref01_Sub.f k l0 t883).bind fun bt886 => ((windbreakref01_Shr.f k bt886.1 1).bind fun bt890 => (some bt890.1)))
set_option maxHeartbeats 8000000 in
set_option maxRecDepth 100000 in
theorem windbreakref07_half.calls (k : Nat) (A0 : Option Addr) (c0 : Nat) (l0 : List Int) (r : List Int) (w : World) (hr0 : Kd.C (Kd.int .u64) w A0 l0.length l0) (hc0 : l0.length ≤ c0) (h : windbreakref07_half.f k l0 = some r) :
  Calls Try.prog 73 #[.slice A0 l0.length c0] w fun e w' => ∃ v0_ : Value, e = .returned (v0_) ∧ Kd.R (Kd.int .u64) 27 w' w.heap.size (fun _ => True) v0_ r ∧ Below w.heap.size w w' := by
 have HR0 := Aside0.mk hr0; have HC0 := Aside0.mk hc0; clear hr0 hc0
 have HB := Aside0.mk (Below.refl w.heap.size w)
 have H : ((windbreakref01_Of.f 1).bind fun t883 => ((windbreakref01_Sub.f k l0 t883).bind fun bt886 => ((windbreakref01_Shr.f k bt886.1 1).bind fun bt890 => (some bt890.1)))) = some r := h
 clear h
 replace H := ub H; obtain ⟨t883, A2, H⟩ := H
 replace H := ub H; obtain ⟨⟨t886, t887⟩, A3, H⟩ := H
 (try dsimp only at H)
 replace H := ub H; obtain ⟨⟨t890, t891⟩, A4, H⟩ := H
 (try dsimp only at H)
 obtain rfl := Option.some.inj H
 go_enter Try.func73, Try.ntmps73
 go_wp2_with (first | ((with_reducible refine gate_callee (f := 94) rfl ?_); refine goesL_ (some 9) rfl rfl Try.func94 (by kernel_rfl) rfl #[.int .u64 1] rfl uM ?_; (with_reducible refine (windbreakref01_Of.calls 1 t883 _ A2.out).mono ?_); rintro e w5 ⟨v884, rfl, ho0, hb⟩; refine ⟨_, rfl, ?_⟩; have HO885 := Aside0.mk (Kd.R_lower ho0 (below_size uB)); replace HB := uy hb; (try clear hb ho0); obtain ⟨Ao6, co6, eo6⟩ := Kd.R_slice HO885.out; subst eo6) | ((with_reducible refine gate_callee (f := 105) rfl ?_); refine goesL_ (some 10) rfl rfl Try.func105 (by kernel_rfl) rfl #[.slice A0 l0.length c0, .slice Ao6 t883.length co6] rfl uM ?_; (with_reducible refine (windbreakref01_Sub.calls k _ _ l0 _ _ t883 t886 t887 _ ?side1 ?side2 ?side3 ?side4 A3.out).mono ?_); (case side1 => exact uC (Kd.C_below HR0.out HB.out)); (case side2 => exact HC0.out); (case side3 => exact uC (Kd.R_reads' HO885.out).2.2); (case side4 => exact (Kd.R_reads' HO885.out).2.1); rintro e w7 ⟨v888, rfl, ho0, hb⟩; refine ⟨_, rfl, ?_⟩; have HO889 := Aside0.mk (Kd.R_lower (Kd.R_new' ho0 (Kd.R_lt (uR HO885.out))) (below_size uB)); replace HO885 := ueR HO885 ho0 hb; replace HB := uy hb; (try clear hb ho0); obtain ⟨Ao8, co8, eo8⟩ := Kd.R_slice HO889.out; subst eo8) | ((with_reducible refine gate_callee (f := 93) rfl ?_); refine goesL_ (some 15) rfl rfl Try.func93 (by kernel_rfl) rfl #[.slice Ao8 t886.length co8, .int .i64 1] rfl uM ?_; (with_reducible refine (windbreakref01_Shr.calls k _ _ t886 1 t890 t891 _ ?side1 ?side2 A4.out).mono ?_); (case side1 => exact uC (Kd.R_reads' HO889.out).2.2); (case side2 => exact (Kd.R_reads' HO889.out).2.1); rintro e w9 ⟨v892, rfl, ho0, hb⟩; refine ⟨_, rfl, ?_⟩; have HO893 := Aside0.mk (Kd.R_lower (Kd.R_new' (Kd.R_new' ho0 (Kd.R_lt (uR HO885.out))) (Kd.R_lt (uR HO889.out))) (below_size uB)); replace HO885 := ueR HO885 ho0 hb; replace HO889 := ueR HO889 ho0 hb; replace HB := uy hb; (try clear hb ho0)))
 go_ret
 exact ⟨_, uF, by (with_reducible repeat (first | apply Kd.R_alloc | apply Kd.R_drewN | apply Kd.R_drew)); exact Kd.R_mono HO893.out (fun _ hk => trivial), uB⟩
def windbreakref07_Encode.j0 : Nat → List Int → Bool → Bool → List Int → Option (List Int × Int)
 | 0, _, _, _, _ => none
 | k + 1, x0, x17, x895000, x895001 => if x17 = true then (some (([] : List Int), 1)) else ((windbreakref07_half.f k x0).bind fun t897 => ((windbreakref01_Cmp.f k x895001 t897).bind fun t900 => (if t900 > 0 then (some (([] : List Int), 12)) else (if x895000 = true then ((windbreakref01_Sub.f k x0 x895001).bind fun bt901 => (some (bt901.1, bt901.2))) else ((some (([] : List Int) : List Int)).bind fun y905 => (if y905.length + x895001.length < 17592186044416 then (some ((y905 ++ x895001), 0)) else (none)))))))
def windbreakref07_Encode.f (k : Nat) (l0 : List Int) (a1_0 : Bool) (l1_1 : List Int) : Option (List Int × Int) := (windbreakref07_May.f k l0).bind fun t895 => ((windbreakref03_Right.f a1_0 l1_1).bind fun t896 => (if t895 = true then (windbreakref07_Encode.j0 k l0 (!t896) a1_0 l1_1) else (windbreakref07_Encode.j0 k l0 true a1_0 l1_1)))
def windbreakref07_Decode.j0 : Nat → List Int → List Int → Bool → Option (Bool × List Int × Int)
 | 0, _, _, _ => none
 | k + 1, x0, x1, x24 => if x24 = true then (some (false, ([] : List Int), 10)) else ((windbreakref07_half.f k x0).bind fun t1255 => ((windbreakref01_Cmp.f k x1 t1255).bind fun t1258 => (if t1258 ≤ 0 then ((windbreakref03_From.f false x1).bind fun bt1259 => (some (bt1259.1, bt1259.2, 0))) else ((windbreakref01_Sub.f k x0 x1).bind fun bt1263 => ((windbreakref03_From.f true bt1263.1).bind fun bt1267 => (some (bt1267.1, bt1267.2, 0)))))))
def windbreakref07_Decode.f (k : Nat) (l0 : List Int) (l1 : List Int) : Option (Bool × List Int × Int) := (windbreakref07_May.f k l0).bind fun t1252 => (if t1252 = true then ((windbreakref01_Right.f l1).bind fun t1253 => (if t1253 = true then ((windbreakref01_Cmp.f k l1 l0).bind fun t1254 => (windbreakref07_Decode.j0 k l0 l1 (decide (t1254 ≥ 0)))) else (windbreakref07_Decode.j0 k l0 l1 true))) else (some (false, ([] : List Int), 1)))
end Go.Proofs.Ytgeanpnkllnipab.F
end
section
namespace Go.Proofs.Ytgeanpnkllnipab.F
open Go.RowKit Go.Proofs.YtgeanpnkllnipabW.PrintWords Go.Proofs.YtgeanpnkllnipabW.PrintLast Go.Proofs.YtgeanpnkllnipabW.PrintMore
attribute [local go_sem] max2_int min2_int max_two min_two max_three min_three max_four min_four
set_option linter.unusedVariables false
set_option linter.unusedSimpArgs false
mutual
def windbreakref07_Room.j0 : Nat → List Int → Int → Int → Int → Bool → Option (Int × Int)
 | 0, _, _, _, _, _ => none
 | k + 1, x0, x1, x2, x3, x33 => if x33 = true then (some (0, 1)) else ((windbreakref03_Of.f x1).bind fun bt1081 => ((windbreakref03_Of.f x3).bind fun bt1085 => ((windbreakref03_Mul.f k bt1081.1 bt1081.2 bt1085.1 bt1085.2).bind fun bt1089 => ((windbreakref03_Of.f x1).bind fun bt1095 => ((windbreakref03_Of.f x2).bind fun bt1099 => ((windbreakref03_Mul.f k bt1095.1 bt1095.2 bt1099.1 bt1099.2).bind fun bt1103 => (windbreakref07_Room.l0 k x0 1 bt1089.1 bt1089.2.1 bt1103.1 bt1103.2.1)))))))
def windbreakref07_Room.l0 : Nat → List Int → Int → Bool → List Int → Bool → List Int → Option (Int × Int)
 | 0, _, _, _, _, _, _ => none
 | k + 1, x0, x15, x1095000, x1095001, x1109000, x1109001 => if x15 ≤ 62 then ((windbreakref07_power.f k x15).bind fun bt1109 => ((windbreakref03_Cmp.f k x1095000 x1095001 bt1109.1 bt1109.2).bind fun t1113 => (if t1113 ≥ 0 then (windbreakref07_Room.l0 k x0 (wrap64 (x15 + 1)) x1095000 x1095001 x1109000 x1109001) else ((windbreakref07_power.f k x15).bind fun bt1114 => ((windbreakref03_Mul.f k x1109000 x1109001 bt1114.1 bt1114.2).bind fun bt1118 => ((windbreakref07_power.f k x15).bind fun bt1124 => ((windbreakref03_Add.f k bt1118.1 bt1118.2.1 bt1124.1 bt1124.2).bind fun bt1128 => ((windbreakref03_Of.f 1).bind fun bt1133 => ((windbreakref03_Sub.f k bt1128.1 bt1128.2.1 bt1133.1 bt1133.2).bind fun bt1137 => ((windbreakref07_half.f k x0).bind fun t1142 => ((windbreakref01_Cmp.f k bt1137.2.1 t1142).bind fun t1145 => (if t1145 > 0 then (some (0, 12)) else (some (x15, 0)))))))))))))) else (some (0, 12))
end
def windbreakref07_Room.f (k : Nat) (l0 : List Int) (a1 : Int) (a2 : Int) (a3 : Int) : Option (Int × Int) := (windbreakref07_May.f k l0).bind fun t1080 => (if t1080 = true then (if a1 < 1 then (windbreakref07_Room.j0 k l0 a1 a2 a3 true) else (if a2 < 1 then (windbreakref07_Room.j0 k l0 a1 a2 a3 true) else (windbreakref07_Room.j0 k l0 a1 a2 a3 (decide (a3 < 1))))) else (windbreakref07_Room.j0 k l0 a1 a2 a3 true))
def windbreakref07_Room.T10 : Bool × List (List Nat × List Nat) := (true, [([], []), ([], []), ([1], [1]), ([0, 2, 2], [0, 2]), ([3], [3]), ([4], [4]), ([4], [4]), ([], []), ([7, 5, 3, 0, 1, 2, 3, 4, 5, 7], [5, 7]), ([6, 8, 0, 1, 2, 3, 4, 5, 6, 7, 8], [6])])
def windbreakref07_Room.B10 : List Nat := [0, 0, 2, 7, 15, 31, 31, 0, 191, 511]
theorem windbreakref07_Room.tab10 : rtab .any (opsOf Try.f32 10) = windbreakref07_Room.T10 := by kernel_rfl
theorem windbreakref07_Room.bits10 : waitsOk windbreakref07_Room.T10.2 windbreakref07_Room.B10 = true := by kernel_rfl
def windbreakref07_Room.T11 : Bool × List (List Nat × List Nat) := (true, [([], []), ([], []), ([1], [1]), ([0, 2, 2], [0, 2]), ([3], [3]), ([4], [4]), ([4], [4]), ([5, 3, 0, 1, 2, 3, 4, 5], [5])])
def windbreakref07_Room.B11 : List Nat := [0, 0, 2, 7, 15, 31, 31, 63]
theorem windbreakref07_Room.tab11 : rtab .any (opsOf Try.f32 11) = windbreakref07_Room.T11 := by kernel_rfl
theorem windbreakref07_Room.bits11 : waitsOk windbreakref07_Room.T11.2 windbreakref07_Room.B11 = true := by kernel_rfl
set_option maxHeartbeats 8000000 in
set_option maxRecDepth 100000 in
theorem windbreakref07_Room.calls (k : Nat) (A0 : Option Addr) (c0 : Nat) (l0 : List Int) (a1 : Int) (a2 : Int) (a3 : Int) (r1 : Int) (r2 : Int) (w : World) (hr0 : Kd.C (Kd.int .u64) w A0 l0.length l0) (hc0 : l0.length ≤ c0) (h : windbreakref07_Room.f k l0 a1 a2 a3 = some (r1, r2)) :
  Calls Try.prog 32 #[.slice A0 l0.length c0, .int .i64 a1, .int .i64 a2, .int .i64 a3] w fun e w' => e = .returned (.tuple #[.int .i64 r1, .int .i64 r2]) ∧ Below w.heap.size w w' := by
 have hu52 := Try.underlying52
 have HR0 := Aside0.mk hr0; have HC0 := Aside0.mk hc0; clear hr0 hc0
 have HB := Aside0.mk (Below.refl w.heap.size w)
 have H : ((windbreakref07_May.f k l0).bind fun t1080 => (if t1080 = true then (if a1 < 1 then (windbreakref07_Room.j0 k l0 a1 a2 a3 true) else (if a2 < 1 then (windbreakref07_Room.j0 k l0 a1 a2 a3 true) else (windbreakref07_Room.j0 k l0 a1 a2 a3 (decide (a3 < 1))))) else (windbreakref07_Room.j0 k l0 a1 a2 a3 true))) = some (r1, r2) := h
 clear h
 replace H := ub H; obtain ⟨t1080, A5, H⟩ := H
 have HC6 := Aside0.mk H; clear H
 go_enter Try.func32, Try.ntmps32
 go_upto_region 2 with (first | ((with_reducible refine gate_callee (f := 59) rfl ?_); refine goesL_ (some 19) rfl rfl Try.func59 (by kernel_rfl) rfl #[.slice A0 l0.length c0] rfl uM ?_; (with_reducible refine (windbreakref07_May.calls k _ _ l0 t1080 _ ?side1 ?side2 A5.out).mono ?_); (case side1 => exact uC HR0.out); (case side2 => exact HC0.out); rintro e w7 ⟨rfl, hb⟩; refine ⟨_, rfl, ?_⟩; replace HB := uy hb; (try clear hb)))
 (try simp only [Act.put, List.setIfInBounds_toArray, List.set_cons_zero, List.set_cons_succ])
 go_cut [33] (fun v33 wc => ∃ (kq : Nat) (x33_5 : Bool), v33 = .bool x33_5 ∧ Aside0 (windbreakref07_Room.j0 kq l0 a1 a2 a3 x33_5 = some (r1, r2)) ∧ Aside0 (kq ≤ k) ∧ Aside0 (Below w.heap.size w wc))
 case first =>
  have H := HC6.out
  clear HC6
  by_cases c8 : t1080 = true
  ·
   subst c8
   have H1 : (if a1 < 1 then (windbreakref07_Room.j0 k l0 a1 a2 a3 true) else (if a2 < 1 then (windbreakref07_Room.j0 k l0 a1 a2 a3 true) else (windbreakref07_Room.j0 k l0 a1 a2 a3 (decide (a3 < 1))))) = some (r1, r2) := by rw [if_pos rfl] at H; exact H
   clear H; have H := H1; clear H1
   by_cases c9 : a1 < 1
   ·
    rw [if_pos c9] at H
    have c9b0 : decide (a1 < 1) = true := decide_eq_true c9
    clear c9
    (first | rw [c9b0] | (simp only [i64_w, i32_w]; rw [c9b0]) | skip)
    have H' := Aside0.mk H
    clear H
    go_wp2
    go_meet
    case rel => exact ⟨_, (true), uG, H', ⟨uW⟩, ⟨uB⟩⟩
   rw [if_neg c9] at H
   have c9b0 : decide (a1 < 1) = false := decide_eq_false c9
   clear c9
   (first | rw [c9b0] | (simp only [i64_w, i32_w]; rw [c9b0]) | skip)
   by_cases c10 : a2 < 1
   ·
    rw [if_pos c10] at H
    have c10b0 : decide (a2 < 1) = true := decide_eq_true c10
    clear c10
    have H' := Aside0.mk H
    clear H
    go_wp2
    go_meet
    case rel => exact ⟨_, (true), uG, H', ⟨uW⟩, ⟨uB⟩⟩
   rw [if_neg c10] at H
   have c10b0 : decide (a2 < 1) = false := decide_eq_false c10
   clear c10
   have H' := Aside0.mk H
   clear H
   go_wp2
   go_meet
   case rel => exact ⟨_, (decide (a3 < 1)), uG, H', ⟨uW⟩, ⟨uB⟩⟩
  replace c8 := Bool.eq_false_iff.mpr c8
  subst c8
  have H1 : (windbreakref07_Room.j0 k l0 a1 a2 a3 true) = some (r1, r2) := by rw [if_neg (show ¬ (false = true) by decide)] at H; exact H
  clear H; have H := H1; clear H1
  have H' := Aside0.mk H
  clear H
  go_wp2
  go_meet
  case rel => exact ⟨_, (true), uG, H', ⟨uW⟩, ⟨uB⟩⟩
 case rest =>
  clear HC6; (try clear c1); (try clear p2); (try clear c3); (try clear c5); (try clear c8); (try clear c9); (try clear c9b0); (try clear c10); (try clear c10b0)
  obtain ⟨kq, x33_5, rfl, HA, HJ5, HB⟩ := hcut
  cases kq with
  | zero => exact absurd HA.out (by simp [windbreakref07_Room.j0])
  | succ kj5 =>
   have H := HA.out
   clear HA
   simp only [windbreakref07_Room.j0] at H
   by_cases c11 : x33_5 = true
   ·
    subst c11
    have H1 : (some (0, 1)) = some (r1, r2) := by rw [if_pos rfl] at H; exact H
    clear H; have H := H1; clear H1
    simp only [Option.some.injEq, Prod.mk.injEq] at H
    obtain ⟨rfl, rfl⟩ := H
    go_wp2
    go_ret2
    exact ⟨uF, uB⟩
   replace c11 := Bool.eq_false_iff.mpr c11
   subst c11
   have H1 : ((windbreakref03_Of.f a1).bind fun bt1081 => ((windbreakref03_Of.f a3).bind fun bt1085 => ((windbreakref03_Mul.f kj5 bt1081.1 bt1081.2 bt1085.1 bt1085.2).bind fun bt1089 => ((windbreakref03_Of.f a1).bind fun bt1095 => ((windbreakref03_Of.f a2).bind fun bt1099 => ((windbreakref03_Mul.f kj5 bt1095.1 bt1095.2 bt1099.1 bt1099.2).bind fun bt1103 => (windbreakref07_Room.l0 kj5 l0 1 bt1089.1 bt1089.2.1 bt1103.1 bt1103.2.1))))))) = some (r1, r2) := by rw [if_neg (show ¬ (false = true) by decide)] at H; exact H
   clear H; have H := H1; clear H1
   replace H := ub H; obtain ⟨⟨t1081, t1082⟩, A12, H⟩ := H
   (try dsimp only at H)
   replace H := ub H; obtain ⟨⟨t1085, t1086⟩, A13, H⟩ := H
   (try dsimp only at H)
   replace H := ub H; obtain ⟨⟨t1089, t1090, t1093⟩, A14, H⟩ := H
   (try dsimp only at H)
   replace H := ub H; obtain ⟨⟨t1095, t1096⟩, A15, H⟩ := H
   (try dsimp only at H)
   replace H := ub H; obtain ⟨⟨t1099, t1100⟩, A16, H⟩ := H
   (try dsimp only at H)
   replace H := ub H; obtain ⟨⟨t1103, t1104, t1107⟩, A17, H⟩ := H
   (try dsimp only at H)
   have H' := Aside0.mk H
   clear H
   go_wp2_with (first | ((with_reducible refine gate_callee (f := 61) rfl ?_); refine goesL_ (some 36) rfl rfl Try.func61 (by kernel_rfl) rfl #[.int .i64 a1] rfl uM ?_; (with_reducible refine (windbreakref03_Of.calls a1 t1081 t1082 _ A12.out).mono ?_); rintro e w18 ⟨v1083, rfl, ho0, hb⟩; refine ⟨_, rfl, ?_⟩; have HO1084 := Aside0.mk (Kd.R_lower ho0 (below_size uB)); replace HB := uy hb; (try clear hb ho0)) | ((with_reducible refine gate_callee (f := 61) rfl ?_); refine goesL_ (some 38) rfl rfl Try.func61 (by kernel_rfl) rfl #[.int .i64 a3] rfl uM ?_; (with_reducible refine (windbreakref03_Of.calls a3 t1085 t1086 _ A13.out).mono ?_); rintro e w19 ⟨v1087, rfl, ho0, hb⟩; refine ⟨_, rfl, ?_⟩; have HO1088 := Aside0.mk (Kd.R_lower (Kd.R_new' ho0 (Kd.R_lt (uR HO1084.out))) (below_size uB)); replace HO1084 := ueR HO1084 ho0 hb; replace HB := uy hb; (try clear hb ho0); obtain ⟨Ao20, co20, eo20⟩ := Kd.R_slice HO1084.out; subst eo20; obtain ⟨Ao21, co21, eo21⟩ := Kd.R_slice HO1088.out; subst eo21) | ((with_reducible refine gate_callee (f := 63) rfl ?_); refine goesL_ (some 39) rfl rfl Try.func63 (by kernel_rfl) rfl #[.agg #[.bool t1081, .slice Ao20 t1082.length co20], .agg #[.bool t1085, .slice Ao21 t1086.length co21]] rfl uM ?_; (with_reducible refine (windbreakref03_Mul.calls kj5 t1081 _ _ t1082 t1085 _ _ t1086 t1089 t1090 t1093 _ ?side1 ?side2 ?side3 ?side4 A14.out).mono ?_); (case side1 => exact uC (Kd.R_reads' HO1084.out).2.2); (case side2 => exact (Kd.R_reads' HO1084.out).2.1); (case side3 => exact uC (Kd.R_reads' HO1088.out).2.2); (case side4 => exact (Kd.R_reads' HO1088.out).2.1); rintro e w22 ⟨v1091, rfl, ho0, hb⟩; refine ⟨_, rfl, ?_⟩; have HO1092 := Aside0.mk (Kd.R_lower (Kd.R_new' (Kd.R_new' ho0 (Kd.R_lt (uR HO1084.out))) (Kd.R_lt (uR HO1088.out))) (below_size uB)); replace HO1084 := ueR HO1084 ho0 hb; replace HO1088 := ueR HO1088 ho0 hb; replace HB := uy hb; (try clear hb ho0)) | ((with_reducible refine gate_dst (N := 11) rfl ?_); refine box_event ?hg (N := 11) ?hd (cs := #[.bool false, .slice none 0 0]) (t := 52) ?hr ?_; (case hd => rfl); (case hg => rfl); (case hr => first | (go_simp; done) | (go_simp; rfl)); intro gb1094 hg w23 hbox hb; replace HO1084 := Aside0.mk (Kd.R_below (uR HO1084.out) hb); replace HO1088 := Aside0.mk (Kd.R_below (uR HO1088.out) hb); replace HO1092 := Aside0.mk (Kd.R_below (uR HO1092.out) hb); have BK1094 := Aside0.mk (hbox); have GW1094 := us hg; have GE1094 := us hg; replace HB := uy hb; clear hb hbox hg; have hcz24_0 : w23.cell? ⟨gb1094, 0, none⟩ = some (.bool false) := (blk_cell BK1094.out 0).trans rfl; have hcz24_1 : w23.cell? ⟨gb1094, 1, none⟩ = some (.slice none 0 0) := (blk_cell BK1094.out 1).trans rfl; have hfz24_0 := blk_frozen BK1094.out 0; have hfz24_1 := blk_frozen BK1094.out 1; obtain ⟨Ao25, co25, eo25⟩ := Kd.R_slice HO1092.out; subst eo25) | ((with_reducible refine gate_callee (f := 61) rfl ?_); refine goesL_ (some 44) rfl rfl Try.func61 (by kernel_rfl) rfl #[.int .i64 a1] rfl uM ?_; (with_reducible refine (windbreakref03_Of.calls a1 t1095 t1096 _ A15.out).mono ?_); rintro e w26 ⟨v1097, rfl, ho0, hb⟩; refine ⟨_, rfl, ?_⟩; have HO1098 := Aside0.mk (Kd.R_lower (Kd.R_new' (Kd.R_new' (Kd.R_new' ho0 (Kd.R_lt (uR ((Kd.R_mono (Kd.R_far (p := ⟨gb1094, 1, none⟩) (Kd.R_far (p := ⟨gb1094, 0, none⟩) (Kd.R_types HO1084.out BK1094.out (by decide)) (fun _ hk => hk.2) (.bool t1089)) (fun _ hk => hk.2) (.slice Ao25 t1090.length co25)) (fun _ h_ => h_.1)))))) (Kd.R_lt (uR ((Kd.R_mono (Kd.R_far (p := ⟨gb1094, 1, none⟩) (Kd.R_far (p := ⟨gb1094, 0, none⟩) (Kd.R_types HO1088.out BK1094.out (by decide)) (fun _ hk => hk.2) (.bool t1089)) (fun _ hk => hk.2) (.slice Ao25 t1090.length co25)) (fun _ h_ => h_.1)))))) (Kd.R_lt (uR ((Kd.R_mono (Kd.R_far (p := ⟨gb1094, 1, none⟩) (Kd.R_far (p := ⟨gb1094, 0, none⟩) (Kd.R_types HO1092.out BK1094.out (by decide)) (fun _ hk => hk.2) (.bool t1089)) (fun _ hk => hk.2) (.slice Ao25 t1090.length co25)) (fun _ h_ => h_.1)))))) (below_size uB)); replace HO1084 := Aside0.mk (Kd.R_elder' (uR ((Kd.R_mono (Kd.R_far (p := ⟨gb1094, 1, none⟩) (Kd.R_far (p := ⟨gb1094, 0, none⟩) (Kd.R_types HO1084.out BK1094.out (by decide)) (fun _ hk => hk.2) (.bool t1089)) (fun _ hk => hk.2) (.slice Ao25 t1090.length co25)) (fun _ h_ => h_.1)))) (Kd.R_base ho0) hb); replace HO1088 := Aside0.mk (Kd.R_elder' (uR ((Kd.R_mono (Kd.R_far (p := ⟨gb1094, 1, none⟩) (Kd.R_far (p := ⟨gb1094, 0, none⟩) (Kd.R_types HO1088.out BK1094.out (by decide)) (fun _ hk => hk.2) (.bool t1089)) (fun _ hk => hk.2) (.slice Ao25 t1090.length co25)) (fun _ h_ => h_.1)))) (Kd.R_base ho0) hb); replace HO1092 := Aside0.mk (Kd.R_elder' (uR ((Kd.R_mono (Kd.R_far (p := ⟨gb1094, 1, none⟩) (Kd.R_far (p := ⟨gb1094, 0, none⟩) (Kd.R_types HO1092.out BK1094.out (by decide)) (fun _ hk => hk.2) (.bool t1089)) (fun _ hk => hk.2) (.slice Ao25 t1090.length co25)) (fun _ h_ => h_.1)))) (Kd.R_base ho0) hb); replace BK1094 := Aside0.mk (blk_below (g := gb1094) (o := .cells #[.bool t1089, .slice Ao25 t1090.length co25] 52 (0, 0)) (by (with_reducible repeat (first | refine blk_drewN ?_ _ | refine blk_drew ?_ | refine blk_alloc ?_ _)); refine blk_put (cs := #[.bool t1089, .slice none 0 0]) ?_ 1 _ rfl; (with_reducible repeat (first | refine blk_drewN ?_ _ | refine blk_drew ?_ | refine blk_alloc ?_ _)); refine blk_put (cs := #[.bool false, .slice none 0 0]) ?_ 0 _ rfl; (with_reducible repeat (first | refine blk_drewN ?_ _ | refine blk_drew ?_ | refine blk_alloc ?_ _)); exact BK1094.out) hb); replace HB := uy hb; (try clear hb); (try clear hb2); (try clear hk); (try clear hi); (try clear ho0)) | ((with_reducible refine gate_callee (f := 61) rfl ?_); refine goesL_ (some 46) rfl rfl Try.func61 (by kernel_rfl) rfl #[.int .i64 a2] rfl uM ?_; (with_reducible refine (windbreakref03_Of.calls a2 t1099 t1100 _ A16.out).mono ?_); rintro e w27 ⟨v1101, rfl, ho0, hb⟩; refine ⟨_, rfl, ?_⟩; have HO1102 := Aside0.mk (Kd.R_lower (Kd.R_new' (Kd.R_new' (Kd.R_new' (Kd.R_new' ho0 (Kd.R_lt (uR HO1084.out))) (Kd.R_lt (uR HO1088.out))) (Kd.R_lt (uR HO1092.out))) (Kd.R_lt (uR HO1098.out))) (below_size uB)); replace HO1084 := ueR HO1084 ho0 hb; replace HO1088 := ueR HO1088 ho0 hb; replace HO1092 := ueR HO1092 ho0 hb; replace HO1098 := ueR HO1098 ho0 hb; replace BK1094 := ux BK1094 hb; replace HB := uy hb; (try clear hb ho0); obtain ⟨Ao28, co28, eo28⟩ := Kd.R_slice HO1098.out; subst eo28; obtain ⟨Ao29, co29, eo29⟩ := Kd.R_slice HO1102.out; subst eo29) | ((with_reducible refine gate_callee (f := 63) rfl ?_); refine goesL_ (some 47) rfl rfl Try.func63 (by kernel_rfl) rfl #[.agg #[.bool t1095, .slice Ao28 t1096.length co28], .agg #[.bool t1099, .slice Ao29 t1100.length co29]] rfl uM ?_; (with_reducible refine (windbreakref03_Mul.calls kj5 t1095 _ _ t1096 t1099 _ _ t1100 t1103 t1104 t1107 _ ?side1 ?side2 ?side3 ?side4 A17.out).mono ?_); (case side1 => exact uC (Kd.R_reads' HO1098.out).2.2); (case side2 => exact (Kd.R_reads' HO1098.out).2.1); (case side3 => exact uC (Kd.R_reads' HO1102.out).2.2); (case side4 => exact (Kd.R_reads' HO1102.out).2.1); rintro e w30 ⟨v1105, rfl, ho0, hb⟩; refine ⟨_, rfl, ?_⟩; have HO1106 := Aside0.mk (Kd.R_lower (Kd.R_new' (Kd.R_new' (Kd.R_new' (Kd.R_new' (Kd.R_new' ho0 (Kd.R_lt (uR HO1084.out))) (Kd.R_lt (uR HO1088.out))) (Kd.R_lt (uR HO1092.out))) (Kd.R_lt (uR HO1098.out))) (Kd.R_lt (uR HO1102.out))) (below_size uB)); replace HO1084 := ueR HO1084 ho0 hb; replace HO1088 := ueR HO1088 ho0 hb; replace HO1092 := ueR HO1092 ho0 hb; replace HO1098 := ueR HO1098 ho0 hb; replace HO1102 := ueR HO1102 ho0 hb; replace BK1094 := ux BK1094 hb; replace HB := uy hb; (try clear hb ho0)) | ((with_reducible refine gate_dst (N := 13) rfl ?_); refine box_event ?hg (N := 13) ?hd (cs := #[.bool false, .slice none 0 0]) (t := 52) ?hr ?_; (case hd => rfl); (case hg => rfl); (case hr => first | (go_simp; done) | (go_simp; rfl)); intro gb1108 hg w31 hbox hb; replace HO1084 := Aside0.mk (Kd.R_below (uR HO1084.out) hb); replace HO1088 := Aside0.mk (Kd.R_below (uR HO1088.out) hb); replace HO1092 := Aside0.mk (Kd.R_below (uR HO1092.out) hb); replace HO1098 := Aside0.mk (Kd.R_below (uR HO1098.out) hb); replace HO1102 := Aside0.mk (Kd.R_below (uR HO1102.out) hb); replace HO1106 := Aside0.mk (Kd.R_below (uR HO1106.out) hb); have BK1108 := Aside0.mk (hbox); have GW1108 := us hg; have GE1108 := us hg; replace HB := uy hb; have NB1094_1108 := Aside0.mk ((by rw [hg]; exact Nat.ne_of_lt (blk_lt (uK BK1094.out)) : gb1094 ≠ gb1108)); have NB1108_1094 := Aside0.mk ((by rw [hg]; exact Nat.ne_of_gt (blk_lt (uK BK1094.out)) : gb1108 ≠ gb1094)); replace BK1094 := ux BK1094 hb; clear hb hbox hg; have hnb32 := NB1108_1094.out; have hnc32 := NB1094_1108.out; have hcz33_0 : w31.cell? ⟨gb1108, 0, none⟩ = some (.bool false) := (blk_cell BK1108.out 0).trans rfl; have hcz33_1 : w31.cell? ⟨gb1108, 1, none⟩ = some (.slice none 0 0) := (blk_cell BK1108.out 1).trans rfl; have hfz33_0 := blk_frozen BK1108.out 0; have hfz33_1 := blk_frozen BK1108.out 1; obtain ⟨Ao34, co34, eo34⟩ := Kd.R_slice HO1106.out; subst eo34))
   go_loopg [15] kj5 (fun kq v15 w' => ∃ (x15_2 : Int), v15 = .int .i64 x15_2 ∧ Aside0 (windbreakref07_Room.l0 kq l0 x15_2 t1089 t1090 t1103 t1104 = some (r1, r2)) ∧ Aside0 (kq ≤ kj5) ∧ Aside0 (Kd.R (Kd.int .u64) 27 w' w.heap.size (fun k_ => some k_ ≠ ((.slice Ao34 t1104.length co34) : Value).ownBlock) (.slice Ao25 t1090.length co25) t1090) ∧ Aside0 (Kd.R (Kd.int .u64) 27 w' w.heap.size (fun k_ => some k_ ≠ ((.slice Ao25 t1090.length co25) : Value).ownBlock) (.slice Ao34 t1104.length co34) t1104) ∧ Aside0 (w'.heap[gb1094]? = some (.cells #[.bool t1089, (.slice Ao25 t1090.length co25)] 52 (0, 0))) ∧ Aside0 (w'.heap[gb1108]? = some (.cells #[.bool t1103, (.slice Ao34 t1104.length co34)] 52 (0, 0))) ∧ Aside0 (Below w.heap.size w w'))
   case atStart => exact ⟨(1), uG, H', ⟨Nat.le_refl _⟩, ⟨by (with_reducible repeat (first | apply Kd.R_alloc | apply Kd.R_drewN | apply Kd.R_drew)); exact Kd.R_mono (Kd.R_far (p := ⟨gb1108, 1, none⟩) (Kd.R_far (p := ⟨gb1108, 0, none⟩) (Kd.R_types HO1092.out BK1108.out (by decide)) (fun _ hk => hk.2) (.bool t1103)) (fun _ hk => hk.2) (.slice Ao34 t1104.length co34)) (fun _ hk => hk.1.2)⟩, ⟨by (with_reducible repeat (first | apply Kd.R_alloc | apply Kd.R_drewN | apply Kd.R_drew)); exact Kd.R_mono (Kd.R_far (p := ⟨gb1108, 1, none⟩) (Kd.R_far (p := ⟨gb1108, 0, none⟩) (Kd.R_types HO1106.out BK1108.out (by decide)) (fun _ hk => hk.2) (.bool t1103)) (fun _ hk => hk.2) (.slice Ao34 t1104.length co34)) (fun _ hk => hk.1.1.1.2)⟩, ⟨by (with_reducible repeat (first | refine blk_drewN ?_ _ | refine blk_drew ?_ | refine blk_alloc ?_ _)); refine blk_far ?_ NB1094_1108.out _; (with_reducible repeat (first | refine blk_drewN ?_ _ | refine blk_drew ?_ | refine blk_alloc ?_ _)); refine blk_far ?_ NB1094_1108.out _; (with_reducible repeat (first | refine blk_drewN ?_ _ | refine blk_drew ?_ | refine blk_alloc ?_ _)); exact BK1094.out⟩, ⟨by (with_reducible repeat (first | refine blk_drewN ?_ _ | refine blk_drew ?_ | refine blk_alloc ?_ _)); refine blk_put (cs := #[.bool t1103, .slice none 0 0]) ?_ 1 _ rfl; (with_reducible repeat (first | refine blk_drewN ?_ _ | refine blk_drew ?_ | refine blk_alloc ?_ _)); refine blk_put (cs := #[.bool false, .slice none 0 0]) ?_ 0 _ rfl; (with_reducible repeat (first | refine blk_drewN ?_ _ | refine blk_drew ?_ | refine blk_alloc ?_ _)); exact BK1108.out⟩, ⟨uB⟩⟩
   case round =>
    clear H'
    (try clear c1); (try clear p2 p2); (try clear c3); (try clear c5); (try clear c6); (try clear c8); (try clear c9); (try clear c9b0); (try clear c10); (try clear c10b0); (try clear c11); (try clear c32); (try clear hcz24_0 hcz24_1); (try clear hcz33_0 hcz33_1); (try clear hfz24_0 hfz24_1); (try clear hfz33_0 hfz33_1)
    obtain ⟨x15_2, rfl, HA, HK2, HO_1095001, HO_1109001, BK1094, BK1108, HB⟩ := hrel
    cases gk with
    | zero => exact absurd HA.out (by simp [windbreakref07_Room.l0])
    | succ k2 =>
     have H := HA.out
     clear HA
     simp only [windbreakref07_Room.l0] at H
     by_cases c35 : x15_2 ≤ 62
     ·
      rw [if_pos c35] at H
      have c35b0 : decide (x15_2 ≤ 62) = true := decide_eq_true c35
      clear c35
      replace H := ub H; obtain ⟨⟨t1109, t1110⟩, A36, H⟩ := H
      (try dsimp only at H)
      replace H := ub H; obtain ⟨t1113, A37, H⟩ := H
      by_cases c38 : t1113 ≥ 0
      ·
       rw [if_pos c38] at H
       have c38b0 : decide (0 ≤ t1113) = true := decide_eq_true c38
       clear c38
       have H' := Aside0.mk H
       clear H
       try go_wp2
       replace HO_1095001 := Aside0.mk (Kd.R_drew HO_1095001.out); replace HO_1109001 := Aside0.mk (Kd.R_drew HO_1109001.out); replace BK1094 := Aside0.mk (blk_drew BK1094.out); replace BK1108 := Aside0.mk (blk_drew BK1108.out); replace HB := Aside0.mk (below_drew1 HB.out)
       refine start_ (n := 5) (S := fun w' => w'.cell? ⟨gb1094, 0, none⟩ = some (.bool t1089) ∧ w'.cell? ⟨gb1094, 1, none⟩ = some (.slice Ao25 t1090.length co25)) (ds := []) #[false,false,false,false,false] (by kernel_rfl) rfl rfl ⟨(blk_cell BK1094.out 0).trans rfl, (blk_cell BK1094.out 1).trans rfl⟩ (fun hHeld => ?_)
       generalize wr.drew = w39 at HO_1095001 HO_1109001 BK1094 BK1108 HB hHeld ⊢
       refine pure_ (i := 1) (N := some 55) (v := ?_) (a' := ?_) #[false,true,false,false,false] rfl rfl (by kernel_rfl) (fun _ _ _ h => h) (Or.inl ⟨by rfl, ?_⟩) ?_ ?_
       rotate_left
       ·
        intro w'
        go_simp
        with_reducible rfl
       rotate_left
       · exact uQ
       refine take_ (i := 0) (N := some 54) (v := ?_) (a' := ?_) #[true,true,false,false,false] rfl rfl (by kernel_rfl) (fun _ _ _ h => h) (Or.inl ⟨by rfl, ?_⟩) hHeld ?_ ?_
       rotate_left
       ·
        rintro w' ⟨s0, s1⟩
        go_simp
        with_reducible rfl
       rotate_left
       · exact uQ
       refine one_ (i := 2) (N := some 56) #[true,true,true,false,false] rfl rfl (by kernel_rfl) (by decide) (fun K hK => ?_)
       refine goes_ Try.func62 (by kernel_rfl) rfl #[.int .i64 x15_2] (by rfl) rfl rfl uM ?_
       with_reducible refine (windbreakref07_power.calls k2 x15_2 t1109 t1110 _ A36.out).mono ?_
       rintro e w40 ⟨v1111, rfl, ho0, hb⟩
       refine ⟨_, rfl, ?_⟩; have HO1112 := Aside0.mk (Kd.R_lower (Kd.R_new' (Kd.R_new' ho0 (Kd.R_lt (uR HO_1095001.out))) (Kd.R_lt (uR HO_1109001.out))) (below_size uB)); replace HO_1095001 := ueR HO_1095001 ho0 hb; replace HO_1109001 := ueR HO_1109001 ho0 hb; replace BK1094 := ux BK1094 hb; replace BK1108 := ux BK1108 hb; replace HB := uy hb; (try clear hb ho0)
       obtain ⟨Ao41, co41, eo41⟩ := Kd.R_slice HO1112.out
       (first | subst eo41 | (injection eo41 with f1_ f2_ f3_; have f4_ := f1_.symm; have f5_ := f3_.symm; clear f1_ f2_ f3_; subst f4_; subst f5_))
       refine hK.out _ _ ⟨(blk_cell BK1094.out 0).trans rfl, (blk_cell BK1094.out 1).trans rfl⟩ (fun hHeld => ?_); clear hK K; refine norm_ (a' := ?_) ?_ ?_; rotate_left
       · exact (show Act.put _ (some 56) _ = _ from uQ)
       refine one_ (i := 3) (N := some 57) #[true,true,true,true,false] rfl rfl (by kernel_rfl) (by decide) (fun K hK => ?_)
       refine goes_ Try.func60 (by kernel_rfl) rfl #[.agg #[.bool t1089, .slice Ao25 t1090.length co25], .agg #[.bool t1109, .slice Ao41 t1110.length co41]] (by rfl) rfl rfl uM ?_
       with_reducible refine (windbreakref03_Cmp.calls k2 t1089 _ _ t1090 t1109 _ _ t1110 t1113 _ ?side1 ?side2 ?side3 ?side4 A37.out).mono ?_
       (case side1 => exact uC (Kd.R_reads' HO_1095001.out).2.2)
       (case side2 => exact (Kd.R_reads' HO_1095001.out).2.1)
       (case side3 => exact uC (Kd.R_reads' HO1112.out).2.2)
       (case side4 => exact (Kd.R_reads' HO1112.out).2.1)
       rintro e w42 ⟨rfl, hb⟩
       refine ⟨_, rfl, ?_⟩; replace HO_1095001 := Aside0.mk (Kd.R_below (uR HO_1095001.out) hb); replace HO_1109001 := Aside0.mk (Kd.R_below (uR HO_1109001.out) hb); replace HO1112 := Aside0.mk (Kd.R_below (uR HO1112.out) hb); replace BK1094 := ux BK1094 hb; replace BK1108 := ux BK1108 hb; replace HB := uy hb; (try clear hb); refine hK.out _ _ ⟨(blk_cell BK1094.out 0).trans rfl, (blk_cell BK1094.out 1).trans rfl⟩ (fun hHeld => ?_); clear hK K; refine norm_ (a' := ?_) ?_ ?_; rotate_left
       · exact (show Act.put _ (some 57) _ = _ from uQ)
       refine pure_ (i := 4) (N := some 58) (v := ?_) (a' := ?_) #[true,true,true,true,true] rfl rfl (by kernel_rfl) (fun _ _ _ h => h) (Or.inl ⟨by rfl, ?_⟩) ?_ ?_
       rotate_left
       ·
        intro w'
        go_simp
        with_reducible rfl
       rotate_left
       · exact uQ
       refine done_ (by kernel_rfl) ?_
       try go_wp2
       go_roundg k2
       case measure => have := HJ5.out; have := HK2.out; omega
       case rel => exact ⟨(wrap64 (x15_2 + 1)), uG, H', ⟨by have := HJ5.out; have := HK2.out; omega⟩, ⟨by (with_reducible repeat (first | apply Kd.R_alloc | apply Kd.R_drewN | apply Kd.R_drew)); exact Kd.R_mono HO_1095001.out (fun _ hk => hk.1)⟩, ⟨by (with_reducible repeat (first | apply Kd.R_alloc | apply Kd.R_drewN | apply Kd.R_drew)); exact Kd.R_mono HO_1109001.out (fun _ hk => hk.1)⟩, ⟨uK BK1094.out⟩, ⟨uK BK1108.out⟩, ⟨uB⟩⟩
      rw [if_neg c38] at H
      have c38b0 : decide (0 ≤ t1113) = false := decide_eq_false c38
      clear c38
      replace H := ub H; obtain ⟨⟨t1114, t1115⟩, A43, H⟩ := H
      (try dsimp only at H)
      replace H := ub H; obtain ⟨⟨t1118, t1119, t1122⟩, A44, H⟩ := H
      (try dsimp only at H)
      replace H := ub H; obtain ⟨⟨t1124, t1125⟩, A45, H⟩ := H
      (try dsimp only at H)
      replace H := ub H; obtain ⟨⟨t1128, t1129, t1132⟩, A46, H⟩ := H
      (try dsimp only at H)
      replace H := ub H; obtain ⟨⟨t1133, t1134⟩, A47, H⟩ := H
      (try dsimp only at H)
      replace H := ub H; obtain ⟨⟨t1137, t1138, t1141⟩, A48, H⟩ := H
      (try dsimp only at H)
      replace H := ub H; obtain ⟨t1142, A49, H⟩ := H
      replace H := ub H; obtain ⟨t1145, A50, H⟩ := H
      have HS_ := Aside0.mk H; clear H
      try go_wp2
      replace HO_1095001 := Aside0.mk (Kd.R_drew HO_1095001.out); replace HO_1109001 := Aside0.mk (Kd.R_drew HO_1109001.out); replace BK1094 := Aside0.mk (blk_drew BK1094.out); replace BK1108 := Aside0.mk (blk_drew BK1108.out); replace HB := Aside0.mk (below_drew1 HB.out)
      refine start_ (n := 5) (S := fun w' => w'.cell? ⟨gb1094, 0, none⟩ = some (.bool t1089) ∧ w'.cell? ⟨gb1094, 1, none⟩ = some (.slice Ao25 t1090.length co25)) (ds := []) #[false,false,false,false,false] (by kernel_rfl) rfl rfl ⟨(blk_cell BK1094.out 0).trans rfl, (blk_cell BK1094.out 1).trans rfl⟩ (fun hHeld => ?_)
      generalize wr.drew = w52 at HO_1095001 HO_1109001 BK1094 BK1108 HB hHeld ⊢
      refine pure_ (i := 1) (N := some 55) (v := ?_) (a' := ?_) #[false,true,false,false,false] rfl rfl (by kernel_rfl) (fun _ _ _ h => h) (Or.inl ⟨by rfl, ?_⟩) ?_ ?_
      rotate_left
      ·
       intro w'
       go_simp
       with_reducible rfl
      rotate_left
      · exact uQ
      refine take_ (i := 0) (N := some 54) (v := ?_) (a' := ?_) #[true,true,false,false,false] rfl rfl (by kernel_rfl) (fun _ _ _ h => h) (Or.inl ⟨by rfl, ?_⟩) hHeld ?_ ?_
      rotate_left
      ·
       rintro w' ⟨s0, s1⟩
       go_simp
       with_reducible rfl
      rotate_left
      · exact uQ
      refine one_ (i := 2) (N := some 56) #[true,true,true,false,false] rfl rfl (by kernel_rfl) (by decide) (fun K hK => ?_)
      refine goes_ Try.func62 (by kernel_rfl) rfl #[.int .i64 x15_2] (by rfl) rfl rfl uM ?_
      with_reducible refine (windbreakref07_power.calls k2 x15_2 t1109 t1110 _ A36.out).mono ?_
      rintro e w53 ⟨v1111, rfl, ho0, hb⟩
      refine ⟨_, rfl, ?_⟩; have HO1112 := Aside0.mk (Kd.R_lower (Kd.R_new' (Kd.R_new' ho0 (Kd.R_lt (uR HO_1095001.out))) (Kd.R_lt (uR HO_1109001.out))) (below_size uB)); replace HO_1095001 := ueR HO_1095001 ho0 hb; replace HO_1109001 := ueR HO_1109001 ho0 hb; replace BK1094 := ux BK1094 hb; replace BK1108 := ux BK1108 hb; replace HB := uy hb; (try clear hb ho0)
      obtain ⟨Ao54, co54, eo54⟩ := Kd.R_slice HO1112.out
      (first | subst eo54 | (injection eo54 with f1_ f2_ f3_; have f4_ := f1_.symm; have f5_ := f3_.symm; clear f1_ f2_ f3_; subst f4_; subst f5_))
      refine hK.out _ _ ⟨(blk_cell BK1094.out 0).trans rfl, (blk_cell BK1094.out 1).trans rfl⟩ (fun hHeld => ?_); clear hK K; refine norm_ (a' := ?_) ?_ ?_; rotate_left
      · exact (show Act.put _ (some 56) _ = _ from uQ)
      refine one_ (i := 3) (N := some 57) #[true,true,true,true,false] rfl rfl (by kernel_rfl) (by decide) (fun K hK => ?_)
      refine goes_ Try.func60 (by kernel_rfl) rfl #[.agg #[.bool t1089, .slice Ao25 t1090.length co25], .agg #[.bool t1109, .slice Ao54 t1110.length co54]] (by rfl) rfl rfl uM ?_
      with_reducible refine (windbreakref03_Cmp.calls k2 t1089 _ _ t1090 t1109 _ _ t1110 t1113 _ ?side1 ?side2 ?side3 ?side4 A37.out).mono ?_
      (case side1 => exact uC (Kd.R_reads' HO_1095001.out).2.2)
      (case side2 => exact (Kd.R_reads' HO_1095001.out).2.1)
      (case side3 => exact uC (Kd.R_reads' HO1112.out).2.2)
      (case side4 => exact (Kd.R_reads' HO1112.out).2.1)
      rintro e w55 ⟨rfl, hb⟩
      refine ⟨_, rfl, ?_⟩; replace HO_1095001 := Aside0.mk (Kd.R_below (uR HO_1095001.out) hb); replace HO_1109001 := Aside0.mk (Kd.R_below (uR HO_1109001.out) hb); replace HO1112 := Aside0.mk (Kd.R_below (uR HO1112.out) hb); replace BK1094 := ux BK1094 hb; replace BK1108 := ux BK1108 hb; replace HB := uy hb; (try clear hb); refine hK.out _ _ ⟨(blk_cell BK1094.out 0).trans rfl, (blk_cell BK1094.out 1).trans rfl⟩ (fun hHeld => ?_); clear hK K; refine norm_ (a' := ?_) ?_ ?_; rotate_left
      · exact (show Act.put _ (some 57) _ = _ from uQ)
      refine pure_ (i := 4) (N := some 58) (v := ?_) (a' := ?_) #[true,true,true,true,true] rfl rfl (by kernel_rfl) (fun _ _ _ h => h) (Or.inl ⟨by rfl, ?_⟩) ?_ ?_
      rotate_left
      ·
       intro w'
       go_simp
       with_reducible rfl
      rotate_left
      · exact uQ
      refine done_ (by kernel_rfl) ?_
      try go_wp2
      replace HO_1095001 := Aside0.mk (Kd.R_drew HO_1095001.out); replace HO_1109001 := Aside0.mk (Kd.R_drew HO_1109001.out); replace HO1112 := Aside0.mk (Kd.R_drew HO1112.out); replace BK1094 := Aside0.mk (blk_drew BK1094.out); replace BK1108 := Aside0.mk (blk_drew BK1108.out); replace HB := Aside0.mk (below_drew1 HB.out)
      refine start_ (n := 10) (S := fun w' => w'.cell? ⟨gb1108, 0, none⟩ = some (.bool t1103) ∧ w'.cell? ⟨gb1108, 1, none⟩ = some (.slice Ao34 t1104.length co34)) (ds := []) #[false,false,false,false,false,false,false,false,false,false] (by kernel_rfl) rfl rfl ⟨(blk_cell BK1108.out 0).trans rfl, (blk_cell BK1108.out 1).trans rfl⟩ (fun hHeld => ?_); refine with_tabW windbreakref07_Room.tab10 windbreakref07_Room.bits10 (fun HT_ HW_ => ?_)
      generalize w55.drew = w56 at HO_1095001 HO_1109001 HO1112 BK1094 BK1108 HB hHeld ⊢
      refine pure_ (i := 1) (N := some 61) (v := ?_) (a' := ?_) #[false,true,false,false,false,false,false,false,false,false] rfl rfl (any_of HT_.out (by kernel_rfl)) (fun _ _ _ h => h) (Or.inl ⟨by rfl, ?_⟩) ?_ ?_
      rotate_left
      ·
       intro w'
       go_simp
       with_reducible rfl
      rotate_left
      · exact uQ
      refine take_ (i := 0) (N := some 60) (v := ?_) (a' := ?_) #[true,true,false,false,false,false,false,false,false,false] rfl rfl (take_ofW HT_.out HW_.out (by kernel_rfl)) (fun _ _ _ h => h) (Or.inl ⟨by rfl, ?_⟩) hHeld ?_ ?_
      rotate_left
      ·
       rintro w' ⟨s0, s1⟩
       go_simp
       with_reducible rfl
      rotate_left
      · exact uQ
      refine join_ (σ := Value × Value × Nat) 2 #[true,true,true,true,true,true,true,true,false,false] (fun s_ => [(62, .agg #[.bool t1114, s_.1]), (63, .tuple #[.agg #[.bool t1118, s_.2.1], .int .i64 t1122]), (16, .pointer (some ⟨s_.2.2, 0, none⟩)), (59, .tuple #[.agg #[.bool t1118, s_.2.1], .int .i64 t1122]), (64, .agg #[.bool t1118, s_.2.1]), (65, .int .i64 t1122)]) (fun s_ w' => (w'.cell? ⟨gb1108, 0, none⟩ = some (.bool t1103) ∧ w'.cell? ⟨gb1108, 1, none⟩ = some (.slice Ao34 t1104.length co34)) ∧ (Kd.R (Kd.int .u64) 27 w' w.heap.size (fun k_ => some k_ ≠ (s_.1 : Value).ownBlock ∧ some k_ ≠ (s_.2.1 : Value).ownBlock ∧ some k_ ≠ (.slice Ao25 t1090.length co25 : Value).ownBlock ∧ some k_ ≠ (.slice Ao34 t1104.length co34 : Value).ownBlock) (.slice Ao54 t1110.length co54) t1110) ∧ (Kd.R (Kd.int .u64) 27 w' w.heap.size (fun k_ => some k_ ≠ (.slice Ao54 t1110.length co54 : Value).ownBlock ∧ some k_ ≠ (s_.2.1 : Value).ownBlock ∧ some k_ ≠ (.slice Ao25 t1090.length co25 : Value).ownBlock ∧ some k_ ≠ (.slice Ao34 t1104.length co34 : Value).ownBlock) s_.1 t1115) ∧ (Kd.R (Kd.int .u64) 27 w' w.heap.size (fun k_ => some k_ ≠ (.slice Ao54 t1110.length co54 : Value).ownBlock ∧ some k_ ≠ (s_.1 : Value).ownBlock ∧ some k_ ≠ (.slice Ao25 t1090.length co25 : Value).ownBlock ∧ some k_ ≠ (.slice Ao34 t1104.length co34 : Value).ownBlock) s_.2.1 t1119) ∧ (Kd.R (Kd.int .u64) 27 w' w.heap.size (fun k_ => some k_ ≠ (.slice Ao54 t1110.length co54 : Value).ownBlock ∧ some k_ ≠ (s_.1 : Value).ownBlock ∧ some k_ ≠ (s_.2.1 : Value).ownBlock ∧ some k_ ≠ (.slice Ao34 t1104.length co34 : Value).ownBlock) (.slice Ao25 t1090.length co25) t1090) ∧ (Kd.R (Kd.int .u64) 27 w' w.heap.size (fun k_ => some k_ ≠ (.slice Ao54 t1110.length co54 : Value).ownBlock ∧ some k_ ≠ (s_.1 : Value).ownBlock ∧ some k_ ≠ (s_.2.1 : Value).ownBlock ∧ some k_ ≠ (.slice Ao25 t1090.length co25 : Value).ownBlock) (.slice Ao34 t1104.length co34) t1104) ∧ (w'.heap[gb1094]? = some (.cells #[.bool t1089, .slice Ao25 t1090.length co25] 52 (0, 0))) ∧ (w'.heap[gb1108]? = some (.cells #[.bool t1103, .slice Ao34 t1104.length co34] 52 (0, 0))) ∧ (w'.heap[s_.2.2]? = some (.cells #[.bool false, .slice none 0 0] 52 (0, 0))) ∧ (w.heap.size ≤ s_.2.2) ∧ (w.heap.size ≤ s_.2.2) ∧ (gb1094 ≠ s_.2.2) ∧ (s_.2.2 ≠ gb1094) ∧ (gb1108 ≠ s_.2.2) ∧ (s_.2.2 ≠ gb1108) ∧ (Below w.heap.size w w')) ?_ ?_
      rotate_left
      ·
       intro hCont
       refine two_ (i := 2) (j := 7) (Ni := some 62) (Nj := some 16) #[true,true,true,false,false,false,false,false,false,false] #[true,true,false,false,false,false,false,true,false,false] rfl rfl rfl rfl (two_of HT_.out (by kernel_rfl)) (by decide) (by decide) (fun K hK => ?_) (fun K hK => ?_)
       ·
        refine goes_ Try.func62 (by kernel_rfl) rfl #[.int .i64 x15_2] (by rfl) rfl rfl uM ?_
        with_reducible refine (windbreakref07_power.calls k2 x15_2 t1114 t1115 _ A43.out).mono ?_
        rintro e w57 ⟨v1116, rfl, ho0, hb⟩
        refine ⟨_, rfl, ?_⟩; have HO1117 := Aside0.mk (Kd.R_lower (Kd.R_new' (Kd.R_new' (Kd.R_new' ho0 (Kd.R_lt (uR HO_1095001.out))) (Kd.R_lt (uR HO_1109001.out))) (Kd.R_lt (uR HO1112.out))) (below_size uB)); replace HO_1095001 := ueR HO_1095001 ho0 hb; replace HO_1109001 := ueR HO_1109001 ho0 hb; replace HO1112 := ueR HO1112 ho0 hb; replace BK1094 := ux BK1094 hb; replace BK1108 := ux BK1108 hb; replace HB := uy hb; (try clear hb ho0)
        obtain ⟨Ao58, co58, eo58⟩ := Kd.R_slice HO1117.out
        (first | subst eo58 | (injection eo58 with f1_ f2_ f3_; have f4_ := f1_.symm; have f5_ := f3_.symm; clear f1_ f2_ f3_; subst f4_; subst f5_))
        refine hK.out _ _ ⟨(blk_cell BK1108.out 0).trans rfl, (blk_cell BK1108.out 1).trans rfl⟩ (fun hHeld => ?_); clear hK K; refine norm_ (a' := ?_) ?_ ?_; rotate_left
        · exact (show Act.put _ (some 62) _ = _ from uQ)
        refine two_ (i := 3) (j := 7) (Ni := some 63) (Nj := some 16) #[true,true,true,true,false,false,false,false,false,false] #[true,true,true,false,false,false,false,true,false,false] rfl rfl rfl rfl (two_of HT_.out (by kernel_rfl)) (by decide) (by decide) (fun K hK => ?_) (fun K hK => ?_)
        ·
         refine goes_ Try.func63 (by kernel_rfl) rfl #[.agg #[.bool t1103, .slice Ao34 t1104.length co34], .agg #[.bool t1114, .slice Ao58 t1115.length co58]] (by rfl) rfl rfl uM ?_
         with_reducible refine (windbreakref03_Mul.calls k2 t1103 _ _ t1104 t1114 _ _ t1115 t1118 t1119 t1122 _ ?side1 ?side2 ?side3 ?side4 A44.out).mono ?_
         (case side1 => exact uC (Kd.R_reads' HO_1109001.out).2.2)
         (case side2 => exact (Kd.R_reads' HO_1109001.out).2.1)
         (case side3 => exact uC (Kd.R_reads' HO1117.out).2.2)
         (case side4 => exact (Kd.R_reads' HO1117.out).2.1)
         rintro e w59 ⟨v1120, rfl, ho0, hb⟩
         refine ⟨_, rfl, ?_⟩; have HO1121 := Aside0.mk (Kd.R_lower (Kd.R_new' (Kd.R_new' (Kd.R_new' (Kd.R_new' ho0 (Kd.R_lt (uR HO_1095001.out))) (Kd.R_lt (uR HO_1109001.out))) (Kd.R_lt (uR HO1112.out))) (Kd.R_lt (uR HO1117.out))) (below_size uB)); replace HO_1095001 := ueR HO_1095001 ho0 hb; replace HO_1109001 := ueR HO_1109001 ho0 hb; replace HO1112 := ueR HO1112 ho0 hb; replace HO1117 := ueR HO1117 ho0 hb; replace BK1094 := ux BK1094 hb; replace BK1108 := ux BK1108 hb; replace HB := uy hb; (try clear hb ho0); refine hK.out _ _ ⟨(blk_cell BK1108.out 0).trans rfl, (blk_cell BK1108.out 1).trans rfl⟩ (fun hHeld => ?_); clear hK K; refine norm_ (a' := ?_) ?_ ?_; rotate_left
         · exact (show Act.put _ (some 63) _ = _ from uQ)
         refine pure_ (i := 4) (N := some 59) (v := ?_) (a' := ?_) #[true,true,true,true,true,false,false,false,false,false] rfl rfl (any_of HT_.out (by kernel_rfl)) (fun _ _ _ h => h) (Or.inl ⟨by rfl, ?_⟩) ?_ ?_
         rotate_left
         ·
          intro w'
          go_simp
          with_reducible rfl
         rotate_left
         · exact uQ
         refine pure_ (i := 5) (N := some 64) (v := ?_) (a' := ?_) #[true,true,true,true,true,true,false,false,false,false] rfl rfl (any_of HT_.out (by kernel_rfl)) (fun _ _ _ h => h) (Or.inl ⟨by rfl, ?_⟩) ?_ ?_
         rotate_left
         ·
          intro w'
          go_simp
          with_reducible rfl
         rotate_left
         · exact uQ
         refine pure_ (i := 6) (N := some 65) (v := ?_) (a' := ?_) #[true,true,true,true,true,true,true,false,false,false] rfl rfl (any_of HT_.out (by kernel_rfl)) (fun _ _ _ h => h) (Or.inl ⟨by rfl, ?_⟩) ?_ ?_
         rotate_left
         ·
          intro w'
          go_simp
          with_reducible rfl
         rotate_left
         · exact uQ
         refine one_ (i := 7) (N := some 16) #[true,true,true,true,true,true,true,true,false,false] rfl rfl (one_of HT_.out (by kernel_rfl)) (by decide) (fun K hK => ?_)
         refine box_step ?hg (N := 16) ?hd (cs := #[.bool false, .slice none 0 0]) (t := 52) ?hr ?_; (case hd => rfl); (case hg => rfl); (case hr => first | (go_simp; done) | (go_simp; rfl))
         intro gb1123 hg w60 hbox hb; replace HO_1095001 := Aside0.mk (Kd.R_below (uR HO_1095001.out) hb); replace HO_1109001 := Aside0.mk (Kd.R_below (uR HO_1109001.out) hb); replace HO1112 := Aside0.mk (Kd.R_below (uR HO1112.out) hb); replace HO1117 := Aside0.mk (Kd.R_below (uR HO1117.out) hb); replace HO1121 := Aside0.mk (Kd.R_below (uR HO1121.out) hb); have BK1123 := Aside0.mk (hbox); have GW1123 := us hg; have GE1123 := us hg; replace HB := uy hb; have NB1094_1123 := Aside0.mk ((by rw [hg]; exact Nat.ne_of_lt (blk_lt (uK BK1094.out)) : gb1094 ≠ gb1123)); have NB1123_1094 := Aside0.mk ((by rw [hg]; exact Nat.ne_of_gt (blk_lt (uK BK1094.out)) : gb1123 ≠ gb1094)); replace BK1094 := ux BK1094 hb; have NB1108_1123 := Aside0.mk ((by rw [hg]; exact Nat.ne_of_lt (blk_lt (uK BK1108.out)) : gb1108 ≠ gb1123)); have NB1123_1108 := Aside0.mk ((by rw [hg]; exact Nat.ne_of_gt (blk_lt (uK BK1108.out)) : gb1123 ≠ gb1108)); replace BK1108 := ux BK1108 hb; clear hb hbox hg; refine hK.out _ _ ⟨(blk_cell BK1108.out 0).trans rfl, (blk_cell BK1108.out 1).trans rfl⟩ (fun hHeld => ?_); clear hK K; refine norm_ (a' := ?_) ?_ ?_; rotate_left
         · exact (show Act.put _ (some 16) _ = _ from uQ)
         exact norm_ (by simp only [putAll, Act.put, List.setIfInBounds_toArray, List.set_cons_zero, List.set_cons_succ]) (hCont (.slice Ao58 t1115.length co58, v1120, gb1123) _ ⟨hHeld, (uR (Kd.R_mono HO1112.out (fun _ hk => ⟨hk.1.2, ⟨hk.2, ⟨hk.1.1.1.2, hk.1.1.2⟩⟩⟩))), (uR (Kd.R_mono HO1117.out (fun _ hk => ⟨hk.1.2, ⟨hk.2, ⟨hk.1.1.1.2, hk.1.1.2⟩⟩⟩))), (uR (Kd.R_mono HO1121.out (fun _ hk => ⟨hk.1.2, ⟨hk.2, ⟨hk.1.1.1.2, hk.1.1.2⟩⟩⟩))), (uR (Kd.R_mono HO_1095001.out (fun _ hk => ⟨hk.1.1.2, ⟨hk.1.2, ⟨hk.2, hk.1.1.1⟩⟩⟩))), (uR (Kd.R_mono HO_1109001.out (fun _ hk => ⟨hk.1.1.2, ⟨hk.1.2, ⟨hk.2, hk.1.1.1⟩⟩⟩))), (uK BK1094.out), (uK BK1108.out), (uK BK1123.out), GW1123.out, GE1123.out, NB1094_1123.out, NB1123_1094.out, NB1108_1123.out, NB1123_1108.out, uB⟩)
        refine box_step ?hg (N := 16) ?hd (cs := #[.bool false, .slice none 0 0]) (t := 52) ?hr ?_; (case hd => rfl); (case hg => rfl); (case hr => first | (go_simp; done) | (go_simp; rfl))
        intro gb1123 hg w58 hbox hb; replace HO_1095001 := Aside0.mk (Kd.R_below (uR HO_1095001.out) hb); replace HO_1109001 := Aside0.mk (Kd.R_below (uR HO_1109001.out) hb); replace HO1112 := Aside0.mk (Kd.R_below (uR HO1112.out) hb); replace HO1117 := Aside0.mk (Kd.R_below (uR HO1117.out) hb); have BK1123 := Aside0.mk (hbox); have GW1123 := us hg; have GE1123 := us hg; replace HB := uy hb; have NB1094_1123 := Aside0.mk ((by rw [hg]; exact Nat.ne_of_lt (blk_lt (uK BK1094.out)) : gb1094 ≠ gb1123)); have NB1123_1094 := Aside0.mk ((by rw [hg]; exact Nat.ne_of_gt (blk_lt (uK BK1094.out)) : gb1123 ≠ gb1094)); replace BK1094 := ux BK1094 hb; have NB1108_1123 := Aside0.mk ((by rw [hg]; exact Nat.ne_of_lt (blk_lt (uK BK1108.out)) : gb1108 ≠ gb1123)); have NB1123_1108 := Aside0.mk ((by rw [hg]; exact Nat.ne_of_gt (blk_lt (uK BK1108.out)) : gb1123 ≠ gb1108)); replace BK1108 := ux BK1108 hb; clear hb hbox hg
        obtain ⟨Ao59, co59, eo59⟩ := Kd.R_slice HO1117.out
        (first | subst eo59 | (injection eo59 with f1_ f2_ f3_; have f4_ := f1_.symm; have f5_ := f3_.symm; clear f1_ f2_ f3_; subst f4_; subst f5_))
        refine hK.out _ _ ⟨(blk_cell BK1108.out 0).trans rfl, (blk_cell BK1108.out 1).trans rfl⟩ (fun hHeld => ?_); clear hK K; refine norm_ (a' := ?_) ?_ ?_; rotate_left
        · exact (show Act.put _ (some 16) _ = _ from uQ)
        refine one_ (i := 3) (N := some 63) #[true,true,true,true,false,false,false,true,false,false] rfl rfl (one_of HT_.out (by kernel_rfl)) (by decide) (fun K hK => ?_)
        refine goes_ Try.func63 (by kernel_rfl) rfl #[.agg #[.bool t1103, .slice Ao34 t1104.length co34], .agg #[.bool t1114, .slice Ao59 t1115.length co59]] (by rfl) rfl rfl uM ?_
        with_reducible refine (windbreakref03_Mul.calls k2 t1103 _ _ t1104 t1114 _ _ t1115 t1118 t1119 t1122 _ ?side1 ?side2 ?side3 ?side4 A44.out).mono ?_
        (case side1 => exact uC (Kd.R_reads' HO_1109001.out).2.2)
        (case side2 => exact (Kd.R_reads' HO_1109001.out).2.1)
        (case side3 => exact uC (Kd.R_reads' HO1117.out).2.2)
        (case side4 => exact (Kd.R_reads' HO1117.out).2.1)
        rintro e w60 ⟨v1120, rfl, ho0, hb⟩
        refine ⟨_, rfl, ?_⟩; have HO1121 := Aside0.mk (Kd.R_lower (Kd.R_new' (Kd.R_new' (Kd.R_new' (Kd.R_new' ho0 (Kd.R_lt (uR HO_1095001.out))) (Kd.R_lt (uR HO_1109001.out))) (Kd.R_lt (uR HO1112.out))) (Kd.R_lt (uR HO1117.out))) (below_size uB)); replace HO_1095001 := ueR HO_1095001 ho0 hb; replace HO_1109001 := ueR HO_1109001 ho0 hb; replace HO1112 := ueR HO1112 ho0 hb; replace HO1117 := ueR HO1117 ho0 hb; replace BK1094 := ux BK1094 hb; replace BK1108 := ux BK1108 hb; replace BK1123 := ux BK1123 hb; replace HB := uy hb; (try clear hb ho0); refine hK.out _ _ ⟨(blk_cell BK1108.out 0).trans rfl, (blk_cell BK1108.out 1).trans rfl⟩ (fun hHeld => ?_); clear hK K; refine norm_ (a' := ?_) ?_ ?_; rotate_left
        · exact (show Act.put _ (some 63) _ = _ from uQ)
        refine pure_ (i := 4) (N := some 59) (v := ?_) (a' := ?_) #[true,true,true,true,true,false,false,true,false,false] rfl rfl (any_of HT_.out (by kernel_rfl)) (fun _ _ _ h => h) (Or.inl ⟨by rfl, ?_⟩) ?_ ?_
        rotate_left
        ·
         intro w'
         go_simp
         with_reducible rfl
        rotate_left
        · exact uQ
        refine pure_ (i := 5) (N := some 64) (v := ?_) (a' := ?_) #[true,true,true,true,true,true,false,true,false,false] rfl rfl (any_of HT_.out (by kernel_rfl)) (fun _ _ _ h => h) (Or.inl ⟨by rfl, ?_⟩) ?_ ?_
        rotate_left
        ·
         intro w'
         go_simp
         with_reducible rfl
        rotate_left
        · exact uQ
        refine pure_ (i := 6) (N := some 65) (v := ?_) (a' := ?_) #[true,true,true,true,true,true,true,true,false,false] rfl rfl (any_of HT_.out (by kernel_rfl)) (fun _ _ _ h => h) (Or.inl ⟨by rfl, ?_⟩) ?_ ?_
        rotate_left
        ·
         intro w'
         go_simp
         with_reducible rfl
        rotate_left
        · exact uQ
        exact norm_ (by simp only [putAll, Act.put, List.setIfInBounds_toArray, List.set_cons_zero, List.set_cons_succ]) (hCont (.slice Ao59 t1115.length co59, v1120, gb1123) _ ⟨hHeld, (uR (Kd.R_mono HO1112.out (fun _ hk => ⟨hk.1.2, ⟨hk.2, ⟨hk.1.1.1.2, hk.1.1.2⟩⟩⟩))), (uR (Kd.R_mono HO1117.out (fun _ hk => ⟨hk.1.2, ⟨hk.2, ⟨hk.1.1.1.2, hk.1.1.2⟩⟩⟩))), (uR (Kd.R_mono HO1121.out (fun _ hk => ⟨hk.1.2, ⟨hk.2, ⟨hk.1.1.1.2, hk.1.1.2⟩⟩⟩))), (uR (Kd.R_mono HO_1095001.out (fun _ hk => ⟨hk.1.1.2, ⟨hk.1.2, ⟨hk.2, hk.1.1.1⟩⟩⟩))), (uR (Kd.R_mono HO_1109001.out (fun _ hk => ⟨hk.1.1.2, ⟨hk.1.2, ⟨hk.2, hk.1.1.1⟩⟩⟩))), (uK BK1094.out), (uK BK1108.out), (uK BK1123.out), GW1123.out, GE1123.out, NB1094_1123.out, NB1123_1094.out, NB1108_1123.out, NB1123_1108.out, uB⟩)
       refine box_step ?hg (N := 16) ?hd (cs := #[.bool false, .slice none 0 0]) (t := 52) ?hr ?_; (case hd => rfl); (case hg => rfl); (case hr => first | (go_simp; done) | (go_simp; rfl))
       intro gb1123 hg w57 hbox hb; replace HO_1095001 := Aside0.mk (Kd.R_below (uR HO_1095001.out) hb); replace HO_1109001 := Aside0.mk (Kd.R_below (uR HO_1109001.out) hb); replace HO1112 := Aside0.mk (Kd.R_below (uR HO1112.out) hb); have BK1123 := Aside0.mk (hbox); have GW1123 := us hg; have GE1123 := us hg; replace HB := uy hb; have NB1094_1123 := Aside0.mk ((by rw [hg]; exact Nat.ne_of_lt (blk_lt (uK BK1094.out)) : gb1094 ≠ gb1123)); have NB1123_1094 := Aside0.mk ((by rw [hg]; exact Nat.ne_of_gt (blk_lt (uK BK1094.out)) : gb1123 ≠ gb1094)); replace BK1094 := ux BK1094 hb; have NB1108_1123 := Aside0.mk ((by rw [hg]; exact Nat.ne_of_lt (blk_lt (uK BK1108.out)) : gb1108 ≠ gb1123)); have NB1123_1108 := Aside0.mk ((by rw [hg]; exact Nat.ne_of_gt (blk_lt (uK BK1108.out)) : gb1123 ≠ gb1108)); replace BK1108 := ux BK1108 hb; clear hb hbox hg; refine hK.out _ _ ⟨(blk_cell BK1108.out 0).trans rfl, (blk_cell BK1108.out 1).trans rfl⟩ (fun hHeld => ?_); clear hK K; refine norm_ (a' := ?_) ?_ ?_; rotate_left
       · exact (show Act.put _ (some 16) _ = _ from uQ)
       refine one_ (i := 2) (N := some 62) #[true,true,true,false,false,false,false,true,false,false] rfl rfl (one_of HT_.out (by kernel_rfl)) (by decide) (fun K hK => ?_)
       refine goes_ Try.func62 (by kernel_rfl) rfl #[.int .i64 x15_2] (by rfl) rfl rfl uM ?_
       with_reducible refine (windbreakref07_power.calls k2 x15_2 t1114 t1115 _ A43.out).mono ?_
       rintro e w58 ⟨v1116, rfl, ho0, hb⟩
       refine ⟨_, rfl, ?_⟩; have HO1117 := Aside0.mk (Kd.R_lower (Kd.R_new' (Kd.R_new' (Kd.R_new' ho0 (Kd.R_lt (uR HO_1095001.out))) (Kd.R_lt (uR HO_1109001.out))) (Kd.R_lt (uR HO1112.out))) (below_size uB)); replace HO_1095001 := ueR HO_1095001 ho0 hb; replace HO_1109001 := ueR HO_1109001 ho0 hb; replace HO1112 := ueR HO1112 ho0 hb; replace BK1094 := ux BK1094 hb; replace BK1108 := ux BK1108 hb; replace BK1123 := ux BK1123 hb; replace HB := uy hb; (try clear hb ho0)
       obtain ⟨Ao59, co59, eo59⟩ := Kd.R_slice HO1117.out
       (first | subst eo59 | (injection eo59 with f1_ f2_ f3_; have f4_ := f1_.symm; have f5_ := f3_.symm; clear f1_ f2_ f3_; subst f4_; subst f5_))
       refine hK.out _ _ ⟨(blk_cell BK1108.out 0).trans rfl, (blk_cell BK1108.out 1).trans rfl⟩ (fun hHeld => ?_); clear hK K; refine norm_ (a' := ?_) ?_ ?_; rotate_left
       · exact (show Act.put _ (some 62) _ = _ from uQ)
       refine one_ (i := 3) (N := some 63) #[true,true,true,true,false,false,false,true,false,false] rfl rfl (one_of HT_.out (by kernel_rfl)) (by decide) (fun K hK => ?_)
       refine goes_ Try.func63 (by kernel_rfl) rfl #[.agg #[.bool t1103, .slice Ao34 t1104.length co34], .agg #[.bool t1114, .slice Ao59 t1115.length co59]] (by rfl) rfl rfl uM ?_
       with_reducible refine (windbreakref03_Mul.calls k2 t1103 _ _ t1104 t1114 _ _ t1115 t1118 t1119 t1122 _ ?side1 ?side2 ?side3 ?side4 A44.out).mono ?_
       (case side1 => exact uC (Kd.R_reads' HO_1109001.out).2.2)
       (case side2 => exact (Kd.R_reads' HO_1109001.out).2.1)
       (case side3 => exact uC (Kd.R_reads' HO1117.out).2.2)
       (case side4 => exact (Kd.R_reads' HO1117.out).2.1)
       rintro e w60 ⟨v1120, rfl, ho0, hb⟩
       refine ⟨_, rfl, ?_⟩; have HO1121 := Aside0.mk (Kd.R_lower (Kd.R_new' (Kd.R_new' (Kd.R_new' (Kd.R_new' ho0 (Kd.R_lt (uR HO_1095001.out))) (Kd.R_lt (uR HO_1109001.out))) (Kd.R_lt (uR HO1112.out))) (Kd.R_lt (uR HO1117.out))) (below_size uB)); replace HO_1095001 := ueR HO_1095001 ho0 hb; replace HO_1109001 := ueR HO_1109001 ho0 hb; replace HO1112 := ueR HO1112 ho0 hb; replace HO1117 := ueR HO1117 ho0 hb; replace BK1094 := ux BK1094 hb; replace BK1108 := ux BK1108 hb; replace BK1123 := ux BK1123 hb; replace HB := uy hb; (try clear hb ho0); refine hK.out _ _ ⟨(blk_cell BK1108.out 0).trans rfl, (blk_cell BK1108.out 1).trans rfl⟩ (fun hHeld => ?_); clear hK K; refine norm_ (a' := ?_) ?_ ?_; rotate_left
       · exact (show Act.put _ (some 63) _ = _ from uQ)
       refine pure_ (i := 4) (N := some 59) (v := ?_) (a' := ?_) #[true,true,true,true,true,false,false,true,false,false] rfl rfl (any_of HT_.out (by kernel_rfl)) (fun _ _ _ h => h) (Or.inl ⟨by rfl, ?_⟩) ?_ ?_
       rotate_left
       ·
        intro w'
        go_simp
        with_reducible rfl
       rotate_left
       · exact uQ
       refine pure_ (i := 5) (N := some 64) (v := ?_) (a' := ?_) #[true,true,true,true,true,true,false,true,false,false] rfl rfl (any_of HT_.out (by kernel_rfl)) (fun _ _ _ h => h) (Or.inl ⟨by rfl, ?_⟩) ?_ ?_
       rotate_left
       ·
        intro w'
        go_simp
        with_reducible rfl
       rotate_left
       · exact uQ
       refine pure_ (i := 6) (N := some 65) (v := ?_) (a' := ?_) #[true,true,true,true,true,true,true,true,false,false] rfl rfl (any_of HT_.out (by kernel_rfl)) (fun _ _ _ h => h) (Or.inl ⟨by rfl, ?_⟩) ?_ ?_
       rotate_left
       ·
        intro w'
        go_simp
        with_reducible rfl
       rotate_left
       · exact uQ
       exact norm_ (by simp only [putAll, Act.put, List.setIfInBounds_toArray, List.set_cons_zero, List.set_cons_succ]) (hCont (.slice Ao59 t1115.length co59, v1120, gb1123) _ ⟨hHeld, (uR (Kd.R_mono HO1112.out (fun _ hk => ⟨hk.1.2, ⟨hk.2, ⟨hk.1.1.1.2, hk.1.1.2⟩⟩⟩))), (uR (Kd.R_mono HO1117.out (fun _ hk => ⟨hk.1.2, ⟨hk.2, ⟨hk.1.1.1.2, hk.1.1.2⟩⟩⟩))), (uR (Kd.R_mono HO1121.out (fun _ hk => ⟨hk.1.2, ⟨hk.2, ⟨hk.1.1.1.2, hk.1.1.2⟩⟩⟩))), (uR (Kd.R_mono HO_1095001.out (fun _ hk => ⟨hk.1.1.2, ⟨hk.1.2, ⟨hk.2, hk.1.1.1⟩⟩⟩))), (uR (Kd.R_mono HO_1109001.out (fun _ hk => ⟨hk.1.1.2, ⟨hk.1.2, ⟨hk.2, hk.1.1.1⟩⟩⟩))), (uK BK1094.out), (uK BK1108.out), (uK BK1123.out), GW1123.out, GE1123.out, NB1094_1123.out, NB1123_1094.out, NB1108_1123.out, NB1123_1108.out, uB⟩)
      rintro ⟨v1116, v1120, gb1123⟩ w61 ⟨hS_, h0_, h1_, h2_, h3_, h4_, h5_, h6_, h7_, h8_, h9_, h10_, h11_, h12_, h13_, h14_⟩
      replace HO1112 : Aside0 (Kd.R (Kd.int .u64) 27 w61 w.heap.size (fun k_ => some k_ ≠ (v1116 : Value).ownBlock ∧ some k_ ≠ (v1120 : Value).ownBlock ∧ some k_ ≠ (.slice Ao25 t1090.length co25 : Value).ownBlock ∧ some k_ ≠ (.slice Ao34 t1104.length co34 : Value).ownBlock) (.slice Ao54 t1110.length co54) t1110) := ⟨h0_⟩; have HO1117 : Aside0 (Kd.R (Kd.int .u64) 27 w61 w.heap.size (fun k_ => some k_ ≠ (.slice Ao54 t1110.length co54 : Value).ownBlock ∧ some k_ ≠ (v1120 : Value).ownBlock ∧ some k_ ≠ (.slice Ao25 t1090.length co25 : Value).ownBlock ∧ some k_ ≠ (.slice Ao34 t1104.length co34 : Value).ownBlock) v1116 t1115) := ⟨h1_⟩; have HO1121 : Aside0 (Kd.R (Kd.int .u64) 27 w61 w.heap.size (fun k_ => some k_ ≠ (.slice Ao54 t1110.length co54 : Value).ownBlock ∧ some k_ ≠ (v1116 : Value).ownBlock ∧ some k_ ≠ (.slice Ao25 t1090.length co25 : Value).ownBlock ∧ some k_ ≠ (.slice Ao34 t1104.length co34 : Value).ownBlock) v1120 t1119) := ⟨h2_⟩; replace HO_1095001 : Aside0 (Kd.R (Kd.int .u64) 27 w61 w.heap.size (fun k_ => some k_ ≠ (.slice Ao54 t1110.length co54 : Value).ownBlock ∧ some k_ ≠ (v1116 : Value).ownBlock ∧ some k_ ≠ (v1120 : Value).ownBlock ∧ some k_ ≠ (.slice Ao34 t1104.length co34 : Value).ownBlock) (.slice Ao25 t1090.length co25) t1090) := ⟨h3_⟩; replace HO_1109001 : Aside0 (Kd.R (Kd.int .u64) 27 w61 w.heap.size (fun k_ => some k_ ≠ (.slice Ao54 t1110.length co54 : Value).ownBlock ∧ some k_ ≠ (v1116 : Value).ownBlock ∧ some k_ ≠ (v1120 : Value).ownBlock ∧ some k_ ≠ (.slice Ao25 t1090.length co25 : Value).ownBlock) (.slice Ao34 t1104.length co34) t1104) := ⟨h4_⟩; replace BK1094 : Aside0 (w61.heap[gb1094]? = some (.cells #[.bool t1089, .slice Ao25 t1090.length co25] 52 (0, 0))) := ⟨h5_⟩; replace BK1108 : Aside0 (w61.heap[gb1108]? = some (.cells #[.bool t1103, .slice Ao34 t1104.length co34] 52 (0, 0))) := ⟨h6_⟩; have BK1123 : Aside0 (w61.heap[gb1123]? = some (.cells #[.bool false, .slice none 0 0] 52 (0, 0))) := ⟨h7_⟩; have GW1123 : Aside0 (w.heap.size ≤ gb1123) := ⟨h8_⟩; have GE1123 : Aside0 (w.heap.size ≤ gb1123) := ⟨h9_⟩; have NB1094_1123 : Aside0 (gb1094 ≠ gb1123) := ⟨h10_⟩; have NB1123_1094 : Aside0 (gb1123 ≠ gb1094) := ⟨h11_⟩; have NB1108_1123 : Aside0 (gb1108 ≠ gb1123) := ⟨h12_⟩; have NB1123_1108 : Aside0 (gb1123 ≠ gb1108) := ⟨h13_⟩; replace HB : Aside0 (Below w.heap.size w w61) := ⟨h14_⟩; clear h0_ h1_ h2_ h3_ h4_ h5_ h6_ h7_ h8_ h9_ h10_ h11_ h12_ h13_ h14_
      have hHeld : w61.cell? ⟨gb1108, 0, none⟩ = some (.bool t1103) ∧ w61.cell? ⟨gb1108, 1, none⟩ = some (.slice Ao34 t1104.length co34) := hS_
      obtain ⟨Ao63, co63, eo63⟩ := Kd.R_slice HO1121.out
      (first | subst eo63 | (injection eo63 with f1_ f2_ f3_; have f4_ := f1_.symm; have f5_ := f3_.symm; clear f1_ f2_ f3_; subst f4_; subst f5_))
      refine norm_ (a' := ?_) ?_ ?_; rotate_left
      ·
       simp only [putAll, Act.put, List.setIfInBounds_toArray, List.set_cons_zero, List.set_cons_succ]
       rfl
      refine one_ (i := 8) (N := none) #[true,true,true,true,true,true,true,true,true,false] rfl rfl (one_of HT_.out (by kernel_rfl)) (by decide) (fun K hK => ?_)
      have hs62 : w61.cell? ⟨gb1123, 0, none⟩ = some (.bool false) := (blk_cell BK1123.out 0).trans rfl
      have hfs62 := blk_frozen BK1123.out 0
      have hns62_0 := NB1094_1123.out
      have hns62_1 := NB1108_1123.out
      have hms62_0 := NB1123_1094.out
      have hms62_1 := NB1123_1108.out
      have hs64 : w61.cell? ⟨gb1123, 1, none⟩ = some (.slice none 0 0) := (blk_cell BK1123.out 1).trans rfl
      have hfs64 := blk_frozen BK1123.out 1
      have hns64_0 := NB1094_1123.out
      have hns64_1 := NB1108_1123.out
      have hms64_0 := NB1123_1094.out
      have hms64_1 := NB1123_1108.out
      refine skip_ (w1 := ?_) (by rfl) rfl ?_ ?_
      rotate_left
      ·
       go_simp
       rfl
      refine hK.out _ _ ⟨((cell_far (p := ⟨gb1123, _, none⟩) NB1108_1123.out _).trans (((cell_far (p := ⟨gb1123, _, none⟩) NB1108_1123.out _).trans (hHeld.1)))), ((cell_far (p := ⟨gb1123, _, none⟩) NB1108_1123.out _).trans (((cell_far (p := ⟨gb1123, _, none⟩) NB1108_1123.out _).trans (hHeld.2))))⟩ (fun hHeld => ?_); clear hK K
      refine pure_ (i := 9) (N := some 17) (v := ?_) (a' := ?_) #[true,true,true,true,true,true,true,true,true,true] rfl rfl (any_of HT_.out (by kernel_rfl)) (fun _ _ _ h => h) (Or.inl ⟨by rfl, ?_⟩) ?_ ?_
      rotate_left
      ·
       intro w'
       go_simp
       with_reducible rfl
      rotate_left
      · exact uQ
      refine done_ (done_of HT_.out (by kernel_rfl)) ?_
      try go_wp2
      have n0_ : Aside0 (Kd.R (Kd.int .u64) 27 ((w61.setCell ⟨gb1123, 0, none⟩ (.bool t1118)).setCell ⟨gb1123, 1, none⟩ (.slice Ao63 t1119.length co63)) w.heap.size (fun k_ => some k_ ≠ (.slice Ao34 t1104.length co34 : Value).ownBlock ∧ some k_ ≠ (.slice Ao54 t1110.length co54 : Value).ownBlock ∧ some k_ ≠ (v1116 : Value).ownBlock ∧ some k_ ≠ (.slice Ao63 t1119.length co63 : Value).ownBlock) (.slice Ao25 t1090.length co25) t1090) := ⟨by (with_reducible repeat (first | apply Kd.R_alloc | apply Kd.R_drewN | apply Kd.R_drew)); exact Kd.R_mono (Kd.R_far (p := ⟨gb1123, 1, none⟩) (Kd.R_far (p := ⟨gb1123, 0, none⟩) (Kd.R_types HO_1095001.out BK1123.out (by decide)) (fun _ hk => hk.2) (.bool t1118)) (fun _ hk => hk.2) (.slice Ao63 t1119.length co63)) (fun _ hk => ⟨hk.1.2.2.2, ⟨hk.1.1, ⟨hk.1.2.1, hk.1.2.2.1⟩⟩⟩)⟩
      have n1_ : Aside0 (Kd.R (Kd.int .u64) 27 ((w61.setCell ⟨gb1123, 0, none⟩ (.bool t1118)).setCell ⟨gb1123, 1, none⟩ (.slice Ao63 t1119.length co63)) w.heap.size (fun k_ => some k_ ≠ (.slice Ao25 t1090.length co25 : Value).ownBlock ∧ some k_ ≠ (.slice Ao54 t1110.length co54 : Value).ownBlock ∧ some k_ ≠ (v1116 : Value).ownBlock ∧ some k_ ≠ (.slice Ao63 t1119.length co63 : Value).ownBlock) (.slice Ao34 t1104.length co34) t1104) := ⟨by (with_reducible repeat (first | apply Kd.R_alloc | apply Kd.R_drewN | apply Kd.R_drew)); exact Kd.R_mono (Kd.R_far (p := ⟨gb1123, 1, none⟩) (Kd.R_far (p := ⟨gb1123, 0, none⟩) (Kd.R_types HO_1109001.out BK1123.out (by decide)) (fun _ hk => hk.2) (.bool t1118)) (fun _ hk => hk.2) (.slice Ao63 t1119.length co63)) (fun _ hk => ⟨hk.1.2.2.2, ⟨hk.1.1, ⟨hk.1.2.1, hk.1.2.2.1⟩⟩⟩)⟩
      have n2_ : Aside0 (Kd.R (Kd.int .u64) 27 ((w61.setCell ⟨gb1123, 0, none⟩ (.bool t1118)).setCell ⟨gb1123, 1, none⟩ (.slice Ao63 t1119.length co63)) w.heap.size (fun k_ => some k_ ≠ (.slice Ao25 t1090.length co25 : Value).ownBlock ∧ some k_ ≠ (.slice Ao34 t1104.length co34 : Value).ownBlock ∧ some k_ ≠ (v1116 : Value).ownBlock ∧ some k_ ≠ (.slice Ao63 t1119.length co63 : Value).ownBlock) (.slice Ao54 t1110.length co54) t1110) := ⟨by (with_reducible repeat (first | apply Kd.R_alloc | apply Kd.R_drewN | apply Kd.R_drew)); exact Kd.R_mono (Kd.R_far (p := ⟨gb1123, 1, none⟩) (Kd.R_far (p := ⟨gb1123, 0, none⟩) (Kd.R_types HO1112.out BK1123.out (by decide)) (fun _ hk => hk.2) (.bool t1118)) (fun _ hk => hk.2) (.slice Ao63 t1119.length co63)) (fun _ hk => ⟨hk.1.2.2.1, ⟨hk.1.2.2.2, ⟨hk.1.1, hk.1.2.1⟩⟩⟩)⟩
      have n3_ : Aside0 (Kd.R (Kd.int .u64) 27 ((w61.setCell ⟨gb1123, 0, none⟩ (.bool t1118)).setCell ⟨gb1123, 1, none⟩ (.slice Ao63 t1119.length co63)) w.heap.size (fun k_ => some k_ ≠ (.slice Ao25 t1090.length co25 : Value).ownBlock ∧ some k_ ≠ (.slice Ao34 t1104.length co34 : Value).ownBlock ∧ some k_ ≠ (.slice Ao54 t1110.length co54 : Value).ownBlock ∧ some k_ ≠ (.slice Ao63 t1119.length co63 : Value).ownBlock) v1116 t1115) := ⟨by (with_reducible repeat (first | apply Kd.R_alloc | apply Kd.R_drewN | apply Kd.R_drew)); exact Kd.R_mono (Kd.R_far (p := ⟨gb1123, 1, none⟩) (Kd.R_far (p := ⟨gb1123, 0, none⟩) (Kd.R_types HO1117.out BK1123.out (by decide)) (fun _ hk => hk.2) (.bool t1118)) (fun _ hk => hk.2) (.slice Ao63 t1119.length co63)) (fun _ hk => ⟨hk.1.2.2.1, ⟨hk.1.2.2.2, ⟨hk.1.1, hk.1.2.1⟩⟩⟩)⟩
      have n4_ : Aside0 (Kd.R (Kd.int .u64) 27 ((w61.setCell ⟨gb1123, 0, none⟩ (.bool t1118)).setCell ⟨gb1123, 1, none⟩ (.slice Ao63 t1119.length co63)) w.heap.size (fun k_ => some k_ ≠ (.slice Ao25 t1090.length co25 : Value).ownBlock ∧ some k_ ≠ (.slice Ao34 t1104.length co34 : Value).ownBlock ∧ some k_ ≠ (.slice Ao54 t1110.length co54 : Value).ownBlock ∧ some k_ ≠ (v1116 : Value).ownBlock) (.slice Ao63 t1119.length co63) t1119) := ⟨by (with_reducible repeat (first | apply Kd.R_alloc | apply Kd.R_drewN | apply Kd.R_drew)); exact Kd.R_mono (Kd.R_far (p := ⟨gb1123, 1, none⟩) (Kd.R_far (p := ⟨gb1123, 0, none⟩) (Kd.R_types HO1121.out BK1123.out (by decide)) (fun _ hk => hk.2) (.bool t1118)) (fun _ hk => hk.2) (.slice Ao63 t1119.length co63)) (fun _ hk => ⟨hk.1.2.2.1, ⟨hk.1.2.2.2, ⟨hk.1.1, hk.1.2.1⟩⟩⟩)⟩
      have n5_ : Aside0 (((w61.setCell ⟨gb1123, 0, none⟩ (.bool t1118)).setCell ⟨gb1123, 1, none⟩ (.slice Ao63 t1119.length co63)).heap[gb1094]? = some (.cells #[.bool t1089, .slice Ao25 t1090.length co25] 52 (0, 0))) := ⟨by (with_reducible repeat (first | refine blk_drewN ?_ _ | refine blk_drew ?_ | refine blk_alloc ?_ _)); refine blk_far ?_ NB1094_1123.out _; (with_reducible repeat (first | refine blk_drewN ?_ _ | refine blk_drew ?_ | refine blk_alloc ?_ _)); refine blk_far ?_ NB1094_1123.out _; (with_reducible repeat (first | refine blk_drewN ?_ _ | refine blk_drew ?_ | refine blk_alloc ?_ _)); exact BK1094.out⟩
      have n6_ : Aside0 (((w61.setCell ⟨gb1123, 0, none⟩ (.bool t1118)).setCell ⟨gb1123, 1, none⟩ (.slice Ao63 t1119.length co63)).heap[gb1108]? = some (.cells #[.bool t1103, .slice Ao34 t1104.length co34] 52 (0, 0))) := ⟨by (with_reducible repeat (first | refine blk_drewN ?_ _ | refine blk_drew ?_ | refine blk_alloc ?_ _)); refine blk_far ?_ NB1108_1123.out _; (with_reducible repeat (first | refine blk_drewN ?_ _ | refine blk_drew ?_ | refine blk_alloc ?_ _)); refine blk_far ?_ NB1108_1123.out _; (with_reducible repeat (first | refine blk_drewN ?_ _ | refine blk_drew ?_ | refine blk_alloc ?_ _)); exact BK1108.out⟩
      have n7_ : Aside0 (((w61.setCell ⟨gb1123, 0, none⟩ (.bool t1118)).setCell ⟨gb1123, 1, none⟩ (.slice Ao63 t1119.length co63)).heap[gb1123]? = some (.cells #[.bool t1118, .slice Ao63 t1119.length co63] 52 (0, 0))) := ⟨by (with_reducible repeat (first | refine blk_drewN ?_ _ | refine blk_drew ?_ | refine blk_alloc ?_ _)); refine blk_put (cs := #[.bool t1118, .slice none 0 0]) ?_ 1 _ rfl; (with_reducible repeat (first | refine blk_drewN ?_ _ | refine blk_drew ?_ | refine blk_alloc ?_ _)); refine blk_put (cs := #[.bool false, .slice none 0 0]) ?_ 0 _ rfl; (with_reducible repeat (first | refine blk_drewN ?_ _ | refine blk_drew ?_ | refine blk_alloc ?_ _)); exact BK1123.out⟩
      have n8_ : Aside0 (Below w.heap.size w ((w61.setCell ⟨gb1123, 0, none⟩ (.bool t1118)).setCell ⟨gb1123, 1, none⟩ (.slice Ao63 t1119.length co63))) := ⟨uB⟩
      (try clear HO_1095001); (try clear HO_1109001); (try clear HO1112); (try clear HO1117); (try clear HO1121); (try clear BK1094); (try clear BK1108); (try clear BK1123); (try clear HB)
      generalize ((w61.setCell ⟨gb1123, 0, none⟩ (.bool t1118)).setCell ⟨gb1123, 1, none⟩ (.slice Ao63 t1119.length co63)) = w65 at n0_ n1_ n2_ n3_ n4_ n5_ n6_ n7_ n8_ ⊢
      have HO_1095001 := n0_; have HO_1109001 := n1_; have HO1112 := n2_; have HO1117 := n3_; have HO1121 := n4_; have BK1094 := n5_; have BK1108 := n6_; have BK1123 := n7_; have HB := n8_; clear n0_ n1_ n2_ n3_ n4_ n5_ n6_ n7_ n8_; replace HO_1095001 := Aside0.mk (Kd.R_drew HO_1095001.out); replace HO_1109001 := Aside0.mk (Kd.R_drew HO_1109001.out); replace HO1112 := Aside0.mk (Kd.R_drew HO1112.out); replace HO1117 := Aside0.mk (Kd.R_drew HO1117.out); replace HO1121 := Aside0.mk (Kd.R_drew HO1121.out); replace BK1094 := Aside0.mk (blk_drew BK1094.out); replace BK1108 := Aside0.mk (blk_drew BK1108.out); replace BK1123 := Aside0.mk (blk_drew BK1123.out); replace HB := Aside0.mk (below_drew1 HB.out)
      refine start_ (n := 8) (S := fun w' => w'.cell? ⟨gb1123, 0, none⟩ = some (.bool t1118) ∧ w'.cell? ⟨gb1123, 1, none⟩ = some (.slice Ao63 t1119.length co63)) (ds := [7]) #[false,false,false,false,false,false,false,false] (by kernel_rfl) rfl rfl ⟨(blk_cell BK1123.out 0).trans rfl, (blk_cell BK1123.out 1).trans rfl⟩ (fun hHeld => ?_); refine with_tabW windbreakref07_Room.tab11 windbreakref07_Room.bits11 (fun HT_ HW_ => ?_)
      generalize w65.drew = w66 at HO_1095001 HO_1109001 HO1112 HO1117 HO1121 BK1094 BK1108 BK1123 HB hHeld ⊢
      refine pure_ (i := 1) (N := some 68) (v := ?_) (a' := ?_) #[false,true,false,false,false,false,false,false] rfl rfl (any_of HT_.out (by kernel_rfl)) (fun _ _ _ h => h) (Or.inl ⟨by rfl, ?_⟩) ?_ ?_
      rotate_left
      ·
       intro w'
       go_simp
       with_reducible rfl
      rotate_left
      · exact uQ
      refine take_ (i := 0) (N := some 67) (v := ?_) (a' := ?_) #[true,true,false,false,false,false,false,false] rfl rfl (take_ofW HT_.out HW_.out (by kernel_rfl)) (fun _ _ _ h => h) (Or.inl ⟨by rfl, ?_⟩) hHeld ?_ ?_
      rotate_left
      ·
       rintro w' ⟨s0, s1⟩
       go_simp
       with_reducible rfl
      rotate_left
      · exact uQ
      refine one_ (i := 2) (N := some 69) #[true,true,true,false,false,false,false,false] rfl rfl (one_of HT_.out (by kernel_rfl)) (by decide) (fun K hK => ?_)
      refine goes_ Try.func62 (by kernel_rfl) rfl #[.int .i64 x15_2] (by rfl) rfl rfl uM ?_
      with_reducible refine (windbreakref07_power.calls k2 x15_2 t1124 t1125 _ A45.out).mono ?_
      rintro e w67 ⟨v1126, rfl, ho0, hb⟩
      refine ⟨_, rfl, ?_⟩; have HO1127 := Aside0.mk (Kd.R_lower (Kd.R_new' (Kd.R_new' (Kd.R_new' (Kd.R_new' (Kd.R_new' ho0 (Kd.R_lt (uR HO_1095001.out))) (Kd.R_lt (uR HO_1109001.out))) (Kd.R_lt (uR HO1112.out))) (Kd.R_lt (uR HO1117.out))) (Kd.R_lt (uR HO1121.out))) (below_size uB)); replace HO_1095001 := ueR HO_1095001 ho0 hb; replace HO_1109001 := ueR HO_1109001 ho0 hb; replace HO1112 := ueR HO1112 ho0 hb; replace HO1117 := ueR HO1117 ho0 hb; replace HO1121 := ueR HO1121 ho0 hb; replace BK1094 := ux BK1094 hb; replace BK1108 := ux BK1108 hb; replace BK1123 := ux BK1123 hb; replace HB := uy hb; (try clear hb ho0)
      obtain ⟨Ao68, co68, eo68⟩ := Kd.R_slice HO1127.out
      (first | subst eo68 | (injection eo68 with f1_ f2_ f3_; have f4_ := f1_.symm; have f5_ := f3_.symm; clear f1_ f2_ f3_; subst f4_; subst f5_))
      refine hK.out _ _ ⟨(blk_cell BK1123.out 0).trans rfl, (blk_cell BK1123.out 1).trans rfl⟩ (fun hHeld => ?_); clear hK K; refine norm_ (a' := ?_) ?_ ?_; rotate_left
      · exact (show Act.put _ (some 69) _ = _ from uQ)
      refine one_ (i := 3) (N := some 70) #[true,true,true,true,false,false,false,false] rfl rfl (one_of HT_.out (by kernel_rfl)) (by decide) (fun K hK => ?_)
      refine goes_ Try.func64 (by kernel_rfl) rfl #[.agg #[.bool t1118, .slice Ao63 t1119.length co63], .agg #[.bool t1124, .slice Ao68 t1125.length co68]] (by rfl) rfl rfl uM ?_
      with_reducible refine (windbreakref03_Add.calls k2 t1118 _ _ t1119 t1124 _ _ t1125 t1128 t1129 t1132 _ ?side1 ?side2 ?side3 ?side4 A46.out).mono ?_
      (case side1 => exact uC (Kd.R_reads' HO1121.out).2.2)
      (case side2 => exact (Kd.R_reads' HO1121.out).2.1)
      (case side3 => exact uC (Kd.R_reads' HO1127.out).2.2)
      (case side4 => exact (Kd.R_reads' HO1127.out).2.1)
      rintro e w69 ⟨v1130, rfl, ho0, hb⟩
      refine ⟨_, rfl, ?_⟩; have HO1131 := Aside0.mk (Kd.R_lower (Kd.R_new' (Kd.R_new' (Kd.R_new' (Kd.R_new' (Kd.R_new' (Kd.R_new' ho0 (Kd.R_lt (uR HO_1095001.out))) (Kd.R_lt (uR HO_1109001.out))) (Kd.R_lt (uR HO1112.out))) (Kd.R_lt (uR HO1117.out))) (Kd.R_lt (uR HO1121.out))) (Kd.R_lt (uR HO1127.out))) (below_size uB)); replace HO_1095001 := ueR HO_1095001 ho0 hb; replace HO_1109001 := ueR HO_1109001 ho0 hb; replace HO1112 := ueR HO1112 ho0 hb; replace HO1117 := ueR HO1117 ho0 hb; replace HO1121 := ueR HO1121 ho0 hb; replace HO1127 := ueR HO1127 ho0 hb; replace BK1094 := ux BK1094 hb; replace BK1108 := ux BK1108 hb; replace BK1123 := ux BK1123 hb; replace HB := uy hb; (try clear hb ho0)
      obtain ⟨Ao71, co71, eo71⟩ := Kd.R_slice HO1131.out
      (first | subst eo71 | (injection eo71 with f1_ f2_ f3_; have f4_ := f1_.symm; have f5_ := f3_.symm; clear f1_ f2_ f3_; subst f4_; subst f5_))
      refine hK.out _ _ ⟨(blk_cell BK1123.out 0).trans rfl, (blk_cell BK1123.out 1).trans rfl⟩ (fun hHeld => ?_); clear hK K; refine norm_ (a' := ?_) ?_ ?_; rotate_left
      · exact (show Act.put _ (some 70) _ = _ from uQ)
      refine pure_ (i := 4) (N := some 66) (v := ?_) (a' := ?_) #[true,true,true,true,true,false,false,false] rfl rfl (any_of HT_.out (by kernel_rfl)) (fun _ _ _ h => h) (Or.inl ⟨by rfl, ?_⟩) ?_ ?_
      rotate_left
      ·
       intro w'
       go_simp
       with_reducible rfl
      rotate_left
      · exact uQ
      refine pure_ (i := 5) (N := some 71) (v := ?_) (a' := ?_) #[true,true,true,true,true,true,false,false] rfl rfl (any_of HT_.out (by kernel_rfl)) (fun _ _ _ h => h) (Or.inl ⟨by rfl, ?_⟩) ?_ ?_
      rotate_left
      ·
       intro w'
       go_simp
       with_reducible rfl
      rotate_left
      · exact uQ
      refine pure_ (i := 6) (N := some 72) (v := ?_) (a' := ?_) #[true,true,true,true,true,true,true,false] rfl rfl (any_of HT_.out (by kernel_rfl)) (fun _ _ _ h => h) (Or.inl ⟨by rfl, ?_⟩) ?_ ?_
      rotate_left
      ·
       intro w'
       go_simp
       with_reducible rfl
      rotate_left
      · exact uQ
      refine last_ (i := 7) (N := none) #[true,true,true,true,true,true,true,true] rfl rfl (one_of HT_.out (by kernel_rfl)) (by decide) (fun K hK => ?_)
      have hs70 : w69.cell? ⟨gb1123, 0, none⟩ = some (.bool t1118) := (blk_cell BK1123.out 0).trans rfl
      have hfs70 := blk_frozen BK1123.out 0
      have hns70_0 := NB1094_1123.out
      have hns70_1 := NB1108_1123.out
      have hms70_0 := NB1123_1094.out
      have hms70_1 := NB1123_1108.out
      have hs72 : w69.cell? ⟨gb1123, 1, none⟩ = some (.slice Ao63 t1119.length co63) := (blk_cell BK1123.out 1).trans rfl
      have hfs72 := blk_frozen BK1123.out 1
      have hns72_0 := NB1094_1123.out
      have hns72_1 := NB1108_1123.out
      have hms72_0 := NB1123_1094.out
      have hms72_1 := NB1123_1108.out
      refine skip_ (w1 := ?_) (by rfl) rfl ?_ ?_
      rotate_left
      ·
       go_simp
       rfl
      refine hK.out _ _ ?_; clear hK K
      refine done_ (done_of HT_.out (by kernel_rfl)) ?_
      try go_wp2
      have n0_ : Aside0 (Kd.R (Kd.int .u64) 27 ((w69.setCell ⟨gb1123, 0, none⟩ (.bool t1128)).setCell ⟨gb1123, 1, none⟩ (.slice Ao71 t1129.length co71)) w.heap.size (fun k_ => some k_ ≠ (.slice Ao34 t1104.length co34 : Value).ownBlock ∧ some k_ ≠ (.slice Ao54 t1110.length co54 : Value).ownBlock ∧ some k_ ≠ (v1116 : Value).ownBlock ∧ some k_ ≠ (.slice Ao63 t1119.length co63 : Value).ownBlock ∧ some k_ ≠ (.slice Ao68 t1125.length co68 : Value).ownBlock ∧ some k_ ≠ (.slice Ao71 t1129.length co71 : Value).ownBlock) (.slice Ao25 t1090.length co25) t1090) := ⟨by (with_reducible repeat (first | apply Kd.R_alloc | apply Kd.R_drewN | apply Kd.R_drew)); exact Kd.R_mono (Kd.R_far (p := ⟨gb1123, 1, none⟩) (Kd.R_far (p := ⟨gb1123, 0, none⟩) (Kd.R_types HO_1095001.out BK1123.out (by decide)) (fun _ hk => hk.2) (.bool t1128)) (fun _ hk => hk.2) (.slice Ao71 t1129.length co71)) (fun _ hk => ⟨hk.1.1.1.1, ⟨hk.1.1.1.2.1, ⟨hk.1.1.1.2.2.1, ⟨hk.1.1.1.2.2.2, ⟨hk.1.1.2, hk.1.2⟩⟩⟩⟩⟩)⟩
      have n1_ : Aside0 (Kd.R (Kd.int .u64) 27 ((w69.setCell ⟨gb1123, 0, none⟩ (.bool t1128)).setCell ⟨gb1123, 1, none⟩ (.slice Ao71 t1129.length co71)) w.heap.size (fun k_ => some k_ ≠ (.slice Ao25 t1090.length co25 : Value).ownBlock ∧ some k_ ≠ (.slice Ao54 t1110.length co54 : Value).ownBlock ∧ some k_ ≠ (v1116 : Value).ownBlock ∧ some k_ ≠ (.slice Ao63 t1119.length co63 : Value).ownBlock ∧ some k_ ≠ (.slice Ao68 t1125.length co68 : Value).ownBlock ∧ some k_ ≠ (.slice Ao71 t1129.length co71 : Value).ownBlock) (.slice Ao34 t1104.length co34) t1104) := ⟨by (with_reducible repeat (first | apply Kd.R_alloc | apply Kd.R_drewN | apply Kd.R_drew)); exact Kd.R_mono (Kd.R_far (p := ⟨gb1123, 1, none⟩) (Kd.R_far (p := ⟨gb1123, 0, none⟩) (Kd.R_types HO_1109001.out BK1123.out (by decide)) (fun _ hk => hk.2) (.bool t1128)) (fun _ hk => hk.2) (.slice Ao71 t1129.length co71)) (fun _ hk => ⟨hk.1.1.1.1, ⟨hk.1.1.1.2.1, ⟨hk.1.1.1.2.2.1, ⟨hk.1.1.1.2.2.2, ⟨hk.1.1.2, hk.1.2⟩⟩⟩⟩⟩)⟩
      have n2_ : Aside0 (Kd.R (Kd.int .u64) 27 ((w69.setCell ⟨gb1123, 0, none⟩ (.bool t1128)).setCell ⟨gb1123, 1, none⟩ (.slice Ao71 t1129.length co71)) w.heap.size (fun k_ => some k_ ≠ (.slice Ao25 t1090.length co25 : Value).ownBlock ∧ some k_ ≠ (.slice Ao34 t1104.length co34 : Value).ownBlock ∧ some k_ ≠ (v1116 : Value).ownBlock ∧ some k_ ≠ (.slice Ao63 t1119.length co63 : Value).ownBlock ∧ some k_ ≠ (.slice Ao68 t1125.length co68 : Value).ownBlock ∧ some k_ ≠ (.slice Ao71 t1129.length co71 : Value).ownBlock) (.slice Ao54 t1110.length co54) t1110) := ⟨by (with_reducible repeat (first | apply Kd.R_alloc | apply Kd.R_drewN | apply Kd.R_drew)); exact Kd.R_mono (Kd.R_far (p := ⟨gb1123, 1, none⟩) (Kd.R_far (p := ⟨gb1123, 0, none⟩) (Kd.R_types HO1112.out BK1123.out (by decide)) (fun _ hk => hk.2) (.bool t1128)) (fun _ hk => hk.2) (.slice Ao71 t1129.length co71)) (fun _ hk => ⟨hk.1.1.1.1, ⟨hk.1.1.1.2.1, ⟨hk.1.1.1.2.2.1, ⟨hk.1.1.1.2.2.2, ⟨hk.1.1.2, hk.1.2⟩⟩⟩⟩⟩)⟩
      have n3_ : Aside0 (Kd.R (Kd.int .u64) 27 ((w69.setCell ⟨gb1123, 0, none⟩ (.bool t1128)).setCell ⟨gb1123, 1, none⟩ (.slice Ao71 t1129.length co71)) w.heap.size (fun k_ => some k_ ≠ (.slice Ao25 t1090.length co25 : Value).ownBlock ∧ some k_ ≠ (.slice Ao34 t1104.length co34 : Value).ownBlock ∧ some k_ ≠ (.slice Ao54 t1110.length co54 : Value).ownBlock ∧ some k_ ≠ (.slice Ao63 t1119.length co63 : Value).ownBlock ∧ some k_ ≠ (.slice Ao68 t1125.length co68 : Value).ownBlock ∧ some k_ ≠ (.slice Ao71 t1129.length co71 : Value).ownBlock) v1116 t1115) := ⟨by (with_reducible repeat (first | apply Kd.R_alloc | apply Kd.R_drewN | apply Kd.R_drew)); exact Kd.R_mono (Kd.R_far (p := ⟨gb1123, 1, none⟩) (Kd.R_far (p := ⟨gb1123, 0, none⟩) (Kd.R_types HO1117.out BK1123.out (by decide)) (fun _ hk => hk.2) (.bool t1128)) (fun _ hk => hk.2) (.slice Ao71 t1129.length co71)) (fun _ hk => ⟨hk.1.1.1.1, ⟨hk.1.1.1.2.1, ⟨hk.1.1.1.2.2.1, ⟨hk.1.1.1.2.2.2, ⟨hk.1.1.2, hk.1.2⟩⟩⟩⟩⟩)⟩
      have n4_ : Aside0 (Kd.R (Kd.int .u64) 27 ((w69.setCell ⟨gb1123, 0, none⟩ (.bool t1128)).setCell ⟨gb1123, 1, none⟩ (.slice Ao71 t1129.length co71)) w.heap.size (fun k_ => some k_ ≠ (.slice Ao25 t1090.length co25 : Value).ownBlock ∧ some k_ ≠ (.slice Ao34 t1104.length co34 : Value).ownBlock ∧ some k_ ≠ (.slice Ao54 t1110.length co54 : Value).ownBlock ∧ some k_ ≠ (v1116 : Value).ownBlock ∧ some k_ ≠ (.slice Ao68 t1125.length co68 : Value).ownBlock ∧ some k_ ≠ (.slice Ao71 t1129.length co71 : Value).ownBlock) (.slice Ao63 t1119.length co63) t1119) := ⟨by (with_reducible repeat (first | apply Kd.R_alloc | apply Kd.R_drewN | apply Kd.R_drew)); exact Kd.R_mono (Kd.R_far (p := ⟨gb1123, 1, none⟩) (Kd.R_far (p := ⟨gb1123, 0, none⟩) (Kd.R_types HO1121.out BK1123.out (by decide)) (fun _ hk => hk.2) (.bool t1128)) (fun _ hk => hk.2) (.slice Ao71 t1129.length co71)) (fun _ hk => ⟨hk.1.1.1.1, ⟨hk.1.1.1.2.1, ⟨hk.1.1.1.2.2.1, ⟨hk.1.1.1.2.2.2, ⟨hk.1.1.2, hk.1.2⟩⟩⟩⟩⟩)⟩
      have n5_ : Aside0 (Kd.R (Kd.int .u64) 27 ((w69.setCell ⟨gb1123, 0, none⟩ (.bool t1128)).setCell ⟨gb1123, 1, none⟩ (.slice Ao71 t1129.length co71)) w.heap.size (fun k_ => some k_ ≠ (.slice Ao25 t1090.length co25 : Value).ownBlock ∧ some k_ ≠ (.slice Ao34 t1104.length co34 : Value).ownBlock ∧ some k_ ≠ (.slice Ao54 t1110.length co54 : Value).ownBlock ∧ some k_ ≠ (v1116 : Value).ownBlock ∧ some k_ ≠ (.slice Ao63 t1119.length co63 : Value).ownBlock ∧ some k_ ≠ (.slice Ao71 t1129.length co71 : Value).ownBlock) (.slice Ao68 t1125.length co68) t1125) := ⟨by (with_reducible repeat (first | apply Kd.R_alloc | apply Kd.R_drewN | apply Kd.R_drew)); exact Kd.R_mono (Kd.R_far (p := ⟨gb1123, 1, none⟩) (Kd.R_far (p := ⟨gb1123, 0, none⟩) (Kd.R_types HO1127.out BK1123.out (by decide)) (fun _ hk => hk.2) (.bool t1128)) (fun _ hk => hk.2) (.slice Ao71 t1129.length co71)) (fun _ hk => ⟨hk.1.1.1.1.1.1.2, ⟨hk.1.1.1.1.1.2, ⟨hk.1.1.1.1.2, ⟨hk.1.1.1.2, ⟨hk.1.1.2, hk.1.2⟩⟩⟩⟩⟩)⟩
      have n6_ : Aside0 (Kd.R (Kd.int .u64) 27 ((w69.setCell ⟨gb1123, 0, none⟩ (.bool t1128)).setCell ⟨gb1123, 1, none⟩ (.slice Ao71 t1129.length co71)) w.heap.size (fun k_ => some k_ ≠ (.slice Ao25 t1090.length co25 : Value).ownBlock ∧ some k_ ≠ (.slice Ao34 t1104.length co34 : Value).ownBlock ∧ some k_ ≠ (.slice Ao54 t1110.length co54 : Value).ownBlock ∧ some k_ ≠ (v1116 : Value).ownBlock ∧ some k_ ≠ (.slice Ao63 t1119.length co63 : Value).ownBlock ∧ some k_ ≠ (.slice Ao68 t1125.length co68 : Value).ownBlock) (.slice Ao71 t1129.length co71) t1129) := ⟨by (with_reducible repeat (first | apply Kd.R_alloc | apply Kd.R_drewN | apply Kd.R_drew)); exact Kd.R_mono (Kd.R_far (p := ⟨gb1123, 1, none⟩) (Kd.R_far (p := ⟨gb1123, 0, none⟩) (Kd.R_types HO1131.out BK1123.out (by decide)) (fun _ hk => hk.2) (.bool t1128)) (fun _ hk => hk.2) (.slice Ao71 t1129.length co71)) (fun _ hk => ⟨hk.1.1.1.1.1.1.2, ⟨hk.1.1.1.1.1.2, ⟨hk.1.1.1.1.2, ⟨hk.1.1.1.2, ⟨hk.1.1.2, hk.1.2⟩⟩⟩⟩⟩)⟩
      have n7_ : Aside0 (((w69.setCell ⟨gb1123, 0, none⟩ (.bool t1128)).setCell ⟨gb1123, 1, none⟩ (.slice Ao71 t1129.length co71)).heap[gb1094]? = some (.cells #[.bool t1089, .slice Ao25 t1090.length co25] 52 (0, 0))) := ⟨by (with_reducible repeat (first | refine blk_drewN ?_ _ | refine blk_drew ?_ | refine blk_alloc ?_ _)); refine blk_far ?_ NB1094_1123.out _; (with_reducible repeat (first | refine blk_drewN ?_ _ | refine blk_drew ?_ | refine blk_alloc ?_ _)); refine blk_far ?_ NB1094_1123.out _; (with_reducible repeat (first | refine blk_drewN ?_ _ | refine blk_drew ?_ | refine blk_alloc ?_ _)); exact BK1094.out⟩
      have n8_ : Aside0 (((w69.setCell ⟨gb1123, 0, none⟩ (.bool t1128)).setCell ⟨gb1123, 1, none⟩ (.slice Ao71 t1129.length co71)).heap[gb1108]? = some (.cells #[.bool t1103, .slice Ao34 t1104.length co34] 52 (0, 0))) := ⟨by (with_reducible repeat (first | refine blk_drewN ?_ _ | refine blk_drew ?_ | refine blk_alloc ?_ _)); refine blk_far ?_ NB1108_1123.out _; (with_reducible repeat (first | refine blk_drewN ?_ _ | refine blk_drew ?_ | refine blk_alloc ?_ _)); refine blk_far ?_ NB1108_1123.out _; (with_reducible repeat (first | refine blk_drewN ?_ _ | refine blk_drew ?_ | refine blk_alloc ?_ _)); exact BK1108.out⟩
      have n9_ : Aside0 (((w69.setCell ⟨gb1123, 0, none⟩ (.bool t1128)).setCell ⟨gb1123, 1, none⟩ (.slice Ao71 t1129.length co71)).heap[gb1123]? = some (.cells #[.bool t1128, .slice Ao71 t1129.length co71] 52 (0, 0))) := ⟨by (with_reducible repeat (first | refine blk_drewN ?_ _ | refine blk_drew ?_ | refine blk_alloc ?_ _)); refine blk_put (cs := #[.bool t1128, .slice Ao63 t1119.length co63]) ?_ 1 _ rfl; (with_reducible repeat (first | refine blk_drewN ?_ _ | refine blk_drew ?_ | refine blk_alloc ?_ _)); refine blk_put (cs := #[.bool t1118, .slice Ao63 t1119.length co63]) ?_ 0 _ rfl; (with_reducible repeat (first | refine blk_drewN ?_ _ | refine blk_drew ?_ | refine blk_alloc ?_ _)); exact BK1123.out⟩
      have n10_ : Aside0 (Below w.heap.size w ((w69.setCell ⟨gb1123, 0, none⟩ (.bool t1128)).setCell ⟨gb1123, 1, none⟩ (.slice Ao71 t1129.length co71))) := ⟨uB⟩
      (try clear HO_1095001); (try clear HO_1109001); (try clear HO1112); (try clear HO1117); (try clear HO1121); (try clear HO1127); (try clear HO1131); (try clear BK1094); (try clear BK1108); (try clear BK1123); (try clear HB)
      generalize ((w69.setCell ⟨gb1123, 0, none⟩ (.bool t1128)).setCell ⟨gb1123, 1, none⟩ (.slice Ao71 t1129.length co71)) = w73 at n0_ n1_ n2_ n3_ n4_ n5_ n6_ n7_ n8_ n9_ n10_ ⊢
      have HO_1095001 := n0_; have HO_1109001 := n1_; have HO1112 := n2_; have HO1117 := n3_; have HO1121 := n4_; have HO1127 := n5_; have HO1131 := n6_; have BK1094 := n7_; have BK1108 := n8_; have BK1123 := n9_; have HB := n10_; clear n0_ n1_ n2_ n3_ n4_ n5_ n6_ n7_ n8_ n9_ n10_; replace HO_1095001 := Aside0.mk (Kd.R_drew HO_1095001.out); replace HO_1109001 := Aside0.mk (Kd.R_drew HO_1109001.out); replace HO1112 := Aside0.mk (Kd.R_drew HO1112.out); replace HO1117 := Aside0.mk (Kd.R_drew HO1117.out); replace HO1121 := Aside0.mk (Kd.R_drew HO1121.out); replace HO1127 := Aside0.mk (Kd.R_drew HO1127.out); replace HO1131 := Aside0.mk (Kd.R_drew HO1131.out); replace BK1094 := Aside0.mk (blk_drew BK1094.out); replace BK1108 := Aside0.mk (blk_drew BK1108.out); replace BK1123 := Aside0.mk (blk_drew BK1123.out); replace HB := Aside0.mk (below_drew1 HB.out)
      refine start_ (n := 7) (S := fun w' => w'.cell? ⟨gb1123, 0, none⟩ = some (.bool t1128) ∧ w'.cell? ⟨gb1123, 1, none⟩ = some (.slice Ao71 t1129.length co71)) (ds := [6]) #[false,false,false,false,false,false,false] (by kernel_rfl) rfl rfl ⟨(blk_cell BK1123.out 0).trans rfl, (blk_cell BK1123.out 1).trans rfl⟩ (fun hHeld => ?_)
      generalize w73.drew = w74 at HO_1095001 HO_1109001 HO1112 HO1117 HO1121 HO1127 HO1131 BK1094 BK1108 BK1123 HB hHeld ⊢
      refine take_ (i := 0) (N := some 74) (v := ?_) (a' := ?_) #[true,false,false,false,false,false,false] rfl rfl (by kernel_rfl) (fun _ _ _ h => h) (Or.inl ⟨by rfl, ?_⟩) hHeld ?_ ?_
      rotate_left
      ·
       rintro w' ⟨s0, s1⟩
       go_simp
       with_reducible rfl
      rotate_left
      · exact uQ
      refine one_ (i := 1) (N := some 75) #[true,true,false,false,false,false,false] rfl rfl (by kernel_rfl) (by decide) (fun K hK => ?_)
      refine goes_ Try.func61 (by kernel_rfl) rfl #[.int .i64 1] (by rfl) rfl rfl uM ?_
      with_reducible refine (windbreakref03_Of.calls 1 t1133 t1134 _ A47.out).mono ?_
      rintro e w75 ⟨v1135, rfl, ho0, hb⟩
      refine ⟨_, rfl, ?_⟩; have HO1136 := Aside0.mk (Kd.R_lower (Kd.R_new' (Kd.R_new' (Kd.R_new' (Kd.R_new' (Kd.R_new' (Kd.R_new' (Kd.R_new' ho0 (Kd.R_lt (uR HO_1095001.out))) (Kd.R_lt (uR HO_1109001.out))) (Kd.R_lt (uR HO1112.out))) (Kd.R_lt (uR HO1117.out))) (Kd.R_lt (uR HO1121.out))) (Kd.R_lt (uR HO1127.out))) (Kd.R_lt (uR HO1131.out))) (below_size uB)); replace HO_1095001 := ueR HO_1095001 ho0 hb; replace HO_1109001 := ueR HO_1109001 ho0 hb; replace HO1112 := ueR HO1112 ho0 hb; replace HO1117 := ueR HO1117 ho0 hb; replace HO1121 := ueR HO1121 ho0 hb; replace HO1127 := ueR HO1127 ho0 hb; replace HO1131 := ueR HO1131 ho0 hb; replace BK1094 := ux BK1094 hb; replace BK1108 := ux BK1108 hb; replace BK1123 := ux BK1123 hb; replace HB := uy hb; (try clear hb ho0)
      obtain ⟨Ao76, co76, eo76⟩ := Kd.R_slice HO1136.out
      (first | subst eo76 | (injection eo76 with f1_ f2_ f3_; have f4_ := f1_.symm; have f5_ := f3_.symm; clear f1_ f2_ f3_; subst f4_; subst f5_))
      refine hK.out _ _ ⟨(blk_cell BK1123.out 0).trans rfl, (blk_cell BK1123.out 1).trans rfl⟩ (fun hHeld => ?_); clear hK K; refine norm_ (a' := ?_) ?_ ?_; rotate_left
      · exact (show Act.put _ (some 75) _ = _ from uQ)
      refine one_ (i := 2) (N := some 76) #[true,true,true,false,false,false,false] rfl rfl (by kernel_rfl) (by decide) (fun K hK => ?_)
      refine goes_ Try.func71 (by kernel_rfl) rfl #[.agg #[.bool t1128, .slice Ao71 t1129.length co71], .agg #[.bool t1133, .slice Ao76 t1134.length co76]] (by rfl) rfl rfl uM ?_
      with_reducible refine (windbreakref03_Sub.calls k2 t1128 _ _ t1129 t1133 _ _ t1134 t1137 t1138 t1141 _ ?side1 ?side2 ?side3 ?side4 A48.out).mono ?_
      (case side1 => exact uC (Kd.R_reads' HO1131.out).2.2)
      (case side2 => exact (Kd.R_reads' HO1131.out).2.1)
      (case side3 => exact uC (Kd.R_reads' HO1136.out).2.2)
      (case side4 => exact (Kd.R_reads' HO1136.out).2.1)
      rintro e w77 ⟨v1139, rfl, ho0, hb⟩
      refine ⟨_, rfl, ?_⟩; have HO1140 := Aside0.mk (Kd.R_lower (Kd.R_new' (Kd.R_new' (Kd.R_new' (Kd.R_new' (Kd.R_new' (Kd.R_new' (Kd.R_new' (Kd.R_new' ho0 (Kd.R_lt (uR HO_1095001.out))) (Kd.R_lt (uR HO_1109001.out))) (Kd.R_lt (uR HO1112.out))) (Kd.R_lt (uR HO1117.out))) (Kd.R_lt (uR HO1121.out))) (Kd.R_lt (uR HO1127.out))) (Kd.R_lt (uR HO1131.out))) (Kd.R_lt (uR HO1136.out))) (below_size uB)); replace HO_1095001 := ueR HO_1095001 ho0 hb; replace HO_1109001 := ueR HO_1109001 ho0 hb; replace HO1112 := ueR HO1112 ho0 hb; replace HO1117 := ueR HO1117 ho0 hb; replace HO1121 := ueR HO1121 ho0 hb; replace HO1127 := ueR HO1127 ho0 hb; replace HO1131 := ueR HO1131 ho0 hb; replace HO1136 := ueR HO1136 ho0 hb; replace BK1094 := ux BK1094 hb; replace BK1108 := ux BK1108 hb; replace BK1123 := ux BK1123 hb; replace HB := uy hb; (try clear hb ho0)
      obtain ⟨Ao79, co79, eo79⟩ := Kd.R_slice HO1140.out
      (first | subst eo79 | (injection eo79 with f1_ f2_ f3_; have f4_ := f1_.symm; have f5_ := f3_.symm; clear f1_ f2_ f3_; subst f4_; subst f5_))
      refine hK.out _ _ ⟨(blk_cell BK1123.out 0).trans rfl, (blk_cell BK1123.out 1).trans rfl⟩ (fun hHeld => ?_); clear hK K; refine norm_ (a' := ?_) ?_ ?_; rotate_left
      · exact (show Act.put _ (some 76) _ = _ from uQ)
      refine pure_ (i := 3) (N := some 73) (v := ?_) (a' := ?_) #[true,true,true,true,false,false,false] rfl rfl (by kernel_rfl) (fun _ _ _ h => h) (Or.inl ⟨by rfl, ?_⟩) ?_ ?_
      rotate_left
      ·
       intro w'
       go_simp
       with_reducible rfl
      rotate_left
      · exact uQ
      refine pure_ (i := 4) (N := some 77) (v := ?_) (a' := ?_) #[true,true,true,true,true,false,false] rfl rfl (by kernel_rfl) (fun _ _ _ h => h) (Or.inl ⟨by rfl, ?_⟩) ?_ ?_
      rotate_left
      ·
       intro w'
       go_simp
       with_reducible rfl
      rotate_left
      · exact uQ
      refine pure_ (i := 5) (N := some 78) (v := ?_) (a' := ?_) #[true,true,true,true,true,true,false] rfl rfl (by kernel_rfl) (fun _ _ _ h => h) (Or.inl ⟨by rfl, ?_⟩) ?_ ?_
      rotate_left
      ·
       intro w'
       go_simp
       with_reducible rfl
      rotate_left
      · exact uQ
      refine last_ (i := 6) (N := none) #[true,true,true,true,true,true,true] rfl rfl (by kernel_rfl) (by decide) (fun K hK => ?_)
      have hs78 : w77.cell? ⟨gb1123, 0, none⟩ = some (.bool t1128) := (blk_cell BK1123.out 0).trans rfl
      have hfs78 := blk_frozen BK1123.out 0
      have hns78_0 := NB1094_1123.out
      have hns78_1 := NB1108_1123.out
      have hms78_0 := NB1123_1094.out
      have hms78_1 := NB1123_1108.out
      have hs80 : w77.cell? ⟨gb1123, 1, none⟩ = some (.slice Ao71 t1129.length co71) := (blk_cell BK1123.out 1).trans rfl
      have hfs80 := blk_frozen BK1123.out 1
      have hns80_0 := NB1094_1123.out
      have hns80_1 := NB1108_1123.out
      have hms80_0 := NB1123_1094.out
      have hms80_1 := NB1123_1108.out
      refine skip_ (w1 := ?_) (by rfl) rfl ?_ ?_
      rotate_left
      ·
       go_simp
       rfl
      refine hK.out _ _ ?_; clear hK K
      refine done_ (by kernel_rfl) ?_
      try go_wp2
      have n0_ : Aside0 (Kd.R (Kd.int .u64) 27 ((w77.setCell ⟨gb1123, 0, none⟩ (.bool t1137)).setCell ⟨gb1123, 1, none⟩ (.slice Ao79 t1138.length co79)) w.heap.size (fun k_ => some k_ ≠ (.slice Ao34 t1104.length co34 : Value).ownBlock ∧ some k_ ≠ (.slice Ao54 t1110.length co54 : Value).ownBlock ∧ some k_ ≠ (v1116 : Value).ownBlock ∧ some k_ ≠ (.slice Ao63 t1119.length co63 : Value).ownBlock ∧ some k_ ≠ (.slice Ao68 t1125.length co68 : Value).ownBlock ∧ some k_ ≠ (.slice Ao71 t1129.length co71 : Value).ownBlock ∧ some k_ ≠ (.slice Ao76 t1134.length co76 : Value).ownBlock ∧ some k_ ≠ (.slice Ao79 t1138.length co79 : Value).ownBlock) (.slice Ao25 t1090.length co25) t1090) := ⟨by (with_reducible repeat (first | apply Kd.R_alloc | apply Kd.R_drewN | apply Kd.R_drew)); exact Kd.R_mono (Kd.R_far (p := ⟨gb1123, 1, none⟩) (Kd.R_far (p := ⟨gb1123, 0, none⟩) (Kd.R_types HO_1095001.out BK1123.out (by decide)) (fun _ hk => hk.2) (.bool t1137)) (fun _ hk => hk.2) (.slice Ao79 t1138.length co79)) (fun _ hk => ⟨hk.1.1.1.1, ⟨hk.1.1.1.2.1, ⟨hk.1.1.1.2.2.1, ⟨hk.1.1.1.2.2.2.1, ⟨hk.1.1.1.2.2.2.2.1, ⟨hk.1.1.1.2.2.2.2.2, ⟨hk.1.1.2, hk.1.2⟩⟩⟩⟩⟩⟩⟩)⟩
      have n1_ : Aside0 (Kd.R (Kd.int .u64) 27 ((w77.setCell ⟨gb1123, 0, none⟩ (.bool t1137)).setCell ⟨gb1123, 1, none⟩ (.slice Ao79 t1138.length co79)) w.heap.size (fun k_ => some k_ ≠ (.slice Ao25 t1090.length co25 : Value).ownBlock ∧ some k_ ≠ (.slice Ao54 t1110.length co54 : Value).ownBlock ∧ some k_ ≠ (v1116 : Value).ownBlock ∧ some k_ ≠ (.slice Ao63 t1119.length co63 : Value).ownBlock ∧ some k_ ≠ (.slice Ao68 t1125.length co68 : Value).ownBlock ∧ some k_ ≠ (.slice Ao71 t1129.length co71 : Value).ownBlock ∧ some k_ ≠ (.slice Ao76 t1134.length co76 : Value).ownBlock ∧ some k_ ≠ (.slice Ao79 t1138.length co79 : Value).ownBlock) (.slice Ao34 t1104.length co34) t1104) := ⟨by (with_reducible repeat (first | apply Kd.R_alloc | apply Kd.R_drewN | apply Kd.R_drew)); exact Kd.R_mono (Kd.R_far (p := ⟨gb1123, 1, none⟩) (Kd.R_far (p := ⟨gb1123, 0, none⟩) (Kd.R_types HO_1109001.out BK1123.out (by decide)) (fun _ hk => hk.2) (.bool t1137)) (fun _ hk => hk.2) (.slice Ao79 t1138.length co79)) (fun _ hk => ⟨hk.1.1.1.1, ⟨hk.1.1.1.2.1, ⟨hk.1.1.1.2.2.1, ⟨hk.1.1.1.2.2.2.1, ⟨hk.1.1.1.2.2.2.2.1, ⟨hk.1.1.1.2.2.2.2.2, ⟨hk.1.1.2, hk.1.2⟩⟩⟩⟩⟩⟩⟩)⟩
      have n2_ : Aside0 (Kd.R (Kd.int .u64) 27 ((w77.setCell ⟨gb1123, 0, none⟩ (.bool t1137)).setCell ⟨gb1123, 1, none⟩ (.slice Ao79 t1138.length co79)) w.heap.size (fun k_ => some k_ ≠ (.slice Ao25 t1090.length co25 : Value).ownBlock ∧ some k_ ≠ (.slice Ao34 t1104.length co34 : Value).ownBlock ∧ some k_ ≠ (v1116 : Value).ownBlock ∧ some k_ ≠ (.slice Ao63 t1119.length co63 : Value).ownBlock ∧ some k_ ≠ (.slice Ao68 t1125.length co68 : Value).ownBlock ∧ some k_ ≠ (.slice Ao71 t1129.length co71 : Value).ownBlock ∧ some k_ ≠ (.slice Ao76 t1134.length co76 : Value).ownBlock ∧ some k_ ≠ (.slice Ao79 t1138.length co79 : Value).ownBlock) (.slice Ao54 t1110.length co54) t1110) := ⟨by (with_reducible repeat (first | apply Kd.R_alloc | apply Kd.R_drewN | apply Kd.R_drew)); exact Kd.R_mono (Kd.R_far (p := ⟨gb1123, 1, none⟩) (Kd.R_far (p := ⟨gb1123, 0, none⟩) (Kd.R_types HO1112.out BK1123.out (by decide)) (fun _ hk => hk.2) (.bool t1137)) (fun _ hk => hk.2) (.slice Ao79 t1138.length co79)) (fun _ hk => ⟨hk.1.1.1.1, ⟨hk.1.1.1.2.1, ⟨hk.1.1.1.2.2.1, ⟨hk.1.1.1.2.2.2.1, ⟨hk.1.1.1.2.2.2.2.1, ⟨hk.1.1.1.2.2.2.2.2, ⟨hk.1.1.2, hk.1.2⟩⟩⟩⟩⟩⟩⟩)⟩
      have n3_ : Aside0 (Kd.R (Kd.int .u64) 27 ((w77.setCell ⟨gb1123, 0, none⟩ (.bool t1137)).setCell ⟨gb1123, 1, none⟩ (.slice Ao79 t1138.length co79)) w.heap.size (fun k_ => some k_ ≠ (.slice Ao25 t1090.length co25 : Value).ownBlock ∧ some k_ ≠ (.slice Ao34 t1104.length co34 : Value).ownBlock ∧ some k_ ≠ (.slice Ao54 t1110.length co54 : Value).ownBlock ∧ some k_ ≠ (.slice Ao63 t1119.length co63 : Value).ownBlock ∧ some k_ ≠ (.slice Ao68 t1125.length co68 : Value).ownBlock ∧ some k_ ≠ (.slice Ao71 t1129.length co71 : Value).ownBlock ∧ some k_ ≠ (.slice Ao76 t1134.length co76 : Value).ownBlock ∧ some k_ ≠ (.slice Ao79 t1138.length co79 : Value).ownBlock) v1116 t1115) := ⟨by (with_reducible repeat (first | apply Kd.R_alloc | apply Kd.R_drewN | apply Kd.R_drew)); exact Kd.R_mono (Kd.R_far (p := ⟨gb1123, 1, none⟩) (Kd.R_far (p := ⟨gb1123, 0, none⟩) (Kd.R_types HO1117.out BK1123.out (by decide)) (fun _ hk => hk.2) (.bool t1137)) (fun _ hk => hk.2) (.slice Ao79 t1138.length co79)) (fun _ hk => ⟨hk.1.1.1.1, ⟨hk.1.1.1.2.1, ⟨hk.1.1.1.2.2.1, ⟨hk.1.1.1.2.2.2.1, ⟨hk.1.1.1.2.2.2.2.1, ⟨hk.1.1.1.2.2.2.2.2, ⟨hk.1.1.2, hk.1.2⟩⟩⟩⟩⟩⟩⟩)⟩
      have n4_ : Aside0 (Kd.R (Kd.int .u64) 27 ((w77.setCell ⟨gb1123, 0, none⟩ (.bool t1137)).setCell ⟨gb1123, 1, none⟩ (.slice Ao79 t1138.length co79)) w.heap.size (fun k_ => some k_ ≠ (.slice Ao25 t1090.length co25 : Value).ownBlock ∧ some k_ ≠ (.slice Ao34 t1104.length co34 : Value).ownBlock ∧ some k_ ≠ (.slice Ao54 t1110.length co54 : Value).ownBlock ∧ some k_ ≠ (v1116 : Value).ownBlock ∧ some k_ ≠ (.slice Ao68 t1125.length co68 : Value).ownBlock ∧ some k_ ≠ (.slice Ao71 t1129.length co71 : Value).ownBlock ∧ some k_ ≠ (.slice Ao76 t1134.length co76 : Value).ownBlock ∧ some k_ ≠ (.slice Ao79 t1138.length co79 : Value).ownBlock) (.slice Ao63 t1119.length co63) t1119) := ⟨by (with_reducible repeat (first | apply Kd.R_alloc | apply Kd.R_drewN | apply Kd.R_drew)); exact Kd.R_mono (Kd.R_far (p := ⟨gb1123, 1, none⟩) (Kd.R_far (p := ⟨gb1123, 0, none⟩) (Kd.R_types HO1121.out BK1123.out (by decide)) (fun _ hk => hk.2) (.bool t1137)) (fun _ hk => hk.2) (.slice Ao79 t1138.length co79)) (fun _ hk => ⟨hk.1.1.1.1, ⟨hk.1.1.1.2.1, ⟨hk.1.1.1.2.2.1, ⟨hk.1.1.1.2.2.2.1, ⟨hk.1.1.1.2.2.2.2.1, ⟨hk.1.1.1.2.2.2.2.2, ⟨hk.1.1.2, hk.1.2⟩⟩⟩⟩⟩⟩⟩)⟩
      have n5_ : Aside0 (Kd.R (Kd.int .u64) 27 ((w77.setCell ⟨gb1123, 0, none⟩ (.bool t1137)).setCell ⟨gb1123, 1, none⟩ (.slice Ao79 t1138.length co79)) w.heap.size (fun k_ => some k_ ≠ (.slice Ao25 t1090.length co25 : Value).ownBlock ∧ some k_ ≠ (.slice Ao34 t1104.length co34 : Value).ownBlock ∧ some k_ ≠ (.slice Ao54 t1110.length co54 : Value).ownBlock ∧ some k_ ≠ (v1116 : Value).ownBlock ∧ some k_ ≠ (.slice Ao63 t1119.length co63 : Value).ownBlock ∧ some k_ ≠ (.slice Ao71 t1129.length co71 : Value).ownBlock ∧ some k_ ≠ (.slice Ao76 t1134.length co76 : Value).ownBlock ∧ some k_ ≠ (.slice Ao79 t1138.length co79 : Value).ownBlock) (.slice Ao68 t1125.length co68) t1125) := ⟨by (with_reducible repeat (first | apply Kd.R_alloc | apply Kd.R_drewN | apply Kd.R_drew)); exact Kd.R_mono (Kd.R_far (p := ⟨gb1123, 1, none⟩) (Kd.R_far (p := ⟨gb1123, 0, none⟩) (Kd.R_types HO1127.out BK1123.out (by decide)) (fun _ hk => hk.2) (.bool t1137)) (fun _ hk => hk.2) (.slice Ao79 t1138.length co79)) (fun _ hk => ⟨hk.1.1.1.1, ⟨hk.1.1.1.2.1, ⟨hk.1.1.1.2.2.1, ⟨hk.1.1.1.2.2.2.1, ⟨hk.1.1.1.2.2.2.2.1, ⟨hk.1.1.1.2.2.2.2.2, ⟨hk.1.1.2, hk.1.2⟩⟩⟩⟩⟩⟩⟩)⟩
      have n6_ : Aside0 (Kd.R (Kd.int .u64) 27 ((w77.setCell ⟨gb1123, 0, none⟩ (.bool t1137)).setCell ⟨gb1123, 1, none⟩ (.slice Ao79 t1138.length co79)) w.heap.size (fun k_ => some k_ ≠ (.slice Ao25 t1090.length co25 : Value).ownBlock ∧ some k_ ≠ (.slice Ao34 t1104.length co34 : Value).ownBlock ∧ some k_ ≠ (.slice Ao54 t1110.length co54 : Value).ownBlock ∧ some k_ ≠ (v1116 : Value).ownBlock ∧ some k_ ≠ (.slice Ao63 t1119.length co63 : Value).ownBlock ∧ some k_ ≠ (.slice Ao68 t1125.length co68 : Value).ownBlock ∧ some k_ ≠ (.slice Ao76 t1134.length co76 : Value).ownBlock ∧ some k_ ≠ (.slice Ao79 t1138.length co79 : Value).ownBlock) (.slice Ao71 t1129.length co71) t1129) := ⟨by (with_reducible repeat (first | apply Kd.R_alloc | apply Kd.R_drewN | apply Kd.R_drew)); exact Kd.R_mono (Kd.R_far (p := ⟨gb1123, 1, none⟩) (Kd.R_far (p := ⟨gb1123, 0, none⟩) (Kd.R_types HO1131.out BK1123.out (by decide)) (fun _ hk => hk.2) (.bool t1137)) (fun _ hk => hk.2) (.slice Ao79 t1138.length co79)) (fun _ hk => ⟨hk.1.1.1.1, ⟨hk.1.1.1.2.1, ⟨hk.1.1.1.2.2.1, ⟨hk.1.1.1.2.2.2.1, ⟨hk.1.1.1.2.2.2.2.1, ⟨hk.1.1.1.2.2.2.2.2, ⟨hk.1.1.2, hk.1.2⟩⟩⟩⟩⟩⟩⟩)⟩
      have n7_ : Aside0 (Kd.R (Kd.int .u64) 27 ((w77.setCell ⟨gb1123, 0, none⟩ (.bool t1137)).setCell ⟨gb1123, 1, none⟩ (.slice Ao79 t1138.length co79)) w.heap.size (fun k_ => some k_ ≠ (.slice Ao25 t1090.length co25 : Value).ownBlock ∧ some k_ ≠ (.slice Ao34 t1104.length co34 : Value).ownBlock ∧ some k_ ≠ (.slice Ao54 t1110.length co54 : Value).ownBlock ∧ some k_ ≠ (v1116 : Value).ownBlock ∧ some k_ ≠ (.slice Ao63 t1119.length co63 : Value).ownBlock ∧ some k_ ≠ (.slice Ao68 t1125.length co68 : Value).ownBlock ∧ some k_ ≠ (.slice Ao71 t1129.length co71 : Value).ownBlock ∧ some k_ ≠ (.slice Ao79 t1138.length co79 : Value).ownBlock) (.slice Ao76 t1134.length co76) t1134) := ⟨by (with_reducible repeat (first | apply Kd.R_alloc | apply Kd.R_drewN | apply Kd.R_drew)); exact Kd.R_mono (Kd.R_far (p := ⟨gb1123, 1, none⟩) (Kd.R_far (p := ⟨gb1123, 0, none⟩) (Kd.R_types HO1136.out BK1123.out (by decide)) (fun _ hk => hk.2) (.bool t1137)) (fun _ hk => hk.2) (.slice Ao79 t1138.length co79)) (fun _ hk => ⟨hk.1.1.1.1.1.1.1.1.2, ⟨hk.1.1.1.1.1.1.1.2, ⟨hk.1.1.1.1.1.1.2, ⟨hk.1.1.1.1.1.2, ⟨hk.1.1.1.1.2, ⟨hk.1.1.1.2, ⟨hk.1.1.2, hk.1.2⟩⟩⟩⟩⟩⟩⟩)⟩
      have n8_ : Aside0 (Kd.R (Kd.int .u64) 27 ((w77.setCell ⟨gb1123, 0, none⟩ (.bool t1137)).setCell ⟨gb1123, 1, none⟩ (.slice Ao79 t1138.length co79)) w.heap.size (fun k_ => some k_ ≠ (.slice Ao25 t1090.length co25 : Value).ownBlock ∧ some k_ ≠ (.slice Ao34 t1104.length co34 : Value).ownBlock ∧ some k_ ≠ (.slice Ao54 t1110.length co54 : Value).ownBlock ∧ some k_ ≠ (v1116 : Value).ownBlock ∧ some k_ ≠ (.slice Ao63 t1119.length co63 : Value).ownBlock ∧ some k_ ≠ (.slice Ao68 t1125.length co68 : Value).ownBlock ∧ some k_ ≠ (.slice Ao71 t1129.length co71 : Value).ownBlock ∧ some k_ ≠ (.slice Ao76 t1134.length co76 : Value).ownBlock) (.slice Ao79 t1138.length co79) t1138) := ⟨by (with_reducible repeat (first | apply Kd.R_alloc | apply Kd.R_drewN | apply Kd.R_drew)); exact Kd.R_mono (Kd.R_far (p := ⟨gb1123, 1, none⟩) (Kd.R_far (p := ⟨gb1123, 0, none⟩) (Kd.R_types HO1140.out BK1123.out (by decide)) (fun _ hk => hk.2) (.bool t1137)) (fun _ hk => hk.2) (.slice Ao79 t1138.length co79)) (fun _ hk => ⟨hk.1.1.1.1.1.1.1.1.2, ⟨hk.1.1.1.1.1.1.1.2, ⟨hk.1.1.1.1.1.1.2, ⟨hk.1.1.1.1.1.2, ⟨hk.1.1.1.1.2, ⟨hk.1.1.1.2, ⟨hk.1.1.2, hk.1.2⟩⟩⟩⟩⟩⟩⟩)⟩
      have n9_ : Aside0 (((w77.setCell ⟨gb1123, 0, none⟩ (.bool t1137)).setCell ⟨gb1123, 1, none⟩ (.slice Ao79 t1138.length co79)).heap[gb1094]? = some (.cells #[.bool t1089, .slice Ao25 t1090.length co25] 52 (0, 0))) := ⟨by (with_reducible repeat (first | refine blk_drewN ?_ _ | refine blk_drew ?_ | refine blk_alloc ?_ _)); refine blk_far ?_ NB1094_1123.out _; (with_reducible repeat (first | refine blk_drewN ?_ _ | refine blk_drew ?_ | refine blk_alloc ?_ _)); refine blk_far ?_ NB1094_1123.out _; (with_reducible repeat (first | refine blk_drewN ?_ _ | refine blk_drew ?_ | refine blk_alloc ?_ _)); exact BK1094.out⟩
      have n10_ : Aside0 (((w77.setCell ⟨gb1123, 0, none⟩ (.bool t1137)).setCell ⟨gb1123, 1, none⟩ (.slice Ao79 t1138.length co79)).heap[gb1108]? = some (.cells #[.bool t1103, .slice Ao34 t1104.length co34] 52 (0, 0))) := ⟨by (with_reducible repeat (first | refine blk_drewN ?_ _ | refine blk_drew ?_ | refine blk_alloc ?_ _)); refine blk_far ?_ NB1108_1123.out _; (with_reducible repeat (first | refine blk_drewN ?_ _ | refine blk_drew ?_ | refine blk_alloc ?_ _)); refine blk_far ?_ NB1108_1123.out _; (with_reducible repeat (first | refine blk_drewN ?_ _ | refine blk_drew ?_ | refine blk_alloc ?_ _)); exact BK1108.out⟩
      have n11_ : Aside0 (((w77.setCell ⟨gb1123, 0, none⟩ (.bool t1137)).setCell ⟨gb1123, 1, none⟩ (.slice Ao79 t1138.length co79)).heap[gb1123]? = some (.cells #[.bool t1137, .slice Ao79 t1138.length co79] 52 (0, 0))) := ⟨by (with_reducible repeat (first | refine blk_drewN ?_ _ | refine blk_drew ?_ | refine blk_alloc ?_ _)); refine blk_put (cs := #[.bool t1137, .slice Ao71 t1129.length co71]) ?_ 1 _ rfl; (with_reducible repeat (first | refine blk_drewN ?_ _ | refine blk_drew ?_ | refine blk_alloc ?_ _)); refine blk_put (cs := #[.bool t1128, .slice Ao71 t1129.length co71]) ?_ 0 _ rfl; (with_reducible repeat (first | refine blk_drewN ?_ _ | refine blk_drew ?_ | refine blk_alloc ?_ _)); exact BK1123.out⟩
      have n12_ : Aside0 (Below w.heap.size w ((w77.setCell ⟨gb1123, 0, none⟩ (.bool t1137)).setCell ⟨gb1123, 1, none⟩ (.slice Ao79 t1138.length co79))) := ⟨uB⟩
      (try clear HO_1095001); (try clear HO_1109001); (try clear HO1112); (try clear HO1117); (try clear HO1121); (try clear HO1127); (try clear HO1131); (try clear HO1136); (try clear HO1140); (try clear BK1094); (try clear BK1108); (try clear BK1123); (try clear HB)
      generalize ((w77.setCell ⟨gb1123, 0, none⟩ (.bool t1137)).setCell ⟨gb1123, 1, none⟩ (.slice Ao79 t1138.length co79)) = w81 at n0_ n1_ n2_ n3_ n4_ n5_ n6_ n7_ n8_ n9_ n10_ n11_ n12_ ⊢
      have HO_1095001 := n0_; have HO_1109001 := n1_; have HO1112 := n2_; have HO1117 := n3_; have HO1121 := n4_; have HO1127 := n5_; have HO1131 := n6_; have HO1136 := n7_; have HO1140 := n8_; have BK1094 := n9_; have BK1108 := n10_; have BK1123 := n11_; have HB := n12_; clear n0_ n1_ n2_ n3_ n4_ n5_ n6_ n7_ n8_ n9_ n10_ n11_ n12_; replace HO_1095001 := Aside0.mk (Kd.R_drew HO_1095001.out); replace HO_1109001 := Aside0.mk (Kd.R_drew HO_1109001.out); replace HO1112 := Aside0.mk (Kd.R_drew HO1112.out); replace HO1117 := Aside0.mk (Kd.R_drew HO1117.out); replace HO1121 := Aside0.mk (Kd.R_drew HO1121.out); replace HO1127 := Aside0.mk (Kd.R_drew HO1127.out); replace HO1131 := Aside0.mk (Kd.R_drew HO1131.out); replace HO1136 := Aside0.mk (Kd.R_drew HO1136.out); replace HO1140 := Aside0.mk (Kd.R_drew HO1140.out); replace BK1094 := Aside0.mk (blk_drew BK1094.out); replace BK1108 := Aside0.mk (blk_drew BK1108.out); replace BK1123 := Aside0.mk (blk_drew BK1123.out); replace HB := Aside0.mk (below_drew1 HB.out)
      refine start_ (n := 6) (S := fun w' => w'.cell? ⟨gb1123, 0, none⟩ = some (.bool t1137) ∧ w'.cell? ⟨gb1123, 1, none⟩ = some (.slice Ao79 t1138.length co79)) (ds := []) #[false,false,false,false,false,false] (by kernel_rfl) rfl rfl ⟨(blk_cell BK1123.out 0).trans rfl, (blk_cell BK1123.out 1).trans rfl⟩ (fun hHeld => ?_)
      generalize w81.drew = w82 at HO_1095001 HO_1109001 HO1112 HO1117 HO1121 HO1127 HO1131 HO1136 HO1140 BK1094 BK1108 BK1123 HB hHeld ⊢
      refine pure_ (i := 0) (N := some 79) (v := ?_) (a' := ?_) #[true,false,false,false,false,false] rfl rfl (by kernel_rfl) (fun _ _ _ h => h) (Or.inl ⟨by rfl, ?_⟩) ?_ ?_
      rotate_left
      ·
       intro w'
       go_simp
       with_reducible rfl
      rotate_left
      · exact uQ
      refine pure_ (i := 2) (N := some 81) (v := ?_) (a' := ?_) #[true,false,true,false,false,false] rfl rfl (by kernel_rfl) (fun _ _ _ h => h) (Or.inl ⟨by rfl, ?_⟩) ?_ ?_
      rotate_left
      ·
       intro w'
       go_simp
       with_reducible rfl
      rotate_left
      · exact uQ
      refine take_ (i := 1) (N := some 80) (v := ?_) (a' := ?_) #[true,true,true,false,false,false] rfl rfl (by kernel_rfl) (fun _ _ _ h => h) (Or.inl ⟨by rfl, ?_⟩) hHeld ?_ ?_
      rotate_left
      ·
       rintro w' ⟨s0, s1⟩
       go_simp
       with_reducible rfl
      rotate_left
      · exact uQ
      refine one_ (i := 3) (N := some 82) #[true,true,true,true,false,false] rfl rfl (by kernel_rfl) (by decide) (fun K hK => ?_)
      refine goes_ Try.func73 (by kernel_rfl) rfl #[.slice A0 l0.length c0] (by rfl) rfl rfl uM ?_
      with_reducible refine (windbreakref07_half.calls k2 _ _ l0 t1142 _ ?side1 ?side2 A49.out).mono ?_
      (case side1 => exact uC (Kd.C_below HR0.out HB.out))
      (case side2 => exact HC0.out)
      rintro e w83 ⟨v1143, rfl, ho0, hb⟩
      refine ⟨_, rfl, ?_⟩; have HO1144 := Aside0.mk (Kd.R_lower (Kd.R_new' (Kd.R_new' (Kd.R_new' (Kd.R_new' (Kd.R_new' (Kd.R_new' (Kd.R_new' (Kd.R_new' (Kd.R_new' ho0 (Kd.R_lt (uR HO_1095001.out))) (Kd.R_lt (uR HO_1109001.out))) (Kd.R_lt (uR HO1112.out))) (Kd.R_lt (uR HO1117.out))) (Kd.R_lt (uR HO1121.out))) (Kd.R_lt (uR HO1127.out))) (Kd.R_lt (uR HO1131.out))) (Kd.R_lt (uR HO1136.out))) (Kd.R_lt (uR HO1140.out))) (below_size uB)); replace HO_1095001 := ueR HO_1095001 ho0 hb; replace HO_1109001 := ueR HO_1109001 ho0 hb; replace HO1112 := ueR HO1112 ho0 hb; replace HO1117 := ueR HO1117 ho0 hb; replace HO1121 := ueR HO1121 ho0 hb; replace HO1127 := ueR HO1127 ho0 hb; replace HO1131 := ueR HO1131 ho0 hb; replace HO1136 := ueR HO1136 ho0 hb; replace HO1140 := ueR HO1140 ho0 hb; replace BK1094 := ux BK1094 hb; replace BK1108 := ux BK1108 hb; replace BK1123 := ux BK1123 hb; replace HB := uy hb; (try clear hb ho0)
      obtain ⟨Ao84, co84, eo84⟩ := Kd.R_slice HO1144.out
      (first | subst eo84 | (injection eo84 with f1_ f2_ f3_; have f4_ := f1_.symm; have f5_ := f3_.symm; clear f1_ f2_ f3_; subst f4_; subst f5_))
      refine hK.out _ _ ⟨(blk_cell BK1123.out 0).trans rfl, (blk_cell BK1123.out 1).trans rfl⟩ (fun hHeld => ?_); clear hK K; refine norm_ (a' := ?_) ?_ ?_; rotate_left
      · exact (show Act.put _ (some 82) _ = _ from uQ)
      refine one_ (i := 4) (N := some 83) #[true,true,true,true,true,false] rfl rfl (by kernel_rfl) (by decide) (fun K hK => ?_)
      refine goes_ Try.func72 (by kernel_rfl) rfl #[.slice Ao79 t1138.length co79, .slice Ao84 t1142.length co84] (by rfl) rfl rfl uM ?_
      with_reducible refine (windbreakref01_Cmp.calls k2 _ _ t1138 _ _ t1142 t1145 _ ?side1 ?side2 ?side3 ?side4 A50.out).mono ?_
      (case side1 => exact uC (Kd.R_reads' HO1140.out).2.2)
      (case side2 => exact (Kd.R_reads' HO1140.out).2.1)
      (case side3 => exact uC (Kd.R_reads' HO1144.out).2.2)
      (case side4 => exact (Kd.R_reads' HO1144.out).2.1)
      rintro e w85 ⟨rfl, hb⟩
      refine ⟨_, rfl, ?_⟩; replace HO_1095001 := Aside0.mk (Kd.R_below (uR HO_1095001.out) hb); replace HO_1109001 := Aside0.mk (Kd.R_below (uR HO_1109001.out) hb); replace HO1112 := Aside0.mk (Kd.R_below (uR HO1112.out) hb); replace HO1117 := Aside0.mk (Kd.R_below (uR HO1117.out) hb); replace HO1121 := Aside0.mk (Kd.R_below (uR HO1121.out) hb); replace HO1127 := Aside0.mk (Kd.R_below (uR HO1127.out) hb); replace HO1131 := Aside0.mk (Kd.R_below (uR HO1131.out) hb); replace HO1136 := Aside0.mk (Kd.R_below (uR HO1136.out) hb); replace HO1140 := Aside0.mk (Kd.R_below (uR HO1140.out) hb); replace HO1144 := Aside0.mk (Kd.R_below (uR HO1144.out) hb); replace BK1094 := ux BK1094 hb; replace BK1108 := ux BK1108 hb; replace BK1123 := ux BK1123 hb; replace HB := uy hb; (try clear hb); refine hK.out _ _ ⟨(blk_cell BK1123.out 0).trans rfl, (blk_cell BK1123.out 1).trans rfl⟩ (fun hHeld => ?_); clear hK K; refine norm_ (a' := ?_) ?_ ?_; rotate_left
      · exact (show Act.put _ (some 83) _ = _ from uQ)
      refine pure_ (i := 5) (N := some 84) (v := ?_) (a' := ?_) #[true,true,true,true,true,true] rfl rfl (by kernel_rfl) (fun _ _ _ h => h) (Or.inl ⟨by rfl, ?_⟩) ?_ ?_
      rotate_left
      ·
       intro w'
       go_simp
       with_reducible rfl
      rotate_left
      · exact uQ
      refine done_ (by kernel_rfl) ?_
      have H := HS_.out; clear HS_
      by_cases c51 : t1145 > 0
      ·
       rw [if_pos c51] at H
       have c51b0 : decide (0 < t1145) = true := decide_eq_true c51
       (first | rw [c51b0] | (simp only [i64_w, i32_w]; rw [c51b0]) | skip)
       clear c51
       simp only [Option.some.injEq, Prod.mk.injEq] at H
       obtain ⟨rfl, rfl⟩ := H
       try go_wp2
       go_ret2
       exact ⟨uF, uB⟩
      rw [if_neg c51] at H
      have c51b0 : decide (0 < t1145) = false := decide_eq_false c51
      (first | rw [c51b0] | (simp only [i64_w, i32_w]; rw [c51b0]) | skip)
      clear c51
      simp only [Option.some.injEq, Prod.mk.injEq] at H
      obtain ⟨rfl, rfl⟩ := H
      try go_wp2
      go_ret2
      exact ⟨uF, uB⟩
     rw [if_neg c35] at H
     have c35b0 : decide (x15_2 ≤ 62) = false := decide_eq_false c35
     clear c35
     simp only [Option.some.injEq, Prod.mk.injEq] at H
     obtain ⟨rfl, rfl⟩ := H
     go_wp2
     go_ret2
     exact ⟨uF, uB⟩
end Go.Proofs.Ytgeanpnkllnipab.F
end
section
namespace Go.Proofs.Ytgeanpnkllnipab.F
open Go.RowKit Go.Proofs.YtgeanpnkllnipabW.PrintWords Go.Proofs.YtgeanpnkllnipabW.PrintLast Go.Proofs.YtgeanpnkllnipabW.PrintMore
attribute [local go_sem] max2_int min2_int max_two min_two max_three min_three max_four min_four
set_option linter.unusedVariables false
set_option linter.unusedSimpArgs false
def windbreaklaw07_FixencRooms.f (k : Nat) (l0 : List Int) (a1_0 : Int) (a1_1 : Int) (a1_2 : Int) : Option (Bool) := (windbreaklaw07_few.f k (([l0] : List (List Int)))).bind fun t1150 => (if t1150 = true then ((windbreaklaw07_awake.f k).bind fun t1151 => ((fixenc_Room.f k l0 a1_0 a1_1 a1_2).bind fun bt1152 => ((windbreakref07_Room.f k l0 a1_0 a1_1 a1_2).bind fun bt1154 => (if t1151 = true then (if bt1152.1 = bt1154.1 then (some (bt1152.2 == bt1154.2)) else (some false)) else (some false))))) else (some true))
set_option maxHeartbeats 8000000 in
set_option maxRecDepth 100000 in
theorem windbreaklaw07_FixencRooms.calls (k : Nat) (P0_ : Nat → Prop) (A0 : Option Addr) (c0 : Nat) (l0 : List Int) (a1_0 : Int) (a1_1 : Int) (a1_2 : Int) (r : Bool) (w : World) (hs0 : Kd.V (Kd.int .u64) 27 w w.heap.size (fun k_ => P0_ k_) (.slice A0 l0.length c0) l0) (h : windbreaklaw07_FixencRooms.f k l0 a1_0 a1_1 a1_2 = some r) :
  Calls Try.prog 11 #[.slice A0 l0.length c0, .agg #[.int .i64 a1_0, .int .i64 a1_1, .int .i64 a1_2]] w fun e w' => e = .returned (.bool r) ∧ Below w.heap.size w w' := by
 have hu44 := Try.underlying44
 have HO0 := Aside0.mk (show Kd.V (Kd.int .u64) 27 w w.heap.size (fun k_ => (P0_ k_ ∨ w.heap.size ≤ k_)) (.slice A0 l0.length c0) l0 from Kd.V_mono hs0 (fun k_ hk => .inl hk))
 have HB := Aside0.mk (Below.refl w.heap.size w)
 have H : ((windbreaklaw07_few.f k (([l0] : List (List Int)))).bind fun t1150 => (if t1150 = true then ((windbreaklaw07_awake.f k).bind fun t1151 => ((fixenc_Room.f k l0 a1_0 a1_1 a1_2).bind fun bt1152 => ((windbreakref07_Room.f k l0 a1_0 a1_1 a1_2).bind fun bt1154 => (if t1151 = true then (if bt1152.1 = bt1154.1 then (some (bt1152.2 == bt1154.2)) else (some false)) else (some false))))) else (some true))) = some r := h
 clear h
 obtain ⟨y1147, hy1147⟩ : ∃ y_ : List (List Int), y_ = (([l0] : List (List Int))) := ⟨_, rfl⟩
 replace H : ((windbreaklaw07_few.f k y1147).bind fun t1150 => (if t1150 = true then ((windbreaklaw07_awake.f k).bind fun t1151 => ((fixenc_Room.f k l0 a1_0 a1_1 a1_2).bind fun bt1152 => ((windbreakref07_Room.f k l0 a1_0 a1_1 a1_2).bind fun bt1154 => (if t1151 = true then (if bt1152.1 = bt1154.1 then (some (bt1152.2 == bt1154.2)) else (some false)) else (some false))))) else (some true))) = some r := by first | (rw [hy1147]; with_reducible exact H) | (have H2_ := (Option.bind_some _ _).symm.trans H; rw [hy1147]; with_reducible exact H2_) | (have H2_ := (Option.bind_some _ _).symm.trans H; with_reducible exact H2_) | with_reducible exact H | (rw [hy1147]; exact H) | exact H
 have Ny1147 := Aside0.mk hy1147; clear hy1147
 replace H := ub H; obtain ⟨t1150, A3, H⟩ := H
 by_cases c4 : t1150 = true
 ·
  subst c4
  have H1 : ((windbreaklaw07_awake.f k).bind fun t1151 => ((fixenc_Room.f k l0 a1_0 a1_1 a1_2).bind fun bt1152 => ((windbreakref07_Room.f k l0 a1_0 a1_1 a1_2).bind fun bt1154 => (if t1151 = true then (if bt1152.1 = bt1154.1 then (some (bt1152.2 == bt1154.2)) else (some false)) else (some false))))) = some r := by rw [if_pos rfl] at H; exact H
  clear H; have H := H1; clear H1
  replace H := ub H; obtain ⟨t1151, A5, H⟩ := H
  replace H := ub H; obtain ⟨⟨t1152, t1153⟩, A6, H⟩ := H
  (try dsimp only at H)
  replace H := ub H; obtain ⟨⟨t1154, t1155⟩, A7, H⟩ := H
  (try dsimp only at H)
  by_cases c8 : t1151 = true
  ·
   subst c8
   have H1 : (if t1152 = t1154 then (some (t1153 == t1155)) else (some false)) = some r := by rw [if_pos rfl] at H; exact H
   clear H; have H := H1; clear H1
   by_cases c9 : t1152 = t1154
   ·
    rw [if_pos c9] at H
    have c9b0 : (t1152 == t1154) = true := beq_iff_eq.mpr c9
    have c9b1 : (t1152 != t1154) = false := bne_eq_false_iff_eq.mpr c9
    clear c9
    obtain rfl := Option.some.inj H
    go_enter Try.func11, Try.ntmps11
    go_wp2_with (first | ((with_reducible refine gate_dst (N := 3) rfl ?_); refine box_event ?hg (N := 3) ?hd (cs := #[.int .i64 a1_0, .int .i64 a1_1, .int .i64 a1_2]) (t := 44) ?hr ?_; (case hd => rfl); (case hg => rfl); (case hr => first | (go_simp; done) | (go_simp; rfl)); intro gb1146 hg w10 hbox hb; replace HO0 := Aside0.mk (Kd.V_below (Kd.V_elderB (uV HO0.out) gb1146 (Nat.le_of_eq hg.symm)) hb); have BK1146 := Aside0.mk (hbox); have GW1146 := us hg; have GE1146 := us hg; replace HB := uy hb; clear hb hbox hg) | ((with_reducible refine gate_dst (N := 11) rfl ?_); refine Kd.N_lit (Kd.slice 27 (Kd.int .u64)) _ 23 ?hg (N' := 11) ?hd (xs := ([l0] : List (List Int))) (inner := [.slice A0 l0.length c0]) (ok := (fun k_ => (P0_ k_ ∨ w.heap.size ≤ k_) ∧ k_ ≠ gb1146)) (okp := (fun k_ => (P0_ k_ ∨ w.heap.size ≤ k_) ∧ k_ ≠ gb1146)) ?hr ?hp (fun _ hk => hk) ((show ∀ k_, w10.heap.size ≤ k_ → (fun k_ => (P0_ k_ ∨ w.heap.size ≤ k_) ∧ k_ ≠ gb1146) k_ from fun k_ hk => ⟨(.inr (Nat.le_trans (below_size uB) hk)), Kd.freshB (g := gb1146) (o := .cells #[.int .i64 a1_0, .int .i64 a1_1, .int .i64 a1_2] 44 (0, 0)) (uK BK1146.out) k_ hk⟩) _ (Nat.le_refl _)) (Below.refl _ _) (Nat.le_refl _) (by simp) ?_; (case hd => rfl); (case hg => rfl); (case hr => first | (go_simp; done) | (go_simp; rfl) | (go_simp; simp only [u64_u8]; done) | (go_simp; simp only [u64_u8]; rfl)); (case hp => exact (Reps.one (show Kd.FK (Kd.slice 27 (Kd.int .u64)) _ _ l0 [.slice A0 l0.length c0] from (Kd.FK_slice_mk (Kd.V_reads' (Kd.V_mono (ok' := (fun k_ => (P0_ k_ ∨ w.heap.size ≤ k_) ∧ k_ ≠ gb1146)) (HO0.out) (fun k_ hk => ⟨hk.1, hk.2⟩))).2.1 (Kd.V_F (Kd.V_mono (ok' := (fun k_ => (P0_ k_ ∨ w.heap.size ≤ k_) ∧ k_ ≠ gb1146)) (HO0.out) (fun k_ hk => ⟨hk.1, hk.2⟩))))) (Reps.none _ _))); intro v1148 w11 ho12 hb hg_ hnew_; clear hg_ hnew_; (first | rw [← Ny1147.out] at ho12 | (simp only [Int.reduceToNat] at ho12; rw [← Ny1147.out] at ho12)); replace HO0 := Aside0.mk (Kd.V_elder' (uV HO0.out) (Kd.N_base ho12) hb); have HO1149 := Aside0.mk (Kd.N_lower ho12 (below_size uB)); replace BK1146 := ux BK1146 hb; replace HB := uy hb; clear hb ho12; obtain ⟨Ao13, co13, eo13⟩ := Kd.N_slice HO1149.out; subst eo13) | ((with_reducible refine gate_callee (f := 27) rfl ?_); refine goesL_ (some 12) rfl rfl Try.func27 (by kernel_rfl) rfl #[.slice Ao13 y1147.length co13] rfl uM ?_; (with_reducible refine (windbreaklaw07_few.calls k _ _ y1147 true _ ?side1 ?side2 A3.out).mono ?_); (case side1 => exact uC (Kd.N_reads' HO1149.out).2.2); (case side2 => exact (Kd.N_reads' HO1149.out).2.1); rintro e w' ⟨rfl, ⟨nd, rfl⟩⟩; refine ⟨_, rfl, ?_⟩) | ((with_reducible refine gate_callee (f := 28) rfl ?_); refine goesL_ (some 14) rfl rfl Try.func28 (by kernel_rfl) rfl #[] rfl uM ?_; (with_reducible refine (windbreaklaw07_awake.calls k  true _ A5.out).mono ?_); rintro e w14 ⟨rfl, hb⟩; refine ⟨_, rfl, ?_⟩; replace HO0 := Aside0.mk (Kd.V_below (uV HO0.out) hb); replace HO1149 := Aside0.mk (Kd.N_below (uN HO1149.out) hb); replace BK1146 := ux BK1146 hb; replace HB := uy hb; (try clear hb); have hcz15_0 : w14.cell? ⟨gb1146, 0, none⟩ = some (.int .i64 a1_0) := (blk_cell BK1146.out 0).trans rfl; have hcz15_1 : w14.cell? ⟨gb1146, 1, none⟩ = some (.int .i64 a1_1) := (blk_cell BK1146.out 1).trans rfl; have hcz15_2 : w14.cell? ⟨gb1146, 2, none⟩ = some (.int .i64 a1_2) := (blk_cell BK1146.out 2).trans rfl; have hfz15_0 := blk_frozen BK1146.out 0; have hfz15_1 := blk_frozen BK1146.out 1; have hfz15_2 := blk_frozen BK1146.out 2) | ((with_reducible refine gate_callee (f := 31) rfl ?_); refine goesL_ (some 23) rfl rfl Try.func31 (by kernel_rfl) rfl #[.slice A0 l0.length c0, .int .i64 a1_0, .int .i64 a1_1, .int .i64 a1_2] rfl uM ?_; (with_reducible refine (fixenc_Room.calls k _ _ l0 a1_0 a1_1 a1_2 t1152 t1153 _ ?side1 ?side2 A6.out).mono ?_); (case side1 => exact uC (Kd.V_reads' HO0.out).2.2); (case side2 => exact (Kd.V_reads' HO0.out).2.1); rintro e w16 ⟨rfl, hb⟩; refine ⟨_, rfl, ?_⟩; replace HO0 := Aside0.mk (Kd.V_below (uV HO0.out) hb); replace HO1149 := Aside0.mk (Kd.N_below (uN HO1149.out) hb); replace BK1146 := ux BK1146 hb; replace HB := uy hb; (try clear hb); have hcz17_0 : w16.cell? ⟨gb1146, 0, none⟩ = some (.int .i64 a1_0) := (blk_cell BK1146.out 0).trans rfl; have hcz17_1 : w16.cell? ⟨gb1146, 1, none⟩ = some (.int .i64 a1_1) := (blk_cell BK1146.out 1).trans rfl; have hcz17_2 : w16.cell? ⟨gb1146, 2, none⟩ = some (.int .i64 a1_2) := (blk_cell BK1146.out 2).trans rfl; have hfz17_0 := blk_frozen BK1146.out 0; have hfz17_1 := blk_frozen BK1146.out 1; have hfz17_2 := blk_frozen BK1146.out 2) | ((with_reducible refine gate_callee (f := 32) rfl ?_); refine goesL_ (some 34) rfl rfl Try.func32 (by kernel_rfl) rfl #[.slice A0 l0.length c0, .int .i64 a1_0, .int .i64 a1_1, .int .i64 a1_2] rfl uM ?_; (with_reducible refine (windbreakref07_Room.calls k _ _ l0 a1_0 a1_1 a1_2 t1154 t1155 _ ?side1 ?side2 A7.out).mono ?_); (case side1 => exact uC (Kd.V_reads' HO0.out).2.2); (case side2 => exact (Kd.V_reads' HO0.out).2.1); rintro e w18 ⟨rfl, hb⟩; refine ⟨_, rfl, ?_⟩; replace HO0 := Aside0.mk (Kd.V_below (uV HO0.out) hb); replace HO1149 := Aside0.mk (Kd.N_below (uN HO1149.out) hb); replace BK1146 := ux BK1146 hb; replace HB := uy hb; (try clear hb)))
    go_ret
    exact ⟨uF, uB⟩
   rw [if_neg c9] at H
   have c9b0 : (t1152 == t1154) = false := beq_eq_false_iff_ne.mpr c9
   have c9b1 : (t1152 != t1154) = true := bne_iff_ne.mpr c9
   obtain rfl := Option.some.inj H
   go_enter Try.func11, Try.ntmps11
   go_wp2_with (first | ((with_reducible refine gate_dst (N := 3) rfl ?_); refine box_event ?hg (N := 3) ?hd (cs := #[.int .i64 a1_0, .int .i64 a1_1, .int .i64 a1_2]) (t := 44) ?hr ?_; (case hd => rfl); (case hg => rfl); (case hr => first | (go_simp; done) | (go_simp; rfl)); intro gb1146 hg w19 hbox hb; replace HO0 := Aside0.mk (Kd.V_below (Kd.V_elderB (uV HO0.out) gb1146 (Nat.le_of_eq hg.symm)) hb); have BK1146 := Aside0.mk (hbox); have GW1146 := us hg; have GE1146 := us hg; replace HB := uy hb; clear hb hbox hg) | ((with_reducible refine gate_dst (N := 11) rfl ?_); refine Kd.N_lit (Kd.slice 27 (Kd.int .u64)) _ 23 ?hg (N' := 11) ?hd (xs := ([l0] : List (List Int))) (inner := [.slice A0 l0.length c0]) (ok := (fun k_ => (P0_ k_ ∨ w.heap.size ≤ k_) ∧ k_ ≠ gb1146)) (okp := (fun k_ => (P0_ k_ ∨ w.heap.size ≤ k_) ∧ k_ ≠ gb1146)) ?hr ?hp (fun _ hk => hk) ((show ∀ k_, w19.heap.size ≤ k_ → (fun k_ => (P0_ k_ ∨ w.heap.size ≤ k_) ∧ k_ ≠ gb1146) k_ from fun k_ hk => ⟨(.inr (Nat.le_trans (below_size uB) hk)), Kd.freshB (g := gb1146) (o := .cells #[.int .i64 a1_0, .int .i64 a1_1, .int .i64 a1_2] 44 (0, 0)) (uK BK1146.out) k_ hk⟩) _ (Nat.le_refl _)) (Below.refl _ _) (Nat.le_refl _) (by simp) ?_; (case hd => rfl); (case hg => rfl); (case hr => first | (go_simp; done) | (go_simp; rfl) | (go_simp; simp only [u64_u8]; done) | (go_simp; simp only [u64_u8]; rfl)); (case hp => exact (Reps.one (show Kd.FK (Kd.slice 27 (Kd.int .u64)) _ _ l0 [.slice A0 l0.length c0] from (Kd.FK_slice_mk (Kd.V_reads' (Kd.V_mono (ok' := (fun k_ => (P0_ k_ ∨ w.heap.size ≤ k_) ∧ k_ ≠ gb1146)) (HO0.out) (fun k_ hk => ⟨hk.1, hk.2⟩))).2.1 (Kd.V_F (Kd.V_mono (ok' := (fun k_ => (P0_ k_ ∨ w.heap.size ≤ k_) ∧ k_ ≠ gb1146)) (HO0.out) (fun k_ hk => ⟨hk.1, hk.2⟩))))) (Reps.none _ _))); intro v1148 w20 ho21 hb hg_ hnew_; clear hg_ hnew_; (first | rw [← Ny1147.out] at ho21 | (simp only [Int.reduceToNat] at ho21; rw [← Ny1147.out] at ho21)); replace HO0 := Aside0.mk (Kd.V_elder' (uV HO0.out) (Kd.N_base ho21) hb); have HO1149 := Aside0.mk (Kd.N_lower ho21 (below_size uB)); replace BK1146 := ux BK1146 hb; replace HB := uy hb; clear hb ho21; obtain ⟨Ao22, co22, eo22⟩ := Kd.N_slice HO1149.out; subst eo22) | ((with_reducible refine gate_callee (f := 27) rfl ?_); refine goesL_ (some 12) rfl rfl Try.func27 (by kernel_rfl) rfl #[.slice Ao22 y1147.length co22] rfl uM ?_; (with_reducible refine (windbreaklaw07_few.calls k _ _ y1147 true _ ?side1 ?side2 A3.out).mono ?_); (case side1 => exact uC (Kd.N_reads' HO1149.out).2.2); (case side2 => exact (Kd.N_reads' HO1149.out).2.1); rintro e w' ⟨rfl, ⟨nd, rfl⟩⟩; refine ⟨_, rfl, ?_⟩) | ((with_reducible refine gate_callee (f := 28) rfl ?_); refine goesL_ (some 14) rfl rfl Try.func28 (by kernel_rfl) rfl #[] rfl uM ?_; (with_reducible refine (windbreaklaw07_awake.calls k  true _ A5.out).mono ?_); rintro e w23 ⟨rfl, hb⟩; refine ⟨_, rfl, ?_⟩; replace HO0 := Aside0.mk (Kd.V_below (uV HO0.out) hb); replace HO1149 := Aside0.mk (Kd.N_below (uN HO1149.out) hb); replace BK1146 := ux BK1146 hb; replace HB := uy hb; (try clear hb); have hcz24_0 : w23.cell? ⟨gb1146, 0, none⟩ = some (.int .i64 a1_0) := (blk_cell BK1146.out 0).trans rfl; have hcz24_1 : w23.cell? ⟨gb1146, 1, none⟩ = some (.int .i64 a1_1) := (blk_cell BK1146.out 1).trans rfl; have hcz24_2 : w23.cell? ⟨gb1146, 2, none⟩ = some (.int .i64 a1_2) := (blk_cell BK1146.out 2).trans rfl; have hfz24_0 := blk_frozen BK1146.out 0; have hfz24_1 := blk_frozen BK1146.out 1; have hfz24_2 := blk_frozen BK1146.out 2) | ((with_reducible refine gate_callee (f := 31) rfl ?_); refine goesL_ (some 23) rfl rfl Try.func31 (by kernel_rfl) rfl #[.slice A0 l0.length c0, .int .i64 a1_0, .int .i64 a1_1, .int .i64 a1_2] rfl uM ?_; (with_reducible refine (fixenc_Room.calls k _ _ l0 a1_0 a1_1 a1_2 t1152 t1153 _ ?side1 ?side2 A6.out).mono ?_); (case side1 => exact uC (Kd.V_reads' HO0.out).2.2); (case side2 => exact (Kd.V_reads' HO0.out).2.1); rintro e w25 ⟨rfl, hb⟩; refine ⟨_, rfl, ?_⟩; replace HO0 := Aside0.mk (Kd.V_below (uV HO0.out) hb); replace HO1149 := Aside0.mk (Kd.N_below (uN HO1149.out) hb); replace BK1146 := ux BK1146 hb; replace HB := uy hb; (try clear hb); have hcz26_0 : w25.cell? ⟨gb1146, 0, none⟩ = some (.int .i64 a1_0) := (blk_cell BK1146.out 0).trans rfl; have hcz26_1 : w25.cell? ⟨gb1146, 1, none⟩ = some (.int .i64 a1_1) := (blk_cell BK1146.out 1).trans rfl; have hcz26_2 : w25.cell? ⟨gb1146, 2, none⟩ = some (.int .i64 a1_2) := (blk_cell BK1146.out 2).trans rfl; have hfz26_0 := blk_frozen BK1146.out 0; have hfz26_1 := blk_frozen BK1146.out 1; have hfz26_2 := blk_frozen BK1146.out 2) | ((with_reducible refine gate_callee (f := 32) rfl ?_); refine goesL_ (some 34) rfl rfl Try.func32 (by kernel_rfl) rfl #[.slice A0 l0.length c0, .int .i64 a1_0, .int .i64 a1_1, .int .i64 a1_2] rfl uM ?_; (with_reducible refine (windbreakref07_Room.calls k _ _ l0 a1_0 a1_1 a1_2 t1154 t1155 _ ?side1 ?side2 A7.out).mono ?_); (case side1 => exact uC (Kd.V_reads' HO0.out).2.2); (case side2 => exact (Kd.V_reads' HO0.out).2.1); rintro e w27 ⟨rfl, hb⟩; refine ⟨_, rfl, ?_⟩; replace HO0 := Aside0.mk (Kd.V_below (uV HO0.out) hb); replace HO1149 := Aside0.mk (Kd.N_below (uN HO1149.out) hb); replace BK1146 := ux BK1146 hb; replace HB := uy hb; (try clear hb)))
   go_ret
   exact ⟨uF, uB⟩
  replace c8 := Bool.eq_false_iff.mpr c8
  subst c8
  have H1 : (some false) = some r := by rw [if_neg (show ¬ (false = true) by decide)] at H; exact H
  clear H; have H := H1; clear H1
  obtain rfl := Option.some.inj H
  go_enter Try.func11, Try.ntmps11
  go_wp2_with (first | ((with_reducible refine gate_dst (N := 3) rfl ?_); refine box_event ?hg (N := 3) ?hd (cs := #[.int .i64 a1_0, .int .i64 a1_1, .int .i64 a1_2]) (t := 44) ?hr ?_; (case hd => rfl); (case hg => rfl); (case hr => first | (go_simp; done) | (go_simp; rfl)); intro gb1146 hg w28 hbox hb; replace HO0 := Aside0.mk (Kd.V_below (Kd.V_elderB (uV HO0.out) gb1146 (Nat.le_of_eq hg.symm)) hb); have BK1146 := Aside0.mk (hbox); have GW1146 := us hg; have GE1146 := us hg; replace HB := uy hb; clear hb hbox hg) | ((with_reducible refine gate_dst (N := 11) rfl ?_); refine Kd.N_lit (Kd.slice 27 (Kd.int .u64)) _ 23 ?hg (N' := 11) ?hd (xs := ([l0] : List (List Int))) (inner := [.slice A0 l0.length c0]) (ok := (fun k_ => (P0_ k_ ∨ w.heap.size ≤ k_) ∧ k_ ≠ gb1146)) (okp := (fun k_ => (P0_ k_ ∨ w.heap.size ≤ k_) ∧ k_ ≠ gb1146)) ?hr ?hp (fun _ hk => hk) ((show ∀ k_, w28.heap.size ≤ k_ → (fun k_ => (P0_ k_ ∨ w.heap.size ≤ k_) ∧ k_ ≠ gb1146) k_ from fun k_ hk => ⟨(.inr (Nat.le_trans (below_size uB) hk)), Kd.freshB (g := gb1146) (o := .cells #[.int .i64 a1_0, .int .i64 a1_1, .int .i64 a1_2] 44 (0, 0)) (uK BK1146.out) k_ hk⟩) _ (Nat.le_refl _)) (Below.refl _ _) (Nat.le_refl _) (by simp) ?_; (case hd => rfl); (case hg => rfl); (case hr => first | (go_simp; done) | (go_simp; rfl) | (go_simp; simp only [u64_u8]; done) | (go_simp; simp only [u64_u8]; rfl)); (case hp => exact (Reps.one (show Kd.FK (Kd.slice 27 (Kd.int .u64)) _ _ l0 [.slice A0 l0.length c0] from (Kd.FK_slice_mk (Kd.V_reads' (Kd.V_mono (ok' := (fun k_ => (P0_ k_ ∨ w.heap.size ≤ k_) ∧ k_ ≠ gb1146)) (HO0.out) (fun k_ hk => ⟨hk.1, hk.2⟩))).2.1 (Kd.V_F (Kd.V_mono (ok' := (fun k_ => (P0_ k_ ∨ w.heap.size ≤ k_) ∧ k_ ≠ gb1146)) (HO0.out) (fun k_ hk => ⟨hk.1, hk.2⟩))))) (Reps.none _ _))); intro v1148 w29 ho30 hb hg_ hnew_; clear hg_ hnew_; (first | rw [← Ny1147.out] at ho30 | (simp only [Int.reduceToNat] at ho30; rw [← Ny1147.out] at ho30)); replace HO0 := Aside0.mk (Kd.V_elder' (uV HO0.out) (Kd.N_base ho30) hb); have HO1149 := Aside0.mk (Kd.N_lower ho30 (below_size uB)); replace BK1146 := ux BK1146 hb; replace HB := uy hb; clear hb ho30; obtain ⟨Ao31, co31, eo31⟩ := Kd.N_slice HO1149.out; subst eo31) | ((with_reducible refine gate_callee (f := 27) rfl ?_); refine goesL_ (some 12) rfl rfl Try.func27 (by kernel_rfl) rfl #[.slice Ao31 y1147.length co31] rfl uM ?_; (with_reducible refine (windbreaklaw07_few.calls k _ _ y1147 true _ ?side1 ?side2 A3.out).mono ?_); (case side1 => exact uC (Kd.N_reads' HO1149.out).2.2); (case side2 => exact (Kd.N_reads' HO1149.out).2.1); rintro e w' ⟨rfl, ⟨nd, rfl⟩⟩; refine ⟨_, rfl, ?_⟩) | ((with_reducible refine gate_callee (f := 28) rfl ?_); refine goesL_ (some 14) rfl rfl Try.func28 (by kernel_rfl) rfl #[] rfl uM ?_; (with_reducible refine (windbreaklaw07_awake.calls k  false _ A5.out).mono ?_); rintro e w32 ⟨rfl, hb⟩; refine ⟨_, rfl, ?_⟩; replace HO0 := Aside0.mk (Kd.V_below (uV HO0.out) hb); replace HO1149 := Aside0.mk (Kd.N_below (uN HO1149.out) hb); replace BK1146 := ux BK1146 hb; replace HB := uy hb; (try clear hb); have hcz33_0 : w32.cell? ⟨gb1146, 0, none⟩ = some (.int .i64 a1_0) := (blk_cell BK1146.out 0).trans rfl; have hcz33_1 : w32.cell? ⟨gb1146, 1, none⟩ = some (.int .i64 a1_1) := (blk_cell BK1146.out 1).trans rfl; have hcz33_2 : w32.cell? ⟨gb1146, 2, none⟩ = some (.int .i64 a1_2) := (blk_cell BK1146.out 2).trans rfl; have hfz33_0 := blk_frozen BK1146.out 0; have hfz33_1 := blk_frozen BK1146.out 1; have hfz33_2 := blk_frozen BK1146.out 2) | ((with_reducible refine gate_callee (f := 31) rfl ?_); refine goesL_ (some 23) rfl rfl Try.func31 (by kernel_rfl) rfl #[.slice A0 l0.length c0, .int .i64 a1_0, .int .i64 a1_1, .int .i64 a1_2] rfl uM ?_; (with_reducible refine (fixenc_Room.calls k _ _ l0 a1_0 a1_1 a1_2 t1152 t1153 _ ?side1 ?side2 A6.out).mono ?_); (case side1 => exact uC (Kd.V_reads' HO0.out).2.2); (case side2 => exact (Kd.V_reads' HO0.out).2.1); rintro e w34 ⟨rfl, hb⟩; refine ⟨_, rfl, ?_⟩; replace HO0 := Aside0.mk (Kd.V_below (uV HO0.out) hb); replace HO1149 := Aside0.mk (Kd.N_below (uN HO1149.out) hb); replace BK1146 := ux BK1146 hb; replace HB := uy hb; (try clear hb); have hcz35_0 : w34.cell? ⟨gb1146, 0, none⟩ = some (.int .i64 a1_0) := (blk_cell BK1146.out 0).trans rfl; have hcz35_1 : w34.cell? ⟨gb1146, 1, none⟩ = some (.int .i64 a1_1) := (blk_cell BK1146.out 1).trans rfl; have hcz35_2 : w34.cell? ⟨gb1146, 2, none⟩ = some (.int .i64 a1_2) := (blk_cell BK1146.out 2).trans rfl; have hfz35_0 := blk_frozen BK1146.out 0; have hfz35_1 := blk_frozen BK1146.out 1; have hfz35_2 := blk_frozen BK1146.out 2) | ((with_reducible refine gate_callee (f := 32) rfl ?_); refine goesL_ (some 34) rfl rfl Try.func32 (by kernel_rfl) rfl #[.slice A0 l0.length c0, .int .i64 a1_0, .int .i64 a1_1, .int .i64 a1_2] rfl uM ?_; (with_reducible refine (windbreakref07_Room.calls k _ _ l0 a1_0 a1_1 a1_2 t1154 t1155 _ ?side1 ?side2 A7.out).mono ?_); (case side1 => exact uC (Kd.V_reads' HO0.out).2.2); (case side2 => exact (Kd.V_reads' HO0.out).2.1); rintro e w36 ⟨rfl, hb⟩; refine ⟨_, rfl, ?_⟩; replace HO0 := Aside0.mk (Kd.V_below (uV HO0.out) hb); replace HO1149 := Aside0.mk (Kd.N_below (uN HO1149.out) hb); replace BK1146 := ux BK1146 hb; replace HB := uy hb; (try clear hb)))
  go_ret
  exact ⟨uF, uB⟩
 replace c4 := Bool.eq_false_iff.mpr c4
 subst c4
 have H1 : (some true) = some r := by rw [if_neg (show ¬ (false = true) by decide)] at H; exact H
 clear H; have H := H1; clear H1
 obtain rfl := Option.some.inj H
 go_enter Try.func11, Try.ntmps11
 go_wp2_with (first | ((with_reducible refine gate_dst (N := 3) rfl ?_); refine box_event ?hg (N := 3) ?hd (cs := #[.int .i64 a1_0, .int .i64 a1_1, .int .i64 a1_2]) (t := 44) ?hr ?_; (case hd => rfl); (case hg => rfl); (case hr => first | (go_simp; done) | (go_simp; rfl)); intro gb1146 hg w37 hbox hb; replace HO0 := Aside0.mk (Kd.V_below (Kd.V_elderB (uV HO0.out) gb1146 (Nat.le_of_eq hg.symm)) hb); have BK1146 := Aside0.mk (hbox); have GW1146 := us hg; have GE1146 := us hg; replace HB := uy hb; clear hb hbox hg) | ((with_reducible refine gate_dst (N := 11) rfl ?_); refine Kd.N_lit (Kd.slice 27 (Kd.int .u64)) _ 23 ?hg (N' := 11) ?hd (xs := ([l0] : List (List Int))) (inner := [.slice A0 l0.length c0]) (ok := (fun k_ => (P0_ k_ ∨ w.heap.size ≤ k_) ∧ k_ ≠ gb1146)) (okp := (fun k_ => (P0_ k_ ∨ w.heap.size ≤ k_) ∧ k_ ≠ gb1146)) ?hr ?hp (fun _ hk => hk) ((show ∀ k_, w37.heap.size ≤ k_ → (fun k_ => (P0_ k_ ∨ w.heap.size ≤ k_) ∧ k_ ≠ gb1146) k_ from fun k_ hk => ⟨(.inr (Nat.le_trans (below_size uB) hk)), Kd.freshB (g := gb1146) (o := .cells #[.int .i64 a1_0, .int .i64 a1_1, .int .i64 a1_2] 44 (0, 0)) (uK BK1146.out) k_ hk⟩) _ (Nat.le_refl _)) (Below.refl _ _) (Nat.le_refl _) (by simp) ?_; (case hd => rfl); (case hg => rfl); (case hr => first | (go_simp; done) | (go_simp; rfl) | (go_simp; simp only [u64_u8]; done) | (go_simp; simp only [u64_u8]; rfl)); (case hp => exact (Reps.one (show Kd.FK (Kd.slice 27 (Kd.int .u64)) _ _ l0 [.slice A0 l0.length c0] from (Kd.FK_slice_mk (Kd.V_reads' (Kd.V_mono (ok' := (fun k_ => (P0_ k_ ∨ w.heap.size ≤ k_) ∧ k_ ≠ gb1146)) (HO0.out) (fun k_ hk => ⟨hk.1, hk.2⟩))).2.1 (Kd.V_F (Kd.V_mono (ok' := (fun k_ => (P0_ k_ ∨ w.heap.size ≤ k_) ∧ k_ ≠ gb1146)) (HO0.out) (fun k_ hk => ⟨hk.1, hk.2⟩))))) (Reps.none _ _))); intro v1148 w38 ho39 hb hg_ hnew_; clear hg_ hnew_; (first | rw [← Ny1147.out] at ho39 | (simp only [Int.reduceToNat] at ho39; rw [← Ny1147.out] at ho39)); replace HO0 := Aside0.mk (Kd.V_elder' (uV HO0.out) (Kd.N_base ho39) hb); have HO1149 := Aside0.mk (Kd.N_lower ho39 (below_size uB)); replace BK1146 := ux BK1146 hb; replace HB := uy hb; clear hb ho39; obtain ⟨Ao40, co40, eo40⟩ := Kd.N_slice HO1149.out; subst eo40) | ((with_reducible refine gate_callee (f := 27) rfl ?_); refine goesL_ (some 12) rfl rfl Try.func27 (by kernel_rfl) rfl #[.slice Ao40 y1147.length co40] rfl uM ?_; (with_reducible refine (windbreaklaw07_few.calls k _ _ y1147 false _ ?side1 ?side2 A3.out).mono ?_); (case side1 => exact uC (Kd.N_reads' HO1149.out).2.2); (case side2 => exact (Kd.N_reads' HO1149.out).2.1); rintro e w' ⟨rfl, ⟨nd, rfl⟩⟩; refine ⟨_, rfl, ?_⟩))
 go_ret
 exact ⟨uF, uB⟩
def windbreaklaw07_FixencRooms.Pure : Prop := ∀ (l0 : List Int) (a1_0 : Int) (a1_1 : Int) (a1_2 : Int), l0.length ≤ maxLen → l0.length * 8 ≤ 140737488351232 → (∀ x ∈ l0, (Lit.int .u64 x).wf = true) → (Lit.int .i64 a1_0).wf = true → (Lit.int .i64 a1_1).wf = true → (Lit.int .i64 a1_2).wf = true → ∃ k, windbreaklaw07_FixencRooms.f k l0 a1_0 a1_1 a1_2 = some true
theorem windbreaklaw07_FixencRooms.walk (P : windbreaklaw07_FixencRooms.Pure) (a0 : Option Addr) (len0 cap0 : Nat) (z0 : List Int) (a1_0 : Int) (a1_1 : Int) (a1_2 : Int) (w : World) (w0 : (a0 = none ∧ len0 = 0 ∧ cap0 = 0 ∧ z0 = []) ∨ ∃ x, a0 = some x ∧ len0 ≤ cap0 ∧ cap0 ≤ maxLen ∧ z0.length = cap0 ∧ (∀ i, i < z0.length → w.cell? (x.add i) = some (.int .u64 (z0.getD i 0))) ∧ ∀ n ∈ z0, (Lit.int .u64 n).wf = true) (y0 : len0 * 8 ≤ 140737488351232) (w1_0 : (Lit.int .i64 a1_0).wf = true) (w1_1 : (Lit.int .i64 a1_1).wf = true) (w1_2 : (Lit.int .i64 a1_2).wf = true) :
  Calls Try.prog 11 #[.slice a0 len0 cap0, .agg #[.int .i64 a1_0, .int .i64 a1_1, .int .i64 a1_2]] w fun e w' => e = .returned (.bool true) ∧ Below w.heap.size w w' := by
 obtain ⟨l0, rfl, hr0, hm0, hw0, hc0⟩ := ReadsInt.ofRowC w0
 obtain ⟨k, h⟩ := P l0 a1_0 a1_1 a1_2 hm0 y0 hw0 w1_0 w1_1 w1_2
 refine (windbreaklaw07_FixencRooms.calls k (fun k_ => k_ < w.heap.size) _ _ l0 a1_0 a1_1 a1_2 true w (Kd.V_mk hc0 (Kd.C_F (Kd.heap_int .u64) (Kd.C_of_reads (d := (0 : Int)) (h1 := fun _ => rfl) hr0))) h).mono ?_
 rintro e w' ⟨rfl, hd⟩
 exact ⟨rfl, hd⟩
end Go.Proofs.Ytgeanpnkllnipab.F
end
section
namespace Go.Proofs.Ytgeanpnkllnipab.Z
open Go.RowKit Go.Proofs.YtgeanpnkllnipabW.PrintWords
set_option linter.unusedSimpArgs false
set_option linter.unusedVariables false
def mayV (n : List Int) : Bool := rightB n && decide (n.length ≤ 8) && decide (3 ≤ num n)
def halfV (n : List Int) : Nat := (num n - 1) / 2
def intR (a : Bool) (l : List Int) : Bool := rightB l && (!a || decide (0 < l.length))
def fromV (a : Bool) (l : List Int) : Bool × List Int := if rightB l = true ∧ l.length ≠ 0 then (a, l) else (false, [])
def encV (n : List Int) (a : Bool) (x : List Int) : List Int × Int :=
  if mayV n = true ∧ intR a x = true then (if num x ≤ halfV n then (if a = true then (limbs (num n - num x), 0) else (x, 0)) else ([], 12)) else ([], 1)
theorem dig_one {x : Int} (h0 : 0 ≤ x) (h1 : x < 18446744073709551616) : Dig (b64 : Int) [x] := Dig.cons.2 ⟨⟨h0, h1⟩, Dig.nil⟩
theorem right_one {x : Int} (h : x ≠ 0) : rightB [x] = true := (rightB_iff _).2 ⟨by simp, Can.one h⟩
theorem right_limbs' {v : Nat} (h : v < b64 ^ 64) : rightB (limbs v) = true := (rightB_iff _).2 ⟨(limbs_long v).2 h, toD_can b64_two v⟩
theorem dig_limbs' (v : Nat) : Dig (b64 : Int) (limbs v) := toD_dig b64_two v
theorem mayV_iff (n : List Int) : mayV n = true ↔ rightB n = true ∧ n.length ≤ 8 ∧ 3 ≤ num n := by
  unfold mayV
  simp [and_assoc]
theorem may_lt {n : List Int} (dn : Dig (b64 : Int) n) (h : mayV n = true) : num n < b64 ^ 64 := by
  obtain ⟨h1, h2, _⟩ := (mayV_iff n).1 h
  exact num_lt_p dn (by omega)
theorem limbs_le64 {v : Nat} (h : v < b64 ^ 64) : (limbs v).length ≤ 64 := (limbs_long v).2 h
theorem cmpN_ge (x y : Nat) : decide (cmpN x y ≥ 0) = decide (y ≤ x) := by
  unfold cmpN
  by_cases h : x < y
  · rw [if_pos h]; simp; omega
  · rw [if_neg h]; split <;> simp <;> omega
theorem cmpN_le (x y : Nat) : decide (cmpN x y ≤ 0) = decide (x ≤ y) := by
  unfold cmpN
  by_cases h : x < y
  · rw [if_pos h]; simp; omega
  · rw [if_neg h]
    by_cases h2 : x = y
    · rw [if_pos h2]; simp; omega
    · rw [if_neg h2]; simp; omega
def ofI (x : Int) : Bool × List Int := (decide (x < 0), limbs x.natAbs)
def sI (a : Bool) (m : Nat) : Int := if a = true then -(m : Int) else (m : Int)
theorem sI_of (x : Int) : sI (decide (x < 0)) x.natAbs = x := by
  unfold sI
  by_cases h : x < 0
  · rw [if_pos (by simpa using h)]; omega
  · rw [if_neg (by simpa using h)]; omega
theorem sI_abs (a : Bool) (m : Nat) : (sI a m).natAbs = m := by
  unfold sI
  cases a <;> simp
theorem limbs_zero : limbs 0 = [] := toD_zero b64
theorem limbs_nil_iff (m : Nat) : (limbs m).length = 0 ↔ m = 0 := by
  constructor
  · intro h
    have h1 := num_limbs m
    rw [List.eq_nil_of_length_eq_zero h] at h1
    rw [← h1]; rfl
  · rintro rfl
    rw [limbs_zero]; rfl
theorem fromV_s {a : Bool} {m : Nat} (h : m < b64 ^ 64) : fromV a (limbs m) = ofI (sI a m) := by
  unfold fromV
  by_cases h0 : m = 0
  · subst h0
    rw [if_neg (fun h' => h'.2 ((limbs_nil_iff 0).2 rfl))]
    unfold ofI sI
    cases a <;> simp [limbs_zero]
  · rw [if_pos ⟨right_limbs' h, fun e => h0 ((limbs_nil_iff m).1 e)⟩]
    unfold ofI
    rw [sI_abs]
    unfold sI
    cases a
    · simp
    · simp; omega
theorem intR_of {x : Int} (h : x.natAbs < b64 ^ 64) : intR (ofI x).1 (ofI x).2 = true := by
  unfold intR ofI
  simp only [right_limbs' h, Bool.true_and, Bool.or_eq_true, Bool.not_eq_true', decide_eq_false_iff_not, decide_eq_true_eq]
  by_cases h0 : x < 0
  · right
    have h1 : (limbs x.natAbs).length ≠ 0 := fun e => by
      have := (limbs_nil_iff _).1 e
      omega
    omega
  · exact Or.inl h0
theorem intR_s {a : Bool} {m : Nat} (h : m < b64 ^ 64) (ha : a = true → m ≠ 0) : intR a (limbs m) = true := by
  unfold intR
  cases a with
  | false => simp [right_limbs' h]
  | true =>
    have h1 : (limbs m).length ≠ 0 := fun e => ha rfl ((limbs_nil_iff m).1 e)
    simp only [right_limbs' h, Bool.true_and, Bool.not_true, Bool.false_or, decide_eq_true_eq]
    omega
theorem neg_abs {x : Int} : decide (x < 0) = true → x.natAbs ≠ 0 := by
  intro h
  have := of_decide_eq_true h
  omega
def SmI (x : Int) : Prop := x.natAbs < b64 ^ 30
theorem SmI.lt {x : Int} (h : SmI x) : x.natAbs < b64 ^ 64 := Nat.lt_of_lt_of_le h (Nat.pow_le_pow_right (by decide) (by decide))
theorem SmI.sum {m n : Nat} (h : m < b64 ^ 30) (k : n < b64 ^ 30) : m + n < b64 ^ 64 := by
  have h1 : b64 ^ 31 ≤ b64 ^ 64 := Nat.pow_le_pow_right (by decide) (by decide)
  have h2 : b64 ^ 30 * 2 ≤ b64 ^ 31 := Nat.mul_le_mul_left _ b64_two
  generalize b64 ^ 30 = X at *
  generalize b64 ^ 31 = Y at *
  omega
theorem SmI.prod {m n : Nat} (h : m < b64 ^ 30) (k : n < b64 ^ 30) : m * n < b64 ^ 64 := by
  have h1 : b64 ^ 60 ≤ b64 ^ 64 := Nat.pow_le_pow_right (by decide) (by decide)
  have h2 := Nat.mul_lt_mul'' h k
  rw [← Nat.pow_add] at h2
  exact Nat.lt_of_lt_of_le h2 h1
def Sz (j : Nat) (x : Int) : Prop := x.natAbs < b64 ^ j
theorem Sz.smI {j : Nat} {x : Int} (h : Sz j x) (hj : j ≤ 30) : SmI x := Nat.lt_of_lt_of_le h (Nat.pow_le_pow_right (by decide) hj)
theorem Sz.mono {j i : Nat} {x : Int} (h : Sz j x) (hj : j ≤ i) : Sz i x := Nat.lt_of_lt_of_le h (Nat.pow_le_pow_right (by decide) hj)
theorem Sz.i64 {x : Int} (h0 : -9223372036854775808 ≤ x) (h1 : x < 9223372036854775808) : Sz 1 x := by
  have hb : b64 = 18446744073709551616 := rfl
  unfold Sz
  rw [Nat.pow_one]
  omega
theorem Sz.mul {i j : Nat} {x y : Int} (h : Sz i x) (k : Sz j y) : Sz (i + j) (x * y) := by
  unfold Sz at h k ⊢
  rw [Int.natAbs_mul, Nat.pow_add]
  exact Nat.mul_lt_mul'' h k
theorem Sz.add {j : Nat} {x y : Int} (h : Sz j x) (k : Sz j y) : Sz (j + 1) (x + y) := by
  unfold Sz at h k ⊢
  have h1 := Int.natAbs_add_le x y
  have h2 : b64 ^ j * 2 ≤ b64 ^ (j + 1) := Nat.mul_le_mul_left _ b64_two
  generalize b64 ^ (j + 1) = Y at *
  generalize b64 ^ j = X at *
  omega
theorem Sz.neg {j : Nat} {x : Int} (h : Sz j x) : Sz j (-x) := by
  unfold Sz at h ⊢
  rwa [Int.natAbs_neg]
theorem Sz.sub {j : Nat} {x y : Int} (h : Sz j x) (k : Sz j y) : Sz (j + 1) (x - y) := by
  rw [Int.sub_eq_add_neg]
  exact h.add k.neg
theorem Sz.pow {s : Nat} (hs : s ≤ 64) : Sz 2 (2 ^ s) := by
  unfold Sz
  have h2 : 2 ^ s ≤ b64 ^ 1 := pow2_le_b64 (by omega)
  have h3 : 2 ^ s < b64 ^ 2 := Nat.lt_of_le_of_lt h2 ((Nat.pow_lt_pow_iff_right (by decide)).2 (by decide))
  rwa [Int.natAbs_pow]
theorem limbs_max {m : Nat} (h : m < b64 ^ 64) : (limbs m).length ≤ maxLen := by
  have := limbs_le64 h
  simp only [maxLen]
  omega
theorem sI_add (a : Bool) (m n : Nat) : sI a (m + n) = sI a m + sI a n := by
  unfold sI
  cases a <;> simp <;> omega
theorem sI_sub {a b : Bool} {m n : Nat} (h : a ≠ b) (hm : n ≤ m) : sI a (m - n) = sI a m + sI b n := by
  unfold sI
  cases a <;> cases b <;> simp at h ⊢ <;> omega
theorem sI_mul (a b : Bool) (m n : Nat) : sI (a != b) (m * n) = sI a m * sI b n := by
  unfold sI
  cases a <;> cases b <;> simp [Int.natCast_mul, Int.neg_mul, Int.mul_neg]
theorem sI_pow (a : Bool) (m s : Nat) : sI a (m * 2 ^ s) = sI a m * 2 ^ s := by
  unfold sI
  cases a <;> simp [Int.natCast_mul, Int.neg_mul]
def smI (x : Int) : Int × Bool := if -9223372036854775808 ≤ x ∧ x < 9223372036854775808 then (x, true) else (0, false)
def roomV (n : List Int) (r m w : Int) : Int × Int :=
  if mayV n = true ∧ 1 ≤ r ∧ 1 ≤ m ∧ 1 ≤ w then (if bl (r * w).toNat ≤ 62 then (if ((r * m + 1) * 2 ^ bl (r * w).toNat - 1).natAbs ≤ halfV n then ((bl (r * w).toNat : Int), 0) else (0, 12)) else (0, 12)) else (0, 1)
end Go.Proofs.Ytgeanpnkllnipab.Z
end
section
namespace Go.Proofs.Ytgeanpnkllnipab.Z
open Go.RowKit Go.Proofs.YtgeanpnkllnipabW.PrintWords Go.Proofs.YtgeanpnkllnipabW.PrintMore
set_option linter.unusedSimpArgs false
set_option linter.unusedVariables false
def downL (s : Nat) : List Int → List Int
  | [] => []
  | x :: l => (x / 2 ^ s + (if s = 0 then 0 else (l.getD 0 0 * 2 ^ (64 - s)) % 18446744073709551616)) :: downL s l
theorem downL_facts (s : Nat) (hs : s < 64) (l : List Int) (d : Dig (b64 : Int) l) : Dig (b64 : Int) (downL s l) ∧ (downL s l).length = l.length ∧ val (b64 : Int) (downL s l) * 2 ^ s + l.getD 0 0 % 2 ^ s = val (b64 : Int) l := by
  have hB : (b64 : Int) = 18446744073709551616 := rfl
  have hps := pow2_pos s
  induction l with
  | nil => exact ⟨Dig.nil, rfl, by simp [downL, val]⟩
  | cons x l ih =>
    have d1 := Dig.cons.1 d
    obtain ⟨i1, i2, i3⟩ := ih d1.2
    have rx := d1.1
    have ry := d1.2.getD b64_pos 0
    rw [hB] at rx ry
    by_cases h0 : s = 0
    · subst h0
      simp only [downL, Int.pow_zero, Int.ediv_one, if_true, Int.add_zero] at i3 ⊢
      refine ⟨Dig.cons.2 ⟨by rw [hB]; exact rx, i1⟩, by simp [i2], ?_⟩
      simp only [val, List.getD_cons_zero, Int.emod_one, Int.add_zero, Int.mul_one] at i3 ⊢
      rw [i3]
    · have hp64 := pow64_split (s := s) (by omega)
      have hq := pow2_pos (64 - s)
      obtain ⟨f1, f2, f3, f4⟩ := shl_facts ry (s := 64 - s) (by omega)
      rw [show 64 - (64 - s) = s from by omega] at f1 f3 f4
      simp only [downL, if_neg h0]
      have e1 := Int.emod_add_mul_ediv x (2 ^ s)
      have e2 := Int.emod_nonneg x (show (2 : Int) ^ s ≠ 0 by omega)
      have e3 := Int.emod_lt_of_pos x hps
      have e4 := Int.emod_add_mul_ediv (l.getD 0 0) (2 ^ s)
      generalize hz : (l.getD 0 0 * 2 ^ (64 - s)) % 18446744073709551616 = z at *
      generalize hxd : x / 2 ^ s = xd at *
      generalize hyd : l.getD 0 0 / 2 ^ s = yd at *
      generalize l.getD 0 0 = y at *
      have hxd1 : xd < 2 ^ (64 - s) := by
        rw [← hxd]
        apply Int.ediv_lt_of_lt_mul hps
        rw [Int.mul_comm, hp64]
        exact rx.2
      have hxd0 : 0 ≤ xd := by rw [← hxd]; exact Int.ediv_nonneg rx.1 (by omega)
      obtain ⟨t, ht⟩ := Int.dvd_of_emod_eq_zero f2
      have hz0 : 0 ≤ z := by omega
      have hz1 : z < 18446744073709551616 := by omega
      refine ⟨Dig.cons.2 ⟨?_, i1⟩, by simp [i2], ?_⟩
      · rw [hB]
        refine ⟨by omega, ?_⟩
        have ht2 : t < 2 ^ s := by
          refine Int.not_le.1 (fun hle => ?_)
          have := Int.mul_le_mul_of_nonneg_left hle (Int.le_of_lt hq)
          rw [Int.mul_comm ((2 : Int) ^ (64 - s)) (2 ^ s), hp64] at this
          omega
        have h5 : 2 ^ (64 - s) * (t + 1) ≤ (2 : Int) ^ (64 - s) * 2 ^ s := Int.mul_le_mul_of_nonneg_left (by omega) (by omega)
        rw [Int.mul_comm ((2 : Int) ^ (64 - s)) (2 ^ s), hp64, Int.mul_add] at h5
        omega
      · simp only [val, List.getD_cons_zero]
        rw [hB] at i3 ⊢
        generalize val 18446744073709551616 (downL s l) = vd at *
        generalize val 18446744073709551616 l = vl at *
        generalize x % 2 ^ s = xm at *
        generalize y % 2 ^ s = ym at *
        have hP : (2 : Int) ^ (64 - s) * 2 ^ s = 18446744073709551616 := by rw [Int.mul_comm]; exact hp64
        generalize (2 : Int) ^ s = P at *
        generalize (2 : Int) ^ (64 - s) = Q at *
        have e5 : (xd + z + 18446744073709551616 * vd) * P + xm = P * xd + xm + (z * P + 18446744073709551616 * (vd * P)) := by grind
        rw [e5]
        have e6 : z = y * Q - 18446744073709551616 * yd := by omega
        have e7 : z * P = 18446744073709551616 * ym := by
          rw [e6, ← e4, ← hP]
          grind
        rw [e7]
        omega
theorem num_drop {a : List Int} (da : Dig (b64 : Int) a) (m : Nat) (hm : m ≤ a.length) : num (a.drop m) = num a / b64 ^ m := by
  have h1 := num_val da
  have h2 := num_val (da.drop m)
  have h3 := num_val (da.take m)
  have h4 := num_lt (da.take m)
  have h5 := val_append (b64 : Int) (a.take m) (a.drop m)
  rw [List.take_append_drop, ← h1, ← h2, ← h3, List.length_take, show min m a.length = m from by omega, pow_cast] at h5
  rw [List.length_take, show min m a.length = m from by omega] at h4
  have h6 : num a = num (a.take m) + b64 ^ m * num (a.drop m) := by
    have : ((num (a.take m) + b64 ^ m * num (a.drop m) : Nat) : Int) = (num (a.take m) : Int) + ((b64 ^ m : Nat) : Int) * (num (a.drop m) : Int) := by simp
    omega
  rw [h6, Nat.add_mul_div_left _ _ (Nat.pow_pos (by decide)), Nat.div_eq_of_lt h4, Nat.zero_add]
theorem num_down {a : List Int} (da : Dig (b64 : Int) a) (s : Nat) (hs : s < 64) : num (downL s a) = num a / 2 ^ s := by
  obtain ⟨d, _, e⟩ := downL_facts s hs a da
  have h1 := num_val d
  have h2 := num_val da
  have hp := pow2_pos s
  have hr0 := Int.emod_nonneg (a.getD 0 0) (show (2 : Int) ^ s ≠ 0 by omega)
  have hr1 := Int.emod_lt_of_pos (a.getD 0 0) hp
  rw [← h1, ← h2] at e
  generalize a.getD 0 0 % 2 ^ s = r at *
  obtain ⟨r', rfl⟩ := Int.eq_ofNat_of_zero_le hr0
  have hP : (2 : Int) ^ s = ((2 ^ s : Nat) : Int) := by simp
  rw [hP] at e hr1
  have e2 : num a = r' + 2 ^ s * num (downL s a) := by
    have : ((r' + 2 ^ s * num (downL s a) : Nat) : Int) = (r' : Int) + ((2 ^ s : Nat) : Int) * (num (downL s a) : Int) := by simp
    rw [Int.mul_comm] at e
    omega
  rw [e2, Nat.add_mul_div_left _ _ (Nat.pow_pos (by decide)), Nat.div_eq_of_lt (by omega), Nat.zero_add]
end Go.Proofs.Ytgeanpnkllnipab.Z
end
section
namespace Go.Proofs.Ytgeanpnkllnipab.Z
open Go.RowKit Go.Proofs.Ytgeanpnkllnipab.F Go.Proofs.YtgeanpnkllnipabW.PrintWords Go.Proofs.YtgeanpnkllnipabW.PrintMore
set_option linter.unusedSimpArgs false
set_option linter.unusedVariables false
def shrV (a : List Int) (n : Int) : List Int × Int :=
  if rightB a = true ∧ 0 ≤ n then (limbs (num a / 2 ^ n.toNat), 0) else ([], 1)
theorem nat_Shr_loop (a : List Int) (da : Dig (b64 : Int) a) (ha : a.length ≤ 100000) (s : Nat) (hs : s < 64) {r : List Int × Int} (fin : Evt (fun k => nat_told.f k (downL s a)) r) (n : Nat) :
    ∀ (i : Nat) (p : List Int), a.length - i = n → i ≤ a.length → p.length = i → p ++ downL s (a.drop i) = downL s a →
      Evt (fun k => nat_Shr.l0 k a (s : Int) (p ++ List.replicate n 0) (a.length : Int) (i : Int)) (r.1, r.2) := by
  induction n with
  | zero =>
    intro i p hn hi hp he
    refine Evt.succ ?_
    simp only [nat_Shr.l0]
    refine Evt.ite_neg (by omega) ?_
    rw [List.drop_of_length_le (by omega)] at he
    simp only [downL, List.append_nil] at he
    rw [List.replicate_zero, List.append_nil, he]
    exact Evt.bind fin (h := fun t _ => some (t.1, t.2)) (Evt.pure _)
  | succ n ih =>
    intro i p hn hi hp he
    have hlt : i < a.length := by omega
    have rx := da a[i] (List.getElem_mem hlt)
    have ry := (da.drop (i + 1)).getD b64_pos 0
    have hB : (b64 : Int) = 18446744073709551616 := rfl
    rw [hB] at rx ry
    rw [List.drop_eq_getElem_cons hlt] at he
    simp only [downL] at he
    have hx : rd a (i : Int) = a[i] := by simp [rd_nat, hlt]
    refine Evt.succ ?_
    simp only [nat_Shr.l0]
    refine Evt.ite_pos (by omega) (Evt.ite_pos (by omega) (Evt.ite_pos (by omega) (Evt.ite_pos (by omega) (Evt.ite_pos (by simp; omega) ?_))))
    refine Evt.bind (Evt.pure _) ?_
    rw [hx, shr_u64 _ s (by omega), show ((i : Int)).toNat = p.length from by omega, List.replicate_succ, set_at, w64 (show -9223372036854775808 ≤ (i : Int) + 1 by omega) (by omega)]
    have hps := pow2_pos s
    have hxd0 : 0 ≤ a[i] / 2 ^ s := Int.ediv_nonneg rx.1 (by omega)
    by_cases h0 : s = 0
    · refine Evt.ite_neg (by omega) ?_
      rw [if_pos h0, Int.add_zero] at he
      refine (ih (i + 1) (p ++ [a[i] / 2 ^ s]) (by omega) (by omega) (by simp; omega) (by rw [List.append_assoc]; exact he)).congr (fun k => ?_) rfl
      rw [List.append_assoc]; rfl
    · refine Evt.ite_pos (by omega) ?_
      rw [if_neg h0] at he
      by_cases h1 : i + 1 < a.length
      · refine Evt.ite_pos (by omega) (Evt.ite_pos (by omega) (Evt.ite_pos (by rw [wu64_of (by omega) (by omega)]; omega) ?_))
        have hy : rd a ((i : Int) + 1) = a[i + 1] := by
          rw [show (i : Int) + 1 = ((i + 1 : Nat) : Int) from by omega, rd_nat]
          simp [List.getD_eq_getElem?_getD, h1]
        have hy2 : (a.drop (i + 1)).getD 0 0 = a[i + 1] := by simp [List.getD_eq_getElem?_getD, h1]
        have hg : rd (p ++ a[i] / 2 ^ s :: List.replicate n 0) (i : Int) = a[i] / 2 ^ s := by
          rw [rd_nat]
          simp [List.getD_eq_getElem?_getD, ← hp]
        rw [hy2] at he ry
        obtain ⟨f1, f2, f3, f4⟩ := shl_facts ry (s := 64 - s) (by omega)
        have hxd1 : a[i] / 2 ^ s < 2 ^ (64 - s) := by
          apply Int.ediv_lt_of_lt_mul hps
          rw [Int.mul_comm, pow64_split (by omega)]
          exact rx.2
        have hz0 : 0 ≤ (a[i + 1] * 2 ^ (64 - s)) % 18446744073709551616 := by omega
        have hz1 : (a[i + 1] * 2 ^ (64 - s)) % 18446744073709551616 < 18446744073709551616 := by omega
        have hq64 : (2 : Int) ^ (64 - s) ≤ 2 ^ 64 := pow_mono (by omega) (by omega)
        rw [hy, hg, wu64_of (show (0 : Int) ≤ 64 - (s : Int) by omega) (by omega), show (64 : Int) - (s : Int) = ((64 - s : Nat) : Int) from by omega, shl_u64 _ (64 - s) (by omega), set_at, or_comm_u64 hxd0 (by omega) hz0 hz1, or_u64 (64 - s) (by omega) hz0 f2 hz1 hxd0 hxd1]
        refine (ih (i + 1) (p ++ [(a[i + 1] * 2 ^ (64 - s)) % 18446744073709551616 + a[i] / 2 ^ s]) (by omega) (by omega) (by simp; omega) (by rw [List.append_assoc, Int.add_comm ((a[i + 1] * 2 ^ (64 - s)) % 18446744073709551616)]; exact he)).congr (fun k => ?_) rfl
        rw [List.append_assoc]; rfl
      · refine Evt.ite_neg (by omega) ?_
        have hy2 : (a.drop (i + 1)).getD 0 0 = 0 := by rw [List.drop_of_length_le (by omega)]; rfl
        rw [hy2, Int.zero_mul, Int.zero_emod, Int.add_zero] at he
        refine (ih (i + 1) (p ++ [a[i] / 2 ^ s]) (by omega) (by omega) (by simp; omega) (by rw [List.append_assoc]; exact he)).congr (fun k => ?_) rfl
        rw [List.append_assoc]; rfl
theorem nat_Shr_ev (a : List Int) (n : Int) (ha : a.length ≤ maxLen) (da : Dig (b64 : Int) a) (hn9 : n < 9223372036854775808) : Evt (fun k => nat_Shr.f k a n) (shrV a n) := by
  unfold nat_Shr.f shrV
  rw [nat_Right_eq ha]
  simp only [Option.bind_some]
  have J : ∀ x : Bool, (x = false → rightB a = true ∧ 0 ≤ n) → Evt (fun k => nat_Shr.j0 k a n x) (if x = true then ([], 1) else (limbs (num a / 2 ^ n.toNat), 0)) := by
    intro x hx
    refine Evt.succ ?_
    simp only [nat_Shr.j0]
    refine Evt.cond (fun _ => Evt.pure _) (fun hc => ?_)
    have h := hx (by simpa using hc)
    obtain ⟨h1, c1⟩ := (rightB_iff a).1 h.1
    obtain ⟨m, rfl⟩ := Int.eq_ofNat_of_zero_le h.2
    rw [show ((m : Int)).toNat = m from Int.toNat_natCast m]
    have e1 : Int.tdiv (m : Int) 64 = ((m / 64 : Nat) : Int) := by rw [Int.tdiv_eq_ediv_of_nonneg (by omega)]; omega
    rw [e1, w64 (show -9223372036854775808 ≤ ((m / 64 : Nat) : Int) by omega) (by omega)]
    have hp := num_lt_p da h1
    by_cases hlen : a.length ≤ m / 64
    · have e : num a / 2 ^ m = 0 := by
        apply Nat.div_eq_of_lt
        exact Nat.lt_of_lt_of_le (num_lt da) (b64_le_pow2 (by omega))
      rw [e, show limbs 0 = [] from toD_zero b64]
      exact Evt.ite_pos (by omega) (Evt.pure _)
    · have e2 : IntKind.u64.wrap (Int.tmod (m : Int) 64) = ((m % 64 : Nat) : Int) := by
        rw [Int.tmod_eq_emod_of_nonneg (by omega), wu64_of (by omega) (by omega)]; omega
      rw [e2, Int.toNat_natCast]
      refine Evt.ite_neg (by omega) (Evt.ite_pos (by omega) (Evt.ite_pos (by omega) (Evt.ite_pos (by omega) (Evt.ite_pos (by simp; omega) ?_))))
      have dd := da.drop (m / 64)
      obtain ⟨g1, g2, g3⟩ := downL_facts (m % 64) (by omega) (a.drop (m / 64)) dd
      have hnum : num (downL (m % 64) (a.drop (m / 64))) = num a / 2 ^ m := by
        rw [num_down dd _ (by omega), num_drop da _ (by omega), b64_pow2, Nat.div_div_eq_div_mul, ← Nat.pow_add, show 64 * (m / 64) + m % 64 = m from by omega]
      have h3 : num a / 2 ^ m ≤ num a := Nat.div_le_self _ _
      have ht := nat_told_ev (downL (m % 64) (a.drop (m / 64))) (by rw [g2]; simp; omega) g1
      have e : toldV (num a / 2 ^ m) = (limbs (num a / 2 ^ m), 0) := if_pos (Nat.lt_of_le_of_lt h3 hp)
      rw [hnum, e] at ht
      refine (nat_Shr_loop (a.drop (m / 64)) dd (by simp; omega) (m % 64) (by omega) ht (a.drop (m / 64)).length 0 [] (by omega) (by omega) rfl (by simp)).congr (fun k => ?_) rfl
      rw [Int.toNat_natCast]
      rfl
  cases hA : rightB a with
  | true =>
    refine Evt.ite_pos rfl ((J _ (fun h => ⟨hA, by simpa using h⟩)).congr (fun k => rfl) ?_)
    by_cases hn : n < 0
    · rw [decide_eq_true hn, if_pos rfl, if_neg (show ¬ (true = true ∧ 0 ≤ n) by omega)]
    · rw [decide_eq_false hn, if_neg (by simp), if_pos (show true = true ∧ 0 ≤ n from ⟨rfl, by omega⟩)]
  | false =>
    refine Evt.ite_neg (by simp) ((J _ (fun h => by simp at h)).congr (fun k => rfl) ?_)
    simp
end Go.Proofs.Ytgeanpnkllnipab.Z
end
section
namespace Go.Proofs.Ytgeanpnkllnipab.Z
open Go.RowKit Go.Proofs.Ytgeanpnkllnipab.F Go.Proofs.YtgeanpnkllnipabW.PrintWords
set_option linter.unusedSimpArgs false
set_option linter.unusedVariables false
theorem may_ev (n : List Int) (hn : n.length ≤ maxLen) (dn : Dig (b64 : Int) n) : Evt (fun k => fixenc_modulus_may.f k n) (mayV n) := by
  unfold fixenc_modulus_may.f mayV
  rw [nat_Right_eq hn]
  simp only [Option.bind_some]
  cases hR : rightB n with
  | false => exact Evt.ite_neg (by simp) (Evt.pure _)
  | true =>
    refine Evt.ite_pos rfl ?_
    by_cases h8 : n.length ≤ 8
    · refine Evt.ite_pos (by omega) ?_
      have d3 : Dig (b64 : Int) [3] := dig_one (by omega) (by omega)
      refine (Evt.bind (nat_Cmp_ev n [3] hn (by simp [maxLen]) dn d3) (h := fun t _ => some (decide (t ≥ 0))) (Evt.pure _)).congr (fun k => rfl) ?_
      unfold cmpV
      rw [if_pos ⟨hR, right_one (by omega)⟩, cmpN_ge, num_one (by omega)]
      simp [h8]
    · refine Evt.ite_neg (by omega) ((Evt.pure _).congr (fun k => rfl) ?_)
      simp [h8]
theorem half_ev (n : List Int) (dn : Dig (b64 : Int) n) (hm : mayV n = true) : Evt (fun k => fixenc_modulus_half.f k n) (limbs (halfV n)) := by
  obtain ⟨hR, h8, h3⟩ := (mayV_iff n).1 hm
  have hlt := may_lt dn hm
  unfold fixenc_modulus_half.f
  have hs := nat_Shr_ev n 1 (by simp only [maxLen]; omega) dn (by omega)
  unfold shrV at hs
  rw [if_pos ⟨hR, by omega⟩] at hs
  refine Evt.bind hs ?_
  refine Evt.bind (Evt.of (fun _ => nat_Bit_eq n 0 (by simp only [maxLen]; omega) dn (by omega))) ?_
  have h0 : n.length ≠ 0 := by
    intro h
    rw [List.eq_nil_of_length_eq_zero h] at h3
    simp [num, val] at h3
  obtain ⟨x, l, rfl⟩ : ∃ x l, n = x :: l := by
    cases n with
    | nil => simp at h0
    | cons x l => exact ⟨x, l, rfl⟩
  have hx := (Dig.cons.1 dn).1
  have hb : bitV (x :: l) 0 = decide (num (x :: l) % 2 = 1) := by
    unfold bitV
    rw [hR, num_cons dn]
    have hB : b64 = 18446744073709551616 := rfl
    rw [hB] at hx ⊢
    simp
    have h1 : (0 : Int) < (l.length : Int) + 1 := by omega
    by_cases h2 : x % 2 = 1
    · have : (x.toNat + 18446744073709551616 * num l) % 2 = 1 := by omega
      simp [h1, h2, this]
    · have h4 : ¬ (x.toNat + 18446744073709551616 * num l) % 2 = 1 := by omega
      simp [h2, h4]
  rw [hb]
  by_cases hp : num (x :: l) % 2 = 1
  · refine Evt.ite_pos (by simpa using hp) ((Evt.pure _).congr (fun k => rfl) ?_)
    unfold halfV
    rw [show (2 : Nat) ^ (1 : Int).toNat = 2 from rfl, show num (x :: l) / 2 = (num (x :: l) - 1) / 2 by omega]
  · refine Evt.ite_neg (by simpa using hp) ?_
    have d1 : Dig (b64 : Int) [1] := dig_one (by omega) (by omega)
    have hv : num (x :: l) / 2 ^ (1 : Int).toNat = num (x :: l) / 2 := rfl
    have hlt2 : num (x :: l) / 2 < b64 ^ 64 := Nat.lt_of_le_of_lt (Nat.div_le_self _ _) hlt
    have hsub := nat_Sub_ev (limbs (num (x :: l) / 2)) [1] (by have := limbs_le64 hlt2; simp only [maxLen]; omega) (by simp [maxLen]) (dig_limbs' _) d1
    rw [hv]
    refine (Evt.bind hsub (h := fun t _ => some t.1) (Evt.pure _)).congr (fun k => rfl) ?_
    unfold subV halfV
    rw [if_pos ⟨right_limbs' hlt2, right_one (by omega)⟩, num_limbs, num_one (by omega), if_neg (by omega), show num (x :: l) / 2 - (1 : Int).toNat = (num (x :: l) - 1) / 2 by omega]
theorem fits_ev (n x : List Int) (dn : Dig (b64 : Int) n) (dx : Dig (b64 : Int) x) (hm : mayV n = true) (hx : rightB x = true) : Evt (fun k => fixenc_fits.f k n x) (decide (num x ≤ halfV n)) := by
  obtain ⟨hR, h8, h3⟩ := (mayV_iff n).1 hm
  have hlt := may_lt dn hm
  obtain ⟨hx1, _⟩ := (rightB_iff x).1 hx
  have hh : halfV n < b64 ^ 64 := by unfold halfV; omega
  unfold fixenc_fits.f
  refine Evt.bind (half_ev n dn hm) ?_
  refine (Evt.bind (nat_Cmp_ev x (limbs (halfV n)) (by simp only [maxLen]; omega) (by have := limbs_le64 hh; simp only [maxLen]; omega) dx (dig_limbs' _)) (h := fun t _ => some (decide (t ≤ 0))) (Evt.pure _)).congr (fun k => rfl) ?_
  unfold cmpV
  rw [if_pos ⟨hx, right_limbs' hh⟩, cmpN_le, num_limbs]
theorem modint_Right_eq (a : Bool) (l : List Int) (h : l.length ≤ maxLen) : modint_Right.f a l = some (intR a l) := by
  unfold modint_Right.f intR
  rw [nat_Right_eq h]
  cases hR : rightB l <;> cases a <;> simp
theorem clone7 (l : List Int) (h : l.length ≤ 100000) : api_Nat_uint64.f l = some l := by
  unfold api_Nat_uint64.f
  simp only [Option.bind_some, List.nil_append, List.length_nil]
  rw [if_pos (by omega)]
theorem modint_From_eq (a : Bool) (l : List Int) (h : l.length ≤ 64) : modint_From.f a l = some (fromV a l) := by
  unfold modint_From.f fromV
  rw [nat_Right_eq (by simp only [maxLen]; omega), clone7 l (by omega)]
  cases hR : rightB l with
  | false => simp
  | true =>
    by_cases h0 : l.length = 0
    · simp [h0]
    · have : ¬ l = [] := fun e => h0 (by rw [e]; rfl)
      simp [this]
theorem fix_Encode_ev (n : List Int) (a : Bool) (x : List Int) (hn : n.length ≤ maxLen) (hx : x.length ≤ maxLen) (dn : Dig (b64 : Int) n) (dx : Dig (b64 : Int) x) : Evt (fun k => fixenc_Encode.f k n a x) (encV n a x) := by
  unfold fixenc_Encode.f encV
  have J : ∀ b : Bool, (b = false → mayV n = true ∧ intR a x = true) → Evt (fun k => fixenc_Encode.j0 k n b a x) (if b = true then ([], 1) else (if num x ≤ halfV n then (if a = true then (limbs (num n - num x), 0) else (x, 0)) else ([], 12))) := by
    intro b hb
    refine Evt.succ ?_
    simp only [fixenc_Encode.j0]
    refine Evt.cond (fun _ => Evt.pure _) (fun hc => ?_)
    obtain ⟨hm, hi⟩ := hb (by simpa using hc)
    have hR : rightB x = true := by unfold intR at hi; simp only [Bool.and_eq_true] at hi; exact hi.1
    obtain ⟨hx1, cx⟩ := (rightB_iff x).1 hR
    obtain ⟨hRn, h8, h3⟩ := (mayV_iff n).1 hm
    have hlt := may_lt dn hm
    refine Evt.bind (fits_ev n x dn dx hm hR) ?_
    by_cases hf : num x ≤ halfV n
    · rw [if_pos hf]
      refine Evt.ite_pos (by simpa using hf) ?_
      have hxn : num x < num n := by unfold halfV at hf; omega
      cases a with
      | true =>
        refine Evt.ite_pos rfl ?_
        have hs := nat_Sub_ev n x hn hx dn dx
        unfold subV at hs
        rw [if_pos ⟨hRn, hR⟩, if_neg (by omega)] at hs
        exact Evt.bind hs (h := fun t _ => some (t.1, t.2)) (Evt.pure _)
      | false =>
        refine Evt.ite_neg (by simp) ?_
        have hs := nat_Add_ev x [] hx (by simp) dx Dig.nil
        unfold addV toldV at hs
        rw [if_pos ⟨hR, by decide⟩, num_nil, Nat.add_zero, if_pos (by omega), limbs_num dx cx] at hs
        exact Evt.bind hs (h := fun t _ => some (t.1, t.2)) (Evt.pure _)
    · rw [if_neg hf]
      exact Evt.ite_neg (by simpa using hf) (Evt.pure _)
  refine Evt.bind (may_ev n hn dn) ?_
  cases hm : mayV n with
  | false =>
    refine Evt.ite_neg (by simp) ((J true (by simp)).congr (fun k => rfl) ?_)
    simp
  | true =>
    refine Evt.ite_pos rfl ?_
    refine Evt.bind (Evt.of (fun _ => modint_Right_eq a x hx)) ?_
    refine (J (!intR a x) (fun h => ⟨hm, by simpa using h⟩)).congr (fun k => rfl) ?_
    cases hi : intR a x <;> simp
end Go.Proofs.Ytgeanpnkllnipab.Z
end
