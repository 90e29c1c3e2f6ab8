/- Proved: the law FixencBack of layer 7, the stage's theorem: what was encoded, or packed, is told again; for every input, without a condition. -/
import Derived.Test.YtgeanpnkllnipabMFixencBackd
import Derived.Laws.BitsLemmas
import Derived.Deep.RegionHeld3
import Derived.SizedLaws
import Derived.ChangeSlices
section
namespace Go.Proofs.Ytgeanpnkllnipab.F
open Go.RowKit Go.Proofs.YtgeanpnkllnipabW.PrintWords Go.Proofs.YtgeanpnkllnipabW.PrintLast Go.Proofs.YtgeanpnkllnipabW.PrintMore
attribute [local go_sem] max2_int min2_int max_two min_two max_three min_three max_four min_four
set_option linter.unusedVariables false
set_option linter.unusedSimpArgs false
def windbreaklaw07_FixencBack.j0 : Nat → List Int → Bool → Int → Int → Int → Option (Bool)
 | 0, _, _, _, _, _ => none
 | k + 1, x0, x7, x1363000, x1363001, x1363002 => (fixenc_Pack.f k x0 (Go.bits .and .i64 x1363002 63) x1363000 x1363001).bind fun bt1379 => (if bt1379.2 = 0 then ((fixenc_Unpack.f k x0 (Go.bits .and .i64 x1363002 63) bt1379.1).bind fun bt1383 => (if x7 = true then (if bt1383.2.2 = 0 then (if bt1383.1 = x1363000 then (some (bt1383.2.1 == x1363001)) else (some false)) else (some false)) else (some false))) else (some x7))
def windbreaklaw07_FixencBack.f (k : Nat) (l0 : List Int) (a1_0 : Bool) (l1_1 : List Int) (a2_0 : Int) (a2_1 : Int) (a2_2 : Int) : Option (Bool) := (windbreaklaw07_few.f k (([l0, l1_1] : List (List Int)))).bind fun t1366 => (if t1366 = true then ((windbreaklaw07_awake.f k).bind fun t1367 => ((fixenc_Encode.f k l0 a1_0 l1_1).bind fun bt1368 => (if bt1368.2 = 0 then ((fixenc_Decode.f k l0 bt1368.1).bind fun bt1372 => ((windbreakref03_Same.f k bt1372.1 bt1372.2.1 a1_0 l1_1).bind fun t1378 => (if bt1372.2.2 = 0 then (if t1378 = true then (windbreaklaw07_FixencBack.j0 k l0 t1367 a2_0 a2_1 a2_2) else (some false)) else (some false)))) else (windbreaklaw07_FixencBack.j0 k l0 t1367 a2_0 a2_1 a2_2)))) else (some true))
set_option maxHeartbeats 8000000 in
set_option maxRecDepth 100000 in
theorem windbreaklaw07_FixencBack.calls (k : Nat) (P0_ : Nat → Prop) (A0 : Option Addr) (c0 : Nat) (l0 : List Int) (a1_0 : Bool) (P1_1_ : Nat → Prop) (A1_1 : Option Addr) (c1_1 : Nat) (l1_1 : List Int) (a2_0 : Int) (a2_1 : Int) (a2_2 : Int) (r : Bool) (w : World) (hs0 : Kd.V (Kd.int .u64) 27 w w.heap.size (fun k_ => P0_ k_) (.slice A0 l0.length c0) l0) (hs1_1 : Kd.V (Kd.int .u64) 27 w w.heap.size (fun k_ => P1_1_ k_) (.slice A1_1 l1_1.length c1_1) l1_1) (h : windbreaklaw07_FixencBack.f k l0 a1_0 l1_1 a2_0 a2_1 a2_2 = some r) :
  Calls Try.prog 13 #[.slice A0 l0.length c0, .agg #[.bool a1_0, .slice A1_1 l1_1.length c1_1], .agg #[.int .i64 a2_0, .int .i64 a2_1, .int .i64 a2_2]] w fun e w' => e = .returned (.bool r) ∧ Below w.heap.size w w' := by
 have hu52 := Try.underlying52
 have hu44 := Try.underlying44
 have HO0 := Aside0.mk (show Kd.V (Kd.int .u64) 27 w w.heap.size (fun k_ => ((P0_ k_ ∨ P1_1_ k_) ∨ w.heap.size ≤ k_)) (.slice A0 l0.length c0) l0 from Kd.V_mono hs0 (fun k_ hk => .inl (.inl hk)))
 have HO1_1 := Aside0.mk (show Kd.V (Kd.int .u64) 27 w w.heap.size (fun k_ => ((P0_ k_ ∨ P1_1_ k_) ∨ w.heap.size ≤ k_)) (.slice A1_1 l1_1.length c1_1) l1_1 from Kd.V_mono hs1_1 (fun k_ hk => .inl (.inr hk)))
 have HB := Aside0.mk (Below.refl w.heap.size w)
 have H : ((windbreaklaw07_few.f k (([l0, l1_1] : List (List Int)))).bind fun t1366 => (if t1366 = true then ((windbreaklaw07_awake.f k).bind fun t1367 => ((fixenc_Encode.f k l0 a1_0 l1_1).bind fun bt1368 => (if bt1368.2 = 0 then ((fixenc_Decode.f k l0 bt1368.1).bind fun bt1372 => ((windbreakref03_Same.f k bt1372.1 bt1372.2.1 a1_0 l1_1).bind fun t1378 => (if bt1372.2.2 = 0 then (if t1378 = true then (windbreaklaw07_FixencBack.j0 k l0 t1367 a2_0 a2_1 a2_2) else (some false)) else (some false)))) else (windbreaklaw07_FixencBack.j0 k l0 t1367 a2_0 a2_1 a2_2)))) else (some true))) = some r := h
 clear h
 obtain ⟨y1363, hy1363⟩ : ∃ y_ : List (List Int), y_ = (([l0, l1_1] : List (List Int))) := ⟨_, rfl⟩
 replace H : ((windbreaklaw07_few.f k y1363).bind fun t1366 => (if t1366 = true then ((windbreaklaw07_awake.f k).bind fun t1367 => ((fixenc_Encode.f k l0 a1_0 l1_1).bind fun bt1368 => (if bt1368.2 = 0 then ((fixenc_Decode.f k l0 bt1368.1).bind fun bt1372 => ((windbreakref03_Same.f k bt1372.1 bt1372.2.1 a1_0 l1_1).bind fun t1378 => (if bt1372.2.2 = 0 then (if t1378 = true then (windbreaklaw07_FixencBack.j0 k l0 t1367 a2_0 a2_1 a2_2) else (some false)) else (some false)))) else (windbreaklaw07_FixencBack.j0 k l0 t1367 a2_0 a2_1 a2_2)))) else (some true))) = some r := by first | (rw [hy1363]; with_reducible exact H) | (have H2_ := (Option.bind_some _ _).symm.trans H; rw [hy1363]; with_reducible exact H2_) | (have H2_ := (Option.bind_some _ _).symm.trans H; with_reducible exact H2_) | with_reducible exact H | (rw [hy1363]; exact H) | exact H
 have Ny1363 := Aside0.mk hy1363; clear hy1363
 replace H := ub H; obtain ⟨t1366, A4, H⟩ := H
 by_cases c5 : t1366 = true
 ·
  subst c5
  have H1 : ((windbreaklaw07_awake.f k).bind fun t1367 => ((fixenc_Encode.f k l0 a1_0 l1_1).bind fun bt1368 => (if bt1368.2 = 0 then ((fixenc_Decode.f k l0 bt1368.1).bind fun bt1372 => ((windbreakref03_Same.f k bt1372.1 bt1372.2.1 a1_0 l1_1).bind fun t1378 => (if bt1372.2.2 = 0 then (if t1378 = true then (windbreaklaw07_FixencBack.j0 k l0 t1367 a2_0 a2_1 a2_2) else (some false)) else (some false)))) else (windbreaklaw07_FixencBack.j0 k l0 t1367 a2_0 a2_1 a2_2)))) = some r := by rw [if_pos rfl] at H; exact H
  clear H; have H := H1; clear H1
  replace H := ub H; obtain ⟨t1367, A6, H⟩ := H
  replace H := ub H; obtain ⟨⟨t1368, t1371⟩, A7, H⟩ := H
  (try dsimp only at H)
  have HC8 := Aside0.mk H; clear H
  go_enter Try.func13, Try.ntmps13
  go_upto_if 32 with (first | ((with_reducible refine gate_dst (N := 4) rfl ?_); refine box_event ?hg (N := 4) ?hd (cs := #[.bool a1_0, .slice A1_1 l1_1.length c1_1]) (t := 52) ?hr ?_; (case hd => rfl); (case hg => rfl); (case hr => first | (go_simp; done) | (go_simp; rfl)); intro gb1361 hg w9 hbox hb; replace HO0 := Aside0.mk (Kd.V_below (Kd.V_elderB (uV HO0.out) gb1361 (Nat.le_of_eq hg.symm)) hb); replace HO1_1 := Aside0.mk (Kd.V_below (Kd.V_elderB (uV HO1_1.out) gb1361 (Nat.le_of_eq hg.symm)) hb); have BK1361 := Aside0.mk (hbox); have GW1361 := us hg; have GE1361 := us hg; replace HB := uy hb; clear hb hbox hg) | ((with_reducible refine gate_dst (N := 5) rfl ?_); refine box_event ?hg (N := 5) ?hd (cs := #[.int .i64 a2_0, .int .i64 a2_1, .int .i64 a2_2]) (t := 44) ?hr ?_; (case hd => rfl); (case hg => rfl); (case hr => first | (go_simp; done) | (go_simp; rfl)); intro gb1362 hg w10 hbox hb; replace HO0 := Aside0.mk (Kd.V_below (Kd.V_elderB (uV HO0.out) gb1362 (Nat.le_of_eq hg.symm)) hb); replace HO1_1 := Aside0.mk (Kd.V_below (Kd.V_elderB (uV HO1_1.out) gb1362 (Nat.le_of_eq hg.symm)) hb); have BK1362 := Aside0.mk (hbox); have GW1362 := us hg; have GE1362 := us hg; replace HB := uy hb; have NB1361_1362 := Aside0.mk ((by rw [hg]; exact Nat.ne_of_lt (blk_lt (uK BK1361.out)) : gb1361 ≠ gb1362)); have NB1362_1361 := Aside0.mk ((by rw [hg]; exact Nat.ne_of_gt (blk_lt (uK BK1361.out)) : gb1362 ≠ gb1361)); replace BK1361 := ux BK1361 hb; clear hb hbox hg; have hnb11 := NB1361_1362.out; have hnc11 := NB1362_1361.out; have hcz12_0 : w10.cell? ⟨gb1361, 0, none⟩ = some (.bool a1_0) := (blk_cell BK1361.out 0).trans rfl; have hcz12_1 : w10.cell? ⟨gb1361, 1, none⟩ = some (.slice A1_1 l1_1.length c1_1) := (blk_cell BK1361.out 1).trans rfl; have hfz12_0 := blk_frozen BK1361.out 0; have hfz12_1 := blk_frozen BK1361.out 1) | ((with_reducible refine gate_dst (N := 21) rfl ?_); refine Kd.N_lit (Kd.slice 27 (Kd.int .u64)) _ 23 ?hg (N' := 21) ?hd (xs := ([l0, l1_1] : List (List Int))) (inner := [.slice A0 l0.length c0, .slice A1_1 l1_1.length c1_1]) (ok := (fun k_ => ((P0_ k_ ∨ P1_1_ k_) ∨ w.heap.size ≤ k_) ∧ k_ ≠ gb1361 ∧ k_ ≠ gb1362)) (okp := (fun k_ => ((P0_ k_ ∨ P1_1_ k_) ∨ w.heap.size ≤ k_) ∧ k_ ≠ gb1361 ∧ k_ ≠ gb1362)) ?hr ?hp (fun _ hk => hk) ((show ∀ k_, w10.heap.size ≤ k_ → (fun k_ => ((P0_ k_ ∨ P1_1_ k_) ∨ w.heap.size ≤ k_) ∧ k_ ≠ gb1361 ∧ k_ ≠ gb1362) k_ from fun k_ hk => ⟨(.inr (Nat.le_trans (below_size uB) hk)), Kd.freshB (g := gb1361) (o := .cells #[.bool a1_0, .slice A1_1 l1_1.length c1_1] 52 (0, 0)) (uK BK1361.out) k_ hk, Kd.freshB (g := gb1362) (o := .cells #[.int .i64 a2_0, .int .i64 a2_1, .int .i64 a2_2] 44 (0, 0)) (uK BK1362.out) k_ hk⟩) _ (Nat.le_refl _)) (Below.refl _ _) (Nat.le_refl _) (by simp) ?_; (case hd => rfl); (case hg => rfl); (case hr => first | (go_simp; done) | (go_simp; rfl) | (go_simp; simp only [u64_u8]; done) | (go_simp; simp only [u64_u8]; rfl)); (case hp => exact (Reps.one (show Kd.FK (Kd.slice 27 (Kd.int .u64)) _ _ l0 [.slice A0 l0.length c0] from (Kd.FK_slice_mk (Kd.V_reads' (Kd.V_mono (ok' := (fun k_ => ((P0_ k_ ∨ P1_1_ k_) ∨ w.heap.size ≤ k_) ∧ k_ ≠ gb1361 ∧ k_ ≠ gb1362)) (HO0.out) (fun k_ hk => ⟨hk.1.1, ⟨hk.1.2, hk.2⟩⟩))).2.1 (Kd.V_F (Kd.V_mono (ok' := (fun k_ => ((P0_ k_ ∨ P1_1_ k_) ∨ w.heap.size ≤ k_) ∧ k_ ≠ gb1361 ∧ k_ ≠ gb1362)) (HO0.out) (fun k_ hk => ⟨hk.1.1, ⟨hk.1.2, hk.2⟩⟩))))) (Reps.one (show Kd.FK (Kd.slice 27 (Kd.int .u64)) _ _ l1_1 [.slice A1_1 l1_1.length c1_1] from (Kd.FK_slice_mk (Kd.V_reads' (Kd.V_mono (ok' := (fun k_ => ((P0_ k_ ∨ P1_1_ k_) ∨ w.heap.size ≤ k_) ∧ k_ ≠ gb1361 ∧ k_ ≠ gb1362)) (HO1_1.out) (fun k_ hk => ⟨hk.1.1, ⟨hk.1.2, hk.2⟩⟩))).2.1 (Kd.V_F (Kd.V_mono (ok' := (fun k_ => ((P0_ k_ ∨ P1_1_ k_) ∨ w.heap.size ≤ k_) ∧ k_ ≠ gb1361 ∧ k_ ≠ gb1362)) (HO1_1.out) (fun k_ hk => ⟨hk.1.1, ⟨hk.1.2, hk.2⟩⟩))))) (Reps.none _ _)))); intro v1364 w13 ho14 hb hg_ hnew_; clear hg_ hnew_; (first | rw [← Ny1363.out] at ho14 | (simp only [Int.reduceToNat] at ho14; rw [← Ny1363.out] at ho14)); replace HO0 := Aside0.mk (Kd.V_elder' (uV HO0.out) (Kd.N_base ho14) hb); replace HO1_1 := Aside0.mk (Kd.V_elder' (uV HO1_1.out) (Kd.N_base ho14) hb); have HO1365 := Aside0.mk (Kd.N_lower ho14 (below_size uB)); replace BK1361 := ux BK1361 hb; replace BK1362 := ux BK1362 hb; replace HB := uy hb; clear hb ho14; obtain ⟨Ao15, co15, eo15⟩ := Kd.N_slice HO1365.out; subst eo15) | ((with_reducible refine gate_callee (f := 27) rfl ?_); refine goesL_ (some 22) rfl rfl Try.func27 (by kernel_rfl) rfl #[.slice Ao15 y1363.length co15] rfl uM ?_; (with_reducible refine (windbreaklaw07_few.calls k _ _ y1363 true _ ?side1 ?side2 A4.out).mono ?_); (case side1 => exact uC (Kd.N_reads' HO1365.out).2.2); (case side2 => exact (Kd.N_reads' HO1365.out).2.1); rintro e w' ⟨rfl, ⟨nd, rfl⟩⟩; refine ⟨_, rfl, ?_⟩) | ((with_reducible refine gate_callee (f := 28) rfl ?_); refine goesL_ (some 24) rfl rfl Try.func28 (by kernel_rfl) rfl #[] rfl uM ?_; (with_reducible refine (windbreaklaw07_awake.calls k  t1367 _ A6.out).mono ?_); rintro e w16 ⟨rfl, hb⟩; refine ⟨_, rfl, ?_⟩; replace HO0 := Aside0.mk (Kd.V_below (uV HO0.out) hb); replace HO1_1 := Aside0.mk (Kd.V_below (uV HO1_1.out) hb); replace HO1365 := Aside0.mk (Kd.N_below (uN HO1365.out) hb); replace BK1361 := ux BK1361 hb; replace BK1362 := ux BK1362 hb; replace HB := uy hb; (try clear hb); have hcz17_0 : w16.cell? ⟨gb1361, 0, none⟩ = some (.bool a1_0) := (blk_cell BK1361.out 0).trans rfl; have hcz17_1 : w16.cell? ⟨gb1361, 1, none⟩ = some (.slice A1_1 l1_1.length c1_1) := (blk_cell BK1361.out 1).trans rfl; have hfz17_0 := blk_frozen BK1361.out 0; have hfz17_1 := blk_frozen BK1361.out 1) | ((with_reducible refine gate_callee (f := 35) rfl ?_); refine goesL_ (some 28) rfl rfl Try.func35 (by kernel_rfl) rfl #[.slice A0 l0.length c0, .agg #[.bool a1_0, .slice A1_1 l1_1.length c1_1]] rfl uM ?_; (with_reducible refine (fixenc_Encode.calls k _ _ l0 a1_0 _ _ l1_1 t1368 t1371 _ ?side1 ?side2 ?side3 ?side4 A7.out).mono ?_); (case side1 => exact uC (Kd.V_reads' HO0.out).2.2); (case side2 => exact (Kd.V_reads' HO0.out).2.1); (case side3 => exact uC (Kd.V_reads' HO1_1.out).2.2); (case side4 => exact (Kd.V_reads' HO1_1.out).2.1); rintro e w18 ⟨v1369, rfl, ho0, hb⟩; refine ⟨_, rfl, ?_⟩; replace HO0 := ueV HO0 ho0 hb; replace HO1_1 := ueV HO1_1 ho0 hb; replace HO1365 := ueN HO1365 ho0 hb; have HO1370 := Aside0.mk (Kd.R_lower (Kd.R_newM (M := fun k_ => (w.heap.size ≤ k_)) ho0 (below_size uB) (fun k_ h_ => h_)) (below_size uB)); replace BK1361 := ux BK1361 hb; replace BK1362 := ux BK1362 hb; replace HB := uy hb; (try clear hb ho0)))
  (try simp only [Act.put, List.setIfInBounds_toArray, List.set_cons_zero, List.set_cons_succ])
  go_cut [] (fun wc => ∃ (kq : Nat), Aside0 (windbreaklaw07_FixencBack.j0 kq l0 t1367 a2_0 a2_1 a2_2 = some r) ∧ Aside0 (kq ≤ k) ∧ Aside0 (Kd.V (Kd.int .u64) 27 wc w.heap.size (fun k_ => ((P0_ k_ ∨ P1_1_ k_) ∨ w.heap.size ≤ k_) ∧ k_ ≠ gb1361 ∧ k_ ≠ gb1362) (.slice A0 l0.length c0) l0) ∧ Aside0 (Kd.V (Kd.int .u64) 27 wc w.heap.size (fun k_ => ((P0_ k_ ∨ P1_1_ k_) ∨ w.heap.size ≤ k_) ∧ k_ ≠ gb1361 ∧ k_ ≠ gb1362) (.slice A1_1 l1_1.length c1_1) l1_1) ∧ Aside0 (wc.heap[gb1361]? = some (.cells #[.bool a1_0, (.slice A1_1 l1_1.length c1_1)] 52 (0, 0))) ∧ Aside0 (wc.heap[gb1362]? = some (.cells #[.int .i64 a2_0, .int .i64 a2_1, .int .i64 a2_2] 44 (0, 0))) ∧ Aside0 (Below w.heap.size w wc))
  case first =>
   have H := HC8.out
   clear HC8
   by_cases c19 : t1371 = 0
   ·
    rw [if_pos c19] at H
    have c19b0 : (t1371 == 0) = true := beq_iff_eq.mpr c19
    have c19b1 : (t1371 != 0) = false := bne_eq_false_iff_eq.mpr c19
    clear c19
    (first | rw [c19b0] | (simp only [i64_w, i32_w]; rw [c19b0]) | skip)
    replace H := ub H; obtain ⟨⟨t1372, t1373, t1376⟩, A20, H⟩ := H
    (try dsimp only at H)
    replace H := ub H; obtain ⟨t1378, A21, H⟩ := H
    by_cases c22 : t1376 = 0
    ·
     rw [if_pos c22] at H
     have c22b0 : (t1376 == 0) = true := beq_iff_eq.mpr c22
     have c22b1 : (t1376 != 0) = false := bne_eq_false_iff_eq.mpr c22
     clear c22
     by_cases c23 : t1378 = true
     ·
      subst c23
      have H1 : (windbreaklaw07_FixencBack.j0 k l0 t1367 a2_0 a2_1 a2_2) = some r := by rw [if_pos rfl] at H; exact H
      clear H; have H := H1; clear H1
      have H' := Aside0.mk H
      clear H
      obtain ⟨Ao24, co24, eo24⟩ := Kd.R_slice HO1370.out
      subst eo24
      go_wp2_with (first | ((with_reducible refine gate_callee (f := 36) rfl ?_); refine goesL_ (some 36) rfl rfl Try.func36 (by kernel_rfl) rfl #[.slice A0 l0.length c0, .slice Ao24 t1368.length co24] rfl uM ?_; (with_reducible refine (fixenc_Decode.calls k _ _ l0 _ _ t1368 t1372 t1373 t1376 _ ?side1 ?side2 ?side3 ?side4 A20.out).mono ?_); (case side1 => exact uC (Kd.V_reads' HO0.out).2.2); (case side2 => exact (Kd.V_reads' HO0.out).2.1); (case side3 => exact uC (Kd.R_reads' HO1370.out).2.2); (case side4 => exact (Kd.R_reads' HO1370.out).2.1); rintro e w25 ⟨v1374, rfl, ho0, hb⟩; refine ⟨_, rfl, ?_⟩; replace HO0 := ueV HO0 ho0 hb; replace HO1_1 := ueV HO1_1 ho0 hb; replace HO1365 := ueN HO1365 ho0 hb; have HO1375 := Aside0.mk (Kd.R_lower (Kd.R_new' (Kd.R_newM (M := fun k_ => (w.heap.size ≤ k_)) ho0 (below_size uB) (fun k_ h_ => h_)) (Kd.R_lt (uR HO1370.out))) (below_size uB)); replace HO1370 := ueR HO1370 ho0 hb; replace BK1361 := ux BK1361 hb; replace BK1362 := ux BK1362 hb; replace HB := uy hb; (try clear hb ho0)) | ((with_reducible refine gate_dst (N := 10) rfl ?_); refine box_event ?hg (N := 10) ?hd (cs := #[.bool false, .slice none 0 0]) (t := 52) ?hr ?_; (case hd => rfl); (case hg => rfl); (case hr => first | (go_simp; done) | (go_simp; rfl)); intro gb1377 hg w26 hbox hb; replace HO0 := Aside0.mk (Kd.V_below (Kd.V_elderB (uV HO0.out) gb1377 (Nat.le_of_eq hg.symm)) hb); replace HO1_1 := Aside0.mk (Kd.V_below (Kd.V_elderB (uV HO1_1.out) gb1377 (Nat.le_of_eq hg.symm)) hb); replace HO1365 := Aside0.mk (Kd.N_below (Kd.N_elderB (uN HO1365.out) gb1377 (Nat.le_of_eq hg.symm)) hb); replace HO1370 := Aside0.mk (Kd.R_below (uR HO1370.out) hb); replace HO1375 := Aside0.mk (Kd.R_below (uR HO1375.out) hb); have BK1377 := Aside0.mk (hbox); have GW1377 := us hg; have GE1377 := us hg; replace HB := uy hb; have NB1361_1377 := Aside0.mk ((by rw [hg]; exact Nat.ne_of_lt (blk_lt (uK BK1361.out)) : gb1361 ≠ gb1377)); have NB1377_1361 := Aside0.mk ((by rw [hg]; exact Nat.ne_of_gt (blk_lt (uK BK1361.out)) : gb1377 ≠ gb1361)); replace BK1361 := ux BK1361 hb; have NB1362_1377 := Aside0.mk ((by rw [hg]; exact Nat.ne_of_lt (blk_lt (uK BK1362.out)) : gb1362 ≠ gb1377)); have NB1377_1362 := Aside0.mk ((by rw [hg]; exact Nat.ne_of_gt (blk_lt (uK BK1362.out)) : gb1377 ≠ gb1362)); replace BK1362 := ux BK1362 hb; clear hb hbox hg; have hnb27 := NB1377_1361.out; have hnc27 := NB1361_1377.out; have hnb28 := NB1377_1362.out; have hnc28 := NB1362_1377.out; have hcz29_0 : w26.cell? ⟨gb1377, 0, none⟩ = some (.bool false) := (blk_cell BK1377.out 0).trans rfl; have hcz29_1 : w26.cell? ⟨gb1377, 1, none⟩ = some (.slice none 0 0) := (blk_cell BK1377.out 1).trans rfl; have hfz29_0 := blk_frozen BK1377.out 0; have hfz29_1 := blk_frozen BK1377.out 1; obtain ⟨Ao30, co30, eo30⟩ := Kd.R_slice HO1375.out; subst eo30; have hnb31 := NB1361_1362.out; have hnc31 := NB1362_1361.out; have hcz32_0 : w26.cell? ⟨gb1361, 0, none⟩ = some (.bool a1_0) := (blk_cell BK1361.out 0).trans rfl; have hcz32_1 : w26.cell? ⟨gb1361, 1, none⟩ = some (.slice A1_1 l1_1.length c1_1) := (blk_cell BK1361.out 1).trans rfl; have hfz32_0 := blk_frozen BK1361.out 0; have hfz32_1 := blk_frozen BK1361.out 1) | ((with_reducible refine gate_callee (f := 37) rfl ?_); refine goesL_ (some 41) rfl rfl Try.func37 (by kernel_rfl) rfl #[.agg #[.bool t1372, .slice Ao30 t1373.length co30], .agg #[.bool a1_0, .slice A1_1 l1_1.length c1_1]] rfl uM ?_; (with_reducible refine (windbreakref03_Same.calls k t1372 _ _ t1373 a1_0 _ _ l1_1 true _ ?side1 ?side2 ?side3 ?side4 A21.out).mono ?_); (case side1 => refine (Kd.R_reads' (e := 27) (base := w.heap.size) (ok := fun k_ => (((w.heap.size ≤ k_) ∧ True) ∧ some k_ ≠ (.slice Ao24 t1368.length co24 : Value).ownBlock)) (n := t1373.length) (c := co30) ?_).2.2; exact (uR ((Kd.R_mono (Kd.R_far (p := ⟨gb1377, 1, none⟩) (Kd.R_far (p := ⟨gb1377, 0, none⟩) (Kd.R_types HO1375.out BK1377.out (by decide)) (fun _ hk => hk.2) (.bool t1372)) (fun _ hk => hk.2) (.slice Ao30 t1373.length co30)) (fun _ h_ => h_.1))))); (case side2 => exact (Kd.R_reads' HO1375.out).2.1); (case side3 => refine (Kd.V_reads' (e := 27) (base := w.heap.size) (ok := fun k_ => ((((((((P0_ k_ ∨ P1_1_ k_) ∨ w.heap.size ≤ k_) ∧ k_ ≠ gb1361) ∧ k_ ≠ gb1362) ∧ some k_ ≠ (.slice Ao15 y1363.length co15 : Value).ownBlock) ∧ some k_ ≠ (.slice Ao24 t1368.length co24 : Value).ownBlock) ∧ some k_ ≠ (.slice Ao30 t1373.length co30 : Value).ownBlock) ∧ k_ ≠ gb1377)) (n := l1_1.length) (c := c1_1) ?_).2.2; exact (uV ((Kd.V_mono (Kd.V_far (p := ⟨gb1377, 1, none⟩) (Kd.V_far (p := ⟨gb1377, 0, none⟩) (Kd.V_mono HO1_1.out (fun k_ hk => (⟨hk, hk.2⟩ : _ ∧ k_ ≠ gb1377))) (fun _ hk => hk.2) (.bool t1372)) (fun _ hk => hk.2) (.slice Ao30 t1373.length co30)) (fun _ h_ => h_.1))))); (case side4 => exact (Kd.V_reads' HO1_1.out).2.1); rintro e w33 ⟨rfl, hb⟩; refine ⟨_, rfl, ?_⟩; replace HO0 := Aside0.mk (Kd.V_below (uV ((Kd.V_mono (Kd.V_far (p := ⟨gb1377, 1, none⟩) (Kd.V_far (p := ⟨gb1377, 0, none⟩) (Kd.V_mono HO0.out (fun k_ hk => (⟨hk, hk.2⟩ : _ ∧ k_ ≠ gb1377))) (fun _ hk => hk.2) (.bool t1372)) (fun _ hk => hk.2) (.slice Ao30 t1373.length co30)) (fun _ h_ => h_.1)))) hb); replace HO1_1 := Aside0.mk (Kd.V_below (uV ((Kd.V_mono (Kd.V_far (p := ⟨gb1377, 1, none⟩) (Kd.V_far (p := ⟨gb1377, 0, none⟩) (Kd.V_mono HO1_1.out (fun k_ hk => (⟨hk, hk.2⟩ : _ ∧ k_ ≠ gb1377))) (fun _ hk => hk.2) (.bool t1372)) (fun _ hk => hk.2) (.slice Ao30 t1373.length co30)) (fun _ h_ => h_.1)))) hb); replace HO1365 := Aside0.mk (Kd.N_below (uN ((Kd.N_mono (Kd.N_far (p := ⟨gb1377, 1, none⟩) (Kd.N_far (p := ⟨gb1377, 0, none⟩) (Kd.N_mono HO1365.out (fun k_ hk => (⟨hk, hk.2⟩ : _ ∧ k_ ≠ gb1377))) (fun _ hk => hk.2) (.bool t1372)) (fun _ hk => hk.2) (.slice Ao30 t1373.length co30)) (fun _ h_ => h_.1)))) hb); replace HO1370 := Aside0.mk (Kd.R_below (uR ((Kd.R_mono (Kd.R_far (p := ⟨gb1377, 1, none⟩) (Kd.R_far (p := ⟨gb1377, 0, none⟩) (Kd.R_types HO1370.out BK1377.out (by decide)) (fun _ hk => hk.2) (.bool t1372)) (fun _ hk => hk.2) (.slice Ao30 t1373.length co30)) (fun _ h_ => h_.1)))) hb); replace HO1375 := Aside0.mk (Kd.R_below (uR ((Kd.R_mono (Kd.R_far (p := ⟨gb1377, 1, none⟩) (Kd.R_far (p := ⟨gb1377, 0, none⟩) (Kd.R_types HO1375.out BK1377.out (by decide)) (fun _ hk => hk.2) (.bool t1372)) (fun _ hk => hk.2) (.slice Ao30 t1373.length co30)) (fun _ h_ => h_.1)))) hb); replace BK1361 := Aside0.mk (blk_below (g := gb1361) (o := .cells #[.bool a1_0, .slice A1_1 l1_1.length c1_1] 52 (0, 0)) (by (with_reducible repeat (first | refine blk_drewN ?_ _ | refine blk_drew ?_ | refine blk_alloc ?_ _)); refine blk_far ?_ NB1361_1377.out _; (with_reducible repeat (first | refine blk_drewN ?_ _ | refine blk_drew ?_ | refine blk_alloc ?_ _)); refine blk_far ?_ NB1361_1377.out _; (with_reducible repeat (first | refine blk_drewN ?_ _ | refine blk_drew ?_ | refine blk_alloc ?_ _)); exact BK1361.out) hb); replace BK1362 := Aside0.mk (blk_below (g := gb1362) (o := .cells #[.int .i64 a2_0, .int .i64 a2_1, .int .i64 a2_2] 44 (0, 0)) (by (with_reducible repeat (first | refine blk_drewN ?_ _ | refine blk_drew ?_ | refine blk_alloc ?_ _)); refine blk_far ?_ NB1362_1377.out _; (with_reducible repeat (first | refine blk_drewN ?_ _ | refine blk_drew ?_ | refine blk_alloc ?_ _)); refine blk_far ?_ NB1362_1377.out _; (with_reducible repeat (first | refine blk_drewN ?_ _ | refine blk_drew ?_ | refine blk_alloc ?_ _)); exact BK1362.out) hb); replace BK1377 := Aside0.mk (blk_below (g := gb1377) (o := .cells #[.bool t1372, .slice Ao30 t1373.length co30] 52 (0, 0)) (by (with_reducible repeat (first | refine blk_drewN ?_ _ | refine blk_drew ?_ | refine blk_alloc ?_ _)); refine blk_put (cs := #[.bool t1372, .slice none 0 0]) ?_ 1 _ rfl; (with_reducible repeat (first | refine blk_drewN ?_ _ | refine blk_drew ?_ | refine blk_alloc ?_ _)); refine blk_put (cs := #[.bool false, .slice none 0 0]) ?_ 0 _ rfl; (with_reducible repeat (first | refine blk_drewN ?_ _ | refine blk_drew ?_ | refine blk_alloc ?_ _)); exact BK1377.out) hb); replace HB := uy hb; (try clear hb); (try clear hb2); (try clear hk); (try clear hi)))
      go_meet
      case rel => exact ⟨_, H', ⟨uW⟩, ⟨by (with_reducible repeat (first | apply Kd.V_alloc | apply Kd.V_drewN | apply Kd.V_drew)); exact Kd.V_mono HO0.out (fun _ hk => ⟨hk.1.1.1.1.1.1, ⟨hk.1.1.1.1.1.2, hk.1.1.1.1.2⟩⟩)⟩, ⟨by (with_reducible repeat (first | apply Kd.V_alloc | apply Kd.V_drewN | apply Kd.V_drew)); exact Kd.V_mono HO1_1.out (fun _ hk => ⟨hk.1.1.1.1.1.1, ⟨hk.1.1.1.1.1.2, hk.1.1.1.1.2⟩⟩)⟩, ⟨uK BK1361.out⟩, ⟨uK BK1362.out⟩, ⟨uB⟩⟩
     replace c23 := Bool.eq_false_iff.mpr c23
     subst c23
     have H1 : (some false) = some r := by rw [if_neg (show ¬ (false = true) by decide)] at H; exact H
     clear H; have H := H1; clear H1
     obtain rfl := Option.some.inj H
     obtain ⟨Ao34, co34, eo34⟩ := Kd.R_slice HO1370.out
     subst eo34
     go_wp2_with (first | ((with_reducible refine gate_callee (f := 36) rfl ?_); refine goesL_ (some 36) rfl rfl Try.func36 (by kernel_rfl) rfl #[.slice A0 l0.length c0, .slice Ao34 t1368.length co34] rfl uM ?_; (with_reducible refine (fixenc_Decode.calls k _ _ l0 _ _ t1368 t1372 t1373 t1376 _ ?side1 ?side2 ?side3 ?side4 A20.out).mono ?_); (case side1 => exact uC (Kd.V_reads' HO0.out).2.2); (case side2 => exact (Kd.V_reads' HO0.out).2.1); (case side3 => exact uC (Kd.R_reads' HO1370.out).2.2); (case side4 => exact (Kd.R_reads' HO1370.out).2.1); rintro e w35 ⟨v1374, rfl, ho0, hb⟩; refine ⟨_, rfl, ?_⟩; replace HO0 := ueV HO0 ho0 hb; replace HO1_1 := ueV HO1_1 ho0 hb; replace HO1365 := ueN HO1365 ho0 hb; have HO1375 := Aside0.mk (Kd.R_lower (Kd.R_new' (Kd.R_newM (M := fun k_ => (w.heap.size ≤ k_)) ho0 (below_size uB) (fun k_ h_ => h_)) (Kd.R_lt (uR HO1370.out))) (below_size uB)); replace HO1370 := ueR HO1370 ho0 hb; replace BK1361 := ux BK1361 hb; replace BK1362 := ux BK1362 hb; replace HB := uy hb; (try clear hb ho0)) | ((with_reducible refine gate_dst (N := 10) rfl ?_); refine box_event ?hg (N := 10) ?hd (cs := #[.bool false, .slice none 0 0]) (t := 52) ?hr ?_; (case hd => rfl); (case hg => rfl); (case hr => first | (go_simp; done) | (go_simp; rfl)); intro gb1377 hg w36 hbox hb; replace HO0 := Aside0.mk (Kd.V_below (Kd.V_elderB (uV HO0.out) gb1377 (Nat.le_of_eq hg.symm)) hb); replace HO1_1 := Aside0.mk (Kd.V_below (Kd.V_elderB (uV HO1_1.out) gb1377 (Nat.le_of_eq hg.symm)) hb); replace HO1365 := Aside0.mk (Kd.N_below (Kd.N_elderB (uN HO1365.out) gb1377 (Nat.le_of_eq hg.symm)) hb); replace HO1370 := Aside0.mk (Kd.R_below (uR HO1370.out) hb); replace HO1375 := Aside0.mk (Kd.R_below (uR HO1375.out) hb); have BK1377 := Aside0.mk (hbox); have GW1377 := us hg; have GE1377 := us hg; replace HB := uy hb; have NB1361_1377 := Aside0.mk ((by rw [hg]; exact Nat.ne_of_lt (blk_lt (uK BK1361.out)) : gb1361 ≠ gb1377)); have NB1377_1361 := Aside0.mk ((by rw [hg]; exact Nat.ne_of_gt (blk_lt (uK BK1361.out)) : gb1377 ≠ gb1361)); replace BK1361 := ux BK1361 hb; have NB1362_1377 := Aside0.mk ((by rw [hg]; exact Nat.ne_of_lt (blk_lt (uK BK1362.out)) : gb1362 ≠ gb1377)); have NB1377_1362 := Aside0.mk ((by rw [hg]; exact Nat.ne_of_gt (blk_lt (uK BK1362.out)) : gb1377 ≠ gb1362)); replace BK1362 := ux BK1362 hb; clear hb hbox hg; have hnb37 := NB1377_1361.out; have hnc37 := NB1361_1377.out; have hnb38 := NB1377_1362.out; have hnc38 := NB1362_1377.out; have hcz39_0 : w36.cell? ⟨gb1377, 0, none⟩ = some (.bool false) := (blk_cell BK1377.out 0).trans rfl; have hcz39_1 : w36.cell? ⟨gb1377, 1, none⟩ = some (.slice none 0 0) := (blk_cell BK1377.out 1).trans rfl; have hfz39_0 := blk_frozen BK1377.out 0; have hfz39_1 := blk_frozen BK1377.out 1; obtain ⟨Ao40, co40, eo40⟩ := Kd.R_slice HO1375.out; subst eo40; have hnb41 := NB1361_1362.out; have hnc41 := NB1362_1361.out; have hcz42_0 : w36.cell? ⟨gb1361, 0, none⟩ = some (.bool a1_0) := (blk_cell BK1361.out 0).trans rfl; have hcz42_1 : w36.cell? ⟨gb1361, 1, none⟩ = some (.slice A1_1 l1_1.length c1_1) := (blk_cell BK1361.out 1).trans rfl; have hfz42_0 := blk_frozen BK1361.out 0; have hfz42_1 := blk_frozen BK1361.out 1) | ((with_reducible refine gate_callee (f := 37) rfl ?_); refine goesL_ (some 41) rfl rfl Try.func37 (by kernel_rfl) rfl #[.agg #[.bool t1372, .slice Ao40 t1373.length co40], .agg #[.bool a1_0, .slice A1_1 l1_1.length c1_1]] rfl uM ?_; (with_reducible refine (windbreakref03_Same.calls k t1372 _ _ t1373 a1_0 _ _ l1_1 false _ ?side1 ?side2 ?side3 ?side4 A21.out).mono ?_); (case side1 => refine (Kd.R_reads' (e := 27) (base := w.heap.size) (ok := fun k_ => (((w.heap.size ≤ k_) ∧ True) ∧ some k_ ≠ (.slice Ao34 t1368.length co34 : Value).ownBlock)) (n := t1373.length) (c := co40) ?_).2.2; exact (uR ((Kd.R_mono (Kd.R_far (p := ⟨gb1377, 1, none⟩) (Kd.R_far (p := ⟨gb1377, 0, none⟩) (Kd.R_types HO1375.out BK1377.out (by decide)) (fun _ hk => hk.2) (.bool t1372)) (fun _ hk => hk.2) (.slice Ao40 t1373.length co40)) (fun _ h_ => h_.1))))); (case side2 => exact (Kd.R_reads' HO1375.out).2.1); (case side3 => refine (Kd.V_reads' (e := 27) (base := w.heap.size) (ok := fun k_ => ((((((((P0_ k_ ∨ P1_1_ k_) ∨ w.heap.size ≤ k_) ∧ k_ ≠ gb1361) ∧ k_ ≠ gb1362) ∧ some k_ ≠ (.slice Ao15 y1363.length co15 : Value).ownBlock) ∧ some k_ ≠ (.slice Ao34 t1368.length co34 : Value).ownBlock) ∧ some k_ ≠ (.slice Ao40 t1373.length co40 : Value).ownBlock) ∧ k_ ≠ gb1377)) (n := l1_1.length) (c := c1_1) ?_).2.2; exact (uV ((Kd.V_mono (Kd.V_far (p := ⟨gb1377, 1, none⟩) (Kd.V_far (p := ⟨gb1377, 0, none⟩) (Kd.V_mono HO1_1.out (fun k_ hk => (⟨hk, hk.2⟩ : _ ∧ k_ ≠ gb1377))) (fun _ hk => hk.2) (.bool t1372)) (fun _ hk => hk.2) (.slice Ao40 t1373.length co40)) (fun _ h_ => h_.1))))); (case side4 => exact (Kd.V_reads' HO1_1.out).2.1); rintro e w43 ⟨rfl, hb⟩; refine ⟨_, rfl, ?_⟩; replace HO0 := Aside0.mk (Kd.V_below (uV ((Kd.V_mono (Kd.V_far (p := ⟨gb1377, 1, none⟩) (Kd.V_far (p := ⟨gb1377, 0, none⟩) (Kd.V_mono HO0.out (fun k_ hk => (⟨hk, hk.2⟩ : _ ∧ k_ ≠ gb1377))) (fun _ hk => hk.2) (.bool t1372)) (fun _ hk => hk.2) (.slice Ao40 t1373.length co40)) (fun _ h_ => h_.1)))) hb); replace HO1_1 := Aside0.mk (Kd.V_below (uV ((Kd.V_mono (Kd.V_far (p := ⟨gb1377, 1, none⟩) (Kd.V_far (p := ⟨gb1377, 0, none⟩) (Kd.V_mono HO1_1.out (fun k_ hk => (⟨hk, hk.2⟩ : _ ∧ k_ ≠ gb1377))) (fun _ hk => hk.2) (.bool t1372)) (fun _ hk => hk.2) (.slice Ao40 t1373.length co40)) (fun _ h_ => h_.1)))) hb); replace HO1365 := Aside0.mk (Kd.N_below (uN ((Kd.N_mono (Kd.N_far (p := ⟨gb1377, 1, none⟩) (Kd.N_far (p := ⟨gb1377, 0, none⟩) (Kd.N_mono HO1365.out (fun k_ hk => (⟨hk, hk.2⟩ : _ ∧ k_ ≠ gb1377))) (fun _ hk => hk.2) (.bool t1372)) (fun _ hk => hk.2) (.slice Ao40 t1373.length co40)) (fun _ h_ => h_.1)))) hb); replace HO1370 := Aside0.mk (Kd.R_below (uR ((Kd.R_mono (Kd.R_far (p := ⟨gb1377, 1, none⟩) (Kd.R_far (p := ⟨gb1377, 0, none⟩) (Kd.R_types HO1370.out BK1377.out (by decide)) (fun _ hk => hk.2) (.bool t1372)) (fun _ hk => hk.2) (.slice Ao40 t1373.length co40)) (fun _ h_ => h_.1)))) hb); replace HO1375 := Aside0.mk (Kd.R_below (uR ((Kd.R_mono (Kd.R_far (p := ⟨gb1377, 1, none⟩) (Kd.R_far (p := ⟨gb1377, 0, none⟩) (Kd.R_types HO1375.out BK1377.out (by decide)) (fun _ hk => hk.2) (.bool t1372)) (fun _ hk => hk.2) (.slice Ao40 t1373.length co40)) (fun _ h_ => h_.1)))) hb); replace BK1361 := Aside0.mk (blk_below (g := gb1361) (o := .cells #[.bool a1_0, .slice A1_1 l1_1.length c1_1] 52 (0, 0)) (by (with_reducible repeat (first | refine blk_drewN ?_ _ | refine blk_drew ?_ | refine blk_alloc ?_ _)); refine blk_far ?_ NB1361_1377.out _; (with_reducible repeat (first | refine blk_drewN ?_ _ | refine blk_drew ?_ | refine blk_alloc ?_ _)); refine blk_far ?_ NB1361_1377.out _; (with_reducible repeat (first | refine blk_drewN ?_ _ | refine blk_drew ?_ | refine blk_alloc ?_ _)); exact BK1361.out) hb); replace BK1362 := Aside0.mk (blk_below (g := gb1362) (o := .cells #[.int .i64 a2_0, .int .i64 a2_1, .int .i64 a2_2] 44 (0, 0)) (by (with_reducible repeat (first | refine blk_drewN ?_ _ | refine blk_drew ?_ | refine blk_alloc ?_ _)); refine blk_far ?_ NB1362_1377.out _; (with_reducible repeat (first | refine blk_drewN ?_ _ | refine blk_drew ?_ | refine blk_alloc ?_ _)); refine blk_far ?_ NB1362_1377.out _; (with_reducible repeat (first | refine blk_drewN ?_ _ | refine blk_drew ?_ | refine blk_alloc ?_ _)); exact BK1362.out) hb); replace BK1377 := Aside0.mk (blk_below (g := gb1377) (o := .cells #[.bool t1372, .slice Ao40 t1373.length co40] 52 (0, 0)) (by (with_reducible repeat (first | refine blk_drewN ?_ _ | refine blk_drew ?_ | refine blk_alloc ?_ _)); refine blk_put (cs := #[.bool t1372, .slice none 0 0]) ?_ 1 _ rfl; (with_reducible repeat (first | refine blk_drewN ?_ _ | refine blk_drew ?_ | refine blk_alloc ?_ _)); refine blk_put (cs := #[.bool false, .slice none 0 0]) ?_ 0 _ rfl; (with_reducible repeat (first | refine blk_drewN ?_ _ | refine blk_drew ?_ | refine blk_alloc ?_ _)); exact BK1377.out) hb); replace HB := uy hb; (try clear hb); (try clear hb2); (try clear hk); (try clear hi)))
     go_ret
     exact ⟨uF, uB⟩
    rw [if_neg c22] at H
    have c22b0 : (t1376 == 0) = false := beq_eq_false_iff_ne.mpr c22
    have c22b1 : (t1376 != 0) = true := bne_iff_ne.mpr c22
    obtain rfl := Option.some.inj H
    obtain ⟨Ao44, co44, eo44⟩ := Kd.R_slice HO1370.out
    subst eo44
    go_wp2_with (first | ((with_reducible refine gate_callee (f := 36) rfl ?_); refine goesL_ (some 36) rfl rfl Try.func36 (by kernel_rfl) rfl #[.slice A0 l0.length c0, .slice Ao44 t1368.length co44] rfl uM ?_; (with_reducible refine (fixenc_Decode.calls k _ _ l0 _ _ t1368 t1372 t1373 t1376 _ ?side1 ?side2 ?side3 ?side4 A20.out).mono ?_); (case side1 => exact uC (Kd.V_reads' HO0.out).2.2); (case side2 => exact (Kd.V_reads' HO0.out).2.1); (case side3 => exact uC (Kd.R_reads' HO1370.out).2.2); (case side4 => exact (Kd.R_reads' HO1370.out).2.1); rintro e w45 ⟨v1374, rfl, ho0, hb⟩; refine ⟨_, rfl, ?_⟩; replace HO0 := ueV HO0 ho0 hb; replace HO1_1 := ueV HO1_1 ho0 hb; replace HO1365 := ueN HO1365 ho0 hb; have HO1375 := Aside0.mk (Kd.R_lower (Kd.R_new' (Kd.R_newM (M := fun k_ => (w.heap.size ≤ k_)) ho0 (below_size uB) (fun k_ h_ => h_)) (Kd.R_lt (uR HO1370.out))) (below_size uB)); replace HO1370 := ueR HO1370 ho0 hb; replace BK1361 := ux BK1361 hb; replace BK1362 := ux BK1362 hb; replace HB := uy hb; (try clear hb ho0)) | ((with_reducible refine gate_dst (N := 10) rfl ?_); refine box_event ?hg (N := 10) ?hd (cs := #[.bool false, .slice none 0 0]) (t := 52) ?hr ?_; (case hd => rfl); (case hg => rfl); (case hr => first | (go_simp; done) | (go_simp; rfl)); intro gb1377 hg w46 hbox hb; replace HO0 := Aside0.mk (Kd.V_below (Kd.V_elderB (uV HO0.out) gb1377 (Nat.le_of_eq hg.symm)) hb); replace HO1_1 := Aside0.mk (Kd.V_below (Kd.V_elderB (uV HO1_1.out) gb1377 (Nat.le_of_eq hg.symm)) hb); replace HO1365 := Aside0.mk (Kd.N_below (Kd.N_elderB (uN HO1365.out) gb1377 (Nat.le_of_eq hg.symm)) hb); replace HO1370 := Aside0.mk (Kd.R_below (uR HO1370.out) hb); replace HO1375 := Aside0.mk (Kd.R_below (uR HO1375.out) hb); have BK1377 := Aside0.mk (hbox); have GW1377 := us hg; have GE1377 := us hg; replace HB := uy hb; have NB1361_1377 := Aside0.mk ((by rw [hg]; exact Nat.ne_of_lt (blk_lt (uK BK1361.out)) : gb1361 ≠ gb1377)); have NB1377_1361 := Aside0.mk ((by rw [hg]; exact Nat.ne_of_gt (blk_lt (uK BK1361.out)) : gb1377 ≠ gb1361)); replace BK1361 := ux BK1361 hb; have NB1362_1377 := Aside0.mk ((by rw [hg]; exact Nat.ne_of_lt (blk_lt (uK BK1362.out)) : gb1362 ≠ gb1377)); have NB1377_1362 := Aside0.mk ((by rw [hg]; exact Nat.ne_of_gt (blk_lt (uK BK1362.out)) : gb1377 ≠ gb1362)); replace BK1362 := ux BK1362 hb; clear hb hbox hg; have hnb47 := NB1377_1361.out; have hnc47 := NB1361_1377.out; have hnb48 := NB1377_1362.out; have hnc48 := NB1362_1377.out; have hcz49_0 : w46.cell? ⟨gb1377, 0, none⟩ = some (.bool false) := (blk_cell BK1377.out 0).trans rfl; have hcz49_1 : w46.cell? ⟨gb1377, 1, none⟩ = some (.slice none 0 0) := (blk_cell BK1377.out 1).trans rfl; have hfz49_0 := blk_frozen BK1377.out 0; have hfz49_1 := blk_frozen BK1377.out 1; obtain ⟨Ao50, co50, eo50⟩ := Kd.R_slice HO1375.out; subst eo50; have hnb51 := NB1361_1362.out; have hnc51 := NB1362_1361.out; have hcz52_0 : w46.cell? ⟨gb1361, 0, none⟩ = some (.bool a1_0) := (blk_cell BK1361.out 0).trans rfl; have hcz52_1 : w46.cell? ⟨gb1361, 1, none⟩ = some (.slice A1_1 l1_1.length c1_1) := (blk_cell BK1361.out 1).trans rfl; have hfz52_0 := blk_frozen BK1361.out 0; have hfz52_1 := blk_frozen BK1361.out 1) | ((with_reducible refine gate_callee (f := 37) rfl ?_); refine goesL_ (some 41) rfl rfl Try.func37 (by kernel_rfl) rfl #[.agg #[.bool t1372, .slice Ao50 t1373.length co50], .agg #[.bool a1_0, .slice A1_1 l1_1.length c1_1]] rfl uM ?_; (with_reducible refine (windbreakref03_Same.calls k t1372 _ _ t1373 a1_0 _ _ l1_1 t1378 _ ?side1 ?side2 ?side3 ?side4 A21.out).mono ?_); (case side1 => refine (Kd.R_reads' (e := 27) (base := w.heap.size) (ok := fun k_ => (((w.heap.size ≤ k_) ∧ True) ∧ some k_ ≠ (.slice Ao44 t1368.length co44 : Value).ownBlock)) (n := t1373.length) (c := co50) ?_).2.2; exact (uR ((Kd.R_mono (Kd.R_far (p := ⟨gb1377, 1, none⟩) (Kd.R_far (p := ⟨gb1377, 0, none⟩) (Kd.R_types HO1375.out BK1377.out (by decide)) (fun _ hk => hk.2) (.bool t1372)) (fun _ hk => hk.2) (.slice Ao50 t1373.length co50)) (fun _ h_ => h_.1))))); (case side2 => exact (Kd.R_reads' HO1375.out).2.1); (case side3 => refine (Kd.V_reads' (e := 27) (base := w.heap.size) (ok := fun k_ => ((((((((P0_ k_ ∨ P1_1_ k_) ∨ w.heap.size ≤ k_) ∧ k_ ≠ gb1361) ∧ k_ ≠ gb1362) ∧ some k_ ≠ (.slice Ao15 y1363.length co15 : Value).ownBlock) ∧ some k_ ≠ (.slice Ao44 t1368.length co44 : Value).ownBlock) ∧ some k_ ≠ (.slice Ao50 t1373.length co50 : Value).ownBlock) ∧ k_ ≠ gb1377)) (n := l1_1.length) (c := c1_1) ?_).2.2; exact (uV ((Kd.V_mono (Kd.V_far (p := ⟨gb1377, 1, none⟩) (Kd.V_far (p := ⟨gb1377, 0, none⟩) (Kd.V_mono HO1_1.out (fun k_ hk => (⟨hk, hk.2⟩ : _ ∧ k_ ≠ gb1377))) (fun _ hk => hk.2) (.bool t1372)) (fun _ hk => hk.2) (.slice Ao50 t1373.length co50)) (fun _ h_ => h_.1))))); (case side4 => exact (Kd.V_reads' HO1_1.out).2.1); rintro e w53 ⟨rfl, hb⟩; refine ⟨_, rfl, ?_⟩; replace HO0 := Aside0.mk (Kd.V_below (uV ((Kd.V_mono (Kd.V_far (p := ⟨gb1377, 1, none⟩) (Kd.V_far (p := ⟨gb1377, 0, none⟩) (Kd.V_mono HO0.out (fun k_ hk => (⟨hk, hk.2⟩ : _ ∧ k_ ≠ gb1377))) (fun _ hk => hk.2) (.bool t1372)) (fun _ hk => hk.2) (.slice Ao50 t1373.length co50)) (fun _ h_ => h_.1)))) hb); replace HO1_1 := Aside0.mk (Kd.V_below (uV ((Kd.V_mono (Kd.V_far (p := ⟨gb1377, 1, none⟩) (Kd.V_far (p := ⟨gb1377, 0, none⟩) (Kd.V_mono HO1_1.out (fun k_ hk => (⟨hk, hk.2⟩ : _ ∧ k_ ≠ gb1377))) (fun _ hk => hk.2) (.bool t1372)) (fun _ hk => hk.2) (.slice Ao50 t1373.length co50)) (fun _ h_ => h_.1)))) hb); replace HO1365 := Aside0.mk (Kd.N_below (uN ((Kd.N_mono (Kd.N_far (p := ⟨gb1377, 1, none⟩) (Kd.N_far (p := ⟨gb1377, 0, none⟩) (Kd.N_mono HO1365.out (fun k_ hk => (⟨hk, hk.2⟩ : _ ∧ k_ ≠ gb1377))) (fun _ hk => hk.2) (.bool t1372)) (fun _ hk => hk.2) (.slice Ao50 t1373.length co50)) (fun _ h_ => h_.1)))) hb); replace HO1370 := Aside0.mk (Kd.R_below (uR ((Kd.R_mono (Kd.R_far (p := ⟨gb1377, 1, none⟩) (Kd.R_far (p := ⟨gb1377, 0, none⟩) (Kd.R_types HO1370.out BK1377.out (by decide)) (fun _ hk => hk.2) (.bool t1372)) (fun _ hk => hk.2) (.slice Ao50 t1373.length co50)) (fun _ h_ => h_.1)))) hb); replace HO1375 := Aside0.mk (Kd.R_below (uR ((Kd.R_mono (Kd.R_far (p := ⟨gb1377, 1, none⟩) (Kd.R_far (p := ⟨gb1377, 0, none⟩) (Kd.R_types HO1375.out BK1377.out (by decide)) (fun _ hk => hk.2) (.bool t1372)) (fun _ hk => hk.2) (.slice Ao50 t1373.length co50)) (fun _ h_ => h_.1)))) hb); replace BK1361 := Aside0.mk (blk_below (g := gb1361) (o := .cells #[.bool a1_0, .slice A1_1 l1_1.length c1_1] 52 (0, 0)) (by (with_reducible repeat (first | refine blk_drewN ?_ _ | refine blk_drew ?_ | refine blk_alloc ?_ _)); refine blk_far ?_ NB1361_1377.out _; (with_reducible repeat (first | refine blk_drewN ?_ _ | refine blk_drew ?_ | refine blk_alloc ?_ _)); refine blk_far ?_ NB1361_1377.out _; (with_reducible repeat (first | refine blk_drewN ?_ _ | refine blk_drew ?_ | refine blk_alloc ?_ _)); exact BK1361.out) hb); replace BK1362 := Aside0.mk (blk_below (g := gb1362) (o := .cells #[.int .i64 a2_0, .int .i64 a2_1, .int .i64 a2_2] 44 (0, 0)) (by (with_reducible repeat (first | refine blk_drewN ?_ _ | refine blk_drew ?_ | refine blk_alloc ?_ _)); refine blk_far ?_ NB1362_1377.out _; (with_reducible repeat (first | refine blk_drewN ?_ _ | refine blk_drew ?_ | refine blk_alloc ?_ _)); refine blk_far ?_ NB1362_1377.out _; (with_reducible repeat (first | refine blk_drewN ?_ _ | refine blk_drew ?_ | refine blk_alloc ?_ _)); exact BK1362.out) hb); replace BK1377 := Aside0.mk (blk_below (g := gb1377) (o := .cells #[.bool t1372, .slice Ao50 t1373.length co50] 52 (0, 0)) (by (with_reducible repeat (first | refine blk_drewN ?_ _ | refine blk_drew ?_ | refine blk_alloc ?_ _)); refine blk_put (cs := #[.bool t1372, .slice none 0 0]) ?_ 1 _ rfl; (with_reducible repeat (first | refine blk_drewN ?_ _ | refine blk_drew ?_ | refine blk_alloc ?_ _)); refine blk_put (cs := #[.bool false, .slice none 0 0]) ?_ 0 _ rfl; (with_reducible repeat (first | refine blk_drewN ?_ _ | refine blk_drew ?_ | refine blk_alloc ?_ _)); exact BK1377.out) hb); replace HB := uy hb; (try clear hb); (try clear hb2); (try clear hk); (try clear hi)))
    go_ret
    exact ⟨uF, uB⟩
   rw [if_neg c19] at H
   have c19b0 : (t1371 == 0) = false := beq_eq_false_iff_ne.mpr c19
   have c19b1 : (t1371 != 0) = true := bne_iff_ne.mpr c19
   (first | rw [c19b0] | (simp only [i64_w, i32_w]; rw [c19b0]) | skip)
   have H' := Aside0.mk H
   clear H
   go_wp2
   go_meet
   case rel => exact ⟨_, H', ⟨uW⟩, ⟨by (with_reducible repeat (first | apply Kd.V_alloc | apply Kd.V_drewN | apply Kd.V_drew)); exact Kd.V_mono HO0.out (fun _ hk => ⟨hk.1.1.1.1, ⟨hk.1.1.1.2, hk.1.1.2⟩⟩)⟩, ⟨by (with_reducible repeat (first | apply Kd.V_alloc | apply Kd.V_drewN | apply Kd.V_drew)); exact Kd.V_mono HO1_1.out (fun _ hk => ⟨hk.1.1.1.1, ⟨hk.1.1.1.2, hk.1.1.2⟩⟩)⟩, ⟨uK BK1361.out⟩, ⟨uK BK1362.out⟩, ⟨uB⟩⟩
  case rest =>
   clear HC8; (try clear c1); (try clear c2); (try clear p2); (try clear c3); (try clear c4); (try clear c5); (try clear c11); (try clear c13); (try clear c19); (try clear c19b0); (try clear c19b1); (try clear c22); (try clear c22b0); (try clear c22b1); (try clear c23); (try clear c27); (try clear c28); (try clear c31); (try clear c35); (try clear c36); (try clear c37); (try clear c38); (try clear c41); (try clear c47); (try clear c48); (try clear c51); (try clear hcz12_0 hcz12_1); (try clear hcz17_0 hcz17_1); (try clear hcz29_0 hcz29_1); (try clear hcz32_0 hcz32_1); (try clear hcz39_0 hcz39_1); (try clear hcz42_0 hcz42_1); (try clear hcz49_0 hcz49_1); (try clear hcz52_0 hcz52_1); (try clear hfz12_0 hfz12_1); (try clear hfz17_0 hfz17_1); (try clear hfz29_0 hfz29_1); (try clear hfz32_0 hfz32_1); (try clear hfz39_0 hfz39_1); (try clear hfz42_0 hfz42_1); (try clear hfz49_0 hfz49_1); (try clear hfz52_0 hfz52_1)
   obtain ⟨kq, HA, HJ7, HO_0, HO_1362001, BK1361, BK1362, HB⟩ := hcut
   cases kq with
   | zero => exact absurd HA.out (by simp [windbreaklaw07_FixencBack.j0])
   | succ kj7 =>
    have H := HA.out
    clear HA
    simp only [windbreaklaw07_FixencBack.j0] at H
    replace H := ub H; obtain ⟨⟨t1379, t1380⟩, A54, H⟩ := H
    (try dsimp only at H)
    by_cases c55 : t1380 = 0
    ·
     rw [if_pos c55] at H
     have c55b0 : (t1380 == 0) = true := beq_iff_eq.mpr c55
     have c55b1 : (t1380 != 0) = false := bne_eq_false_iff_eq.mpr c55
     clear c55
     replace H := ub H; obtain ⟨⟨t1383, t1384, t1385⟩, A56, H⟩ := H
     (try dsimp only at H)
     by_cases c57 : t1367 = true
     ·
      subst c57
      have H1 : (if t1385 = 0 then (if t1383 = a2_0 then (some (t1384 == a2_1)) else (some false)) else (some false)) = some r := by rw [if_pos rfl] at H; exact H
      clear H; have H := H1; clear H1
      by_cases c58 : t1385 = 0
      ·
       rw [if_pos c58] at H
       have c58b0 : (t1385 == 0) = true := beq_iff_eq.mpr c58
       have c58b1 : (t1385 != 0) = false := bne_eq_false_iff_eq.mpr c58
       clear c58
       by_cases c59 : t1383 = a2_0
       ·
        rw [if_pos c59] at H
        have c59b0 : (t1383 == a2_0) = true := beq_iff_eq.mpr c59
        have c59b1 : (t1383 != a2_0) = false := bne_eq_false_iff_eq.mpr c59
        clear c59
        obtain rfl := Option.some.inj H
        have hnb60 := NB1362_1361.out
        have hnc60 := NB1361_1362.out
        have hcz61_0 : wc.cell? ⟨gb1362, 0, none⟩ = some (.int .i64 a2_0) := (blk_cell BK1362.out 0).trans rfl; have hcz61_1 : wc.cell? ⟨gb1362, 1, none⟩ = some (.int .i64 a2_1) := (blk_cell BK1362.out 1).trans rfl; have hcz61_2 : wc.cell? ⟨gb1362, 2, none⟩ = some (.int .i64 a2_2) := (blk_cell BK1362.out 2).trans rfl; have hfz61_0 := blk_frozen BK1362.out 0; have hfz61_1 := blk_frozen BK1362.out 1; have hfz61_2 := blk_frozen BK1362.out 2
        go_wp2_with (first | ((with_reducible refine gate_callee (f := 29) rfl ?_); refine goesL_ (some 58) rfl rfl Try.func29 (by kernel_rfl) rfl #[.slice A0 l0.length c0, .int .i64 (Go.bits .and .i64 a2_2 63), .int .i64 a2_0, .int .i64 a2_1] rfl uM ?_; (with_reducible refine (fixenc_Pack.calls kj7 _ _ l0 (Go.bits .and .i64 a2_2 63) a2_0 a2_1 t1379 t1380 _ ?side1 ?side2 A54.out).mono ?_); (case side1 => exact uC (Kd.V_reads' HO_0.out).2.2); (case side2 => exact (Kd.V_reads' HO_0.out).2.1); rintro e w62 ⟨v1381, rfl, ho0, hb⟩; refine ⟨_, rfl, ?_⟩; replace HO_0 := ueV HO_0 ho0 hb; replace HO_1362001 := ueV HO_1362001 ho0 hb; have HO1382 := Aside0.mk (Kd.R_lower (Kd.R_newM (M := fun k_ => (w.heap.size ≤ k_)) ho0 (below_size uB) (fun k_ h_ => h_)) (below_size uB)); replace BK1361 := ux BK1361 hb; replace BK1362 := ux BK1362 hb; replace HB := uy hb; (try clear hb ho0); obtain ⟨Ao63, co63, eo63⟩ := Kd.R_slice HO1382.out; subst eo63) | ((with_reducible refine gate_callee (f := 33) rfl ?_); refine goesL_ (some 68) rfl rfl Try.func33 (by kernel_rfl) rfl #[.slice A0 l0.length c0, .int .i64 (Go.bits .and .i64 a2_2 63), .slice Ao63 t1379.length co63] rfl uM ?_; (with_reducible refine (fixenc_Unpack.calls kj7 _ _ l0 (Go.bits .and .i64 a2_2 63) _ _ t1379 t1383 t1384 t1385 _ ?side1 ?side2 ?side3 ?side4 A56.out).mono ?_); (case side1 => exact uC (Kd.V_reads' HO_0.out).2.2); (case side2 => exact (Kd.V_reads' HO_0.out).2.1); (case side3 => exact uC (Kd.R_reads' HO1382.out).2.2); (case side4 => exact (Kd.R_reads' HO1382.out).2.1); rintro e w64 ⟨rfl, hb⟩; refine ⟨_, rfl, ?_⟩; replace HO_0 := Aside0.mk (Kd.V_below (uV HO_0.out) hb); replace HO_1362001 := Aside0.mk (Kd.V_below (uV HO_1362001.out) hb); replace HO1382 := Aside0.mk (Kd.R_below (uR HO1382.out) hb); replace BK1361 := ux BK1361 hb; replace BK1362 := ux BK1362 hb; replace HB := uy hb; (try clear hb); have hcz65_0 : w64.cell? ⟨gb1362, 0, none⟩ = some (.int .i64 a2_0) := (blk_cell BK1362.out 0).trans rfl; have hcz65_1 : w64.cell? ⟨gb1362, 1, none⟩ = some (.int .i64 a2_1) := (blk_cell BK1362.out 1).trans rfl; have hcz65_2 : w64.cell? ⟨gb1362, 2, none⟩ = some (.int .i64 a2_2) := (blk_cell BK1362.out 2).trans rfl; have hfz65_0 := blk_frozen BK1362.out 0; have hfz65_1 := blk_frozen BK1362.out 1; have hfz65_2 := blk_frozen BK1362.out 2))
        go_ret
        exact ⟨uF, uB⟩
       rw [if_neg c59] at H
       have c59b0 : (t1383 == a2_0) = false := beq_eq_false_iff_ne.mpr c59
       have c59b1 : (t1383 != a2_0) = true := bne_iff_ne.mpr c59
       obtain rfl := Option.some.inj H
       have hnb66 := NB1362_1361.out
       have hnc66 := NB1361_1362.out
       have hcz67_0 : wc.cell? ⟨gb1362, 0, none⟩ = some (.int .i64 a2_0) := (blk_cell BK1362.out 0).trans rfl; have hcz67_1 : wc.cell? ⟨gb1362, 1, none⟩ = some (.int .i64 a2_1) := (blk_cell BK1362.out 1).trans rfl; have hcz67_2 : wc.cell? ⟨gb1362, 2, none⟩ = some (.int .i64 a2_2) := (blk_cell BK1362.out 2).trans rfl; have hfz67_0 := blk_frozen BK1362.out 0; have hfz67_1 := blk_frozen BK1362.out 1; have hfz67_2 := blk_frozen BK1362.out 2
       go_wp2_with (first | ((with_reducible refine gate_callee (f := 29) rfl ?_); refine goesL_ (some 58) rfl rfl Try.func29 (by kernel_rfl) rfl #[.slice A0 l0.length c0, .int .i64 (Go.bits .and .i64 a2_2 63), .int .i64 a2_0, .int .i64 a2_1] rfl uM ?_; (with_reducible refine (fixenc_Pack.calls kj7 _ _ l0 (Go.bits .and .i64 a2_2 63) a2_0 a2_1 t1379 t1380 _ ?side1 ?side2 A54.out).mono ?_); (case side1 => exact uC (Kd.V_reads' HO_0.out).2.2); (case side2 => exact (Kd.V_reads' HO_0.out).2.1); rintro e w68 ⟨v1381, rfl, ho0, hb⟩; refine ⟨_, rfl, ?_⟩; replace HO_0 := ueV HO_0 ho0 hb; replace HO_1362001 := ueV HO_1362001 ho0 hb; have HO1382 := Aside0.mk (Kd.R_lower (Kd.R_newM (M := fun k_ => (w.heap.size ≤ k_)) ho0 (below_size uB) (fun k_ h_ => h_)) (below_size uB)); replace BK1361 := ux BK1361 hb; replace BK1362 := ux BK1362 hb; replace HB := uy hb; (try clear hb ho0); obtain ⟨Ao69, co69, eo69⟩ := Kd.R_slice HO1382.out; subst eo69) | ((with_reducible refine gate_callee (f := 33) rfl ?_); refine goesL_ (some 68) rfl rfl Try.func33 (by kernel_rfl) rfl #[.slice A0 l0.length c0, .int .i64 (Go.bits .and .i64 a2_2 63), .slice Ao69 t1379.length co69] rfl uM ?_; (with_reducible refine (fixenc_Unpack.calls kj7 _ _ l0 (Go.bits .and .i64 a2_2 63) _ _ t1379 t1383 t1384 t1385 _ ?side1 ?side2 ?side3 ?side4 A56.out).mono ?_); (case side1 => exact uC (Kd.V_reads' HO_0.out).2.2); (case side2 => exact (Kd.V_reads' HO_0.out).2.1); (case side3 => exact uC (Kd.R_reads' HO1382.out).2.2); (case side4 => exact (Kd.R_reads' HO1382.out).2.1); rintro e w70 ⟨rfl, hb⟩; refine ⟨_, rfl, ?_⟩; replace HO_0 := Aside0.mk (Kd.V_below (uV HO_0.out) hb); replace HO_1362001 := Aside0.mk (Kd.V_below (uV HO_1362001.out) hb); replace HO1382 := Aside0.mk (Kd.R_below (uR HO1382.out) hb); replace BK1361 := ux BK1361 hb; replace BK1362 := ux BK1362 hb; replace HB := uy hb; (try clear hb); have hcz71_0 : w70.cell? ⟨gb1362, 0, none⟩ = some (.int .i64 a2_0) := (blk_cell BK1362.out 0).trans rfl; have hcz71_1 : w70.cell? ⟨gb1362, 1, none⟩ = some (.int .i64 a2_1) := (blk_cell BK1362.out 1).trans rfl; have hcz71_2 : w70.cell? ⟨gb1362, 2, none⟩ = some (.int .i64 a2_2) := (blk_cell BK1362.out 2).trans rfl; have hfz71_0 := blk_frozen BK1362.out 0; have hfz71_1 := blk_frozen BK1362.out 1; have hfz71_2 := blk_frozen BK1362.out 2))
       go_ret
       exact ⟨uF, uB⟩
      rw [if_neg c58] at H
      have c58b0 : (t1385 == 0) = false := beq_eq_false_iff_ne.mpr c58
      have c58b1 : (t1385 != 0) = true := bne_iff_ne.mpr c58
      obtain rfl := Option.some.inj H
      have hnb72 := NB1362_1361.out
      have hnc72 := NB1361_1362.out
      have hcz73_0 : wc.cell? ⟨gb1362, 0, none⟩ = some (.int .i64 a2_0) := (blk_cell BK1362.out 0).trans rfl; have hcz73_1 : wc.cell? ⟨gb1362, 1, none⟩ = some (.int .i64 a2_1) := (blk_cell BK1362.out 1).trans rfl; have hcz73_2 : wc.cell? ⟨gb1362, 2, none⟩ = some (.int .i64 a2_2) := (blk_cell BK1362.out 2).trans rfl; have hfz73_0 := blk_frozen BK1362.out 0; have hfz73_1 := blk_frozen BK1362.out 1; have hfz73_2 := blk_frozen BK1362.out 2
      go_wp2_with (first | ((with_reducible refine gate_callee (f := 29) rfl ?_); refine goesL_ (some 58) rfl rfl Try.func29 (by kernel_rfl) rfl #[.slice A0 l0.length c0, .int .i64 (Go.bits .and .i64 a2_2 63), .int .i64 a2_0, .int .i64 a2_1] rfl uM ?_; (with_reducible refine (fixenc_Pack.calls kj7 _ _ l0 (Go.bits .and .i64 a2_2 63) a2_0 a2_1 t1379 t1380 _ ?side1 ?side2 A54.out).mono ?_); (case side1 => exact uC (Kd.V_reads' HO_0.out).2.2); (case side2 => exact (Kd.V_reads' HO_0.out).2.1); rintro e w74 ⟨v1381, rfl, ho0, hb⟩; refine ⟨_, rfl, ?_⟩; replace HO_0 := ueV HO_0 ho0 hb; replace HO_1362001 := ueV HO_1362001 ho0 hb; have HO1382 := Aside0.mk (Kd.R_lower (Kd.R_newM (M := fun k_ => (w.heap.size ≤ k_)) ho0 (below_size uB) (fun k_ h_ => h_)) (below_size uB)); replace BK1361 := ux BK1361 hb; replace BK1362 := ux BK1362 hb; replace HB := uy hb; (try clear hb ho0); obtain ⟨Ao75, co75, eo75⟩ := Kd.R_slice HO1382.out; subst eo75) | ((with_reducible refine gate_callee (f := 33) rfl ?_); refine goesL_ (some 68) rfl rfl Try.func33 (by kernel_rfl) rfl #[.slice A0 l0.length c0, .int .i64 (Go.bits .and .i64 a2_2 63), .slice Ao75 t1379.length co75] rfl uM ?_; (with_reducible refine (fixenc_Unpack.calls kj7 _ _ l0 (Go.bits .and .i64 a2_2 63) _ _ t1379 t1383 t1384 t1385 _ ?side1 ?side2 ?side3 ?side4 A56.out).mono ?_); (case side1 => exact uC (Kd.V_reads' HO_0.out).2.2); (case side2 => exact (Kd.V_reads' HO_0.out).2.1); (case side3 => exact uC (Kd.R_reads' HO1382.out).2.2); (case side4 => exact (Kd.R_reads' HO1382.out).2.1); rintro e w76 ⟨rfl, hb⟩; refine ⟨_, rfl, ?_⟩; replace HO_0 := Aside0.mk (Kd.V_below (uV HO_0.out) hb); replace HO_1362001 := Aside0.mk (Kd.V_below (uV HO_1362001.out) hb); replace HO1382 := Aside0.mk (Kd.R_below (uR HO1382.out) hb); replace BK1361 := ux BK1361 hb; replace BK1362 := ux BK1362 hb; replace HB := uy hb; (try clear hb)))
      go_ret
      exact ⟨uF, uB⟩
     replace c57 := Bool.eq_false_iff.mpr c57
     subst c57
     have H1 : (some false) = some r := by rw [if_neg (show ¬ (false = true) by decide)] at H; exact H
     clear H; have H := H1; clear H1
     obtain rfl := Option.some.inj H
     have hnb77 := NB1362_1361.out
     have hnc77 := NB1361_1362.out
     have hcz78_0 : wc.cell? ⟨gb1362, 0, none⟩ = some (.int .i64 a2_0) := (blk_cell BK1362.out 0).trans rfl; have hcz78_1 : wc.cell? ⟨gb1362, 1, none⟩ = some (.int .i64 a2_1) := (blk_cell BK1362.out 1).trans rfl; have hcz78_2 : wc.cell? ⟨gb1362, 2, none⟩ = some (.int .i64 a2_2) := (blk_cell BK1362.out 2).trans rfl; have hfz78_0 := blk_frozen BK1362.out 0; have hfz78_1 := blk_frozen BK1362.out 1; have hfz78_2 := blk_frozen BK1362.out 2
     go_wp2_with (first | ((with_reducible refine gate_callee (f := 29) rfl ?_); refine goesL_ (some 58) rfl rfl Try.func29 (by kernel_rfl) rfl #[.slice A0 l0.length c0, .int .i64 (Go.bits .and .i64 a2_2 63), .int .i64 a2_0, .int .i64 a2_1] rfl uM ?_; (with_reducible refine (fixenc_Pack.calls kj7 _ _ l0 (Go.bits .and .i64 a2_2 63) a2_0 a2_1 t1379 t1380 _ ?side1 ?side2 A54.out).mono ?_); (case side1 => exact uC (Kd.V_reads' HO_0.out).2.2); (case side2 => exact (Kd.V_reads' HO_0.out).2.1); rintro e w79 ⟨v1381, rfl, ho0, hb⟩; refine ⟨_, rfl, ?_⟩; replace HO_0 := ueV HO_0 ho0 hb; replace HO_1362001 := ueV HO_1362001 ho0 hb; have HO1382 := Aside0.mk (Kd.R_lower (Kd.R_newM (M := fun k_ => (w.heap.size ≤ k_)) ho0 (below_size uB) (fun k_ h_ => h_)) (below_size uB)); replace BK1361 := ux BK1361 hb; replace BK1362 := ux BK1362 hb; replace HB := uy hb; (try clear hb ho0); obtain ⟨Ao80, co80, eo80⟩ := Kd.R_slice HO1382.out; subst eo80) | ((with_reducible refine gate_callee (f := 33) rfl ?_); refine goesL_ (some 68) rfl rfl Try.func33 (by kernel_rfl) rfl #[.slice A0 l0.length c0, .int .i64 (Go.bits .and .i64 a2_2 63), .slice Ao80 t1379.length co80] rfl uM ?_; (with_reducible refine (fixenc_Unpack.calls kj7 _ _ l0 (Go.bits .and .i64 a2_2 63) _ _ t1379 t1383 t1384 t1385 _ ?side1 ?side2 ?side3 ?side4 A56.out).mono ?_); (case side1 => exact uC (Kd.V_reads' HO_0.out).2.2); (case side2 => exact (Kd.V_reads' HO_0.out).2.1); (case side3 => exact uC (Kd.R_reads' HO1382.out).2.2); (case side4 => exact (Kd.R_reads' HO1382.out).2.1); rintro e w81 ⟨rfl, hb⟩; refine ⟨_, rfl, ?_⟩; replace HO_0 := Aside0.mk (Kd.V_below (uV HO_0.out) hb); replace HO_1362001 := Aside0.mk (Kd.V_below (uV HO_1362001.out) hb); replace HO1382 := Aside0.mk (Kd.R_below (uR HO1382.out) hb); replace BK1361 := ux BK1361 hb; replace BK1362 := ux BK1362 hb; replace HB := uy hb; (try clear hb)))
     go_ret
     exact ⟨uF, uB⟩
    rw [if_neg c55] at H
    have c55b0 : (t1380 == 0) = false := beq_eq_false_iff_ne.mpr c55
    have c55b1 : (t1380 != 0) = true := bne_iff_ne.mpr c55
    obtain rfl := Option.some.inj H
    have hnb82 := NB1362_1361.out
    have hnc82 := NB1361_1362.out
    have hcz83_0 : wc.cell? ⟨gb1362, 0, none⟩ = some (.int .i64 a2_0) := (blk_cell BK1362.out 0).trans rfl; have hcz83_1 : wc.cell? ⟨gb1362, 1, none⟩ = some (.int .i64 a2_1) := (blk_cell BK1362.out 1).trans rfl; have hcz83_2 : wc.cell? ⟨gb1362, 2, none⟩ = some (.int .i64 a2_2) := (blk_cell BK1362.out 2).trans rfl; have hfz83_0 := blk_frozen BK1362.out 0; have hfz83_1 := blk_frozen BK1362.out 1; have hfz83_2 := blk_frozen BK1362.out 2
    go_wp2_with (first | ((with_reducible refine gate_callee (f := 29) rfl ?_); refine goesL_ (some 58) rfl rfl Try.func29 (by kernel_rfl) rfl #[.slice A0 l0.length c0, .int .i64 (Go.bits .and .i64 a2_2 63), .int .i64 a2_0, .int .i64 a2_1] rfl uM ?_; (with_reducible refine (fixenc_Pack.calls kj7 _ _ l0 (Go.bits .and .i64 a2_2 63) a2_0 a2_1 t1379 t1380 _ ?side1 ?side2 A54.out).mono ?_); (case side1 => exact uC (Kd.V_reads' HO_0.out).2.2); (case side2 => exact (Kd.V_reads' HO_0.out).2.1); rintro e w84 ⟨v1381, rfl, ho0, hb⟩; refine ⟨_, rfl, ?_⟩; replace HO_0 := ueV HO_0 ho0 hb; replace HO_1362001 := ueV HO_1362001 ho0 hb; have HO1382 := Aside0.mk (Kd.R_lower (Kd.R_newM (M := fun k_ => (w.heap.size ≤ k_)) ho0 (below_size uB) (fun k_ h_ => h_)) (below_size uB)); replace BK1361 := ux BK1361 hb; replace BK1362 := ux BK1362 hb; replace HB := uy hb; (try clear hb ho0)))
    go_ret
    exact ⟨uF, uB⟩
 replace c5 := Bool.eq_false_iff.mpr c5
 subst c5
 have H1 : (some true) = some r := by rw [if_neg (show ¬ (false = true) by decide)] at H; exact H
 clear H; have H := H1; clear H1
 obtain rfl := Option.some.inj H
 go_enter Try.func13, Try.ntmps13
 go_wp2_with (first | ((with_reducible refine gate_dst (N := 4) rfl ?_); refine box_event ?hg (N := 4) ?hd (cs := #[.bool a1_0, .slice A1_1 l1_1.length c1_1]) (t := 52) ?hr ?_; (case hd => rfl); (case hg => rfl); (case hr => first | (go_simp; done) | (go_simp; rfl)); intro gb1361 hg w85 hbox hb; replace HO0 := Aside0.mk (Kd.V_below (Kd.V_elderB (uV HO0.out) gb1361 (Nat.le_of_eq hg.symm)) hb); replace HO1_1 := Aside0.mk (Kd.V_below (Kd.V_elderB (uV HO1_1.out) gb1361 (Nat.le_of_eq hg.symm)) hb); have BK1361 := Aside0.mk (hbox); have GW1361 := us hg; have GE1361 := us hg; replace HB := uy hb; clear hb hbox hg) | ((with_reducible refine gate_dst (N := 5) rfl ?_); refine box_event ?hg (N := 5) ?hd (cs := #[.int .i64 a2_0, .int .i64 a2_1, .int .i64 a2_2]) (t := 44) ?hr ?_; (case hd => rfl); (case hg => rfl); (case hr => first | (go_simp; done) | (go_simp; rfl)); intro gb1362 hg w86 hbox hb; replace HO0 := Aside0.mk (Kd.V_below (Kd.V_elderB (uV HO0.out) gb1362 (Nat.le_of_eq hg.symm)) hb); replace HO1_1 := Aside0.mk (Kd.V_below (Kd.V_elderB (uV HO1_1.out) gb1362 (Nat.le_of_eq hg.symm)) hb); have BK1362 := Aside0.mk (hbox); have GW1362 := us hg; have GE1362 := us hg; replace HB := uy hb; have NB1361_1362 := Aside0.mk ((by rw [hg]; exact Nat.ne_of_lt (blk_lt (uK BK1361.out)) : gb1361 ≠ gb1362)); have NB1362_1361 := Aside0.mk ((by rw [hg]; exact Nat.ne_of_gt (blk_lt (uK BK1361.out)) : gb1362 ≠ gb1361)); replace BK1361 := ux BK1361 hb; clear hb hbox hg; have hnb87 := NB1361_1362.out; have hnc87 := NB1362_1361.out; have hcz88_0 : w86.cell? ⟨gb1361, 0, none⟩ = some (.bool a1_0) := (blk_cell BK1361.out 0).trans rfl; have hcz88_1 : w86.cell? ⟨gb1361, 1, none⟩ = some (.slice A1_1 l1_1.length c1_1) := (blk_cell BK1361.out 1).trans rfl; have hfz88_0 := blk_frozen BK1361.out 0; have hfz88_1 := blk_frozen BK1361.out 1) | ((with_reducible refine gate_dst (N := 21) rfl ?_); refine Kd.N_lit (Kd.slice 27 (Kd.int .u64)) _ 23 ?hg (N' := 21) ?hd (xs := ([l0, l1_1] : List (List Int))) (inner := [.slice A0 l0.length c0, .slice A1_1 l1_1.length c1_1]) (ok := (fun k_ => ((P0_ k_ ∨ P1_1_ k_) ∨ w.heap.size ≤ k_) ∧ k_ ≠ gb1361 ∧ k_ ≠ gb1362)) (okp := (fun k_ => ((P0_ k_ ∨ P1_1_ k_) ∨ w.heap.size ≤ k_) ∧ k_ ≠ gb1361 ∧ k_ ≠ gb1362)) ?hr ?hp (fun _ hk => hk) ((show ∀ k_, w86.heap.size ≤ k_ → (fun k_ => ((P0_ k_ ∨ P1_1_ k_) ∨ w.heap.size ≤ k_) ∧ k_ ≠ gb1361 ∧ k_ ≠ gb1362) k_ from fun k_ hk => ⟨(.inr (Nat.le_trans (below_size uB) hk)), Kd.freshB (g := gb1361) (o := .cells #[.bool a1_0, .slice A1_1 l1_1.length c1_1] 52 (0, 0)) (uK BK1361.out) k_ hk, Kd.freshB (g := gb1362) (o := .cells #[.int .i64 a2_0, .int .i64 a2_1, .int .i64 a2_2] 44 (0, 0)) (uK BK1362.out) k_ hk⟩) _ (Nat.le_refl _)) (Below.refl _ _) (Nat.le_refl _) (by simp) ?_; (case hd => rfl); (case hg => rfl); (case hr => first | (go_simp; done) | (go_simp; rfl) | (go_simp; simp only [u64_u8]; done) | (go_simp; simp only [u64_u8]; rfl)); (case hp => exact (Reps.one (show Kd.FK (Kd.slice 27 (Kd.int .u64)) _ _ l0 [.slice A0 l0.length c0] from (Kd.FK_slice_mk (Kd.V_reads' (Kd.V_mono (ok' := (fun k_ => ((P0_ k_ ∨ P1_1_ k_) ∨ w.heap.size ≤ k_) ∧ k_ ≠ gb1361 ∧ k_ ≠ gb1362)) (HO0.out) (fun k_ hk => ⟨hk.1.1, ⟨hk.1.2, hk.2⟩⟩))).2.1 (Kd.V_F (Kd.V_mono (ok' := (fun k_ => ((P0_ k_ ∨ P1_1_ k_) ∨ w.heap.size ≤ k_) ∧ k_ ≠ gb1361 ∧ k_ ≠ gb1362)) (HO0.out) (fun k_ hk => ⟨hk.1.1, ⟨hk.1.2, hk.2⟩⟩))))) (Reps.one (show Kd.FK (Kd.slice 27 (Kd.int .u64)) _ _ l1_1 [.slice A1_1 l1_1.length c1_1] from (Kd.FK_slice_mk (Kd.V_reads' (Kd.V_mono (ok' := (fun k_ => ((P0_ k_ ∨ P1_1_ k_) ∨ w.heap.size ≤ k_) ∧ k_ ≠ gb1361 ∧ k_ ≠ gb1362)) (HO1_1.out) (fun k_ hk => ⟨hk.1.1, ⟨hk.1.2, hk.2⟩⟩))).2.1 (Kd.V_F (Kd.V_mono (ok' := (fun k_ => ((P0_ k_ ∨ P1_1_ k_) ∨ w.heap.size ≤ k_) ∧ k_ ≠ gb1361 ∧ k_ ≠ gb1362)) (HO1_1.out) (fun k_ hk => ⟨hk.1.1, ⟨hk.1.2, hk.2⟩⟩))))) (Reps.none _ _)))); intro v1364 w89 ho90 hb hg_ hnew_; clear hg_ hnew_; (first | rw [← Ny1363.out] at ho90 | (simp only [Int.reduceToNat] at ho90; rw [← Ny1363.out] at ho90)); replace HO0 := Aside0.mk (Kd.V_elder' (uV HO0.out) (Kd.N_base ho90) hb); replace HO1_1 := Aside0.mk (Kd.V_elder' (uV HO1_1.out) (Kd.N_base ho90) hb); have HO1365 := Aside0.mk (Kd.N_lower ho90 (below_size uB)); replace BK1361 := ux BK1361 hb; replace BK1362 := ux BK1362 hb; replace HB := uy hb; clear hb ho90; obtain ⟨Ao91, co91, eo91⟩ := Kd.N_slice HO1365.out; subst eo91) | ((with_reducible refine gate_callee (f := 27) rfl ?_); refine goesL_ (some 22) rfl rfl Try.func27 (by kernel_rfl) rfl #[.slice Ao91 y1363.length co91] rfl uM ?_; (with_reducible refine (windbreaklaw07_few.calls k _ _ y1363 false _ ?side1 ?side2 A4.out).mono ?_); (case side1 => exact uC (Kd.N_reads' HO1365.out).2.2); (case side2 => exact (Kd.N_reads' HO1365.out).2.1); rintro e w' ⟨rfl, ⟨nd, rfl⟩⟩; refine ⟨_, rfl, ?_⟩))
 go_ret
 exact ⟨uF, uB⟩
def windbreaklaw07_FixencBack.Pure : Prop := ∀ (l0 : List Int) (a1_0 : Bool) (l1_1 : List Int) (a2_0 : Int) (a2_1 : Int) (a2_2 : Int), l0.length ≤ maxLen → l0.length * 8 ≤ 140737488351232 → (∀ x ∈ l0, (Lit.int .u64 x).wf = true) → l1_1.length ≤ maxLen → (∀ x ∈ l1_1, (Lit.int .u64 x).wf = true) → (Lit.int .i64 a2_0).wf = true → (Lit.int .i64 a2_1).wf = true → (Lit.int .i64 a2_2).wf = true → ∃ k, windbreaklaw07_FixencBack.f k l0 a1_0 l1_1 a2_0 a2_1 a2_2 = some true
theorem windbreaklaw07_FixencBack.walk (P : windbreaklaw07_FixencBack.Pure) (a0 : Option Addr) (len0 cap0 : Nat) (z0 : List Int) (a1_0 : Bool) (a1_1 : Option Addr) (len1_1 cap1_1 : Nat) (z1_1 : List Int) (a2_0 : Int) (a2_1 : Int) (a2_2 : Int) (w : World) (w0 : (a0 = none ∧ len0 = 0 ∧ cap0 = 0 ∧ z0 = []) ∨ ∃ x, a0 = some x ∧ len0 ≤ cap0 ∧ cap0 ≤ maxLen ∧ z0.length = cap0 ∧ (∀ i, i < z0.length → w.cell? (x.add i) = some (.int .u64 (z0.getD i 0))) ∧ ∀ n ∈ z0, (Lit.int .u64 n).wf = true) (y0 : len0 * 8 ≤ 140737488351232) (w1_1 : (a1_1 = none ∧ len1_1 = 0 ∧ cap1_1 = 0 ∧ z1_1 = []) ∨ ∃ x, a1_1 = some x ∧ len1_1 ≤ cap1_1 ∧ cap1_1 ≤ maxLen ∧ z1_1.length = cap1_1 ∧ (∀ i, i < z1_1.length → w.cell? (x.add i) = some (.int .u64 (z1_1.getD i 0))) ∧ ∀ n ∈ z1_1, (Lit.int .u64 n).wf = true) (w2_0 : (Lit.int .i64 a2_0).wf = true) (w2_1 : (Lit.int .i64 a2_1).wf = true) (w2_2 : (Lit.int .i64 a2_2).wf = true) :
  Calls Try.prog 13 #[.slice a0 len0 cap0, .agg #[.bool a1_0, .slice a1_1 len1_1 cap1_1], .agg #[.int .i64 a2_0, .int .i64 a2_1, .int .i64 a2_2]] w fun e w' => e = .returned (.bool true) ∧ Below w.heap.size w w' := by
 obtain ⟨l0, rfl, hr0, hm0, hw0, hc0⟩ := ReadsInt.ofRowC w0
 obtain ⟨l1_1, rfl, hr1_1, hm1_1, hw1_1, hc1_1⟩ := ReadsInt.ofRowC w1_1
 obtain ⟨k, h⟩ := P l0 a1_0 l1_1 a2_0 a2_1 a2_2 hm0 y0 hw0 hm1_1 hw1_1 w2_0 w2_1 w2_2
 refine (windbreaklaw07_FixencBack.calls k (fun k_ => k_ < w.heap.size) _ _ l0 a1_0 (fun k_ => k_ < w.heap.size) _ _ l1_1 a2_0 a2_1 a2_2 true w (Kd.V_mk hc0 (Kd.C_F (Kd.heap_int .u64) (Kd.C_of_reads (d := (0 : Int)) (h1 := fun _ => rfl) hr0))) (Kd.V_mk hc1_1 (Kd.C_F (Kd.heap_int .u64) (Kd.C_of_reads (d := (0 : Int)) (h1 := fun _ => rfl) hr1_1))) h).mono ?_
 rintro e w' ⟨rfl, hd⟩
 exact ⟨rfl, hd⟩
end Go.Proofs.Ytgeanpnkllnipab.F
end
section
namespace Go.Proofs.Ytgeanpnkllnipab.Z
open Go.RowKit Go.Proofs.YtgeanpnkllnipabW.PrintWords
set_option linter.unusedSimpArgs false
set_option linter.unusedVariables false
def Evt {α : Type} (g : Nat → Option α) (r : α) : Prop := ∃ n, ∀ k, n ≤ k → g k = some r
theorem Evt.of {α : Type} {g : Nat → Option α} {r : α} (h : ∀ k, g k = some r) : Evt g r := ⟨0, fun k _ => h k⟩
theorem Evt.pure {α : Type} (r : α) : Evt (fun _ => some r) r := ⟨0, fun _ _ => rfl⟩
theorem Evt.bind {α β : Type} {g : Nat → Option α} {h : α → Nat → Option β} {a : α} {b : β} (h1 : Evt g a) (h2 : Evt (h a) b) : Evt (fun k => (g k).bind fun x => h x k) b := by
  obtain ⟨n, hn⟩ := h1
  obtain ⟨m, hm⟩ := h2
  exact ⟨n + m, fun k hk => by simp only [hn k (by omega), Option.bind_some]; exact hm k (by omega)⟩
theorem Evt.succ {α : Type} {g : Nat → Option α} {r : α} (h : Evt (fun k => g (k + 1)) r) : Evt g r := by
  obtain ⟨n, hn⟩ := h
  refine ⟨n + 1, fun k hk => ?_⟩
  obtain ⟨m, rfl⟩ : ∃ m, k = m + 1 := ⟨k - 1, by omega⟩
  exact hn m (by omega)
theorem Evt.get {α : Type} {g : Nat → Option α} {r : α} (h : Evt g r) : ∃ k, g k = some r := by
  obtain ⟨n, hn⟩ := h
  exact ⟨n, hn n (Nat.le_refl _)⟩
theorem Evt.congr {α : Type} {g g' : Nat → Option α} {r r' : α} (h : Evt g r) (hg : ∀ k, g' k = g k) (hr : r = r') : Evt g' r' := by
  subst hr
  obtain ⟨n, hn⟩ := h
  exact ⟨n, fun k hk => (hg k).trans (hn k hk)⟩
theorem Evt.ite_pos {α : Type} {c : Prop} [Decidable c] {g h : Nat → Option α} {r : α} (hc : c) (hg : Evt g r) : Evt (fun k => if c then g k else h k) r := by
  obtain ⟨n, hn⟩ := hg
  exact ⟨n, fun k hk => (if_pos hc).trans (hn k hk)⟩
theorem Evt.ite_neg {α : Type} {c : Prop} [Decidable c] {g h : Nat → Option α} {r : α} (hc : ¬ c) (hg : Evt h r) : Evt (fun k => if c then g k else h k) r := by
  obtain ⟨n, hn⟩ := hg
  exact ⟨n, fun k hk => (if_neg hc).trans (hn k hk)⟩
theorem Evt.cond {α : Type} {c : Prop} [Decidable c] {g h : Nat → Option α} {r s : α} (hg : c → Evt g r) (hh : ¬ c → Evt h s) : Evt (fun k => if c then g k else h k) (if c then r else s) := by
  by_cases hc : c
  · rw [if_pos hc]; exact Evt.ite_pos hc (hg hc)
  · rw [if_neg hc]; exact Evt.ite_neg hc (hh hc)
theorem Evt.cond' {α : Type} {c : Prop} [Decidable c] {g h : Nat → Option α} {r : α} (hg : c → Evt g r) (hh : ¬ c → Evt h r) : Evt (fun k => if c then g k else h k) r := by
  by_cases hc : c
  · exact Evt.ite_pos hc (hg hc)
  · exact Evt.ite_neg hc (hh hc)
theorem w64 {x : Int} (h0 : -9223372036854775808 ≤ x) (h1 : x < 9223372036854775808) : wrap64 x = x := by unfold wrap64; omega
theorem wu64 (x : Int) : IntKind.u64.wrap x = x % 18446744073709551616 := by simp [IntKind.wrap, IntKind.bits, IntKind.signed]
theorem wu64_of {x : Int} (h0 : 0 ≤ x) (h1 : x < 18446744073709551616) : IntKind.u64.wrap x = x := by rw [wu64]; omega
theorem wf_u64 {x : Int} (h : (Lit.int .u64 x).wf = true) : 0 ≤ x ∧ x < 18446744073709551616 := by
  simp [Lit.wf, IntKind.min, IntKind.max, IntKind.bits, IntKind.signed] at h
  omega
theorem wf_i64 {x : Int} (h : (Lit.int .i64 x).wf = true) : -9223372036854775808 ≤ x ∧ x < 9223372036854775808 := by
  simp [Lit.wf, IntKind.min, IntKind.max, IntKind.bits, IntKind.signed] at h
  omega
theorem rd_getD (l : List Int) (i : Int) : rd l i = l.getD i.toNat 0 := rfl
theorem rd_nat (l : List Int) (i : Nat) : rd l (i : Int) = l.getD i 0 := rfl
def val (B : Int) : List Int → Int
  | [] => 0
  | d :: l => d + B * val B l
def Dig (B : Int) (l : List Int) : Prop := ∀ x, x ∈ l → 0 ≤ x ∧ x < B
def Can (l : List Int) : Prop := ∀ h : l ≠ [], l.getLast h ≠ 0
def strip : List Int → List Int
  | [] => []
  | d :: l => if strip l = [] then (if d = 0 then [] else [d]) else d :: strip l
theorem Dig.nil {B : Int} : Dig B [] := fun _ h => by simp at h
theorem Dig.cons {B d : Int} {l : List Int} : Dig B (d :: l) ↔ (0 ≤ d ∧ d < B) ∧ Dig B l := by
  unfold Dig
  simp
theorem Dig.append {B : Int} {l m : List Int} : Dig B (l ++ m) ↔ Dig B l ∧ Dig B m := by
  unfold Dig
  constructor
  · intro h
    exact ⟨fun x hx => h x (by simp [hx]), fun x hx => h x (by simp [hx])⟩
  · intro h x hx
    rcases List.mem_append.1 hx with hx | hx
    · exact h.1 x hx
    · exact h.2 x hx
theorem Dig.take {B : Int} {l : List Int} (h : Dig B l) (n : Nat) : Dig B (l.take n) := fun x hx => h x (List.mem_of_mem_take hx)
theorem Dig.drop {B : Int} {l : List Int} (h : Dig B l) (n : Nat) : Dig B (l.drop n) := fun x hx => h x (List.mem_of_mem_drop hx)
theorem Dig.getD {B : Int} {l : List Int} (h : Dig B l) (hB : 0 < B) (i : Nat) : 0 ≤ l.getD i 0 ∧ l.getD i 0 < B := by
  rw [List.getD_eq_getElem?_getD]
  cases he : l[i]? with
  | none => simp; omega
  | some x => simpa using h x (List.mem_of_getElem? he)
theorem Dig.set {B : Int} {l : List Int} (h : Dig B l) (i : Nat) {v : Int} (hv : 0 ≤ v ∧ v < B) : Dig B (l.set i v) := by
  intro x hx
  rcases List.mem_or_eq_of_mem_set hx with hx | rfl
  · exact h x hx
  · exact hv
theorem Dig.replicate {B : Int} (hB : 0 < B) (n : Nat) : Dig B (List.replicate n 0) := by
  intro x hx
  have := List.eq_of_mem_replicate hx
  omega
theorem val_append (B : Int) (l m : List Int) : val B (l ++ m) = val B l + B ^ l.length * val B m := by
  induction l with
  | nil => simp [val]
  | cons d l ih => simp only [List.cons_append, val, ih, List.length_cons, Int.pow_succ]; grind
theorem val_replicate (B : Int) (n : Nat) : val B (List.replicate n 0) = 0 := by
  induction n with
  | zero => rfl
  | succ n ih => simp [List.replicate_succ, val, ih]
theorem val_nonneg {B : Int} (hB : 0 < B) {l : List Int} (h : Dig B l) : 0 ≤ val B l := by
  induction l with
  | nil => simp [val]
  | cons d l ih =>
    have h' := Dig.cons.1 h
    have h1 := ih h'.2
    have : 0 ≤ B * val B l := Int.mul_nonneg (by omega) h1
    simp only [val]
    omega
theorem val_lt {B : Int} (hB : 0 < B) {l : List Int} (h : Dig B l) : val B l < B ^ l.length := by
  induction l with
  | nil => simp [val]
  | cons d l ih =>
    have h' := Dig.cons.1 h
    have h1 := ih h'.2
    have h2 : B * val B l ≤ B * (B ^ l.length - 1) := Int.mul_le_mul_of_nonneg_left (by omega) (by omega)
    have h3 : B * (B ^ l.length - 1) = B * B ^ l.length - B := by grind
    simp only [val, List.length_cons, Int.pow_succ]
    have h4 : B ^ l.length * B = B * B ^ l.length := Int.mul_comm _ _
    omega
theorem Can.nil : Can [] := fun h => absurd rfl h
theorem Can.tail {d : Int} {l : List Int} (h : Can (d :: l)) : Can l := by
  intro hl
  have := h (by simp)
  rwa [List.getLast_cons hl] at this
theorem Can.one {d : Int} (h : d ≠ 0) : Can [d] := fun _ => by simpa using h
theorem Can.cons {d : Int} {l : List Int} (h : Can l) (hl : l ≠ []) : Can (d :: l) := by
  intro _
  rw [List.getLast_cons hl]
  exact h hl
theorem val_pos {B : Int} (hB : 0 < B) {l : List Int} (h : Dig B l) (hc : Can l) (hl : l ≠ []) : B ^ (l.length - 1) ≤ val B l := by
  induction l with
  | nil => exact absurd rfl hl
  | cons d l ih =>
    have h' := Dig.cons.1 h
    by_cases e : l = []
    · subst e
      have := hc (by simp)
      simp [val] at this ⊢
      omega
    · have h1 := ih h'.2 hc.tail e
      have h2 : l.length - 1 + 1 = l.length := by have := List.length_pos_iff.2 e; omega
      simp only [val, List.length_cons, Nat.add_sub_cancel]
      rw [← h2, Int.pow_succ, Int.mul_comm]
      have : B * B ^ (l.length - 1) ≤ B * val B l := Int.mul_le_mul_of_nonneg_left h1 (by omega)
      omega
theorem val_zero {B : Int} (hB : 0 < B) {l : List Int} (h : Dig B l) (hc : Can l) (h0 : val B l = 0) : l = [] := by
  by_cases e : l = []
  · exact e
  · have := val_pos hB h hc e
    have h2 : 0 < B ^ (l.length - 1) := Int.pow_pos hB
    omega
theorem val_inj {B : Int} (hB : 0 < B) {l m : List Int} (hl : Dig B l) (hm : Dig B m) (cl : Can l) (cm : Can m) (h : val B l = val B m) : l = m := by
  induction l generalizing m with
  | nil => exact (val_zero hB hm cm h.symm).symm
  | cons d l ih =>
    cases m with
    | nil => exact val_zero hB hl cl h
    | cons e m =>
      have h1 := Dig.cons.1 hl
      have h2 := Dig.cons.1 hm
      simp only [val] at h
      have h3 : d = e := by
        have a1 : (d + B * val B l) % B = d := by rw [Int.add_mul_emod_self_left]; exact Int.emod_eq_of_lt h1.1.1 h1.1.2
        have a2 : (e + B * val B m) % B = e := by rw [Int.add_mul_emod_self_left]; exact Int.emod_eq_of_lt h2.1.1 h2.1.2
        rw [← a1, ← a2, h]
      subst h3
      have h4 : val B l = val B m := by
        have : B * val B l = B * val B m := by omega
        exact Int.eq_of_mul_eq_mul_left (by omega) this
      rw [ih h1.2 h2.2 cl.tail cm.tail h4]
theorem strip_val (B : Int) (l : List Int) : val B (strip l) = val B l := by
  induction l with
  | nil => rfl
  | cons d l ih =>
    simp only [strip]
    split
    · rename_i h
      rw [h] at ih
      simp only [val] at ih
      split
      · rename_i h0; simp [val, ← ih, h0]
      · simp [val, ← ih]
    · simp [val, ih]
theorem strip_can (l : List Int) : Can (strip l) := by
  induction l with
  | nil => exact Can.nil
  | cons d l ih =>
    simp only [strip]
    split
    · split
      · exact Can.nil
      · rename_i h; exact Can.one h
    · rename_i h; exact ih.cons h
theorem strip_dig {B : Int} {l : List Int} (h : Dig B l) : Dig B (strip l) := by
  induction l with
  | nil => exact Dig.nil
  | cons d l ih =>
    have h' := Dig.cons.1 h
    simp only [strip]
    split
    · split
      · exact Dig.nil
      · exact Dig.cons.2 ⟨h'.1, Dig.nil⟩
    · exact Dig.cons.2 ⟨h'.1, ih h'.2⟩
theorem strip_length (l : List Int) : (strip l).length ≤ l.length := by
  induction l with
  | nil => simp [strip]
  | cons d l ih =>
    simp only [strip]
    split
    · split <;> simp
    · simp; omega
theorem strip_of_can {l : List Int} (h : Can l) : strip l = l := by
  induction l with
  | nil => rfl
  | cons d l ih =>
    simp only [strip]
    rw [ih h.tail]
    split
    · rename_i e
      subst e
      have := h (by simp)
      simp at this
      simp [this]
    · rfl
theorem strip_snoc_zero (l : List Int) : strip (l ++ [0]) = strip l := by
  induction l with
  | nil => simp [strip]
  | cons d l ih => simp only [List.cons_append, strip, ih]
theorem strip_snoc {l : List Int} {d : Int} (h : d ≠ 0) : strip (l ++ [d]) = l ++ [d] := by
  apply strip_of_can
  intro hl
  simpa using h
theorem pow_mono {B : Int} (hB : 0 < B) {m n : Nat} (h : m ≤ n) : B ^ m ≤ B ^ n := by
  induction n with
  | zero => have : m = 0 := by omega
            subst this
            exact Int.le_refl _
  | succ n ih =>
    by_cases e : m = n + 1
    · subst e
      exact Int.le_refl _
    · have h1 := ih (by omega)
      have h2 : 0 < B ^ n := Int.pow_pos hB
      have h3 : 1 * B ^ n ≤ B * B ^ n := Int.mul_le_mul_of_nonneg_right (by omega) (by omega)
      rw [Int.pow_succ, Int.mul_comm]
      omega
theorem val_lt_of_length {B : Int} (hB : 0 < B) {l m : List Int} (hl : Dig B l) (hm : Dig B m) (cm : Can m) (h : l.length < m.length) : val B l < val B m := by
  have h1 := val_lt hB hl
  have h2 := val_pos hB hm cm (by intro e; subst e; simp at h)
  have h3 : B ^ l.length ≤ B ^ (m.length - 1) := pow_mono hB (by omega)
  omega
def rightB (l : List Int) : Bool := decide (l.length ≤ 64) && ((l.length == 0) || (l.getD (l.length - 1) 0 != 0))
theorem can_iff (l : List Int) : Can l ↔ ((l.length == 0) || (l.getD (l.length - 1) 0 != 0)) = true := by
  cases l with
  | nil => simp [Can]
  | cons d l =>
    have h : (d :: l).getLast (by simp) = (d :: l).getD ((d :: l).length - 1) 0 := by
      rw [List.getLast_eq_getElem]
      simp
    unfold Can
    simp only [List.length_cons, Nat.add_one_ne_zero, beq_iff_eq, Bool.or_eq_true, bne_iff_ne, false_or]
    constructor
    · intro hc
      have := hc (by simp)
      rw [h] at this
      exact this
    · intro hc _
      rw [h]
      exact hc
theorem rightB_iff (l : List Int) : rightB l = true ↔ l.length ≤ 64 ∧ Can l := by
  unfold rightB
  rw [Bool.and_eq_true, decide_eq_true_iff, ← can_iff]
def smallV (l : List Int) : Int × Bool := if rightB l = true ∧ l.length ≤ 1 then (l.getD 0 0, true) else (0, false)
def toD (B : Nat) (v : Nat) : List Int := if h : 2 ≤ B ∧ 0 < v then ((v % B : Nat) : Int) :: toD B (v / B) else []
termination_by v
decreasing_by exact Nat.div_lt_self h.2 (by omega)
theorem toD_zero (B : Nat) : toD B 0 = [] := by rw [toD]; simp
theorem toD_pos {B v : Nat} (hB : 2 ≤ B) (hv : 0 < v) : toD B v = ((v % B : Nat) : Int) :: toD B (v / B) := by rw [toD]; simp [hB, hv]
theorem toD_dig {B : Nat} (hB : 2 ≤ B) (v : Nat) : Dig (B : Int) (toD B v) := by
  induction v using Nat.strongRecOn with
  | _ v ih =>
    by_cases hv : v = 0
    · subst hv; rw [toD_zero]; exact Dig.nil
    · rw [toD_pos hB (by omega)]
      have := Nat.mod_lt v (show B > 0 by omega)
      exact Dig.cons.2 ⟨by omega, ih _ (Nat.div_lt_self (by omega) (by omega))⟩
theorem toD_eq_nil {B v : Nat} (hB : 2 ≤ B) : toD B v = [] ↔ v = 0 := by
  constructor
  · intro h
    by_cases hv : v = 0
    · exact hv
    · rw [toD_pos hB (by omega)] at h; cases h
  · rintro rfl; exact toD_zero B
theorem toD_can {B : Nat} (hB : 2 ≤ B) (v : Nat) : Can (toD B v) := by
  induction v using Nat.strongRecOn with
  | _ v ih =>
    by_cases hv : v = 0
    · subst hv; rw [toD_zero]; exact Can.nil
    · rw [toD_pos hB (by omega)]
      by_cases hq : v / B = 0
      · rw [hq, toD_zero]
        have hlt : v < B := (Nat.div_eq_zero_iff_lt (by omega)).1 hq
        rw [Nat.mod_eq_of_lt hlt]
        exact Can.one (by omega)
      · exact (ih _ (Nat.div_lt_self (by omega) (by omega))).cons (fun e => hq ((toD_eq_nil hB).1 e))
theorem val_toD {B : Nat} (hB : 2 ≤ B) (v : Nat) : val (B : Int) (toD B v) = (v : Int) := by
  induction v using Nat.strongRecOn with
  | _ v ih =>
    by_cases hv : v = 0
    · subst hv; rw [toD_zero]; rfl
    · rw [toD_pos hB (by omega)]
      simp only [val]
      rw [ih _ (Nat.div_lt_self (by omega) (by omega))]
      have h2 := Nat.mod_add_div v B
      have h3 : ((v % B + B * (v / B) : Nat) : Int) = (v : Int) := by rw [h2]
      simpa using h3
theorem strip_toD {B : Nat} (hB : 2 ≤ B) {l : List Int} (h : Dig (B : Int) l) : strip l = toD B (val (B : Int) l).toNat := by
  have h0 : (0 : Int) < (B : Int) := by omega
  refine val_inj h0 (strip_dig h) (toD_dig hB _) (strip_can l) (toD_can hB _) ?_
  rw [strip_val, val_toD hB]
  have := val_nonneg h0 h
  omega
theorem can_toD {B : Nat} (hB : 2 ≤ B) {l : List Int} (h : Dig (B : Int) l) (hc : Can l) : l = toD B (val (B : Int) l).toNat := by
  rw [← strip_toD hB h, strip_of_can hc]
theorem pow_cast (B n : Nat) : ((B : Int)) ^ n = ((B ^ n : Nat) : Int) := by simp
theorem toD_len_le {B : Nat} (hB : 2 ≤ B) {v n : Nat} (h : v < B ^ n) : (toD B v).length ≤ n := by
  by_cases hv : v = 0
  · subst hv; rw [toD_zero]; simp
  · have h1 := val_pos (show (0 : Int) < (B : Int) by omega) (toD_dig hB v) (toD_can hB v) (fun e => hv ((toD_eq_nil hB).1 e))
    rw [val_toD hB, pow_cast] at h1
    have h2 : B ^ ((toD B v).length - 1) ≤ v := by omega
    have h3 : B ^ ((toD B v).length - 1) < B ^ n := by omega
    have h4 := (Nat.pow_lt_pow_iff_right (show 1 < B by omega)).1 h3
    omega
theorem toD_lt_pow {B : Nat} (hB : 2 ≤ B) (v : Nat) : v < B ^ (toD B v).length := by
  have h1 := val_lt (show (0 : Int) < (B : Int) by omega) (toD_dig hB v)
  rw [val_toD hB, pow_cast] at h1
  omega
theorem toD_len_iff {B : Nat} (hB : 2 ≤ B) (v n : Nat) : (toD B v).length ≤ n ↔ v < B ^ n :=
  ⟨fun h => Nat.lt_of_lt_of_le (toD_lt_pow hB v) (Nat.pow_le_pow_right (by omega) h), toD_len_le hB⟩
def b64 : Nat := 18446744073709551616
theorem b64_two : 2 ≤ b64 := by decide
def num (l : List Int) : Nat := (val (b64 : Int) l).toNat
abbrev limbs (v : Nat) : List Int := toD b64 v
theorem b64_pos : (0 : Int) < (b64 : Int) := by decide
theorem num_val {l : List Int} (h : Dig (b64 : Int) l) : (num l : Int) = val (b64 : Int) l := by
  have := val_nonneg b64_pos h
  unfold num; omega
theorem num_limbs (v : Nat) : num (limbs v) = v := by unfold num limbs; rw [val_toD b64_two]; omega
theorem limbs_num {l : List Int} (h : Dig (b64 : Int) l) (hc : Can l) : limbs (num l) = l := (can_toD b64_two h hc).symm
theorem strip_limbs {l : List Int} (h : Dig (b64 : Int) l) : strip l = limbs (num l) := strip_toD b64_two h
theorem dig_of_wf {l : List Int} (h : ∀ x ∈ l, (Lit.int .u64 x).wf = true) : Dig (b64 : Int) l := fun x hx => wf_u64 (h x hx)
theorem num_lt {l : List Int} (h : Dig (b64 : Int) l) : num l < b64 ^ l.length := by
  have h1 := val_lt b64_pos h
  rw [← num_val h, pow_cast] at h1
  omega
theorem num_nil : num [] = 0 := rfl
theorem num_one {x : Int} (h : 0 ≤ x) : num [x] = x.toNat := by simp [num, val]
theorem num_cons {d : Int} {l : List Int} (h : Dig (b64 : Int) (d :: l)) : num (d :: l) = d.toNat + b64 * num l := by
  have h1 := Dig.cons.1 h
  have h2 := num_val h
  have h3 := num_val h1.2
  have h4 : ((d.toNat + b64 * num l : Nat) : Int) = d + (b64 : Int) * val (b64 : Int) l := by
    rw [← h3]; simp; omega
  have h5 : val (b64 : Int) (d :: l) = d + (b64 : Int) * val (b64 : Int) l := rfl
  omega
theorem b64_pow2 (m : Nat) : b64 ^ m = 2 ^ (64 * m) := by
  have h : b64 = 2 ^ 64 := by decide
  rw [h, ← Nat.pow_mul]
theorem pow2_le_b64 {n m : Nat} (h : n ≤ 64 * m) : 2 ^ n ≤ b64 ^ m := by
  rw [b64_pow2]
  exact Nat.pow_le_pow_right (by decide) h
theorem b64_le_pow2 {n m : Nat} (h : 64 * m ≤ n) : b64 ^ m ≤ 2 ^ n := by
  rw [b64_pow2]
  exact Nat.pow_le_pow_right (by decide) h
theorem num_lt_p {a : List Int} (da : Dig (b64 : Int) a) (ha : a.length ≤ 64) : num a < b64 ^ 64 := Nat.lt_of_lt_of_le (num_lt da) (Nat.pow_le_pow_right (show b64 > 0 by decide) ha)
def cmpN (x y : Nat) : Int := if x < y then -1 else if x = y then 0 else 1
def toldV (v : Nat) : List Int × Int := if v < b64 ^ 64 then (limbs v, 0) else ([], 4)
theorem limbs_long (v : Nat) : (limbs v).length ≤ 64 ↔ v < b64 ^ 64 := toD_len_iff b64_two v 64
def bl (n : Nat) : Nat := if n = 0 then 0 else n.log2 + 1
theorem bl_lt (n : Nat) : n < 2 ^ bl n := by
  unfold bl
  by_cases h : n = 0
  · subst h; decide
  · rw [if_neg h]; exact Nat.lt_log2_self
theorem bl_ge {n : Nat} (h : n ≠ 0) : 2 ^ (bl n - 1) ≤ n := by
  unfold bl
  rw [if_neg h, Nat.add_sub_cancel]
  exact Nat.log2_self_le h
theorem bl_pos {n : Nat} (h : n ≠ 0) : 0 < bl n := by unfold bl; rw [if_neg h]; omega
theorem bl_unique {n m : Nat} (h1 : n < 2 ^ m) (h2 : m = 0 ∨ 2 ^ (m - 1) ≤ n) : bl n = m := by
  by_cases h : n = 0
  · subst h
    rcases h2 with h2 | h2
    · rw [h2]; rfl
    · have := Nat.pow_pos (a := 2) (n := m - 1) (by decide)
      omega
  · have a1 := bl_lt n
    have a2 := bl_ge h
    have a3 := bl_pos h
    have hm : 0 < m := by
      by_cases e : m = 0
      · subst e; simp at h1; omega
      · omega
    have b1 : bl n - 1 < m := (Nat.pow_lt_pow_iff_right (a := 2) (by decide)).1 (by omega)
    have b2 : m - 1 < bl n := by
      rcases h2 with h2 | h2
      · omega
      · exact (Nat.pow_lt_pow_iff_right (a := 2) (by decide)).1 (by omega)
    omega
theorem bl_shift (n s : Nat) (h : n / 2 ^ s ≠ 0) : bl n = s + bl (n / 2 ^ s) := by
  have a1 := bl_lt (n / 2 ^ s)
  have a2 := bl_ge h
  have a3 := bl_pos h
  have hp : 0 < 2 ^ s := Nat.pow_pos (by decide)
  refine bl_unique ?_ (Or.inr ?_)
  · rw [Nat.pow_add]
    have := Nat.lt_mul_of_div_lt a1 hp
    rw [Nat.mul_comm]
    exact this
  · rw [show s + bl (n / 2 ^ s) - 1 = s + (bl (n / 2 ^ s) - 1) from by omega, Nat.pow_add]
    have := Nat.mul_le_mul_left (2 ^ s) a2
    exact Nat.le_trans this (Nat.mul_div_le n (2 ^ s))
theorem bl_le {x m : Nat} (h : x < 2 ^ m) : bl x ≤ m := by
  by_cases hx : x = 0
  · subst hx; exact Nat.zero_le _
  · have a2 := bl_ge hx
    have a3 := bl_pos hx
    have : bl x - 1 < m := (Nat.pow_lt_pow_iff_right (a := 2) (by decide)).1 (by omega)
    omega
theorem bl_le8 {x : Nat} (h : x < 256) : bl x ≤ 8 := bl_le h
end Go.Proofs.Ytgeanpnkllnipab.Z
end
section
namespace Go.Proofs.Ytgeanpnkllnipab.Z
open Go.RowKit Go.Proofs.Ytgeanpnkllnipab.F Go.Proofs.YtgeanpnkllnipabW.PrintWords
set_option linter.unusedSimpArgs false
set_option linter.unusedVariables false
theorem few7_loop (ls : List (List Int)) (h : ls.length ≤ maxLen) (d : Nat) : ∀ i : Nat, i ≤ ls.length → ls.length - i = d → Evt (fun k => windbreaklaw07_few.l0 k ls (i : Int)) ((ls.drop i).all fun a => decide (a.length ≤ 20)) := by
  unfold maxLen at h
  induction d with
  | zero =>
    intro i hi hd
    refine Evt.succ ?_
    simp only [windbreaklaw07_few.l0]
    refine Evt.ite_neg (by omega) ?_
    rw [show ls.drop i = [] from List.drop_of_length_le (by omega)]
    exact Evt.pure _
  | succ d ih =>
    intro i hi hd
    have hlt : i < ls.length := by omega
    refine Evt.succ ?_
    simp only [windbreaklaw07_few.l0]
    refine Evt.ite_pos (by omega) (Evt.ite_pos (by omega) ?_)
    have hx : rd_L1 ls (i : Int) = ls[i] := by simp [rd_L1, hlt]
    rw [hx, List.drop_eq_getElem_cons hlt, List.all_cons]
    by_cases h70 : ls[i].length ≤ 20
    · refine Evt.ite_neg (by omega) ?_
      rw [w64 (by omega) (by omega)]
      have := ih (i + 1) (by omega) (by omega)
      refine this.congr (fun k => rfl) ?_
      rw [decide_eq_true h70, Bool.true_and]
    · refine Evt.ite_pos (by omega) ?_
      rw [decide_eq_false h70, Bool.false_and]
      exact Evt.pure _
theorem few7_ev (ls : List (List Int)) (h : ls.length ≤ maxLen) : Evt (fun k => windbreaklaw07_few.f k ls) (ls.all fun a => decide (a.length ≤ 20)) := by
  have := few7_loop ls h ls.length 0 (Nat.zero_le _) (by omega)
  exact this.congr (fun k => rfl) (by simp)
theorem set_at {α : Type} (p : List α) (x v : α) (r : List α) : (p ++ x :: r).set p.length v = p ++ v :: r := by simp
theorem nat_Right_eq {l : List Int} (h : l.length ≤ maxLen) : nat_Right.f l = some (rightB l) := by
  unfold maxLen at h
  unfold nat_Right.f rightB
  by_cases h1 : l.length ≤ 64
  · rw [if_pos (by omega)]
    by_cases h2 : l.length = 0
    · rw [if_pos (by omega)]
      simp [h1, h2]
    · rw [if_neg (by omega), w64 (by omega) (by omega), if_pos (by omega), if_pos (by omega), rd_getD]
      rw [show ((l.length : Int) - 1).toNat = l.length - 1 from by omega]
      have h3 : (l.length == 0) = false := by simpa using h2
      rw [h3]
      simp [h1]
  · rw [if_neg (by omega)]
    simp [h1]
theorem nat_trim_loop (l : List Int) (h : l.length ≤ maxLen) : ∀ n : Nat, n ≤ l.length → Evt (fun k => nat_trim.l0 k l (n : Int)) (strip (l.take n)) := by
  unfold maxLen at h
  intro n
  induction n with
  | zero =>
    intro _
    refine Evt.succ ?_
    simp only [nat_trim.l0]
    refine Evt.ite_neg (by omega) (Evt.ite_pos (by omega) (Evt.ite_pos (by omega) ?_))
    simp [strip]
    exact Evt.pure _
  | succ n ih =>
    intro hn
    refine Evt.succ ?_
    simp only [nat_trim.l0]
    rw [w64 (by omega) (by omega), show ((n + 1 : Nat) : Int) - 1 = (n : Int) from by omega]
    refine Evt.ite_pos (by omega) (Evt.ite_pos (by omega) (Evt.ite_pos (by omega) ?_))
    rw [rd_nat, List.take_succ_eq_append_getElem (show n < l.length by omega)]
    have hg : l.getD n 0 = l[n] := by simp [show n < l.length by omega]
    rw [hg]
    by_cases h0 : l[n] = 0
    · rw [h0, strip_snoc_zero]
      exact Evt.ite_pos rfl (ih (by omega))
    · rw [strip_snoc h0]
      refine Evt.ite_neg h0 (Evt.ite_pos (by omega) (Evt.ite_pos (by omega) ?_))
      rw [← List.take_succ_eq_append_getElem (show n < l.length by omega)]
      exact Evt.pure _
theorem nat_trim_ev (l : List Int) (h : l.length ≤ maxLen) : Evt (fun k => nat_trim.f k l) (strip l) := by
  have := nat_trim_loop l h l.length (Nat.le_refl _)
  exact this.congr (fun k => rfl) (by rw [List.take_length])
theorem nat_told_ev (l : List Int) (h : l.length ≤ 1000000) (d : Dig (b64 : Int) l) : Evt (fun k => nat_told.f k l) (toldV (num l)) := by
  unfold nat_told.f toldV
  refine Evt.bind (nat_trim_ev l (by simp [maxLen]; omega)) ?_
  rw [strip_limbs d]
  have hl := limbs_long (num l)
  by_cases h1 : num l < b64 ^ 64
  · rw [if_pos h1]
    have := hl.2 h1
    exact Evt.ite_neg (by omega) (Evt.pure _)
  · rw [if_neg h1]
    have : ¬ (limbs (num l)).length ≤ 64 := fun hh => h1 (hl.1 hh)
    exact Evt.ite_pos (by omega) (Evt.pure _)
theorem carry_of {c : Int} (h : c = 0 ∨ c = 1) : carry01 c = true := decide_eq_true h
def lessL : List Int → List Int → Int → List Int
  | [], _, _ => []
  | x :: a, b, c => sub64_s x (b.getD 0 0) c :: lessL a (b.drop 1) (sub64_c x (b.getD 0 0) c)
theorem sub64_facts {x y c : Int} (hx : 0 ≤ x ∧ x < (b64 : Int)) (hy : 0 ≤ y ∧ y < (b64 : Int)) (hc : c = 0 ∨ c = 1) :
    sub64_s x y c - (b64 : Int) * sub64_c x y c = x - y - c ∧ (0 ≤ sub64_s x y c ∧ sub64_s x y c < (b64 : Int)) ∧ (sub64_c x y c = 0 ∨ sub64_c x y c = 1) := by
  unfold sub64_s sub64_c
  simp only [b64] at *
  by_cases h : x.toNat < y.toNat + c.toNat
  · rw [if_pos h]; omega
  · rw [if_neg h]; omega
theorem lessL_len : ∀ (a b : List Int) (c : Int), (lessL a b c).length = a.length := by
  intro a
  induction a with
  | nil => intro b c; rfl
  | cons z x ih => intro b c; simp only [lessL, List.length_cons, ih]
theorem lessL_facts : ∀ (a b : List Int) (c : Int), Dig (b64 : Int) a → Dig (b64 : Int) b → b.length ≤ a.length → (c = 0 ∨ c = 1) →
    Dig (b64 : Int) (lessL a b c) ∧ ∃ t, 0 ≤ t ∧ val (b64 : Int) (lessL a b c) = val (b64 : Int) a - val (b64 : Int) b - c + (b64 : Int) ^ a.length * t := by
  intro a
  induction a with
  | nil =>
    intro b c _ _ hlen hc
    have : b = [] := List.length_eq_zero_iff.1 (by simpa using hlen)
    subst this
    exact ⟨Dig.nil, c, by omega, by simp [lessL, val]; omega⟩
  | cons x a ih =>
    intro b c da db hlen hc
    have d1 := Dig.cons.1 da
    have hy := db.getD b64_pos 0
    obtain ⟨e1, e2, e3⟩ := sub64_facts d1.1 hy hc
    obtain ⟨i1, t, ht, i2⟩ := ih (b.drop 1) _ d1.2 (db.drop 1) (by simp at hlen ⊢; omega) e3
    refine ⟨Dig.cons.2 ⟨e2, i1⟩, t, ht, ?_⟩
    simp only [lessL, val]
    rw [i2]
    have hb : val (b64 : Int) b = b.getD 0 0 + (b64 : Int) * val (b64 : Int) (b.drop 1) := by
      cases b with
      | nil => simp [val]
      | cons y b => simp [val]
    rw [hb]
    generalize (b64 : Int) = B at *
    generalize sub64_s x (b.getD 0 0) c = s at *
    generalize sub64_c x (b.getD 0 0) c = u at *
    generalize val B a = va at *
    generalize val B (b.drop 1) = vb at *
    generalize b.getD 0 0 = y at *
    rw [List.length_cons, Int.pow_succ]
    generalize B ^ a.length = P at *
    have h1 : B * (va - vb - u + P * t) = B * va - B * vb - B * u + P * B * t := by grind
    omega
theorem nat_less_l0 (a b : List Int) (ha : a.length ≤ 1000) (hb : b.length ≤ 1000) (da : Dig (b64 : Int) a) (db : Dig (b64 : Int) b) (n : Nat) : ∀ (i : Nat) (p : List Int) (c : Int), p.length = i → i ≤ a.length → a.length - i = n → (c = 0 ∨ c = 1) →
    Evt (fun k => nat_less.l0 k a b (p ++ List.replicate n 0) c (a.length : Int) (i : Int)) (p ++ lessL (a.drop i) (b.drop i) c) := by
  induction n with
  | zero =>
    intro i p c hp hi hn hc
    refine Evt.succ ?_
    simp only [nat_less.l0]
    refine Evt.ite_neg (by omega) ?_
    rw [List.drop_of_length_le (show a.length ≤ i by omega)]
    simp only [lessL, List.replicate_zero]
    exact Evt.pure _
  | succ n ih =>
    intro i p c hp hi hn hc
    have hlt : i < a.length := by omega
    refine Evt.succ ?_
    simp only [nat_less.l0]
    refine Evt.ite_pos (by omega) ?_
    have hx : rd a (i : Int) = a[i] := by simp [rd_nat, hlt]
    have hxr := da a[i] (List.getElem_mem hlt)
    have hset : ∀ v : Int, (p ++ List.replicate (n + 1) 0).set ((i : Int)).toNat v = (p ++ [v]) ++ List.replicate n 0 := by
      intro v
      rw [show ((i : Int)).toNat = p.length from by omega, List.replicate_succ, set_at, List.append_assoc]
      rfl
    have hyr := (db.drop i).getD b64_pos 0
    have hfin : ∀ y : Int, y = (b.drop i).getD 0 0 → Evt (fun k => nat_less.l0 k a b ((p ++ List.replicate (n + 1) 0).set ((i : Int)).toNat (sub64_s (rd a (i : Int)) y c)) (sub64_c (rd a (i : Int)) y c) (a.length : Int) (wrap64 ((i : Int) + 1))) (p ++ lessL (a.drop i) (b.drop i) c) := by
      intro y hy
      subst hy
      obtain ⟨e1, e2, e3⟩ := sub64_facts hxr hyr hc
      rw [hx, hset, w64 (by omega) (by omega)]
      have h := ih (i + 1) (p ++ [sub64_s a[i] ((b.drop i).getD 0 0) c]) (sub64_c a[i] ((b.drop i).getD 0 0) c) (by simp [hp]) (by omega) (by omega) e3
      refine h.congr (fun k => rfl) ?_
      rw [List.drop_eq_getElem_cons hlt]
      simp only [lessL, List.drop_drop, List.append_assoc, List.singleton_append]
    by_cases hib : i < b.length
    · refine Evt.ite_pos (by omega) (Evt.ite_pos (by omega) (Evt.ite_pos (by omega) (Evt.ite_pos (carry_of hc) (Evt.ite_pos (by simp; omega) ?_))))
      refine hfin _ ?_
      simp [rd_nat, hib]
    · refine Evt.ite_neg (by omega) (Evt.ite_pos (by omega) (Evt.ite_pos (by omega) (Evt.ite_pos (carry_of hc) (Evt.ite_pos (by simp; omega) ?_))))
      refine hfin _ ?_
      simp [List.drop_of_length_le (show b.length ≤ i by omega)]
theorem nat_less_ev (a b : List Int) (ha : a.length ≤ 1000) (hb : b.length ≤ a.length) (da : Dig (b64 : Int) a) (db : Dig (b64 : Int) b) (hle : num b ≤ num a) : ∃ s, Evt (fun k => nat_less.f k a b) s ∧ Dig (b64 : Int) s ∧ num s = num a - num b ∧ s.length = a.length := by
  refine ⟨lessL a b 0, ?_, ?_⟩
  · unfold nat_less.f
    refine Evt.ite_pos (by omega) (Evt.ite_pos (by omega) ?_)
    have h := nat_less_l0 a b ha (by omega) da db a.length 0 [] 0 rfl (Nat.zero_le _) (by omega) (Or.inl rfl)
    exact h.congr (fun k => by simp) (by simp)
  · obtain ⟨f1, t, ht, f2⟩ := lessL_facts a b 0 da db hb (Or.inl rfl)
    refine ⟨f1, ?_, lessL_len a b 0⟩
    have h1 := num_val f1
    have h2 := num_val da
    have h3 := num_val db
    have h4 := num_lt f1
    rw [lessL_len] at h4
    rw [pow_cast] at f2
    have ht0 : t = 0 := by
      by_cases e : t = 0
      · exact e
      · have h5 : ((b64 ^ a.length : Nat) : Int) * 1 ≤ ((b64 ^ a.length : Nat) : Int) * t := Int.mul_le_mul_of_nonneg_left (by omega) (by omega)
        omega
    subst ht0
    rw [Int.mul_zero] at f2
    omega
def cmpL (B : Int) (l m : List Int) : Int := if val B l < val B m then -1 else if val B l = val B m then 0 else 1
theorem val_take_succ (B : Int) (l : List Int) (i : Nat) (h : i < l.length) : val B (l.take (i + 1)) = val B (l.take i) + B ^ i * l[i] := by
  rw [List.take_succ_eq_append_getElem h, val_append]
  simp only [val, List.length_take]
  rw [show min i l.length = i from by omega, Int.mul_zero, Int.add_zero]
theorem cmp_step {B : Int} (hB : 0 < B) {l m : List Int} (hl : Dig B l) (hm : Dig B m) (i : Nat) (h1 : i < l.length) (h2 : i < m.length) :
    (l[i] < m[i] → cmpL B (l.take (i + 1)) (m.take (i + 1)) = -1) ∧ (m[i] < l[i] → cmpL B (l.take (i + 1)) (m.take (i + 1)) = 1) ∧ (l[i] = m[i] → cmpL B (l.take (i + 1)) (m.take (i + 1)) = cmpL B (l.take i) (m.take i)) := by
  have a1 := val_nonneg hB (hl.take i)
  have a2 := val_nonneg hB (hm.take i)
  have b1 := val_lt hB (hl.take i)
  have b2 := val_lt hB (hm.take i)
  rw [List.length_take, show min i l.length = i from by omega] at b1
  rw [List.length_take, show min i m.length = i from by omega] at b2
  have hp : 0 < B ^ i := Int.pow_pos hB
  unfold cmpL
  rw [val_take_succ B l i h1, val_take_succ B m i h2]
  refine ⟨fun h => ?_, fun h => ?_, fun h => ?_⟩
  · have h3 : B ^ i * (l[i] + 1) ≤ B ^ i * m[i] := Int.mul_le_mul_of_nonneg_left (by omega) (by omega)
    rw [Int.mul_add, Int.mul_one] at h3
    rw [if_pos (by omega)]
  · have h3 : B ^ i * (m[i] + 1) ≤ B ^ i * l[i] := Int.mul_le_mul_of_nonneg_left (by omega) (by omega)
    rw [Int.mul_add, Int.mul_one] at h3
    rw [if_neg (by omega), if_neg (by omega)]
  · rw [h]
    by_cases c1 : val B (l.take i) < val B (m.take i)
    · rw [if_pos c1, if_pos (by omega)]
    · by_cases c2 : val B (l.take i) = val B (m.take i)
      · rw [if_neg c1, if_pos c2, if_neg (by omega), if_pos (by omega)]
      · rw [if_neg c1, if_neg c2, if_neg (by omega), if_neg (by omega)]
theorem nat_compare_loop {B : Int} (hB : 0 < B) (l m : List Int) (hl : Dig B l) (hm : Dig B m) (hlen : l.length = m.length) (hb : l.length ≤ 1000000) : ∀ i : Nat, i ≤ l.length → Evt (fun k => nat_compare.l0 k l m ((i : Int) - 1)) (cmpL B (l.take i) (m.take i)) := by
  intro i
  induction i with
  | zero =>
    intro _
    refine Evt.succ ?_
    simp only [nat_compare.l0]
    refine Evt.ite_neg (by omega) ?_
    exact Evt.pure _
  | succ i ih =>
    intro hi
    have h1 : i < l.length := by omega
    have h2 : i < m.length := by omega
    obtain ⟨s1, s2, s3⟩ := cmp_step hB hl hm i h1 h2
    rw [show (((i + 1 : Nat) : Int) - 1) = (i : Int) from by omega]
    refine Evt.succ ?_
    simp only [nat_compare.l0]
    refine Evt.ite_pos (by omega) (Evt.ite_pos (by omega) (Evt.ite_pos (by omega) (Evt.ite_pos (by omega) ?_)))
    have e1 : rd l (i : Int) = l[i] := by simp [rd_nat, h1]
    have e2 : rd m (i : Int) = m[i] := by simp [rd_nat, h2]
    rw [e1, e2]
    by_cases c0 : l[i] = m[i]
    · rw [s3 c0]
      refine Evt.ite_pos c0 ?_
      rw [w64 (by omega) (by omega)]
      exact ih (by omega)
    · refine Evt.ite_neg c0 ?_
      by_cases c1 : l[i] < m[i]
      · rw [s1 c1]; exact Evt.ite_pos c1 (Evt.pure _)
      · rw [s2 (by omega)]; exact Evt.ite_neg c1 (Evt.pure _)
theorem nat_compare_any {B : Int} (hB : 0 < B) (l m : List Int) (hl : Dig B l) (hm : Dig B m) (cl : Can l) (cm : Can m) (hb : l.length ≤ 1000000) : Evt (fun k => nat_compare.f k l m) (cmpL B l m) := by
  unfold nat_compare.f
  by_cases hlen : l.length = m.length
  · refine Evt.ite_pos (by omega) ?_
    rw [w64 (by omega) (by omega)]
    have := nat_compare_loop hB l m hl hm hlen hb l.length (Nat.le_refl _)
    refine this.congr (fun k => rfl) ?_
    rw [List.take_length, hlen, List.take_length]
  · refine Evt.ite_neg (by omega) ?_
    by_cases h2 : l.length < m.length
    · have := val_lt_of_length hB hl hm cm h2
      have e : cmpL B l m = -1 := if_pos this
      rw [e]
      exact Evt.ite_pos (by omega) (Evt.pure _)
    · have := val_lt_of_length hB hm hl cl (by omega)
      have e : cmpL B l m = 1 := by unfold cmpL; rw [if_neg (by omega), if_neg (by omega)]
      rw [e]
      exact Evt.ite_neg (by omega) (Evt.pure _)
theorem nat_compare_ev (l m : List Int) (hl : Dig (b64 : Int) l) (hm : Dig (b64 : Int) m) (cl : Can l) (cm : Can m) (hb : l.length ≤ 1000000) : Evt (fun k => nat_compare.f k l m) (cmpN (num l) (num m)) := by
  refine (nat_compare_any b64_pos l m hl hm cl cm hb).congr (fun k => rfl) ?_
  unfold cmpL cmpN
  rw [← num_val hl, ← num_val hm]
  simp only [Int.ofNat_lt, Int.natCast_inj]
theorem nat_right_eq (ls : List (List Int)) (h : ∀ l ∈ ls, l.length ≤ maxLen) : nat_right.f ls = some (ls.all rightB) := by
  induction ls with
  | nil => rfl
  | cons a ls ih =>
    simp only [nat_right.f]
    rw [nat_Right_eq (h a (by simp)), ih (fun l hl => h l (by simp [hl]))]
    simp only [Option.bind_some, List.all_cons]
    cases rightB a <;> simp
def subV (a b : List Int) : List Int × Int := if rightB a = true ∧ rightB b = true then (if num a < num b then ([], 2) else (limbs (num a - num b), 0)) else ([], 1)
theorem len_of_num_le {a b : List Int} (da : Dig (b64 : Int) a) (db : Dig (b64 : Int) b) (ca : Can a) (cb : Can b) (h : num b ≤ num a) : b.length ≤ a.length := by
  by_cases hl : b.length ≤ a.length
  · exact hl
  · have := val_lt_of_length b64_pos da db cb (by omega)
    rw [← num_val da, ← num_val db] at this
    omega
theorem toldV_small {v : Nat} (h : v < b64 ^ 64) : toldV v = (limbs v, 0) := if_pos h
theorem nat_Sub_ev (a b : List Int) (ha : a.length ≤ maxLen) (hb : b.length ≤ maxLen) (da : Dig (b64 : Int) a) (db : Dig (b64 : Int) b) : Evt (fun k => nat_Sub.f k a b) (subV a b) := by
  unfold nat_Sub.f subV
  rw [nat_right_eq _ (by intro l hl; simp at hl; rcases hl with rfl | rfl <;> assumption)]
  simp only [Option.bind_some, List.all_cons, List.all_nil, Bool.and_true, Bool.and_eq_true]
  by_cases h : rightB a = true ∧ rightB b = true
  · rw [if_pos h]
    refine Evt.ite_pos h ?_
    obtain ⟨h1, c1⟩ := (rightB_iff a).1 h.1
    obtain ⟨h2, c2⟩ := (rightB_iff b).1 h.2
    refine Evt.bind (nat_compare_ev a b da db c1 c2 (by omega)) ?_
    by_cases hlt : num a < num b
    · have e : cmpN (num a) (num b) = -1 := if_pos hlt
      rw [e, if_pos hlt]
      exact Evt.ite_pos (by omega) (Evt.pure _)
    · have e : ¬ cmpN (num a) (num b) < 0 := by
        unfold cmpN
        rw [if_neg hlt]
        by_cases e2 : num a = num b
        · rw [if_pos e2]; omega
        · rw [if_neg e2]; omega
      rw [if_neg hlt]
      refine Evt.ite_neg e ?_
      obtain ⟨s, e1, e2, e3, e4⟩ := nat_less_ev a b (by omega) (len_of_num_le da db c1 c2 (by omega)) da db (by omega)
      refine Evt.bind e1 ?_
      have n1 : num a - num b < b64 ^ 64 := by
        have := num_lt_p da h1
        omega
      have h5 := nat_told_ev s (by omega) e2
      rw [e3, toldV_small n1] at h5
      exact Evt.bind h5 (h := fun t _ => some (t.1, t.2)) (Evt.pure _)
  · rw [if_neg h]
    exact Evt.ite_neg h (Evt.pure _)
def sumL : List Int → List Int → Int → List Int
  | [], _, c => [c]
  | x :: a, b, c => add64_s x (b.getD 0 0) c :: sumL a (b.drop 1) (add64_c x (b.getD 0 0) c)
theorem add64_facts {x y c : Int} (hx : 0 ≤ x ∧ x < (b64 : Int)) (hy : 0 ≤ y ∧ y < (b64 : Int)) (hc : c = 0 ∨ c = 1) :
    add64_s x y c + (b64 : Int) * add64_c x y c = x + y + c ∧ (0 ≤ add64_s x y c ∧ add64_s x y c < (b64 : Int)) ∧ (add64_c x y c = 0 ∨ add64_c x y c = 1) := by
  unfold add64_s add64_c
  simp only [b64] at *
  omega
theorem sumL_facts : ∀ (a b : List Int) (c : Int), Dig (b64 : Int) a → Dig (b64 : Int) b → b.length ≤ a.length → (c = 0 ∨ c = 1) →
    Dig (b64 : Int) (sumL a b c) ∧ val (b64 : Int) (sumL a b c) = val (b64 : Int) a + val (b64 : Int) b + c := by
  intro a
  induction a with
  | nil =>
    intro b c _ _ hlen hc
    have : b = [] := List.length_eq_zero_iff.1 (by simpa using hlen)
    subst this
    refine ⟨?_, ?_⟩
    · intro x hx
      simp [sumL] at hx
      subst hx
      simp only [b64]; omega
    · simp [sumL, val]
  | cons x a ih =>
    intro b c da db hlen hc
    have d1 := Dig.cons.1 da
    have hy := db.getD b64_pos 0
    obtain ⟨e1, e2, e3⟩ := add64_facts d1.1 hy hc
    obtain ⟨i1, i2⟩ := ih (b.drop 1) _ d1.2 (db.drop 1) (by simp at hlen ⊢; omega) e3
    refine ⟨Dig.cons.2 ⟨e2, i1⟩, ?_⟩
    simp only [sumL, val]
    rw [i2]
    have hb : val (b64 : Int) b = b.getD 0 0 + (b64 : Int) * val (b64 : Int) (b.drop 1) := by
      cases b with
      | nil => simp [val]
      | cons y b => simp [val]
    rw [hb]
    generalize (b64 : Int) = B at *
    generalize add64_s x (b.getD 0 0) c = s at *
    generalize add64_c x (b.getD 0 0) c = t at *
    generalize val B a = va at *
    generalize val B (b.drop 1) = vb at *
    generalize b.getD 0 0 = y at *
    have : B * (va + vb + t) = B * va + B * vb + B * t := by rw [Int.mul_add, Int.mul_add]
    omega
theorem nat_sum_l0 (a b : List Int) (ha : a.length ≤ 1000) (hb : b.length ≤ 1000) (da : Dig (b64 : Int) a) (db : Dig (b64 : Int) b) (n : Nat) : ∀ (i : Nat) (p : List Int) (c : Int), p.length = i → i ≤ a.length → a.length - i = n → (c = 0 ∨ c = 1) →
    Evt (fun k => nat_sum.l0 k a b (p ++ List.replicate (n + 1) 0) c (a.length : Int) (i : Int)) (p ++ sumL (a.drop i) (b.drop i) c) := by
  induction n with
  | zero =>
    intro i p c hp hi hn hc
    refine Evt.succ ?_
    simp only [nat_sum.l0]
    refine Evt.ite_neg (by omega) (Evt.ite_pos (by omega) (Evt.ite_pos (by simp; omega) ?_))
    rw [List.drop_of_length_le (show a.length ≤ i by omega), show ((a.length : Int)).toNat = p.length from by omega]
    simp only [sumL, List.replicate_succ, List.replicate_zero]
    rw [set_at]
    exact Evt.pure _
  | succ n ih =>
    intro i p c hp hi hn hc
    have hlt : i < a.length := by omega
    refine Evt.succ ?_
    simp only [nat_sum.l0]
    refine Evt.ite_pos (by omega) ?_
    have hx : rd a (i : Int) = a[i] := by simp [rd_nat, hlt]
    have hxr := da a[i] (List.getElem_mem hlt)
    have hset : ∀ v : Int, (p ++ List.replicate (n + 1 + 1) 0).set ((i : Int)).toNat v = (p ++ [v]) ++ List.replicate (n + 1) 0 := by
      intro v
      rw [show ((i : Int)).toNat = p.length from by omega, List.replicate_succ, set_at, List.append_assoc]
      rfl
    have hyr := (db.drop i).getD b64_pos 0
    have hfin : ∀ y : Int, y = (b.drop i).getD 0 0 → Evt (fun k => nat_sum.l0 k a b ((p ++ List.replicate (n + 1 + 1) 0).set ((i : Int)).toNat (add64_s (rd a (i : Int)) y c)) (add64_c (rd a (i : Int)) y c) (a.length : Int) (wrap64 ((i : Int) + 1))) (p ++ sumL (a.drop i) (b.drop i) c) := by
      intro y hy
      subst hy
      obtain ⟨e1, e2, e3⟩ := add64_facts hxr hyr hc
      rw [hx, hset, w64 (by omega) (by omega)]
      have h := ih (i + 1) (p ++ [add64_s a[i] ((b.drop i).getD 0 0) c]) (add64_c a[i] ((b.drop i).getD 0 0) c) (by simp [hp]) (by omega) (by omega) e3
      refine h.congr (fun k => rfl) ?_
      rw [List.drop_eq_getElem_cons hlt]
      simp only [sumL, List.drop_drop, List.append_assoc, List.singleton_append]
    by_cases hib : i < b.length
    · refine Evt.ite_pos (by omega) (Evt.ite_pos (by omega) (Evt.ite_pos (by omega) (Evt.ite_pos (carry_of hc) (Evt.ite_pos (by simp; omega) ?_))))
      refine hfin _ ?_
      simp [rd_nat, hib]
    · refine Evt.ite_neg (by omega) (Evt.ite_pos (by omega) (Evt.ite_pos (by omega) (Evt.ite_pos (carry_of hc) (Evt.ite_pos (by simp; omega) ?_))))
      refine hfin _ ?_
      simp [List.drop_of_length_le (show b.length ≤ i by omega)]
theorem nat_sum_l51 (a b : List Int) (ha : a.length ≤ 1000) (hb : b.length ≤ 1000) (da : Dig (b64 : Int) a) (db : Dig (b64 : Int) b) (n : Nat) : ∀ (i : Nat) (p : List Int) (c : Int), p.length = i → i ≤ a.length → a.length - i = n → (c = 0 ∨ c = 1) →
    Evt (fun k => nat_sum.l51 k a b (p ++ List.replicate (n + 1) 0) c (a.length : Int) (i : Int)) (p ++ sumL (a.drop i) (b.drop i) c) := by
  induction n with
  | zero =>
    intro i p c hp hi hn hc
    refine Evt.succ ?_
    simp only [nat_sum.l51]
    refine Evt.ite_neg (by omega) (Evt.ite_pos (by omega) (Evt.ite_pos (by simp; omega) ?_))
    rw [List.drop_of_length_le (show a.length ≤ i by omega), show ((a.length : Int)).toNat = p.length from by omega]
    simp only [sumL, List.replicate_succ, List.replicate_zero]
    rw [set_at]
    exact Evt.pure _
  | succ n ih =>
    intro i p c hp hi hn hc
    have hlt : i < a.length := by omega
    refine Evt.succ ?_
    simp only [nat_sum.l51]
    refine Evt.ite_pos (by omega) ?_
    have hx : rd a (i : Int) = a[i] := by simp [rd_nat, hlt]
    have hxr := da a[i] (List.getElem_mem hlt)
    have hset : ∀ v : Int, (p ++ List.replicate (n + 1 + 1) 0).set ((i : Int)).toNat v = (p ++ [v]) ++ List.replicate (n + 1) 0 := by
      intro v
      rw [show ((i : Int)).toNat = p.length from by omega, List.replicate_succ, set_at, List.append_assoc]
      rfl
    have hyr := (db.drop i).getD b64_pos 0
    have hfin : ∀ y : Int, y = (b.drop i).getD 0 0 → Evt (fun k => nat_sum.l51 k a b ((p ++ List.replicate (n + 1 + 1) 0).set ((i : Int)).toNat (add64_s (rd a (i : Int)) y c)) (add64_c (rd a (i : Int)) y c) (a.length : Int) (wrap64 ((i : Int) + 1))) (p ++ sumL (a.drop i) (b.drop i) c) := by
      intro y hy
      subst hy
      obtain ⟨e1, e2, e3⟩ := add64_facts hxr hyr hc
      rw [hx, hset, w64 (by omega) (by omega)]
      have h := ih (i + 1) (p ++ [add64_s a[i] ((b.drop i).getD 0 0) c]) (add64_c a[i] ((b.drop i).getD 0 0) c) (by simp [hp]) (by omega) (by omega) e3
      refine h.congr (fun k => rfl) ?_
      rw [List.drop_eq_getElem_cons hlt]
      simp only [sumL, List.drop_drop, List.append_assoc, List.singleton_append]
    by_cases hib : i < b.length
    · refine Evt.ite_pos (by omega) (Evt.ite_pos (by omega) (Evt.ite_pos (by omega) (Evt.ite_pos (carry_of hc) (Evt.ite_pos (by simp; omega) ?_))))
      refine hfin _ ?_
      simp [rd_nat, hib]
    · refine Evt.ite_neg (by omega) (Evt.ite_pos (by omega) (Evt.ite_pos (by omega) (Evt.ite_pos (carry_of hc) (Evt.ite_pos (by simp; omega) ?_))))
      refine hfin _ ?_
      simp [List.drop_of_length_le (show b.length ≤ i by omega)]
theorem nat_sum_ev (a b : List Int) (ha : a.length ≤ 1000) (hb : b.length ≤ 1000) (da : Dig (b64 : Int) a) (db : Dig (b64 : Int) b) : ∃ s, Evt (fun k => nat_sum.f k a b) s ∧ Dig (b64 : Int) s ∧ num s = num a + num b ∧ s.length ≤ 1002 := by
  unfold nat_sum.f
  have fin : ∀ (x y : List Int), Dig (b64 : Int) x → Dig (b64 : Int) y → y.length ≤ x.length → x.length ≤ 1000 → Dig (b64 : Int) (sumL x y 0) ∧ num (sumL x y 0) = num x + num y ∧ (sumL x y 0).length ≤ 1002 := by
    intro x y dx dy hlen hx
    obtain ⟨f1, f2⟩ := sumL_facts x y 0 dx dy hlen (Or.inl rfl)
    have l1 : ∀ (x y : List Int) (c : Int), (sumL x y c).length = x.length + 1 := by
      intro x
      induction x with
      | nil => intro y c; rfl
      | cons z x ih => intro y c; simp only [sumL, List.length_cons, ih]
    refine ⟨f1, ?_, by rw [l1]; omega⟩
    have := num_val f1
    have := num_val dx
    have := num_val dy
    omega
  have ex : ∀ x : List Int, x.length ≤ 1000 → wrap64 ((x.length : Int) + 1) = ((x.length + 1 : Nat) : Int) := fun x hx => by rw [w64 (by omega) (by omega)]; omega
  by_cases h : a.length < b.length
  · refine ⟨sumL b a 0, Evt.ite_pos (by omega) ?_, (fin b a db da (by omega) hb).1, by rw [(fin b a db da (by omega) hb).2.1]; omega, (fin b a db da (by omega) hb).2.2⟩
    rw [ex b hb]
    refine Evt.ite_pos (by omega) (Evt.ite_pos (by omega) ?_)
    exact (nat_sum_l0 b a hb ha db da b.length 0 [] 0 rfl (Nat.zero_le _) (by omega) (Or.inl rfl)).congr (fun k => rfl) (by simp)
  · refine ⟨sumL a b 0, Evt.ite_neg (by omega) ?_, (fin a b da db (by omega) ha).1, (fin a b da db (by omega) ha).2.1, (fin a b da db (by omega) ha).2.2⟩
    rw [ex a ha]
    refine Evt.ite_pos (by omega) (Evt.ite_pos (by omega) ?_)
    exact (nat_sum_l51 a b ha hb da db a.length 0 [] 0 rfl (Nat.zero_le _) (by omega) (Or.inl rfl)).congr (fun k => rfl) (by simp)
def addV (a b : List Int) : List Int × Int := if rightB a = true ∧ rightB b = true then toldV (num a + num b) else ([], 1)
theorem nat_Add_ev (a b : List Int) (ha : a.length ≤ maxLen) (hb : b.length ≤ maxLen) (da : Dig (b64 : Int) a) (db : Dig (b64 : Int) b) : Evt (fun k => nat_Add.f k a b) (addV a b) := by
  unfold nat_Add.f addV
  rw [nat_right_eq _ (by intro l hl; simp at hl; rcases hl with rfl | rfl <;> assumption)]
  simp only [Option.bind_some, List.all_cons, List.all_nil, Bool.and_true, Bool.and_eq_true]
  by_cases h : rightB a = true ∧ rightB b = true
  · rw [if_pos h]
    refine Evt.ite_pos h ?_
    obtain ⟨h1, c1⟩ := (rightB_iff a).1 h.1
    obtain ⟨h2, c2⟩ := (rightB_iff b).1 h.2
    obtain ⟨s, e1, e2, e3, e4⟩ := nat_sum_ev a b (by omega) (by omega) da db
    refine Evt.bind e1 ?_
    rw [← e3]
    exact Evt.bind (nat_told_ev s (by omega) e2) (h := fun t _ => some (t.1, t.2)) (Evt.pure _)
  · rw [if_neg h]
    exact Evt.ite_neg h (Evt.pure _)
def cmpV (a b : List Int) : Int := if rightB a = true ∧ rightB b = true then cmpN (num a) (num b) else 0
theorem nat_Cmp_ev (a b : List Int) (ha : a.length ≤ maxLen) (hb : b.length ≤ maxLen) (da : Dig (b64 : Int) a) (db : Dig (b64 : Int) b) : Evt (fun k => nat_Cmp.f k a b) (cmpV a b) := by
  unfold nat_Cmp.f cmpV
  rw [nat_right_eq _ (by intro l hl; simp at hl; rcases hl with rfl | rfl <;> assumption)]
  simp only [Option.bind_some, List.all_cons, List.all_nil, Bool.and_true, Bool.and_eq_true]
  by_cases h : rightB a = true ∧ rightB b = true
  · rw [if_pos h]
    refine Evt.ite_pos h ?_
    obtain ⟨h1, c1⟩ := (rightB_iff a).1 h.1
    obtain ⟨h2, c2⟩ := (rightB_iff b).1 h.2
    exact Evt.bind (nat_compare_ev a b da db c1 c2 (by omega)) (h := fun t _ => some t) (Evt.pure _)
  · rw [if_neg h]
    exact Evt.ite_neg h (Evt.pure _)
theorem nat_Of_ev (n : Int) : Evt (fun k => nat_Of.f k n) (strip [n]) := by
  refine (Evt.bind (nat_trim_ev [n] (by simp [maxLen])) (h := fun t _ => some t) (Evt.pure _)).congr (fun k => rfl) rfl
theorem nat_Small_ev (l : List Int) (h : l.length ≤ maxLen) : Evt (fun k => nat_Small.f k l) (smallV l) := by
  unfold nat_Small.f smallV
  rw [nat_Right_eq h]
  simp only [Option.bind_some]
  have J : ∀ x : Bool, Evt (fun k => nat_Small.j0 k l x) (if x = true then (0, false) else (l.getD 0 0, true)) := by
    intro x
    refine Evt.succ ?_
    simp only [nat_Small.j0]
    refine Evt.cond (fun _ => Evt.pure _) (fun _ => ?_)
    by_cases h0 : l.length = 0
    · refine Evt.ite_pos (by omega) ?_
      rw [List.length_eq_zero_iff.1 h0]
      exact Evt.pure _
    · exact Evt.ite_neg (by omega) (Evt.ite_pos (by omega) (Evt.pure _))
  cases hr : rightB l with
  | true =>
    refine Evt.ite_pos rfl ?_
    refine (J _).congr (fun k => rfl) ?_
    by_cases h1 : l.length ≤ 1
    · rw [if_neg (by simp; omega), if_pos ⟨rfl, h1⟩]
    · rw [if_pos (by simp; omega), if_neg (fun h => h1 h.2)]
  | false =>
    refine Evt.ite_neg (by simp) ?_
    refine (J _).congr (fun k => rfl) ?_
    simp
theorem same_loop (l m : List Int) (h : l.length ≤ maxLen) (hlm : l.length = m.length) (d : Nat) : ∀ i : Nat, i ≤ l.length → l.length - i = d → Evt (fun k => windbreakref01_Same.l0 k l m (i : Int)) (decide (l.drop i = m.drop i)) := by
  unfold maxLen at h
  induction d with
  | zero =>
    intro i hi hd
    refine Evt.succ ?_
    simp only [windbreakref01_Same.l0]
    refine Evt.ite_neg (by omega) ?_
    rw [List.drop_of_length_le (by omega), List.drop_of_length_le (by omega)]
    exact Evt.pure _
  | succ d ih =>
    intro i hi hd
    have hl : i < l.length := by omega
    have hm : i < m.length := by omega
    refine Evt.succ ?_
    simp only [windbreakref01_Same.l0]
    refine Evt.ite_pos (by omega) (Evt.ite_pos (by omega) (Evt.ite_pos (by omega) ?_))
    have e1 : rd l (i : Int) = l[i] := by simp [rd_nat, hl]
    have e2 : rd m (i : Int) = m[i] := by simp [rd_nat, hm]
    rw [e1, e2, w64 (by omega) (by omega), List.drop_eq_getElem_cons hl, List.drop_eq_getElem_cons hm]
    by_cases he : l[i] = m[i]
    · refine Evt.ite_pos he ?_
      refine (ih (i + 1) (by omega) (by omega)).congr (fun k => rfl) ?_
      rw [he]
      simp only [List.cons.injEq, true_and]
    · refine Evt.ite_neg he ?_
      have : decide (l[i] :: l.drop (i + 1) = m[i] :: m.drop (i + 1)) = false := by
        simp only [List.cons.injEq, decide_eq_false_iff_not]
        exact fun hh => he hh.1
      rw [this]
      exact Evt.pure _
theorem same_ev (l m : List Int) (h : l.length ≤ maxLen) : Evt (fun k => windbreakref01_Same.f k l m) (decide (l = m)) := by
  unfold windbreakref01_Same.f
  by_cases hlm : l.length = m.length
  · refine Evt.ite_pos (by omega) ?_
    exact (same_loop l m h hlm l.length 0 (Nat.zero_le _) (by omega)).congr (fun k => rfl) (by simp)
  · refine Evt.ite_neg (by omega) ?_
    have : decide (l = m) = false := by
      simp only [decide_eq_false_iff_not]
      intro e
      exact hlm (by rw [e])
    rw [this]
    exact Evt.pure _
end Go.Proofs.Ytgeanpnkllnipab.Z
end
section
namespace Go.Proofs.Ytgeanpnkllnipab.Z
open Go.RowKit Go.Proofs.Ytgeanpnkllnipab.F Go.Proofs.YtgeanpnkllnipabW.PrintWords Go.Proofs.YtgeanpnkllnipabW.PrintMore
set_option linter.unusedSimpArgs false
set_option linter.unusedVariables false
theorem val_set (B : Int) (l : List Int) : ∀ (i : Nat) (v : Int), i < l.length → val B (l.set i v) = val B l + B ^ i * (v - l.getD i 0) := by
  induction l with
  | nil => intro i v h; simp at h
  | cons d l ih =>
    intro i v h
    cases i with
    | zero => simp [val]; omega
    | succ i =>
      have h2 := ih i v (by simpa using h)
      simp only [List.set_cons_succ, val, h2, Int.pow_succ, List.getD_cons_succ]
      generalize l.getD i 0 = y
      generalize B ^ i = P
      generalize val B l = V
      grind
theorem val_take_step (B : Int) (l : List Int) (i : Nat) (h : i < l.length) : val B (l.take (i + 1)) = val B (l.take i) + B ^ i * l[i] := by
  rw [List.take_succ_eq_append_getElem h, val_append]
  simp only [val, List.length_take]
  rw [show min i l.length = i from by omega, Int.mul_zero, Int.add_zero]
theorem wraps_u64 (n : Int) (h0 : 0 ≤ n) (h1 : n < 2 ^ 64) : IntKind.u64.wrap n = n := wu64_of h0 (by omega)
theorem or_u64 {x y : Int} (s : Nat) (hs : s ≤ 64) (hx0 : 0 ≤ x) (hx : x % 2 ^ s = 0) (hx1 : x < 18446744073709551616) (hy0 : 0 ≤ y) (hy : y < 2 ^ s) : Go.bits .or .u64 x y = x + y := by
  have h2 : (2 : Int) ^ s ≤ 2 ^ 64 := pow_mono (by omega) hs
  exact bits_join .u64 64 (by decide) wraps_u64 s x y hx0 hx (by omega) hy0 hy (by omega)
theorem or_comm_u64 {x y : Int} (hx0 : 0 ≤ x) (hx1 : x < 18446744073709551616) (hy0 : 0 ≤ y) (hy1 : y < 18446744073709551616) : Go.bits .or .u64 x y = Go.bits .or .u64 y x := by
  obtain ⟨a, rfl⟩ := Int.eq_ofNat_of_zero_le hx0
  obtain ⟨b, rfl⟩ := Int.eq_ofNat_of_zero_le hy0
  rw [(bits_nat .u64 64 (by decide) wraps_u64 a b (by omega) (by omega)).2, (bits_nat .u64 64 (by decide) wraps_u64 b a (by omega) (by omega)).2, Nat.or_comm]
theorem shl_u64 (x : Int) (s : Nat) (hs : s ≤ 64) : shl .u64 x (s : Int) = (x * 2 ^ s) % 18446744073709551616 := by
  unfold shl
  rw [wu64]
  simp only [IntKind.bits, Int.toNat_natCast]
  rw [show min s 64 = s from by omega]
theorem shr_u64 (x : Int) (s : Nat) (hs : s ≤ 64) : shr .u64 x (s : Int) = x / 2 ^ s := by
  unfold shr
  simp only [IntKind.bits, Int.toNat_natCast]
  rw [show min s 64 = s from by omega]
theorem pow64_split {s : Nat} (hs : s ≤ 64) : (2 : Int) ^ s * 2 ^ (64 - s) = 18446744073709551616 := by
  rw [← Int.pow_add, show s + (64 - s) = 64 from by omega]
  decide
theorem pow2_pos (s : Nat) : (0 : Int) < 2 ^ s := Int.pow_pos (by omega)
theorem shl_facts {x : Int} (hx : 0 ≤ x ∧ x < 18446744073709551616) {s : Nat} (hs : s ≤ 64) :
    (x * 2 ^ s) % 18446744073709551616 + 18446744073709551616 * (x / 2 ^ (64 - s)) = x * 2 ^ s ∧ ((x * 2 ^ s) % 18446744073709551616) % 2 ^ s = 0 ∧ 0 ≤ x / 2 ^ (64 - s) ∧ x / 2 ^ (64 - s) < 2 ^ s := by
  have hp := pow64_split hs
  have h1 := pow2_pos s
  have h2 := pow2_pos (64 - s)
  generalize (2 : Int) ^ s = P at *
  generalize (2 : Int) ^ (64 - s) = Q at *
  have h3 : (x * P) / 18446744073709551616 = x / Q := by
    rw [← hp, Int.mul_comm x P, Int.mul_ediv_mul_of_pos _ _ h1]
  refine ⟨?_, ?_, Int.ediv_nonneg hx.1 (by omega), ?_⟩
  · have := Int.emod_add_mul_ediv (x * P) 18446744073709551616
    rw [h3] at this
    exact this
  · rw [← hp]
    have := Int.mul_emod_mul_of_pos (a := P) x Q h1
    rw [Int.mul_comm x P, this]
    exact Int.mul_emod_right P _
  · apply Int.ediv_lt_of_lt_mul h2
    rw [hp]
    exact hx.2
def bitV (a : List Int) (i : Int) : Bool := rightB a && decide (0 ≤ i) && decide (i / 64 < a.length) && ((a.getD (i.toNat / 64) 0 / 2 ^ (i.toNat % 64)) % 2 == 1)
theorem and_one {x : Int} (h0 : 0 ≤ x) (h1 : x < 18446744073709551616) : Go.bits .and .u64 x 1 = x % 2 := bits_mask .u64 64 (by decide) wraps_u64 1 (by decide) x h0 (by omega)
theorem nat_Bit_eq (a : List Int) (i : Int) (ha : a.length ≤ maxLen) (da : Dig (b64 : Int) a) (hi : i < 9223372036854775808) : nat_Bit.f a i = some (bitV a i) := by
  unfold nat_Bit.f bitV
  rw [nat_Right_eq ha]
  simp only [Option.bind_some]
  cases hA : rightB a with
  | false => simp
  | true =>
    rw [if_pos rfl]
    by_cases h0 : 0 ≤ i
    · obtain ⟨n, rfl⟩ := Int.eq_ofNat_of_zero_le h0
      rw [if_pos (by omega), Int.tdiv_eq_ediv_of_nonneg (by omega), Int.tmod_eq_emod_of_nonneg (by omega), w64 (by omega) (by omega)]
      by_cases h1 : (n : Int) / 64 < a.length
      · rw [if_pos h1, if_pos (by omega), if_pos (by omega)]
        rw [rd_getD, show ((n : Int) / 64).toNat = n / 64 from by omega, show (n : Int) % 64 = ((n % 64 : Nat) : Int) from by omega, shr_u64 _ _ (by omega), Int.toNat_natCast]
        have hr := da.getD b64_pos (n / 64)
        simp only [b64] at hr
        have hp := pow2_pos (n % 64)
        have h5 := Int.ediv_nonneg hr.1 (Int.le_of_lt hp)
        have h6 := Int.ediv_le_self (2 ^ (n % 64)) hr.1
        rw [and_one h5 (by omega)]
        simp [h1]
      · rw [if_neg h1]
        simp [h1]
    · rw [if_neg (by omega)]
      simp [h0]
theorem nat_up_loop (a : List Int) (da : Dig (b64 : Int) a) (ha : a.length ≤ 100000) (s : Nat) (hs : s < 64) (n : Nat) :
    ∀ (i : Nat) (p : List Int) (c : Int), a.length - i = n → i ≤ a.length → p.length = i → Dig (b64 : Int) p → 0 ≤ c ∧ c < 2 ^ s → val (b64 : Int) p + c * (b64 : Int) ^ i = val (b64 : Int) (a.take i) * 2 ^ s →
      ∃ r, Evt (fun k => nat_up.l0 k (s : Int) (p ++ c :: List.replicate n 0) a (a.length : Int) (i : Int)) r ∧ Dig (b64 : Int) r ∧ r.length = a.length + 1 ∧ val (b64 : Int) r = val (b64 : Int) a * 2 ^ s := by
  have hs64 : (2 : Int) ^ s ≤ 2 ^ 63 := pow_mono (by omega) (by omega)
  have hB : (b64 : Int) = 18446744073709551616 := rfl
  induction n with
  | zero =>
    intro i p c hn hi hp dp hc hv
    refine ⟨p ++ [c], ?_, Dig.append.2 ⟨dp, Dig.cons.2 ⟨by rw [hB]; omega, Dig.nil⟩⟩, by simp; omega, ?_⟩
    · refine Evt.succ ?_
      simp only [nat_up.l0]
      exact Evt.ite_neg (by omega) (Evt.pure _)
    · rw [List.take_of_length_le (by omega)] at hv
      rw [val_append, hp]
      simp only [val, Int.mul_zero, Int.add_zero]
      rw [Int.mul_comm ((b64 : Int) ^ i) c]
      exact hv
  | succ n ih =>
    intro i p c hn hi hp dp hc hv
    have hlt : i < a.length := by omega
    have rx := da a[i] (List.getElem_mem hlt)
    rw [hB] at rx
    obtain ⟨f1, f2, f3, f4⟩ := shl_facts rx (s := s) (by omega)
    have f5 : 0 ≤ (a[i] * 2 ^ s) % 18446744073709551616 := by omega
    have f6 : (a[i] * 2 ^ s) % 18446744073709551616 < 18446744073709551616 := by omega
    have hor : Go.bits .or .u64 c ((a[i] * 2 ^ s) % 18446744073709551616) = (a[i] * 2 ^ s) % 18446744073709551616 + c := by
      rw [or_comm_u64 hc.1 (by omega) f5 f6]
      exact or_u64 s (by omega) f5 f2 f6 hc.1 hc.2
    have hlow : (a[i] * 2 ^ s) % 18446744073709551616 + c < 18446744073709551616 := by
      have hp64 := pow64_split (s := s) (by omega)
      have hq := pow2_pos (64 - s)
      have hps := pow2_pos s
      generalize (a[i] * 2 ^ s) % 18446744073709551616 = z at *
      generalize (2 : Int) ^ s = P at *
      generalize (2 : Int) ^ (64 - s) = Q at *
      obtain ⟨t, ht⟩ := Int.dvd_of_emod_eq_zero f2
      subst ht
      have ht2 : t < Q := by
        refine Int.not_le.1 (fun hle => ?_)
        have := Int.mul_le_mul_of_nonneg_left hle (Int.le_of_lt hps)
        omega
      have : P * (t + 1) ≤ P * Q := Int.mul_le_mul_of_nonneg_left (by omega) (by omega)
      rw [Int.mul_add] at this
      omega
    generalize hz : (a[i] * 2 ^ s) % 18446744073709551616 = z at *
    obtain ⟨r, e1, e2, e3, e4⟩ := ih (i + 1) (p ++ [z + c]) (a[i] / 2 ^ (64 - s)) (by omega) (by omega) (by simp; omega) (Dig.append.2 ⟨dp, Dig.cons.2 ⟨by rw [hB]; omega, Dig.nil⟩⟩) ⟨f3, f4⟩ (by
      rw [val_append, hp, val_take_step (b64 : Int) a i hlt, Int.pow_succ]
      simp only [val, Int.mul_zero, Int.add_zero]
      rw [hB]
      rw [hB] at hv
      generalize (18446744073709551616 : Int) ^ i = P at *
      generalize a[i] / 2 ^ (64 - s) = h at *
      generalize val 18446744073709551616 (a.take i) = va at *
      generalize val 18446744073709551616 p = vp at *
      generalize (2 : Int) ^ s = S at *
      generalize a[i] = x at *
      have e : z = x * S - 18446744073709551616 * h := by omega
      rw [e]
      have e2 : vp = va * S - c * P := by omega
      rw [e2]
      grind)
    refine ⟨r, ?_, e2, e3, e4⟩
    refine Evt.succ ?_
    simp only [nat_up.l0]
    have hx : rd a (i : Int) = a[i] := by simp [rd_nat, hlt]
    have hc0 : rd (p ++ c :: List.replicate (n + 1) 0) (i : Int) = c := by
      rw [rd_nat]
      simp [List.getD_eq_getElem?_getD, ← hp]
    refine Evt.ite_pos (by omega) (Evt.ite_pos (by omega) (Evt.ite_pos (by omega) (Evt.ite_pos (by simp; omega) (Evt.ite_pos (by omega) ?_))))
    simp only [Option.bind_some]
    rw [hx, hc0, shl_u64 _ s (by omega), hz, hor, show ((i : Int)).toNat = p.length from by omega, set_at]
    rw [w64 (show -9223372036854775808 ≤ (i : Int) + 1 by omega) (by omega)]
    by_cases h0 : s = 0
    · refine Evt.ite_neg (by omega) ?_
      refine e1.congr (fun k => ?_) rfl
      have e0 : a[i] / 2 ^ (64 - s) = 0 := by
        rw [h0] at f4 f3 ⊢
        simp only [Int.pow_zero] at f4
        omega
      rw [e0, List.append_assoc]
      rfl
    · refine Evt.ite_pos (by omega) (Evt.ite_pos ?_ (Evt.ite_pos (by omega) (Evt.ite_pos (by simp; omega) ?_)))
      · rw [wu64_of (by omega) (by omega)]; omega
      · rw [wu64_of (by omega) (by omega), show (64 : Int) - (s : Int) = ((64 - s : Nat) : Int) from by omega, shr_u64 _ (64 - s) (by omega)]
        refine e1.congr (fun k => ?_) rfl
        have hset : (p ++ (z + c) :: List.replicate (n + 1) 0).set ((i : Int) + 1).toNat (a[i] / 2 ^ (64 - s)) = (p ++ [z + c]) ++ (a[i] / 2 ^ (64 - s)) :: List.replicate n 0 := by
          have e : p ++ (z + c) :: List.replicate (n + 1) 0 = (p ++ [z + c]) ++ 0 :: List.replicate n 0 := by rw [List.append_assoc, List.replicate_succ]; rfl
          rw [e, show ((i : Int) + 1).toNat = (p ++ [z + c]).length from by simp; omega]
          exact set_at _ _ _ _
        rw [hset]
        rfl
theorem nat_up_ev (a : List Int) (da : Dig (b64 : Int) a) (ha : a.length ≤ 100000) (s : Nat) (hs : s < 64) : ∃ r, Evt (fun k => nat_up.f k a (s : Int)) r ∧ Dig (b64 : Int) r ∧ r.length = a.length + 1 ∧ num r = num a * 2 ^ s := by
  obtain ⟨r, e1, e2, e3, e4⟩ := nat_up_loop a da ha s hs a.length 0 [] 0 (by omega) (by omega) rfl Dig.nil ⟨by omega, pow2_pos s⟩ (by simp [val])
  refine ⟨r, ?_, e2, e3, ?_⟩
  · unfold nat_up.f
    rw [w64 (show -9223372036854775808 ≤ (a.length : Int) + 1 by omega) (by omega)]
    refine Evt.ite_pos (by omega) (Evt.ite_pos (by omega) ?_)
    refine e1.congr (fun k => ?_) rfl
    rw [show ((a.length : Int) + 1).toNat = a.length + 1 from by omega, List.nil_append, List.replicate_succ]
    rfl
  · have h1 := num_val e2
    have h2 := num_val da
    have h3 : ((num a * 2 ^ s : Nat) : Int) = (num a : Int) * 2 ^ s := by simp
    rw [e4, ← h2, ← h3] at h1
    omega
end Go.Proofs.Ytgeanpnkllnipab.Z
end
section
namespace Go.Proofs.Ytgeanpnkllnipab.Z
open Go.RowKit Go.Proofs.YtgeanpnkllnipabW.PrintWords
set_option linter.unusedSimpArgs false
set_option linter.unusedVariables false
theorem can_last {a : List Int} (ca : Can a) (h0 : a.length ≠ 0) : a.getD (a.length - 1) 0 ≠ 0 := by
  have h : a ≠ [] := fun e => h0 (by rw [e]; rfl)
  have h2 := ca h
  rw [List.getLast_eq_getElem] at h2
  rw [List.getD_eq_getElem?_getD, List.getElem?_eq_getElem (show a.length - 1 < a.length by omega)]
  exact h2
def mayV (n : List Int) : Bool := rightB n && decide (n.length ≤ 8) && decide (3 ≤ num n)
def halfV (n : List Int) : Nat := (num n - 1) / 2
def intR (a : Bool) (l : List Int) : Bool := rightB l && (!a || decide (0 < l.length))
def fromV (a : Bool) (l : List Int) : Bool × List Int := if rightB l = true ∧ l.length ≠ 0 then (a, l) else (false, [])
def encV (n : List Int) (a : Bool) (x : List Int) : List Int × Int :=
  if mayV n = true ∧ intR a x = true then (if num x ≤ halfV n then (if a = true then (limbs (num n - num x), 0) else (x, 0)) else ([], 12)) else ([], 1)
def decV (n v : List Int) : Bool × List Int × Int :=
  if mayV n = true then (if rightB v = true ∧ num v < num n then (if num v ≤ halfV n then ((fromV false v).1, (fromV false v).2, 0) else ((fromV true (limbs (num n - num v))).1, (fromV true (limbs (num n - num v))).2, 0)) else (false, [], 10)) else (false, [], 1)
theorem dig_one {x : Int} (h0 : 0 ≤ x) (h1 : x < 18446744073709551616) : Dig (b64 : Int) [x] := Dig.cons.2 ⟨⟨h0, h1⟩, Dig.nil⟩
theorem right_one {x : Int} (h : x ≠ 0) : rightB [x] = true := (rightB_iff _).2 ⟨by simp, Can.one h⟩
theorem right_limbs' {v : Nat} (h : v < b64 ^ 64) : rightB (limbs v) = true := (rightB_iff _).2 ⟨(limbs_long v).2 h, toD_can b64_two v⟩
theorem dig_limbs' (v : Nat) : Dig (b64 : Int) (limbs v) := toD_dig b64_two v
theorem mayV_iff (n : List Int) : mayV n = true ↔ rightB n = true ∧ n.length ≤ 8 ∧ 3 ≤ num n := by
  unfold mayV
  simp [and_assoc]
theorem may_lt {n : List Int} (dn : Dig (b64 : Int) n) (h : mayV n = true) : num n < b64 ^ 64 := by
  obtain ⟨h1, h2, _⟩ := (mayV_iff n).1 h
  exact num_lt_p dn (by omega)
theorem limbs_le64 {v : Nat} (h : v < b64 ^ 64) : (limbs v).length ≤ 64 := (limbs_long v).2 h
theorem cmpN_ge (x y : Nat) : decide (cmpN x y ≥ 0) = decide (y ≤ x) := by
  unfold cmpN
  by_cases h : x < y
  · rw [if_pos h]; simp; omega
  · rw [if_neg h]; split <;> simp <;> omega
theorem cmpN_le (x y : Nat) : decide (cmpN x y ≤ 0) = decide (x ≤ y) := by
  unfold cmpN
  by_cases h : x < y
  · rw [if_pos h]; simp; omega
  · rw [if_neg h]
    by_cases h2 : x = y
    · rw [if_pos h2]; simp; omega
    · rw [if_neg h2]; simp; omega
def ofI (x : Int) : Bool × List Int := (decide (x < 0), limbs x.natAbs)
def sI (a : Bool) (m : Nat) : Int := if a = true then -(m : Int) else (m : Int)
theorem sI_of (x : Int) : sI (decide (x < 0)) x.natAbs = x := by
  unfold sI
  by_cases h : x < 0
  · rw [if_pos (by simpa using h)]; omega
  · rw [if_neg (by simpa using h)]; omega
theorem sI_abs (a : Bool) (m : Nat) : (sI a m).natAbs = m := by
  unfold sI
  cases a <;> simp
theorem limbs_zero : limbs 0 = [] := toD_zero b64
theorem limbs_nil_iff (m : Nat) : (limbs m).length = 0 ↔ m = 0 := by
  constructor
  · intro h
    have h1 := num_limbs m
    rw [List.eq_nil_of_length_eq_zero h] at h1
    rw [← h1]; rfl
  · rintro rfl
    rw [limbs_zero]; rfl
theorem fromV_s {a : Bool} {m : Nat} (h : m < b64 ^ 64) : fromV a (limbs m) = ofI (sI a m) := by
  unfold fromV
  by_cases h0 : m = 0
  · subst h0
    rw [if_neg (fun h' => h'.2 ((limbs_nil_iff 0).2 rfl))]
    unfold ofI sI
    cases a <;> simp [limbs_zero]
  · rw [if_pos ⟨right_limbs' h, fun e => h0 ((limbs_nil_iff m).1 e)⟩]
    unfold ofI
    rw [sI_abs]
    unfold sI
    cases a
    · simp
    · simp; omega
theorem intR_of {x : Int} (h : x.natAbs < b64 ^ 64) : intR (ofI x).1 (ofI x).2 = true := by
  unfold intR ofI
  simp only [right_limbs' h, Bool.true_and, Bool.or_eq_true, Bool.not_eq_true', decide_eq_false_iff_not, decide_eq_true_eq]
  by_cases h0 : x < 0
  · right
    have h1 : (limbs x.natAbs).length ≠ 0 := fun e => by
      have := (limbs_nil_iff _).1 e
      omega
    omega
  · exact Or.inl h0
theorem intR_s {a : Bool} {m : Nat} (h : m < b64 ^ 64) (ha : a = true → m ≠ 0) : intR a (limbs m) = true := by
  unfold intR
  cases a with
  | false => simp [right_limbs' h]
  | true =>
    have h1 : (limbs m).length ≠ 0 := fun e => ha rfl ((limbs_nil_iff m).1 e)
    simp only [right_limbs' h, Bool.true_and, Bool.not_true, Bool.false_or, decide_eq_true_eq]
    omega
theorem neg_abs {x : Int} : decide (x < 0) = true → x.natAbs ≠ 0 := by
  intro h
  have := of_decide_eq_true h
  omega
def SmI (x : Int) : Prop := x.natAbs < b64 ^ 30
theorem SmI.lt {x : Int} (h : SmI x) : x.natAbs < b64 ^ 64 := Nat.lt_of_lt_of_le h (Nat.pow_le_pow_right (by decide) (by decide))
theorem SmI.sum {m n : Nat} (h : m < b64 ^ 30) (k : n < b64 ^ 30) : m + n < b64 ^ 64 := by
  have h1 : b64 ^ 31 ≤ b64 ^ 64 := Nat.pow_le_pow_right (by decide) (by decide)
  have h2 : b64 ^ 30 * 2 ≤ b64 ^ 31 := Nat.mul_le_mul_left _ b64_two
  generalize b64 ^ 30 = X at *
  generalize b64 ^ 31 = Y at *
  omega
theorem SmI.prod {m n : Nat} (h : m < b64 ^ 30) (k : n < b64 ^ 30) : m * n < b64 ^ 64 := by
  have h1 : b64 ^ 60 ≤ b64 ^ 64 := Nat.pow_le_pow_right (by decide) (by decide)
  have h2 := Nat.mul_lt_mul'' h k
  rw [← Nat.pow_add] at h2
  exact Nat.lt_of_lt_of_le h2 h1
def Sz (j : Nat) (x : Int) : Prop := x.natAbs < b64 ^ j
theorem Sz.smI {j : Nat} {x : Int} (h : Sz j x) (hj : j ≤ 30) : SmI x := Nat.lt_of_lt_of_le h (Nat.pow_le_pow_right (by decide) hj)
theorem Sz.mono {j i : Nat} {x : Int} (h : Sz j x) (hj : j ≤ i) : Sz i x := Nat.lt_of_lt_of_le h (Nat.pow_le_pow_right (by decide) hj)
theorem Sz.i64 {x : Int} (h0 : -9223372036854775808 ≤ x) (h1 : x < 9223372036854775808) : Sz 1 x := by
  have hb : b64 = 18446744073709551616 := rfl
  unfold Sz
  rw [Nat.pow_one]
  omega
theorem Sz.mul {i j : Nat} {x y : Int} (h : Sz i x) (k : Sz j y) : Sz (i + j) (x * y) := by
  unfold Sz at h k ⊢
  rw [Int.natAbs_mul, Nat.pow_add]
  exact Nat.mul_lt_mul'' h k
theorem Sz.add {j : Nat} {x y : Int} (h : Sz j x) (k : Sz j y) : Sz (j + 1) (x + y) := by
  unfold Sz at h k ⊢
  have h1 := Int.natAbs_add_le x y
  have h2 : b64 ^ j * 2 ≤ b64 ^ (j + 1) := Nat.mul_le_mul_left _ b64_two
  generalize b64 ^ (j + 1) = Y at *
  generalize b64 ^ j = X at *
  omega
theorem Sz.pow {s : Nat} (hs : s ≤ 64) : Sz 2 (2 ^ s) := by
  unfold Sz
  have h2 : 2 ^ s ≤ b64 ^ 1 := pow2_le_b64 (by omega)
  have h3 : 2 ^ s < b64 ^ 2 := Nat.lt_of_le_of_lt h2 ((Nat.pow_lt_pow_iff_right (by decide)).2 (by decide))
  rwa [Int.natAbs_pow]
theorem limbs_max {m : Nat} (h : m < b64 ^ 64) : (limbs m).length ≤ maxLen := by
  have := limbs_le64 h
  simp only [maxLen]
  omega
theorem sI_add (a : Bool) (m n : Nat) : sI a (m + n) = sI a m + sI a n := by
  unfold sI
  cases a <;> simp <;> omega
theorem sI_sub {a b : Bool} {m n : Nat} (h : a ≠ b) (hm : n ≤ m) : sI a (m - n) = sI a m + sI b n := by
  unfold sI
  cases a <;> cases b <;> simp at h ⊢ <;> omega
theorem sI_pow (a : Bool) (m s : Nat) : sI a (m * 2 ^ s) = sI a m * 2 ^ s := by
  unfold sI
  cases a <;> simp [Int.natCast_mul, Int.neg_mul]
theorem floor_neg {m n : Nat} (hn : 0 < n) : (-(m : Int)) / (n : Int) = (if m % n = 0 then -((m / n : Nat) : Int) else -((m / n + 1 : Nat) : Int)) ∧ (-(m : Int)) % (n : Int) = (if m % n = 0 then 0 else ((n - m % n : Nat) : Int)) := by
  have h1 := Nat.div_add_mod m n
  have h2 := Nat.mod_lt m hn
  have h3 : (n : Int) * ((m / n : Nat) : Int) + ((m % n : Nat) : Int) = (m : Int) := by rw [← Int.natCast_mul, ← Int.natCast_add, h1]
  apply (Int.ediv_emod_unique (by omega)).2
  by_cases h : m % n = 0
  · rw [if_pos h, if_pos h]
    rw [h] at h3
    refine ⟨?_, by omega, by omega⟩
    rw [Int.mul_neg]
    omega
  · rw [if_neg h, if_neg h]
    refine ⟨?_, by omega, by omega⟩
    rw [Int.mul_neg, Int.natCast_add, Int.mul_add]
    have : ((n - m % n : Nat) : Int) = (n : Int) - ((m % n : Nat) : Int) := by omega
    rw [this]
    simp only [Int.natCast_one, Int.mul_one]
    omega
def packV (n : List Int) (s g h : Int) : List Int × Int :=
  if mayV n = true ∧ 1 ≤ s ∧ s ≤ 62 then (if h < 0 ∨ 2 ^ s.toNat ≤ h then ([], 12) else encV n (ofI (g * 2 ^ s.toNat + h)).1 (ofI (g * 2 ^ s.toNat + h)).2) else ([], 1)
def divV (a b : List Int) : List Int × List Int × Int :=
  if rightB a = true ∧ rightB b = true then (if num b = 0 then ([], [], 3) else (limbs (num a / num b), limbs (num a % num b), 0)) else ([], [], 1)
theorem num_zero_iff {b : List Int} (db : Dig (b64 : Int) b) (cb : Can b) : num b = 0 ↔ b.length = 0 := by
  constructor
  · intro h
    have := limbs_num db cb
    rw [h] at this
    rw [← this, show limbs 0 = [] from toD_zero b64]
    rfl
  · intro h
    rw [List.eq_nil_of_length_eq_zero h]
    rfl
theorem num_len_le {a b : List Int} (da : Dig (b64 : Int) a) (ca : Can a) (db : Dig (b64 : Int) b) (h : num a ≤ num b) : a.length ≤ b.length := by
  have h1 := limbs_num da ca
  rw [← h1]
  exact toD_len_le b64_two (Nat.lt_of_le_of_lt h (num_lt db))
theorem div_lt_lim {m n : Nat} (hm : m < b64 ^ 30) : m / n + 1 < b64 ^ 64 := by
  have h1 : m / n ≤ m := Nat.div_le_self _ _
  have h2 : b64 ^ 30 + 1 ≤ b64 ^ 64 := (Nat.pow_lt_pow_iff_right (by decide)).2 (by decide)
  generalize b64 ^ 64 = Y at *
  generalize b64 ^ 30 = X at *
  omega
def smI (x : Int) : Int × Bool := if -9223372036854775808 ≤ x ∧ x < 9223372036854775808 then (x, true) else (0, false)
theorem small_limbs {m : Nat} (hm : m < b64 ^ 64) : smallV (limbs m) = if m < b64 then ((m : Int), true) else (0, false) := by
  unfold smallV
  by_cases h : m < b64
  · have h1 : (limbs m).length ≤ 1 := toD_len_le b64_two (by rw [Nat.pow_one]; exact h)
    rw [if_pos ⟨right_limbs' hm, h1⟩, if_pos h]
    by_cases h0 : m = 0
    · subst h0
      rw [limbs_zero]; rfl
    · have e : limbs m = [(m : Int)] := by
        unfold limbs
        rw [toD_pos b64_two (by omega), Nat.mod_eq_of_lt h, Nat.div_eq_of_lt h, toD_zero]
      rw [e]; rfl
  · rw [if_neg h, if_neg (fun e => h (by have := (toD_len_iff b64_two m 1).1 e.2; rwa [Nat.pow_one] at this))]
def decI (n v : List Int) : Int := if num v ≤ halfV n then (num v : Int) else -((num n - num v : Nat) : Int)
def unpackV (n : List Int) (s : Int) (v : List Int) : Int × Int × Int :=
  if mayV n = true ∧ 1 ≤ s ∧ s ≤ 62 then (if rightB v = true ∧ num v < num n then (if -9223372036854775808 ≤ decI n v / 2 ^ s.toNat ∧ decI n v / 2 ^ s.toNat < 9223372036854775808 then (decI n v / 2 ^ s.toNat, decI n v % 2 ^ s.toNat, 0) else (0, 0, 12)) else (0, 0, 10)) else (0, 0, 1)
theorem mod_pow_i64 (x : Int) {q : Nat} (hq : q ≤ 62) : 0 ≤ x % 2 ^ q ∧ x % 2 ^ q < 9223372036854775808 := by
  have hp : (0 : Int) < 2 ^ q := Int.pow_pos (by omega)
  have h1 := Int.emod_nonneg x (show (2 : Int) ^ q ≠ 0 by omega)
  have h2 := Int.emod_lt_of_pos x hp
  have h3 : (2 : Int) ^ q ≤ 2 ^ 62 := pow_mono (by omega) hq
  omega
theorem decV_eq {n v : List Int} (dn : Dig (b64 : Int) n) (dv : Dig (b64 : Int) v) (hm : mayV n = true) : decV n v = if rightB v = true ∧ num v < num n then ((ofI (decI n v)).1, (ofI (decI n v)).2, 0) else (false, [], 10) := by
  unfold decV decI
  rw [if_pos hm]
  by_cases h : rightB v = true ∧ num v < num n
  · rw [if_pos h, if_pos h]
    have hlt := may_lt dn hm
    have e : v = limbs (num v) := (limbs_num dv ((rightB_iff v).1 h.1).2).symm
    by_cases hh : num v ≤ halfV n
    · rw [if_pos hh, if_pos hh]
      have h1 : fromV false v = ofI (num v : Int) := by
        conv => lhs; rw [e]
        rw [fromV_s (Nat.lt_trans h.2 hlt)]
        rfl
      rw [h1]
    · rw [if_neg hh, if_neg hh]
      have h1 : fromV true (limbs (num n - num v)) = ofI (-((num n - num v : Nat) : Int)) := by
        rw [fromV_s (Nat.lt_of_le_of_lt (Nat.sub_le _ _) hlt)]
        rfl
      rw [h1]
  · rw [if_neg h, if_neg h]
theorem may_lt8 {n : List Int} (dn : Dig (b64 : Int) n) (h : mayV n = true) : num n < b64 ^ 8 := by
  obtain ⟨h1, h2, _⟩ := (mayV_iff n).1 h
  exact Nat.lt_of_lt_of_le (num_lt dn) (Nat.pow_le_pow_right (show b64 > 0 by decide) h2)
theorem decI_sz {n v : List Int} (dn : Dig (b64 : Int) n) (hm : mayV n = true) (hv : num v < num n) : Sz 8 (decI n v) := by
  have := may_lt8 dn hm
  unfold Sz decI
  split <;> omega
theorem smI_of (x : Int) : smI x = if -9223372036854775808 ≤ x ∧ x < 9223372036854775808 then (x, true) else (0, false) := rfl
theorem Sz.ediv {j : Nat} {x y : Int} (h : Sz j x) (hy : 0 < y) : Sz (j + 1) (x / y) := by
  unfold Sz at h ⊢
  have h1 := Int.natAbs_ediv_le_natAbs x y
  have h2 : b64 ^ j ≤ b64 ^ (j + 1) := Nat.pow_le_pow_right (by decide) (by omega)
  omega
theorem int_canon {a : Bool} {l : List Int} (d : Dig (b64 : Int) l) (h : intR a l = true) : (a, l) = ofI (sI a (num l)) := by
  unfold intR at h
  simp only [Bool.and_eq_true, Bool.or_eq_true, Bool.not_eq_true', decide_eq_true_eq] at h
  have e := limbs_num d ((rightB_iff l).1 h.1).2
  unfold ofI
  rw [sI_abs, e]
  unfold sI
  cases a with
  | false => simp
  | true =>
    rcases h.2 with h2 | h2
    · cases h2
    · have : num l ≠ 0 := fun e0 => by
        rw [e0, limbs_zero] at e
        rw [← e] at h2
        simp at h2
      simp
      omega
theorem encV_int {n : List Int} {x : Int} (dn : Dig (b64 : Int) n) (hm : mayV n = true) (hx : x.natAbs < b64 ^ 64) : encV n (ofI x).1 (ofI x).2 = if x.natAbs ≤ halfV n then (limbs (if x < 0 then num n - x.natAbs else x.natAbs), 0) else ([], 12) := by
  unfold encV
  rw [if_pos ⟨hm, intR_of hx⟩]
  have e : num (ofI x).2 = x.natAbs := num_limbs _
  rw [e]
  by_cases h : x.natAbs ≤ halfV n
  · rw [if_pos h, if_pos h]
    by_cases hn : x < 0
    · rw [if_pos hn, if_pos (show (ofI x).1 = true from decide_eq_true hn)]
    · rw [if_neg hn, if_neg (show ¬ (ofI x).1 = true from by simpa [ofI] using hn)]
      rfl
  · rw [if_neg h, if_neg h]
theorem enc_back {n : List Int} {x : Int} (dn : Dig (b64 : Int) n) (hm : mayV n = true) (hx : x.natAbs ≤ halfV n) (v : List Int) (hv : v = limbs (if x < 0 then num n - x.natAbs else x.natAbs)) : rightB v = true ∧ num v < num n ∧ decI n v = x := by
  have hlt := may_lt dn hm
  obtain ⟨_, _, h3⟩ := (mayV_iff n).1 hm
  have hh : halfV n = (num n - 1) / 2 := rfl
  subst hv
  by_cases hn : x < 0
  · rw [if_pos hn]
    refine ⟨right_limbs' (Nat.lt_of_le_of_lt (Nat.sub_le _ _) hlt), by rw [num_limbs]; omega, ?_⟩
    unfold decI
    rw [num_limbs, if_neg (by omega)]
    omega
  · rw [if_neg hn]
    refine ⟨right_limbs' (by omega), by rw [num_limbs]; omega, ?_⟩
    unfold decI
    rw [num_limbs, if_pos hx]
    omega
theorem pack_parts {n : List Int} {s g h : Int} (dn : Dig (b64 : Int) n) (hg0 : -9223372036854775808 ≤ g) (hg1 : g < 9223372036854775808) (hh0 : -9223372036854775808 ≤ h) (hh1 : h < 9223372036854775808) (he : (packV n s g h).2 = 0) :
    mayV n = true ∧ 1 ≤ s ∧ s ≤ 62 ∧ 0 ≤ h ∧ h < 2 ^ s.toNat ∧ (g * 2 ^ s.toNat + h).natAbs ≤ halfV n ∧ (packV n s g h).1 = limbs (if g * 2 ^ s.toNat + h < 0 then num n - (g * 2 ^ s.toNat + h).natAbs else (g * 2 ^ s.toNat + h).natAbs) := by
  unfold packV at he ⊢
  by_cases hc : mayV n = true ∧ 1 ≤ s ∧ s ≤ 62
  · rw [if_pos hc] at he ⊢
    obtain ⟨hm, h1, h2⟩ := hc
    by_cases hb : h < 0 ∨ 2 ^ s.toNat ≤ h
    · rw [if_pos hb] at he; cases he
    · rw [if_neg hb] at he ⊢
      have z1 := Sz.mul (Sz.i64 hg0 hg1) (Sz.pow (s := s.toNat) (by omega))
      have z3 := Sz.add z1 (Sz.mono (Sz.i64 hh0 hh1) (show 1 ≤ 3 by omega))
      rw [encV_int dn hm (z3.smI (by omega)).lt] at he ⊢
      by_cases hx : (g * 2 ^ s.toNat + h).natAbs ≤ halfV n
      · rw [if_pos hx] at he ⊢
        exact ⟨hm, h1, h2, by omega, by omega, hx, rfl⟩
      · rw [if_neg hx] at he; cases he
  · rw [if_neg hc] at he; cases he
theorem split_div {g h : Int} {q : Nat} (h0 : 0 ≤ h) (h1 : h < 2 ^ q) : (g * 2 ^ q + h) / 2 ^ q = g ∧ (g * 2 ^ q + h) % 2 ^ q = h := by
  have hp : (0 : Int) < 2 ^ q := Int.pow_pos (by omega)
  apply (Int.ediv_emod_unique hp).2
  refine ⟨?_, h0, h1⟩
  rw [Int.mul_comm g]
  omega
theorem pack_back {n : List Int} {s g h : Int} (dn : Dig (b64 : Int) n) (hg0 : -9223372036854775808 ≤ g) (hg1 : g < 9223372036854775808) (hh0 : -9223372036854775808 ≤ h) (hh1 : h < 9223372036854775808) (he : (packV n s g h).2 = 0) : unpackV n s (packV n s g h).1 = (g, h, 0) := by
  obtain ⟨hm, h1, h2, h3, h4, h5, h6⟩ := pack_parts dn hg0 hg1 hh0 hh1 he
  obtain ⟨e1, e2, e3⟩ := enc_back dn hm h5 _ h6
  obtain ⟨d1, d2⟩ := split_div (g := g) h3 h4
  unfold unpackV
  rw [if_pos ⟨hm, h1, h2⟩, if_pos ⟨e1, e2⟩, e3, d1, d2, if_pos ⟨hg0, hg1⟩]
end Go.Proofs.Ytgeanpnkllnipab.Z
end
section
namespace Go.Proofs.Ytgeanpnkllnipab.Z
open Go.RowKit Go.Proofs.YtgeanpnkllnipabW.PrintWords Go.Proofs.YtgeanpnkllnipabW.PrintMore
set_option linter.unusedSimpArgs false
set_option linter.unusedVariables false
def downL (s : Nat) : List Int → List Int
  | [] => []
  | x :: l => (x / 2 ^ s + (if s = 0 then 0 else (l.getD 0 0 * 2 ^ (64 - s)) % 18446744073709551616)) :: downL s l
theorem downL_facts (s : Nat) (hs : s < 64) (l : List Int) (d : Dig (b64 : Int) l) : Dig (b64 : Int) (downL s l) ∧ (downL s l).length = l.length ∧ val (b64 : Int) (downL s l) * 2 ^ s + l.getD 0 0 % 2 ^ s = val (b64 : Int) l := by
  have hB : (b64 : Int) = 18446744073709551616 := rfl
  have hps := pow2_pos s
  induction l with
  | nil => exact ⟨Dig.nil, rfl, by simp [downL, val]⟩
  | cons x l ih =>
    have d1 := Dig.cons.1 d
    obtain ⟨i1, i2, i3⟩ := ih d1.2
    have rx := d1.1
    have ry := d1.2.getD b64_pos 0
    rw [hB] at rx ry
    by_cases h0 : s = 0
    · subst h0
      simp only [downL, Int.pow_zero, Int.ediv_one, if_true, Int.add_zero] at i3 ⊢
      refine ⟨Dig.cons.2 ⟨by rw [hB]; exact rx, i1⟩, by simp [i2], ?_⟩
      simp only [val, List.getD_cons_zero, Int.emod_one, Int.add_zero, Int.mul_one] at i3 ⊢
      rw [i3]
    · have hp64 := pow64_split (s := s) (by omega)
      have hq := pow2_pos (64 - s)
      obtain ⟨f1, f2, f3, f4⟩ := shl_facts ry (s := 64 - s) (by omega)
      rw [show 64 - (64 - s) = s from by omega] at f1 f3 f4
      simp only [downL, if_neg h0]
      have e1 := Int.emod_add_mul_ediv x (2 ^ s)
      have e2 := Int.emod_nonneg x (show (2 : Int) ^ s ≠ 0 by omega)
      have e3 := Int.emod_lt_of_pos x hps
      have e4 := Int.emod_add_mul_ediv (l.getD 0 0) (2 ^ s)
      generalize hz : (l.getD 0 0 * 2 ^ (64 - s)) % 18446744073709551616 = z at *
      generalize hxd : x / 2 ^ s = xd at *
      generalize hyd : l.getD 0 0 / 2 ^ s = yd at *
      generalize l.getD 0 0 = y at *
      have hxd1 : xd < 2 ^ (64 - s) := by
        rw [← hxd]
        apply Int.ediv_lt_of_lt_mul hps
        rw [Int.mul_comm, hp64]
        exact rx.2
      have hxd0 : 0 ≤ xd := by rw [← hxd]; exact Int.ediv_nonneg rx.1 (by omega)
      obtain ⟨t, ht⟩ := Int.dvd_of_emod_eq_zero f2
      have hz0 : 0 ≤ z := by omega
      have hz1 : z < 18446744073709551616 := by omega
      refine ⟨Dig.cons.2 ⟨?_, i1⟩, by simp [i2], ?_⟩
      · rw [hB]
        refine ⟨by omega, ?_⟩
        have ht2 : t < 2 ^ s := by
          refine Int.not_le.1 (fun hle => ?_)
          have := Int.mul_le_mul_of_nonneg_left hle (Int.le_of_lt hq)
          rw [Int.mul_comm ((2 : Int) ^ (64 - s)) (2 ^ s), hp64] at this
          omega
        have h5 : 2 ^ (64 - s) * (t + 1) ≤ (2 : Int) ^ (64 - s) * 2 ^ s := Int.mul_le_mul_of_nonneg_left (by omega) (by omega)
        rw [Int.mul_comm ((2 : Int) ^ (64 - s)) (2 ^ s), hp64, Int.mul_add] at h5
        omega
      · simp only [val, List.getD_cons_zero]
        rw [hB] at i3 ⊢
        generalize val 18446744073709551616 (downL s l) = vd at *
        generalize val 18446744073709551616 l = vl at *
        generalize x % 2 ^ s = xm at *
        generalize y % 2 ^ s = ym at *
        have hP : (2 : Int) ^ (64 - s) * 2 ^ s = 18446744073709551616 := by rw [Int.mul_comm]; exact hp64
        generalize (2 : Int) ^ s = P at *
        generalize (2 : Int) ^ (64 - s) = Q at *
        have e5 : (xd + z + 18446744073709551616 * vd) * P + xm = P * xd + xm + (z * P + 18446744073709551616 * (vd * P)) := by grind
        rw [e5]
        have e6 : z = y * Q - 18446744073709551616 * yd := by omega
        have e7 : z * P = 18446744073709551616 * ym := by
          rw [e6, ← e4, ← hP]
          grind
        rw [e7]
        omega
theorem num_drop {a : List Int} (da : Dig (b64 : Int) a) (m : Nat) (hm : m ≤ a.length) : num (a.drop m) = num a / b64 ^ m := by
  have h1 := num_val da
  have h2 := num_val (da.drop m)
  have h3 := num_val (da.take m)
  have h4 := num_lt (da.take m)
  have h5 := val_append (b64 : Int) (a.take m) (a.drop m)
  rw [List.take_append_drop, ← h1, ← h2, ← h3, List.length_take, show min m a.length = m from by omega, pow_cast] at h5
  rw [List.length_take, show min m a.length = m from by omega] at h4
  have h6 : num a = num (a.take m) + b64 ^ m * num (a.drop m) := by
    have : ((num (a.take m) + b64 ^ m * num (a.drop m) : Nat) : Int) = (num (a.take m) : Int) + ((b64 ^ m : Nat) : Int) * (num (a.drop m) : Int) := by simp
    omega
  rw [h6, Nat.add_mul_div_left _ _ (Nat.pow_pos (by decide)), Nat.div_eq_of_lt h4, Nat.zero_add]
theorem num_down {a : List Int} (da : Dig (b64 : Int) a) (s : Nat) (hs : s < 64) : num (downL s a) = num a / 2 ^ s := by
  obtain ⟨d, _, e⟩ := downL_facts s hs a da
  have h1 := num_val d
  have h2 := num_val da
  have hp := pow2_pos s
  have hr0 := Int.emod_nonneg (a.getD 0 0) (show (2 : Int) ^ s ≠ 0 by omega)
  have hr1 := Int.emod_lt_of_pos (a.getD 0 0) hp
  rw [← h1, ← h2] at e
  generalize a.getD 0 0 % 2 ^ s = r at *
  obtain ⟨r', rfl⟩ := Int.eq_ofNat_of_zero_le hr0
  have hP : (2 : Int) ^ s = ((2 ^ s : Nat) : Int) := by simp
  rw [hP] at e hr1
  have e2 : num a = r' + 2 ^ s * num (downL s a) := by
    have : ((r' + 2 ^ s * num (downL s a) : Nat) : Int) = (r' : Int) + ((2 ^ s : Nat) : Int) * (num (downL s a) : Int) := by simp
    rw [Int.mul_comm] at e
    omega
  rw [e2, Nat.add_mul_div_left _ _ (Nat.pow_pos (by decide)), Nat.div_eq_of_lt (by omega), Nat.zero_add]
end Go.Proofs.Ytgeanpnkllnipab.Z
end
section
namespace Go.Proofs.Ytgeanpnkllnipab.Z
open Go.RowKit Go.Proofs.Ytgeanpnkllnipab.F Go.Proofs.YtgeanpnkllnipabW.PrintWords Go.Proofs.YtgeanpnkllnipabW.PrintMore
set_option linter.unusedSimpArgs false
set_option linter.unusedVariables false
def shrV (a : List Int) (n : Int) : List Int × Int :=
  if rightB a = true ∧ 0 ≤ n then (limbs (num a / 2 ^ n.toNat), 0) else ([], 1)
theorem nat_Shr_loop (a : List Int) (da : Dig (b64 : Int) a) (ha : a.length ≤ 100000) (s : Nat) (hs : s < 64) {r : List Int × Int} (fin : Evt (fun k => nat_told.f k (downL s a)) r) (n : Nat) :
    ∀ (i : Nat) (p : List Int), a.length - i = n → i ≤ a.length → p.length = i → p ++ downL s (a.drop i) = downL s a →
      Evt (fun k => nat_Shr.l0 k a (s : Int) (p ++ List.replicate n 0) (a.length : Int) (i : Int)) (r.1, r.2) := by
  induction n with
  | zero =>
    intro i p hn hi hp he
    refine Evt.succ ?_
    simp only [nat_Shr.l0]
    refine Evt.ite_neg (by omega) ?_
    rw [List.drop_of_length_le (by omega)] at he
    simp only [downL, List.append_nil] at he
    rw [List.replicate_zero, List.append_nil, he]
    exact Evt.bind fin (h := fun t _ => some (t.1, t.2)) (Evt.pure _)
  | succ n ih =>
    intro i p hn hi hp he
    have hlt : i < a.length := by omega
    have rx := da a[i] (List.getElem_mem hlt)
    have ry := (da.drop (i + 1)).getD b64_pos 0
    have hB : (b64 : Int) = 18446744073709551616 := rfl
    rw [hB] at rx ry
    rw [List.drop_eq_getElem_cons hlt] at he
    simp only [downL] at he
    have hx : rd a (i : Int) = a[i] := by simp [rd_nat, hlt]
    refine Evt.succ ?_
    simp only [nat_Shr.l0]
    refine Evt.ite_pos (by omega) (Evt.ite_pos (by omega) (Evt.ite_pos (by omega) (Evt.ite_pos (by omega) (Evt.ite_pos (by simp; omega) ?_))))
    refine Evt.bind (Evt.pure _) ?_
    rw [hx, shr_u64 _ s (by omega), show ((i : Int)).toNat = p.length from by omega, List.replicate_succ, set_at, w64 (show -9223372036854775808 ≤ (i : Int) + 1 by omega) (by omega)]
    have hps := pow2_pos s
    have hxd0 : 0 ≤ a[i] / 2 ^ s := Int.ediv_nonneg rx.1 (by omega)
    by_cases h0 : s = 0
    · refine Evt.ite_neg (by omega) ?_
      rw [if_pos h0, Int.add_zero] at he
      refine (ih (i + 1) (p ++ [a[i] / 2 ^ s]) (by omega) (by omega) (by simp; omega) (by rw [List.append_assoc]; exact he)).congr (fun k => ?_) rfl
      rw [List.append_assoc]; rfl
    · refine Evt.ite_pos (by omega) ?_
      rw [if_neg h0] at he
      by_cases h1 : i + 1 < a.length
      · refine Evt.ite_pos (by omega) (Evt.ite_pos (by omega) (Evt.ite_pos (by rw [wu64_of (by omega) (by omega)]; omega) ?_))
        have hy : rd a ((i : Int) + 1) = a[i + 1] := by
          rw [show (i : Int) + 1 = ((i + 1 : Nat) : Int) from by omega, rd_nat]
          simp [List.getD_eq_getElem?_getD, h1]
        have hy2 : (a.drop (i + 1)).getD 0 0 = a[i + 1] := by simp [List.getD_eq_getElem?_getD, h1]
        have hg : rd (p ++ a[i] / 2 ^ s :: List.replicate n 0) (i : Int) = a[i] / 2 ^ s := by
          rw [rd_nat]
          simp [List.getD_eq_getElem?_getD, ← hp]
        rw [hy2] at he ry
        obtain ⟨f1, f2, f3, f4⟩ := shl_facts ry (s := 64 - s) (by omega)
        have hxd1 : a[i] / 2 ^ s < 2 ^ (64 - s) := by
          apply Int.ediv_lt_of_lt_mul hps
          rw [Int.mul_comm, pow64_split (by omega)]
          exact rx.2
        have hz0 : 0 ≤ (a[i + 1] * 2 ^ (64 - s)) % 18446744073709551616 := by omega
        have hz1 : (a[i + 1] * 2 ^ (64 - s)) % 18446744073709551616 < 18446744073709551616 := by omega
        have hq64 : (2 : Int) ^ (64 - s) ≤ 2 ^ 64 := pow_mono (by omega) (by omega)
        rw [hy, hg, wu64_of (show (0 : Int) ≤ 64 - (s : Int) by omega) (by omega), show (64 : Int) - (s : Int) = ((64 - s : Nat) : Int) from by omega, shl_u64 _ (64 - s) (by omega), set_at, or_comm_u64 hxd0 (by omega) hz0 hz1, or_u64 (64 - s) (by omega) hz0 f2 hz1 hxd0 hxd1]
        refine (ih (i + 1) (p ++ [(a[i + 1] * 2 ^ (64 - s)) % 18446744073709551616 + a[i] / 2 ^ s]) (by omega) (by omega) (by simp; omega) (by rw [List.append_assoc, Int.add_comm ((a[i + 1] * 2 ^ (64 - s)) % 18446744073709551616)]; exact he)).congr (fun k => ?_) rfl
        rw [List.append_assoc]; rfl
      · refine Evt.ite_neg (by omega) ?_
        have hy2 : (a.drop (i + 1)).getD 0 0 = 0 := by rw [List.drop_of_length_le (by omega)]; rfl
        rw [hy2, Int.zero_mul, Int.zero_emod, Int.add_zero] at he
        refine (ih (i + 1) (p ++ [a[i] / 2 ^ s]) (by omega) (by omega) (by simp; omega) (by rw [List.append_assoc]; exact he)).congr (fun k => ?_) rfl
        rw [List.append_assoc]; rfl
theorem nat_Shr_ev (a : List Int) (n : Int) (ha : a.length ≤ maxLen) (da : Dig (b64 : Int) a) (hn9 : n < 9223372036854775808) : Evt (fun k => nat_Shr.f k a n) (shrV a n) := by
  unfold nat_Shr.f shrV
  rw [nat_Right_eq ha]
  simp only [Option.bind_some]
  have J : ∀ x : Bool, (x = false → rightB a = true ∧ 0 ≤ n) → Evt (fun k => nat_Shr.j0 k a n x) (if x = true then ([], 1) else (limbs (num a / 2 ^ n.toNat), 0)) := by
    intro x hx
    refine Evt.succ ?_
    simp only [nat_Shr.j0]
    refine Evt.cond (fun _ => Evt.pure _) (fun hc => ?_)
    have h := hx (by simpa using hc)
    obtain ⟨h1, c1⟩ := (rightB_iff a).1 h.1
    obtain ⟨m, rfl⟩ := Int.eq_ofNat_of_zero_le h.2
    rw [show ((m : Int)).toNat = m from Int.toNat_natCast m]
    have e1 : Int.tdiv (m : Int) 64 = ((m / 64 : Nat) : Int) := by rw [Int.tdiv_eq_ediv_of_nonneg (by omega)]; omega
    rw [e1, w64 (show -9223372036854775808 ≤ ((m / 64 : Nat) : Int) by omega) (by omega)]
    have hp := num_lt_p da h1
    by_cases hlen : a.length ≤ m / 64
    · have e : num a / 2 ^ m = 0 := by
        apply Nat.div_eq_of_lt
        exact Nat.lt_of_lt_of_le (num_lt da) (b64_le_pow2 (by omega))
      rw [e, show limbs 0 = [] from toD_zero b64]
      exact Evt.ite_pos (by omega) (Evt.pure _)
    · have e2 : IntKind.u64.wrap (Int.tmod (m : Int) 64) = ((m % 64 : Nat) : Int) := by
        rw [Int.tmod_eq_emod_of_nonneg (by omega), wu64_of (by omega) (by omega)]; omega
      rw [e2, Int.toNat_natCast]
      refine Evt.ite_neg (by omega) (Evt.ite_pos (by omega) (Evt.ite_pos (by omega) (Evt.ite_pos (by omega) (Evt.ite_pos (by simp; omega) ?_))))
      have dd := da.drop (m / 64)
      obtain ⟨g1, g2, g3⟩ := downL_facts (m % 64) (by omega) (a.drop (m / 64)) dd
      have hnum : num (downL (m % 64) (a.drop (m / 64))) = num a / 2 ^ m := by
        rw [num_down dd _ (by omega), num_drop da _ (by omega), b64_pow2, Nat.div_div_eq_div_mul, ← Nat.pow_add, show 64 * (m / 64) + m % 64 = m from by omega]
      have h3 : num a / 2 ^ m ≤ num a := Nat.div_le_self _ _
      have ht := nat_told_ev (downL (m % 64) (a.drop (m / 64))) (by rw [g2]; simp; omega) g1
      have e : toldV (num a / 2 ^ m) = (limbs (num a / 2 ^ m), 0) := if_pos (Nat.lt_of_le_of_lt h3 hp)
      rw [hnum, e] at ht
      refine (nat_Shr_loop (a.drop (m / 64)) dd (by simp; omega) (m % 64) (by omega) ht (a.drop (m / 64)).length 0 [] (by omega) (by omega) rfl (by simp)).congr (fun k => ?_) rfl
      rw [Int.toNat_natCast]
      rfl
  cases hA : rightB a with
  | true =>
    refine Evt.ite_pos rfl ((J _ (fun h => ⟨hA, by simpa using h⟩)).congr (fun k => rfl) ?_)
    by_cases hn : n < 0
    · rw [decide_eq_true hn, if_pos rfl, if_neg (show ¬ (true = true ∧ 0 ≤ n) by omega)]
    · rw [decide_eq_false hn, if_neg (by simp), if_pos (show true = true ∧ 0 ≤ n from ⟨rfl, by omega⟩)]
  | false =>
    refine Evt.ite_neg (by simp) ((J _ (fun h => by simp at h)).congr (fun k => rfl) ?_)
    simp
end Go.Proofs.Ytgeanpnkllnipab.Z
end
section
namespace Go.Proofs.Ytgeanpnkllnipab.Z
open Go.RowKit Go.Proofs.Ytgeanpnkllnipab.F Go.Proofs.YtgeanpnkllnipabW.PrintWords
set_option linter.unusedSimpArgs false
set_option linter.unusedVariables false
theorem may_ev (n : List Int) (hn : n.length ≤ maxLen) (dn : Dig (b64 : Int) n) : Evt (fun k => fixenc_modulus_may.f k n) (mayV n) := by
  unfold fixenc_modulus_may.f mayV
  rw [nat_Right_eq hn]
  simp only [Option.bind_some]
  cases hR : rightB n with
  | false => exact Evt.ite_neg (by simp) (Evt.pure _)
  | true =>
    refine Evt.ite_pos rfl ?_
    by_cases h8 : n.length ≤ 8
    · refine Evt.ite_pos (by omega) ?_
      have d3 : Dig (b64 : Int) [3] := dig_one (by omega) (by omega)
      refine (Evt.bind (nat_Cmp_ev n [3] hn (by simp [maxLen]) dn d3) (h := fun t _ => some (decide (t ≥ 0))) (Evt.pure _)).congr (fun k => rfl) ?_
      unfold cmpV
      rw [if_pos ⟨hR, right_one (by omega)⟩, cmpN_ge, num_one (by omega)]
      simp [h8]
    · refine Evt.ite_neg (by omega) ((Evt.pure _).congr (fun k => rfl) ?_)
      simp [h8]
theorem half_ev (n : List Int) (dn : Dig (b64 : Int) n) (hm : mayV n = true) : Evt (fun k => fixenc_modulus_half.f k n) (limbs (halfV n)) := by
  obtain ⟨hR, h8, h3⟩ := (mayV_iff n).1 hm
  have hlt := may_lt dn hm
  unfold fixenc_modulus_half.f
  have hs := nat_Shr_ev n 1 (by simp only [maxLen]; omega) dn (by omega)
  unfold shrV at hs
  rw [if_pos ⟨hR, by omega⟩] at hs
  refine Evt.bind hs ?_
  refine Evt.bind (Evt.of (fun _ => nat_Bit_eq n 0 (by simp only [maxLen]; omega) dn (by omega))) ?_
  have h0 : n.length ≠ 0 := by
    intro h
    rw [List.eq_nil_of_length_eq_zero h] at h3
    simp [num, val] at h3
  obtain ⟨x, l, rfl⟩ : ∃ x l, n = x :: l := by
    cases n with
    | nil => simp at h0
    | cons x l => exact ⟨x, l, rfl⟩
  have hx := (Dig.cons.1 dn).1
  have hb : bitV (x :: l) 0 = decide (num (x :: l) % 2 = 1) := by
    unfold bitV
    rw [hR, num_cons dn]
    have hB : b64 = 18446744073709551616 := rfl
    rw [hB] at hx ⊢
    simp
    have h1 : (0 : Int) < (l.length : Int) + 1 := by omega
    by_cases h2 : x % 2 = 1
    · have : (x.toNat + 18446744073709551616 * num l) % 2 = 1 := by omega
      simp [h1, h2, this]
    · have h4 : ¬ (x.toNat + 18446744073709551616 * num l) % 2 = 1 := by omega
      simp [h2, h4]
  rw [hb]
  by_cases hp : num (x :: l) % 2 = 1
  · refine Evt.ite_pos (by simpa using hp) ((Evt.pure _).congr (fun k => rfl) ?_)
    unfold halfV
    rw [show (2 : Nat) ^ (1 : Int).toNat = 2 from rfl, show num (x :: l) / 2 = (num (x :: l) - 1) / 2 by omega]
  · refine Evt.ite_neg (by simpa using hp) ?_
    have d1 : Dig (b64 : Int) [1] := dig_one (by omega) (by omega)
    have hv : num (x :: l) / 2 ^ (1 : Int).toNat = num (x :: l) / 2 := rfl
    have hlt2 : num (x :: l) / 2 < b64 ^ 64 := Nat.lt_of_le_of_lt (Nat.div_le_self _ _) hlt
    have hsub := nat_Sub_ev (limbs (num (x :: l) / 2)) [1] (by have := limbs_le64 hlt2; simp only [maxLen]; omega) (by simp [maxLen]) (dig_limbs' _) d1
    rw [hv]
    refine (Evt.bind hsub (h := fun t _ => some t.1) (Evt.pure _)).congr (fun k => rfl) ?_
    unfold subV halfV
    rw [if_pos ⟨right_limbs' hlt2, right_one (by omega)⟩, num_limbs, num_one (by omega), if_neg (by omega), show num (x :: l) / 2 - (1 : Int).toNat = (num (x :: l) - 1) / 2 by omega]
theorem fits_ev (n x : List Int) (dn : Dig (b64 : Int) n) (dx : Dig (b64 : Int) x) (hm : mayV n = true) (hx : rightB x = true) : Evt (fun k => fixenc_fits.f k n x) (decide (num x ≤ halfV n)) := by
  obtain ⟨hR, h8, h3⟩ := (mayV_iff n).1 hm
  have hlt := may_lt dn hm
  obtain ⟨hx1, _⟩ := (rightB_iff x).1 hx
  have hh : halfV n < b64 ^ 64 := by unfold halfV; omega
  unfold fixenc_fits.f
  refine Evt.bind (half_ev n dn hm) ?_
  refine (Evt.bind (nat_Cmp_ev x (limbs (halfV n)) (by simp only [maxLen]; omega) (by have := limbs_le64 hh; simp only [maxLen]; omega) dx (dig_limbs' _)) (h := fun t _ => some (decide (t ≤ 0))) (Evt.pure _)).congr (fun k => rfl) ?_
  unfold cmpV
  rw [if_pos ⟨hx, right_limbs' hh⟩, cmpN_le, num_limbs]
theorem modint_Right_eq (a : Bool) (l : List Int) (h : l.length ≤ maxLen) : modint_Right.f a l = some (intR a l) := by
  unfold modint_Right.f intR
  rw [nat_Right_eq h]
  cases hR : rightB l <;> cases a <;> simp
theorem clone7 (l : List Int) (h : l.length ≤ 100000) : api_Nat_uint64.f l = some l := by
  unfold api_Nat_uint64.f
  simp only [Option.bind_some, List.nil_append, List.length_nil]
  rw [if_pos (by omega)]
theorem modint_From_eq (a : Bool) (l : List Int) (h : l.length ≤ 64) : modint_From.f a l = some (fromV a l) := by
  unfold modint_From.f fromV
  rw [nat_Right_eq (by simp only [maxLen]; omega), clone7 l (by omega)]
  cases hR : rightB l with
  | false => simp
  | true =>
    by_cases h0 : l.length = 0
    · simp [h0]
    · have : ¬ l = [] := fun e => h0 (by rw [e]; rfl)
      simp [this]
theorem fix_Encode_ev (n : List Int) (a : Bool) (x : List Int) (hn : n.length ≤ maxLen) (hx : x.length ≤ maxLen) (dn : Dig (b64 : Int) n) (dx : Dig (b64 : Int) x) : Evt (fun k => fixenc_Encode.f k n a x) (encV n a x) := by
  unfold fixenc_Encode.f encV
  have J : ∀ b : Bool, (b = false → mayV n = true ∧ intR a x = true) → Evt (fun k => fixenc_Encode.j0 k n b a x) (if b = true then ([], 1) else (if num x ≤ halfV n then (if a = true then (limbs (num n - num x), 0) else (x, 0)) else ([], 12))) := by
    intro b hb
    refine Evt.succ ?_
    simp only [fixenc_Encode.j0]
    refine Evt.cond (fun _ => Evt.pure _) (fun hc => ?_)
    obtain ⟨hm, hi⟩ := hb (by simpa using hc)
    have hR : rightB x = true := by unfold intR at hi; simp only [Bool.and_eq_true] at hi; exact hi.1
    obtain ⟨hx1, cx⟩ := (rightB_iff x).1 hR
    obtain ⟨hRn, h8, h3⟩ := (mayV_iff n).1 hm
    have hlt := may_lt dn hm
    refine Evt.bind (fits_ev n x dn dx hm hR) ?_
    by_cases hf : num x ≤ halfV n
    · rw [if_pos hf]
      refine Evt.ite_pos (by simpa using hf) ?_
      have hxn : num x < num n := by unfold halfV at hf; omega
      cases a with
      | true =>
        refine Evt.ite_pos rfl ?_
        have hs := nat_Sub_ev n x hn hx dn dx
        unfold subV at hs
        rw [if_pos ⟨hRn, hR⟩, if_neg (by omega)] at hs
        exact Evt.bind hs (h := fun t _ => some (t.1, t.2)) (Evt.pure _)
      | false =>
        refine Evt.ite_neg (by simp) ?_
        have hs := nat_Add_ev x [] hx (by simp) dx Dig.nil
        unfold addV toldV at hs
        rw [if_pos ⟨hR, by decide⟩, num_nil, Nat.add_zero, if_pos (by omega), limbs_num dx cx] at hs
        exact Evt.bind hs (h := fun t _ => some (t.1, t.2)) (Evt.pure _)
    · rw [if_neg hf]
      exact Evt.ite_neg (by simpa using hf) (Evt.pure _)
  refine Evt.bind (may_ev n hn dn) ?_
  cases hm : mayV n with
  | false =>
    refine Evt.ite_neg (by simp) ((J true (by simp)).congr (fun k => rfl) ?_)
    simp
  | true =>
    refine Evt.ite_pos rfl ?_
    refine Evt.bind (Evt.of (fun _ => modint_Right_eq a x hx)) ?_
    refine (J (!intR a x) (fun h => ⟨hm, by simpa using h⟩)).congr (fun k => rfl) ?_
    cases hi : intR a x <;> simp
theorem fix_Decode_ev (n v : List Int) (hn : n.length ≤ maxLen) (hv : v.length ≤ maxLen) (dn : Dig (b64 : Int) n) (dv : Dig (b64 : Int) v) : Evt (fun k => fixenc_Decode.f k n v) (decV n v) := by
  unfold fixenc_Decode.f decV
  refine Evt.bind (may_ev n hn dn) ?_
  cases hm : mayV n with
  | false => exact Evt.ite_neg (by simp) ((Evt.pure _).congr (fun k => rfl) (by simp))
  | true =>
    obtain ⟨hRn, h8, h3⟩ := (mayV_iff n).1 hm
    have hlt := may_lt dn hm
    have J : ∀ b : Bool, (b = false → rightB v = true ∧ num v < num n) → Evt (fun k => fixenc_Decode.j0 k n v b) (if b = true then (false, [], 10) else (if num v ≤ halfV n then ((fromV false v).1, (fromV false v).2, 0) else ((fromV true (limbs (num n - num v))).1, (fromV true (limbs (num n - num v))).2, 0))) := by
      intro b hb
      refine Evt.succ ?_
      simp only [fixenc_Decode.j0]
      refine Evt.cond (fun _ => Evt.pure _) (fun hc => ?_)
      obtain ⟨hR, hvn⟩ := hb (by simpa using hc)
      obtain ⟨hv1, cv⟩ := (rightB_iff v).1 hR
      refine Evt.bind (fits_ev n v dn dv hm hR) ?_
      by_cases hf : num v ≤ halfV n
      · rw [if_pos hf]
        refine Evt.ite_pos (by simpa using hf) ?_
        exact Evt.bind (Evt.of (fun _ => modint_From_eq false v hv1)) (h := fun t _ => some (t.1, t.2, (0 : Int))) (Evt.pure _)
      · rw [if_neg hf]
        refine Evt.ite_neg (by simpa using hf) ?_
        have hs := nat_Sub_ev n v hn hv dn dv
        unfold subV at hs
        rw [if_pos ⟨hRn, hR⟩, if_neg (by omega)] at hs
        refine Evt.bind hs ?_
        exact Evt.bind (Evt.of (fun _ => modint_From_eq true (limbs (num n - num v)) (limbs_le64 (Nat.lt_of_le_of_lt (Nat.sub_le _ _) hlt)))) (h := fun t _ => some (t.1, t.2, (0 : Int))) (Evt.pure _)
    refine Evt.ite_pos rfl ?_
    refine Evt.bind (Evt.of (fun _ => nat_Right_eq hv)) ?_
    cases hR : rightB v with
    | false =>
      refine Evt.ite_neg (by simp) ((J true (by simp)).congr (fun k => rfl) ?_)
      simp
    | true =>
      refine Evt.ite_pos rfl ?_
      refine Evt.bind (nat_Cmp_ev v n hv hn dv dn) ?_
      unfold cmpV
      rw [if_pos ⟨hR, hRn⟩, cmpN_ge]
      refine (J (decide (num n ≤ num v)) (fun h => ⟨hR, by simpa using h⟩)).congr (fun k => rfl) ?_
      by_cases hvn : num n ≤ num v
      · have : ¬ num v < num n := by omega
        simp [hvn, this]
      · have : num v < num n := by omega
        simp [hvn, this]
theorem awake_ev : Evt (fun k => windbreaklaw07_awake.f k) true := by
  have d101 : Dig (b64 : Int) [101] := dig_one (by omega) (by omega)
  have d1 : Dig (b64 : Int) [1] := dig_one (by omega) (by omega)
  have d100 : Dig (b64 : Int) [100] := dig_one (by omega) (by omega)
  have e1 : encV [101] true [1] = ([100], 0) := by
    have n1 : num [101] = 101 := num_one (by omega)
    have n2 : num [1] = 1 := num_one (by omega)
    have n3 : num [100] = 100 := num_one (by omega)
    unfold encV mayV intR halfV
    rw [n1, n2]
    have := limbs_num d100 (Can.one (by omega))
    rw [n3] at this
    rw [if_pos ⟨by decide, by decide⟩, if_pos (by decide), if_pos rfl, this]
  unfold windbreaklaw07_awake.f
  have h := fix_Encode_ev [101] true [1] (by simp [maxLen]) (by simp [maxLen]) d101 d1
  rw [e1] at h
  refine Evt.bind h ?_
  exact Evt.ite_pos rfl (Evt.ite_pos rfl (Evt.ite_pos (by decide) (Evt.pure _)))
theorem mask32m {x : Int} (h0 : 0 ≤ x) (h1 : x < 18446744073709551616) : Go.bits .and .u64 x 4294967295 = x % 4294967296 := by
  have h := bits_mask .u64 64 (by decide) wraps_u64 32 (by decide) x h0 (by omega)
  rw [show (2 : Int) ^ 32 = 4294967296 from by decide] at h
  exact h
theorem half_mul {x y : Int} (hx : 0 ≤ x ∧ x < 4294967296) (hy : 0 ≤ y ∧ y < 4294967296) : 0 ≤ x * y ∧ x * y ≤ 18446744065119617025 := by
  refine ⟨Int.mul_nonneg hx.1 hy.1, ?_⟩
  have : x * y ≤ 4294967295 * 4294967295 := Int.mul_le_mul (by omega) (by omega) hy.1 (by omega)
  omega
theorem bits_Mul64_eq {x y : Int} (hx : 0 ≤ x ∧ x < 18446744073709551616) (hy : 0 ≤ y ∧ y < 18446744073709551616) :
    ∃ hi lo : Int, bits_Mul64.f x y = some (hi, lo) ∧ hi * 18446744073709551616 + lo = x * y ∧ (0 ≤ hi ∧ hi < 18446744073709551616) ∧ (0 ≤ lo ∧ lo < 18446744073709551616) := by
  unfold bits_Mul64.f
  have ex : x = x / 4294967296 * 4294967296 + x % 4294967296 := by omega
  have ey : y = y / 4294967296 * 4294967296 + y % 4294967296 := by omega
  have xl : 0 ≤ x % 4294967296 ∧ x % 4294967296 < 4294967296 := by omega
  have yl : 0 ≤ y % 4294967296 ∧ y % 4294967296 < 4294967296 := by omega
  have xh : 0 ≤ x / 4294967296 ∧ x / 4294967296 < 4294967296 := by omega
  have yh : 0 ≤ y / 4294967296 ∧ y / 4294967296 < 4294967296 := by omega
  rw [mask32m hx.1 hx.2, mask32m hy.1 hy.2]
  have p1 := half_mul xh yh
  have p2 := half_mul xh yl
  have p3 := half_mul xl yh
  have p4 := half_mul xl yl
  have e : x * y = (x / 4294967296 * (y / 4294967296)) * 18446744073709551616 + (x / 4294967296 * (y % 4294967296) + x % 4294967296 * (y / 4294967296)) * 4294967296 + x % 4294967296 * (y % 4294967296) := by
    generalize x / 4294967296 = a at *
    generalize x % 4294967296 = b at *
    generalize y / 4294967296 = c at *
    generalize y % 4294967296 = d at *
    subst ex ey
    grind
  rw [e]
  generalize x / 4294967296 * (y / 4294967296) = A at *
  generalize x / 4294967296 * (y % 4294967296) = B at *
  generalize x % 4294967296 * (y / 4294967296) = C at *
  generalize x % 4294967296 * (y % 4294967296) = D at *
  clear e ex ey xl yl xh yh hx hy
  rw [wu64_of (x := A) p1.1 (by omega), wu64_of (x := B) p2.1 (by omega), wu64_of (x := C) p3.1 (by omega), wu64_of (x := D) p4.1 (by omega)]
  rw [wu64_of (x := B + D / 4294967296) (by omega) (by omega)]
  rw [mask32m (x := B + D / 4294967296) (by omega) (by omega)]
  rw [wu64_of (x := (B + D / 4294967296) % 4294967296 + C) (by omega) (by omega)]
  rw [wu64_of (x := A + (B + D / 4294967296) / 4294967296) (by omega) (by omega)]
  rw [wu64_of (x := A + (B + D / 4294967296) / 4294967296 + _) (by omega) (by omega)]
  exact ⟨_, _, rfl, by rw [wu64]; omega, by omega, by rw [wu64]; omega⟩
theorem add0_of {x y : Int} (hx : 0 ≤ x ∧ x < 18446744073709551616) (hy : 0 ≤ y ∧ y < 18446744073709551616) :
    add64_s x y 0 + 18446744073709551616 * add64_c x y 0 = x + y ∧ (0 ≤ add64_s x y 0 ∧ add64_s x y 0 < 18446744073709551616) ∧ (add64_c x y 0 = 0 ∨ add64_c x y 0 = 1) := by
  unfold add64_s add64_c
  omega
theorem getD_set_ne {l : List Int} {i j : Nat} {v : Int} (h : i ≠ j) : (l.set i v).getD j 0 = l.getD j 0 := by
  rw [List.getD_eq_getElem?_getD, List.getElem?_set_ne h, ← List.getD_eq_getElem?_getD]
theorem school_key {W p t B x y c o s Q : Int} (h : s + B * Q = x * y + o + c) : p + W * (s - o) + W * B * (x * t + Q) = p + W * (x * (y + B * t) + c) := by
  have e9 : W * (x * (y + B * t) + c) = W * (x * y + o + c) - W * o + W * (B * (x * t)) := by grind
  rw [e9, ← h]
  grind
theorem school_digit {x y hi lo o c s1 q1 s2 q2 : Int} (hx : 0 ≤ x ∧ x < 18446744073709551616) (hy : 0 ≤ y ∧ y < 18446744073709551616) (h3 : 0 ≤ hi ∧ hi < 18446744073709551616) (e2 : hi * 18446744073709551616 + lo = x * y) (ho : 0 ≤ o ∧ o < 18446744073709551616) (hc : 0 ≤ c ∧ c < 18446744073709551616)
    (a1 : s1 + 18446744073709551616 * q1 = lo + o) (a3 : q1 = 0 ∨ q1 = 1) (b1 : s2 + 18446744073709551616 * q2 = s1 + c) (b2 : 0 ≤ s2) (b3 : q2 = 0 ∨ q2 = 1) :
    0 ≤ hi + q1 ∧ hi + q1 < 18446744073709551616 ∧ 0 ≤ hi + q1 + q2 ∧ hi + q1 + q2 < 18446744073709551616 ∧ s2 + 18446744073709551616 * (hi + q1 + q2) = x * y + o + c := by
  have hxy : x * y ≤ 18446744073709551615 * 18446744073709551615 := Int.mul_le_mul (by omega) (by omega) hy.1 (by omega)
  have h0 : (18446744073709551615 : Int) * 18446744073709551615 = 340282366920938463426481119284349108225 := by decide
  rw [h0] at hxy
  generalize x * y = z at *
  omega
theorem school_l1 (l0 l1 : List Int) (i : Nat) (x m : Int) (hx : 0 ≤ x ∧ x < 18446744073709551616) (d1 : Dig (b64 : Int) l1) {res : List Int} : ∀ (S P out : List Int) (c : Int), l1 = P ++ S → out.length ≤ 1000000 → i + l1.length < out.length → Dig (b64 : Int) out → 0 ≤ c ∧ c < 18446744073709551616 → out.getD (i + l1.length) 0 = 0 →
    (∀ out' : List Int, out'.length = out.length → Dig (b64 : Int) out' → (∀ j, i + l1.length < j → out'.getD j 0 = out.getD j 0) → val (b64 : Int) out' = val (b64 : Int) out + (b64 : Int) ^ (i + P.length) * (x * val (b64 : Int) S + c) →
      Evt (fun k => nat_school.l0 k l1 out' l0 m (wrap64 ((i : Int) + 1))) res) →
    Evt (fun k => nat_school.l1 k l1 out (i : Int) x c l0 m (i : Int) l1 (l1.length : Int) (P.length : Int)) res := by
  intro S
  induction S with
  | nil =>
    intro P out c hl hlen hfit dO hc h0 cont
    obtain rfl : l1 = P := by simpa using hl
    refine Evt.succ ?_
    simp only [nat_school.l1]
    rw [w64 (x := (i : Int) + (l1.length : Int)) (by omega) (by omega)]
    refine Evt.ite_neg (by omega) (Evt.ite_pos (by omega) (Evt.ite_pos (by omega) ?_))
    have e : ((i : Int) + (l1.length : Int)).toNat = i + l1.length := by omega
    rw [e]
    have hB : (b64 : Int) = 18446744073709551616 := rfl
    refine cont _ (by simp) (dO.set _ (by rw [hB]; exact hc)) (fun j hj => getD_set_ne (by omega)) ?_
    rw [val_set _ _ _ _ hfit, h0]
    simp [val]
  | cons y S ih =>
    intro P out c hl hlen hfit dO hc h0 cont
    have hB : (b64 : Int) = 18446744073709551616 := rfl
    have hll : l1.length = P.length + (S.length + 1) := by rw [hl]; simp
    have hy : 0 ≤ y ∧ y < 18446744073709551616 := by
      have := d1 y (by rw [hl]; simp)
      rwa [hB] at this
    refine Evt.succ ?_
    simp only [nat_school.l1]
    refine Evt.ite_pos (by omega) (Evt.ite_pos (by omega) (Evt.ite_pos (by omega) ?_))
    have er : rd l1 (P.length : Int) = y := by rw [rd_nat, hl]; simp
    rw [er]
    obtain ⟨hi, lo, e1, e2, h3, h4⟩ := bits_Mul64_eq hx hy
    refine Evt.bind (Evt.of fun _ => e1) ?_
    rw [w64 (x := (i : Int) + (P.length : Int)) (by omega) (by omega)]
    refine Evt.ite_pos (by omega) (Evt.ite_pos (by omega) (Evt.ite_pos (carry_of (Or.inl rfl)) ?_))
    rw [show (i : Int) + (P.length : Int) = ((i + P.length : Nat) : Int) from by omega, rd_nat, Int.toNat_natCast]
    have ho := dO.getD b64_pos (i + P.length)
    rw [hB] at ho
    generalize hO : out.getD (i + P.length) 0 = o at *
    obtain ⟨a1, a2, a3⟩ := add0_of h4 ho
    generalize add64_s lo o 0 = s1 at *
    generalize add64_c lo o 0 = q1 at *
    obtain ⟨b1, b2, b3⟩ := add0_of a2 hc
    generalize add64_s s1 c 0 = s2 at *
    generalize add64_c s1 c 0 = q2 at *
    obtain ⟨k0, hq1, k1, hq2, k2⟩ := school_digit hx hy h3 e2 ho hc a1 a3 b1 b2.1 b3
    rw [wu64_of (x := hi + q1) k0 hq1, wu64_of (x := hi + q1 + q2) k1 hq2, w64 (x := (P.length : Int) + 1) (by omega) (by omega)]
    have h := ih (P ++ [y]) (out.set (i + P.length) s2) (hi + q1 + q2) (by rw [hl]; simp) (by simpa using hlen) (by simpa using hfit) (dO.set _ (by rw [hB]; exact b2)) ⟨k1, hq2⟩ (by rw [getD_set_ne (by omega)]; exact h0) ?_
    · rw [show ((P ++ [y]).length : Int) = (P.length : Int) + 1 from by simp] at h
      exact h
    · intro out' hl' d' hj' hv
      refine cont out' (by rw [hl']; simp) d' (fun j hj => by rw [hj' j hj, getD_set_ne (by omega)]) ?_
      rw [hv, val_set _ _ _ _ (by omega), hO, List.length_append, List.length_singleton, ← Nat.add_assoc, Int.pow_succ]
      simp only [val]
      exact school_key (by rw [hB]; exact k2)
theorem school_l0 (l0 l1 : List Int) (h0 : l0.length ≤ 100000) (h1 : l1.length ≤ 100000) (d0 : Dig (b64 : Int) l0) (d1 : Dig (b64 : Int) l1) (n : Nat) : ∀ (i : Nat) (out : List Int), i + n = l0.length → out.length = l0.length + l1.length → Dig (b64 : Int) out → (∀ j, i + l1.length ≤ j → out.getD j 0 = 0) → val (b64 : Int) out = val (b64 : Int) (l0.take i) * val (b64 : Int) l1 →
    Evt (fun k => nat_school.l0 k l1 out l0 (l0.length : Int) (i : Int)) (limbs (num l0 * num l1)) := by
  induction n with
  | zero =>
    intro i out hi hl dO _ hv
    refine Evt.succ ?_
    simp only [nat_school.l0]
    refine Evt.ite_neg (by omega) ?_
    refine Evt.bind (nat_trim_ev out (by simp [maxLen]; omega)) ?_
    rw [strip_limbs dO]
    have e : num out = num l0 * num l1 := by
      have e1 := num_val dO
      rw [hv, List.take_of_length_le (by omega), ← num_val d0, ← num_val d1, ← Int.natCast_mul] at e1
      omega
    rw [e]
    exact Evt.pure _
  | succ n ih =>
    intro i out hi hl dO hz hv
    have hil : i < l0.length := by omega
    refine Evt.succ ?_
    simp only [nat_school.l0]
    refine Evt.ite_pos (by omega) (Evt.ite_pos (by omega) (Evt.ite_pos (by omega) ?_))
    rw [rd_nat]
    have hx := d0.getD b64_pos i
    have hx' : 0 ≤ l0.getD i 0 ∧ l0.getD i 0 < 18446744073709551616 := hx
    have hg : l0.getD i 0 = l0[i] := by simp [hil]
    refine school_l1 l0 l1 i (l0.getD i 0) (l0.length : Int) hx' d1 l1 [] out 0 rfl (by omega) (by omega) dO (by omega) (hz _ (Nat.le_refl _)) ?_
    intro out' hl' d' hj' hv'
    rw [w64 (by omega) (by omega)]
    refine ih (i + 1) out' (by omega) (by omega) d' (fun j hj => by rw [hj' j (by omega), hz j (by omega)]) ?_
    rw [hv', hv, val_take_step _ _ _ hil, ← hg]
    simp only [List.length_nil, Nat.add_zero, Int.add_zero]
    grind
theorem nat_school_ev (l0 l1 : List Int) (h0 : l0.length ≤ 100000) (h1 : l1.length ≤ 100000) (d0 : Dig (b64 : Int) l0) (d1 : Dig (b64 : Int) l1) : Evt (fun k => nat_school.f k l0 l1) (limbs (num l0 * num l1)) := by
  unfold nat_school.f
  rw [w64 (by omega) (by omega), show ((l0.length : Int) + (l1.length : Int)).toNat = l0.length + l1.length from by omega]
  refine Evt.ite_pos (by omega) (Evt.ite_pos (by omega) ?_)
  refine school_l0 l0 l1 h0 h1 d0 d1 l0.length 0 _ (by omega) (by simp) (Dig.replicate b64_pos _) (fun j _ => ?_) ?_
  · rw [List.getD_eq_getElem?_getD, List.getElem?_replicate]
    split <;> rfl
  · rw [val_replicate]
    simp [val]
def shlV (a : List Int) (n : Int) : List Int × Int :=
  if rightB a = true ∧ 0 ≤ n then (if a.length = 0 then ([], 0) else if 4096 < n then ([], 4) else toldV (num a * 2 ^ n.toNat)) else ([], 1)
theorem num_zeros_append {r : List Int} (d : Dig (b64 : Int) r) (m : Nat) : Dig (b64 : Int) (List.replicate m 0 ++ r) ∧ num (List.replicate m 0 ++ r) = b64 ^ m * num r := by
  have d2 : Dig (b64 : Int) (List.replicate m 0 ++ r) := Dig.append.2 ⟨Dig.replicate b64_pos m, d⟩
  refine ⟨d2, ?_⟩
  have h := num_val d2
  rw [val_append, val_replicate, List.length_replicate, ← num_val d, pow_cast] at h
  have : ((b64 ^ m : Nat) : Int) * (num r : Int) = ((b64 ^ m * num r : Nat) : Int) := by simp
  omega
theorem nat_Shl_ev (a : List Int) (n : Int) (ha : a.length ≤ maxLen) (da : Dig (b64 : Int) a) : Evt (fun k => nat_Shl.f k a n) (shlV a n) := by
  unfold nat_Shl.f shlV
  rw [nat_Right_eq ha]
  simp only [Option.bind_some]
  have J : ∀ x : Bool, (x = false → rightB a = true ∧ 0 ≤ n) → Evt (fun k => nat_Shl.j0 k a n x) (if x = true then ([], 1) else if a.length = 0 then ([], 0) else if 4096 < n then ([], 4) else toldV (num a * 2 ^ n.toNat)) := by
    intro x hx
    refine Evt.succ ?_
    simp only [nat_Shl.j0]
    refine Evt.cond (fun _ => Evt.pure _) (fun hc => ?_)
    have h := hx (by simpa using hc)
    obtain ⟨h1, c1⟩ := (rightB_iff a).1 h.1
    by_cases h0 : a.length = 0
    · rw [if_pos h0]; exact Evt.ite_pos (by omega) (Evt.pure _)
    · rw [if_neg h0]
      refine Evt.ite_neg (by omega) ?_
      by_cases hn : 4096 < n
      · rw [if_pos hn]; exact Evt.ite_pos (by omega) (Evt.pure _)
      · rw [if_neg hn]
        refine Evt.ite_neg (by omega) ?_
        obtain ⟨m, rfl⟩ := Int.eq_ofNat_of_zero_le h.2
        have e1 : Int.tdiv (m : Int) 64 = ((m / 64 : Nat) : Int) := by rw [Int.tdiv_eq_ediv_of_nonneg (by omega)]; omega
        have e2 : IntKind.u64.wrap (Int.tmod (m : Int) 64) = ((m % 64 : Nat) : Int) := by
          rw [Int.tmod_eq_emod_of_nonneg (by omega), wu64_of (by omega) (by omega)]; omega
        rw [e1, e2, w64 (show -9223372036854775808 ≤ ((m / 64 : Nat) : Int) by omega) (by omega)]
        refine Evt.ite_pos (by omega) (Evt.ite_pos (by omega) ?_)
        refine Evt.bind (Evt.pure _) ?_
        obtain ⟨r, g1, g2, g3, g4⟩ := nat_up_ev a da (by omega) (m % 64) (by omega)
        refine Evt.bind g1 ?_
        rw [Int.toNat_natCast, Int.toNat_natCast]
        refine Evt.ite_pos (by simp; omega) ?_
        obtain ⟨d2, k2⟩ := num_zeros_append g2 (m / 64)
        have h5 := nat_told_ev (List.replicate (m / 64) 0 ++ r) (by simp; omega) d2
        have e3 : b64 ^ (m / 64) * num r = num a * 2 ^ m := by
          rw [g4]
          rw [b64_pow2, Nat.mul_left_comm, ← Nat.pow_add, show 64 * (m / 64) + m % 64 = m from by omega]
        rw [k2, e3] at h5
        exact Evt.bind h5 (h := fun t _ => some (t.1, t.2)) (Evt.pure _)
  cases hA : rightB a with
  | true =>
    refine Evt.ite_pos rfl ((J _ (fun h => ⟨hA, by simpa using h⟩)).congr (fun k => rfl) ?_)
    by_cases hn : n < 0
    · rw [decide_eq_true hn, if_pos rfl, if_neg (show ¬ (true = true ∧ 0 ≤ n) by omega)]
    · rw [decide_eq_false hn, if_neg (by simp), if_pos (show true = true ∧ 0 ≤ n from ⟨rfl, by omega⟩)]
  | false =>
    refine Evt.ite_neg (by simp) ((J _ (fun h => by simp at h)).congr (fun k => rfl) ?_)
    simp
theorem len8 : ∀ n : Fin 256, bt (⟨#[0, 1, 2, 2, 3, 3, 3, 3, 4, 4, 4, 4, 4, 4, 4, 4, 5, 5, 5, 5, 5, 5, 5, 5, 5, 5, 5, 5, 5, 5, 5, 5, 6, 6, 6, 6, 6, 6, 6, 6, 6, 6, 6, 6, 6, 6, 6, 6, 6, 6, 6, 6, 6, 6, 6, 6, 6, 6, 6, 6, 6, 6, 6, 6, 7, 7, 7, 7, 7, 7, 7, 7, 7, 7, 7, 7, 7, 7, 7, 7, 7, 7, 7, 7, 7, 7, 7, 7, 7, 7, 7, 7, 7, 7, 7, 7, 7, 7, 7, 7, 7, 7, 7, 7, 7, 7, 7, 7, 7, 7, 7, 7, 7, 7, 7, 7, 7, 7, 7, 7, 7, 7, 7, 7, 7, 7, 7, 7, 8, 8, 8, 8, 8, 8, 8, 8, 8, 8, 8, 8, 8, 8, 8, 8, 8, 8, 8, 8, 8, 8, 8, 8, 8, 8, 8, 8, 8, 8, 8, 8, 8, 8, 8, 8, 8, 8, 8, 8, 8, 8, 8, 8, 8, 8, 8, 8, 8, 8, 8, 8, 8, 8, 8, 8, 8, 8, 8, 8, 8, 8, 8, 8, 8, 8, 8, 8, 8, 8, 8, 8, 8, 8, 8, 8, 8, 8, 8, 8, 8, 8, 8, 8, 8, 8, 8, 8, 8, 8, 8, 8, 8, 8, 8, 8, 8, 8, 8, 8, 8, 8, 8, 8, 8, 8, 8, 8, 8, 8, 8, 8, 8, 8, 8, 8, 8, 8, 8, 8, 8, 8, 8, 8, 8, 8, 8, 8]⟩ : ByteArray) ((n.val : Nat) : Int) = ((bl n.val : Nat) : Int) := by decide +kernel
theorem len8_at {x : Int} (h0 : 0 ≤ x) (h1 : x < 256) : bt (⟨#[0, 1, 2, 2, 3, 3, 3, 3, 4, 4, 4, 4, 4, 4, 4, 4, 5, 5, 5, 5, 5, 5, 5, 5, 5, 5, 5, 5, 5, 5, 5, 5, 6, 6, 6, 6, 6, 6, 6, 6, 6, 6, 6, 6, 6, 6, 6, 6, 6, 6, 6, 6, 6, 6, 6, 6, 6, 6, 6, 6, 6, 6, 6, 6, 7, 7, 7, 7, 7, 7, 7, 7, 7, 7, 7, 7, 7, 7, 7, 7, 7, 7, 7, 7, 7, 7, 7, 7, 7, 7, 7, 7, 7, 7, 7, 7, 7, 7, 7, 7, 7, 7, 7, 7, 7, 7, 7, 7, 7, 7, 7, 7, 7, 7, 7, 7, 7, 7, 7, 7, 7, 7, 7, 7, 7, 7, 7, 7, 8, 8, 8, 8, 8, 8, 8, 8, 8, 8, 8, 8, 8, 8, 8, 8, 8, 8, 8, 8, 8, 8, 8, 8, 8, 8, 8, 8, 8, 8, 8, 8, 8, 8, 8, 8, 8, 8, 8, 8, 8, 8, 8, 8, 8, 8, 8, 8, 8, 8, 8, 8, 8, 8, 8, 8, 8, 8, 8, 8, 8, 8, 8, 8, 8, 8, 8, 8, 8, 8, 8, 8, 8, 8, 8, 8, 8, 8, 8, 8, 8, 8, 8, 8, 8, 8, 8, 8, 8, 8, 8, 8, 8, 8, 8, 8, 8, 8, 8, 8, 8, 8, 8, 8, 8, 8, 8, 8, 8, 8, 8, 8, 8, 8, 8, 8, 8, 8, 8, 8, 8, 8, 8, 8, 8, 8, 8, 8]⟩ : ByteArray) x = ((bl x.toNat : Nat) : Int) := by
  obtain ⟨n, rfl⟩ := Int.eq_ofNat_of_zero_le h0
  exact len8 ⟨n, by omega⟩
set_option maxRecDepth 100000 in
theorem len64_j {x : Int} (h0 : 0 ≤ x) (h1 : x < 4294967296) (c : Int) (hc : 0 ≤ c ∧ c ≤ 1000) : Evt (fun k => bits_Len64.j0 k x c) (c + ((bl x.toNat : Nat) : Int)) := by
  have key : ∀ (s : Nat) (y : Int), 0 ≤ y → y < 256 → (s ≤ 24) → (y = 0 → s = 0) → y = x / 2 ^ s → ((bl x.toNat : Nat) : Int) = (s : Int) + ((bl y.toNat : Nat) : Int) := by
    intro s y hy0 hy1 hs hz he
    have : bl x.toNat = s + bl y.toNat := by
      by_cases h : y = 0
      · have hs0 := hz h
        subst hs0
        simp at he
        rw [he, Nat.zero_add]
      · have e : y.toNat = x.toNat / 2 ^ s := by
          rw [he]
          have h2 : x = ((x.toNat : Nat) : Int) := by omega
          rw [h2]
          have h3 : ((2 : Int) ^ s) = ((2 ^ s : Nat) : Int) := by simp
          rw [h3, ← Int.natCast_ediv, Int.toNat_natCast, Int.toNat_natCast]
        rw [e]
        exact bl_shift x.toNat s (by rw [← e]; omega)
    omega
  refine Evt.succ ?_
  simp only [bits_Len64.j0]
  by_cases c1 : x ≥ 65536
  · refine Evt.ite_pos c1 ?_
    by_cases c2 : x / 65536 ≥ 256
    · refine Evt.ite_pos c2 (Evt.ite_pos (by omega) (Evt.ite_pos (by omega) ?_))
      have e : x / 65536 / 256 % 256 = x / 65536 / 256 := by omega
      rw [e, len8_at (by omega) (by omega)]
      have k1 := key 24 (x / 65536 / 256) (by omega) (by omega) (by omega) (by omega) (by rw [Int.ediv_ediv_of_nonneg (by omega)]; rfl)
      have k2 := bl_le8 (x := (x / 65536 / 256).toNat) (by omega)
      rw [w64 (show -9223372036854775808 ≤ c + 16 by omega) (by omega), w64 (show -9223372036854775808 ≤ c + 16 + 8 by omega) (by omega), w64 (show -9223372036854775808 ≤ ((bl (x / 65536 / 256).toNat : Nat) : Int) by omega) (by omega), w64 (by omega) (by omega), k1]
      refine (Evt.pure _).congr (fun k => rfl) (by omega)
    · refine Evt.ite_neg c2 (Evt.ite_pos (by omega) (Evt.ite_pos (by omega) ?_))
      have e : x / 65536 % 256 = x / 65536 := by omega
      rw [e, len8_at (by omega) (by omega)]
      have k1 := key 16 (x / 65536) (by omega) (by omega) (by omega) (by omega) rfl
      have k2 := bl_le8 (x := (x / 65536).toNat) (by omega)
      rw [w64 (show -9223372036854775808 ≤ c + 16 by omega) (by omega), w64 (show -9223372036854775808 ≤ ((bl (x / 65536).toNat : Nat) : Int) by omega) (by omega), w64 (by omega) (by omega), k1]
      refine (Evt.pure _).congr (fun k => rfl) (by omega)
  · refine Evt.ite_neg c1 ?_
    by_cases c2 : x ≥ 256
    · refine Evt.ite_pos c2 (Evt.ite_pos (by omega) (Evt.ite_pos (by omega) ?_))
      have e : x / 256 % 256 = x / 256 := by omega
      rw [e, len8_at (by omega) (by omega)]
      have k1 := key 8 (x / 256) (by omega) (by omega) (by omega) (by omega) rfl
      have k2 := bl_le8 (x := (x / 256).toNat) (by omega)
      rw [w64 (show -9223372036854775808 ≤ c + 8 by omega) (by omega), w64 (show -9223372036854775808 ≤ ((bl (x / 256).toNat : Nat) : Int) by omega) (by omega), w64 (by omega) (by omega), k1]
      refine (Evt.pure _).congr (fun k => rfl) (by omega)
    · refine Evt.ite_neg c2 (Evt.ite_pos (by omega) (Evt.ite_pos (by omega) ?_))
      have e : x % 256 = x := by omega
      rw [e, len8_at (by omega) (by omega)]
      have k2 := bl_le8 (x := x.toNat) (by omega)
      rw [w64 (show -9223372036854775808 ≤ ((bl x.toNat : Nat) : Int) by omega) (by omega), w64 (by omega) (by omega)]
      exact Evt.pure _
theorem bits_Len64_ev {x : Int} (h0 : 0 ≤ x) (h1 : x < 18446744073709551616) : Evt (fun k => bits_Len64.f k x) ((bl x.toNat : Nat) : Int) := by
  unfold bits_Len64.f
  by_cases c1 : x ≥ 4294967296
  · refine Evt.ite_pos c1 ?_
    refine (len64_j (x := x / 4294967296) (by omega) (by omega) 32 (by omega)).congr (fun k => rfl) ?_
    have e : (x / 4294967296).toNat = x.toNat / 2 ^ 32 := by omega
    have := bl_shift x.toNat 32 (by omega)
    rw [e]
    omega
  · refine Evt.ite_neg c1 ?_
    exact (len64_j (x := x) (by omega) (by omega) 0 (by omega)).congr (fun k => rfl) (by omega)
theorem div_corr {Y a b u c q r : Int} (hY : Y = a * 4294967296 + b) (ha : 2147483648 ≤ a ∧ a < 4294967296) (hb : 0 ≤ b ∧ b < 4294967296) (hu : 0 ≤ u ∧ u < Y) (hc : 0 ≤ c ∧ c < 4294967296)
    (hq : (u * 4294967296 + c) / Y ≤ q) (hq2 : q ≤ 4294967297) (hr : r = u - q * a) (hr0 : 0 ≤ r ∧ r < 4294967296) :
    ((q ≥ 4294967296 ∨ q * b > 4294967296 * r + c) → (u * 4294967296 + c) / Y ≤ q - 1) ∧ (¬ (q ≥ 4294967296 ∨ q * b > 4294967296 * r + c) → (u * 4294967296 + c) / Y = q) ∧
    ((q ≥ 4294967296 ∨ q * b > 4294967296 * r + c) → r + a ≥ 4294967296 → (u * 4294967296 + c) / Y = q - 1) := by
  have hY0 : 0 < Y := by omega
  have e1 : q * Y = q * a * 4294967296 + q * b := by rw [hY]; grind
  have e2 : (q - 1) * Y = q * Y - Y := by grind
  have lt : (u * 4294967296 + c) / Y < 4294967296 := by
    apply Int.ediv_lt_of_lt_mul hY0
    omega
  have up : (q ≥ 4294967296 ∨ q * b > 4294967296 * r + c) → (u * 4294967296 + c) / Y ≤ q - 1 := by
    intro h
    rcases h with h | h
    · omega
    · have : (u * 4294967296 + c) / Y < q := by
        apply Int.ediv_lt_of_lt_mul hY0
        rw [e1]; omega
      omega
  refine ⟨up, fun h => ?_, fun h h2 => ?_⟩
  · have : q ≤ (u * 4294967296 + c) / Y := by
      rw [Int.le_ediv_iff_mul_le hY0, e1]
      omega
    omega
  · have h3 := up h
    have h4 : (q - 1) * b ≤ 4294967296 * 4294967295 := by
      by_cases h5 : q - 1 ≤ 0
      · have : (q - 1) * b ≤ 0 := Int.mul_nonpos_of_nonpos_of_nonneg h5 hb.1
        omega
      · exact Int.mul_le_mul (by omega) (by omega) hb.1 (by omega)
    have h6 : (q - 1) * b = q * b - b := by grind
    have : q - 1 ≤ (u * 4294967296 + c) / Y := by
      rw [Int.le_ediv_iff_mul_le hY0, e2, e1]
      omega
    omega
theorem mul_u64 {x y : Int} (hx : 0 ≤ x ∧ x < 4294967296) (hy : 0 ≤ y ∧ y < 4294967296) : 0 ≤ x * y ∧ x * y < 18446744073709551616 := by
  refine ⟨Int.mul_nonneg hx.1 hy.1, ?_⟩
  have : x * y ≤ 4294967295 * 4294967295 := Int.mul_le_mul (by omega) (by omega) hy.1 (by omega)
  omega
theorem div_l0 {Y a b u c c0 s : Int} (hY : Y = a * 4294967296 + b) (ha : 2147483648 ≤ a ∧ a < 4294967296) (hb : 0 ≤ b ∧ b < 4294967296) (hu : 0 ≤ u ∧ u < Y) (hc : 0 ≤ c ∧ c < 4294967296) {res : Int × Int}
    (fin : Evt (fun k => bits_Div64.j2 k Y s a b u c c0 ((u * 4294967296 + c) / Y)) res) (n : Nat) : ∀ q r : Int, (u * 4294967296 + c) / Y ≤ q → q ≤ 4294967297 → r = u - q * a → 0 ≤ r ∧ r < 4294967296 → q - (u * 4294967296 + c) / Y ≤ n →
    Evt (fun k => bits_Div64.l0 k Y s a b u c c0 q r) res := by
  have hQ0 : 0 ≤ (u * 4294967296 + c) / Y := Int.ediv_nonneg (by omega) (by omega)
  induction n with
  | zero =>
    intro q r hq hq2 hr hr0 hn
    obtain ⟨g1, g2, g3⟩ := div_corr hY ha hb hu hc hq hq2 hr hr0
    have hno : ¬ (q ≥ 4294967296 ∨ q * b > 4294967296 * r + c) := fun h => by have := g1 h; omega
    refine Evt.succ ?_
    simp only [bits_Div64.l0]
    refine Evt.ite_neg (fun h => hno (Or.inl h)) ?_
    have hm := mul_u64 (x := q) (y := b) ⟨by omega, by omega⟩ hb
    rw [wu64_of hm.1 hm.2, wu64_of (x := 4294967296 * r) (by omega) (by omega), wu64_of (x := 4294967296 * r + c) (by omega) (by omega)]
    refine Evt.succ ?_
    simp only [bits_Div64.j1]
    refine Evt.ite_neg (by simp only [decide_eq_true_eq]; exact fun h => hno (Or.inr h)) ?_
    rw [← g2 hno]
    exact fin
  | succ n ih =>
    intro q r hq hq2 hr hr0 hn
    obtain ⟨g1, g2, g3⟩ := div_corr hY ha hb hu hc hq hq2 hr hr0
    have key : ∀ t : Bool, (t = true ↔ (q ≥ 4294967296 ∨ q * b > 4294967296 * r + c)) → Evt (fun k => bits_Div64.j1 k Y s a b u c c0 q r t) res := by
      intro t ht
      refine Evt.succ ?_
      simp only [bits_Div64.j1]
      by_cases h : t = true
      · have h' := ht.1 h
        have hq1 := g1 h'
        refine Evt.ite_pos h ?_
        rw [wu64_of (x := r + a) (by omega) (by omega), wu64_of (x := q - 1) (by omega) (by omega)]
        by_cases h2 : r + a ≥ 4294967296
        · refine Evt.ite_pos h2 ?_
          rw [← g3 h' h2]
          exact fin
        · refine Evt.ite_neg h2 (ih (q - 1) (r + a) hq1 (by omega) ?_ (by omega) (by omega))
          rw [hr]; grind
      · refine Evt.ite_neg h ?_
        rw [← g2 (fun h' => h (ht.2 h'))]
        exact fin
    refine Evt.succ ?_
    simp only [bits_Div64.l0]
    by_cases h : q ≥ 4294967296
    · exact Evt.ite_pos h (key true ⟨fun _ => Or.inl h, fun _ => rfl⟩)
    · refine Evt.ite_neg h (key _ ?_)
      have hm := mul_u64 (x := q) (y := b) ⟨by omega, by omega⟩ hb
      rw [wu64_of hm.1 hm.2, wu64_of (x := 4294967296 * r) (by omega) (by omega), wu64_of (x := 4294967296 * r + c) (by omega) (by omega), decide_eq_true_eq]
      exact ⟨fun h => Or.inr h, fun h' => by rcases h' with h' | h'; exact absurd h' h; exact h'⟩
theorem div_left {Y u c : Int} (hY : 0 < Y ∧ Y < 18446744073709551616) (hu : 0 ≤ u ∧ u < Y) (hc : 0 ≤ c ∧ c < 4294967296) :
    IntKind.u64.wrap ((IntKind.u64.wrap ((IntKind.u64.wrap (u * 4294967296)) + c)) - (IntKind.u64.wrap ((u * 4294967296 + c) / Y * Y))) = (u * 4294967296 + c) % Y := by
  have h1 : (u * 4294967296 + c) % Y + (u * 4294967296 + c) / Y * Y = u * 4294967296 + c := by rw [Int.mul_comm (_ / Y)]; exact Int.emod_add_mul_ediv _ _
  have h2 := Int.emod_nonneg (u * 4294967296 + c) (show Y ≠ 0 by omega)
  have h3 := Int.emod_lt_of_pos (u * 4294967296 + c) hY.1
  generalize (u * 4294967296 + c) % Y = m at *
  generalize (u * 4294967296 + c) / Y * Y = p at *
  simp only [wu64]
  omega
theorem div_first {Y a b u : Int} (c : Int) (hY : Y = a * 4294967296 + b) (ha : 2147483648 ≤ a ∧ a < 4294967296) (hb : 0 ≤ b ∧ b < 4294967296) (hu : 0 ≤ u ∧ u < Y) (hc : 0 ≤ c ∧ c < 4294967296) :
    IntKind.u64.wrap (Int.tdiv u a) = u / a ∧ IntKind.u64.wrap (u - IntKind.u64.wrap (u / a * a)) = u - u / a * a ∧ (u * 4294967296 + c) / Y ≤ u / a ∧ u / a ≤ 4294967297 ∧ 0 ≤ u - u / a * a ∧ u - u / a * a < 4294967296 := by
  have h1 : u % a + u / a * a = u := by rw [Int.mul_comm (u / a)]; exact Int.emod_add_mul_ediv _ _
  have h2 := Int.emod_nonneg u (show a ≠ 0 by omega)
  have h3 := Int.emod_lt_of_pos u (show 0 < a by omega)
  have h4 := Int.ediv_nonneg hu.1 (show 0 ≤ a by omega)
  have h5 : u / a < 4294967298 := by
    apply Int.ediv_lt_of_lt_mul (by omega)
    omega
  have h6 : (u * 4294967296 + c) / Y ≤ u / a := by
    have hY0 : 0 < Y := by omega
    have : (u * 4294967296 + c) / Y < u / a + 1 := by
      apply Int.ediv_lt_of_lt_mul hY0
      have e : (u / a + 1) * Y = (u / a * a + a) * 4294967296 + (u / a) * b + b := by rw [hY]; grind
      have h7 := Int.mul_nonneg h4 hb.1
      rw [e]
      omega
    omega
  rw [Int.tdiv_eq_ediv_of_nonneg hu.1, wu64_of h4 (by omega)]
  have h8 := Int.mul_nonneg h4 (show 0 ≤ a by omega)
  refine ⟨rfl, ?_, h6, by omega, by omega, by omega⟩
  rw [wu64_of (x := u / a * a) (by omega) (by omega), wu64_of (by omega) (by omega)]
theorem div_l1 {Y a b u c q1 : Int} (s : Nat) (hs : s < 64) (hY : Y = a * 4294967296 + b) (ha : 2147483648 ≤ a ∧ a < 4294967296) (hb : 0 ≤ b ∧ b < 4294967296) (hu : 0 ≤ u ∧ u < Y) (hc : 0 ≤ c ∧ c < 4294967296)
    (hq1 : 0 ≤ q1 ∧ q1 < 4294967296) (n : Nat) : ∀ q r : Int, (u * 4294967296 + c) / Y ≤ q → q ≤ 4294967297 → r = u - q * a → 0 ≤ r ∧ r < 4294967296 → q - (u * 4294967296 + c) / Y ≤ n →
    Evt (fun k => bits_Div64.l1 k Y (s : Int) a b c q1 r u q) (q1 * 4294967296 + (u * 4294967296 + c) / Y, (u * 4294967296 + c) % Y / 2 ^ s) := by
  have hQ0 : 0 ≤ (u * 4294967296 + c) / Y := Int.ediv_nonneg (by omega) (by omega)
  have hQ1 : (u * 4294967296 + c) / Y < 4294967296 := by
    apply Int.ediv_lt_of_lt_mul (by omega)
    omega
  have hl := div_left (Y := Y) (u := u) (c := c) ⟨by omega, by omega⟩ hu hc
  induction n with
  | zero =>
    intro q r hq hq2 hr hr0 hn
    obtain ⟨g1, g2, g3⟩ := div_corr hY ha hb hu hc hq hq2 hr hr0
    have hno : ¬ (q ≥ 4294967296 ∨ q * b > 4294967296 * r + c) := fun h => by have := g1 h; omega
    refine Evt.succ ?_
    simp only [bits_Div64.l1]
    refine Evt.ite_neg (fun h => hno (Or.inl h)) ?_
    have hm := mul_u64 (x := q) (y := b) ⟨by omega, by omega⟩ hb
    rw [wu64_of hm.1 hm.2, wu64_of (x := 4294967296 * r) (by omega) (by omega), wu64_of (x := 4294967296 * r + c) (by omega) (by omega)]
    refine Evt.succ ?_
    simp only [bits_Div64.j4]
    refine Evt.ite_neg (by simp only [decide_eq_true_eq]; exact fun h => hno (Or.inr h)) (Evt.ite_pos (by omega) ?_)
    rw [← g2 hno, hl, shr_u64 _ _ (by omega), wu64_of (x := q1 * 4294967296) (by omega) (by omega), wu64_of (by omega) (by omega)]
    exact Evt.pure _
  | succ n ih =>
    intro q r hq hq2 hr hr0 hn
    obtain ⟨g1, g2, g3⟩ := div_corr hY ha hb hu hc hq hq2 hr hr0
    have key : ∀ t : Bool, (t = true ↔ (q ≥ 4294967296 ∨ q * b > 4294967296 * r + c)) → Evt (fun k => bits_Div64.j4 k Y (s : Int) a b c q1 r u q t) (q1 * 4294967296 + (u * 4294967296 + c) / Y, (u * 4294967296 + c) % Y / 2 ^ s) := by
      intro t ht
      refine Evt.succ ?_
      simp only [bits_Div64.j4]
      by_cases h : t = true
      · have h' := ht.1 h
        have hq1 := g1 h'
        refine Evt.ite_pos h ?_
        rw [wu64_of (x := r + a) (by omega) (by omega), wu64_of (x := q - 1) (by omega) (by omega)]
        by_cases h2 : r + a ≥ 4294967296
        · refine Evt.ite_pos h2 (Evt.ite_pos (by omega) ?_)
          rw [← g3 h' h2, hl, shr_u64 _ _ (by omega), wu64_of (x := q1 * 4294967296) (by omega) (by omega), wu64_of (by omega) (by omega)]
          exact Evt.pure _
        · refine Evt.ite_neg h2 (ih (q - 1) (r + a) hq1 (by omega) ?_ (by omega) (by omega))
          rw [hr]; grind
      · refine Evt.ite_neg h (Evt.ite_pos (by omega) ?_)
        rw [← g2 (fun h' => h (ht.2 h')), hl, shr_u64 _ _ (by omega), wu64_of (x := q1 * 4294967296) (by omega) (by omega), wu64_of (by omega) (by omega)]
        exact Evt.pure _
    refine Evt.succ ?_
    simp only [bits_Div64.l1]
    by_cases h : q ≥ 4294967296
    · exact Evt.ite_pos h (key true ⟨fun _ => Or.inl h, fun _ => rfl⟩)
    · refine Evt.ite_neg h (key _ ?_)
      have hm := mul_u64 (x := q) (y := b) ⟨by omega, by omega⟩ hb
      rw [wu64_of hm.1 hm.2, wu64_of (x := 4294967296 * r) (by omega) (by omega), wu64_of (x := 4294967296 * r + c) (by omega) (by omega), decide_eq_true_eq]
      exact ⟨fun h => Or.inr h, fun h' => by rcases h' with h' | h'; exact absurd h' h; exact h'⟩
theorem mask32 {x : Int} (h0 : 0 ≤ x) (h1 : x < 18446744073709551616) : Go.bits .and .u64 x 4294967295 = x % 4294967296 := by
  have h := bits_mask .u64 64 (by decide) wraps_u64 32 (by decide) x h0 (by omega)
  rw [show (2 : Int) ^ 32 = 4294967296 from by decide] at h
  exact h
theorem bits_Div64_ev {hi lo y : Int} (h1 : 0 ≤ hi ∧ hi < y) (h2 : 0 ≤ lo ∧ lo < 18446744073709551616) (h3 : y < 18446744073709551616) :
    Evt (fun k => bits_Div64.f k hi lo y) ((hi * 18446744073709551616 + lo) / y, (hi * 18446744073709551616 + lo) % y) := by
  unfold bits_Div64.f
  refine Evt.ite_neg (by omega) (Evt.ite_neg (by omega) ?_)
  by_cases h0 : hi = 0
  · subst h0
    have h4 := Int.ediv_nonneg h2.1 (show 0 ≤ y by omega)
    have h5 := Int.ediv_le_self y h2.1
    refine Evt.ite_pos rfl ?_
    rw [Int.zero_mul, Int.zero_add, Int.tdiv_eq_ediv_of_nonneg h2.1, Int.tmod_eq_emod_of_nonneg h2.1, wu64_of h4 (by omega)]
    exact Evt.pure _
  · refine Evt.ite_neg h0 ?_
    have hbl := bl_le (x := y.toNat) (m := 64) (by omega)
    have hbp := bl_pos (n := y.toNat) (by omega)
    have hb1 := bl_lt y.toNat
    have hb2 := bl_ge (n := y.toNat) (by omega)
    obtain ⟨s, hs⟩ : ∃ s, s = 64 - bl y.toNat := ⟨_, rfl⟩
    have hs64 : s < 64 := by omega
    refine Evt.bind (Evt.bind (h := fun t _ => some (wrap64 (64 - t))) (bits_Len64_ev (x := y) (by omega) h3) (Evt.pure _)) ?_
    rw [show wrap64 (64 - ((bl y.toNat : Nat) : Int)) = (s : Int) from by rw [w64 (by omega) (by omega)]; omega]
    rw [wu64_of (x := (s : Int)) (by omega) (by omega), wu64_of (x := 64 - (s : Int)) (by omega) (by omega), show 64 - (s : Int) = ((64 - s : Nat) : Int) from by omega]
    rw [shl_u64 y s (by omega), shl_u64 hi s (by omega), shl_u64 lo s (by omega), shr_u64 lo (64 - s) (by omega)]
    have hp := pow2_pos s
    have hY1 : y * 2 ^ s < 18446744073709551616 := by
      have h4 : y.toNat * 2 ^ s < 2 ^ bl y.toNat * 2 ^ s := Nat.mul_lt_mul_of_pos_right hb1 (Nat.pow_pos (by decide))
      rw [← Nat.pow_add, show bl y.toNat + s = 64 from by omega] at h4
      have h5 : ((y.toNat * 2 ^ s : Nat) : Int) = y * 2 ^ s := by rw [Int.natCast_mul, Int.toNat_of_nonneg (by omega)]; simp
      omega
    have hY2 : 9223372036854775808 ≤ y * 2 ^ s := by
      have h4 : 2 ^ (bl y.toNat - 1) * 2 ^ s ≤ y.toNat * 2 ^ s := Nat.mul_le_mul_right _ hb2
      rw [← Nat.pow_add, show bl y.toNat - 1 + s = 63 from by omega] at h4
      have h5 : ((y.toNat * 2 ^ s : Nat) : Int) = y * 2 ^ s := by rw [Int.natCast_mul, Int.toNat_of_nonneg (by omega)]; simp
      omega
    have hh0 : 0 ≤ hi * 2 ^ s := Int.mul_nonneg h1.1 (by omega)
    have hh1 : hi * 2 ^ s + 2 ^ s ≤ y * 2 ^ s := by
      have := Int.mul_le_mul_of_nonneg_right (show hi + 1 ≤ y by omega) (show 0 ≤ (2 : Int) ^ s by omega)
      rw [Int.add_mul, Int.one_mul] at this
      exact this
    obtain ⟨f1, f2, f3, f4⟩ := shl_facts h2 (s := s) (by omega)
    have f5 := Int.emod_nonneg (lo * 2 ^ s) (show (18446744073709551616 : Int) ≠ 0 by omega)
    have f6 := Int.emod_lt_of_pos (lo * 2 ^ s) (show (0 : Int) < 18446744073709551616 by omega)
    rw [Int.emod_eq_of_lt (show 0 ≤ y * 2 ^ s by omega) hY1, Int.emod_eq_of_lt hh0 (by omega)]
    rw [or_u64 s (by omega) hh0 (Int.mul_emod_left _ _) (by omega) f3 f4]
    rw [mask32 (by omega) hY1, mask32 f5 f6]
    have hres : ((hi * 18446744073709551616 + lo) * 2 ^ s) / (y * 2 ^ s) = (hi * 18446744073709551616 + lo) / y := Int.mul_ediv_mul_of_pos_left _ _ hp
    have hrem : ((hi * 18446744073709551616 + lo) * 2 ^ s) % (y * 2 ^ s) = (hi * 18446744073709551616 + lo) % y * 2 ^ s := by
      rw [Int.mul_comm _ (2 ^ s), Int.mul_comm y, Int.mul_emod_mul_of_pos _ _ hp, Int.mul_comm]
    have hV : (hi * 18446744073709551616 + lo) * 2 ^ s = (hi * 2 ^ s + lo / 2 ^ (64 - s)) * 18446744073709551616 + (lo * 2 ^ s) % 18446744073709551616 := by
      have e : (hi * 18446744073709551616 + lo) * 2 ^ s = hi * 2 ^ s * 18446744073709551616 + lo * 2 ^ s := by grind
      rw [e]
      omega
    have hu : 0 ≤ hi * 2 ^ s + lo / 2 ^ (64 - s) ∧ hi * 2 ^ s + lo / 2 ^ (64 - s) < y * 2 ^ s := by omega
    generalize (hi * 18446744073709551616 + lo) / y = RQ at *
    generalize (hi * 18446744073709551616 + lo) % y = RM at *
    generalize hi * 2 ^ s + lo / 2 ^ (64 - s) = u at *
    generalize (lo * 2 ^ s) % 18446744073709551616 = v at *
    generalize y * 2 ^ s = Y at *
    rw [hV] at hres hrem
    have ha : 2147483648 ≤ Y / 4294967296 ∧ Y / 4294967296 < 4294967296 := by omega
    have hb : 0 ≤ Y % 4294967296 ∧ Y % 4294967296 < 4294967296 := by omega
    have hYY : Y = Y / 4294967296 * 4294967296 + Y % 4294967296 := by omega
    have hc : 0 ≤ v / 4294967296 ∧ v / 4294967296 < 4294967296 := by omega
    have hc0 : 0 ≤ v % 4294967296 ∧ v % 4294967296 < 4294967296 := by omega
    have hvv : v = v / 4294967296 * 4294967296 + v % 4294967296 := by omega
    generalize Y / 4294967296 = a at *
    generalize Y % 4294967296 = b at *
    generalize v / 4294967296 = c at *
    generalize v % 4294967296 = c0 at *
    refine Evt.ite_pos (by omega) (Evt.ite_pos (by omega) (Evt.ite_neg (by omega) ?_))
    obtain ⟨g1, g2, g3, g4, g5, g6⟩ := div_first c hYY ha hb hu hc
    rw [g1, g2]
    have hY0 : 0 < Y := by omega
    have m1 := Int.emod_nonneg (u * 4294967296 + c) (show Y ≠ 0 by omega)
    have m2 := Int.emod_lt_of_pos (u * 4294967296 + c) hY0
    have m3 := Int.emod_add_mul_ediv (u * 4294967296 + c) Y
    have q0 : 0 ≤ (u * 4294967296 + c) / Y := Int.ediv_nonneg (by omega) (by omega)
    have q1 : (u * 4294967296 + c) / Y < 4294967296 := by
      apply Int.ediv_lt_of_lt_mul hY0
      omega
    have hl := div_left (Y := Y) (u := u) (c := c) ⟨hY0, hY1⟩ hu hc
    refine div_l0 hYY ha hb hu hc ?_ 4294967300 (u / a) (u - u / a * a) g3 g4 rfl ⟨g5, g6⟩ (by omega)
    refine Evt.succ ?_
    simp only [bits_Div64.j2]
    refine Evt.ite_neg (by omega) ?_
    rw [hl]
    generalize (u * 4294967296 + c) % Y = u2 at *
    generalize (u * 4294967296 + c) / Y = Q1 at *
    obtain ⟨k1, k2, k3, k4, k5, k6⟩ := div_first c0 hYY ha hb ⟨m1, m2⟩ hc0
    rw [k1, k2]
    have n1 := Int.emod_nonneg (u2 * 4294967296 + c0) (show Y ≠ 0 by omega)
    have n2 := Int.emod_lt_of_pos (u2 * 4294967296 + c0) hY0
    have n3 := Int.emod_add_mul_ediv (u2 * 4294967296 + c0) Y
    have r0 : 0 ≤ (u2 * 4294967296 + c0) / Y := Int.ediv_nonneg (by omega) (by omega)
    have hend := div_l1 (q1 := Q1) s hs64 hYY ha hb ⟨m1, m2⟩ hc0 ⟨q0, q1⟩ 4294967300 (u2 / a) (u2 - u2 / a * a) k3 k4 rfl ⟨k5, k6⟩ (by omega)
    refine hend.congr (fun k => rfl) ?_
    generalize (u2 * 4294967296 + c0) % Y = M at *
    generalize (u2 * 4294967296 + c0) / Y = Q0 at *
    have ef : u * 18446744073709551616 + v = M + Y * (Q1 * 4294967296 + Q0) := by
      have e : Y * (Q1 * 4294967296 + Q0) = Y * Q1 * 4294967296 + Y * Q0 := by grind
      rw [e]
      omega
    rw [ef, Int.add_mul_ediv_left _ _ (show Y ≠ 0 by omega), Int.ediv_eq_zero_of_lt n1 n2, Int.zero_add] at hres
    rw [ef, Int.add_mul_emod_self_left, Int.emod_eq_of_lt n1 n2] at hrem
    rw [hres, hrem, Int.mul_ediv_cancel _ (by omega)]
theorem guess_l0 {r2 r1 r0 d1 d0 : Int} (h0 : 0 ≤ r0 ∧ r0 < 18446744073709551616) (k1 : 0 < d1 ∧ d1 < 18446744073709551616) (k0 : 0 ≤ d0 ∧ d0 < 18446744073709551616) (n : Nat) :
    ∀ q rest : Int, 0 ≤ q ∧ q < 18446744073709551616 → 0 ≤ rest ∧ rest < 18446744073709551616 → q * d1 + rest = r2 * 18446744073709551616 + r1 → q ≤ n → (∀ h, h < 18446744073709551616 → h * (d1 * 18446744073709551616 + d0) ≤ (r2 * 18446744073709551616 + r1) * 18446744073709551616 + r0 → h ≤ q) →
    ∃ g, Evt (fun k => nat_guess.l0 k r0 d1 d0 q rest) g ∧ (0 ≤ g ∧ g < 18446744073709551616) ∧ ∀ h, h < 18446744073709551616 → h * (d1 * 18446744073709551616 + d0) ≤ (r2 * 18446744073709551616 + r1) * 18446744073709551616 + r0 → h ≤ g := by
  induction n with
  | zero =>
    intro q rest hq hr he hn hall
    obtain rfl : q = 0 := by omega
    obtain ⟨hi, lo, e, e2, e3, e4⟩ := bits_Mul64_eq (x := 0) (y := d0) (by omega) k0
    refine ⟨0, ?_, by omega, hall⟩
    refine Evt.succ ?_
    simp only [nat_guess.l0]
    refine Evt.bind (Evt.of (fun _ => e)) ?_
    refine Evt.cond' (fun _ => ?_) (fun c => ?_)
    · refine Evt.succ ?_
      simp only [nat_guess.j1]
      exact Evt.ite_pos (by simp) (Evt.pure _)
    · rw [Int.zero_mul] at e2
      refine Evt.ite_pos (by omega) ?_
      refine Evt.succ ?_
      simp only [nat_guess.j1]
      exact Evt.ite_pos (by simp; omega) (Evt.pure _)
  | succ n ih =>
    intro q rest hq hr he hn hall
    obtain ⟨hi, lo, e, e2, e3, e4⟩ := bits_Mul64_eq (x := q) (y := d0) hq k0
    by_cases hp : hi < rest ∨ (hi = rest ∧ lo ≤ r0)
    · refine ⟨q, ?_, hq, hall⟩
      refine Evt.succ ?_
      simp only [nat_guess.l0]
      refine Evt.bind (Evt.of (fun _ => e)) ?_
      refine Evt.cond' (fun _ => ?_) (fun c => ?_)
      · refine Evt.succ ?_
        simp only [nat_guess.j1]
        exact Evt.ite_pos (by simp) (Evt.pure _)
      · refine Evt.ite_pos (by omega) ?_
        refine Evt.succ ?_
        simp only [nat_guess.j1]
        exact Evt.ite_pos (by simp; omega) (Evt.pure _)
    · have hno : ∀ h, h < 18446744073709551616 → h * (d1 * 18446744073709551616 + d0) ≤ (r2 * 18446744073709551616 + r1) * 18446744073709551616 + r0 → h ≤ q - 1 := by
        intro h h1 h2
        have h3 := hall h h1 h2
        by_cases h4 : h = q
        · subst h4
          have e5 : h * (d1 * 18446744073709551616 + d0) = h * d1 * 18446744073709551616 + h * d0 := by grind
          rw [e5, ← e2] at h2
          omega
        · omega
      have hq0 : q ≠ 0 := by
        intro h
        subst h
        rw [Int.zero_mul] at e2
        omega
      have step : ∀ {g : Int}, Evt (fun k => if IntKind.u64.wrap (rest + d1) < rest then (some (IntKind.u64.wrap (q - 1))) else (nat_guess.l0 k r0 d1 d0 (IntKind.u64.wrap (q - 1)) (IntKind.u64.wrap (rest + d1)))) g → Evt (fun k => nat_guess.l0 k r0 d1 d0 q rest) g := by
        intro g hg
        refine Evt.succ ?_
        simp only [nat_guess.l0]
        refine Evt.bind (Evt.of (fun _ => e)) ?_
        refine Evt.ite_neg (by omega) ?_
        refine Evt.cond' (fun _ => ?_) (fun c => ?_)
        · refine Evt.succ ?_
          simp only [nat_guess.j1]
          exact Evt.ite_neg (by simp; omega) hg
        · refine Evt.succ ?_
          simp only [nat_guess.j1]
          exact Evt.ite_neg (by simp) hg
      rw [wu64_of (x := q - 1) (by omega) (by omega), wu64] at step
      by_cases hov : rest + d1 < 18446744073709551616
      · obtain ⟨g, g1, g2, g3⟩ := ih (q - 1) (rest + d1) (by omega) (by omega) (by rw [Int.sub_mul]; omega) (by omega) hno
        refine ⟨g, step ?_, g2, g3⟩
        rw [Int.emod_eq_of_lt (by omega) hov]
        exact Evt.ite_neg (by omega) g1
      · refine ⟨q - 1, step ?_, by omega, hno⟩
        exact Evt.ite_pos (by omega) (Evt.pure _)
theorem nat_guess_ev {r2 r1 r0 d1 d0 : Int} (h2 : 0 ≤ r2) (h1 : 0 ≤ r1 ∧ r1 < 18446744073709551616) (h0 : 0 ≤ r0 ∧ r0 < 18446744073709551616) (k1 : 0 < d1 ∧ d1 < 18446744073709551616) (k0 : 0 ≤ d0 ∧ d0 < 18446744073709551616) :
    ∃ g, Evt (fun k => nat_guess.f k r2 r1 r0 d1 d0) g ∧ (0 ≤ g ∧ g < 18446744073709551616) ∧ ∀ h, h < 18446744073709551616 → h * (d1 * 18446744073709551616 + d0) ≤ (r2 * 18446744073709551616 + r1) * 18446744073709551616 + r0 → h ≤ g := by
  by_cases hc : r2 ≥ d1
  · refine ⟨18446744073709551615, ?_, by omega, fun h h3 _ => by omega⟩
    unfold nat_guess.f
    exact Evt.ite_pos hc (Evt.pure _)
  · have hq0 : 0 ≤ (r2 * 18446744073709551616 + r1) / d1 := Int.ediv_nonneg (by omega) (by omega)
    have hq1 : (r2 * 18446744073709551616 + r1) / d1 < 18446744073709551616 := by
      apply Int.ediv_lt_of_lt_mul k1.1
      omega
    have hm0 := Int.emod_nonneg (r2 * 18446744073709551616 + r1) (show d1 ≠ 0 by omega)
    have hm1 := Int.emod_lt_of_pos (r2 * 18446744073709551616 + r1) k1.1
    have hm : (r2 * 18446744073709551616 + r1) / d1 * d1 + (r2 * 18446744073709551616 + r1) % d1 = r2 * 18446744073709551616 + r1 := by rw [Int.mul_comm]; exact Int.mul_ediv_add_emod _ _
    obtain ⟨g, g1, g2, g3⟩ := guess_l0 (r2 := r2) (r1 := r1) h0 k1 k0 ((r2 * 18446744073709551616 + r1) / d1).toNat ((r2 * 18446744073709551616 + r1) / d1) ((r2 * 18446744073709551616 + r1) % d1) ⟨hq0, hq1⟩ ⟨hm0, by omega⟩ hm (by omega) (by
      intro h h3 h4
      rw [Int.le_ediv_iff_mul_le k1.1]
      have e : h * (d1 * 18446744073709551616 + d0) = h * d1 * 18446744073709551616 + h * d0 := by grind
      rw [e] at h4
      by_cases h5 : 0 ≤ h
      · have : 0 ≤ h * d0 := Int.mul_nonneg h5 k0.1
        omega
      · have : h * d1 ≤ 0 := Int.mul_nonpos_of_nonpos_of_nonneg (by omega) (by omega)
        omega)
    refine ⟨g, ?_, g2, g3⟩
    unfold nat_guess.f
    refine Evt.ite_neg hc ?_
    exact Evt.bind (bits_Div64_ev (by omega) h1 k1.2) g1
theorem drop_set_self (l : List Int) (i : Nat) (x : Int) (h : i < l.length) : (l.set i x).drop i = x :: l.drop (i + 1) := by
  rw [List.drop_eq_getElem_cons (by simpa using h), List.drop_set, if_pos (Nat.lt_succ_self i)]
  simp
theorem nat_short_loop (a : List Int) (d : Int) (da : Dig (b64 : Int) a) (ha : a.length ≤ 100000) (h0 : 0 < d) (h1 : d < 18446744073709551616) (n : Nat) :
    ∀ (out : List Int) (rest : Int), n ≤ a.length → out.length = a.length → Dig (b64 : Int) out → 0 ≤ rest ∧ rest < d → val (b64 : Int) (out.drop n) * d + rest = val (b64 : Int) (a.drop n) →
    Evt (fun k => nat_short.l0 k a d out rest ((n : Int) - 1)) (limbs (num a / d.toNat), ((num a % d.toNat : Nat) : Int)) := by
  induction n with
  | zero =>
    intro out rest hn ho do_ hr hv
    refine Evt.succ ?_
    simp only [nat_short.l0]
    refine Evt.ite_neg (by omega) ?_
    refine Evt.bind (nat_trim_ev out (by simp [maxLen]; omega)) ?_
    rw [strip_limbs do_]
    rw [List.drop_zero, List.drop_zero] at hv
    have e1 := num_val do_
    have e2 := num_val da
    have e3 : num a = num out * d.toNat + rest.toNat := by
      have : (num a : Int) = ((num out * d.toNat + rest.toNat : Nat) : Int) := by
        rw [Int.natCast_add, Int.natCast_mul, e1, e2, Int.toNat_of_nonneg (by omega), Int.toNat_of_nonneg hr.1]
        exact hv.symm
      omega
    have e4 : num a / d.toNat = num out := by
      rw [e3, Nat.mul_comm, Nat.mul_add_div (by omega), Nat.div_eq_of_lt (by omega), Nat.add_zero]
    have e5 : num a % d.toNat = rest.toNat := by
      rw [e3, Nat.mul_comm, Nat.mul_add_mod, Nat.mod_eq_of_lt (by omega)]
    rw [e4, e5, Int.toNat_of_nonneg hr.1]
    exact Evt.pure _
  | succ n ih =>
    intro out rest hn ho do_ hr hv
    refine Evt.succ ?_
    simp only [nat_short.l0]
    rw [show ((n + 1 : Nat) : Int) - 1 = (n : Int) from by omega, rd_nat, w64 (by omega) (by omega)]
    have hx := da.getD b64_pos n
    have hg : a.getD n 0 = a[n] := by simp [show n < a.length by omega]
    simp only [b64] at hx
    have hq0 : 0 ≤ (rest * 18446744073709551616 + a.getD n 0) / d := Int.ediv_nonneg (by omega) (by omega)
    have hq1 : (rest * 18446744073709551616 + a.getD n 0) / d < 18446744073709551616 := by
      apply Int.ediv_lt_of_lt_mul h0
      omega
    have hm0 := Int.emod_nonneg (rest * 18446744073709551616 + a.getD n 0) (show d ≠ 0 by omega)
    have hm1 := Int.emod_lt_of_pos (rest * 18446744073709551616 + a.getD n 0) h0
    have hm : (rest * 18446744073709551616 + a.getD n 0) % d + (rest * 18446744073709551616 + a.getD n 0) / d * d = rest * 18446744073709551616 + a.getD n 0 := by rw [Int.mul_comm (_ / d)]; exact Int.emod_add_mul_ediv _ _
    refine Evt.ite_pos (by omega) (Evt.ite_pos (by omega) (Evt.ite_pos (by omega) ?_))
    refine Evt.bind (bits_Div64_ev hr hx h1) ?_
    refine Evt.ite_pos (by omega) ?_
    rw [Int.toNat_natCast]
    refine ih _ _ (by omega) (by simpa using ho) (do_.set n ⟨hq0, hq1⟩) ⟨hm0, hm1⟩ ?_
    rw [drop_set_self _ _ _ (by omega), List.drop_eq_getElem_cons (show n < a.length by omega), ← hg]
    simp only [val, b64] at hv ⊢
    generalize (rest * 18446744073709551616 + a.getD n 0) / d = Q at *
    generalize (rest * 18446744073709551616 + a.getD n 0) % d = M at *
    generalize a.getD n 0 = x at *
    rw [← hv]
    generalize val _ (out.drop (n + 1)) = V at *
    have e : (Q + ((18446744073709551616 : Nat) : Int) * V) * d = Q * d + 18446744073709551616 * (V * d) := by
      rw [Int.add_mul, Int.mul_assoc]; rfl
    rw [e, Int.mul_add]
    omega
theorem nat_short_ev (a : List Int) (d : Int) (da : Dig (b64 : Int) a) (ha : a.length ≤ 100000) (h0 : 0 < d) (h1 : d < 18446744073709551616) :
    Evt (fun k => nat_short.f k a d) (limbs (num a / d.toNat), ((num a % d.toNat : Nat) : Int)) := by
  unfold nat_short.f
  refine Evt.ite_pos (by omega) (Evt.ite_pos (by omega) ?_)
  rw [Int.toNat_natCast, w64 (by omega) (by omega)]
  refine nat_short_loop a d da ha h0 h1 a.length _ 0 (Nat.le_refl _) (by simp) (Dig.replicate b64_pos _) ⟨by omega, h0⟩ ?_
  rw [List.drop_of_length_le (by simp), List.drop_of_length_le (by simp)]
  simp [val]
end Go.Proofs.Ytgeanpnkllnipab.Z
end
section
namespace Go.Proofs.Ytgeanpnkllnipab.F
open Go.RowKit Go.Proofs.YtgeanpnkllnipabW.PrintWords Go.Proofs.YtgeanpnkllnipabW.PrintLast Go.Proofs.YtgeanpnkllnipabW.PrintMore
attribute [local go_sem] max2_int min2_int max_two min_two max_three min_three max_four min_four
set_option linter.unusedVariables false
set_option linter.unusedSimpArgs false
open Go.Proofs.Ytgeanpnkllnipab.Z (strip)
end Go.Proofs.Ytgeanpnkllnipab.F
end
section
namespace Go.Proofs.Ytgeanpnkllnipab.F
open Go.RowKit Go.Proofs.YtgeanpnkllnipabW.PrintWords Go.Proofs.YtgeanpnkllnipabW.PrintLast Go.Proofs.YtgeanpnkllnipabW.PrintMore
attribute [local go_sem] max2_int min2_int max_two min_two max_three min_three max_four min_four
set_option linter.unusedVariables false
set_option linter.unusedSimpArgs false
attribute [local go_sem] add64_run
mutual
def nat_into.l0 : Nat → List Int → List Int → Int → Int → Int → Option (List Int)
 | 0, _, _, _, _, _ => none
 | k + 1, x0, x1, x2, x6, x7 => if x7 < (x0.length : Int) then (if (wrap64 (x7 - x2)) < (x1.length : Int) then (nat_into.j1 k x0 x1 x2 x6 x7 true) else (nat_into.j1 k x0 x1 x2 x6 x7 (decide (x6 > 0)))) else (nat_into.j1 k x0 x1 x2 x6 x7 false)
def nat_into.j1 : Nat → List Int → List Int → Int → Int → Int → Bool → Option (List Int)
 | 0, _, _, _, _, _, _ => none
 | k + 1, x0, x1, x2, x6, x7, x25 => if x25 = true then (if (wrap64 (x7 - x2)) < (x1.length : Int) then (if 0 ≤ (wrap64 (x7 - x2)) then (if 0 ≤ x7 then (if x7 < (x0.length : Int) then (if carry01 x6 = true then (nat_into.l0 k (x0.set (x7 : Int).toNat (add64_s (rd x0 x7) (rd x1 (wrap64 (x7 - x2))) x6)) x1 x2 (add64_c (rd x0 x7) (rd x1 (wrap64 (x7 - x2))) x6) (wrap64 (x7 + 1))) else (none)) else (none)) else (none)) else (none)) else (if 0 ≤ x7 then (if x7 < (x0.length : Int) then (if carry01 x6 = true then (nat_into.l0 k (x0.set (x7 : Int).toNat (add64_s (rd x0 x7) 0 x6)) x1 x2 (add64_c (rd x0 x7) 0 x6) (wrap64 (x7 + 1))) else (none)) else (none)) else (none))) else (some x0)
end
def nat_into.f (k : Nat) (l0 : List Int) (l1 : List Int) (a2 : Int) : Option (List Int) := nat_into.l0 k l0 l1 a2 0 a2
end Go.Proofs.Ytgeanpnkllnipab.F
end
section
namespace Go.Proofs.Ytgeanpnkllnipab.Z
open Go.RowKit Go.Proofs.Ytgeanpnkllnipab.F Go.Proofs.YtgeanpnkllnipabW.PrintWords
set_option linter.unusedSimpArgs false
set_option linter.unusedVariables false
end Go.Proofs.Ytgeanpnkllnipab.Z
end
section
namespace Go.Proofs.Ytgeanpnkllnipab.F
open Go.RowKit Go.Proofs.YtgeanpnkllnipabW.PrintWords Go.Proofs.YtgeanpnkllnipabW.PrintLast Go.Proofs.YtgeanpnkllnipabW.PrintMore
theorem max2_mx (k k' : IntKind) (x y : Int) : Builtin.max2 (.int k x) (.int k' y) = pure (.int k (max x y)) := by
  rw [max2_int]
  congr 2
  by_cases h : x < y
  · rw [if_pos h]; omega
  · rw [if_neg h]; omega
attribute [local go_sem] max2_mx max_two
set_option linter.unusedVariables false
set_option linter.unusedSimpArgs false
open Go.Proofs.Ytgeanpnkllnipab.Z (strip Dig b64 num limbs)
end Go.Proofs.Ytgeanpnkllnipab.F
end
section
namespace Go.Proofs.Ytgeanpnkllnipab.F
open Go.RowKit Go.Proofs.YtgeanpnkllnipabW.PrintWords Go.Proofs.YtgeanpnkllnipabW.PrintLast Go.Proofs.YtgeanpnkllnipabW.PrintMore
set_option linter.unusedVariables false
set_option linter.unusedSimpArgs false
open Go.Proofs.Ytgeanpnkllnipab.Z (Dig b64 num limbs)
theorem run_store_func {P : Program} {w : World} {a : Addr} (f : Fn) (x y : Array Value) {m : Mode} : (store a (.func f x y) m).run P w = stored P w a (.func f x y) m := run_store P w a _ m rfl
attribute [local go_sem] run_store_func
def limbB (l : List Int) : Bool := l.all fun x => decide (0 ≤ x ∧ x < 18446744073709551616)
def nat_product.f (l0 l1 : List Int) : Option (List Int) := if (decide (l0.length ≤ 400) && decide (l1.length ≤ 400) && limbB l0 && limbB l1) = true then some (limbs (num l0 * num l1)) else none
end Go.Proofs.Ytgeanpnkllnipab.F
end
section
namespace Go.Proofs.Ytgeanpnkllnipab.F
open Go.RowKit Go.Proofs.YtgeanpnkllnipabW.PrintWords Go.Proofs.YtgeanpnkllnipabW.PrintLast Go.Proofs.YtgeanpnkllnipabW.PrintMore
attribute [local go_sem] max2_int min2_int max_two min_two max_three min_three max_four min_four
set_option linter.unusedVariables false
set_option linter.unusedSimpArgs false
def nat_Mul.f (k : Nat) (l0 : List Int) (l1 : List Int) : Option (List Int × Int) := (nat_right.f (([l0, l1] : List (List Int)))).bind fun t971 => (if t971 = true then ((nat_product.f l0 l1).bind fun t972 => ((nat_told.f k t972).bind fun bt975 => (some (bt975.1, bt975.2)))) else (some (([] : List Int), 1)))
def modint_Mul.f (k : Nat) (a0_0 : Bool) (l0_1 : List Int) (a1_0 : Bool) (l1_1 : List Int) : Option (Bool × List Int × Int) := (modint_right.f (([(⟨a0_0, l0_1⟩ : S52), (⟨a1_0, l1_1⟩ : S52)] : List (S52)))).bind fun t985 => (if t985 = true then ((nat_Mul.f k l0_1 l1_1).bind fun bt986 => ((modint_From.f (a0_0 != a1_0) bt986.1).bind fun bt990 => (some (bt990.1, bt990.2, bt986.2)))) else (some (false, ([] : List Int), 1)))
end Go.Proofs.Ytgeanpnkllnipab.F
end
section
namespace Go.Proofs.Ytgeanpnkllnipab.Z
open Go.RowKit Go.Proofs.Ytgeanpnkllnipab.F Go.Proofs.YtgeanpnkllnipabW.PrintWords
set_option linter.unusedSimpArgs false
set_option linter.unusedVariables false
theorem mi_right_eq (a : Bool) (l : List Int) (b : Bool) (m : List Int) (hl : l.length ≤ maxLen) (hm : m.length ≤ maxLen) : modint_right.f [⟨a, l⟩, ⟨b, m⟩] = some (intR a l && intR b m) := by
  simp only [modint_right.f, modint_Right_eq a l hl, modint_Right_eq b m hm, Option.bind_some]
  cases intR a l <;> cases intR b m <;> simp
theorem mi_right_s {a b : Bool} {m n : Nat} (hm : m < b64 ^ 64) (hn : n < b64 ^ 64) (ha : a = true → m ≠ 0) (hb : b = true → n ≠ 0) : modint_right.f [⟨a, limbs m⟩, ⟨b, limbs n⟩] = some true := by
  rw [mi_right_eq _ _ _ _ (limbs_max hm) (limbs_max hn), intR_s hm ha, intR_s hn hb]
  rfl
theorem mi_From {a : Bool} {m : Nat} (h : m < b64 ^ 64) : modint_From.f a (limbs m) = some (ofI (sI a m)) := by
  rw [modint_From_eq a _ (limbs_le64 h), fromV_s h]
theorem strip_one {x : Int} (h0 : 0 ≤ x) (h1 : x < 18446744073709551616) : strip [x] = limbs x.toNat := by
  rw [strip_limbs (dig_one h0 h1), num_one h0]
theorem b64_lt_pow {m : Nat} (h : m < b64) : m < b64 ^ 64 := Nat.lt_of_lt_of_le h (Nat.le_self_pow (by decide) b64)
theorem mi_Of_ev {x : Int} (h0 : -9223372036854775808 ≤ x) (h1 : x < 9223372036854775808) : Evt (fun k => modint_Of.f k x) (ofI x) := by
  have hb : b64 = 18446744073709551616 := rfl
  unfold modint_Of.f
  by_cases h : x < 0
  · refine Evt.ite_pos h ?_
    have e : IntKind.u64.wrap (-(IntKind.u64.wrap x)) = ((x.natAbs : Nat) : Int) := by rw [wu64, wu64]; omega
    rw [e]
    refine Evt.bind (nat_Of_ev _) ?_
    rw [strip_one (by omega) (by omega), Int.toNat_natCast]
    refine (Evt.of (fun _ => ?_))
    rw [mi_From (b64_lt_pow (by omega))]
    simp only [Option.bind_some, sI, if_true]
    rw [show -((x.natAbs : Nat) : Int) = x by omega]
  · refine Evt.ite_neg h ?_
    have e : IntKind.u64.wrap x = ((x.natAbs : Nat) : Int) := by rw [wu64]; omega
    rw [e]
    refine Evt.bind (nat_Of_ev _) ?_
    rw [strip_one (by omega) (by omega), Int.toNat_natCast]
    refine (Evt.of (fun _ => ?_))
    rw [mi_From (b64_lt_pow (by omega))]
    simp only [Option.bind_some, sI]
    rw [if_neg (by simp), show ((x.natAbs : Nat) : Int) = x by omega]
theorem toldV_of {m : Nat} (h : m < b64 ^ 64) : toldV m = (limbs m, 0) := by
  unfold toldV
  rw [if_pos h]
theorem mi_Add_s {a b : Bool} {m n : Nat} (hx : m < b64 ^ 30) (hy : n < b64 ^ 30) (ha : a = true → m ≠ 0) (hb : b = true → n ≠ 0) : Evt (fun k => modint_Add.f k a (limbs m) b (limbs n)) ((ofI (sI a m + sI b n)).1, (ofI (sI a m + sI b n)).2, 0) := by
  unfold modint_Add.f
  have hs := SmI.sum hx hy
  have hm : m < b64 ^ 64 := by omega
  have hn : n < b64 ^ 64 := by omega
  have rm := right_limbs' hm
  have rn := right_limbs' hn
  refine Evt.bind (Evt.of (fun _ => mi_right_s hm hn ha hb)) (Evt.ite_pos rfl ?_)
  by_cases hab : a = b
  · subst hab
    refine Evt.ite_pos (by simp) ?_
    have h1 := nat_Add_ev (limbs m) (limbs n) (limbs_max hm) (limbs_max hn) (dig_limbs' _) (dig_limbs' _)
    unfold addV at h1
    rw [if_pos ⟨rm, rn⟩, num_limbs, num_limbs, toldV_of hs] at h1
    refine Evt.bind h1 (Evt.of (fun _ => ?_))
    rw [mi_From hs, sI_add]
    rfl
  · refine Evt.ite_neg (by simpa using hab) ?_
    have h1 := nat_Cmp_ev (limbs m) (limbs n) (limbs_max hm) (limbs_max hn) (dig_limbs' _) (dig_limbs' _)
    unfold cmpV at h1
    rw [if_pos ⟨rm, rn⟩, num_limbs, num_limbs] at h1
    refine Evt.bind h1 ?_
    by_cases hlt : m < n
    · refine Evt.ite_pos (by unfold cmpN; rw [if_pos hlt]; omega) ?_
      have h2 := nat_Sub_ev (limbs n) (limbs m) (limbs_max hn) (limbs_max hm) (dig_limbs' _) (dig_limbs' _)
      unfold subV at h2
      rw [if_pos ⟨rn, rm⟩, num_limbs, num_limbs, if_neg (by omega)] at h2
      refine Evt.bind h2 (Evt.of (fun _ => ?_))
      rw [mi_From (Nat.lt_of_le_of_lt (Nat.sub_le _ _) hn), sI_sub (b := a) (fun e => hab e.symm) (by omega), Int.add_comm]
      rfl
    · refine Evt.ite_neg (by unfold cmpN; rw [if_neg hlt]; split <;> omega) ?_
      have h2 := nat_Sub_ev (limbs m) (limbs n) (limbs_max hm) (limbs_max hn) (dig_limbs' _) (dig_limbs' _)
      unfold subV at h2
      rw [if_pos ⟨rm, rn⟩, num_limbs, num_limbs, if_neg (by omega)] at h2
      refine Evt.bind h2 (Evt.of (fun _ => ?_))
      rw [mi_From (Nat.lt_of_le_of_lt (Nat.sub_le _ _) hm), sI_sub (b := b) hab (by omega)]
      rfl
theorem mi_Add_ev {x y : Int} (hx : SmI x) (hy : SmI y) : Evt (fun k => modint_Add.f k (ofI x).1 (ofI x).2 (ofI y).1 (ofI y).2) ((ofI (x + y)).1, (ofI (x + y)).2, 0) := by
  have h := mi_Add_s (a := decide (x < 0)) (b := decide (y < 0)) hx hy neg_abs neg_abs
  rw [sI_of, sI_of] at h
  exact h
theorem times2_ev {x : Int} {s : Nat} (hx : SmI x) (hs : s ≤ 64) : Evt (fun k => fixenc_times2.f k (ofI x).1 (ofI x).2 (s : Int)) (ofI (x * 2 ^ s)) := by
  unfold fixenc_times2.f
  have h2 : 2 ^ s ≤ b64 ^ 1 := pow2_le_b64 (by omega)
  have h3 : 2 ^ s < b64 ^ 30 := Nat.lt_of_le_of_lt h2 ((Nat.pow_lt_pow_iff_right (by decide)).2 (by decide))
  have hp := SmI.prod hx h3
  have h1 := nat_Shl_ev (limbs x.natAbs) (s : Int) (limbs_max hx.lt) (dig_limbs' _)
  unfold shlV at h1
  rw [if_pos ⟨right_limbs' hx.lt, by omega⟩, num_limbs, Int.toNat_natCast] at h1
  have h4 : (if (limbs x.natAbs).length = 0 then (([] : List Int), (0 : Int)) else if 4096 < (s : Int) then ([], 4) else toldV (x.natAbs * 2 ^ s)) = (limbs (x.natAbs * 2 ^ s), 0) := by
    by_cases h0 : x.natAbs = 0
    · rw [if_pos ((limbs_nil_iff _).2 h0), h0, Nat.zero_mul, limbs_zero]
    · rw [if_neg (fun e => h0 ((limbs_nil_iff _).1 e)), if_neg (by omega), toldV_of hp]
  rw [h4] at h1
  refine Evt.bind h1 (Evt.of (fun _ => ?_))
  rw [mi_From hp, sI_pow]
  have e : sI (ofI x).1 x.natAbs = x := sI_of x
  rw [e]
  rfl
end Go.Proofs.Ytgeanpnkllnipab.Z
end
section
namespace Go.Proofs.Ytgeanpnkllnipab.Z
open Go.RowKit Go.Proofs.Ytgeanpnkllnipab.F Go.Proofs.YtgeanpnkllnipabW.PrintWords Go.Proofs.YtgeanpnkllnipabW.PrintMore
set_option linter.unusedSimpArgs false
set_option linter.unusedVariables false
theorem shr_i64 (x : Int) (s : Nat) (hs : s ≤ 64) : shr .i64 x (s : Int) = x / 2 ^ s := by
  unfold shr
  simp only [IntKind.bits, Int.toNat_natCast]
  rw [show min s 64 = s from by omega]
theorem shr_zero_iff {x : Int} (h : 0 ≤ x) (s : Nat) : x / 2 ^ s = 0 ↔ x < 2 ^ s := by
  have hp : (0 : Int) < 2 ^ s := Int.pow_pos (by omega)
  constructor
  · intro e
    have h1 := Int.emod_lt_of_pos x hp
    have h2 := Int.emod_add_mul_ediv x (2 ^ s)
    rw [e] at h2
    omega
  · intro h1
    exact Int.ediv_eq_zero_of_lt h h1
theorem fix_Pack_ev (n : List Int) (s g h : Int) (hn : n.length ≤ maxLen) (dn : Dig (b64 : Int) n) (hg0 : -9223372036854775808 ≤ g) (hg1 : g < 9223372036854775808) (hh0 : -9223372036854775808 ≤ h) (hh1 : h < 9223372036854775808) : Evt (fun k => fixenc_Pack.f k n s g h) (packV n s g h) := by
  unfold fixenc_Pack.f packV
  refine Evt.bind (may_ev n hn dn) ?_
  have J : ∀ b : Bool, (b = false → mayV n = true ∧ 1 ≤ s ∧ s ≤ 62) → Evt (fun k => fixenc_Pack.j0 k n s g h b) (if b = true then ([], 1) else (if h < 0 ∨ 2 ^ s.toNat ≤ h then ([], 12) else encV n (ofI (g * 2 ^ s.toNat + h)).1 (ofI (g * 2 ^ s.toNat + h)).2)) := by
    intro b hb
    refine Evt.succ ?_
    simp only [fixenc_Pack.j0]
    refine Evt.cond (fun _ => Evt.pure _) (fun hc => ?_)
    obtain ⟨hm, h1, h2⟩ := hb (by simpa using hc)
    by_cases h0 : h < 0
    · rw [if_pos (Or.inl h0)]
      exact Evt.ite_pos h0 (Evt.pure _)
    · refine Evt.ite_neg h0 (Evt.ite_pos (by omega) ?_)
      obtain ⟨q, rfl⟩ : ∃ q : Nat, s = (q : Int) := ⟨s.toNat, by omega⟩
      rw [Int.toNat_natCast, shr_i64 h q (by omega)]
      by_cases h3 : h < 2 ^ q
      · rw [if_neg (by omega)]
        refine Evt.ite_pos ((shr_zero_iff (by omega) q).2 h3) ?_
        refine Evt.bind (mi_Of_ev hg0 hg1) ?_
        refine Evt.bind (times2_ev ((Sz.i64 hg0 hg1).smI (by omega)) (by omega)) ?_
        refine Evt.bind (mi_Of_ev hh0 hh1) ?_
        have z1 := Sz.mul (Sz.i64 hg0 hg1) (Sz.pow (s := q) (by omega))
        have z2 := Sz.mono (Sz.i64 hh0 hh1) (show 1 ≤ 3 by omega)
        refine Evt.bind (mi_Add_ev (z1.smI (by omega)) (z2.smI (by omega))) ?_
        have z3 := Sz.add z1 z2
        exact Evt.bind (fix_Encode_ev n (ofI (g * 2 ^ q + h)).1 (ofI (g * 2 ^ q + h)).2 hn (limbs_max (z3.smI (by omega)).lt) dn (dig_limbs' _)) (h := fun t _ => some (t.1, t.2)) (Evt.pure _)
      · rw [if_pos (by omega)]
        refine Evt.ite_neg (fun e => h3 ((shr_zero_iff (by omega) q).1 e)) (Evt.pure _)
  cases hm : mayV n with
  | false =>
    refine Evt.ite_neg (by simp) ((J true (by simp)).congr (fun k => rfl) ?_)
    simp
  | true =>
    refine Evt.ite_pos rfl ?_
    by_cases h1 : s < 1
    · refine Evt.ite_pos h1 ((J true (by simp)).congr (fun k => rfl) ?_)
      rw [if_pos rfl, if_neg (fun e => absurd e.2.1 (by omega))]
    · refine Evt.ite_neg h1 ((J _ (fun e => ⟨hm, by omega, by simpa using e⟩)).congr (fun k => rfl) ?_)
      have h1' : 1 ≤ s := by omega
      by_cases h2 : s ≤ 62
      · have h3 : ¬ s > 62 := by omega
        simp [h1', h2, h3]
      · have h3 : s > 62 := by omega
        simp [h2, h3]
theorem limbs_dig' (v : Nat) : Dig (b64 : Int) (limbs v) := toD_dig b64_two v
theorem limbs_can' (v : Nat) : Can (limbs v) := toD_can b64_two v
theorem limbs_len' {v n : Nat} (h : v < b64 ^ n) : (limbs v).length ≤ n := toD_len_le b64_two h
theorem pow_pos64' (n : Nat) : 0 < b64 ^ n := Nat.pow_pos (by decide)
theorem num_strip' {l : List Int} (d : Dig (b64 : Int) l) : num (strip l) = num l := by rw [strip_limbs d, num_limbs]
theorem vdrop (B : Int) (a : List Int) (j : Nat) : val B (a.drop j) = a.getD j 0 + B * val B (a.drop (j + 1)) := by
  by_cases h : j < a.length
  · rw [List.drop_eq_getElem_cons h]
    simp [val, List.getD_eq_getElem?_getD, h]
  · rw [List.drop_of_length_le (by omega), List.drop_of_length_le (by omega)]
    simp [val, List.getD_eq_getElem?_getD, Nat.le_of_not_lt h]
theorem vsplit (B : Int) (a : List Int) (j : Nat) (hj : j ≤ a.length) : val B a = val B (a.take j) + B ^ j * val B (a.drop j) := by
  have := val_append B (a.take j) (a.drop j)
  rw [List.take_append_drop, List.length_take, Nat.min_eq_left hj] at this
  exact this
theorem clone_ev (l : List Int) (h : l.length ≤ 100000) : api_Nat_uint64.f l = some l := by
  unfold api_Nat_uint64.f
  simp only [Option.bind_some, List.nil_append, List.length_nil]
  rw [if_pos (by omega)]
theorem long_l2 (a q : List Int) (da : Dig (b64 : Int) a) (ha : a.length ≤ 100000) (hq : q.length ≤ 100000) (s : Nat) (hs : s < 64) (n : Nat) :
    ∀ (i : Nat) (p : List Int), a.length - i = n → i ≤ a.length → p.length = i → p ++ downL s (a.drop i) = downL s a →
      Evt (fun k => nat_long.l2 k (s : Int) q a (p ++ List.replicate n 0) (a.length : Int) (i : Int)) (strip q, strip (downL s a)) := by
  induction n with
  | zero =>
    intro i p hn hi hp he
    refine Evt.succ ?_
    simp only [nat_long.l2]
    refine Evt.ite_neg (by omega) ?_
    rw [List.drop_of_length_le (by omega)] at he
    simp only [downL, List.append_nil] at he
    rw [List.replicate_zero, List.append_nil, he]
    have hdl := (downL_facts s hs a da).2.1
    exact Evt.bind (nat_trim_ev q (by simp [maxLen]; omega)) (Evt.bind (nat_trim_ev (downL s a) (by simp [maxLen]; omega)) (h := fun t _ => some (strip q, t)) (Evt.pure _))
  | succ n ih =>
    intro i p hn hi hp he
    have hlt : i < a.length := by omega
    have rx := da a[i] (List.getElem_mem hlt)
    have ry := (da.drop (i + 1)).getD b64_pos 0
    have hB : (b64 : Int) = 18446744073709551616 := rfl
    rw [hB] at rx ry
    rw [List.drop_eq_getElem_cons hlt] at he
    simp only [downL] at he
    have hx : rd a (i : Int) = a[i] := by simp [rd_nat, hlt]
    refine Evt.succ ?_
    simp only [nat_long.l2]
    refine Evt.ite_pos (by omega) (Evt.ite_pos (by omega) (Evt.ite_pos (by omega) (Evt.ite_pos (by omega) (Evt.ite_pos (by simp; omega) ?_))))
    refine Evt.bind (Evt.pure _) ?_
    rw [hx, shr_u64 _ s (by omega), show ((i : Int)).toNat = p.length from by omega, List.replicate_succ, set_at, w64 (show -9223372036854775808 ≤ (i : Int) + 1 by omega) (by omega)]
    have hps := pow2_pos s
    have hxd0 : 0 ≤ a[i] / 2 ^ s := Int.ediv_nonneg rx.1 (by omega)
    by_cases h0 : s = 0
    · refine Evt.ite_neg (by omega) ?_
      rw [if_pos h0, Int.add_zero] at he
      refine (ih (i + 1) (p ++ [a[i] / 2 ^ s]) (by omega) (by omega) (by simp; omega) (by rw [List.append_assoc]; exact he)).congr (fun k => ?_) rfl
      rw [List.append_assoc]; rfl
    · refine Evt.ite_pos (by omega) ?_
      rw [if_neg h0] at he
      by_cases h1 : i + 1 < a.length
      · refine Evt.ite_pos (by omega) (Evt.ite_pos (by omega) (Evt.ite_pos (by rw [wu64_of (by omega) (by omega)]; omega) ?_))
        have hy : rd a ((i : Int) + 1) = a[i + 1] := by
          rw [show (i : Int) + 1 = ((i + 1 : Nat) : Int) from by omega, rd_nat]
          simp [List.getD_eq_getElem?_getD, h1]
        have hy2 : (a.drop (i + 1)).getD 0 0 = a[i + 1] := by simp [List.getD_eq_getElem?_getD, h1]
        have hg : rd (p ++ a[i] / 2 ^ s :: List.replicate n 0) (i : Int) = a[i] / 2 ^ s := by
          rw [rd_nat]
          simp [List.getD_eq_getElem?_getD, ← hp]
        rw [hy2] at he ry
        obtain ⟨f1, f2, f3, f4⟩ := shl_facts ry (s := 64 - s) (by omega)
        have hxd1 : a[i] / 2 ^ s < 2 ^ (64 - s) := by
          apply Int.ediv_lt_of_lt_mul hps
          rw [Int.mul_comm, pow64_split (by omega)]
          exact rx.2
        have hz0 : 0 ≤ (a[i + 1] * 2 ^ (64 - s)) % 18446744073709551616 := by omega
        have hz1 : (a[i + 1] * 2 ^ (64 - s)) % 18446744073709551616 < 18446744073709551616 := by omega
        have hq64 : (2 : Int) ^ (64 - s) ≤ 2 ^ 64 := pow_mono (by omega) (by omega)
        rw [hy, hg, wu64_of (show (0 : Int) ≤ 64 - (s : Int) by omega) (by omega), show (64 : Int) - (s : Int) = ((64 - s : Nat) : Int) from by omega, shl_u64 _ (64 - s) (by omega), set_at, or_comm_u64 hxd0 (by omega) hz0 hz1, or_u64 (64 - s) (by omega) hz0 f2 hz1 hxd0 hxd1]
        refine (ih (i + 1) (p ++ [(a[i + 1] * 2 ^ (64 - s)) % 18446744073709551616 + a[i] / 2 ^ s]) (by omega) (by omega) (by simp; omega) (by rw [List.append_assoc, Int.add_comm ((a[i + 1] * 2 ^ (64 - s)) % 18446744073709551616)]; exact he)).congr (fun k => ?_) rfl
        rw [List.append_assoc]; rfl
      · refine Evt.ite_neg (by omega) ?_
        have hy2 : (a.drop (i + 1)).getD 0 0 = 0 := by rw [List.drop_of_length_le (by omega)]; rfl
        rw [hy2, Int.zero_mul, Int.zero_emod, Int.add_zero] at he
        refine (ih (i + 1) (p ++ [a[i] / 2 ^ s]) (by omega) (by omega) (by simp; omega) (by rw [List.append_assoc]; exact he)).congr (fun k => ?_) rfl
        rw [List.append_assoc]; rfl
theorem long_l1 (r d q part sN : List Int) (s dk gs : Int) (a : Nat) (hpart : part.length ≤ 1000) (hdl : d.length ≤ 1000) (dp : Dig (b64 : Int) part) (dd : Dig (b64 : Int) d) (hg0 : 0 ≤ gs)
    (hfit : ∀ g : Int, 0 ≤ g → (num d * g.toNat ≤ num part ↔ g ≤ gs)) (hs : Evt (fun k => nat_less.f k part (limbs (num d * gs.toNat))) sN) (hsl : sN.length = part.length) (haq : a < q.length) (ha : a ≤ 1000000)
    {res : List Int × List Int} (fin : Evt (fun k => nat_long.l0 k s (r.take a ++ (sN ++ r.drop (a + part.length))) d dk (q.set a gs) ((a : Int) - 1)) res) (n : Nat) :
    ∀ g : Int, gs ≤ g → g < 18446744073709551616 → g - gs ≤ n → Evt (fun k => nat_long.l1 k s r d dk q (a : Int) g part) res := by
  have step : ∀ g : Int, gs ≤ g → g < 18446744073709551616 → (gs < g → Evt (fun k => nat_long.l1 k s r d dk q (a : Int) (IntKind.u64.wrap (g - 1)) part) res) → Evt (fun k => nat_long.l1 k s r d dk q (a : Int) g part) res := by
    intro g h1 h2 hnext
    have dg : Dig (b64 : Int) [g] := Dig.cons.2 ⟨⟨by omega, h2⟩, Dig.nil⟩
    have hng : num (strip [g]) = g.toNat := by rw [num_strip' dg, num_one (by omega)]
    refine Evt.succ ?_
    simp only [nat_long.l1]
    refine Evt.bind (nat_Of_ev g) ?_
    refine Evt.bind (nat_school_ev d (strip [g]) (by omega) (by have := strip_length [g]; simp at this; omega) dd (by rw [strip_limbs dg]; exact limbs_dig' _)) ?_
    refine Evt.bind (Evt.of (fun _ => clone_ev part (by omega))) ?_
    refine Evt.bind (nat_trim_ev part (by simp [maxLen]; omega)) ?_
    rw [hng, strip_limbs dp]
    refine Evt.bind (nat_compare_ev (limbs (num part)) (limbs (num d * g.toNat)) (limbs_dig' _) (limbs_dig' _) (limbs_can' _) (limbs_can' _) (by have := limbs_len' (num_lt dp); omega)) ?_
    rw [num_limbs, num_limbs]
    by_cases hle : g ≤ gs
    · obtain rfl : g = gs := by omega
      have hf := (hfit g hg0).2 (Int.le_refl _)
      refine Evt.ite_pos (by unfold cmpN; rw [if_neg (by omega)]; split <;> omega) ?_
      refine Evt.bind hs ?_
      refine Evt.ite_pos hsl (Evt.ite_pos (by omega) (Evt.ite_pos (by omega) ?_))
      rw [Int.toNat_natCast, w64 (by omega) (by omega)]
      exact fin
    · have hf : ¬ num d * g.toNat ≤ num part := fun h => hle ((hfit g (by omega)).1 h)
      refine Evt.ite_neg (by unfold cmpN; rw [if_pos (by omega)]; omega) ?_
      exact hnext (by omega)
  induction n with
  | zero =>
    intro g h1 h2 h3
    exact step g h1 h2 (fun h => absurd h (by omega))
  | succ n ih =>
    intro g h1 h2 h3
    refine step g h1 h2 (fun h => ?_)
    rw [wu64_of (by omega) (by omega)]
    exact ih (g - 1) (by omega) (by omega) (by omega)
theorem guess_fits {X D P0 D0 W r2 r1 r0 d1 d0 g h : Int} (hX : X = P0 + W * (r0 + 18446744073709551616 * (r1 + 18446744073709551616 * r2))) (hD : D = D0 + W * (d0 + 18446744073709551616 * d1))
    (hP : P0 < W) (hD0 : 0 ≤ D0) (hW : 0 < W) (hh : 0 ≤ h) (hfit : h * D ≤ X) : h * (d1 * 18446744073709551616 + d0) ≤ (r2 * 18446744073709551616 + r1) * 18446744073709551616 + r0 := by
  refine Int.not_lt.1 (fun hlt => ?_)
  have e1 : (r2 * 18446744073709551616 + r1) * 18446744073709551616 + r0 + 1 ≤ h * (d1 * 18446744073709551616 + d0) := hlt
  have e2 := Int.mul_le_mul_of_nonneg_left e1 (Int.le_of_lt hW)
  have e3 : 0 ≤ h * D0 := Int.mul_nonneg hh hD0
  have e4 : h * D = h * D0 + W * (h * (d1 * 18446744073709551616 + d0)) := by rw [hD]; grind
  have e5 : W * ((r2 * 18446744073709551616 + r1) * 18446744073709551616 + r0 + 1) = W * (r0 + 18446744073709551616 * (r1 + 18446744073709551616 * r2)) + W := by grind
  omega
theorem long_l0 (s : Nat) (hs : s < 64) (d : List Int) (dd : Dig (b64 : Int) d) (cd : Can d) (hk : 2 ≤ d.length) (hdl : d.length ≤ 400) (A : Int) (ql : Nat) (hql : ql ≤ 400) (i : Nat) :
    ∀ r q : List Int, i ≤ ql → r.length = ql + d.length → q.length = ql → Dig (b64 : Int) r → Dig (b64 : Int) q → val (b64 : Int) (r.drop i) < val (b64 : Int) d → val (b64 : Int) (q.drop i) * (b64 : Int) ^ i * val (b64 : Int) d + val (b64 : Int) r = A →
      Evt (fun k => nat_long.l0 k (s : Int) r d (d.length : Int) q ((i : Int) - 1)) (limbs (A / val (b64 : Int) d).toNat, limbs ((A % val (b64 : Int) d).toNat / 2 ^ s)) := by
  have hB : (b64 : Int) = 18446744073709551616 := rfl
  have hDn := val_nonneg b64_pos dd
  induction i with
  | zero =>
    intro r q hi hr hq dr dq hlt hv
    rw [List.drop_zero] at hlt
    rw [List.drop_zero, Int.pow_zero, Int.mul_one] at hv
    have hrn := val_nonneg b64_pos dr
    have e1 : A / val (b64 : Int) d = val (b64 : Int) q := by
      rw [← hv, Int.mul_comm, Int.mul_add_ediv_left _ _ (by omega), Int.ediv_eq_zero_of_lt hrn hlt, Int.add_zero]
    have e2 : A % val (b64 : Int) d = val (b64 : Int) r := by
      rw [← hv, Int.mul_comm, Int.add_comm, Int.add_mul_emod_self_left, Int.emod_eq_of_lt hrn hlt]
    rw [e1, e2, show (val (b64 : Int) q).toNat = num q from rfl, show (val (b64 : Int) r).toNat = num r from rfl]
    refine Evt.succ ?_
    simp only [nat_long.l0]
    refine Evt.ite_neg (by omega) ?_
    refine Evt.bind (nat_trim_ev r (by simp [maxLen]; omega)) ?_
    have hsl := strip_length r
    refine Evt.ite_pos (by omega) (Evt.ite_pos (by omega) ?_)
    rw [Int.toNat_natCast]
    have dsr : Dig (b64 : Int) (strip r) := by rw [strip_limbs dr]; exact limbs_dig' _
    refine (long_l2 (strip r) q dsr (by omega) (by omega) s hs (strip r).length 0 [] (by omega) (by omega) rfl (by simp)).congr (fun k => by rfl) ?_
    have hdw := downL_facts s hs (strip r) dsr
    rw [strip_limbs dq, strip_limbs hdw.1, num_down dsr s hs, num_strip' dr]
  | succ a ih =>
    intro r q hi hr hq dr dq hlt hv
    rw [show ((a + 1 : Nat) : Int) - 1 = (a : Int) from by omega]
    have hDlt := val_lt b64_pos dd
    have h1 := vsplit (b64 : Int) (r.drop (a + 1)) d.length (by rw [List.length_drop]; omega)
    rw [List.drop_drop] at h1
    have h2 := val_nonneg b64_pos ((dr.drop (a + 1)).take d.length)
    have h3 := val_nonneg b64_pos (dr.drop (a + 1 + d.length))
    have hW : (0 : Int) < (b64 : Int) ^ d.length := Int.pow_pos b64_pos
    have h4 : val (b64 : Int) (r.drop (a + 1 + d.length)) = 0 := by
      refine Int.le_antisymm (Int.not_lt.1 (fun h => ?_)) h3
      have := Int.mul_le_mul_of_nonneg_left (show (1 : Int) ≤ val (b64 : Int) (r.drop (a + 1 + d.length)) from h) (Int.le_of_lt hW)
      omega
    have hX := vdrop (b64 : Int) r a
    have hra := dr.getD b64_pos a
    have hpartl : (((r.take (a + d.length + 1)).drop a)).length = d.length + 1 := by
      rw [List.length_drop, List.length_take]; omega
    have hpv : val (b64 : Int) ((r.take (a + d.length + 1)).drop a) = val (b64 : Int) (r.drop a) := by
      have h5 := vsplit (b64 : Int) (r.drop a) (d.length + 1) (by rw [List.length_drop]; omega)
      rw [List.drop_drop, show a + (d.length + 1) = a + 1 + d.length from by omega, h4, Int.mul_zero, Int.add_zero] at h5
      rw [List.drop_take, show a + d.length + 1 - a = d.length + 1 from by omega]
      exact h5.symm
    have dpart : Dig (b64 : Int) ((r.take (a + d.length + 1)).drop a) := (dr.take _).drop _
    have hXlt : val (b64 : Int) (r.drop a) < 18446744073709551616 * val (b64 : Int) d := by
      rw [hX, hB] at *
      omega
    have hX0 : 0 ≤ val (b64 : Int) (r.drop a) := val_nonneg b64_pos (dr.drop a)
    have hD0 : 0 < val (b64 : Int) d := by
      have := val_nonneg b64_pos (dr.drop (a + 1))
      omega
    obtain ⟨gs, hgs⟩ : ∃ gs, gs = val (b64 : Int) (r.drop a) / val (b64 : Int) d := ⟨_, rfl⟩
    have hgs0 : 0 ≤ gs := by rw [hgs]; exact Int.ediv_nonneg hX0 hDn
    have hgs1 : gs < 18446744073709551616 := by
      rw [hgs]
      exact Int.ediv_lt_of_lt_mul hD0 hXlt
    have hle : ∀ g : Int, g * val (b64 : Int) d ≤ val (b64 : Int) (r.drop a) ↔ g ≤ gs := fun g => by rw [hgs, Int.le_ediv_iff_mul_le hD0]
    have hnd := num_val dd
    have hnp := num_val dpart
    have hfit : ∀ g : Int, 0 ≤ g → (num d * g.toNat ≤ num ((r.take (a + d.length + 1)).drop a) ↔ g ≤ gs) := by
      intro g hg
      rw [← hle g, ← hpv, ← hnp, ← hnd]
      obtain ⟨m, rfl⟩ := Int.eq_ofNat_of_zero_le hg
      rw [Int.toNat_natCast, Nat.mul_comm]
      have : ((m : Int) * (num d : Int)) = ((m * num d : Nat) : Int) := by simp
      rw [this]
      omega
    have hsmall : num d * gs.toNat ≤ num ((r.take (a + d.length + 1)).drop a) := (hfit gs hgs0).2 (Int.le_refl _)
    obtain ⟨sN, s1, s2, s3, s4⟩ := nat_less_ev ((r.take (a + d.length + 1)).drop a) (limbs (num d * gs.toNat)) (by omega) (limbs_len' (Nat.lt_of_le_of_lt hsmall (num_lt dpart))) dpart (limbs_dig' _) (by rw [num_limbs]; exact hsmall)
    rw [num_limbs] at s3
    have hsv : val (b64 : Int) sN = val (b64 : Int) (r.drop a) - gs * val (b64 : Int) d := by
      rw [← num_val s2, s3, ← hpv, ← hnp, ← hnd]
      obtain ⟨m, hm⟩ := Int.eq_ofNat_of_zero_le hgs0
      rw [hm] at hsmall ⊢
      rw [Int.toNat_natCast] at hsmall ⊢
      have : ((m : Int) * (num d : Int)) = ((num d * m : Nat) : Int) := by rw [Nat.mul_comm]; simp
      rw [this]
      omega
    have hslt : val (b64 : Int) sN < val (b64 : Int) d := by
      have h6 := Int.emod_lt_of_pos (val (b64 : Int) (r.drop a)) hD0
      have h7 := Int.emod_add_mul_ediv (val (b64 : Int) (r.drop a)) (val (b64 : Int) d)
      rw [← hgs, Int.mul_comm] at h7
      omega
    have hnew : (r.take a ++ (sN ++ r.drop (a + sN.length))).drop a = sN ++ r.drop (a + sN.length) := by
      rw [List.drop_append, List.drop_of_length_le (by rw [List.length_take]; omega), List.length_take, Nat.min_eq_left (by omega), Nat.sub_self, List.drop_zero, List.nil_append]
    have hnv : val (b64 : Int) (sN ++ r.drop (a + sN.length)) = val (b64 : Int) sN := by
      rw [val_append, s4, hpartl, show a + (d.length + 1) = a + 1 + d.length from by omega, h4, Int.mul_zero, Int.add_zero]
    have hfin := ih (r.take a ++ (sN ++ r.drop (a + sN.length))) (q.set a gs) (by omega) (by simp only [List.length_append, List.length_take, List.length_drop, s4, hpartl]; omega) (by rw [List.length_set]; exact hq)
      (Dig.append.2 ⟨dr.take _, Dig.append.2 ⟨s2, dr.drop _⟩⟩) (dq.set _ ⟨hgs0, hgs1⟩) (by rw [hnew, hnv]; exact hslt) (by
        rw [val_append, hnv, hsv, List.length_take, Nat.min_eq_left (by omega)]
        have e1 : (q.set a gs).drop a = gs :: q.drop (a + 1) := by
          rw [List.drop_eq_getElem_cons (by rw [List.length_set]; omega), List.drop_set, if_pos (Nat.lt_succ_self a)]
          simp
        rw [e1]
        simp only [val]
        have h8 := vsplit (b64 : Int) r a (by omega)
        rw [Int.pow_succ] at hv
        rw [← hv, h8]
        generalize val (b64 : Int) (q.drop (a + 1)) = Q
        generalize (b64 : Int) ^ a = W
        generalize val (b64 : Int) d = D
        generalize (b64 : Int) = B
        grind)
    have k1 := can_last cd (by omega)
    have kd1 := dd.getD b64_pos (d.length - 1)
    have kd0 := dd.getD b64_pos (d.length - 2)
    have kr2 := dr.getD b64_pos (a + d.length)
    have kr1 := dr.getD b64_pos (a + d.length - 1)
    have kr0 := dr.getD b64_pos (a + d.length - 2)
    rw [hB] at kd1 kd0 kr2 kr1 kr0
    obtain ⟨g, g1, g2, g3⟩ := nat_guess_ev (r2 := r.getD (a + d.length) 0) (r1 := r.getD (a + d.length - 1) 0) (r0 := r.getD (a + d.length - 2) 0) (d1 := d.getD (d.length - 1) 0) (d0 := d.getD (d.length - 2) 0) kr2.1 kr1 kr0 ⟨by omega, kd1.2⟩ kd0
    have hgg : gs ≤ g := by
      refine g3 gs hgs1 ?_
      have eX : val (b64 : Int) (r.drop a) = val (b64 : Int) ((r.drop a).take (d.length - 2)) + (b64 : Int) ^ (d.length - 2) * (r.getD (a + d.length - 2) 0 + 18446744073709551616 * (r.getD (a + d.length - 1) 0 + 18446744073709551616 * r.getD (a + d.length) 0)) := by
        rw [vsplit (b64 : Int) (r.drop a) (d.length - 2) (by rw [List.length_drop]; omega), List.drop_drop, show a + (d.length - 2) = a + d.length - 2 from by omega, vdrop (b64 : Int) r (a + d.length - 2), show a + d.length - 2 + 1 = a + d.length - 1 from by omega, vdrop (b64 : Int) r (a + d.length - 1), show a + d.length - 1 + 1 = a + d.length from by omega, vdrop (b64 : Int) r (a + d.length), show a + d.length + 1 = a + 1 + d.length from by omega, h4, Int.mul_zero, Int.add_zero, hB]
      have eD : val (b64 : Int) d = val (b64 : Int) (d.take (d.length - 2)) + (b64 : Int) ^ (d.length - 2) * (d.getD (d.length - 2) 0 + 18446744073709551616 * d.getD (d.length - 1) 0) := by
        have := vsplit (b64 : Int) d (d.length - 2) (by omega)
        rw [vdrop (b64 : Int) d (d.length - 2), show d.length - 2 + 1 = d.length - 1 from by omega, vdrop (b64 : Int) d (d.length - 1), show d.length - 1 + 1 = d.length from by omega, List.drop_length] at this
        simp only [val, Int.mul_zero, Int.add_zero] at this
        rw [hB] at this ⊢
        exact this
      have hPlt := val_lt b64_pos ((dr.drop a).take (d.length - 2))
      rw [List.length_take, List.length_drop, Nat.min_eq_left (by omega)] at hPlt
      exact guess_fits (g := 0) eX eD hPlt (val_nonneg b64_pos (dd.take _)) (Int.pow_pos b64_pos) hgs0 ((hle gs).2 (Int.le_refl _))
    refine Evt.succ ?_
    simp only [nat_long.l0]
    rw [w64 (x := (a : Int) + (d.length : Int)) (by omega) (by omega), w64 (x := (a : Int) + (d.length : Int) - 1) (by omega) (by omega), w64 (x := (a : Int) + (d.length : Int) - 2) (by omega) (by omega), w64 (x := (d.length : Int) - 1) (by omega) (by omega), w64 (x := (d.length : Int) - 2) (by omega) (by omega), w64 (x := (a : Int) + (d.length : Int) + 1) (by omega) (by omega)]
    rw [show (a : Int) + (d.length : Int) - 1 = ((a + d.length - 1 : Nat) : Int) from by omega, show (a : Int) + (d.length : Int) - 2 = ((a + d.length - 2 : Nat) : Int) from by omega, show (a : Int) + (d.length : Int) = ((a + d.length : Nat) : Int) from by omega, show (d.length : Int) - 1 = ((d.length - 1 : Nat) : Int) from by omega, show (d.length : Int) - 2 = ((d.length - 2 : Nat) : Int) from by omega, show ((a + d.length : Nat) : Int) + 1 = ((a + d.length + 1 : Nat) : Int) from by omega]
    simp only [rd_nat, Int.toNat_natCast]
    refine Evt.ite_pos (by omega) (Evt.ite_pos (by omega) (Evt.ite_pos (by omega) (Evt.ite_pos (by omega) (Evt.ite_pos (by omega) (Evt.ite_pos (by omega) (Evt.ite_pos (by omega) (Evt.ite_pos (by omega) (Evt.ite_pos (by omega) (Evt.ite_pos (by omega) (Evt.ite_pos (by omega) ?_))))))))))
    refine Evt.bind g1 ?_
    refine Evt.ite_pos (by omega) (Evt.ite_pos (by omega) (Evt.ite_pos (by omega) ?_))
    refine long_l1 r d q ((r.take (a + d.length + 1)).drop a) sN (s : Int) (d.length : Int) gs a (by omega) (by omega) dpart dd hgs0 hfit s1 s4 (by omega) (by omega) ?_ (g - gs).toNat g hgg g2.2 (by omega)
    rw [← s4]
    exact hfin
theorem nat_long_ev (a b : List Int) (da : Dig (b64 : Int) a) (db : Dig (b64 : Int) b) (cb : Can b) (hb : 2 ≤ b.length) (hab : b.length ≤ a.length) (ha : a.length ≤ 390) :
    Evt (fun k => nat_long.f k a b) (limbs (num a / num b), limbs (num a % num b)) := by
  have hB : (b64 : Int) = 18446744073709551616 := rfl
  have ht := can_last cb (by omega)
  have htr := db.getD b64_pos (b.length - 1)
  rw [hB] at htr
  obtain ⟨t, htt⟩ : ∃ t, t = b.getD (b.length - 1) 0 := ⟨_, rfl⟩
  rw [← htt] at ht htr
  have hbl1 := bl_lt t.toNat
  have hbl2 : bl t.toNat ≤ 64 := bl_le (by omega)
  have hbl3 := bl_pos (n := t.toNat) (by omega)
  obtain ⟨s, hs⟩ : ∃ s, s = 64 - bl t.toNat := ⟨_, rfl⟩
  have hs64 : s < 64 := by omega
  obtain ⟨r, r1, r2, r3, r4⟩ := nat_up_ev a da (by omega) s hs64
  obtain ⟨e, e1, e2, e3, e4⟩ := nat_up_ev b db (by omega) s hs64
  have v1 := vsplit (b64 : Int) b (b.length - 1) (by omega)
  rw [vdrop (b64 : Int) b (b.length - 1), show b.length - 1 + 1 = b.length from by omega, List.drop_length, ← htt] at v1
  simp only [val, Int.mul_zero, Int.add_zero] at v1
  have v2 := val_lt b64_pos (db.take (b.length - 1))
  rw [List.length_take, Nat.min_eq_left (by omega)] at v2
  have v3 := val_nonneg b64_pos (db.take (b.length - 1))
  have hnb := num_val db
  have hWp := pow_pos64' (b.length - 1)
  have hpc := pow_cast b64 (b.length - 1)
  have nlo : b64 ^ (b.length - 1) ≤ num b := by
    have h5 : (b64 : Int) ^ (b.length - 1) * 1 ≤ (b64 : Int) ^ (b.length - 1) * t := Int.mul_le_mul_of_nonneg_left (by omega) (by rw [hpc]; omega)
    rw [Int.mul_one] at h5
    omega
  have nhi : num b < b64 ^ (b.length - 1) * 2 ^ bl t.toNat := by
    have h5 : t + 1 ≤ ((2 ^ bl t.toNat : Nat) : Int) := by omega
    have h6 : (b64 : Int) ^ (b.length - 1) * (t + 1) ≤ (b64 : Int) ^ (b.length - 1) * ((2 ^ bl t.toNat : Nat) : Int) := Int.mul_le_mul_of_nonneg_left h5 (by rw [hpc]; omega)
    rw [Int.mul_add, Int.mul_one, hpc] at h6
    rw [hpc] at v1 v2
    have h7 : ((b64 ^ (b.length - 1) * 2 ^ bl t.toNat : Nat) : Int) = ((b64 ^ (b.length - 1) : Nat) : Int) * ((2 ^ bl t.toNat : Nat) : Int) := by simp
    omega
  have hP : 0 < 2 ^ s := Nat.pow_pos (by omega)
  have p64 : 2 ^ bl t.toNat * 2 ^ s = b64 := by
    rw [← Nat.pow_add, show bl t.toNat + s = 64 from by omega]
    rfl
  have dhi : num b * 2 ^ s < b64 ^ b.length := by
    have h6 := Nat.mul_lt_mul_of_pos_right nhi hP
    rw [Nat.mul_assoc, p64, ← Nat.pow_succ, show (b.length - 1).succ = b.length from by omega] at h6
    exact h6
  have dlo : b64 ^ (b.length - 1) ≤ num b * 2 ^ s := Nat.le_trans nlo (Nat.le_mul_of_pos_right _ hP)
  have dlen : (limbs (num b * 2 ^ s)).length = b.length := by
    have h6 := limbs_len' dhi
    have h7 : ¬ (limbs (num b * 2 ^ s)).length ≤ b.length - 1 := fun h => by
      have := (toD_len_iff b64_two (num b * 2 ^ s) (b.length - 1)).1 h
      omega
    omega
  have hvd : val (b64 : Int) (limbs (num b * 2 ^ s)) = ((num b * 2 ^ s : Nat) : Int) := val_toD b64_two _
  unfold nat_long.f
  rw [w64 (x := (b.length : Int) - 1) (by omega) (by omega)]
  refine Evt.ite_pos (by omega) (Evt.ite_pos (by omega) ?_)
  rw [show (b.length : Int) - 1 = ((b.length - 1 : Nat) : Int) from by omega, rd_nat, ← htt]
  have lz : Evt (fun k => bits_LeadingZeros64.f k t) (s : Int) := by
    unfold bits_LeadingZeros64.f
    refine (Evt.bind (bits_Len64_ev (x := t) (by omega) (by omega)) (h := fun t333 _ => some (wrap64 (64 - t333))) (Evt.pure _)).congr (fun k => rfl) ?_
    rw [w64 (by omega) (by omega)]
    omega
  refine Evt.bind lz ?_
  rw [wu64_of (by omega) (by omega)]
  refine Evt.bind r1 ?_
  refine Evt.bind e1 ?_
  refine Evt.bind (nat_trim_ev e (by simp [maxLen]; omega)) ?_
  rw [strip_limbs e2, e4, dlen, r3]
  rw [w64 (x := ((a.length + 1 : Nat) : Int) - (b.length : Int)) (by omega) (by omega), show ((a.length + 1 : Nat) : Int) - (b.length : Int) = ((a.length + 1 - b.length : Nat) : Int) from by omega, Int.toNat_natCast]
  refine Evt.ite_pos (by omega) (Evt.ite_pos (by omega) ?_)
  refine Evt.bind (Evt.pure _) ?_
  rw [List.length_replicate, w64 (by omega) (by omega)]
  have hmain := long_l0 s hs64 (limbs (num b * 2 ^ s)) (limbs_dig' _) (limbs_can' _) (by omega) (by omega) (val (b64 : Int) r) (a.length + 1 - b.length) (by omega) (a.length + 1 - b.length) r (List.replicate (a.length + 1 - b.length) 0) (Nat.le_refl _) (by omega) (by simp) r2 (Dig.replicate b64_pos _) (by
    have h6 := vsplit (b64 : Int) r (a.length + 1 - b.length) (by omega)
    have h7 := val_nonneg b64_pos (r2.take (a.length + 1 - b.length))
    have h8 := num_val r2
    rw [r4] at h8
    have h9 := num_lt da
    have h10 : num a * 2 ^ s < b64 ^ a.length * 2 ^ s := Nat.mul_lt_mul_of_pos_right h9 hP
    have h11 : b64 ^ a.length * 2 ^ s ≤ b64 ^ (a.length + 1 - b.length) * (num b * 2 ^ s) := by
      have : b64 ^ a.length = b64 ^ (a.length + 1 - b.length) * b64 ^ (b.length - 1) := by
        rw [← Nat.pow_add, show a.length + 1 - b.length + (b.length - 1) = a.length from by omega]
      rw [this, Nat.mul_assoc]
      exact Nat.mul_le_mul_left _ (Nat.mul_le_mul_right _ nlo)
    rw [hvd]
    refine Int.not_le.1 (fun hge => ?_)
    have h12 := Int.mul_le_mul_of_nonneg_left hge (show (0 : Int) ≤ (b64 : Int) ^ (a.length + 1 - b.length) by rw [pow_cast]; omega)
    have h13 : (b64 : Int) ^ (a.length + 1 - b.length) * ((num b * 2 ^ s : Nat) : Int) = ((b64 ^ (a.length + 1 - b.length) * (num b * 2 ^ s) : Nat) : Int) := by rw [pow_cast, ← Int.natCast_mul]
    rw [h13] at h12
    omega) (by
    rw [List.drop_of_length_le (by simp)]
    simp [val])
  rw [dlen] at hmain
  refine hmain.congr (fun k => rfl) ?_
  have h8 := num_val r2
  rw [hvd, ← h8, r4, show ((num a * 2 ^ s : Nat) : Int) / ((num b * 2 ^ s : Nat) : Int) = ((num a * 2 ^ s / (num b * 2 ^ s) : Nat) : Int) from rfl, show ((num a * 2 ^ s : Nat) : Int) % ((num b * 2 ^ s : Nat) : Int) = ((num a * 2 ^ s % (num b * 2 ^ s) : Nat) : Int) from rfl, Int.toNat_natCast, Int.toNat_natCast, Nat.mul_div_mul_right _ _ hP, Nat.mul_mod_mul_right, Nat.mul_div_cancel _ hP]
end Go.Proofs.Ytgeanpnkllnipab.Z
end
section
namespace Go.Proofs.Ytgeanpnkllnipab.Z
open Go.RowKit Go.Proofs.Ytgeanpnkllnipab.F Go.Proofs.YtgeanpnkllnipabW.PrintWords
set_option linter.unusedSimpArgs false
set_option linter.unusedVariables false
theorem nat_Div_ev (a b : List Int) (ha : a.length ≤ maxLen) (hb : b.length ≤ maxLen) (da : Dig (b64 : Int) a) (db : Dig (b64 : Int) b) : Evt (fun k => nat_Div.f k a b) (divV a b) := by
  unfold nat_Div.f divV
  rw [nat_right_eq _ (by intro l hl; simp at hl; rcases hl with rfl | rfl <;> assumption)]
  simp only [Option.bind_some, List.all_cons, List.all_nil, Bool.and_true, Bool.and_eq_true]
  by_cases h : rightB a = true ∧ rightB b = true
  · rw [if_pos h]
    refine Evt.ite_pos h ?_
    obtain ⟨h1, c1⟩ := (rightB_iff a).1 h.1
    obtain ⟨h2, c2⟩ := (rightB_iff b).1 h.2
    have hz := num_zero_iff db c2
    by_cases h0 : b.length = 0
    · rw [if_pos (hz.2 h0)]
      exact Evt.ite_pos (by omega) (Evt.pure _)
    · have hnz : num b ≠ 0 := fun e => h0 (hz.1 e)
      rw [if_neg hnz]
      refine Evt.ite_neg (by omega) ?_
      refine Evt.bind (nat_compare_ev a b da db c1 c2 (by omega)) ?_
      by_cases hlt : num a < num b
      · refine Evt.ite_pos (by unfold cmpN; rw [if_pos hlt]; omega) ?_
        refine Evt.bind (Evt.of (fun _ => clone_ev a (by omega))) ?_
        rw [Nat.div_eq_of_lt hlt, Nat.mod_eq_of_lt hlt, limbs_num da c1]
        rw [show limbs 0 = [] from toD_zero b64]
        exact Evt.pure _
      · refine Evt.ite_neg (by unfold cmpN; rw [if_neg hlt]; split <;> omega) ?_
        by_cases h3 : b.length = 1
        · obtain ⟨x, rfl⟩ : ∃ x, b = [x] := List.length_eq_one_iff.1 h3
          have hx := (Dig.cons.1 db).1
          have hx0 : num [x] = x.toNat := num_one hx.1
          refine Evt.ite_pos (by simp) (Evt.ite_pos (by simp) ?_)
          have hr : rd [x] 0 = x := rfl
          rw [hr]
          rw [hx0] at hnz ⊢
          have hB : (b64 : Int) = 18446744073709551616 := rfl
          rw [hB] at hx
          refine Evt.bind (nat_short_ev a x da (by omega) (by omega) hx.2) ?_
          refine (Evt.bind (nat_Of_ev ((num a % x.toNat : Nat) : Int)) (h := fun t _ => some (limbs (num a / x.toNat), t, (0 : Int))) (Evt.pure _)).congr (fun k => rfl) ?_
          have hm : num a % x.toNat < x.toNat := Nat.mod_lt _ (by omega)
          have dr : Dig (b64 : Int) [((num a % x.toNat : Nat) : Int)] := Dig.cons.2 ⟨by rw [hB]; omega, Dig.nil⟩
          rw [strip_limbs dr, num_one (by omega), Int.toNat_natCast]
        · refine Evt.ite_neg (by omega) ?_
          have hab := num_len_le db c2 da (by omega)
          exact Evt.bind (nat_long_ev a b da db c2 (by omega) hab (by omega)) (h := fun t _ => some (t.1, t.2, (0 : Int))) (Evt.pure _)
  · rw [if_neg h]
    exact Evt.ite_neg h (Evt.pure _)
theorem mi_Floor_s {a : Bool} {m n : Nat} (hm : m < b64 ^ 30) (hn : n < b64 ^ 30) (ha : a = true → m ≠ 0) (h0 : 0 < n) : Evt (fun k => modint_Floor.f k a (limbs m) false (limbs n)) ((ofI (sI a m / (n : Int))).1, (ofI (sI a m / (n : Int))).2, (ofI (sI a m % (n : Int))).1, (ofI (sI a m % (n : Int))).2, 0) := by
  have km : m < b64 ^ 64 := Nat.lt_of_lt_of_le hm (Nat.pow_le_pow_right (by decide) (by decide))
  have kn : n < b64 ^ 64 := Nat.lt_of_lt_of_le hn (Nat.pow_le_pow_right (by decide) (by decide))
  have kq := div_lt_lim (n := n) hm
  have kq' : m / n < b64 ^ 64 := by omega
  have kr : m % n < b64 ^ 64 := Nat.lt_of_le_of_lt (Nat.mod_le _ _) km
  unfold modint_Floor.f
  refine Evt.bind (Evt.of (fun _ => mi_right_s km kn ha (by simp))) (Evt.ite_pos rfl ?_)
  refine Evt.ite_neg (fun e => by have := (limbs_nil_iff n).1 (by omega); omega) (Evt.ite_neg (by simp) ?_)
  have h1 := nat_Div_ev (limbs m) (limbs n) (limbs_max km) (limbs_max kn) (dig_limbs' _) (dig_limbs' _)
  unfold divV at h1
  rw [if_pos ⟨right_limbs' km, right_limbs' kn⟩, num_limbs, num_limbs, if_neg (by omega)] at h1
  refine Evt.bind h1 ?_
  have J0 : Evt (fun k => modint_Floor.j0 k (limbs (m / n)) (limbs (m % n)) false a (limbs m) false (limbs n)) ((ofI (sI a (m / n))).1, (ofI (sI a (m / n))).2, (ofI (sI false (m % n))).1, (ofI (sI false (m % n))).2, 0) := by
    refine Evt.succ ?_
    simp only [modint_Floor.j0]
    refine Evt.ite_neg (by simp) (Evt.of (fun _ => ?_))
    rw [mi_From kq', mi_From kr]
    rfl
  cases a with
  | false =>
    refine Evt.ite_neg (by simp) (J0.congr (fun k => rfl) ?_)
    rfl
  | true =>
    refine Evt.ite_pos rfl ?_
    have hf := floor_neg (m := m) h0
    by_cases hr : m % n = 0
    · have e1 : decide (((limbs (m % n)).length : Int) > 0) = false := by
        rw [hr, limbs_zero]; rfl
      rw [e1]
      refine J0.congr (fun k => rfl) ?_
      rw [show sI true m = -(m : Int) from rfl]
      rw [if_pos hr, if_pos hr] at hf
      rw [hf.1, hf.2, hr]
      rfl
    · have e1 : decide (((limbs (m % n)).length : Int) > 0) = true := by
        have : (limbs (m % n)).length ≠ 0 := fun e => hr ((limbs_nil_iff _).1 e)
        simp; omega
      rw [e1]
      refine Evt.succ ?_
      simp only [modint_Floor.j0]
      refine Evt.ite_pos (by trivial) ?_
      refine Evt.bind (nat_Of_ev _) ?_
      rw [strip_one (by omega) (by omega)]
      have h2 := nat_Add_ev (limbs (m / n)) (limbs (1 : Int).toNat) (limbs_max kq') (limbs_max (m := 1) (by decide)) (dig_limbs' _) (dig_limbs' _)
      unfold addV at h2
      rw [if_pos ⟨right_limbs' kq', right_limbs' (v := 1) (by decide)⟩, num_limbs, num_limbs, show (1 : Int).toNat = 1 from rfl, toldV_of kq] at h2
      refine Evt.bind h2 (Evt.ite_pos rfl ?_)
      have h3 := nat_Sub_ev (limbs n) (limbs (m % n)) (limbs_max kn) (limbs_max kr) (dig_limbs' _) (dig_limbs' _)
      unfold subV at h3
      have hlt := Nat.mod_lt m h0
      rw [if_pos ⟨right_limbs' kn, right_limbs' kr⟩, num_limbs, num_limbs, if_neg (by omega)] at h3
      refine Evt.bind h3 (Evt.of (fun _ => ?_))
      rw [mi_From kq, mi_From (Nat.lt_of_le_of_lt (Nat.sub_le _ _) kn)]
      rw [if_neg hr, if_neg hr] at hf
      rw [show sI true m = -(m : Int) from rfl]
      rw [hf.1, hf.2]
      rfl
theorem mi_Floor_ev {x y : Int} (hx : SmI x) (hy : SmI y) (h0 : 0 < y) : Evt (fun k => modint_Floor.f k (ofI x).1 (ofI x).2 (ofI y).1 (ofI y).2) ((ofI (x / y)).1, (ofI (x / y)).2, (ofI (x % y)).1, (ofI (x % y)).2, 0) := by
  have h := mi_Floor_s (a := decide (x < 0)) (m := x.natAbs) (n := y.natAbs) hx hy neg_abs (by omega)
  rw [sI_of, show ((y.natAbs : Nat) : Int) = y by omega] at h
  have e : (ofI y).1 = false := decide_eq_false (by omega)
  rw [e]
  exact h
theorem mi_Small_ev {x : Int} (hx : SmI x) : Evt (fun k => modint_Small.f k (ofI x).1 (ofI x).2) (smI x) := by
  have hb : b64 = 18446744073709551616 := rfl
  unfold modint_Small.f
  refine Evt.bind (nat_Small_ev _ (limbs_max hx.lt)) ?_
  have es : smallV (ofI x).2 = if x.natAbs < b64 then ((x.natAbs : Int), true) else (0, false) := small_limbs hx.lt
  rw [es]
  have hr : modint_Right.f (ofI x).1 (ofI x).2 = some true := by rw [modint_Right_eq (ofI x).1 (ofI x).2 (limbs_max hx.lt), intR_of hx.lt]
  have J1 : ∀ (v : Int) (b : Bool), Evt (fun k => modint_Small.j1 k v b (ofI x).1 (ofI x).2) (if b = true then (0, false) else (if (ofI x).1 = true then (wrap64 (IntKind.u64.wrap (-v)), true) else (wrap64 v, true))) := by
    intro v b
    refine Evt.succ ?_
    simp only [modint_Small.j1]
    exact Evt.cond (fun _ => Evt.pure _) (fun _ => Evt.cond (fun _ => Evt.pure _) (fun _ => Evt.pure _))
  have J0 : ∀ (v : Int) (ok : Bool) (most : Int), Evt (fun k => modint_Small.j0 k v ok most (ofI x).1 (ofI x).2) (if ok = true ∧ v ≤ most then (if (ofI x).1 = true then (wrap64 (IntKind.u64.wrap (-v)), true) else (wrap64 v, true)) else (0, false)) := by
    intro v ok most
    refine Evt.succ ?_
    simp only [modint_Small.j0]
    rw [hr]
    simp only [Option.bind_some, if_true]
    cases ok with
    | false => exact Evt.ite_neg (by simp) ((J1 v true).congr (fun k => rfl) (by simp))
    | true =>
      refine Evt.ite_pos rfl ((J1 v _).congr (fun k => rfl) ?_)
      by_cases h : v ≤ most
      · have : ¬ v > most := by omega
        simp [h, this]
      · have : v > most := by omega
        simp [h, this]
  have ex : (ofI x).1 = decide (x < 0) := rfl
  have key : ∀ (v : Int) (ok : Bool) (most : Int), (v = (if x.natAbs < b64 then (x.natAbs : Int) else 0)) → ok = decide (x.natAbs < b64) → most = (if x < 0 then 9223372036854775808 else 9223372036854775807) → Evt (fun k => modint_Small.j0 k v ok most (ofI x).1 (ofI x).2) (smI x) := by
    intro v ok most hv hok hmost
    refine (J0 v ok most).congr (fun k => rfl) ?_
    unfold smI
    rw [ex, hb] at *
    by_cases hbig : x.natAbs < 18446744073709551616
    · rw [if_pos hbig] at hv
      rw [decide_eq_true hbig] at hok
      subst hok hv
      by_cases hn : x < 0
      · rw [if_pos hn] at hmost
        subst hmost
        by_cases hin : -9223372036854775808 ≤ x
        · rw [if_pos ⟨rfl, by omega⟩, if_pos (decide_eq_true hn), if_pos ⟨hin, by omega⟩, wu64]
          congr 1
          unfold wrap64
          omega
        · rw [if_neg (fun e => by omega), if_neg (fun e => by omega)]
      · rw [if_neg hn] at hmost
        subst hmost
        by_cases hin : x < 9223372036854775808
        · rw [if_pos ⟨rfl, by omega⟩, if_neg (by simpa using hn), if_pos ⟨by omega, hin⟩]
          congr 1
          unfold wrap64
          omega
        · rw [if_neg (fun e => by omega), if_neg (fun e => by omega)]
    · rw [decide_eq_false hbig] at hok
      subst hok
      rw [if_neg (by simp), if_neg (by omega)]
  by_cases hn : x < 0
  · refine Evt.ite_pos (by rw [ex]; exact decide_eq_true hn) (key _ _ _ ?_ ?_ ?_)
    · split <;> rfl
    · by_cases h : x.natAbs < b64
      · rw [if_pos h, decide_eq_true h]
      · rw [if_neg h, decide_eq_false h]
    · rw [if_pos hn]; rfl
  · refine Evt.ite_neg (by rw [ex]; simpa using hn) (key _ _ _ ?_ ?_ ?_)
    · split <;> rfl
    · by_cases h : x.natAbs < b64
      · rw [if_pos h, decide_eq_true h]
      · rw [if_neg h, decide_eq_false h]
    · rw [if_neg hn]
theorem fix_Unpack_ev (n : List Int) (s : Int) (v : List Int) (hn : n.length ≤ maxLen) (dn : Dig (b64 : Int) n) (hv : v.length ≤ maxLen) (dv : Dig (b64 : Int) v) : Evt (fun k => fixenc_Unpack.f k n s v) (unpackV n s v) := by
  unfold fixenc_Unpack.f unpackV
  refine Evt.bind (may_ev n hn dn) ?_
  have J : ∀ b : Bool, (b = false → mayV n = true ∧ 1 ≤ s ∧ s ≤ 62) → Evt (fun k => fixenc_Unpack.j0 k n s v b) (if b = true then (0, 0, 1) else (if rightB v = true ∧ num v < num n then (if -9223372036854775808 ≤ decI n v / 2 ^ s.toNat ∧ decI n v / 2 ^ s.toNat < 9223372036854775808 then (decI n v / 2 ^ s.toNat, decI n v % 2 ^ s.toNat, 0) else (0, 0, 12)) else (0, 0, 10))) := by
    intro b hb
    refine Evt.succ ?_
    simp only [fixenc_Unpack.j0]
    refine Evt.cond (fun _ => Evt.pure _) (fun hc => ?_)
    obtain ⟨hm, h1, h2⟩ := hb (by simpa using hc)
    obtain ⟨q, rfl⟩ : ∃ q : Nat, s = (q : Int) := ⟨s.toNat, by omega⟩
    rw [Int.toNat_natCast]
    refine Evt.bind (fix_Decode_ev n v hn hv dn dv) ?_
    rw [decV_eq dn dv hm]
    by_cases hR : rightB v = true ∧ num v < num n
    · rw [if_pos hR, if_pos hR]
      refine Evt.ite_pos rfl ?_
      have z0 := decI_sz dn hm hR.2
      have hp : (0 : Int) < 2 ^ q := Int.pow_pos (by omega)
      refine Evt.bind (mi_Of_ev (x := 1) (by omega) (by omega)) ?_
      refine Evt.bind (times2_ev (x := 1) ((Sz.i64 (x := 1) (by omega) (by omega)).smI (by omega)) (by omega)) ?_
      rw [Int.one_mul]
      refine Evt.bind (mi_Floor_ev (z0.smI (by omega)) ((Sz.pow (s := q) (by omega)).smI (by omega)) hp) ?_
      have z1 := Sz.ediv z0 hp
      refine Evt.bind (mi_Small_ev (z1.smI (by omega))) ?_
      rw [smI_of]
      by_cases hin : -9223372036854775808 ≤ decI n v / 2 ^ q ∧ decI n v / 2 ^ q < 9223372036854775808
      · rw [if_pos hin, if_pos hin]
        refine Evt.ite_pos rfl ?_
        obtain ⟨m0, m1⟩ := mod_pow_i64 (decI n v) (q := q) (by omega)
        have h4 := mi_Small_ev ((Sz.i64 (x := decI n v % 2 ^ q) (by omega) m1).smI (by omega))
        rw [smI_of, if_pos ⟨by omega, m1⟩] at h4
        exact Evt.bind h4 (h := fun t _ => some (decI n v / 2 ^ q, t.1, (0 : Int))) (Evt.pure _)
      · rw [if_neg hin, if_neg hin]
        exact Evt.ite_neg (by simp) (Evt.pure _)
    · rw [if_neg hR, if_neg hR]
      exact Evt.ite_neg (by simp) (Evt.pure _)
  cases hm : mayV n with
  | false =>
    refine Evt.ite_neg (by simp) ((J true (by simp)).congr (fun k => rfl) ?_)
    simp
  | true =>
    refine Evt.ite_pos rfl ?_
    by_cases h1 : s < 1
    · refine Evt.ite_pos h1 ((J true (by simp)).congr (fun k => rfl) ?_)
      rw [if_pos rfl, if_neg (fun e => absurd e.2.1 (by omega))]
    · refine Evt.ite_neg h1 ((J _ (fun e => ⟨hm, by omega, by simpa using e⟩)).congr (fun k => rfl) ?_)
      have h1' : 1 ≤ s := by omega
      by_cases h2 : s ≤ 62
      · have h3 : ¬ s > 62 := by omega
        simp [h1', h2, h3]
      · have h3 : s > 62 := by omega
        simp [h2, h3]
end Go.Proofs.Ytgeanpnkllnipab.Z
end
section
namespace Go.Proofs.Ytgeanpnkllnipab.F
open Go.RowKit Go.Proofs.YtgeanpnkllnipabW.PrintWords Go.Proofs.YtgeanpnkllnipabW.PrintLast Go.Proofs.YtgeanpnkllnipabW.PrintMore
attribute [local go_sem] max2_int min2_int max_two min_two max_three min_three max_four min_four
set_option linter.unusedVariables false
set_option linter.unusedSimpArgs false
mutual
def windbreakref01_In.l0 : Nat → List Int → List Int → Int → Option (List Int)
 | 0, _, _, _ => none
 | k + 1, x0, x3, x4 => if x4 < (x0.length : Int) then (if 0 ≤ x4 then (windbreakref01_In.l1 k x0 x3 x4 (rd x0 x4) 0) else (none)) else ((windbreakref01_cut.f k x3).bind fun t323 => (some t323))
def windbreakref01_In.l1 : Nat → List Int → List Int → Int → Int → Int → Option (List Int)
 | 0, _, _, _, _, _ => none
 | k + 1, x0, x3, x4, x5, x6 => if x6 < 4 then (if x3.length < 17592186044416 then (windbreakref01_In.l1 k x0 (x3 ++ [Int.tmod x5 65536]) x4 (IntKind.u64.wrap (Int.tdiv x5 65536)) (wrap64 (x6 + 1))) else (none)) else (windbreakref01_In.l0 k x0 x3 (wrap64 (x4 + 1)))
end
def windbreakref01_In.f (k : Nat) (l0 : List Int) : Option (List Int) := windbreakref01_In.l0 k l0 ([] : List Int) 0
end Go.Proofs.Ytgeanpnkllnipab.F
end
section
namespace Go.Proofs.Ytgeanpnkllnipab.Z
open Go.RowKit Go.Proofs.Ytgeanpnkllnipab.F Go.Proofs.YtgeanpnkllnipabW.PrintWords
set_option linter.unusedSimpArgs false
set_option linter.unusedVariables false
def dg (x : Int) : List Int := [x % 65536, x / 65536 % 65536, x / 65536 / 65536 % 65536, x / 65536 / 65536 / 65536 % 65536]
end Go.Proofs.Ytgeanpnkllnipab.Z
end
section
namespace Go.Proofs.Ytgeanpnkllnipab.F
open Go.RowKit Go.Proofs.YtgeanpnkllnipabW.PrintWords Go.Proofs.YtgeanpnkllnipabW.PrintLast Go.Proofs.YtgeanpnkllnipabW.PrintMore
attribute [local go_sem] max2_int min2_int max_two min_two max_three min_three max_four min_four
set_option linter.unusedVariables false
set_option linter.unusedSimpArgs false
mutual
def windbreakref01_mul.l0 : Nat → List Int → List Int → List Int → Int → Option (List Int)
 | 0, _, _, _, _ => none
 | k + 1, x0, x1, x5, x6 => if x6 < (x0.length : Int) then (windbreakref01_mul.l1 k x0 x1 x5 x6 0 0) else ((windbreakref01_cut.f k x5).bind fun t389 => (some t389))
def windbreakref01_mul.l1 : Nat → List Int → List Int → List Int → Int → Int → Int → Option (List Int)
 | 0, _, _, _, _, _, _ => none
 | k + 1, x0, x1, x5, x6, x7, x8 => if x8 < (x1.length : Int) then (if 0 ≤ (wrap64 (x6 + x8)) then (if (wrap64 (x6 + x8)) < (x5.length : Int) then (if 0 ≤ x6 then (if x6 < (x0.length : Int) then (if 0 ≤ x8 then (windbreakref01_mul.l1 k x0 x1 (x5.set ((wrap64 (x6 + x8)) : Int).toNat (Int.tmod (IntKind.u64.wrap ((IntKind.u64.wrap ((rd x5 (wrap64 (x6 + x8))) + (IntKind.u64.wrap ((rd x0 x6) * (rd x1 x8))))) + x7)) 65536)) x6 (IntKind.u64.wrap (Int.tdiv (IntKind.u64.wrap ((IntKind.u64.wrap ((rd x5 (wrap64 (x6 + x8))) + (IntKind.u64.wrap ((rd x0 x6) * (rd x1 x8))))) + x7)) 65536)) (wrap64 (x8 + 1))) else (none)) else (none)) else (none)) else (none)) else (none)) else (if 0 ≤ (wrap64 (x6 + (x1.length : Int))) then (if (wrap64 (x6 + (x1.length : Int))) < (x5.length : Int) then (windbreakref01_mul.l0 k x0 x1 (x5.set ((wrap64 (x6 + (x1.length : Int))) : Int).toNat x7) (wrap64 (x6 + 1))) else (none)) else (none))
end
def windbreakref01_mul.f (k : Nat) (l0 : List Int) (l1 : List Int) : Option (List Int) := if 0 ≤ (wrap64 ((l0.length : Int) + (l1.length : Int))) then (if (wrap64 ((l0.length : Int) + (l1.length : Int)) : Int).toNat ≤ 35184372088832 then (windbreakref01_mul.l0 k l0 l1 (List.replicate (wrap64 ((l0.length : Int) + (l1.length : Int)) : Int).toNat 0) 0) else (none)) else (none)
end Go.Proofs.Ytgeanpnkllnipab.F
end
section
namespace Go.Proofs.Ytgeanpnkllnipab.Z
open Go.RowKit Go.Proofs.Ytgeanpnkllnipab.F Go.Proofs.YtgeanpnkllnipabW.PrintWords
set_option linter.unusedSimpArgs false
set_option linter.unusedVariables false
end Go.Proofs.Ytgeanpnkllnipab.Z
end
section
namespace Go.Proofs.Ytgeanpnkllnipab.F
open Go.RowKit Go.Proofs.YtgeanpnkllnipabW.PrintWords Go.Proofs.YtgeanpnkllnipabW.PrintLast Go.Proofs.YtgeanpnkllnipabW.PrintMore
attribute [local go_sem] max2_int min2_int max_two min_two max_three min_three max_four min_four
set_option linter.unusedVariables false
set_option linter.unusedSimpArgs false
mutual
def windbreakref01_Out.l0 : Nat → List Int → List Int → Int → Option (List Int × Bool)
 | 0, _, _, _ => none
 | k + 1, x0, x4, x5 => if x5 < (x0.length : Int) then (windbreakref01_Out.l1 k x0 x4 x5 0 3) else (some (x4, decide ((x4.length : Int) ≤ 64)))
def windbreakref01_Out.l1 : Nat → List Int → List Int → Int → Int → Int → Option (List Int × Bool)
 | 0, _, _, _, _, _ => none
 | k + 1, x0, x4, x5, x6, x7 => if x7 ≥ 0 then (if (wrap64 (x5 + x7)) < (x0.length : Int) then (if 0 ≤ (wrap64 (x5 + x7)) then (windbreakref01_Out.l1 k x0 x4 x5 (IntKind.u64.wrap ((IntKind.u64.wrap (x6 * 65536)) + (rd x0 (wrap64 (x5 + x7))))) (wrap64 (x7 - 1))) else (none)) else (windbreakref01_Out.l1 k x0 x4 x5 (IntKind.u64.wrap (x6 * 65536)) (wrap64 (x7 - 1)))) else (if x4.length < 17592186044416 then (windbreakref01_Out.l0 k x0 (x4 ++ [x6]) (wrap64 (x5 + 4))) else (none))
end
def windbreakref01_Out.f (k : Nat) (l0 : List Int) : Option (List Int × Bool) := windbreakref01_Out.l0 k l0 ([] : List Int) 0
end Go.Proofs.Ytgeanpnkllnipab.F
end
section
namespace Go.Proofs.Ytgeanpnkllnipab.Z
open Go.RowKit Go.Proofs.Ytgeanpnkllnipab.F Go.Proofs.YtgeanpnkllnipabW.PrintWords
set_option linter.unusedSimpArgs false
set_option linter.unusedVariables false
end Go.Proofs.Ytgeanpnkllnipab.Z
end
section
namespace Go.Proofs.Ytgeanpnkllnipab.F
open Go.RowKit Go.Proofs.YtgeanpnkllnipabW.PrintWords Go.Proofs.YtgeanpnkllnipabW.PrintLast Go.Proofs.YtgeanpnkllnipabW.PrintMore
attribute [local go_sem] max2_int min2_int max_two min_two max_three min_three max_four min_four
set_option linter.unusedVariables false
set_option linter.unusedSimpArgs false
def windbreakref01_told.f (k : Nat) (l0 : List Int) : Option (List Int × Int) := (windbreakref01_Out.f k l0).bind fun bt349 => (if bt349.2 = true then (some (bt349.1, 0)) else (some (([] : List Int), 4)))
def windbreakref01_Sub.j0 : Nat → List Int → List Int → Bool → Option (List Int × Int)
 | 0, _, _, _ => none
 | k + 1, x0, x1, x19 => if x19 = true then (some (([] : List Int), 1)) else ((windbreakref01_In.f k x0).bind fun t839 => ((windbreakref01_In.f k x1).bind fun t842 => ((windbreakref01_compare.f k t839 t842).bind fun t845 => (if t845 < 0 then (some (([] : List Int), 2)) else ((windbreakref01_sub.f k t839 t842).bind fun t846 => ((windbreakref01_told.f k t846).bind fun bt849 => (some (bt849.1, bt849.2))))))))
def windbreakref01_Sub.f (k : Nat) (l0 : List Int) (l1 : List Int) : Option (List Int × Int) := (windbreakref01_Right.f l0).bind fun t837 => ((windbreakref01_Right.f l1).bind fun t838 => (if t837 = true then (windbreakref01_Sub.j0 k l0 l1 (!t838)) else (windbreakref01_Sub.j0 k l0 l1 true)))
def windbreakref01_Cmp.j0 : Nat → List Int → List Int → Bool → Option (Int)
 | 0, _, _, _ => none
 | k + 1, x0, x1, x16 => if x16 = true then (some 0) else ((windbreakref01_In.f k x0).bind fun t336 => ((windbreakref01_In.f k x1).bind fun t339 => ((windbreakref01_compare.f k t336 t339).bind fun t342 => (some t342))))
def windbreakref01_Cmp.f (k : Nat) (l0 : List Int) (l1 : List Int) : Option (Int) := (windbreakref01_Right.f l0).bind fun t334 => ((windbreakref01_Right.f l1).bind fun t335 => (if t334 = true then (windbreakref01_Cmp.j0 k l0 l1 (!t335)) else (windbreakref01_Cmp.j0 k l0 l1 true)))
def windbreakref07_May.f (k : Nat) (l0 : List Int) : Option (Bool) := (windbreakref01_Right.f l0).bind fun t776 => (if t776 = true then (if (l0.length : Int) ≤ 8 then ((windbreakref01_Of.f 3).bind fun t777 => ((windbreakref01_Cmp.f k l0 t777).bind fun t780 => (some (decide (t780 ≥ 0))))) else (some false)) else (some false))
end Go.Proofs.Ytgeanpnkllnipab.F
end
section
namespace Go.Proofs.Ytgeanpnkllnipab.Z
open Go.RowKit Go.Proofs.Ytgeanpnkllnipab.F Go.Proofs.YtgeanpnkllnipabW.PrintWords
set_option linter.unusedSimpArgs false
set_option linter.unusedVariables false
end Go.Proofs.Ytgeanpnkllnipab.Z
end
section
namespace Go.Proofs.Ytgeanpnkllnipab.F
open Go.RowKit Go.Proofs.YtgeanpnkllnipabW.PrintWords Go.Proofs.YtgeanpnkllnipabW.PrintLast Go.Proofs.YtgeanpnkllnipabW.PrintMore
attribute [local go_sem] max2_int min2_int max_two min_two max_three min_three max_four min_four
set_option linter.unusedVariables false
set_option linter.unusedSimpArgs false
mutual
def windbreakref01_div.l0 : Nat → List Int → List Int → List Int → List Int → Int → Option (List Int × List Int)
 | 0, _, _, _, _, _ => none
 | k + 1, x0, x1, x6, x7, x8 => if x8 ≥ 0 then (if 0 ≤ x8 then (if x8 < (x0.length : Int) then ((some (([rd x0 x8] : List Int) : List Int)).bind fun y412 => (if y412.length + x7.length < 17592186044416 then ((windbreakref01_cut.f k (y412 ++ x7)).bind fun t418 => (windbreakref01_div.l1 k x0 x1 x6 t418 x8 0 65535)) else (none))) else (none)) else (none)) else ((windbreakref01_cut.f k x6).bind fun t408 => (some (t408, x7)))
def windbreakref01_div.l1 : Nat → List Int → List Int → List Int → List Int → Int → Int → Int → Option (List Int × List Int)
 | 0, _, _, _, _, _, _, _ => none
 | k + 1, x0, x1, x6, x7, x8, x9, x10 => if x9 < x10 then ((windbreakref01_mul.f k x1 (([IntKind.u64.wrap (Int.tdiv (IntKind.u64.wrap ((IntKind.u64.wrap (x9 + x10)) + 1)) 2)] : List Int))).bind fun t434 => ((windbreakref01_compare.f k t434 x7).bind fun t437 => (if t437 ≤ 0 then (windbreakref01_div.l1 k x0 x1 x6 x7 x8 (IntKind.u64.wrap (Int.tdiv (IntKind.u64.wrap ((IntKind.u64.wrap (x9 + x10)) + 1)) 2)) x10) else (windbreakref01_div.l1 k x0 x1 x6 x7 x8 x9 (IntKind.u64.wrap ((IntKind.u64.wrap (Int.tdiv (IntKind.u64.wrap ((IntKind.u64.wrap (x9 + x10)) + 1)) 2)) - 1)))))) else (if 0 ≤ x8 then (if x8 < (x6.length : Int) then ((windbreakref01_mul.f k x1 (([x9] : List Int))).bind fun t425 => ((windbreakref01_sub.f k x7 t425).bind fun t428 => (windbreakref01_div.l0 k x0 x1 (x6.set (x8 : Int).toNat x9) t428 (wrap64 (x8 - 1))))) else (none)) else (none))
end
def windbreakref01_div.f (k : Nat) (l0 : List Int) (l1 : List Int) : Option (List Int × List Int) := if 0 ≤ (l0.length : Int) then (if ((l0.length : Int) : Int).toNat ≤ 35184372088832 then (windbreakref01_div.l0 k l0 l1 (List.replicate ((l0.length : Int) : Int).toNat 0) ([] : List Int) (wrap64 ((l0.length : Int) - 1))) else (none)) else (none)
end Go.Proofs.Ytgeanpnkllnipab.F
end
section
namespace Go.Proofs.Ytgeanpnkllnipab.Z
open Go.RowKit Go.Proofs.Ytgeanpnkllnipab.F Go.Proofs.YtgeanpnkllnipabW.PrintWords
set_option linter.unusedSimpArgs false
set_option linter.unusedVariables false
end Go.Proofs.Ytgeanpnkllnipab.Z
end
section
namespace Go.Proofs.Ytgeanpnkllnipab.F
open Go.RowKit Go.Proofs.YtgeanpnkllnipabW.PrintWords Go.Proofs.YtgeanpnkllnipabW.PrintLast Go.Proofs.YtgeanpnkllnipabW.PrintMore
attribute [local go_sem] max2_int min2_int max_two min_two max_three min_three max_four min_four
set_option linter.unusedVariables false
set_option linter.unusedSimpArgs false
def windbreakref01_Shr.j0 : Nat → List Int → Int → Bool → Option (List Int × Int)
 | 0, _, _, _ => none
 | k + 1, x0, x1, x16 => if x16 = true then (some (([] : List Int), 1)) else (if x1 ≥ 4096 then (some (([] : List Int), 0)) else ((windbreakref01_In.f k x0).bind fun t439 => ((windbreakref01_power.f k x1).bind fun t442 => ((windbreakref01_div.f k t439 t442).bind fun bt445 => ((windbreakref01_told.f k bt445.1).bind fun bt451 => (some (bt451.1, bt451.2)))))))
def windbreakref01_Shr.f (k : Nat) (l0 : List Int) (a1 : Int) : Option (List Int × Int) := (windbreakref01_Right.f l0).bind fun t438 => (if t438 = true then (windbreakref01_Shr.j0 k l0 a1 (decide (a1 < 0))) else (windbreakref01_Shr.j0 k l0 a1 true))
def windbreakref07_half.f (k : Nat) (l0 : List Int) : Option (List Int) := (windbreakref01_Of.f 1).bind fun t883 => ((windbreakref01_Sub.f k l0 t883).bind fun bt886 => ((windbreakref01_Shr.f k bt886.1 1).bind fun bt890 => (some bt890.1)))
def windbreakref07_Encode.j0 : Nat → List Int → Bool → Bool → List Int → Option (List Int × Int)
 | 0, _, _, _, _ => none
 | k + 1, x0, x17, x895000, x895001 => if x17 = true then (some (([] : List Int), 1)) else ((windbreakref07_half.f k x0).bind fun t897 => ((windbreakref01_Cmp.f k x895001 t897).bind fun t900 => (if t900 > 0 then (some (([] : List Int), 12)) else (if x895000 = true then ((windbreakref01_Sub.f k x0 x895001).bind fun bt901 => (some (bt901.1, bt901.2))) else ((some (([] : List Int) : List Int)).bind fun y905 => (if y905.length + x895001.length < 17592186044416 then (some ((y905 ++ x895001), 0)) else (none)))))))
def windbreakref07_Encode.f (k : Nat) (l0 : List Int) (a1_0 : Bool) (l1_1 : List Int) : Option (List Int × Int) := (windbreakref07_May.f k l0).bind fun t895 => ((windbreakref03_Right.f a1_0 l1_1).bind fun t896 => (if t895 = true then (windbreakref07_Encode.j0 k l0 (!t896) a1_0 l1_1) else (windbreakref07_Encode.j0 k l0 true a1_0 l1_1)))
def windbreakref07_Decode.j0 : Nat → List Int → List Int → Bool → Option (Bool × List Int × Int)
 | 0, _, _, _ => none
 | k + 1, x0, x1, x24 => if x24 = true then (some (false, ([] : List Int), 10)) else ((windbreakref07_half.f k x0).bind fun t1255 => ((windbreakref01_Cmp.f k x1 t1255).bind fun t1258 => (if t1258 ≤ 0 then ((windbreakref03_From.f false x1).bind fun bt1259 => (some (bt1259.1, bt1259.2, 0))) else ((windbreakref01_Sub.f k x0 x1).bind fun bt1263 => ((windbreakref03_From.f true bt1263.1).bind fun bt1267 => (some (bt1267.1, bt1267.2, 0)))))))
def windbreakref07_Decode.f (k : Nat) (l0 : List Int) (l1 : List Int) : Option (Bool × List Int × Int) := (windbreakref07_May.f k l0).bind fun t1252 => (if t1252 = true then ((windbreakref01_Right.f l1).bind fun t1253 => (if t1253 = true then ((windbreakref01_Cmp.f k l1 l0).bind fun t1254 => (windbreakref07_Decode.j0 k l0 l1 (decide (t1254 ≥ 0)))) else (windbreakref07_Decode.j0 k l0 l1 true))) else (some (false, ([] : List Int), 1)))
end Go.Proofs.Ytgeanpnkllnipab.F
end
section
namespace Go.Proofs.Ytgeanpnkllnipab.Z
open Go.RowKit Go.Proofs.Ytgeanpnkllnipab.F Go.Proofs.YtgeanpnkllnipabW.PrintWords
set_option linter.unusedSimpArgs false
set_option linter.unusedVariables false
theorem ref3_Same_ev (a : Bool) (l : List Int) (b : Bool) (m : List Int) (h : l.length ≤ maxLen) : Evt (fun k => windbreakref03_Same.f k a l b m) (decide (a = b ∧ l = m)) := by
  unfold windbreakref03_Same.f
  refine Evt.bind (same_ev l m h) ?_
  by_cases hab : a = b
  · refine Evt.ite_pos (by simpa using hab) ((Evt.pure _).congr (fun k => rfl) ?_)
    simp [hab]
  · refine Evt.ite_neg (by simpa using hab) ((Evt.pure _).congr (fun k => rfl) ?_)
    simp [hab]
end Go.Proofs.Ytgeanpnkllnipab.Z
end
section
namespace Go.Proofs.Ytgeanpnkllnipab.Pure
open Go.RowKit Go.Proofs.Ytgeanpnkllnipab.F Go.Proofs.Ytgeanpnkllnipab.Z
set_option linter.unusedSimpArgs false
set_option linter.unusedVariables false
theorem back_j0 (n : List Int) (hn : n.length ≤ maxLen) (dn : Dig (b64 : Int) n) (g h c : Int) (hg0 : -9223372036854775808 ≤ g) (hg1 : g < 9223372036854775808) (hh0 : -9223372036854775808 ≤ h) (hh1 : h < 9223372036854775808) : Evt (fun k => windbreaklaw07_FixencBack.j0 k n true g h c) true := by
  refine Evt.succ ?_
  simp only [windbreaklaw07_FixencBack.j0]
  refine Evt.bind (fix_Pack_ev n _ g h hn dn hg0 hg1 hh0 hh1) ?_
  generalize Go.bits .and .i64 c 63 = s
  by_cases he : (packV n s g h).2 = 0
  · refine Evt.ite_pos he ?_
    obtain ⟨hm, h1, h2, h3, h4, h5, h6⟩ := pack_parts dn hg0 hg1 hh0 hh1 he
    have hlt := may_lt dn hm
    have hb := pack_back dn hg0 hg1 hh0 hh1 he
    obtain ⟨e1, _, _⟩ := enc_back dn hm h5 _ h6
    refine Evt.bind (fix_Unpack_ev n s (packV n s g h).1 hn dn (by have := ((rightB_iff _).1 e1).1; simp only [maxLen]; omega) (by rw [h6]; exact dig_limbs' _)) ?_
    rw [hb]
    refine Evt.ite_pos trivial (Evt.ite_pos rfl (Evt.ite_pos rfl ((Evt.pure _).congr (fun k => rfl) (by simp))))
  · exact Evt.ite_neg he (Evt.pure _)
theorem FixencBack : windbreaklaw07_FixencBack.Pure := by
  intro n a x g h c hn _ wn hx wx wg wh wc
  apply Evt.get
  have dn := dig_of_wf wn
  have dx := dig_of_wf wx
  obtain ⟨g0, g1⟩ := wf_i64 wg
  obtain ⟨h0, h1⟩ := wf_i64 wh
  unfold windbreaklaw07_FixencBack.f
  refine Evt.bind (few7_ev [n, x] (by simp [maxLen])) ?_
  refine Evt.cond' (fun _ => ?_) (fun _ => Evt.pure _)
  refine Evt.bind awake_ev ?_
  refine Evt.bind (fix_Encode_ev n a x hn hx dn dx) ?_
  by_cases he : (encV n a x).2 = 0
  · refine Evt.ite_pos he ?_
    have hc : mayV n = true ∧ intR a x = true := by
      unfold encV at he
      by_cases hc : mayV n = true ∧ intR a x = true
      · exact hc
      · rw [if_neg hc] at he; cases he
    obtain ⟨hm, hi⟩ := hc
    have hcan := int_canon dx hi
    have ea : a = (ofI (sI a (num x))).1 := congrArg Prod.fst hcan
    have ex : x = (ofI (sI a (num x))).2 := congrArg Prod.snd hcan
    have hR : rightB x = true := by unfold intR at hi; simp only [Bool.and_eq_true] at hi; exact hi.1
    have hnx : num x < b64 ^ 64 := num_lt_p dx ((rightB_iff x).1 hR).1
    generalize hv : sI a (num x) = v at *
    have hva : v.natAbs = num x := by rw [← hv, sI_abs]
    subst ea ex
    rw [encV_int dn hm (by omega)] at he ⊢
    by_cases hf : v.natAbs ≤ halfV n
    · rw [if_pos hf]
      obtain ⟨e1, e2, e3⟩ := enc_back dn hm hf _ rfl
      refine Evt.bind (fix_Decode_ev n _ hn (by have := ((rightB_iff _).1 e1).1; simp only [maxLen]; omega) dn (dig_limbs' _)) ?_
      rw [decV_eq dn (dig_limbs' _) hm, if_pos ⟨e1, e2⟩, e3]
      refine Evt.bind (ref3_Same_ev _ _ _ _ (limbs_max (by omega))) ?_
      refine Evt.ite_pos rfl (Evt.ite_pos (by simp) ?_)
      exact back_j0 n hn dn g h c g0 g1 h0 h1
    · rw [if_neg hf] at he; cases he
  · exact Evt.ite_neg he (back_j0 n hn dn g h c g0 g1 h0 h1)
end Go.Proofs.Ytgeanpnkllnipab.Pure
end
section
namespace Go.Proofs.YtgeanpnkllnipabW.PrintWords
open Go.ChangeShapes Go.WideShapes
theorem sized_ints {H : Type} {enc : TypeId × Value → H} {P : Program} {W : World} {base : Nat} {spare : Nat → Bool} {held : Bool} {t e : TypeId} {k : IntKind} {a : Option Addr} {len cap : Nat} {d : DataW H} {ps : List MemPlace} {ts : List TypeId} {ds : List (DataW H)} {j : Nat}
    (hsz : (DataW.weightsEach P ts ds).all (· ≤ reachBytes) = true) (ht : ts[j]? = some t) (hd : ds[j]? = some d) (hu : P.underlying t = some (.slice e)) (he : P.underlying e = some (.int k)) (hc : P.cellsOf e = 1) {B : Nat} (hB : P.bytesOf e = B)
    (h : DataW.Trod enc P W base spare held t (.slice a len cap) d ps) : len * B ≤ 140737488351232 := by
  obtain ⟨fuel, hf⟩ := h
  rcases open_ints hu he hc hf with ⟨hcs, _⟩ | ⟨x, l, c, zs, hcs, _, hl, _, hz, hx, _, _⟩
  · simp [Value.cells] at hcs
    obtain ⟨rfl, rfl, rfl⟩ := hcs
    simp
  · simp [Value.cells] at hcs
    obtain ⟨rfl, rfl, rfl⟩ := hcs
    obtain ⟨hx, _⟩ := Prod.mk.inj hx
    subst hx
    have z := sized_slice hsz ht hd hu
    rw [hB] at z
    have hl2 : len ≤ zs.length := by
      rw [hz]
      split
      · exact hl
      · exact Nat.le_refl _
    have h1 : (lits (H := H) k (zs.take len)).length + (lits (H := H) k (zs.drop len)).length = zs.length := by
      simp [lits]
      omega
    rw [h1] at z
    exact Nat.le_trans (Nat.mul_le_mul_right _ hl2) z
end Go.Proofs.YtgeanpnkllnipabW.PrintWords
end
