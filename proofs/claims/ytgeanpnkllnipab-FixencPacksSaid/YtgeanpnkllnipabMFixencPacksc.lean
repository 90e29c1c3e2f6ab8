/- Proved: the law FixencPacks of layer 7: any two whole numbers in one, as the document says; for every input, without a condition. -/
import Derived.Test.YtgeanpnkllnipabMFixencPacksb

section
namespace Go.Proofs.Ytgeanpnkllnipab.F
open Go.RowKit Go.Proofs.YtgeanpnkllnipabW.PrintWords Go.Proofs.YtgeanpnkllnipabW.PrintLast Go.Proofs.YtgeanpnkllnipabW.PrintMore
attribute [local go_sem] max2_int min2_int max_two min_two max_three min_three max_four min_four
set_option linter.unusedVariables false
set_option linter.unusedSimpArgs false

def modint_Add.f (k : Nat) (a0_0 : Bool) (l0_1 : List Int) (a1_0 : Bool) (l1_1 : List Int) : Option (Bool × List Int × Int) := (modint_right.f (([(⟨a0_0, l0_1⟩ : S52), (⟨a1_0, l1_1⟩ : S52)] : List (S52)))).bind fun t688 => (if t688 = true then (if (a0_0 == a1_0) = true then ((nat_Add.f k l0_1 l1_1).bind fun bt689 => ((modint_From.f a0_0 bt689.1).bind fun bt693 => (some (bt693.1, bt693.2, bt689.2)))) else ((nat_Cmp.f k l0_1 l1_1).bind fun t697 => (if t697 < 0 then ((nat_Sub.f k l1_1 l0_1).bind fun bt698 => ((modint_From.f a1_0 bt698.1).bind fun bt702 => (some (bt702.1, bt702.2, bt698.2)))) else ((nat_Sub.f k l0_1 l1_1).bind fun bt706 => ((modint_From.f a0_0 bt706.1).bind fun bt710 => (some (bt710.1, bt710.2, bt706.2))))))) else (some (false, ([] : List Int), 1)))
set_option maxHeartbeats 8000000 in
set_option maxRecDepth 100000 in
theorem modint_Add.calls (k : Nat) (a0_0 : Bool) (P0_1_ : Nat → Prop) (A0_1 : Option Addr) (c0_1 : Nat) (l0_1 : List Int) (a1_0 : Bool) (P1_1_ : Nat → Prop) (A1_1 : Option Addr) (c1_1 : Nat) (l1_1 : List Int) (r1 : Bool) (r2 : List Int) (r3 : Int) (w : World) (hs0_1 : Kd.V (Kd.int .u64) 27 w w.heap.size (fun k_ => P0_1_ k_) (.slice A0_1 l0_1.length c0_1) l0_1) (hs1_1 : Kd.V (Kd.int .u64) 27 w w.heap.size (fun k_ => P1_1_ k_) (.slice A1_1 l1_1.length c1_1) l1_1) (h : modint_Add.f k a0_0 l0_1 a1_0 l1_1 = some (r1, r2, r3)) :
  Calls Try.prog 56 #[.agg #[.bool a0_0, .slice A0_1 l0_1.length c0_1], .agg #[.bool a1_0, .slice A1_1 l1_1.length c1_1]] w fun e w' => ∃ v1_ : Value, e = .returned (.tuple #[.agg #[.bool r1, v1_], .int .i64 r3]) ∧ Kd.R (Kd.int .u64) 27 w' w.heap.size (fun k_ => (w.heap.size ≤ k_)) v1_ r2 ∧ Below w.heap.size w w' := by
 have hu52 := Try.underlying52
 have HO0_1 := Aside0.mk (show Kd.V (Kd.int .u64) 27 w w.heap.size (fun k_ => ((P0_1_ k_ ∨ P1_1_ k_) ∨ w.heap.size ≤ k_)) (.slice A0_1 l0_1.length c0_1) l0_1 from Kd.V_mono hs0_1 (fun k_ hk => .inl (.inl hk)))
 have HO1_1 := Aside0.mk (show Kd.V (Kd.int .u64) 27 w w.heap.size (fun k_ => ((P0_1_ k_ ∨ P1_1_ k_) ∨ w.heap.size ≤ k_)) (.slice A1_1 l1_1.length c1_1) l1_1 from Kd.V_mono hs1_1 (fun k_ hk => .inl (.inr hk)))
 have HB := Aside0.mk (Below.refl w.heap.size w)
 have H : ((modint_right.f (([(⟨a0_0, l0_1⟩ : S52), (⟨a1_0, l1_1⟩ : S52)] : List (S52)))).bind fun t688 => (if t688 = true then (if (a0_0 == a1_0) = true then ((nat_Add.f k l0_1 l1_1).bind fun bt689 => ((modint_From.f a0_0 bt689.1).bind fun bt693 => (some (bt693.1, bt693.2, bt689.2)))) else ((nat_Cmp.f k l0_1 l1_1).bind fun t697 => (if t697 < 0 then ((nat_Sub.f k l1_1 l0_1).bind fun bt698 => ((modint_From.f a1_0 bt698.1).bind fun bt702 => (some (bt702.1, bt702.2, bt698.2)))) else ((nat_Sub.f k l0_1 l1_1).bind fun bt706 => ((modint_From.f a0_0 bt706.1).bind fun bt710 => (some (bt710.1, bt710.2, bt706.2))))))) else (some (false, ([] : List Int), 1)))) = some (r1, r2, r3) := h
 clear h
 obtain ⟨y685, hy685⟩ : ∃ y_ : List (S52), y_ = (([(⟨a0_0, l0_1⟩ : S52), (⟨a1_0, l1_1⟩ : S52)] : List (S52))) := ⟨_, rfl⟩
 replace H : ((modint_right.f y685).bind fun t688 => (if t688 = true then (if (a0_0 == a1_0) = true then ((nat_Add.f k l0_1 l1_1).bind fun bt689 => ((modint_From.f a0_0 bt689.1).bind fun bt693 => (some (bt693.1, bt693.2, bt689.2)))) else ((nat_Cmp.f k l0_1 l1_1).bind fun t697 => (if t697 < 0 then ((nat_Sub.f k l1_1 l0_1).bind fun bt698 => ((modint_From.f a1_0 bt698.1).bind fun bt702 => (some (bt702.1, bt702.2, bt698.2)))) else ((nat_Sub.f k l0_1 l1_1).bind fun bt706 => ((modint_From.f a0_0 bt706.1).bind fun bt710 => (some (bt710.1, bt710.2, bt706.2))))))) else (some (false, ([] : List Int), 1)))) = some (r1, r2, r3) := by first | (rw [hy685]; with_reducible exact H) | (have H2_ := (Option.bind_some _ _).symm.trans H; rw [hy685]; with_reducible exact H2_) | (have H2_ := (Option.bind_some _ _).symm.trans H; with_reducible exact H2_) | with_reducible exact H | (rw [hy685]; exact H) | exact H
 have Ny685 := Aside0.mk hy685; clear hy685
 replace H := Option.bind_eq_some_iff.mp H
 obtain ⟨t688, A30, H⟩ := H
 replace H : (if t688 = true then (if (a0_0 == a1_0) = true then ((nat_Add.f k l0_1 l1_1).bind fun bt689 => ((modint_From.f a0_0 bt689.1).bind fun bt693 => (some (bt693.1, bt693.2, bt689.2)))) else ((nat_Cmp.f k l0_1 l1_1).bind fun t697 => (if t697 < 0 then ((nat_Sub.f k l1_1 l0_1).bind fun bt698 => ((modint_From.f a1_0 bt698.1).bind fun bt702 => (some (bt702.1, bt702.2, bt698.2)))) else ((nat_Sub.f k l0_1 l1_1).bind fun bt706 => ((modint_From.f a0_0 bt706.1).bind fun bt710 => (some (bt710.1, bt710.2, bt706.2))))))) else (some (false, ([] : List Int), 1))) = some (r1, r2, r3) := H
 have A3 := Aside0.mk A30; clear A30
 by_cases c4 : t688 = true
 ·
  subst c4
  have H1 : (if (a0_0 == a1_0) = true then ((nat_Add.f k l0_1 l1_1).bind fun bt689 => ((modint_From.f a0_0 bt689.1).bind fun bt693 => (some (bt693.1, bt693.2, bt689.2)))) else ((nat_Cmp.f k l0_1 l1_1).bind fun t697 => (if t697 < 0 then ((nat_Sub.f k l1_1 l0_1).bind fun bt698 => ((modint_From.f a1_0 bt698.1).bind fun bt702 => (some (bt702.1, bt702.2, bt698.2)))) else ((nat_Sub.f k l0_1 l1_1).bind fun bt706 => ((modint_From.f a0_0 bt706.1).bind fun bt710 => (some (bt710.1, bt710.2, bt706.2))))))) = some (r1, r2, r3) := by rw [if_pos rfl] at H; exact H
  clear H; have H := H1; clear H1
  by_cases c5 : (a0_0 == a1_0) = true
  ·
   rw [if_pos c5] at H
   have c5b0 : (a0_0 == a1_0) = true := c5
   (try (have c5b1 : decide (a0_0 = a1_0) = true := by simpa using c5))
   (try (have c5b2 : (a0_0 == a1_0) = true := by simpa using c5))
   clear c5
   replace H := Option.bind_eq_some_iff.mp H
   obtain ⟨⟨t689, t692⟩, A60, H⟩ := H
   replace H : ((modint_From.f a0_0 t689).bind fun bt693 => (some (bt693.1, bt693.2, t692))) = some (r1, r2, r3) := H
   have A6 := Aside0.mk A60; clear A60
   replace H := Option.bind_eq_some_iff.mp H
   obtain ⟨⟨t693, t694⟩, A70, H⟩ := H
   replace H : (some (t693, t694, t692)) = some (r1, r2, r3) := H
   have A7 := Aside0.mk A70; clear A70
   simp only [Option.some.injEq, Prod.mk.injEq] at H
   obtain ⟨rfl, rfl, rfl⟩ := H
   go_enter Try.func56, Try.ntmps56
   go_wp2_with (first | ((with_reducible refine gate_dst (N := 2) rfl ?_); refine box_event ?hg (N := 2) ?hd (cs := #[.bool a0_0, .slice A0_1 l0_1.length c0_1]) (t := 52) ?hr ?_; (case hd => rfl); (case hg => rfl); (case hr => first | (go_simp; done) | (go_simp; rfl)); intro gb682 hg w8 hbox hb; have n0_ := Aside0.mk (Kd.V_below (Kd.V_elderB (uV HO0_1.out) gb682 (Nat.le_of_eq hg.symm)) hb); have n1_ := Aside0.mk (Kd.V_below (Kd.V_elderB (uV HO1_1.out) gb682 (Nat.le_of_eq hg.symm)) hb); have n2_ := Aside0.mk (below_step uB hb); have n3_ := Aside0.mk (hbox); have n4_ := Aside0.mk ((by rw [hg]; exact (below_size uB) : w.heap.size ≤ gb682)); have n5_ := Aside0.mk ((by rw [hg]; exact (below_size uB) : w.heap.size ≤ gb682)); clear HO0_1; clear HO1_1; clear HB; have HO0_1 := n0_; have HO1_1 := n1_; have HB := n2_; have BK682 := n3_; have GW682 := n4_; have GE682 := n5_; clear n0_ n1_ n2_ n3_ n4_ n5_; clear hb hbox hg) | ((with_reducible refine gate_dst (N := 3) rfl ?_); refine box_event ?hg (N := 3) ?hd (cs := #[.bool a1_0, .slice A1_1 l1_1.length c1_1]) (t := 52) ?hr ?_; (case hd => rfl); (case hg => rfl); (case hr => first | (go_simp; done) | (go_simp; rfl)); intro gb683 hg w9 hbox hb; have n0_ := Aside0.mk (Kd.V_below (Kd.V_elderB (uV HO0_1.out) gb683 (Nat.le_of_eq hg.symm)) hb); have n1_ := Aside0.mk (Kd.V_below (Kd.V_elderB (uV HO1_1.out) gb683 (Nat.le_of_eq hg.symm)) hb); have n2_ := Aside0.mk (blk_below (uK BK682.out) hb); have n3_ := Aside0.mk (below_step uB hb); have n4_ := Aside0.mk (hbox); have n5_ := Aside0.mk ((by rw [hg]; exact (below_size uB) : w.heap.size ≤ gb683)); have n6_ := Aside0.mk ((by rw [hg]; exact (below_size uB) : w.heap.size ≤ gb683)); have n7_ := Aside0.mk ((by rw [hg]; exact Nat.ne_of_lt (blk_lt (uK BK682.out)) : gb682 ≠ gb683)); have n8_ := Aside0.mk ((by rw [hg]; exact Nat.ne_of_gt (blk_lt (uK BK682.out)) : gb683 ≠ gb682)); clear HO0_1; clear HO1_1; clear BK682; clear HB; have HO0_1 := n0_; have HO1_1 := n1_; have BK682 := n2_; have HB := n3_; have BK683 := n4_; have GW683 := n5_; have GE683 := n6_; have NB682_683 := n7_; have NB683_682 := n8_; clear n0_ n1_ n2_ n3_ n4_ n5_ n6_ n7_ n8_; clear hb hbox hg) | ((with_reducible refine gate_dst (N := 4) rfl ?_); refine box_event ?hg (N := 4) ?hd (cs := #[.bool false, .slice none 0 0]) (t := 52) ?hr ?_; (case hd => rfl); (case hg => rfl); (case hr => first | (go_simp; done) | (go_simp; rfl)); intro gb684 hg w10 hbox hb; have n0_ := Aside0.mk (Kd.V_below (Kd.V_elderB (uV HO0_1.out) gb684 (Nat.le_of_eq hg.symm)) hb); have n1_ := Aside0.mk (Kd.V_below (Kd.V_elderB (uV HO1_1.out) gb684 (Nat.le_of_eq hg.symm)) hb); have n2_ := Aside0.mk (blk_below (uK BK682.out) hb); have n3_ := Aside0.mk (blk_below (uK BK683.out) hb); have n4_ := Aside0.mk (below_step uB hb); have n5_ := Aside0.mk (hbox); have n6_ := Aside0.mk ((by rw [hg]; exact (below_size uB) : w.heap.size ≤ gb684)); have n7_ := Aside0.mk ((by rw [hg]; exact (below_size uB) : w.heap.size ≤ gb684)); have n8_ := Aside0.mk ((by rw [hg]; exact Nat.ne_of_lt (blk_lt (uK BK682.out)) : gb682 ≠ gb684)); have n9_ := Aside0.mk ((by rw [hg]; exact Nat.ne_of_gt (blk_lt (uK BK682.out)) : gb684 ≠ gb682)); have n10_ := Aside0.mk ((by rw [hg]; exact Nat.ne_of_lt (blk_lt (uK BK683.out)) : gb683 ≠ gb684)); have n11_ := Aside0.mk ((by rw [hg]; exact Nat.ne_of_gt (blk_lt (uK BK683.out)) : gb684 ≠ gb683)); clear HO0_1; clear HO1_1; clear BK682; clear BK683; clear HB; have HO0_1 := n0_; have HO1_1 := n1_; have BK682 := n2_; have BK683 := n3_; have HB := n4_; have BK684 := n5_; have GW684 := n6_; have GE684 := n7_; have NB682_684 := n8_; have NB684_682 := n9_; have NB683_684 := n10_; have NB684_683 := n11_; clear n0_ n1_ n2_ n3_ n4_ n5_ n6_ n7_ n8_ n9_ n10_ n11_; clear hb hbox hg; have hnb11 := NB682_683.out; have hnc11 := NB683_682.out; have hnb12 := NB682_684.out; have hnc12 := NB684_682.out; have hcz13_0 : w10.cell? ⟨gb682, 0, none⟩ = some (.bool a0_0) := (blk_cell BK682.out 0).trans rfl; have hcz13_1 : w10.cell? ⟨gb682, 1, none⟩ = some (.slice A0_1 l0_1.length c0_1) := (blk_cell BK682.out 1).trans rfl; have hfz13_0 := blk_frozen BK682.out 0; have hfz13_1 := blk_frozen BK682.out 1; have hnb14 := NB683_684.out; have hnc14 := NB684_683.out; have hcz15_0 : w10.cell? ⟨gb683, 0, none⟩ = some (.bool a1_0) := (blk_cell BK683.out 0).trans rfl; have hcz15_1 : w10.cell? ⟨gb683, 1, none⟩ = some (.slice A1_1 l1_1.length c1_1) := (blk_cell BK683.out 1).trans rfl; have hfz15_0 := blk_frozen BK683.out 0; have hfz15_1 := blk_frozen BK683.out 1) | ((with_reducible refine gate_dst (N := 12) rfl ?_); refine Kd.N_lit k52 _ 52 ?hg (N' := 12) ?hd (xs := ([(⟨a0_0, l0_1⟩ : S52), (⟨a1_0, l1_1⟩ : S52)] : List (S52))) (inner := [.bool a0_0, .slice A0_1 l0_1.length c0_1, .bool a1_0, .slice A1_1 l1_1.length c1_1]) (ok := (fun k_ => ((P0_1_ k_ ∨ P1_1_ k_) ∨ w.heap.size ≤ k_) ∧ k_ ≠ gb682 ∧ k_ ≠ gb683 ∧ k_ ≠ gb684)) (okp := (fun k_ => ((P0_1_ k_ ∨ P1_1_ k_) ∨ w.heap.size ≤ k_) ∧ k_ ≠ gb682 ∧ k_ ≠ gb683 ∧ k_ ≠ gb684)) ?hr ?hp (fun _ hk => hk) ((show ∀ k_, w10.heap.size ≤ k_ → (fun k_ => ((P0_1_ k_ ∨ P1_1_ k_) ∨ w.heap.size ≤ k_) ∧ k_ ≠ gb682 ∧ k_ ≠ gb683 ∧ k_ ≠ gb684) k_ from fun k_ hk => ⟨(.inr (Nat.le_trans (below_size uB) hk)), Kd.freshB (g := gb682) (o := .cells #[.bool a0_0, .slice A0_1 l0_1.length c0_1] 52 (0, 0)) (uK BK682.out) k_ hk, Kd.freshB (g := gb683) (o := .cells #[.bool a1_0, .slice A1_1 l1_1.length c1_1] 52 (0, 0)) (uK BK683.out) k_ hk, Kd.freshB (g := gb684) (o := .cells #[.bool false, .slice none 0 0] 52 (0, 0)) (uK BK684.out) k_ hk⟩) _ (Nat.le_refl _)) (Below.refl _ _) (Nat.le_refl _) (by simp) ?_; (case hd => rfl); (case hg => rfl); (case hr => first | (go_simp; done) | (go_simp; rfl) | (go_simp; simp only [u64_u8]; done) | (go_simp; simp only [u64_u8]; rfl)); (case hp => exact (Reps.c2 (show Kd.FK k52 _ _ (⟨a0_0, l0_1⟩ : S52) [.bool a0_0, .slice A0_1 l0_1.length c0_1] from (k52_mkF _ _ (⟨a0_0, l0_1⟩ : S52) (Kd.V_reads' (Kd.V_mono (ok' := (fun k_ => ((P0_1_ k_ ∨ P1_1_ k_) ∨ w.heap.size ≤ k_) ∧ k_ ≠ gb682 ∧ k_ ≠ gb683 ∧ k_ ≠ gb684)) (HO0_1.out) (fun k_ hk => ⟨hk.1.1.1, ⟨hk.1.1.2, ⟨hk.1.2, hk.2⟩⟩⟩))).2.1 (Kd.V_F (Kd.V_mono (ok' := (fun k_ => ((P0_1_ k_ ∨ P1_1_ k_) ∨ w.heap.size ≤ k_) ∧ k_ ≠ gb682 ∧ k_ ≠ gb683 ∧ k_ ≠ gb684)) (HO0_1.out) (fun k_ hk => ⟨hk.1.1.1, ⟨hk.1.1.2, ⟨hk.1.2, hk.2⟩⟩⟩))))) (Reps.c2 (show Kd.FK k52 _ _ (⟨a1_0, l1_1⟩ : S52) [.bool a1_0, .slice A1_1 l1_1.length c1_1] from (k52_mkF _ _ (⟨a1_0, l1_1⟩ : S52) (Kd.V_reads' (Kd.V_mono (ok' := (fun k_ => ((P0_1_ k_ ∨ P1_1_ k_) ∨ w.heap.size ≤ k_) ∧ k_ ≠ gb682 ∧ k_ ≠ gb683 ∧ k_ ≠ gb684)) (HO1_1.out) (fun k_ hk => ⟨hk.1.1.1, ⟨hk.1.1.2, ⟨hk.1.2, hk.2⟩⟩⟩))).2.1 (Kd.V_F (Kd.V_mono (ok' := (fun k_ => ((P0_1_ k_ ∨ P1_1_ k_) ∨ w.heap.size ≤ k_) ∧ k_ ≠ gb682 ∧ k_ ≠ gb683 ∧ k_ ≠ gb684)) (HO1_1.out) (fun k_ hk => ⟨hk.1.1.1, ⟨hk.1.1.2, ⟨hk.1.2, hk.2⟩⟩⟩))))) (Reps.none _ _)))); intro v686 w16 ho17 hb hg_ hnew_; clear hg_ hnew_; (first | rw [← Ny685.out] at ho17 | (simp only [Int.reduceToNat] at ho17; rw [← Ny685.out] at ho17)); have n0_ := Aside0.mk (Kd.V_elder' (uV HO0_1.out) (Kd.N_base ho17) hb); have n1_ := Aside0.mk (Kd.V_elder' (uV HO1_1.out) (Kd.N_base ho17) hb); have n2_ := Aside0.mk (Kd.N_lower ho17 (below_size uB)); have n3_ := Aside0.mk (blk_below (uK BK682.out) hb); have n4_ := Aside0.mk (blk_below (uK BK683.out) hb); have n5_ := Aside0.mk (blk_below (uK BK684.out) hb); have n6_ := Aside0.mk (below_step uB hb); clear HO0_1; clear HO1_1; clear BK682; clear BK683; clear BK684; clear HB; have HO0_1 := n0_; have HO1_1 := n1_; have HO687 := n2_; have BK682 := n3_; have BK683 := n4_; have BK684 := n5_; have HB := n6_; clear n0_ n1_ n2_ n3_ n4_ n5_ n6_; clear hb ho17; obtain ⟨Ao18, co18, eo18⟩ := Kd.N_slice HO687.out; subst eo18) | ((with_reducible refine gate_callee (f := 100) rfl ?_); refine goesL_ (some 13) rfl rfl Try.func100 (by kernel_rfl) rfl #[.slice Ao18 y685.length co18] rfl uM ?_; (with_reducible refine (modint_right.calls _ _ y685 true _ ?side1 ?side2 A3.out).mono ?_); (case side1 => exact uC (Kd.N_reads' HO687.out).2.2); (case side2 => exact (Kd.N_reads' HO687.out).2.1); rintro e w19 ⟨rfl, hb⟩; refine ⟨_, rfl, ?_⟩; have n0_ := Aside0.mk (Kd.V_below (uV HO0_1.out) hb); have n1_ := Aside0.mk (Kd.V_below (uV HO1_1.out) hb); have n2_ := Aside0.mk (Kd.N_below (uN HO687.out) hb); have n3_ := Aside0.mk (blk_below (uK BK682.out) hb); have n4_ := Aside0.mk (blk_below (uK BK683.out) hb); have n5_ := Aside0.mk (blk_below (uK BK684.out) hb); have n6_ := Aside0.mk (below_step uB hb); clear HO0_1; clear HO1_1; clear HO687; clear BK682; clear BK683; clear BK684; clear HB; have HO0_1 := n0_; have HO1_1 := n1_; have HO687 := n2_; have BK682 := n3_; have BK683 := n4_; have BK684 := n5_; have HB := n6_; clear n0_ n1_ n2_ n3_ n4_ n5_ n6_; (try clear hb); (try clear hb2); (try clear hk); (try clear hi); have hcz20_0 : w19.cell? ⟨gb682, 0, none⟩ = some (.bool a0_0) := (blk_cell BK682.out 0).trans rfl; have hcz20_1 : w19.cell? ⟨gb682, 1, none⟩ = some (.slice A0_1 l0_1.length c0_1) := (blk_cell BK682.out 1).trans rfl; have hfz20_0 := blk_frozen BK682.out 0; have hfz20_1 := blk_frozen BK682.out 1; have hcz21_0 : w19.cell? ⟨gb683, 0, none⟩ = some (.bool a1_0) := (blk_cell BK683.out 0).trans rfl; have hcz21_1 : w19.cell? ⟨gb683, 1, none⟩ = some (.slice A1_1 l1_1.length c1_1) := (blk_cell BK683.out 1).trans rfl; have hfz21_0 := blk_frozen BK683.out 0; have hfz21_1 := blk_frozen BK683.out 1) | ((with_reducible refine gate_callee (f := 81) rfl ?_); refine goesL_ (some 26) rfl rfl Try.func81 (by kernel_rfl) rfl #[.slice A0_1 l0_1.length c0_1, .slice A1_1 l1_1.length c1_1] rfl uM ?_; (with_reducible refine (nat_Add.calls k (fun k_ => ((((((P0_1_ k_ ∨ P1_1_ k_) ∨ w.heap.size ≤ k_) ∧ k_ ≠ gb682) ∧ k_ ≠ gb683) ∧ k_ ≠ gb684) ∧ some k_ ≠ (.slice Ao18 y685.length co18 : Value).ownBlock)) _ _ l0_1 (fun k_ => ((((((P0_1_ k_ ∨ P1_1_ k_) ∨ w.heap.size ≤ k_) ∧ k_ ≠ gb682) ∧ k_ ≠ gb683) ∧ k_ ≠ gb684) ∧ some k_ ≠ (.slice Ao18 y685.length co18 : Value).ownBlock)) _ _ l1_1 t689 t692 _ ?side1 ?side2 A6.out).mono ?_); (case side1 => exact HO0_1.out); (case side2 => exact HO1_1.out); rintro e w22 ⟨v690, rfl, ho0, hb⟩; refine ⟨_, rfl, ?_⟩; have n0_ := Aside0.mk (Kd.V_elder' (uV HO0_1.out) (Kd.R_base ho0) hb); have n1_ := Aside0.mk (Kd.V_elder' (uV HO1_1.out) (Kd.R_base ho0) hb); have n2_ := Aside0.mk (Kd.N_elder' (uN HO687.out) (Kd.R_base ho0) hb); have n3_ := Aside0.mk (Kd.R_lower (Kd.R_newM (M := fun k_ => (w.heap.size ≤ k_)) (Kd.R_mono (ok' := fun k_ => True) ho0 (fun _ hk_ => trivial)) (below_size uB) (fun k_ h_ => h_)) (below_size uB)); have n4_ := Aside0.mk (blk_below (uK BK682.out) hb); have n5_ := Aside0.mk (blk_below (uK BK683.out) hb); have n6_ := Aside0.mk (blk_below (uK BK684.out) hb); have n7_ := Aside0.mk (below_step uB hb); clear HO0_1; clear HO1_1; clear HO687; clear BK682; clear BK683; clear BK684; clear HB; have HO0_1 := n0_; have HO1_1 := n1_; have HO687 := n2_; have HO691 := n3_; have BK682 := n4_; have BK683 := n5_; have BK684 := n6_; have HB := n7_; clear n0_ n1_ n2_ n3_ n4_ n5_ n6_ n7_; (try clear hb); (try clear hb2); (try clear hk); (try clear hi); (try clear ho0); have hcz23_0 : w22.cell? ⟨gb682, 0, none⟩ = some (.bool a0_0) := (blk_cell BK682.out 0).trans rfl; have hcz23_1 : w22.cell? ⟨gb682, 1, none⟩ = some (.slice A0_1 l0_1.length c0_1) := (blk_cell BK682.out 1).trans rfl; have hfz23_0 := blk_frozen BK682.out 0; have hfz23_1 := blk_frozen BK682.out 1; obtain ⟨Ao24, co24, eo24⟩ := Kd.R_slice HO691.out; subst eo24) | ((with_reducible refine gate_callee (f := 83) rfl ?_); refine goesL_ (some 32) rfl rfl Try.func83 (by kernel_rfl) rfl #[.bool a0_0, .slice Ao24 t689.length co24] rfl uM ?_; (with_reducible refine (modint_From.calls a0_0 _ _ t689 t693 t694 _ ?side1 ?side2 A7.out).mono ?_); (case side1 => exact uC (Kd.R_reads' HO691.out).2.2); (case side2 => exact (Kd.R_reads' HO691.out).2.1); rintro e w25 ⟨v695, rfl, ho0, hb⟩; refine ⟨_, rfl, ?_⟩; have n0_ := Aside0.mk (Kd.V_elder' (uV HO0_1.out) (Kd.R_base ho0) hb); have n1_ := Aside0.mk (Kd.V_elder' (uV HO1_1.out) (Kd.R_base ho0) hb); have n2_ := Aside0.mk (Kd.N_elder' (uN HO687.out) (Kd.R_base ho0) hb); have n3_ := Aside0.mk (Kd.R_elder' (uR HO691.out) (Kd.R_base ho0) hb); have n4_ := Aside0.mk (Kd.R_lower (Kd.R_new' (Kd.R_newM (M := fun k_ => (w.heap.size ≤ k_)) ho0 (below_size uB) (fun k_ h_ => h_)) (Kd.R_lt (uR HO691.out))) (below_size uB)); have n5_ := Aside0.mk (blk_below (uK BK682.out) hb); have n6_ := Aside0.mk (blk_below (uK BK683.out) hb); have n7_ := Aside0.mk (blk_below (uK BK684.out) hb); have n8_ := Aside0.mk (below_step uB hb); clear HO0_1; clear HO1_1; clear HO687; clear HO691; clear BK682; clear BK683; clear BK684; clear HB; have HO0_1 := n0_; have HO1_1 := n1_; have HO687 := n2_; have HO691 := n3_; have HO696 := n4_; have BK682 := n5_; have BK683 := n6_; have BK684 := n7_; have HB := n8_; clear n0_ n1_ n2_ n3_ n4_ n5_ n6_ n7_ n8_; (try clear hb); (try clear hb2); (try clear hk); (try clear hi); (try clear ho0); have hcz26_0 : w25.cell? ⟨gb684, 0, none⟩ = some (.bool false) := (blk_cell BK684.out 0).trans rfl; have hcz26_1 : w25.cell? ⟨gb684, 1, none⟩ = some (.slice none 0 0) := (blk_cell BK684.out 1).trans rfl; have hfz26_0 := blk_frozen BK684.out 0; have hfz26_1 := blk_frozen BK684.out 1; obtain ⟨Ao27, co27, eo27⟩ := Kd.R_slice HO696.out; subst eo27))
   refine bodyPost_ret (results_ct rfl _ _ gb684 52 #[.bool t693, .slice Ao27 t694.length co27] (0, 0) _ rfl (by (with_reducible repeat (first | refine blk_drewN ?_ _ | refine blk_drew ?_ | refine blk_alloc ?_ _)); refine blk_put (cs := #[.bool t693, .slice none 0 0]) ?_ 1 _ rfl; (with_reducible repeat (first | refine blk_drewN ?_ _ | refine blk_drew ?_ | refine blk_alloc ?_ _)); refine blk_put (cs := #[.bool false, .slice none 0 0]) ?_ 0 _ rfl; (with_reducible repeat (first | refine blk_drewN ?_ _ | refine blk_drew ?_ | refine blk_alloc ?_ _)); exact BK684.out) Try.underlying52 rfl (by kernel_rfl)) rfl ?_
   exact ⟨_, by first | rfl | (simp [errW_none, errW_some] <;> rfl) | (simp [*, errW_none, errW_some] <;> rfl), by (with_reducible repeat (first | apply Kd.R_alloc | apply Kd.R_drewN | apply Kd.R_drew)); exact Kd.R_mono (Kd.R_far (p := ⟨gb684, 1, none⟩) (Kd.R_far (p := ⟨gb684, 0, none⟩) (Kd.R_types HO696.out BK684.out (by decide)) (fun _ hk => hk.2) (.bool t693)) (fun _ hk => hk.2) (.slice Ao27 t694.length co27)) (fun _ hk => hk.1.1.1), uB⟩
  ·
   rw [if_neg c5] at H
   have c5b0 : (a0_0 == a1_0) = false := by simpa using c5
   (try (have c5b1 : decide (a0_0 = a1_0) = false := by simpa using c5))
   (try (have c5b2 : (a0_0 == a1_0) = false := by simpa using c5))
   (try (have c5b3 : ¬ (a0_0 = a1_0) := by simpa using c5))
   clear c5
   replace H := Option.bind_eq_some_iff.mp H
   obtain ⟨t697, A280, H⟩ := H
   replace H : (if t697 < 0 then ((nat_Sub.f k l1_1 l0_1).bind fun bt698 => ((modint_From.f a1_0 bt698.1).bind fun bt702 => (some (bt702.1, bt702.2, bt698.2)))) else ((nat_Sub.f k l0_1 l1_1).bind fun bt706 => ((modint_From.f a0_0 bt706.1).bind fun bt710 => (some (bt710.1, bt710.2, bt706.2))))) = some (r1, r2, r3) := H
   have A28 := Aside0.mk A280; clear A280
   by_cases c29 : t697 < 0
   ·
    rw [if_pos c29] at H
    have c29b0 : decide (t697 < 0) = true := decide_eq_true c29
    clear c29
    replace H := Option.bind_eq_some_iff.mp H
    obtain ⟨⟨t698, t701⟩, A300, H⟩ := H
    replace H : ((modint_From.f a1_0 t698).bind fun bt702 => (some (bt702.1, bt702.2, t701))) = some (r1, r2, r3) := H
    have A30 := Aside0.mk A300; clear A300
    replace H := Option.bind_eq_some_iff.mp H
    obtain ⟨⟨t702, t703⟩, A310, H⟩ := H
    replace H : (some (t702, t703, t701)) = some (r1, r2, r3) := H
    have A31 := Aside0.mk A310; clear A310
    simp only [Option.some.injEq, Prod.mk.injEq] at H
    obtain ⟨rfl, rfl, rfl⟩ := H
    go_enter Try.func56, Try.ntmps56
    go_wp2_with (first | ((with_reducible refine gate_dst (N := 2) rfl ?_); refine box_event ?hg (N := 2) ?hd (cs := #[.bool a0_0, .slice A0_1 l0_1.length c0_1]) (t := 52) ?hr ?_; (case hd => rfl); (case hg => rfl); (case hr => first | (go_simp; done) | (go_simp; rfl)); intro gb682 hg w32 hbox hb; have n0_ := Aside0.mk (Kd.V_below (Kd.V_elderB (uV HO0_1.out) gb682 (Nat.le_of_eq hg.symm)) hb); have n1_ := Aside0.mk (Kd.V_below (Kd.V_elderB (uV HO1_1.out) gb682 (Nat.le_of_eq hg.symm)) hb); have n2_ := Aside0.mk (below_step uB hb); have n3_ := Aside0.mk (hbox); have n4_ := Aside0.mk ((by rw [hg]; exact (below_size uB) : w.heap.size ≤ gb682)); have n5_ := Aside0.mk ((by rw [hg]; exact (below_size uB) : w.heap.size ≤ gb682)); clear HO0_1; clear HO1_1; clear HB; have HO0_1 := n0_; have HO1_1 := n1_; have HB := n2_; have BK682 := n3_; have GW682 := n4_; have GE682 := n5_; clear n0_ n1_ n2_ n3_ n4_ n5_; clear hb hbox hg) | ((with_reducible refine gate_dst (N := 3) rfl ?_); refine box_event ?hg (N := 3) ?hd (cs := #[.bool a1_0, .slice A1_1 l1_1.length c1_1]) (t := 52) ?hr ?_; (case hd => rfl); (case hg => rfl); (case hr => first | (go_simp; done) | (go_simp; rfl)); intro gb683 hg w33 hbox hb; have n0_ := Aside0.mk (Kd.V_below (Kd.V_elderB (uV HO0_1.out) gb683 (Nat.le_of_eq hg.symm)) hb); have n1_ := Aside0.mk (Kd.V_below (Kd.V_elderB (uV HO1_1.out) gb683 (Nat.le_of_eq hg.symm)) hb); have n2_ := Aside0.mk (blk_below (uK BK682.out) hb); have n3_ := Aside0.mk (below_step uB hb); have n4_ := Aside0.mk (hbox); have n5_ := Aside0.mk ((by rw [hg]; exact (below_size uB) : w.heap.size ≤ gb683)); have n6_ := Aside0.mk ((by rw [hg]; exact (below_size uB) : w.heap.size ≤ gb683)); have n7_ := Aside0.mk ((by rw [hg]; exact Nat.ne_of_lt (blk_lt (uK BK682.out)) : gb682 ≠ gb683)); have n8_ := Aside0.mk ((by rw [hg]; exact Nat.ne_of_gt (blk_lt (uK BK682.out)) : gb683 ≠ gb682)); clear HO0_1; clear HO1_1; clear BK682; clear HB; have HO0_1 := n0_; have HO1_1 := n1_; have BK682 := n2_; have HB := n3_; have BK683 := n4_; have GW683 := n5_; have GE683 := n6_; have NB682_683 := n7_; have NB683_682 := n8_; clear n0_ n1_ n2_ n3_ n4_ n5_ n6_ n7_ n8_; clear hb hbox hg) | ((with_reducible refine gate_dst (N := 4) rfl ?_); refine box_event ?hg (N := 4) ?hd (cs := #[.bool false, .slice none 0 0]) (t := 52) ?hr ?_; (case hd => rfl); (case hg => rfl); (case hr => first | (go_simp; done) | (go_simp; rfl)); intro gb684 hg w34 hbox hb; have n0_ := Aside0.mk (Kd.V_below (Kd.V_elderB (uV HO0_1.out) gb684 (Nat.le_of_eq hg.symm)) hb); have n1_ := Aside0.mk (Kd.V_below (Kd.V_elderB (uV HO1_1.out) gb684 (Nat.le_of_eq hg.symm)) hb); have n2_ := Aside0.mk (blk_below (uK BK682.out) hb); have n3_ := Aside0.mk (blk_below (uK BK683.out) hb); have n4_ := Aside0.mk (below_step uB hb); have n5_ := Aside0.mk (hbox); have n6_ := Aside0.mk ((by rw [hg]; exact (below_size uB) : w.heap.size ≤ gb684)); have n7_ := Aside0.mk ((by rw [hg]; exact (below_size uB) : w.heap.size ≤ gb684)); have n8_ := Aside0.mk ((by rw [hg]; exact Nat.ne_of_lt (blk_lt (uK BK682.out)) : gb682 ≠ gb684)); have n9_ := Aside0.mk ((by rw [hg]; exact Nat.ne_of_gt (blk_lt (uK BK682.out)) : gb684 ≠ gb682)); have n10_ := Aside0.mk ((by rw [hg]; exact Nat.ne_of_lt (blk_lt (uK BK683.out)) : gb683 ≠ gb684)); have n11_ := Aside0.mk ((by rw [hg]; exact Nat.ne_of_gt (blk_lt (uK BK683.out)) : gb684 ≠ gb683)); clear HO0_1; clear HO1_1; clear BK682; clear BK683; clear HB; have HO0_1 := n0_; have HO1_1 := n1_; have BK682 := n2_; have BK683 := n3_; have HB := n4_; have BK684 := n5_; have GW684 := n6_; have GE684 := n7_; have NB682_684 := n8_; have NB684_682 := n9_; have NB683_684 := n10_; have NB684_683 := n11_; clear n0_ n1_ n2_ n3_ n4_ n5_ n6_ n7_ n8_ n9_ n10_ n11_; clear hb hbox hg; have hnb35 := NB682_683.out; have hnc35 := NB683_682.out; have hnb36 := NB682_684.out; have hnc36 := NB684_682.out; have hcz37_0 : w34.cell? ⟨gb682, 0, none⟩ = some (.bool a0_0) := (blk_cell BK682.out 0).trans rfl; have hcz37_1 : w34.cell? ⟨gb682, 1, none⟩ = some (.slice A0_1 l0_1.length c0_1) := (blk_cell BK682.out 1).trans rfl; have hfz37_0 := blk_frozen BK682.out 0; have hfz37_1 := blk_frozen BK682.out 1; have hnb38 := NB683_684.out; have hnc38 := NB684_683.out; have hcz39_0 : w34.cell? ⟨gb683, 0, none⟩ = some (.bool a1_0) := (blk_cell BK683.out 0).trans rfl; have hcz39_1 : w34.cell? ⟨gb683, 1, none⟩ = some (.slice A1_1 l1_1.length c1_1) := (blk_cell BK683.out 1).trans rfl; have hfz39_0 := blk_frozen BK683.out 0; have hfz39_1 := blk_frozen BK683.out 1) | ((with_reducible refine gate_dst (N := 12) rfl ?_); refine Kd.N_lit k52 _ 52 ?hg (N' := 12) ?hd (xs := ([(⟨a0_0, l0_1⟩ : S52), (⟨a1_0, l1_1⟩ : S52)] : List (S52))) (inner := [.bool a0_0, .slice A0_1 l0_1.length c0_1, .bool a1_0, .slice A1_1 l1_1.length c1_1]) (ok := (fun k_ => ((P0_1_ k_ ∨ P1_1_ k_) ∨ w.heap.size ≤ k_) ∧ k_ ≠ gb682 ∧ k_ ≠ gb683 ∧ k_ ≠ gb684)) (okp := (fun k_ => ((P0_1_ k_ ∨ P1_1_ k_) ∨ w.heap.size ≤ k_) ∧ k_ ≠ gb682 ∧ k_ ≠ gb683 ∧ k_ ≠ gb684)) ?hr ?hp (fun _ hk => hk) ((show ∀ k_, w34.heap.size ≤ k_ → (fun k_ => ((P0_1_ k_ ∨ P1_1_ k_) ∨ w.heap.size ≤ k_) ∧ k_ ≠ gb682 ∧ k_ ≠ gb683 ∧ k_ ≠ gb684) k_ from fun k_ hk => ⟨(.inr (Nat.le_trans (below_size uB) hk)), Kd.freshB (g := gb682) (o := .cells #[.bool a0_0, .slice A0_1 l0_1.length c0_1] 52 (0, 0)) (uK BK682.out) k_ hk, Kd.freshB (g := gb683) (o := .cells #[.bool a1_0, .slice A1_1 l1_1.length c1_1] 52 (0, 0)) (uK BK683.out) k_ hk, Kd.freshB (g := gb684) (o := .cells #[.bool false, .slice none 0 0] 52 (0, 0)) (uK BK684.out) k_ hk⟩) _ (Nat.le_refl _)) (Below.refl _ _) (Nat.le_refl _) (by simp) ?_; (case hd => rfl); (case hg => rfl); (case hr => first | (go_simp; done) | (go_simp; rfl) | (go_simp; simp only [u64_u8]; done) | (go_simp; simp only [u64_u8]; rfl)); (case hp => exact (Reps.c2 (show Kd.FK k52 _ _ (⟨a0_0, l0_1⟩ : S52) [.bool a0_0, .slice A0_1 l0_1.length c0_1] from (k52_mkF _ _ (⟨a0_0, l0_1⟩ : S52) (Kd.V_reads' (Kd.V_mono (ok' := (fun k_ => ((P0_1_ k_ ∨ P1_1_ k_) ∨ w.heap.size ≤ k_) ∧ k_ ≠ gb682 ∧ k_ ≠ gb683 ∧ k_ ≠ gb684)) (HO0_1.out) (fun k_ hk => ⟨hk.1.1.1, ⟨hk.1.1.2, ⟨hk.1.2, hk.2⟩⟩⟩))).2.1 (Kd.V_F (Kd.V_mono (ok' := (fun k_ => ((P0_1_ k_ ∨ P1_1_ k_) ∨ w.heap.size ≤ k_) ∧ k_ ≠ gb682 ∧ k_ ≠ gb683 ∧ k_ ≠ gb684)) (HO0_1.out) (fun k_ hk => ⟨hk.1.1.1, ⟨hk.1.1.2, ⟨hk.1.2, hk.2⟩⟩⟩))))) (Reps.c2 (show Kd.FK k52 _ _ (⟨a1_0, l1_1⟩ : S52) [.bool a1_0, .slice A1_1 l1_1.length c1_1] from (k52_mkF _ _ (⟨a1_0, l1_1⟩ : S52) (Kd.V_reads' (Kd.V_mono (ok' := (fun k_ => ((P0_1_ k_ ∨ P1_1_ k_) ∨ w.heap.size ≤ k_) ∧ k_ ≠ gb682 ∧ k_ ≠ gb683 ∧ k_ ≠ gb684)) (HO1_1.out) (fun k_ hk => ⟨hk.1.1.1, ⟨hk.1.1.2, ⟨hk.1.2, hk.2⟩⟩⟩))).2.1 (Kd.V_F (Kd.V_mono (ok' := (fun k_ => ((P0_1_ k_ ∨ P1_1_ k_) ∨ w.heap.size ≤ k_) ∧ k_ ≠ gb682 ∧ k_ ≠ gb683 ∧ k_ ≠ gb684)) (HO1_1.out) (fun k_ hk => ⟨hk.1.1.1, ⟨hk.1.1.2, ⟨hk.1.2, hk.2⟩⟩⟩))))) (Reps.none _ _)))); intro v686 w40 ho41 hb hg_ hnew_; clear hg_ hnew_; (first | rw [← Ny685.out] at ho41 | (simp only [Int.reduceToNat] at ho41; rw [← Ny685.out] at ho41)); have n0_ := Aside0.mk (Kd.V_elder' (uV HO0_1.out) (Kd.N_base ho41) hb); have n1_ := Aside0.mk (Kd.V_elder' (uV HO1_1.out) (Kd.N_base ho41) hb); have n2_ := Aside0.mk (Kd.N_lower ho41 (below_size uB)); have n3_ := Aside0.mk (blk_below (uK BK682.out) hb); have n4_ := Aside0.mk (blk_below (uK BK683.out) hb); have n5_ := Aside0.mk (blk_below (uK BK684.out) hb); have n6_ := Aside0.mk (below_step uB hb); clear HO0_1; clear HO1_1; clear BK682; clear BK683; clear BK684; clear HB; have HO0_1 := n0_; have HO1_1 := n1_; have HO687 := n2_; have BK682 := n3_; have BK683 := n4_; have BK684 := n5_; have HB := n6_; clear n0_ n1_ n2_ n3_ n4_ n5_ n6_; clear hb ho41; obtain ⟨Ao42, co42, eo42⟩ := Kd.N_slice HO687.out; subst eo42) | ((with_reducible refine gate_callee (f := 100) rfl ?_); refine goesL_ (some 13) rfl rfl Try.func100 (by kernel_rfl) rfl #[.slice Ao42 y685.length co42] rfl uM ?_; (with_reducible refine (modint_right.calls _ _ y685 true _ ?side1 ?side2 A3.out).mono ?_); (case side1 => exact uC (Kd.N_reads' HO687.out).2.2); (case side2 => exact (Kd.N_reads' HO687.out).2.1); rintro e w43 ⟨rfl, hb⟩; refine ⟨_, rfl, ?_⟩; have n0_ := Aside0.mk (Kd.V_below (uV HO0_1.out) hb); have n1_ := Aside0.mk (Kd.V_below (uV HO1_1.out) hb); have n2_ := Aside0.mk (Kd.N_below (uN HO687.out) hb); have n3_ := Aside0.mk (blk_below (uK BK682.out) hb); have n4_ := Aside0.mk (blk_below (uK BK683.out) hb); have n5_ := Aside0.mk (blk_below (uK BK684.out) hb); have n6_ := Aside0.mk (below_step uB hb); clear HO0_1; clear HO1_1; clear HO687; clear BK682; clear BK683; clear BK684; clear HB; have HO0_1 := n0_; have HO1_1 := n1_; have HO687 := n2_; have BK682 := n3_; have BK683 := n4_; have BK684 := n5_; have HB := n6_; clear n0_ n1_ n2_ n3_ n4_ n5_ n6_; (try clear hb); (try clear hb2); (try clear hk); (try clear hi); have hcz44_0 : w43.cell? ⟨gb682, 0, none⟩ = some (.bool a0_0) := (blk_cell BK682.out 0).trans rfl; have hcz44_1 : w43.cell? ⟨gb682, 1, none⟩ = some (.slice A0_1 l0_1.length c0_1) := (blk_cell BK682.out 1).trans rfl; have hfz44_0 := blk_frozen BK682.out 0; have hfz44_1 := blk_frozen BK682.out 1; have hcz45_0 : w43.cell? ⟨gb683, 0, none⟩ = some (.bool a1_0) := (blk_cell BK683.out 0).trans rfl; have hcz45_1 : w43.cell? ⟨gb683, 1, none⟩ = some (.slice A1_1 l1_1.length c1_1) := (blk_cell BK683.out 1).trans rfl; have hfz45_0 := blk_frozen BK683.out 0; have hfz45_1 := blk_frozen BK683.out 1) | ((with_reducible refine gate_callee (f := 82) rfl ?_); refine goesL_ (some 38) rfl rfl Try.func82 (by kernel_rfl) rfl #[.slice A0_1 l0_1.length c0_1, .slice A1_1 l1_1.length c1_1] rfl uM ?_; (with_reducible refine (nat_Cmp.calls k (fun k_ => ((((((P0_1_ k_ ∨ P1_1_ k_) ∨ w.heap.size ≤ k_) ∧ k_ ≠ gb682) ∧ k_ ≠ gb683) ∧ k_ ≠ gb684) ∧ some k_ ≠ (.slice Ao42 y685.length co42 : Value).ownBlock)) _ _ l0_1 (fun k_ => ((((((P0_1_ k_ ∨ P1_1_ k_) ∨ w.heap.size ≤ k_) ∧ k_ ≠ gb682) ∧ k_ ≠ gb683) ∧ k_ ≠ gb684) ∧ some k_ ≠ (.slice Ao42 y685.length co42 : Value).ownBlock)) _ _ l1_1 t697 _ ?side1 ?side2 A28.out).mono ?_); (case side1 => exact HO0_1.out); (case side2 => exact HO1_1.out); rintro e w46 ⟨rfl, hb⟩; refine ⟨_, rfl, ?_⟩; have n0_ := Aside0.mk (Kd.V_below (uV HO0_1.out) hb); have n1_ := Aside0.mk (Kd.V_below (uV HO1_1.out) hb); have n2_ := Aside0.mk (Kd.N_below (uN HO687.out) hb); have n3_ := Aside0.mk (blk_below (uK BK682.out) hb); have n4_ := Aside0.mk (blk_below (uK BK683.out) hb); have n5_ := Aside0.mk (blk_below (uK BK684.out) hb); have n6_ := Aside0.mk (below_step uB hb); clear HO0_1; clear HO1_1; clear HO687; clear BK682; clear BK683; clear BK684; clear HB; have HO0_1 := n0_; have HO1_1 := n1_; have HO687 := n2_; have BK682 := n3_; have BK683 := n4_; have BK684 := n5_; have HB := n6_; clear n0_ n1_ n2_ n3_ n4_ n5_ n6_; (try clear hb); (try clear hb2); (try clear hk); (try clear hi); have hcz47_0 : w46.cell? ⟨gb683, 0, none⟩ = some (.bool a1_0) := (blk_cell BK683.out 0).trans rfl; have hcz47_1 : w46.cell? ⟨gb683, 1, none⟩ = some (.slice A1_1 l1_1.length c1_1) := (blk_cell BK683.out 1).trans rfl; have hfz47_0 := blk_frozen BK683.out 0; have hfz47_1 := blk_frozen BK683.out 1; have hcz48_0 : w46.cell? ⟨gb682, 0, none⟩ = some (.bool a0_0) := (blk_cell BK682.out 0).trans rfl; have hcz48_1 : w46.cell? ⟨gb682, 1, none⟩ = some (.slice A0_1 l0_1.length c0_1) := (blk_cell BK682.out 1).trans rfl; have hfz48_0 := blk_frozen BK682.out 0; have hfz48_1 := blk_frozen BK682.out 1) | ((with_reducible refine gate_store (t := 52) (p := 2) rfl ?_); refine store_event (t := 52) (p := 2) (v := ?vo_w49) (w1 := ((w46.setCell ⟨gb682, 0, none⟩ (.bool a1_0)).setCell ⟨gb682, 1, none⟩ (.slice A1_1 l1_1.length c1_1))) ?hg ?ho ?hn ?hr ?_; (case ho => rfl); (case hg => rfl); (case hn => rfl); (case hr => first | (go_simp; done) | (go_simp; rfl)); intro w49 hw; have n0_ : Aside0 (Kd.V (Kd.int .u64) 27 w49 w.heap.size (fun k_ => ((P0_1_ k_ ∨ P1_1_ k_) ∨ w.heap.size ≤ k_) ∧ some k_ ≠ (.slice Ao42 y685.length co42 : Value).ownBlock ∧ k_ ≠ gb682 ∧ k_ ≠ gb683 ∧ k_ ≠ gb684) (.slice A0_1 l0_1.length c0_1) l0_1) := ⟨(by rw [hw]; exact (uV (Kd.V_mono (Kd.V_far (p := ⟨gb682, 1, none⟩) (Kd.V_far (p := ⟨gb682, 0, none⟩) (Kd.V_mono HO0_1.out (fun k_ hk => (⟨hk, hk.1.1.1.2⟩ : _ ∧ k_ ≠ gb682))) (fun _ hk => hk.2) (.bool a1_0)) (fun _ hk => hk.2) (.slice A1_1 l1_1.length c1_1)) (fun _ hk => ⟨hk.1.1.1.1.1, ⟨hk.1.2, ⟨hk.1.1.1.1.2, ⟨hk.1.1.1.2, hk.1.1.2⟩⟩⟩⟩))))⟩; have n1_ : Aside0 (Kd.V (Kd.int .u64) 27 w49 w.heap.size (fun k_ => ((P0_1_ k_ ∨ P1_1_ k_) ∨ w.heap.size ≤ k_) ∧ some k_ ≠ (.slice Ao42 y685.length co42 : Value).ownBlock ∧ k_ ≠ gb682 ∧ k_ ≠ gb683 ∧ k_ ≠ gb684) (.slice A1_1 l1_1.length c1_1) l1_1) := ⟨(by rw [hw]; exact (uV (Kd.V_mono (Kd.V_far (p := ⟨gb682, 1, none⟩) (Kd.V_far (p := ⟨gb682, 0, none⟩) (Kd.V_mono HO1_1.out (fun k_ hk => (⟨hk, hk.1.1.1.2⟩ : _ ∧ k_ ≠ gb682))) (fun _ hk => hk.2) (.bool a1_0)) (fun _ hk => hk.2) (.slice A1_1 l1_1.length c1_1)) (fun _ hk => ⟨hk.1.1.1.1.1, ⟨hk.1.2, ⟨hk.1.1.1.1.2, ⟨hk.1.1.1.2, hk.1.1.2⟩⟩⟩⟩))))⟩; have n2_ : Aside0 (Kd.N k52 52 w49 w.heap.size (fun k_ => ((P0_1_ k_ ∨ P1_1_ k_) ∨ w.heap.size ≤ k_) ∧ k_ ≠ gb682 ∧ k_ ≠ gb683 ∧ k_ ≠ gb684) (.slice Ao42 y685.length co42) y685) := ⟨(by rw [hw]; exact (uN (Kd.N_mono (Kd.N_far (p := ⟨gb682, 1, none⟩) (Kd.N_far (p := ⟨gb682, 0, none⟩) (Kd.N_mono HO687.out (fun k_ hk => (⟨hk, hk.2.1⟩ : _ ∧ k_ ≠ gb682))) (fun _ hk => hk.2) (.bool a1_0)) (fun _ hk => hk.2) (.slice A1_1 l1_1.length c1_1)) (fun _ hk => ⟨hk.1.1, ⟨hk.1.2.1, ⟨hk.1.2.2.1, hk.1.2.2.2⟩⟩⟩))))⟩; have n3_ : Aside0 (w49.heap[gb682]? = some (.cells #[.bool a1_0, .slice A1_1 l1_1.length c1_1] 52 (0, 0))) := ⟨(by rw [hw]; exact (by (with_reducible repeat (first | refine blk_drewN ?_ _ | refine blk_drew ?_ | refine blk_alloc ?_ _)); refine blk_put (cs := #[.bool a1_0, .slice A0_1 l0_1.length c0_1]) ?_ 1 _ rfl; (with_reducible repeat (first | refine blk_drewN ?_ _ | refine blk_drew ?_ | refine blk_alloc ?_ _)); refine blk_put (cs := #[.bool a0_0, .slice A0_1 l0_1.length c0_1]) ?_ 0 _ rfl; (with_reducible repeat (first | refine blk_drewN ?_ _ | refine blk_drew ?_ | refine blk_alloc ?_ _)); exact BK682.out))⟩; have n4_ : Aside0 (w49.heap[gb683]? = some (.cells #[.bool a1_0, .slice A1_1 l1_1.length c1_1] 52 (0, 0))) := ⟨(by rw [hw]; exact (by (with_reducible repeat (first | refine blk_drewN ?_ _ | refine blk_drew ?_ | refine blk_alloc ?_ _)); refine blk_far ?_ NB683_682.out _; (with_reducible repeat (first | refine blk_drewN ?_ _ | refine blk_drew ?_ | refine blk_alloc ?_ _)); refine blk_far ?_ NB683_682.out _; (with_reducible repeat (first | refine blk_drewN ?_ _ | refine blk_drew ?_ | refine blk_alloc ?_ _)); exact BK683.out))⟩; have n5_ : Aside0 (w49.heap[gb684]? = some (.cells #[.bool false, .slice none 0 0] 52 (0, 0))) := ⟨(by rw [hw]; exact (by (with_reducible repeat (first | refine blk_drewN ?_ _ | refine blk_drew ?_ | refine blk_alloc ?_ _)); refine blk_far ?_ NB684_682.out _; (with_reducible repeat (first | refine blk_drewN ?_ _ | refine blk_drew ?_ | refine blk_alloc ?_ _)); refine blk_far ?_ NB684_682.out _; (with_reducible repeat (first | refine blk_drewN ?_ _ | refine blk_drew ?_ | refine blk_alloc ?_ _)); exact BK684.out))⟩; have n6_ : Aside0 (Below w.heap.size w w49) := ⟨(by rw [hw]; exact uB)⟩; clear hw; clear HO0_1; clear HO1_1; clear HO687; clear BK682; clear BK683; clear BK684; clear HB; have HO0_1 := n0_; have HO1_1 := n1_; have HO687 := n2_; have BK682 := n3_; have BK683 := n4_; have BK684 := n5_; have HB := n6_; clear n0_ n1_ n2_ n3_ n4_ n5_ n6_; have hcz50_0 : w49.cell? ⟨gb683, 0, none⟩ = some (.bool a1_0) := (blk_cell BK683.out 0).trans rfl; have hcz50_1 : w49.cell? ⟨gb683, 1, none⟩ = some (.slice A1_1 l1_1.length c1_1) := (blk_cell BK683.out 1).trans rfl; have hfz50_0 := blk_frozen BK683.out 0; have hfz50_1 := blk_frozen BK683.out 1) | ((with_reducible refine gate_store (t := 52) (p := 3) rfl ?_); refine store_event (t := 52) (p := 3) (v := ?vo_w51) (w1 := ((w49.setCell ⟨gb683, 0, none⟩ (.bool a0_0)).setCell ⟨gb683, 1, none⟩ (.slice A0_1 l0_1.length c0_1))) ?hg ?ho ?hn ?hr ?_; (case ho => rfl); (case hg => rfl); (case hn => rfl); (case hr => first | (go_simp; done) | (go_simp; rfl)); intro w51 hw; have n0_ : Aside0 (Kd.V (Kd.int .u64) 27 w51 w.heap.size (fun k_ => ((P0_1_ k_ ∨ P1_1_ k_) ∨ w.heap.size ≤ k_) ∧ some k_ ≠ (.slice Ao42 y685.length co42 : Value).ownBlock ∧ k_ ≠ gb682 ∧ k_ ≠ gb683 ∧ k_ ≠ gb684) (.slice A0_1 l0_1.length c0_1) l0_1) := ⟨(by rw [hw]; exact (uV (Kd.V_mono (Kd.V_far (p := ⟨gb683, 1, none⟩) (Kd.V_far (p := ⟨gb683, 0, none⟩) (Kd.V_mono HO0_1.out (fun k_ hk => (⟨hk, hk.2.2.2.1⟩ : _ ∧ k_ ≠ gb683))) (fun _ hk => hk.2) (.bool a0_0)) (fun _ hk => hk.2) (.slice A0_1 l0_1.length c0_1)) (fun _ hk => ⟨hk.1.1, ⟨hk.1.2.1, ⟨hk.1.2.2.1, ⟨hk.1.2.2.2.1, hk.1.2.2.2.2⟩⟩⟩⟩))))⟩; have n1_ : Aside0 (Kd.V (Kd.int .u64) 27 w51 w.heap.size (fun k_ => ((P0_1_ k_ ∨ P1_1_ k_) ∨ w.heap.size ≤ k_) ∧ some k_ ≠ (.slice Ao42 y685.length co42 : Value).ownBlock ∧ k_ ≠ gb682 ∧ k_ ≠ gb683 ∧ k_ ≠ gb684) (.slice A1_1 l1_1.length c1_1) l1_1) := ⟨(by rw [hw]; exact (uV (Kd.V_mono (Kd.V_far (p := ⟨gb683, 1, none⟩) (Kd.V_far (p := ⟨gb683, 0, none⟩) (Kd.V_mono HO1_1.out (fun k_ hk => (⟨hk, hk.2.2.2.1⟩ : _ ∧ k_ ≠ gb683))) (fun _ hk => hk.2) (.bool a0_0)) (fun _ hk => hk.2) (.slice A0_1 l0_1.length c0_1)) (fun _ hk => ⟨hk.1.1, ⟨hk.1.2.1, ⟨hk.1.2.2.1, ⟨hk.1.2.2.2.1, hk.1.2.2.2.2⟩⟩⟩⟩))))⟩; have n2_ : Aside0 (Kd.N k52 52 w51 w.heap.size (fun k_ => ((P0_1_ k_ ∨ P1_1_ k_) ∨ w.heap.size ≤ k_) ∧ k_ ≠ gb682 ∧ k_ ≠ gb683 ∧ k_ ≠ gb684) (.slice Ao42 y685.length co42) y685) := ⟨(by rw [hw]; exact (uN (Kd.N_mono (Kd.N_far (p := ⟨gb683, 1, none⟩) (Kd.N_far (p := ⟨gb683, 0, none⟩) (Kd.N_mono HO687.out (fun k_ hk => (⟨hk, hk.2.2.1⟩ : _ ∧ k_ ≠ gb683))) (fun _ hk => hk.2) (.bool a0_0)) (fun _ hk => hk.2) (.slice A0_1 l0_1.length c0_1)) (fun _ hk => ⟨hk.1.1, ⟨hk.1.2.1, ⟨hk.1.2.2.1, hk.1.2.2.2⟩⟩⟩))))⟩; have n3_ : Aside0 (w51.heap[gb682]? = some (.cells #[.bool a1_0, .slice A1_1 l1_1.length c1_1] 52 (0, 0))) := ⟨(by rw [hw]; exact (by (with_reducible repeat (first | refine blk_drewN ?_ _ | refine blk_drew ?_ | refine blk_alloc ?_ _)); refine blk_far ?_ NB682_683.out _; (with_reducible repeat (first | refine blk_drewN ?_ _ | refine blk_drew ?_ | refine blk_alloc ?_ _)); refine blk_far ?_ NB682_683.out _; (with_reducible repeat (first | refine blk_drewN ?_ _ | refine blk_drew ?_ | refine blk_alloc ?_ _)); exact BK682.out))⟩; have n4_ : Aside0 (w51.heap[gb683]? = some (.cells #[.bool a0_0, .slice A0_1 l0_1.length c0_1] 52 (0, 0))) := ⟨(by rw [hw]; exact (by (with_reducible repeat (first | refine blk_drewN ?_ _ | refine blk_drew ?_ | refine blk_alloc ?_ _)); refine blk_put (cs := #[.bool a0_0, .slice A1_1 l1_1.length c1_1]) ?_ 1 _ rfl; (with_reducible repeat (first | refine blk_drewN ?_ _ | refine blk_drew ?_ | refine blk_alloc ?_ _)); refine blk_put (cs := #[.bool a1_0, .slice A1_1 l1_1.length c1_1]) ?_ 0 _ rfl; (with_reducible repeat (first | refine blk_drewN ?_ _ | refine blk_drew ?_ | refine blk_alloc ?_ _)); exact BK683.out))⟩; have n5_ : Aside0 (w51.heap[gb684]? = some (.cells #[.bool false, .slice none 0 0] 52 (0, 0))) := ⟨(by rw [hw]; exact (by (with_reducible repeat (first | refine blk_drewN ?_ _ | refine blk_drew ?_ | refine blk_alloc ?_ _)); refine blk_far ?_ NB684_683.out _; (with_reducible repeat (first | refine blk_drewN ?_ _ | refine blk_drew ?_ | refine blk_alloc ?_ _)); refine blk_far ?_ NB684_683.out _; (with_reducible repeat (first | refine blk_drewN ?_ _ | refine blk_drew ?_ | refine blk_alloc ?_ _)); exact BK684.out))⟩; have n6_ : Aside0 (Below w.heap.size w w51) := ⟨(by rw [hw]; exact uB)⟩; clear hw; clear HO0_1; clear HO1_1; clear HO687; clear BK682; clear BK683; clear BK684; clear HB; have HO0_1 := n0_; have HO1_1 := n1_; have HO687 := n2_; have BK682 := n3_; have BK683 := n4_; have BK684 := n5_; have HB := n6_; clear n0_ n1_ n2_ n3_ n4_ n5_ n6_; have hcz52_0 : w51.cell? ⟨gb682, 0, none⟩ = some (.bool a1_0) := (blk_cell BK682.out 0).trans rfl; have hcz52_1 : w51.cell? ⟨gb682, 1, none⟩ = some (.slice A1_1 l1_1.length c1_1) := (blk_cell BK682.out 1).trans rfl; have hfz52_0 := blk_frozen BK682.out 0; have hfz52_1 := blk_frozen BK682.out 1; have hcz53_0 : w51.cell? ⟨gb683, 0, none⟩ = some (.bool a0_0) := (blk_cell BK683.out 0).trans rfl; have hcz53_1 : w51.cell? ⟨gb683, 1, none⟩ = some (.slice A0_1 l0_1.length c0_1) := (blk_cell BK683.out 1).trans rfl; have hfz53_0 := blk_frozen BK683.out 0; have hfz53_1 := blk_frozen BK683.out 1) | ((with_reducible refine gate_callee (f := 80) rfl ?_); refine goesL_ (some 47) rfl rfl Try.func80 (by kernel_rfl) rfl #[.slice A1_1 l1_1.length c1_1, .slice A0_1 l0_1.length c0_1] rfl uM ?_; (with_reducible refine (nat_Sub.calls k (fun k_ => (((P0_1_ k_ ∨ P1_1_ k_) ∨ w.heap.size ≤ k_) ∧ (some k_ ≠ (.slice Ao42 y685.length co42 : Value).ownBlock ∧ (k_ ≠ gb682 ∧ (k_ ≠ gb683 ∧ k_ ≠ gb684))))) _ _ l1_1 (fun k_ => (((P0_1_ k_ ∨ P1_1_ k_) ∨ w.heap.size ≤ k_) ∧ (some k_ ≠ (.slice Ao42 y685.length co42 : Value).ownBlock ∧ (k_ ≠ gb682 ∧ (k_ ≠ gb683 ∧ k_ ≠ gb684))))) _ _ l0_1 t698 t701 _ ?side1 ?side2 A30.out).mono ?_); (case side1 => exact HO1_1.out); (case side2 => exact HO0_1.out); rintro e w54 ⟨v699, rfl, ho0, hb⟩; refine ⟨_, rfl, ?_⟩; have n0_ := Aside0.mk (Kd.V_elder' (uV HO0_1.out) (Kd.R_base ho0) hb); have n1_ := Aside0.mk (Kd.V_elder' (uV HO1_1.out) (Kd.R_base ho0) hb); have n2_ := Aside0.mk (Kd.N_elder' (uN HO687.out) (Kd.R_base ho0) hb); have n3_ := Aside0.mk (Kd.R_lower (Kd.R_newM (M := fun k_ => (w.heap.size ≤ k_)) (Kd.R_mono (ok' := fun k_ => True) ho0 (fun _ hk_ => trivial)) (below_size uB) (fun k_ h_ => h_)) (below_size uB)); have n4_ := Aside0.mk (blk_below (uK BK682.out) hb); have n5_ := Aside0.mk (blk_below (uK BK683.out) hb); have n6_ := Aside0.mk (blk_below (uK BK684.out) hb); have n7_ := Aside0.mk (below_step uB hb); clear HO0_1; clear HO1_1; clear HO687; clear BK682; clear BK683; clear BK684; clear HB; have HO0_1 := n0_; have HO1_1 := n1_; have HO687 := n2_; have HO700 := n3_; have BK682 := n4_; have BK683 := n5_; have BK684 := n6_; have HB := n7_; clear n0_ n1_ n2_ n3_ n4_ n5_ n6_ n7_; (try clear hb); (try clear hb2); (try clear hk); (try clear hi); (try clear ho0); have hcz55_0 : w54.cell? ⟨gb682, 0, none⟩ = some (.bool a1_0) := (blk_cell BK682.out 0).trans rfl; have hcz55_1 : w54.cell? ⟨gb682, 1, none⟩ = some (.slice A1_1 l1_1.length c1_1) := (blk_cell BK682.out 1).trans rfl; have hfz55_0 := blk_frozen BK682.out 0; have hfz55_1 := blk_frozen BK682.out 1; obtain ⟨Ao56, co56, eo56⟩ := Kd.R_slice HO700.out; subst eo56) | ((with_reducible refine gate_callee (f := 83) rfl ?_); refine goesL_ (some 53) rfl rfl Try.func83 (by kernel_rfl) rfl #[.bool a1_0, .slice Ao56 t698.length co56] rfl uM ?_; (with_reducible refine (modint_From.calls a1_0 _ _ t698 t702 t703 _ ?side1 ?side2 A31.out).mono ?_); (case side1 => exact uC (Kd.R_reads' HO700.out).2.2); (case side2 => exact (Kd.R_reads' HO700.out).2.1); rintro e w57 ⟨v704, rfl, ho0, hb⟩; refine ⟨_, rfl, ?_⟩; have n0_ := Aside0.mk (Kd.V_elder' (uV HO0_1.out) (Kd.R_base ho0) hb); have n1_ := Aside0.mk (Kd.V_elder' (uV HO1_1.out) (Kd.R_base ho0) hb); have n2_ := Aside0.mk (Kd.N_elder' (uN HO687.out) (Kd.R_base ho0) hb); have n3_ := Aside0.mk (Kd.R_elder' (uR HO700.out) (Kd.R_base ho0) hb); have n4_ := Aside0.mk (Kd.R_lower (Kd.R_new' (Kd.R_newM (M := fun k_ => (w.heap.size ≤ k_)) ho0 (below_size uB) (fun k_ h_ => h_)) (Kd.R_lt (uR HO700.out))) (below_size uB)); have n5_ := Aside0.mk (blk_below (uK BK682.out) hb); have n6_ := Aside0.mk (blk_below (uK BK683.out) hb); have n7_ := Aside0.mk (blk_below (uK BK684.out) hb); have n8_ := Aside0.mk (below_step uB hb); clear HO0_1; clear HO1_1; clear HO687; clear HO700; clear BK682; clear BK683; clear BK684; clear HB; have HO0_1 := n0_; have HO1_1 := n1_; have HO687 := n2_; have HO700 := n3_; have HO705 := n4_; have BK682 := n5_; have BK683 := n6_; have BK684 := n7_; have HB := n8_; clear n0_ n1_ n2_ n3_ n4_ n5_ n6_ n7_ n8_; (try clear hb); (try clear hb2); (try clear hk); (try clear hi); (try clear ho0); have hcz58_0 : w57.cell? ⟨gb684, 0, none⟩ = some (.bool false) := (blk_cell BK684.out 0).trans rfl; have hcz58_1 : w57.cell? ⟨gb684, 1, none⟩ = some (.slice none 0 0) := (blk_cell BK684.out 1).trans rfl; have hfz58_0 := blk_frozen BK684.out 0; have hfz58_1 := blk_frozen BK684.out 1; obtain ⟨Ao59, co59, eo59⟩ := Kd.R_slice HO705.out; subst eo59))
    refine bodyPost_ret (results_ct rfl _ _ gb684 52 #[.bool t702, .slice Ao59 t703.length co59] (0, 0) _ rfl (by (with_reducible repeat (first | refine blk_drewN ?_ _ | refine blk_drew ?_ | refine blk_alloc ?_ _)); refine blk_put (cs := #[.bool t702, .slice none 0 0]) ?_ 1 _ rfl; (with_reducible repeat (first | refine blk_drewN ?_ _ | refine blk_drew ?_ | refine blk_alloc ?_ _)); refine blk_put (cs := #[.bool false, .slice none 0 0]) ?_ 0 _ rfl; (with_reducible repeat (first | refine blk_drewN ?_ _ | refine blk_drew ?_ | refine blk_alloc ?_ _)); exact BK684.out) Try.underlying52 rfl (by kernel_rfl)) rfl ?_
    exact ⟨_, by first | rfl | (simp [errW_none, errW_some] <;> rfl) | (simp [*, errW_none, errW_some] <;> rfl), by (with_reducible repeat (first | apply Kd.R_alloc | apply Kd.R_drewN | apply Kd.R_drew)); exact Kd.R_mono (Kd.R_far (p := ⟨gb684, 1, none⟩) (Kd.R_far (p := ⟨gb684, 0, none⟩) (Kd.R_types HO705.out BK684.out (by decide)) (fun _ hk => hk.2) (.bool t702)) (fun _ hk => hk.2) (.slice Ao59 t703.length co59)) (fun _ hk => hk.1.1.1), uB⟩
   ·
    rw [if_neg c29] at H
    have c29b0 : decide (t697 < 0) = false := decide_eq_false c29
    clear c29
    replace H := Option.bind_eq_some_iff.mp H
    obtain ⟨⟨t706, t709⟩, A600, H⟩ := H
    replace H : ((modint_From.f a0_0 t706).bind fun bt710 => (some (bt710.1, bt710.2, t709))) = some (r1, r2, r3) := H
    have A60 := Aside0.mk A600; clear A600
    replace H := Option.bind_eq_some_iff.mp H
    obtain ⟨⟨t710, t711⟩, A610, H⟩ := H
    replace H : (some (t710, t711, t709)) = some (r1, r2, r3) := H
    have A61 := Aside0.mk A610; clear A610
    simp only [Option.some.injEq, Prod.mk.injEq] at H
    obtain ⟨rfl, rfl, rfl⟩ := H
    go_enter Try.func56, Try.ntmps56
    go_wp2_with (first | ((with_reducible refine gate_dst (N := 2) rfl ?_); refine box_event ?hg (N := 2) ?hd (cs := #[.bool a0_0, .slice A0_1 l0_1.length c0_1]) (t := 52) ?hr ?_; (case hd => rfl); (case hg => rfl); (case hr => first | (go_simp; done) | (go_simp; rfl)); intro gb682 hg w62 hbox hb; have n0_ := Aside0.mk (Kd.V_below (Kd.V_elderB (uV HO0_1.out) gb682 (Nat.le_of_eq hg.symm)) hb); have n1_ := Aside0.mk (Kd.V_below (Kd.V_elderB (uV HO1_1.out) gb682 (Nat.le_of_eq hg.symm)) hb); have n2_ := Aside0.mk (below_step uB hb); have n3_ := Aside0.mk (hbox); have n4_ := Aside0.mk ((by rw [hg]; exact (below_size uB) : w.heap.size ≤ gb682)); have n5_ := Aside0.mk ((by rw [hg]; exact (below_size uB) : w.heap.size ≤ gb682)); clear HO0_1; clear HO1_1; clear HB; have HO0_1 := n0_; have HO1_1 := n1_; have HB := n2_; have BK682 := n3_; have GW682 := n4_; have GE682 := n5_; clear n0_ n1_ n2_ n3_ n4_ n5_; clear hb hbox hg) | ((with_reducible refine gate_dst (N := 3) rfl ?_); refine box_event ?hg (N := 3) ?hd (cs := #[.bool a1_0, .slice A1_1 l1_1.length c1_1]) (t := 52) ?hr ?_; (case hd => rfl); (case hg => rfl); (case hr => first | (go_simp; done) | (go_simp; rfl)); intro gb683 hg w63 hbox hb; have n0_ := Aside0.mk (Kd.V_below (Kd.V_elderB (uV HO0_1.out) gb683 (Nat.le_of_eq hg.symm)) hb); have n1_ := Aside0.mk (Kd.V_below (Kd.V_elderB (uV HO1_1.out) gb683 (Nat.le_of_eq hg.symm)) hb); have n2_ := Aside0.mk (blk_below (uK BK682.out) hb); have n3_ := Aside0.mk (below_step uB hb); have n4_ := Aside0.mk (hbox); have n5_ := Aside0.mk ((by rw [hg]; exact (below_size uB) : w.heap.size ≤ gb683)); have n6_ := Aside0.mk ((by rw [hg]; exact (below_size uB) : w.heap.size ≤ gb683)); have n7_ := Aside0.mk ((by rw [hg]; exact Nat.ne_of_lt (blk_lt (uK BK682.out)) : gb682 ≠ gb683)); have n8_ := Aside0.mk ((by rw [hg]; exact Nat.ne_of_gt (blk_lt (uK BK682.out)) : gb683 ≠ gb682)); clear HO0_1; clear HO1_1; clear BK682; clear HB; have HO0_1 := n0_; have HO1_1 := n1_; have BK682 := n2_; have HB := n3_; have BK683 := n4_; have GW683 := n5_; have GE683 := n6_; have NB682_683 := n7_; have NB683_682 := n8_; clear n0_ n1_ n2_ n3_ n4_ n5_ n6_ n7_ n8_; clear hb hbox hg) | ((with_reducible refine gate_dst (N := 4) rfl ?_); refine box_event ?hg (N := 4) ?hd (cs := #[.bool false, .slice none 0 0]) (t := 52) ?hr ?_; (case hd => rfl); (case hg => rfl); (case hr => first | (go_simp; done) | (go_simp; rfl)); intro gb684 hg w64 hbox hb; have n0_ := Aside0.mk (Kd.V_below (Kd.V_elderB (uV HO0_1.out) gb684 (Nat.le_of_eq hg.symm)) hb); have n1_ := Aside0.mk (Kd.V_below (Kd.V_elderB (uV HO1_1.out) gb684 (Nat.le_of_eq hg.symm)) hb); have n2_ := Aside0.mk (blk_below (uK BK682.out) hb); have n3_ := Aside0.mk (blk_below (uK BK683.out) hb); have n4_ := Aside0.mk (below_step uB hb); have n5_ := Aside0.mk (hbox); have n6_ := Aside0.mk ((by rw [hg]; exact (below_size uB) : w.heap.size ≤ gb684)); have n7_ := Aside0.mk ((by rw [hg]; exact (below_size uB) : w.heap.size ≤ gb684)); have n8_ := Aside0.mk ((by rw [hg]; exact Nat.ne_of_lt (blk_lt (uK BK682.out)) : gb682 ≠ gb684)); have n9_ := Aside0.mk ((by rw [hg]; exact Nat.ne_of_gt (blk_lt (uK BK682.out)) : gb684 ≠ gb682)); have n10_ := Aside0.mk ((by rw [hg]; exact Nat.ne_of_lt (blk_lt (uK BK683.out)) : gb683 ≠ gb684)); have n11_ := Aside0.mk ((by rw [hg]; exact Nat.ne_of_gt (blk_lt (uK BK683.out)) : gb684 ≠ gb683)); clear HO0_1; clear HO1_1; clear BK682; clear BK683; clear HB; have HO0_1 := n0_; have HO1_1 := n1_; have BK682 := n2_; have BK683 := n3_; have HB := n4_; have BK684 := n5_; have GW684 := n6_; have GE684 := n7_; have NB682_684 := n8_; have NB684_682 := n9_; have NB683_684 := n10_; have NB684_683 := n11_; clear n0_ n1_ n2_ n3_ n4_ n5_ n6_ n7_ n8_ n9_ n10_ n11_; clear hb hbox hg; have hnb65 := NB682_683.out; have hnc65 := NB683_682.out; have hnb66 := NB682_684.out; have hnc66 := NB684_682.out; have hcz67_0 : w64.cell? ⟨gb682, 0, none⟩ = some (.bool a0_0) := (blk_cell BK682.out 0).trans rfl; have hcz67_1 : w64.cell? ⟨gb682, 1, none⟩ = some (.slice A0_1 l0_1.length c0_1) := (blk_cell BK682.out 1).trans rfl; have hfz67_0 := blk_frozen BK682.out 0; have hfz67_1 := blk_frozen BK682.out 1; have hnb68 := NB683_684.out; have hnc68 := NB684_683.out; have hcz69_0 : w64.cell? ⟨gb683, 0, none⟩ = some (.bool a1_0) := (blk_cell BK683.out 0).trans rfl; have hcz69_1 : w64.cell? ⟨gb683, 1, none⟩ = some (.slice A1_1 l1_1.length c1_1) := (blk_cell BK683.out 1).trans rfl; have hfz69_0 := blk_frozen BK683.out 0; have hfz69_1 := blk_frozen BK683.out 1) | ((with_reducible refine gate_dst (N := 12) rfl ?_); refine Kd.N_lit k52 _ 52 ?hg (N' := 12) ?hd (xs := ([(⟨a0_0, l0_1⟩ : S52), (⟨a1_0, l1_1⟩ : S52)] : List (S52))) (inner := [.bool a0_0, .slice A0_1 l0_1.length c0_1, .bool a1_0, .slice A1_1 l1_1.length c1_1]) (ok := (fun k_ => ((P0_1_ k_ ∨ P1_1_ k_) ∨ w.heap.size ≤ k_) ∧ k_ ≠ gb682 ∧ k_ ≠ gb683 ∧ k_ ≠ gb684)) (okp := (fun k_ => ((P0_1_ k_ ∨ P1_1_ k_) ∨ w.heap.size ≤ k_) ∧ k_ ≠ gb682 ∧ k_ ≠ gb683 ∧ k_ ≠ gb684)) ?hr ?hp (fun _ hk => hk) ((show ∀ k_, w64.heap.size ≤ k_ → (fun k_ => ((P0_1_ k_ ∨ P1_1_ k_) ∨ w.heap.size ≤ k_) ∧ k_ ≠ gb682 ∧ k_ ≠ gb683 ∧ k_ ≠ gb684) k_ from fun k_ hk => ⟨(.inr (Nat.le_trans (below_size uB) hk)), Kd.freshB (g := gb682) (o := .cells #[.bool a0_0, .slice A0_1 l0_1.length c0_1] 52 (0, 0)) (uK BK682.out) k_ hk, Kd.freshB (g := gb683) (o := .cells #[.bool a1_0, .slice A1_1 l1_1.length c1_1] 52 (0, 0)) (uK BK683.out) k_ hk, Kd.freshB (g := gb684) (o := .cells #[.bool false, .slice none 0 0] 52 (0, 0)) (uK BK684.out) k_ hk⟩) _ (Nat.le_refl _)) (Below.refl _ _) (Nat.le_refl _) (by simp) ?_; (case hd => rfl); (case hg => rfl); (case hr => first | (go_simp; done) | (go_simp; rfl) | (go_simp; simp only [u64_u8]; done) | (go_simp; simp only [u64_u8]; rfl)); (case hp => exact (Reps.c2 (show Kd.FK k52 _ _ (⟨a0_0, l0_1⟩ : S52) [.bool a0_0, .slice A0_1 l0_1.length c0_1] from (k52_mkF _ _ (⟨a0_0, l0_1⟩ : S52) (Kd.V_reads' (Kd.V_mono (ok' := (fun k_ => ((P0_1_ k_ ∨ P1_1_ k_) ∨ w.heap.size ≤ k_) ∧ k_ ≠ gb682 ∧ k_ ≠ gb683 ∧ k_ ≠ gb684)) (HO0_1.out) (fun k_ hk => ⟨hk.1.1.1, ⟨hk.1.1.2, ⟨hk.1.2, hk.2⟩⟩⟩))).2.1 (Kd.V_F (Kd.V_mono (ok' := (fun k_ => ((P0_1_ k_ ∨ P1_1_ k_) ∨ w.heap.size ≤ k_) ∧ k_ ≠ gb682 ∧ k_ ≠ gb683 ∧ k_ ≠ gb684)) (HO0_1.out) (fun k_ hk => ⟨hk.1.1.1, ⟨hk.1.1.2, ⟨hk.1.2, hk.2⟩⟩⟩))))) (Reps.c2 (show Kd.FK k52 _ _ (⟨a1_0, l1_1⟩ : S52) [.bool a1_0, .slice A1_1 l1_1.length c1_1] from (k52_mkF _ _ (⟨a1_0, l1_1⟩ : S52) (Kd.V_reads' (Kd.V_mono (ok' := (fun k_ => ((P0_1_ k_ ∨ P1_1_ k_) ∨ w.heap.size ≤ k_) ∧ k_ ≠ gb682 ∧ k_ ≠ gb683 ∧ k_ ≠ gb684)) (HO1_1.out) (fun k_ hk => ⟨hk.1.1.1, ⟨hk.1.1.2, ⟨hk.1.2, hk.2⟩⟩⟩))).2.1 (Kd.V_F (Kd.V_mono (ok' := (fun k_ => ((P0_1_ k_ ∨ P1_1_ k_) ∨ w.heap.size ≤ k_) ∧ k_ ≠ gb682 ∧ k_ ≠ gb683 ∧ k_ ≠ gb684)) (HO1_1.out) (fun k_ hk => ⟨hk.1.1.1, ⟨hk.1.1.2, ⟨hk.1.2, hk.2⟩⟩⟩))))) (Reps.none _ _)))); intro v686 w70 ho71 hb hg_ hnew_; clear hg_ hnew_; (first | rw [← Ny685.out] at ho71 | (simp only [Int.reduceToNat] at ho71; rw [← Ny685.out] at ho71)); have n0_ := Aside0.mk (Kd.V_elder' (uV HO0_1.out) (Kd.N_base ho71) hb); have n1_ := Aside0.mk (Kd.V_elder' (uV HO1_1.out) (Kd.N_base ho71) hb); have n2_ := Aside0.mk (Kd.N_lower ho71 (below_size uB)); have n3_ := Aside0.mk (blk_below (uK BK682.out) hb); have n4_ := Aside0.mk (blk_below (uK BK683.out) hb); have n5_ := Aside0.mk (blk_below (uK BK684.out) hb); have n6_ := Aside0.mk (below_step uB hb); clear HO0_1; clear HO1_1; clear BK682; clear BK683; clear BK684; clear HB; have HO0_1 := n0_; have HO1_1 := n1_; have HO687 := n2_; have BK682 := n3_; have BK683 := n4_; have BK684 := n5_; have HB := n6_; clear n0_ n1_ n2_ n3_ n4_ n5_ n6_; clear hb ho71; obtain ⟨Ao72, co72, eo72⟩ := Kd.N_slice HO687.out; subst eo72) | ((with_reducible refine gate_callee (f := 100) rfl ?_); refine goesL_ (some 13) rfl rfl Try.func100 (by kernel_rfl) rfl #[.slice Ao72 y685.length co72] rfl uM ?_; (with_reducible refine (modint_right.calls _ _ y685 true _ ?side1 ?side2 A3.out).mono ?_); (case side1 => exact uC (Kd.N_reads' HO687.out).2.2); (case side2 => exact (Kd.N_reads' HO687.out).2.1); rintro e w73 ⟨rfl, hb⟩; refine ⟨_, rfl, ?_⟩; have n0_ := Aside0.mk (Kd.V_below (uV HO0_1.out) hb); have n1_ := Aside0.mk (Kd.V_below (uV HO1_1.out) hb); have n2_ := Aside0.mk (Kd.N_below (uN HO687.out) hb); have n3_ := Aside0.mk (blk_below (uK BK682.out) hb); have n4_ := Aside0.mk (blk_below (uK BK683.out) hb); have n5_ := Aside0.mk (blk_below (uK BK684.out) hb); have n6_ := Aside0.mk (below_step uB hb); clear HO0_1; clear HO1_1; clear HO687; clear BK682; clear BK683; clear BK684; clear HB; have HO0_1 := n0_; have HO1_1 := n1_; have HO687 := n2_; have BK682 := n3_; have BK683 := n4_; have BK684 := n5_; have HB := n6_; clear n0_ n1_ n2_ n3_ n4_ n5_ n6_; (try clear hb); (try clear hb2); (try clear hk); (try clear hi); have hcz74_0 : w73.cell? ⟨gb682, 0, none⟩ = some (.bool a0_0) := (blk_cell BK682.out 0).trans rfl; have hcz74_1 : w73.cell? ⟨gb682, 1, none⟩ = some (.slice A0_1 l0_1.length c0_1) := (blk_cell BK682.out 1).trans rfl; have hfz74_0 := blk_frozen BK682.out 0; have hfz74_1 := blk_frozen BK682.out 1; have hcz75_0 : w73.cell? ⟨gb683, 0, none⟩ = some (.bool a1_0) := (blk_cell BK683.out 0).trans rfl; have hcz75_1 : w73.cell? ⟨gb683, 1, none⟩ = some (.slice A1_1 l1_1.length c1_1) := (blk_cell BK683.out 1).trans rfl; have hfz75_0 := blk_frozen BK683.out 0; have hfz75_1 := blk_frozen BK683.out 1) | ((with_reducible refine gate_callee (f := 82) rfl ?_); refine goesL_ (some 38) rfl rfl Try.func82 (by kernel_rfl) rfl #[.slice A0_1 l0_1.length c0_1, .slice A1_1 l1_1.length c1_1] rfl uM ?_; (with_reducible refine (nat_Cmp.calls k (fun k_ => ((((((P0_1_ k_ ∨ P1_1_ k_) ∨ w.heap.size ≤ k_) ∧ k_ ≠ gb682) ∧ k_ ≠ gb683) ∧ k_ ≠ gb684) ∧ some k_ ≠ (.slice Ao72 y685.length co72 : Value).ownBlock)) _ _ l0_1 (fun k_ => ((((((P0_1_ k_ ∨ P1_1_ k_) ∨ w.heap.size ≤ k_) ∧ k_ ≠ gb682) ∧ k_ ≠ gb683) ∧ k_ ≠ gb684) ∧ some k_ ≠ (.slice Ao72 y685.length co72 : Value).ownBlock)) _ _ l1_1 t697 _ ?side1 ?side2 A28.out).mono ?_); (case side1 => exact HO0_1.out); (case side2 => exact HO1_1.out); rintro e w76 ⟨rfl, hb⟩; refine ⟨_, rfl, ?_⟩; have n0_ := Aside0.mk (Kd.V_below (uV HO0_1.out) hb); have n1_ := Aside0.mk (Kd.V_below (uV HO1_1.out) hb); have n2_ := Aside0.mk (Kd.N_below (uN HO687.out) hb); have n3_ := Aside0.mk (blk_below (uK BK682.out) hb); have n4_ := Aside0.mk (blk_below (uK BK683.out) hb); have n5_ := Aside0.mk (blk_below (uK BK684.out) hb); have n6_ := Aside0.mk (below_step uB hb); clear HO0_1; clear HO1_1; clear HO687; clear BK682; clear BK683; clear BK684; clear HB; have HO0_1 := n0_; have HO1_1 := n1_; have HO687 := n2_; have BK682 := n3_; have BK683 := n4_; have BK684 := n5_; have HB := n6_; clear n0_ n1_ n2_ n3_ n4_ n5_ n6_; (try clear hb); (try clear hb2); (try clear hk); (try clear hi); have hcz77_0 : w76.cell? ⟨gb682, 0, none⟩ = some (.bool a0_0) := (blk_cell BK682.out 0).trans rfl; have hcz77_1 : w76.cell? ⟨gb682, 1, none⟩ = some (.slice A0_1 l0_1.length c0_1) := (blk_cell BK682.out 1).trans rfl; have hfz77_0 := blk_frozen BK682.out 0; have hfz77_1 := blk_frozen BK682.out 1; have hcz78_0 : w76.cell? ⟨gb683, 0, none⟩ = some (.bool a1_0) := (blk_cell BK683.out 0).trans rfl; have hcz78_1 : w76.cell? ⟨gb683, 1, none⟩ = some (.slice A1_1 l1_1.length c1_1) := (blk_cell BK683.out 1).trans rfl; have hfz78_0 := blk_frozen BK683.out 0; have hfz78_1 := blk_frozen BK683.out 1) | ((with_reducible refine gate_callee (f := 80) rfl ?_); refine goesL_ (some 47) rfl rfl Try.func80 (by kernel_rfl) rfl #[.slice A0_1 l0_1.length c0_1, .slice A1_1 l1_1.length c1_1] rfl uM ?_; (with_reducible refine (nat_Sub.calls k (fun k_ => ((((((P0_1_ k_ ∨ P1_1_ k_) ∨ w.heap.size ≤ k_) ∧ k_ ≠ gb682) ∧ k_ ≠ gb683) ∧ k_ ≠ gb684) ∧ some k_ ≠ (.slice Ao72 y685.length co72 : Value).ownBlock)) _ _ l0_1 (fun k_ => ((((((P0_1_ k_ ∨ P1_1_ k_) ∨ w.heap.size ≤ k_) ∧ k_ ≠ gb682) ∧ k_ ≠ gb683) ∧ k_ ≠ gb684) ∧ some k_ ≠ (.slice Ao72 y685.length co72 : Value).ownBlock)) _ _ l1_1 t706 t709 _ ?side1 ?side2 A60.out).mono ?_); (case side1 => exact HO0_1.out); (case side2 => exact HO1_1.out); rintro e w79 ⟨v707, rfl, ho0, hb⟩; refine ⟨_, rfl, ?_⟩; have n0_ := Aside0.mk (Kd.V_elder' (uV HO0_1.out) (Kd.R_base ho0) hb); have n1_ := Aside0.mk (Kd.V_elder' (uV HO1_1.out) (Kd.R_base ho0) hb); have n2_ := Aside0.mk (Kd.N_elder' (uN HO687.out) (Kd.R_base ho0) hb); have n3_ := Aside0.mk (Kd.R_lower (Kd.R_newM (M := fun k_ => (w.heap.size ≤ k_)) (Kd.R_mono (ok' := fun k_ => True) ho0 (fun _ hk_ => trivial)) (below_size uB) (fun k_ h_ => h_)) (below_size uB)); have n4_ := Aside0.mk (blk_below (uK BK682.out) hb); have n5_ := Aside0.mk (blk_below (uK BK683.out) hb); have n6_ := Aside0.mk (blk_below (uK BK684.out) hb); have n7_ := Aside0.mk (below_step uB hb); clear HO0_1; clear HO1_1; clear HO687; clear BK682; clear BK683; clear BK684; clear HB; have HO0_1 := n0_; have HO1_1 := n1_; have HO687 := n2_; have HO708 := n3_; have BK682 := n4_; have BK683 := n5_; have BK684 := n6_; have HB := n7_; clear n0_ n1_ n2_ n3_ n4_ n5_ n6_ n7_; (try clear hb); (try clear hb2); (try clear hk); (try clear hi); (try clear ho0); have hcz80_0 : w79.cell? ⟨gb682, 0, none⟩ = some (.bool a0_0) := (blk_cell BK682.out 0).trans rfl; have hcz80_1 : w79.cell? ⟨gb682, 1, none⟩ = some (.slice A0_1 l0_1.length c0_1) := (blk_cell BK682.out 1).trans rfl; have hfz80_0 := blk_frozen BK682.out 0; have hfz80_1 := blk_frozen BK682.out 1; obtain ⟨Ao81, co81, eo81⟩ := Kd.R_slice HO708.out; subst eo81) | ((with_reducible refine gate_callee (f := 83) rfl ?_); refine goesL_ (some 53) rfl rfl Try.func83 (by kernel_rfl) rfl #[.bool a0_0, .slice Ao81 t706.length co81] rfl uM ?_; (with_reducible refine (modint_From.calls a0_0 _ _ t706 t710 t711 _ ?side1 ?side2 A61.out).mono ?_); (case side1 => exact uC (Kd.R_reads' HO708.out).2.2); (case side2 => exact (Kd.R_reads' HO708.out).2.1); rintro e w82 ⟨v712, rfl, ho0, hb⟩; refine ⟨_, rfl, ?_⟩; have n0_ := Aside0.mk (Kd.V_elder' (uV HO0_1.out) (Kd.R_base ho0) hb); have n1_ := Aside0.mk (Kd.V_elder' (uV HO1_1.out) (Kd.R_base ho0) hb); have n2_ := Aside0.mk (Kd.N_elder' (uN HO687.out) (Kd.R_base ho0) hb); have n3_ := Aside0.mk (Kd.R_elder' (uR HO708.out) (Kd.R_base ho0) hb); have n4_ := Aside0.mk (Kd.R_lower (Kd.R_new' (Kd.R_newM (M := fun k_ => (w.heap.size ≤ k_)) ho0 (below_size uB) (fun k_ h_ => h_)) (Kd.R_lt (uR HO708.out))) (below_size uB)); have n5_ := Aside0.mk (blk_below (uK BK682.out) hb); have n6_ := Aside0.mk (blk_below (uK BK683.out) hb); have n7_ := Aside0.mk (blk_below (uK BK684.out) hb); have n8_ := Aside0.mk (below_step uB hb); clear HO0_1; clear HO1_1; clear HO687; clear HO708; clear BK682; clear BK683; clear BK684; clear HB; have HO0_1 := n0_; have HO1_1 := n1_; have HO687 := n2_; have HO708 := n3_; have HO713 := n4_; have BK682 := n5_; have BK683 := n6_; have BK684 := n7_; have HB := n8_; clear n0_ n1_ n2_ n3_ n4_ n5_ n6_ n7_ n8_; (try clear hb); (try clear hb2); (try clear hk); (try clear hi); (try clear ho0); have hcz83_0 : w82.cell? ⟨gb684, 0, none⟩ = some (.bool false) := (blk_cell BK684.out 0).trans rfl; have hcz83_1 : w82.cell? ⟨gb684, 1, none⟩ = some (.slice none 0 0) := (blk_cell BK684.out 1).trans rfl; have hfz83_0 := blk_frozen BK684.out 0; have hfz83_1 := blk_frozen BK684.out 1; obtain ⟨Ao84, co84, eo84⟩ := Kd.R_slice HO713.out; subst eo84))
    refine bodyPost_ret (results_ct rfl _ _ gb684 52 #[.bool t710, .slice Ao84 t711.length co84] (0, 0) _ rfl (by (with_reducible repeat (first | refine blk_drewN ?_ _ | refine blk_drew ?_ | refine blk_alloc ?_ _)); refine blk_put (cs := #[.bool t710, .slice none 0 0]) ?_ 1 _ rfl; (with_reducible repeat (first | refine blk_drewN ?_ _ | refine blk_drew ?_ | refine blk_alloc ?_ _)); refine blk_put (cs := #[.bool false, .slice none 0 0]) ?_ 0 _ rfl; (with_reducible repeat (first | refine blk_drewN ?_ _ | refine blk_drew ?_ | refine blk_alloc ?_ _)); exact BK684.out) Try.underlying52 rfl (by kernel_rfl)) rfl ?_
    exact ⟨_, by first | rfl | (simp [errW_none, errW_some] <;> rfl) | (simp [*, errW_none, errW_some] <;> rfl), by (with_reducible repeat (first | apply Kd.R_alloc | apply Kd.R_drewN | apply Kd.R_drew)); exact Kd.R_mono (Kd.R_far (p := ⟨gb684, 1, none⟩) (Kd.R_far (p := ⟨gb684, 0, none⟩) (Kd.R_types HO713.out BK684.out (by decide)) (fun _ hk => hk.2) (.bool t710)) (fun _ hk => hk.2) (.slice Ao84 t711.length co84)) (fun _ hk => hk.1.1.1), uB⟩
 ·
  replace c4 := Bool.eq_false_iff.mpr c4
  subst c4
  have H1 : (some (false, ([] : List Int), 1)) = some (r1, r2, r3) := by rw [if_neg (show ¬ (false = true) by decide)] at H; exact H
  clear H; have H := H1; clear H1
  simp only [Option.some.injEq, Prod.mk.injEq] at H
  obtain ⟨rfl, rfl, rfl⟩ := H
  go_enter Try.func56, Try.ntmps56
  go_wp2_with (first | ((with_reducible refine gate_dst (N := 2) rfl ?_); refine box_event ?hg (N := 2) ?hd (cs := #[.bool a0_0, .slice A0_1 l0_1.length c0_1]) (t := 52) ?hr ?_; (case hd => rfl); (case hg => rfl); (case hr => first | (go_simp; done) | (go_simp; rfl)); intro gb682 hg w85 hbox hb; have n0_ := Aside0.mk (Kd.V_below (Kd.V_elderB (uV HO0_1.out) gb682 (Nat.le_of_eq hg.symm)) hb); have n1_ := Aside0.mk (Kd.V_below (Kd.V_elderB (uV HO1_1.out) gb682 (Nat.le_of_eq hg.symm)) hb); have n2_ := Aside0.mk (below_step uB hb); have n3_ := Aside0.mk (hbox); have n4_ := Aside0.mk ((by rw [hg]; exact (below_size uB) : w.heap.size ≤ gb682)); have n5_ := Aside0.mk ((by rw [hg]; exact (below_size uB) : w.heap.size ≤ gb682)); clear HO0_1; clear HO1_1; clear HB; have HO0_1 := n0_; have HO1_1 := n1_; have HB := n2_; have BK682 := n3_; have GW682 := n4_; have GE682 := n5_; clear n0_ n1_ n2_ n3_ n4_ n5_; clear hb hbox hg) | ((with_reducible refine gate_dst (N := 3) rfl ?_); refine box_event ?hg (N := 3) ?hd (cs := #[.bool a1_0, .slice A1_1 l1_1.length c1_1]) (t := 52) ?hr ?_; (case hd => rfl); (case hg => rfl); (case hr => first | (go_simp; done) | (go_simp; rfl)); intro gb683 hg w86 hbox hb; have n0_ := Aside0.mk (Kd.V_below (Kd.V_elderB (uV HO0_1.out) gb683 (Nat.le_of_eq hg.symm)) hb); have n1_ := Aside0.mk (Kd.V_below (Kd.V_elderB (uV HO1_1.out) gb683 (Nat.le_of_eq hg.symm)) hb); have n2_ := Aside0.mk (blk_below (uK BK682.out) hb); have n3_ := Aside0.mk (below_step uB hb); have n4_ := Aside0.mk (hbox); have n5_ := Aside0.mk ((by rw [hg]; exact (below_size uB) : w.heap.size ≤ gb683)); have n6_ := Aside0.mk ((by rw [hg]; exact (below_size uB) : w.heap.size ≤ gb683)); have n7_ := Aside0.mk ((by rw [hg]; exact Nat.ne_of_lt (blk_lt (uK BK682.out)) : gb682 ≠ gb683)); have n8_ := Aside0.mk ((by rw [hg]; exact Nat.ne_of_gt (blk_lt (uK BK682.out)) : gb683 ≠ gb682)); clear HO0_1; clear HO1_1; clear BK682; clear HB; have HO0_1 := n0_; have HO1_1 := n1_; have BK682 := n2_; have HB := n3_; have BK683 := n4_; have GW683 := n5_; have GE683 := n6_; have NB682_683 := n7_; have NB683_682 := n8_; clear n0_ n1_ n2_ n3_ n4_ n5_ n6_ n7_ n8_; clear hb hbox hg) | ((with_reducible refine gate_dst (N := 4) rfl ?_); refine box_event ?hg (N := 4) ?hd (cs := #[.bool false, .slice none 0 0]) (t := 52) ?hr ?_; (case hd => rfl); (case hg => rfl); (case hr => first | (go_simp; done) | (go_simp; rfl)); intro gb684 hg w87 hbox hb; have n0_ := Aside0.mk (Kd.V_below (Kd.V_elderB (uV HO0_1.out) gb684 (Nat.le_of_eq hg.symm)) hb); have n1_ := Aside0.mk (Kd.V_below (Kd.V_elderB (uV HO1_1.out) gb684 (Nat.le_of_eq hg.symm)) hb); have n2_ := Aside0.mk (blk_below (uK BK682.out) hb); have n3_ := Aside0.mk (blk_below (uK BK683.out) hb); have n4_ := Aside0.mk (below_step uB hb); have n5_ := Aside0.mk (hbox); have n6_ := Aside0.mk ((by rw [hg]; exact (below_size uB) : w.heap.size ≤ gb684)); have n7_ := Aside0.mk ((by rw [hg]; exact (below_size uB) : w.heap.size ≤ gb684)); have n8_ := Aside0.mk ((by rw [hg]; exact Nat.ne_of_lt (blk_lt (uK BK682.out)) : gb682 ≠ gb684)); have n9_ := Aside0.mk ((by rw [hg]; exact Nat.ne_of_gt (blk_lt (uK BK682.out)) : gb684 ≠ gb682)); have n10_ := Aside0.mk ((by rw [hg]; exact Nat.ne_of_lt (blk_lt (uK BK683.out)) : gb683 ≠ gb684)); have n11_ := Aside0.mk ((by rw [hg]; exact Nat.ne_of_gt (blk_lt (uK BK683.out)) : gb684 ≠ gb683)); clear HO0_1; clear HO1_1; clear BK682; clear BK683; clear HB; have HO0_1 := n0_; have HO1_1 := n1_; have BK682 := n2_; have BK683 := n3_; have HB := n4_; have BK684 := n5_; have GW684 := n6_; have GE684 := n7_; have NB682_684 := n8_; have NB684_682 := n9_; have NB683_684 := n10_; have NB684_683 := n11_; clear n0_ n1_ n2_ n3_ n4_ n5_ n6_ n7_ n8_ n9_ n10_ n11_; clear hb hbox hg; have hnb88 := NB682_683.out; have hnc88 := NB683_682.out; have hnb89 := NB682_684.out; have hnc89 := NB684_682.out; have hcz90_0 : w87.cell? ⟨gb682, 0, none⟩ = some (.bool a0_0) := (blk_cell BK682.out 0).trans rfl; have hcz90_1 : w87.cell? ⟨gb682, 1, none⟩ = some (.slice A0_1 l0_1.length c0_1) := (blk_cell BK682.out 1).trans rfl; have hfz90_0 := blk_frozen BK682.out 0; have hfz90_1 := blk_frozen BK682.out 1; have hnb91 := NB683_684.out; have hnc91 := NB684_683.out; have hcz92_0 : w87.cell? ⟨gb683, 0, none⟩ = some (.bool a1_0) := (blk_cell BK683.out 0).trans rfl; have hcz92_1 : w87.cell? ⟨gb683, 1, none⟩ = some (.slice A1_1 l1_1.length c1_1) := (blk_cell BK683.out 1).trans rfl; have hfz92_0 := blk_frozen BK683.out 0; have hfz92_1 := blk_frozen BK683.out 1) | ((with_reducible refine gate_dst (N := 12) rfl ?_); refine Kd.N_lit k52 _ 52 ?hg (N' := 12) ?hd (xs := ([(⟨a0_0, l0_1⟩ : S52), (⟨a1_0, l1_1⟩ : S52)] : List (S52))) (inner := [.bool a0_0, .slice A0_1 l0_1.length c0_1, .bool a1_0, .slice A1_1 l1_1.length c1_1]) (ok := (fun k_ => ((P0_1_ k_ ∨ P1_1_ k_) ∨ w.heap.size ≤ k_) ∧ k_ ≠ gb682 ∧ k_ ≠ gb683 ∧ k_ ≠ gb684)) (okp := (fun k_ => ((P0_1_ k_ ∨ P1_1_ k_) ∨ w.heap.size ≤ k_) ∧ k_ ≠ gb682 ∧ k_ ≠ gb683 ∧ k_ ≠ gb684)) ?hr ?hp (fun _ hk => hk) ((show ∀ k_, w87.heap.size ≤ k_ → (fun k_ => ((P0_1_ k_ ∨ P1_1_ k_) ∨ w.heap.size ≤ k_) ∧ k_ ≠ gb682 ∧ k_ ≠ gb683 ∧ k_ ≠ gb684) k_ from fun k_ hk => ⟨(.inr (Nat.le_trans (below_size uB) hk)), Kd.freshB (g := gb682) (o := .cells #[.bool a0_0, .slice A0_1 l0_1.length c0_1] 52 (0, 0)) (uK BK682.out) k_ hk, Kd.freshB (g := gb683) (o := .cells #[.bool a1_0, .slice A1_1 l1_1.length c1_1] 52 (0, 0)) (uK BK683.out) k_ hk, Kd.freshB (g := gb684) (o := .cells #[.bool false, .slice none 0 0] 52 (0, 0)) (uK BK684.out) k_ hk⟩) _ (Nat.le_refl _)) (Below.refl _ _) (Nat.le_refl _) (by simp) ?_; (case hd => rfl); (case hg => rfl); (case hr => first | (go_simp; done) | (go_simp; rfl) | (go_simp; simp only [u64_u8]; done) | (go_simp; simp only [u64_u8]; rfl)); (case hp => exact (Reps.c2 (show Kd.FK k52 _ _ (⟨a0_0, l0_1⟩ : S52) [.bool a0_0, .slice A0_1 l0_1.length c0_1] from (k52_mkF _ _ (⟨a0_0, l0_1⟩ : S52) (Kd.V_reads' (Kd.V_mono (ok' := (fun k_ => ((P0_1_ k_ ∨ P1_1_ k_) ∨ w.heap.size ≤ k_) ∧ k_ ≠ gb682 ∧ k_ ≠ gb683 ∧ k_ ≠ gb684)) (HO0_1.out) (fun k_ hk => ⟨hk.1.1.1, ⟨hk.1.1.2, ⟨hk.1.2, hk.2⟩⟩⟩))).2.1 (Kd.V_F (Kd.V_mono (ok' := (fun k_ => ((P0_1_ k_ ∨ P1_1_ k_) ∨ w.heap.size ≤ k_) ∧ k_ ≠ gb682 ∧ k_ ≠ gb683 ∧ k_ ≠ gb684)) (HO0_1.out) (fun k_ hk => ⟨hk.1.1.1, ⟨hk.1.1.2, ⟨hk.1.2, hk.2⟩⟩⟩))))) (Reps.c2 (show Kd.FK k52 _ _ (⟨a1_0, l1_1⟩ : S52) [.bool a1_0, .slice A1_1 l1_1.length c1_1] from (k52_mkF _ _ (⟨a1_0, l1_1⟩ : S52) (Kd.V_reads' (Kd.V_mono (ok' := (fun k_ => ((P0_1_ k_ ∨ P1_1_ k_) ∨ w.heap.size ≤ k_) ∧ k_ ≠ gb682 ∧ k_ ≠ gb683 ∧ k_ ≠ gb684)) (HO1_1.out) (fun k_ hk => ⟨hk.1.1.1, ⟨hk.1.1.2, ⟨hk.1.2, hk.2⟩⟩⟩))).2.1 (Kd.V_F (Kd.V_mono (ok' := (fun k_ => ((P0_1_ k_ ∨ P1_1_ k_) ∨ w.heap.size ≤ k_) ∧ k_ ≠ gb682 ∧ k_ ≠ gb683 ∧ k_ ≠ gb684)) (HO1_1.out) (fun k_ hk => ⟨hk.1.1.1, ⟨hk.1.1.2, ⟨hk.1.2, hk.2⟩⟩⟩))))) (Reps.none _ _)))); intro v686 w93 ho94 hb hg_ hnew_; clear hg_ hnew_; (first | rw [← Ny685.out] at ho94 | (simp only [Int.reduceToNat] at ho94; rw [← Ny685.out] at ho94)); have n0_ := Aside0.mk (Kd.V_elder' (uV HO0_1.out) (Kd.N_base ho94) hb); have n1_ := Aside0.mk (Kd.V_elder' (uV HO1_1.out) (Kd.N_base ho94) hb); have n2_ := Aside0.mk (Kd.N_lower ho94 (below_size uB)); have n3_ := Aside0.mk (blk_below (uK BK682.out) hb); have n4_ := Aside0.mk (blk_below (uK BK683.out) hb); have n5_ := Aside0.mk (blk_below (uK BK684.out) hb); have n6_ := Aside0.mk (below_step uB hb); clear HO0_1; clear HO1_1; clear BK682; clear BK683; clear BK684; clear HB; have HO0_1 := n0_; have HO1_1 := n1_; have HO687 := n2_; have BK682 := n3_; have BK683 := n4_; have BK684 := n5_; have HB := n6_; clear n0_ n1_ n2_ n3_ n4_ n5_ n6_; clear hb ho94; obtain ⟨Ao95, co95, eo95⟩ := Kd.N_slice HO687.out; subst eo95) | ((with_reducible refine gate_callee (f := 100) rfl ?_); refine goesL_ (some 13) rfl rfl Try.func100 (by kernel_rfl) rfl #[.slice Ao95 y685.length co95] rfl uM ?_; (with_reducible refine (modint_right.calls _ _ y685 false _ ?side1 ?side2 A3.out).mono ?_); (case side1 => exact uC (Kd.N_reads' HO687.out).2.2); (case side2 => exact (Kd.N_reads' HO687.out).2.1); rintro e w96 ⟨rfl, hb⟩; refine ⟨_, rfl, ?_⟩; have n0_ := Aside0.mk (Kd.V_below (uV HO0_1.out) hb); have n1_ := Aside0.mk (Kd.V_below (uV HO1_1.out) hb); have n2_ := Aside0.mk (Kd.N_below (uN HO687.out) hb); have n3_ := Aside0.mk (blk_below (uK BK682.out) hb); have n4_ := Aside0.mk (blk_below (uK BK683.out) hb); have n5_ := Aside0.mk (blk_below (uK BK684.out) hb); have n6_ := Aside0.mk (below_step uB hb); clear HO0_1; clear HO1_1; clear HO687; clear BK682; clear BK683; clear BK684; clear HB; have HO0_1 := n0_; have HO1_1 := n1_; have HO687 := n2_; have BK682 := n3_; have BK683 := n4_; have BK684 := n5_; have HB := n6_; clear n0_ n1_ n2_ n3_ n4_ n5_ n6_; (try clear hb); (try clear hb2); (try clear hk); (try clear hi); have hcz97_0 : w96.cell? ⟨gb684, 0, none⟩ = some (.bool false) := (blk_cell BK684.out 0).trans rfl; have hcz97_1 : w96.cell? ⟨gb684, 1, none⟩ = some (.slice none 0 0) := (blk_cell BK684.out 1).trans rfl; have hfz97_0 := blk_frozen BK684.out 0; have hfz97_1 := blk_frozen BK684.out 1))
  refine bodyPost_ret (results_ct rfl _ _ gb684 52 #[.bool false, .slice none 0 0] (0, 0) _ rfl (by (with_reducible repeat (first | refine blk_drewN ?_ _ | refine blk_drew ?_ | refine blk_alloc ?_ _)); refine blk_put (cs := #[.bool false, .slice none 0 0]) ?_ 1 _ rfl; (with_reducible repeat (first | refine blk_drewN ?_ _ | refine blk_drew ?_ | refine blk_alloc ?_ _)); refine blk_put (cs := #[.bool false, .slice none 0 0]) ?_ 0 _ rfl; (with_reducible repeat (first | refine blk_drewN ?_ _ | refine blk_drew ?_ | refine blk_alloc ?_ _)); exact BK684.out) Try.underlying52 rfl (by kernel_rfl)) rfl ?_
  exact ⟨_, by first | rfl | (simp [errW_none, errW_some] <;> rfl) | (simp [*, errW_none, errW_some] <;> rfl), by first | exact Kd.R_nil _ _ _ _ _ | exact Kd.N_nil _ _ _ _ _ | exact Kd.V_nil _ _ _ _ _ | exact Kd.Q_nil _ _ _ _ _ | exact Kd.S_nil _ _ _ _ _, uB⟩

end Go.Proofs.Ytgeanpnkllnipab.F
end

section
namespace Go.Proofs.Ytgeanpnkllnipab.F
open Go.RowKit Go.Proofs.YtgeanpnkllnipabW.PrintWords Go.Proofs.YtgeanpnkllnipabW.PrintLast Go.Proofs.YtgeanpnkllnipabW.PrintMore
attribute [local go_sem] max2_int min2_int max_two min_two max_three min_three max_four min_four
set_option linter.unusedVariables false
set_option linter.unusedSimpArgs false

def nat_up.l0 : Nat → Int → List Int → List Int → Int → Int → Option (List Int)
 | 0, _, _, _, _, _ => none
 | k + 1, x1, x5, x12, x13, x14 => if x14 < x13 then (if 0 ≤ x14 then (if x14 < (x12.length : Int) then (if x14 < (x5.length : Int) then (if 0 ≤ x1 then ((some (x5.set (x14 : Int).toNat (Go.bits .or .u64 (rd x5 x14) (shl .u64 (rd x12 x14) x1)) : List Int)).bind fun y150 => (if x1 > 0 then (if 0 ≤ (IntKind.u64.wrap (64 - x1)) then (if 0 ≤ (wrap64 (x14 + 1)) then (if (wrap64 (x14 + 1)) < (x5.length : Int) then (nat_up.l0 k x1 (y150.set ((wrap64 (x14 + 1)) : Int).toNat (shr .u64 (rd x12 x14) (IntKind.u64.wrap (64 - x1)))) x12 x13 (wrap64 (x14 + 1))) else (none)) else (none)) else (none)) else (nat_up.l0 k x1 y150 x12 x13 (wrap64 (x14 + 1))))) else (none)) else (none)) else (none)) else (none)) else (some x5)
def nat_up.f (k : Nat) (l0 : List Int) (a1 : Int) : Option (List Int) := if 0 ≤ (wrap64 ((l0.length : Int) + 1)) then (if (wrap64 ((l0.length : Int) + 1) : Int).toNat ≤ 35184372088832 then (nat_up.l0 k a1 (List.replicate (wrap64 ((l0.length : Int) + 1) : Int).toNat 0) l0 (l0.length : Int) 0) else (none)) else (none)
set_option maxHeartbeats 8000000 in
set_option maxRecDepth 100000 in
theorem nat_up.calls (k : Nat) (A0 : Option Addr) (c0 : Nat) (l0 : List Int) (a1 : Int) (r : List Int) (w : World) (hr0 : Kd.C (Kd.int .u64) w A0 l0.length l0) (hc0 : l0.length ≤ c0) (h : nat_up.f k l0 a1 = some r) :
  Calls Try.prog 124 #[.slice A0 l0.length c0, .int .u64 a1] w fun e w' => ∃ v0_ : Value, e = .returned (v0_) ∧ Kd.R (Kd.int .u64) 27 w' w.heap.size (fun _ => True) v0_ r ∧ Below w.heap.size w w' := by
 have HR0 := Aside0.mk hr0; have HC0 := Aside0.mk hc0; clear hr0 hc0
 have HB := Aside0.mk (Below.refl w.heap.size w)
 have H : (if 0 ≤ (wrap64 ((l0.length : Int) + 1)) then (if (wrap64 ((l0.length : Int) + 1) : Int).toNat ≤ 35184372088832 then (nat_up.l0 k a1 (List.replicate (wrap64 ((l0.length : Int) + 1) : Int).toNat 0) l0 (l0.length : Int) 0) else (none)) else (none)) = some r := h
 clear h
 obtain ⟨ji3, hji3⟩ : ∃ j_ : Int, (wrap64 ((l0.length : Int) + 1)) = j_ := ⟨_, rfl⟩
 replace H : (if 0 ≤ (ji3) then (if (ji3 : Int).toNat ≤ 35184372088832 then (nat_up.l0 k a1 (List.replicate (ji3 : Int).toNat 0) l0 (l0.length : Int) 0) else (none)) else (none)) = some r := by first | (rw [hji3] at H; exact H) | (simp only [hji3] at H ⊢; exact H)
 have hji3w : (IntKind.i64.wrap ((l0.length : Int) + 1)) = ji3 := (i64_w _).trans hji3
 by_cases c4 : 0 ≤ (ji3)
 ·
  rw [if_pos c4] at H
  have c4b0 := eq_true c4
  have c4b1 : decide (0 ≤ (ji3)) = true := decide_eq_true c4
  clear c4
  by_cases c5 : (ji3 : Int).toNat ≤ 35184372088832
  ·
   rw [if_pos c5] at H
   have c5b0 := eq_true c5
   have c5b1 : decide ((ji3 : Int).toNat ≤ 35184372088832) = true := decide_eq_true c5
   clear c5
   obtain ⟨y145, hy145⟩ : ∃ y_ : List Int, y_ = (List.replicate (ji3 : Int).toNat 0) := ⟨_, rfl⟩
   replace H : (nat_up.l0 k a1 y145 l0 (l0.length : Int) 0) = some r := by first | (rw [hy145]; with_reducible exact H) | (have H2_ := (Option.bind_some _ _).symm.trans H; rw [hy145]; with_reducible exact H2_) | (have H2_ := (Option.bind_some _ _).symm.trans H; with_reducible exact H2_) | with_reducible exact H | (rw [hy145]; exact H) | exact H
   have Ny145 := Aside0.mk hy145; clear hy145
   have H' := Aside0.mk H
   clear H
   go_enter Try.func124, Try.ntmps124
   go_wp2_with (first | ((with_reducible refine gate_dst (N := 11) rfl ?_); refine Kd.R_make (Kd.int .u64) _ 27 rfl (N := 11) rfl 23 _ _ rfl ji3 rfl rfl Try.underlying23 (.int .u64 0) 8 info27 rfl (by decide) (by omega) 0 (ok := fun _ => True) (okp := fun _ => True) rfl (fun _ hk => hk) trivial (of_decide_eq_true (by first | (with_reducible assumption) | assumption)) (Nat.le_trans (Nat.mul_le_mul_right _ (of_decide_eq_true (by first | (with_reducible assumption) | assumption) : ji3.toNat ≤ 35184372088832)) (by omega)) (Below.refl _ _) (Nat.le_refl _) ?_; intro v146 w6 ho7 hb hg_ hnew_; clear hg_ hnew_; (first | rw [← Ny145.out] at ho7 | (simp only [Int.reduceToNat] at ho7; rw [← Ny145.out] at ho7)); have n0_ := Aside0.mk (Kd.R_lower ho7 (below_size uB)); have n1_ := Aside0.mk (below_step uB hb); clear HB; have HO147 := n0_; have HB := n1_; clear n0_ n1_; clear hb ho7))
   go_loopg [14] k (fun kq v14 w' => ∃ (x5_1 : List Int) (x14_1 : Int), v14 = .int .i64 x14_1 ∧ Aside0 (nat_up.l0 kq a1 x5_1 l0 (l0.length : Int) x14_1 = some r) ∧ Aside0 (kq ≤ k) ∧ Aside0 (Kd.R (Kd.int .u64) 27 w' w.heap.size (fun _ => True) v146 x5_1) ∧ Aside0 (Below w.heap.size w w'))
   case atStart => exact ⟨(y145), (0), (by first | rfl | (simp; done) | (simp [*]; done)), H', ⟨Nat.le_refl _⟩, ⟨uR HO147.out⟩, ⟨uB⟩⟩
   case round =>
    clear H'
    try clear c1
    try clear p2
    try clear c4
    try clear c4b0
    try clear c4b1
    try clear c5
    try clear c5b0
    try clear c5b1
    try clear p6
    obtain ⟨x5_1, x14_1, rfl, HA, HK1, HO_5, HB⟩ := hrel
    cases gk with
    | zero => exact absurd HA.out (by simp [nat_up.l0])
    | succ k1 =>
     have H := HA.out
     clear HA
     simp only [nat_up.l0] at H
     by_cases c8 : x14_1 < (l0.length : Int)
     ·
      rw [if_pos c8] at H
      have c8b0 : decide (x14_1 < (l0.length : Int)) = true := decide_eq_true c8
      clear c8
      by_cases c9 : 0 ≤ x14_1
      ·
       rw [if_pos c9] at H
       have c9b0 : decide (0 ≤ x14_1) = true := decide_eq_true c9
       clear c9
       by_cases c10 : x14_1 < (l0.length : Int)
       ·
        rw [if_pos c10] at H
        have c10b0 : decide (x14_1 < (l0.length : Int)) = true := decide_eq_true c10
        clear c10
        by_cases c11 : x14_1 < (x5_1.length : Int)
        ·
         rw [if_pos c11] at H
         have c11b0 : decide (x14_1 < (x5_1.length : Int)) = true := decide_eq_true c11
         clear c11
         by_cases c12 : 0 ≤ a1
         ·
          rw [if_pos c12] at H
          have c12b0 := eq_true c12
          have c12b1 : decide (0 ≤ a1) = true := decide_eq_true c12
          clear c12
          obtain ⟨ji13, hji13⟩ : ∃ j_ : Int, (shl .u64 (rd l0 x14_1) a1) = j_ := ⟨_, rfl⟩
          replace H : ((some (x5_1.set (x14_1 : Int).toNat (Go.bits .or .u64 (rd x5_1 x14_1) (ji13)) : List Int)).bind fun y150 => (if a1 > 0 then (if 0 ≤ (IntKind.u64.wrap (64 - a1)) then (if 0 ≤ (wrap64 (x14_1 + 1)) then (if (wrap64 (x14_1 + 1)) < (x5_1.length : Int) then (nat_up.l0 k1 a1 (y150.set ((wrap64 (x14_1 + 1)) : Int).toNat (shr .u64 (rd l0 x14_1) (IntKind.u64.wrap (64 - a1)))) l0 (l0.length : Int) (wrap64 (x14_1 + 1))) else (none)) else (none)) else (none)) else (nat_up.l0 k1 a1 y150 l0 (l0.length : Int) (wrap64 (x14_1 + 1))))) = some r := by first | (rw [hji13] at H; exact H) | (simp only [hji13] at H ⊢; exact H)
          have hji13_ : (IntKind.u64.wrap ((rd l0 x14_1) * 2 ^ min a1.toNat 64)) = ji13 := hji13
          have hji13z : a1 ≤ 64 → (IntKind.u64.wrap ((rd l0 x14_1) * 2 ^ a1.toNat)) = ji13 := shl_small hji13
          obtain ⟨y150, hy150⟩ : ∃ y_ : List Int, y_ = (x5_1.set (x14_1 : Int).toNat (Go.bits .or .u64 (rd x5_1 x14_1) (ji13))) := ⟨_, rfl⟩
          replace H : (if a1 > 0 then (if 0 ≤ (IntKind.u64.wrap (64 - a1)) then (if 0 ≤ (wrap64 (x14_1 + 1)) then (if (wrap64 (x14_1 + 1)) < (x5_1.length : Int) then (nat_up.l0 k1 a1 (y150.set ((wrap64 (x14_1 + 1)) : Int).toNat (shr .u64 (rd l0 x14_1) (IntKind.u64.wrap (64 - a1)))) l0 (l0.length : Int) (wrap64 (x14_1 + 1))) else (none)) else (none)) else (none)) else (nat_up.l0 k1 a1 y150 l0 (l0.length : Int) (wrap64 (x14_1 + 1)))) = some r := by first | (rw [hy150]; with_reducible exact H) | (have H2_ := (Option.bind_some _ _).symm.trans H; rw [hy150]; with_reducible exact H2_) | (have H2_ := (Option.bind_some _ _).symm.trans H; with_reducible exact H2_) | with_reducible exact H | (rw [hy150]; exact H) | exact H
          have Ny150 := Aside0.mk hy150; clear hy150
          by_cases c15 : a1 > 0
          ·
           rw [if_pos c15] at H
           have c15b0 : decide (0 < a1) = true := decide_eq_true c15
           clear c15
           obtain ⟨ji16, hji16⟩ : ∃ j_ : Int, (IntKind.u64.wrap (64 - a1)) = j_ := ⟨_, rfl⟩
           replace H : (if 0 ≤ (ji16) then (if 0 ≤ (wrap64 (x14_1 + 1)) then (if (wrap64 (x14_1 + 1)) < (x5_1.length : Int) then (nat_up.l0 k1 a1 (y150.set ((wrap64 (x14_1 + 1)) : Int).toNat (shr .u64 (rd l0 x14_1) (ji16))) l0 (l0.length : Int) (wrap64 (x14_1 + 1))) else (none)) else (none)) else (none)) = some r := by first | (rw [hji16] at H; exact H) | (simp only [hji16] at H ⊢; exact H)
           by_cases c17 : 0 ≤ (ji16)
           ·
            rw [if_pos c17] at H
            have c17b0 := eq_true c17
            have c17b1 : decide (0 ≤ (ji16)) = true := decide_eq_true c17
            clear c17
            obtain ⟨ji18, hji18⟩ : ∃ j_ : Int, (shr .u64 (rd l0 x14_1) (ji16)) = j_ := ⟨_, rfl⟩
            replace H : (if 0 ≤ (wrap64 (x14_1 + 1)) then (if (wrap64 (x14_1 + 1)) < (x5_1.length : Int) then (nat_up.l0 k1 a1 (y150.set ((wrap64 (x14_1 + 1)) : Int).toNat (ji18)) l0 (l0.length : Int) (wrap64 (x14_1 + 1))) else (none)) else (none)) = some r := by first | (rw [hji18] at H; exact H) | (simp only [hji18] at H ⊢; exact H)
            have hji18_ : ((rd l0 x14_1) / 2 ^ min (ji16).toNat 64) = ji18 := hji18
            have hji18z : (ji16) ≤ 64 → ((rd l0 x14_1) / 2 ^ (ji16).toNat) = ji18 := shr_small hji18
            obtain ⟨ji19, hji19⟩ : ∃ j_ : Int, (wrap64 (x14_1 + 1)) = j_ := ⟨_, rfl⟩
            replace H : (if 0 ≤ (ji19) then (if (ji19) < (x5_1.length : Int) then (nat_up.l0 k1 a1 (y150.set ((ji19) : Int).toNat (ji18)) l0 (l0.length : Int) ji19) else (none)) else (none)) = some r := by first | (rw [hji19] at H; exact H) | (simp only [hji19] at H ⊢; exact H)
            have hji19w : (IntKind.i64.wrap (x14_1 + 1)) = ji19 := (i64_w _).trans hji19
            by_cases c20 : 0 ≤ (ji19)
            ·
             rw [if_pos c20] at H
             have c20b0 : decide (0 ≤ (ji19)) = true := decide_eq_true c20
             clear c20
             by_cases c21 : (ji19) < (x5_1.length : Int)
             ·
              rw [if_pos c21] at H
              have c21b0 : decide ((ji19) < (x5_1.length : Int)) = true := decide_eq_true c21
              clear c21
              obtain ⟨y151, hy151⟩ : ∃ y_ : List Int, y_ = (y150.set ((ji19) : Int).toNat (ji18)) := ⟨_, rfl⟩
              replace H : (nat_up.l0 k1 a1 y151 l0 (l0.length : Int) ji19) = some r := by first | (rw [hy151]; with_reducible exact H) | (have H2_ := (Option.bind_some _ _).symm.trans H; rw [hy151]; with_reducible exact H2_) | (have H2_ := (Option.bind_some _ _).symm.trans H; with_reducible exact H2_) | with_reducible exact H | (rw [hy151]; exact H) | exact H
              have Ny151 := Aside0.mk hy151; clear hy151
              have H' := Aside0.mk H
              clear H
              have p148 : 0 ≤ (x14_1 : Int) := of_decide_eq_true (by first | (with_reducible assumption) | assumption)
              have q148 : x14_1 < (l0.length : Int) := of_decide_eq_true (by first | (with_reducible assumption) | assumption)
              obtain ⟨ad148, e148, hx148_0⟩ := Kd.at_int HR0.out x14_1 p148 q148
              cases e148
              replace hx148_0 := (HB.out.cell (World.block_lt_of_cell? w _ hx148_0)).trans hx148_0
              replace p148 := eq_true p148
              replace q148 := eq_true q148
              obtain ⟨Ao23, co23, eo23⟩ := Kd.R_slice HO_5.out
              subst eo23
              have p149 : 0 ≤ (x14_1 : Int) := of_decide_eq_true (by first | (with_reducible assumption) | assumption)
              have q149 : x14_1 < (x5_1.length : Int) := of_decide_eq_true (by first | (with_reducible assumption) | assumption)
              obtain ⟨ad149, e149, hx149_0⟩ := Kd.at_int (Kd.R_reads' HO_5.out).2.2 x14_1 p149 q149
              cases e149
              replace p149 := eq_true p149
              replace q149 := eq_true q149
              have p14 : 0 ≤ (x14_1 : Int) := of_decide_eq_true (by first | (with_reducible assumption) | assumption)
              have q14 : (x14_1 : Int) < ((x5_1.length : Int) : Int) := of_decide_eq_true (by first | (with_reducible assumption) | assumption)
              obtain ⟨go14, co14, eo14, gb14, gl14, cl14, HG14⟩ := Kd.R_form HO_5.out (by omega)
              (first | cases eo14 | (injection eo14 with ea_ en_ ec_; (first | subst ea_ | (injection ea_ with ea_; subst ea_)); subst ec_; clear en_))
              have GB14 := Aside0.mk gb14; have GG14 := Aside0.mk HG14; clear gb14 gl14 HG14
              (first | simp only [add_plain] at hx149_0 | skip)
              obtain ⟨hx14_0, hf14_0⟩ := Kd.R_celln 0 HO_5.out (x14_1 : Int) p14 q14
              replace p14 := eq_true p14
              replace q14 := eq_true q14
              have HP24 := Kd.R_putg HO_5.out (x14_1 : Int) (Go.bits .or .u64 (rd x5_1 x14_1) (ji13))
              go_wp2_with (first | ((with_reducible refine gate_store (t := 27) (p := 27) rfl ?_); refine store_event (t := 27) (p := 27) (v := ?vo_w25) (w1 := (wr.setCell ⟨go14, (x14_1 : Int).toNat, none⟩ (.int .u64 (Go.bits .or .u64 (rd x5_1 x14_1) (ji13))))) ?hg ?ho ?hn ?hr ?_; (case ho => rfl); (case hg => rfl); (case hn => rfl); (case hr => first | (go_simp; done) | (go_simp; rfl) | (obtain ⟨hy_, hz_⟩ := Kd.R_celln 0 HO_5.out (x14_1 : Int) (of_decide_eq_true (by first | (with_reducible assumption) | assumption)) (of_decide_eq_true (by first | (with_reducible assumption) | assumption)); (try simp only [Go.IntWalk.toNatUp] at hy_ hz_); (try simp only [Int.reduceToNat, Int.toNat_zero, Int.toNat_ofNat] at hy_ hz_); first | (go_simp; done) | (go_simp; rfl))); intro w25 hw; have hg : wr.grownBy w25 (some go14) := (by rw [hw]; exact HP24.2); have hp_ : Kd.R (Kd.int .u64) 27 w25 w.heap.size (fun _ => True) (.slice (some ⟨go14, 0, none⟩) x5_1.length co23) y150 := (by rw [hw, Ny150.out]; exact HP24.1); clear HP24; have n0_ := Aside0.mk (hp_); have n1_ := Aside0.mk ((by rw [hw]; exact below_set (HB.out) GB14.out : Below w.heap.size w w25)); clear HO_5; clear HB; have HO_5 := n0_; have HB := n1_; clear n0_ n1_; clear hg hw hp_; have p22 : 0 ≤ ((ji19) : Int) := of_decide_eq_true (by first | (with_reducible assumption) | assumption); have q22 : ((ji19) : Int) < ((x5_1.length : Int) : Int) := of_decide_eq_true (by first | (with_reducible assumption) | assumption); obtain ⟨hx22_0, hf22_0⟩ := Kd.R_celln 0 HO_5.out ((ji19) : Int) p22 q22; replace p22 := eq_true p22; replace q22 := eq_true q22; obtain ⟨hy26_, hz26_⟩ := Kd.R_celln 0 HO_5.out ((ji19) : Int) (of_decide_eq_true (by first | (with_reducible assumption) | assumption)) (of_decide_eq_true (by first | (with_reducible assumption) | assumption)); have HP26 := Kd.R_putg HO_5.out ((ji19) : Int) ji18) | ((with_reducible refine gate_store (t := 27) (p := 37) rfl ?_); refine store_event (t := 27) (p := 37) (v := ?vo_w27) (w1 := (w25.setCell ⟨go14, ((ji19) : Int).toNat, none⟩ (.int .u64 ji18))) ?hg ?ho ?hn ?hr ?_; (case ho => rfl); (case hg => rfl); (case hn => rfl); (case hr => first | (go_simp; done) | (go_simp; rfl) | (obtain ⟨hy_, hz_⟩ := Kd.R_celln 0 HO_5.out ((ji19) : Int) (of_decide_eq_true (by first | (with_reducible assumption) | assumption)) (of_decide_eq_true (by first | (with_reducible assumption) | assumption)); (try simp only [Go.IntWalk.toNatUp] at hy_ hz_); (try simp only [Int.reduceToNat, Int.toNat_zero, Int.toNat_ofNat] at hy_ hz_); first | (go_simp; done) | (go_simp; rfl))); intro w27 hw; have hg : w25.grownBy w27 (some go14) := (by rw [hw]; exact HP26.2); have hp_ : Kd.R (Kd.int .u64) 27 w27 w.heap.size (fun _ => True) (.slice (some ⟨go14, 0, none⟩) x5_1.length co23) y151 := (by rw [hw, Ny151.out]; exact HP26.1); clear HP26; have n0_ := Aside0.mk (hp_); have n1_ := Aside0.mk ((by rw [hw]; exact below_set (HB.out) GB14.out : Below w.heap.size w w27)); clear HO_5; clear HB; have HO_5 := n0_; have HB := n1_; clear n0_ n1_; clear hg hw hp_))
              first | go_roundg k1 | ((try simp only [← hji19] at H'); simp only [← hji19]; go_roundg k1) | ((try simp only [← hji18] at H'); simp only [← hji18]; go_roundg k1) | ((try simp only [← hji16] at H'); simp only [← hji16]; go_roundg k1) | ((try simp only [← hji13] at H'); simp only [← hji13]; go_roundg k1) | ((try simp only [← hji3] at H'); simp only [← hji3]; go_roundg k1)
              case measure => have := HK1.out; omega
              case rel => first | exact ⟨(y151), (ji19), (by first | rfl | (simp; done) | (simp only [← hji19] <;> (first | rfl | simp)) | (simp [*]; done)), H', ⟨by have := HK1.out; omega⟩, ⟨uR HO_5.out⟩, ⟨uB⟩⟩ | (simp only [← hji19] at H'; exact ⟨(y151), (ji19), (by first | rfl | (simp; done) | (simp only [← hji19] <;> (first | rfl | simp)) | (simp [*]; done)), H', ⟨by have := HK1.out; omega⟩, ⟨uR HO_5.out⟩, ⟨uB⟩⟩) | (simp only [← hji18] at H'; exact ⟨(y151), (ji19), (by first | rfl | (simp; done) | (simp only [← hji19] <;> (first | rfl | simp)) | (simp [*]; done)), H', ⟨by have := HK1.out; omega⟩, ⟨uR HO_5.out⟩, ⟨uB⟩⟩) | (simp only [← hji16] at H'; exact ⟨(y151), (ji19), (by first | rfl | (simp; done) | (simp only [← hji19] <;> (first | rfl | simp)) | (simp [*]; done)), H', ⟨by have := HK1.out; omega⟩, ⟨uR HO_5.out⟩, ⟨uB⟩⟩) | (simp only [← hji13] at H'; exact ⟨(y151), (ji19), (by first | rfl | (simp; done) | (simp only [← hji19] <;> (first | rfl | simp)) | (simp [*]; done)), H', ⟨by have := HK1.out; omega⟩, ⟨uR HO_5.out⟩, ⟨uB⟩⟩) | (simp only [← hji3] at H'; exact ⟨(y151), (ji19), (by first | rfl | (simp; done) | (simp only [← hji19] <;> (first | rfl | simp)) | (simp [*]; done)), H', ⟨by have := HK1.out; omega⟩, ⟨uR HO_5.out⟩, ⟨uB⟩⟩)
             ·
              rw [if_neg c21] at H
              exact absurd H (by simp)
            ·
             rw [if_neg c20] at H
             exact absurd H (by simp)
           ·
            rw [if_neg c17] at H
            exact absurd H (by simp)
          ·
           rw [if_neg c15] at H
           have c15b0 : decide (0 < a1) = false := decide_eq_false c15
           clear c15
           have H' := Aside0.mk H
           clear H
           have p148 : 0 ≤ (x14_1 : Int) := of_decide_eq_true (by first | (with_reducible assumption) | assumption)
           have q148 : x14_1 < (l0.length : Int) := of_decide_eq_true (by first | (with_reducible assumption) | assumption)
           obtain ⟨ad148, e148, hx148_0⟩ := Kd.at_int HR0.out x14_1 p148 q148
           cases e148
           replace hx148_0 := (HB.out.cell (World.block_lt_of_cell? w _ hx148_0)).trans hx148_0
           replace p148 := eq_true p148
           replace q148 := eq_true q148
           obtain ⟨Ao28, co28, eo28⟩ := Kd.R_slice HO_5.out
           subst eo28
           have p149 : 0 ≤ (x14_1 : Int) := of_decide_eq_true (by first | (with_reducible assumption) | assumption)
           have q149 : x14_1 < (x5_1.length : Int) := of_decide_eq_true (by first | (with_reducible assumption) | assumption)
           obtain ⟨ad149, e149, hx149_0⟩ := Kd.at_int (Kd.R_reads' HO_5.out).2.2 x14_1 p149 q149
           cases e149
           replace p149 := eq_true p149
           replace q149 := eq_true q149
           have p14 : 0 ≤ (x14_1 : Int) := of_decide_eq_true (by first | (with_reducible assumption) | assumption)
           have q14 : (x14_1 : Int) < ((x5_1.length : Int) : Int) := of_decide_eq_true (by first | (with_reducible assumption) | assumption)
           obtain ⟨go14, co14, eo14, gb14, gl14, cl14, HG14⟩ := Kd.R_form HO_5.out (by omega)
           (first | cases eo14 | (injection eo14 with ea_ en_ ec_; (first | subst ea_ | (injection ea_ with ea_; subst ea_)); subst ec_; clear en_))
           have GB14 := Aside0.mk gb14; have GG14 := Aside0.mk HG14; clear gb14 gl14 HG14
           (first | simp only [add_plain] at hx149_0 | skip)
           obtain ⟨hx14_0, hf14_0⟩ := Kd.R_celln 0 HO_5.out (x14_1 : Int) p14 q14
           replace p14 := eq_true p14
           replace q14 := eq_true q14
           have HP29 := Kd.R_putg HO_5.out (x14_1 : Int) (Go.bits .or .u64 (rd x5_1 x14_1) (ji13))
           go_wp2_with (first | ((with_reducible refine gate_store (t := 27) (p := 27) rfl ?_); refine store_event (t := 27) (p := 27) (v := ?vo_w30) (w1 := (wr.setCell ⟨go14, (x14_1 : Int).toNat, none⟩ (.int .u64 (Go.bits .or .u64 (rd x5_1 x14_1) (ji13))))) ?hg ?ho ?hn ?hr ?_; (case ho => rfl); (case hg => rfl); (case hn => rfl); (case hr => first | (go_simp; done) | (go_simp; rfl) | (obtain ⟨hy_, hz_⟩ := Kd.R_celln 0 HO_5.out (x14_1 : Int) (of_decide_eq_true (by first | (with_reducible assumption) | assumption)) (of_decide_eq_true (by first | (with_reducible assumption) | assumption)); (try simp only [Go.IntWalk.toNatUp] at hy_ hz_); (try simp only [Int.reduceToNat, Int.toNat_zero, Int.toNat_ofNat] at hy_ hz_); first | (go_simp; done) | (go_simp; rfl))); intro w30 hw; have hg : wr.grownBy w30 (some go14) := (by rw [hw]; exact HP29.2); have hp_ : Kd.R (Kd.int .u64) 27 w30 w.heap.size (fun _ => True) (.slice (some ⟨go14, 0, none⟩) x5_1.length co28) y150 := (by rw [hw, Ny150.out]; exact HP29.1); clear HP29; have n0_ := Aside0.mk (hp_); have n1_ := Aside0.mk ((by rw [hw]; exact below_set (HB.out) GB14.out : Below w.heap.size w w30)); clear HO_5; clear HB; have HO_5 := n0_; have HB := n1_; clear n0_ n1_; clear hg hw hp_))
           first | go_roundg k1 | ((try simp only [← hji19] at H'); simp only [← hji19]; go_roundg k1) | ((try simp only [← hji18] at H'); simp only [← hji18]; go_roundg k1) | ((try simp only [← hji16] at H'); simp only [← hji16]; go_roundg k1) | ((try simp only [← hji13] at H'); simp only [← hji13]; go_roundg k1) | ((try simp only [← hji3] at H'); simp only [← hji3]; go_roundg k1)
           case measure => have := HK1.out; omega
           case rel => first | exact ⟨(y150), (wrap64 (x14_1 + 1)), (by first | rfl | (simp; done) | (simp [*]; done)), H', ⟨by have := HK1.out; omega⟩, ⟨uR HO_5.out⟩, ⟨uB⟩⟩ | (simp only [← hji19] at H'; exact ⟨(y150), (wrap64 (x14_1 + 1)), (by first | rfl | (simp; done) | (simp [*]; done)), H', ⟨by have := HK1.out; omega⟩, ⟨uR HO_5.out⟩, ⟨uB⟩⟩) | (simp only [← hji18] at H'; exact ⟨(y150), (wrap64 (x14_1 + 1)), (by first | rfl | (simp; done) | (simp [*]; done)), H', ⟨by have := HK1.out; omega⟩, ⟨uR HO_5.out⟩, ⟨uB⟩⟩) | (simp only [← hji16] at H'; exact ⟨(y150), (wrap64 (x14_1 + 1)), (by first | rfl | (simp; done) | (simp [*]; done)), H', ⟨by have := HK1.out; omega⟩, ⟨uR HO_5.out⟩, ⟨uB⟩⟩) | (simp only [← hji13] at H'; exact ⟨(y150), (wrap64 (x14_1 + 1)), (by first | rfl | (simp; done) | (simp [*]; done)), H', ⟨by have := HK1.out; omega⟩, ⟨uR HO_5.out⟩, ⟨uB⟩⟩) | (simp only [← hji3] at H'; exact ⟨(y150), (wrap64 (x14_1 + 1)), (by first | rfl | (simp; done) | (simp [*]; done)), H', ⟨by have := HK1.out; omega⟩, ⟨uR HO_5.out⟩, ⟨uB⟩⟩)
         ·
          rw [if_neg c12] at H
          exact absurd H (by simp)
        ·
         rw [if_neg c11] at H
         exact absurd H (by simp)
       ·
        rw [if_neg c10] at H
        exact absurd H (by simp)
      ·
       rw [if_neg c9] at H
       exact absurd H (by simp)
     ·
      rw [if_neg c8] at H
      have c8b0 : decide (x14_1 < (l0.length : Int)) = false := decide_eq_false c8
      clear c8
      obtain rfl := Option.some.inj H
      go_wp2
      go_ret
      exact ⟨_, by first | rfl | (simp [errW_none, errW_some] <;> rfl) | (simp only [← hji3]; first | rfl | (simp [errW_none, errW_some] <;> rfl)) | (simp [*, errW_none, errW_some] <;> rfl), uR HO_5.out, uB⟩
  ·
   rw [if_neg c5] at H
   exact absurd H (by simp)
 ·
  rw [if_neg c4] at H
  exact absurd H (by simp)

end Go.Proofs.Ytgeanpnkllnipab.F
end

section
namespace Go.Proofs.Ytgeanpnkllnipab.F
open Go.RowKit Go.Proofs.YtgeanpnkllnipabW.PrintWords Go.Proofs.YtgeanpnkllnipabW.PrintLast Go.Proofs.YtgeanpnkllnipabW.PrintMore
attribute [local go_sem] max2_int min2_int max_two min_two max_three min_three max_four min_four
set_option linter.unusedVariables false
set_option linter.unusedSimpArgs false

def nat_Shl.j0 : Nat → List Int → Int → Bool → Option (List Int × Int)
 | 0, _, _, _ => none
 | k + 1, x0, x1, x6 => if x6 = true then (some (([] : List Int), 1)) else (if (x0.length : Int) = 0 then (some (([] : List Int), 0)) else (if x1 > 4096 then (some (([] : List Int), 4)) else (if 0 ≤ (wrap64 (Int.tdiv x1 64)) then (if (wrap64 (Int.tdiv x1 64) : Int).toNat ≤ 35184372088832 then ((some (List.replicate (wrap64 (Int.tdiv x1 64) : Int).toNat 0 : List Int)).bind fun y715 => ((nat_up.f k x0 (IntKind.u64.wrap (Int.tmod x1 64))).bind fun t718 => (if y715.length + t718.length < 17592186044416 then ((nat_told.f k (y715 ++ t718)).bind fun bt724 => (some (bt724.1, bt724.2))) else (none)))) else (none)) else (none))))
def nat_Shl.f (k : Nat) (l0 : List Int) (a1 : Int) : Option (List Int × Int) := (nat_Right.f l0).bind fun t714 => (if t714 = true then (nat_Shl.j0 k l0 a1 (decide (a1 < 0))) else (nat_Shl.j0 k l0 a1 true))
def nat_Shl.T7 : Bool × List (List Nat × List Nat) := (true, [([], []), ([0], [0]), ([1, 1], [1]), ([], []), ([], []), ([4], [4]), ([5], [5]), ([3, 6], [3, 6]), ([2, 7, 7], [2, 7]), ([8, 8], [8]), ([9], [9]), ([9], [9]), ([10, 9, 0, 1, 2, 3, 4, 5, 6, 7, 8, 9, 10, 11], [10]), ([11, 12, 0, 1, 2, 3, 4, 5, 6, 7, 8, 9, 10, 11, 12], [11])])
def nat_Shl.B7 : List Nat := [0, 1, 3, 0, 0, 16, 48, 120, 255, 511, 1023, 1023, 4095, 8191]
theorem nat_Shl.tab7 : rtab .any (opsOf Try.f101 7) = nat_Shl.T7 := by kernel_rfl
theorem nat_Shl.bits7 : waitsOk nat_Shl.T7.2 nat_Shl.B7 = true := by kernel_rfl
set_option maxHeartbeats 8000000 in
set_option maxRecDepth 100000 in
theorem nat_Shl.calls (k : Nat) (A0 : Option Addr) (c0 : Nat) (l0 : List Int) (a1 : Int) (r1 : List Int) (r2 : Int) (w : World) (hr0 : Kd.C (Kd.int .u64) w A0 l0.length l0) (hc0 : l0.length ≤ c0) (h : nat_Shl.f k l0 a1 = some (r1, r2)) :
  Calls Try.prog 101 #[.slice A0 l0.length c0, .int .i64 a1] w fun e w' => ∃ v0_ : Value, e = .returned (.tuple #[v0_, .int .i64 r2]) ∧ Kd.R (Kd.int .u64) 27 w' w.heap.size (fun _ => True) v0_ r1 ∧ Below w.heap.size w w' := by
 have HR0 := Aside0.mk hr0; have HC0 := Aside0.mk hc0; clear hr0 hc0
 have HB := Aside0.mk (Below.refl w.heap.size w)
 have H : ((nat_Right.f l0).bind fun t714 => (if t714 = true then (nat_Shl.j0 k l0 a1 (decide (a1 < 0))) else (nat_Shl.j0 k l0 a1 true))) = some (r1, r2) := h
 clear h; have HC3 := Aside0.mk H; clear H
 go_enter Try.func101, Try.ntmps101
 go_upto_region 1 with (fail)
 go_cut [6] (fun v6 wc => ∃ (kq : Nat) (x6_2 : Bool), v6 = .bool x6_2 ∧ Aside0 (nat_Shl.j0 kq l0 a1 x6_2 = some (r1, r2)) ∧ Aside0 (kq ≤ k) ∧ Aside0 (Below w.heap.size w wc))
 case first =>
  have H := HC3.out
  clear HC3
  replace H := Option.bind_eq_some_iff.mp H
  obtain ⟨t714, A40, H⟩ := H
  replace H : (if t714 = true then (nat_Shl.j0 k l0 a1 (decide (a1 < 0))) else (nat_Shl.j0 k l0 a1 true)) = some (r1, r2) := H
  have A4 := Aside0.mk A40; clear A40
  by_cases c5 : t714 = true
  ·
   subst c5
   have H1 : (nat_Shl.j0 k l0 a1 (decide (a1 < 0))) = some (r1, r2) := by rw [if_pos rfl] at H; exact H
   clear H; have H := H1; clear H1
   have H' := Aside0.mk H
   clear H
   go_wp2_with (first | ((with_reducible refine gate_callee (f := 47) rfl ?_); refine goesL_ (some 8) rfl rfl Try.func47 (by kernel_rfl) rfl #[.slice A0 l0.length c0] rfl uM ?_; (with_reducible refine (nat_Right.calls _ _ l0 true _ ?side1 ?side2 A4.out).mono ?_); (case side1 => exact uC (Kd.C_below HR0.out HB.out)); (case side2 => exact HC0.out); rintro e w' ⟨rfl, ⟨nd, rfl⟩⟩; refine ⟨_, rfl, ?_⟩))
   go_meet
   case rel => exact ⟨_, (decide (a1 < 0)), (by first | rfl | (simp; done) | (simp [*]; done)), H', ⟨by first | omega | exact Nat.le_refl _⟩, ⟨uB⟩⟩
  ·
   replace c5 := Bool.eq_false_iff.mpr c5
   subst c5
   have H1 : (nat_Shl.j0 k l0 a1 true) = some (r1, r2) := by rw [if_neg (show ¬ (false = true) by decide)] at H; exact H
   clear H; have H := H1; clear H1
   have H' := Aside0.mk H
   clear H
   go_wp2_with (first | ((with_reducible refine gate_callee (f := 47) rfl ?_); refine goesL_ (some 8) rfl rfl Try.func47 (by kernel_rfl) rfl #[.slice A0 l0.length c0] rfl uM ?_; (with_reducible refine (nat_Right.calls _ _ l0 false _ ?side1 ?side2 A4.out).mono ?_); (case side1 => exact uC (Kd.C_below HR0.out HB.out)); (case side2 => exact HC0.out); rintro e w' ⟨rfl, ⟨nd, rfl⟩⟩; refine ⟨_, rfl, ?_⟩))
   go_meet
   case rel => exact ⟨_, (true), (by first | rfl | (simp; done) | (simp [*]; done)), H', ⟨by first | omega | exact Nat.le_refl _⟩, ⟨uB⟩⟩
 case rest =>
  clear HC3
  try clear c1
  try clear p2
  try clear c4
  try clear c5
  obtain ⟨kq, x6_2, rfl, HA, HJ2, HB⟩ := hcut
  cases kq with
  | zero => exact absurd HA.out (by simp [nat_Shl.j0])
  | succ kj2 =>
   have H := HA.out
   clear HA
   simp only [nat_Shl.j0] at H
   by_cases c6 : x6_2 = true
   ·
    subst c6
    have H1 : (some (([] : List Int), 1)) = some (r1, r2) := by rw [if_pos rfl] at H; exact H
    clear H; have H := H1; clear H1
    simp only [Option.some.injEq, Prod.mk.injEq] at H
    obtain ⟨rfl, rfl⟩ := H
    go_wp2
    go_ret2
    exact ⟨_, by first | rfl | (simp [errW_none, errW_some] <;> rfl) | (simp [*, errW_none, errW_some] <;> rfl), by first | exact Kd.R_nil _ _ _ _ _ | exact Kd.N_nil _ _ _ _ _ | exact Kd.V_nil _ _ _ _ _ | exact Kd.Q_nil _ _ _ _ _ | exact Kd.S_nil _ _ _ _ _, uB⟩
   ·
    replace c6 := Bool.eq_false_iff.mpr c6
    subst c6
    have H1 : (if (l0.length : Int) = 0 then (some (([] : List Int), 0)) else (if a1 > 4096 then (some (([] : List Int), 4)) else (if 0 ≤ (wrap64 (Int.tdiv a1 64)) then (if (wrap64 (Int.tdiv a1 64) : Int).toNat ≤ 35184372088832 then ((some (List.replicate (wrap64 (Int.tdiv a1 64) : Int).toNat 0 : List Int)).bind fun y715 => ((nat_up.f kj2 l0 (IntKind.u64.wrap (Int.tmod a1 64))).bind fun t718 => (if y715.length + t718.length < 17592186044416 then ((nat_told.f kj2 (y715 ++ t718)).bind fun bt724 => (some (bt724.1, bt724.2))) else (none)))) else (none)) else (none)))) = some (r1, r2) := by rw [if_neg (show ¬ (false = true) by decide)] at H; exact H
    clear H; have H := H1; clear H1
    by_cases c7 : (l0.length : Int) = 0
    ·
     rw [if_pos c7] at H
     have c7b0 : ((l0.length : Int) == 0) = true := beq_iff_eq.mpr c7
     have c7b1 : ((l0.length : Int) != 0) = false := bne_eq_false_iff_eq.mpr c7
     clear c7
     simp only [Option.some.injEq, Prod.mk.injEq] at H
     obtain ⟨rfl, rfl⟩ := H
     go_wp2
     go_ret2
     exact ⟨_, by first | rfl | (simp [errW_none, errW_some] <;> rfl) | (simp [*, errW_none, errW_some] <;> rfl), by first | exact Kd.R_nil _ _ _ _ _ | exact Kd.N_nil _ _ _ _ _ | exact Kd.V_nil _ _ _ _ _ | exact Kd.Q_nil _ _ _ _ _ | exact Kd.S_nil _ _ _ _ _, uB⟩
    ·
     rw [if_neg c7] at H
     have c7b0 : ((l0.length : Int) == 0) = false := beq_eq_false_iff_ne.mpr c7
     have c7b1 : ((l0.length : Int) != 0) = true := bne_iff_ne.mpr c7
     have c7b2 : ¬ (l0 = []) := fun h_ => c7 (by rw [h_]; rfl)
     by_cases c8 : a1 > 4096
     ·
      rw [if_pos c8] at H
      have c8b0 : decide (4096 < a1) = true := decide_eq_true c8
      clear c8
      simp only [Option.some.injEq, Prod.mk.injEq] at H
      obtain ⟨rfl, rfl⟩ := H
      go_wp2
      go_ret2
      exact ⟨_, by first | rfl | (simp [errW_none, errW_some] <;> rfl) | (simp [*, errW_none, errW_some] <;> rfl), by first | exact Kd.R_nil _ _ _ _ _ | exact Kd.N_nil _ _ _ _ _ | exact Kd.V_nil _ _ _ _ _ | exact Kd.Q_nil _ _ _ _ _ | exact Kd.S_nil _ _ _ _ _, uB⟩
     ·
      rw [if_neg c8] at H
      have c8b0 : decide (4096 < a1) = false := decide_eq_false c8
      clear c8
      obtain ⟨ji9, hji9⟩ : ∃ j_ : Int, (wrap64 (Int.tdiv a1 64)) = j_ := ⟨_, rfl⟩
      replace H : (if 0 ≤ (ji9) then (if (ji9 : Int).toNat ≤ 35184372088832 then ((some (List.replicate (ji9 : Int).toNat 0 : List Int)).bind fun y715 => ((nat_up.f kj2 l0 (IntKind.u64.wrap (Int.tmod a1 64))).bind fun t718 => (if y715.length + t718.length < 17592186044416 then ((nat_told.f kj2 (y715 ++ t718)).bind fun bt724 => (some (bt724.1, bt724.2))) else (none)))) else (none)) else (none)) = some (r1, r2) := by first | (rw [hji9] at H; exact H) | (simp only [hji9] at H ⊢; exact H)
      have hji9w : (IntKind.i64.wrap (Int.tdiv a1 64)) = ji9 := (i64_w _).trans hji9
      by_cases c10 : 0 ≤ (ji9)
      ·
       rw [if_pos c10] at H
       have c10b0 := eq_true c10
       have c10b1 : decide (0 ≤ (ji9)) = true := decide_eq_true c10
       clear c10
       by_cases c11 : (ji9 : Int).toNat ≤ 35184372088832
       ·
        rw [if_pos c11] at H
        have c11b0 := eq_true c11
        have c11b1 : decide ((ji9 : Int).toNat ≤ 35184372088832) = true := decide_eq_true c11
        clear c11
        obtain ⟨y715, hy715⟩ : ∃ y_ : List Int, y_ = (List.replicate (ji9 : Int).toNat 0) := ⟨_, rfl⟩
        replace H : ((nat_up.f kj2 l0 (IntKind.u64.wrap (Int.tmod a1 64))).bind fun t718 => (if y715.length + t718.length < 17592186044416 then ((nat_told.f kj2 (y715 ++ t718)).bind fun bt724 => (some (bt724.1, bt724.2))) else (none))) = some (r1, r2) := by first | (rw [hy715]; with_reducible exact H) | (have H2_ := (Option.bind_some _ _).symm.trans H; rw [hy715]; with_reducible exact H2_) | (have H2_ := (Option.bind_some _ _).symm.trans H; with_reducible exact H2_) | with_reducible exact H | (rw [hy715]; exact H) | exact H
        have Ny715 := Aside0.mk hy715; clear hy715
        replace H := Option.bind_eq_some_iff.mp H
        obtain ⟨t718, A120, H⟩ := H
        replace H : (if y715.length + t718.length < 17592186044416 then ((nat_told.f kj2 (y715 ++ t718)).bind fun bt724 => (some (bt724.1, bt724.2))) else (none)) = some (r1, r2) := H
        have A12 := Aside0.mk A120; clear A120
        by_cases c13 : y715.length + t718.length < 17592186044416
        ·
         rw [if_pos c13] at H
         have LMc13 := Aside0.mk c13; clear c13
         obtain ⟨y721, hy721⟩ : ∃ y_ : List Int, y_ = (y715 ++ t718) := ⟨_, rfl⟩
         replace H : ((nat_told.f kj2 y721).bind fun bt724 => (some (bt724.1, bt724.2))) = some (r1, r2) := by first | (rw [hy721]; with_reducible exact H) | (have H2_ := (Option.bind_some _ _).symm.trans H; rw [hy721]; with_reducible exact H2_) | (have H2_ := (Option.bind_some _ _).symm.trans H; with_reducible exact H2_) | with_reducible exact H | (rw [hy721]; exact H) | exact H
         have Ny721 := Aside0.mk hy721; clear hy721
         replace H := Option.bind_eq_some_iff.mp H
         obtain ⟨⟨t724, t727⟩, A140, H⟩ := H
         replace H : (some (t724, t727)) = some (r1, r2) := H
         have A14 := Aside0.mk A140; clear A140
         simp only [Option.some.injEq, Prod.mk.injEq] at H
         obtain ⟨rfl, rfl⟩ := H
         try go_wp2
         have n0_ := Aside0.mk (below_drew1 HB.out)
         clear HB; have HB := n0_; clear n0_
         refine start_ (n := 14) (S := fun w' => True) (ds := []) #[false, false, false, false, false, false, false, false, false, false, false, false, false, false] (by kernel_rfl) rfl rfl trivial (fun hHeld => ?_); refine with_tabW nat_Shl.tab7 nat_Shl.bits7 (fun HT_ HW_ => ?_)
         generalize wc.drew = w15 at HB hHeld ⊢
         refine pure_ (i := 0) (N := some 21) (v := ?_) (a' := ?_) #[true, false, false, false, false, false, false, false, false, false, false, false, false, false] rfl rfl (any_of HT_.out (by kernel_rfl)) (fun _ _ _ h => h) (Or.inl ⟨by rfl, ?_⟩) ?_ ?_
         rotate_left
         ·
          intro w'
          go_simp
          with_reducible rfl
         rotate_left
         ·
          simp only [Act.put, List.setIfInBounds_toArray, List.set_cons_zero, List.set_cons_succ, i64_w, i32_w]
          rfl
         refine pure_ (i := 1) (N := some 22) (v := ?_) (a' := ?_) #[true, true, false, false, false, false, false, false, false, false, false, false, false, false] rfl rfl (any_of HT_.out (by kernel_rfl)) (fun _ _ _ h => h) (Or.inl ⟨by rfl, ?_⟩) ?_ ?_
         rotate_left
         ·
          intro w'
          go_simp
          with_reducible rfl
         rotate_left
         ·
          simp only [Act.put, List.setIfInBounds_toArray, List.set_cons_zero, List.set_cons_succ, i64_w, i32_w]
          rfl
         refine pure_ (i := 3) (N := some 24) (v := ?_) (a' := ?_) #[true, true, false, true, false, false, false, false, false, false, false, false, false, false] rfl rfl (any_of HT_.out (by kernel_rfl)) (fun _ _ _ h => h) (Or.inl ⟨by rfl, ?_⟩) ?_ ?_
         rotate_left
         ·
          intro w'
          go_simp
          with_reducible rfl
         rotate_left
         ·
          simp only [Act.put, List.setIfInBounds_toArray, List.set_cons_zero, List.set_cons_succ, i64_w, i32_w]
          rfl
         refine pure_ (i := 4) (N := some 25) (v := ?_) (a' := ?_) #[true, true, false, true, true, false, false, false, false, false, false, false, false, false] rfl rfl (any_of HT_.out (by kernel_rfl)) (fun _ _ _ h => h) (Or.inl ⟨by rfl, ?_⟩) ?_ ?_
         rotate_left
         ·
          intro w'
          go_simp
          with_reducible rfl
         rotate_left
         ·
          simp only [Act.put, List.setIfInBounds_toArray, List.set_cons_zero, List.set_cons_succ, i64_w, i32_w]
          rfl
         refine pure_ (i := 5) (N := some 26) (v := ?_) (a' := ?_) #[true, true, false, true, true, true, false, false, false, false, false, false, false, false] rfl rfl (any_of HT_.out (by kernel_rfl)) (fun _ _ _ h => h) (Or.inl ⟨by rfl, ?_⟩) ?_ ?_
         rotate_left
         ·
          intro w'
          go_simp
          with_reducible rfl
         rotate_left
         ·
          simp only [Act.put, List.setIfInBounds_toArray, List.set_cons_zero, List.set_cons_succ, i64_w, i32_w]
          rfl
         refine pure_ (i := 6) (N := some 27) (v := ?_) (a' := ?_) #[true, true, false, true, true, true, true, false, false, false, false, false, false, false] rfl rfl (any_of HT_.out (by kernel_rfl)) (fun _ _ _ h => h) (Or.inl ⟨by rfl, ?_⟩) ?_ ?_
         rotate_left
         ·
          intro w'
          go_simp
          with_reducible rfl
         rotate_left
         ·
          simp only [Act.put, List.setIfInBounds_toArray, List.set_cons_zero, List.set_cons_succ, i64_w, i32_w]
          rfl
         refine join_ (σ := Value × Value) 6 #[true, true, true, true, true, true, true, true, false, false, false, false, false, false] (fun s_ => [(23, s_.1), (28, s_.2)]) (fun s_ w' => (Kd.R (Kd.int .u64) 27 w' w.heap.size (fun k_ => some k_ ≠ (s_.2 : Value).ownBlock) s_.1 y715) ∧ (Kd.R (Kd.int .u64) 27 w' w.heap.size (fun k_ => some k_ ≠ (s_.1 : Value).ownBlock) s_.2 t718) ∧ (Below w.heap.size w w')) ?_ ?_
         rotate_left
         ·
          intro hCont
          refine two_ (i := 2) (j := 7) (Ni := some 23) (Nj := some 28) #[true, true, true, true, true, true, true, false, false, false, false, false, false, false] #[true, true, false, true, true, true, true, true, false, false, false, false, false, false] rfl rfl rfl rfl (two_of HT_.out (by kernel_rfl)) (by decide) (by decide) (fun K hK => ?_) (fun K hK => ?_)
          ·
           refine Kd.R_make_step (Kd.int .u64) _ 27 (by rfl) (N := 23) rfl 23 _ _ rfl ji9 rfl rfl Try.underlying23 (.int .u64 0) 8 info27 rfl (by decide) (by omega) 0 (ok := fun _ => True) (okp := fun _ => True) rfl (fun _ hk => hk) trivial (of_decide_eq_true (by first | (with_reducible assumption) | assumption)) (Nat.le_trans (Nat.mul_le_mul_right _ (of_decide_eq_true (by first | (with_reducible assumption) | assumption) : ji9.toNat ≤ 35184372088832)) (by omega)) (Below.refl _ _) (Nat.le_refl _) ?_
           intro v716 w16 ho17 hb hg_ hnew_; clear hg_ hnew_
           (first | rw [← Ny715.out] at ho17 | (simp only [Int.reduceToNat] at ho17; rw [← Ny715.out] at ho17))
           have n0_ := Aside0.mk (Kd.R_lower ho17 (below_size uB))
           have n1_ := Aside0.mk (below_step uB hb)
           clear HB; have HO717 := n0_; have HB := n1_; clear n0_ n1_; clear hb ho17
           refine hK.out _ _ trivial (fun hHeld => ?_)
           clear hK K
           refine norm_ (a' := ?_) ?_ ?_
           rotate_left
           ·
            show Act.put _ (some 23) _ = _
            simp only [Act.put, List.setIfInBounds_toArray, List.set_cons_zero, List.set_cons_succ, i64_w, i32_w]
            rfl
           refine one_ (i := 7) (N := some 28) #[true, true, true, true, true, true, true, true, false, false, false, false, false, false] rfl rfl (one_of HT_.out (by kernel_rfl)) (by decide) (fun K hK => ?_)
           refine goes_ Try.func124 (by kernel_rfl) rfl #[.slice A0 l0.length c0, .int .u64 (IntKind.u64.wrap (Int.tmod a1 64))] (by rfl) rfl rfl uM ?_
           with_reducible refine (nat_up.calls kj2 _ _ l0 (IntKind.u64.wrap (Int.tmod a1 64)) t718 _ ?side1 ?side2 A12.out).mono ?_
           (case side1 => exact uC (Kd.C_below HR0.out HB.out))
           (case side2 => exact HC0.out)
           rintro e w18 ⟨v719, rfl, ho0, hb⟩
           refine ⟨_, rfl, ?_⟩
           have n0_ := Aside0.mk (Kd.R_elder' (uR HO717.out) (Kd.R_base ho0) hb)
           have n1_ := Aside0.mk (Kd.R_lower (Kd.R_new' ho0 (Kd.R_lt (uR HO717.out))) (below_size uB))
           have n2_ := Aside0.mk (below_step uB hb)
           clear HO717; clear HB; have HO717 := n0_; have HO720 := n1_; have HB := n2_; clear n0_ n1_ n2_; (try clear hb); (try clear hb2); (try clear hk); (try clear hi); (try clear ho0)
           refine hK.out _ _ trivial (fun hHeld => ?_)
           clear hK K
           refine norm_ (a' := ?_) ?_ ?_
           rotate_left
           ·
            show Act.put _ (some 28) _ = _
            simp only [Act.put, List.setIfInBounds_toArray, List.set_cons_zero, List.set_cons_succ, i64_w, i32_w]
            rfl
           exact norm_ (by simp only [putAll, Act.put, List.setIfInBounds_toArray, List.set_cons_zero, List.set_cons_succ]) (hCont (v716, v719) _ ⟨(uR (Kd.R_mono HO717.out (fun _ hk => hk.2))), (uR (Kd.R_mono HO720.out (fun _ hk => hk.2))), uB⟩)
          ·
           refine goes_ Try.func124 (by kernel_rfl) rfl #[.slice A0 l0.length c0, .int .u64 (IntKind.u64.wrap (Int.tmod a1 64))] (by rfl) rfl rfl uM ?_
           with_reducible refine (nat_up.calls kj2 _ _ l0 (IntKind.u64.wrap (Int.tmod a1 64)) t718 _ ?side1 ?side2 A12.out).mono ?_
           (case side1 => exact uC (Kd.C_below HR0.out HB.out))
           (case side2 => exact HC0.out)
           rintro e w16 ⟨v719, rfl, ho0, hb⟩
           refine ⟨_, rfl, ?_⟩
           have n0_ := Aside0.mk (Kd.R_lower ho0 (below_size uB))
           have n1_ := Aside0.mk (below_step uB hb)
           clear HB; have HO720 := n0_; have HB := n1_; clear n0_ n1_; (try clear hb); (try clear hb2); (try clear hk); (try clear hi); (try clear ho0)
           refine hK.out _ _ trivial (fun hHeld => ?_)
           clear hK K
           refine norm_ (a' := ?_) ?_ ?_
           rotate_left
           ·
            show Act.put _ (some 28) _ = _
            simp only [Act.put, List.setIfInBounds_toArray, List.set_cons_zero, List.set_cons_succ, i64_w, i32_w]
            rfl
           refine one_ (i := 2) (N := some 23) #[true, true, true, true, true, true, true, true, false, false, false, false, false, false] rfl rfl (one_of HT_.out (by kernel_rfl)) (by decide) (fun K hK => ?_)
           refine Kd.R_make_step (Kd.int .u64) _ 27 (by rfl) (N := 23) rfl 23 _ _ rfl ji9 rfl rfl Try.underlying23 (.int .u64 0) 8 info27 rfl (by decide) (by omega) 0 (ok := fun _ => True) (okp := fun _ => True) rfl (fun _ hk => hk) trivial (of_decide_eq_true (by first | (with_reducible assumption) | assumption)) (Nat.le_trans (Nat.mul_le_mul_right _ (of_decide_eq_true (by first | (with_reducible assumption) | assumption) : ji9.toNat ≤ 35184372088832)) (by omega)) (Below.refl _ _) (Nat.le_refl _) ?_
           intro v716 w17 ho18 hb hg_ hnew_; clear hg_ hnew_
           (first | rw [← Ny715.out] at ho18 | (simp only [Int.reduceToNat] at ho18; rw [← Ny715.out] at ho18))
           have n0_ := Aside0.mk (Kd.R_elder' (uR HO720.out) (Kd.R_base ho18) hb)
           have n1_ := Aside0.mk (Kd.R_lower (Kd.R_new' ho18 (Kd.R_lt (uR HO720.out))) (below_size uB))
           have n2_ := Aside0.mk (below_step uB hb)
           clear HO720; clear HB; have HO720 := n0_; have HO717 := n1_; have HB := n2_; clear n0_ n1_ n2_; clear hb ho18
           refine hK.out _ _ trivial (fun hHeld => ?_)
           clear hK K
           refine norm_ (a' := ?_) ?_ ?_
           rotate_left
           ·
            show Act.put _ (some 23) _ = _
            simp only [Act.put, List.setIfInBounds_toArray, List.set_cons_zero, List.set_cons_succ, i64_w, i32_w]
            rfl
           exact norm_ (by simp only [putAll, Act.put, List.setIfInBounds_toArray, List.set_cons_zero, List.set_cons_succ]) (hCont (v716, v719) _ ⟨(uR (Kd.R_mono HO717.out (fun _ hk => hk.2))), (uR (Kd.R_mono HO720.out (fun _ hk => hk.2))), uB⟩)
         rintro ⟨v716, v719⟩ w19 ⟨h0_, h1_, h2_⟩
         have n0_ : Aside0 (Kd.R (Kd.int .u64) 27 w19 w.heap.size (fun k_ => some k_ ≠ (v719 : Value).ownBlock) v716 y715) := ⟨h0_⟩
         have n1_ : Aside0 (Kd.R (Kd.int .u64) 27 w19 w.heap.size (fun k_ => some k_ ≠ (v716 : Value).ownBlock) v719 t718) := ⟨h1_⟩
         have n2_ : Aside0 (Below w.heap.size w w19) := ⟨h2_⟩
         clear HB; clear h0_ h1_ h2_; have HO717 := n0_; have HO720 := n1_; have HB := n2_; clear n0_ n1_ n2_
         have hHeld := trivial
         obtain ⟨Ao21, co21, eo21⟩ := Kd.R_slice HO720.out
         (first | subst eo21 | (injection eo21 with f1_ f2_ f3_; have f4_ := f1_.symm; have f5_ := f3_.symm; clear f1_ f2_ f3_; subst f4_; subst f5_))
         refine norm_ (a' := ?_) ?_ ?_
         rotate_left
         ·
          simp only [putAll, Act.put, List.setIfInBounds_toArray, List.set_cons_zero, List.set_cons_succ]
          rfl
         refine one_ (i := 8) (N := some 29) #[true, true, true, true, true, true, true, true, true, false, false, false, false, false] rfl rfl (one_of HT_.out (by kernel_rfl)) (by decide) (fun K hK => ?_)
         refine Kd.R_append_rows_step (Kd.int .u64) (w0 := w) w.heap.size (by rfl) (.tmp 23) (.tmp 28) 23 27 (.int .u64 0) 8 rfl Try.underlying23 info27 rfl (by decide) (by omega) v716 y715 t718 _ _ _ (fun k_ => some k_ ≠ (.slice Ao21 t718.length co21 : Value).ownBlock) (fun _ => False) rfl rfl ?aO ?aR (fun _ _ h => h) (fun _ h => h.elim) ?aF ?aB ?aS ?aL ?_
         (case aR => exact uC (Kd.R_reads' HO720.out).2.2)
         (case aB => exact uB)
         (case aF => exact (fun k_ hk => Kd.fresh' (Kd.R_lt (uR HO720.out)) k_ hk))
         (case aO => exact (uR HO717.out))
         (case aS => exact (below_size uB))
         (case aL => have := LMc13.out; omega)
         intro v722 w20 ho hb hg hat
         rw [← Ny721.out] at ho
         have n0_ := Aside0.mk (Kd.R_after (ok := (fun _ => True)) (uR (Kd.R_mono HO720.out (fun _ hk => ⟨trivial, hk⟩))) hg hat)
         have n1_ := Aside0.mk (hb)
         have n2_ := Aside0.mk (ho)
         clear HO720; clear HB; clear HO717; have HO720 := n0_; have HB := n1_; have HO723 := n2_; clear n0_ n1_ n2_; clear ho hb hg hat
         obtain ⟨Ao22, co22, eo22⟩ := Kd.R_slice HO723.out
         (first | subst eo22 | (injection eo22 with f1_ f2_ f3_; have f4_ := f1_.symm; have f5_ := f3_.symm; clear f1_ f2_ f3_; subst f4_; subst f5_))
         refine hK.out _ _ trivial (fun hHeld => ?_)
         clear hK K
         refine norm_ (a' := ?_) ?_ ?_
         rotate_left
         ·
          show Act.put _ (some 29) _ = _
          simp only [Act.put, List.setIfInBounds_toArray, List.set_cons_zero, List.set_cons_succ, i64_w, i32_w]
          rfl
         refine one_ (i := 9) (N := some 30) #[true, true, true, true, true, true, true, true, true, true, false, false, false, false] rfl rfl (one_of HT_.out (by kernel_rfl)) (by decide) (fun K hK => ?_)
         refine goes_ Try.func116 (by kernel_rfl) rfl #[.slice Ao22 y721.length co22] (by rfl) rfl rfl uM ?_
         with_reducible refine (nat_told.calls kj2 (fun k_ => some k_ = (.slice Ao22 y721.length co22 : Value).ownBlock) (.slice Ao22 y721.length co22) y721 t724 t727 w _ ?side1 ?side2 A14.out).mono ?_
         (case side1 => repeat (first | (with_reducible first | exact HB.out | apply below_alloc | apply pw_below_drewN | apply below_drew1) | exact HB.out))
         (case side2 => exact Kd.R_tight rfl HO723.out)
         rintro e w23 ⟨v725, rfl, ho0, hb, hkp⟩
         refine ⟨_, rfl, ?_⟩
         have n0_ := Aside0.mk (Kd.R_mono (ok' := fun k_ => some k_ ≠ (v725 : Value).ownBlock) (Kd.R_keptB (HO720.out) hkp (fun k_ hk_ hs_ => (hk_.2) hs_)) (fun k_ hk_ => fun e_ => Or.elim (ho0.1 k_ e_.symm) (fun hs_ => hk_.2.1 hs_) (fun hn_ => Nat.not_le.2 hk_.2.2 hn_)))
         have n1_ := Aside0.mk (Kd.R_mono (ok' := fun k_ => some k_ ≠ (.slice Ao21 t718.length co21 : Value).ownBlock) ho0 (fun k_ hk_ => Or.elim hk_ (fun hs_ => fun e_ => (((HO720.out).1 k_ e_.symm).2) hs_) (fun hn_ => (Kd.fresh' (Kd.R_lt (uR HO720.out)) k_ hn_))))
         have n2_ := Aside0.mk (hb)
         clear HO720; clear HB; clear HO723; have HO720 := n0_; have HO726 := n1_; have HB := n2_; clear n0_ n1_ n2_; (try clear hb); (try clear hkp); (try clear ho0)
         refine hK.out _ _ trivial (fun hHeld => ?_)
         clear hK K
         refine norm_ (a' := ?_) ?_ ?_
         rotate_left
         ·
          show Act.put _ (some 30) _ = _
          simp only [Act.put, List.setIfInBounds_toArray, List.set_cons_zero, List.set_cons_succ, i64_w, i32_w]
          rfl
         refine pure_ (i := 10) (N := some 31) (v := ?_) (a' := ?_) #[true, true, true, true, true, true, true, true, true, true, true, false, false, false] rfl rfl (any_of HT_.out (by kernel_rfl)) (fun _ _ _ h => h) (Or.inl ⟨by rfl, ?_⟩) ?_ ?_
         rotate_left
         ·
          intro w'
          go_simp
          with_reducible rfl
         rotate_left
         ·
          simp only [Act.put, List.setIfInBounds_toArray, List.set_cons_zero, List.set_cons_succ, i64_w, i32_w]
          rfl
         refine pure_ (i := 11) (N := some 32) (v := ?_) (a' := ?_) #[true, true, true, true, true, true, true, true, true, true, true, true, false, false] rfl rfl (any_of HT_.out (by kernel_rfl)) (fun _ _ _ h => h) (Or.inl ⟨by rfl, ?_⟩) ?_ ?_
         rotate_left
         ·
          intro w'
          go_simp
          with_reducible rfl
         rotate_left
         ·
          simp only [Act.put, List.setIfInBounds_toArray, List.set_cons_zero, List.set_cons_succ, i64_w, i32_w]
          rfl
         refine pure_ (i := 12) (N := some 4) (v := ?_) (a' := ?_) #[true, true, true, true, true, true, true, true, true, true, true, true, true, false] rfl rfl (any_of HT_.out (by kernel_rfl)) (fun _ _ _ h => h) (Or.inl ⟨by rfl, ?_⟩) ?_ ?_
         rotate_left
         ·
          intro w'
          go_simp
          with_reducible rfl
         rotate_left
         ·
          simp only [Act.put, List.setIfInBounds_toArray, List.set_cons_zero, List.set_cons_succ, i64_w, i32_w]
          rfl
         refine pure_ (i := 13) (N := some 5) (v := ?_) (a' := ?_) #[true, true, true, true, true, true, true, true, true, true, true, true, true, true] rfl rfl (any_of HT_.out (by kernel_rfl)) (fun _ _ _ h => h) (Or.inl ⟨by rfl, ?_⟩) ?_ ?_
         rotate_left
         ·
          intro w'
          go_simp
          with_reducible rfl
         rotate_left
         ·
          simp only [Act.put, List.setIfInBounds_toArray, List.set_cons_zero, List.set_cons_succ, i64_w, i32_w]
          rfl
         refine done_ (done_of HT_.out (by kernel_rfl)) ?_
         try go_wp2
         go_ret2
         exact ⟨_, by first | rfl | (simp [errW_none, errW_some] <;> rfl) | (simp only [← hji9]; first | rfl | (simp [errW_none, errW_some] <;> rfl)) | (simp [*, errW_none, errW_some] <;> rfl), by (with_reducible repeat (first | apply Kd.R_alloc | apply Kd.R_drewN | apply Kd.R_drew)); exact Kd.R_mono HO726.out (fun _ hk => trivial), uB⟩
        ·
         rw [if_neg c13] at H
         exact absurd H (by simp)
       ·
        rw [if_neg c11] at H
        exact absurd H (by simp)
      ·
       rw [if_neg c10] at H
       exact absurd H (by simp)

end Go.Proofs.Ytgeanpnkllnipab.F
end

section
namespace Go.Proofs.Ytgeanpnkllnipab.F
open Go.RowKit Go.Proofs.YtgeanpnkllnipabW.PrintWords Go.Proofs.YtgeanpnkllnipabW.PrintLast Go.Proofs.YtgeanpnkllnipabW.PrintMore
attribute [local go_sem] max2_int min2_int max_two min_two max_three min_three max_four min_four
set_option linter.unusedVariables false
set_option linter.unusedSimpArgs false

def fixenc_times2.f (k : Nat) (a0_0 : Bool) (l0_1 : List Int) (a1 : Int) : Option (Bool × List Int) := (nat_Shl.f k l0_1 a1).bind fun bt730 => ((modint_From.f a0_0 bt730.1).bind fun bt734 => (some (bt734.1, bt734.2)))
set_option maxHeartbeats 8000000 in
set_option maxRecDepth 100000 in
theorem fixenc_times2.calls (k : Nat) (a0_0 : Bool) (A0_1 : Option Addr) (c0_1 : Nat) (l0_1 : List Int) (a1 : Int) (r1 : Bool) (r2 : List Int) (w : World) (hr0_1 : Kd.C (Kd.int .u64) w A0_1 l0_1.length l0_1) (hc0_1 : l0_1.length ≤ c0_1) (h : fixenc_times2.f k a0_0 l0_1 a1 = some (r1, r2)) :
  Calls Try.prog 57 #[.agg #[.bool a0_0, .slice A0_1 l0_1.length c0_1], .int .i64 a1] w fun e w' => ∃ v1_ : Value, e = .returned (.agg #[.bool r1, v1_]) ∧ Kd.R (Kd.int .u64) 27 w' w.heap.size (fun _ => True) v1_ r2 ∧ Below w.heap.size w w' := by
 have hu52 := Try.underlying52
 have HR0_1 := Aside0.mk hr0_1; have HC0_1 := Aside0.mk hc0_1; clear hr0_1 hc0_1
 have HB := Aside0.mk (Below.refl w.heap.size w)
 have H : ((nat_Shl.f k l0_1 a1).bind fun bt730 => ((modint_From.f a0_0 bt730.1).bind fun bt734 => (some (bt734.1, bt734.2)))) = some (r1, r2) := h
 clear h
 replace H := Option.bind_eq_some_iff.mp H
 obtain ⟨⟨t730, t731⟩, A30, H⟩ := H
 replace H : ((modint_From.f a0_0 t730).bind fun bt734 => (some (bt734.1, bt734.2))) = some (r1, r2) := H
 have A3 := Aside0.mk A30; clear A30
 replace H := Option.bind_eq_some_iff.mp H
 obtain ⟨⟨t734, t735⟩, A40, H⟩ := H
 replace H : (some (t734, t735)) = some (r1, r2) := H
 have A4 := Aside0.mk A40; clear A40
 simp only [Option.some.injEq, Prod.mk.injEq] at H
 obtain ⟨rfl, rfl⟩ := H
 go_enter Try.func57, Try.ntmps57
 go_wp2_with (first | ((with_reducible refine gate_dst (N := 2) rfl ?_); refine box_event ?hg (N := 2) ?hd (cs := #[.bool a0_0, .slice A0_1 l0_1.length c0_1]) (t := 52) ?hr ?_; (case hd => rfl); (case hg => rfl); (case hr => first | (go_simp; done) | (go_simp; rfl)); intro gb728 hg w5 hbox hb; have n0_ := Aside0.mk (below_step uB hb); have n1_ := Aside0.mk (hbox); have n2_ := Aside0.mk ((by rw [hg]; exact (below_size uB) : w.heap.size ≤ gb728)); have n3_ := Aside0.mk ((by rw [hg]; exact (below_size uB) : w.heap.size ≤ gb728)); clear HB; have HB := n0_; have BK728 := n1_; have GW728 := n2_; have GE728 := n3_; clear n0_ n1_ n2_ n3_; clear hb hbox hg) | ((with_reducible refine gate_dst (N := 4) rfl ?_); refine box_event ?hg (N := 4) ?hd (cs := #[.bool false, .slice none 0 0]) (t := 52) ?hr ?_; (case hd => rfl); (case hg => rfl); (case hr => first | (go_simp; done) | (go_simp; rfl)); intro gb729 hg w6 hbox hb; have n0_ := Aside0.mk (blk_below (uK BK728.out) hb); have n1_ := Aside0.mk (below_step uB hb); have n2_ := Aside0.mk (hbox); have n3_ := Aside0.mk ((by rw [hg]; exact (below_size uB) : w.heap.size ≤ gb729)); have n4_ := Aside0.mk ((by rw [hg]; exact (below_size uB) : w.heap.size ≤ gb729)); have n5_ := Aside0.mk ((by rw [hg]; exact Nat.ne_of_lt (blk_lt (uK BK728.out)) : gb728 ≠ gb729)); have n6_ := Aside0.mk ((by rw [hg]; exact Nat.ne_of_gt (blk_lt (uK BK728.out)) : gb729 ≠ gb728)); clear BK728; clear HB; have BK728 := n0_; have HB := n1_; have BK729 := n2_; have GW729 := n3_; have GE729 := n4_; have NB728_729 := n5_; have NB729_728 := n6_; clear n0_ n1_ n2_ n3_ n4_ n5_ n6_; clear hb hbox hg; have hnb7 := NB728_729.out; have hnc7 := NB729_728.out; have hcz8_0 : w6.cell? ⟨gb728, 0, none⟩ = some (.bool a0_0) := (blk_cell BK728.out 0).trans rfl; have hcz8_1 : w6.cell? ⟨gb728, 1, none⟩ = some (.slice A0_1 l0_1.length c0_1) := (blk_cell BK728.out 1).trans rfl; have hfz8_0 := blk_frozen BK728.out 0; have hfz8_1 := blk_frozen BK728.out 1) | ((with_reducible refine gate_callee (f := 101) rfl ?_); refine goesL_ (some 11) rfl rfl Try.func101 (by kernel_rfl) rfl #[.slice A0_1 l0_1.length c0_1, .int .i64 a1] rfl uM ?_; (with_reducible refine (nat_Shl.calls k _ _ l0_1 a1 t730 t731 _ ?side1 ?side2 A3.out).mono ?_); (case side1 => exact uC (Kd.C_below HR0_1.out HB.out)); (case side2 => exact HC0_1.out); rintro e w9 ⟨v732, rfl, ho0, hb⟩; refine ⟨_, rfl, ?_⟩; have n0_ := Aside0.mk (Kd.R_lower ho0 (below_size uB)); have n1_ := Aside0.mk (blk_below (uK BK728.out) hb); have n2_ := Aside0.mk (blk_below (uK BK729.out) hb); have n3_ := Aside0.mk (below_step uB hb); clear BK728; clear BK729; clear HB; have HO733 := n0_; have BK728 := n1_; have BK729 := n2_; have HB := n3_; clear n0_ n1_ n2_ n3_; (try clear hb); (try clear hb2); (try clear hk); (try clear hi); (try clear ho0); have hcz10_0 : w9.cell? ⟨gb728, 0, none⟩ = some (.bool a0_0) := (blk_cell BK728.out 0).trans rfl; have hcz10_1 : w9.cell? ⟨gb728, 1, none⟩ = some (.slice A0_1 l0_1.length c0_1) := (blk_cell BK728.out 1).trans rfl; have hfz10_0 := blk_frozen BK728.out 0; have hfz10_1 := blk_frozen BK728.out 1; obtain ⟨Ao11, co11, eo11⟩ := Kd.R_slice HO733.out; subst eo11) | ((with_reducible refine gate_callee (f := 83) rfl ?_); refine goesL_ (some 17) rfl rfl Try.func83 (by kernel_rfl) rfl #[.bool a0_0, .slice Ao11 t730.length co11] rfl uM ?_; (with_reducible refine (modint_From.calls a0_0 _ _ t730 t734 t735 _ ?side1 ?side2 A4.out).mono ?_); (case side1 => exact uC (Kd.R_reads' HO733.out).2.2); (case side2 => exact (Kd.R_reads' HO733.out).2.1); rintro e w12 ⟨v736, rfl, ho0, hb⟩; refine ⟨_, rfl, ?_⟩; have n0_ := Aside0.mk (Kd.R_elder' (uR HO733.out) (Kd.R_base ho0) hb); have n1_ := Aside0.mk (Kd.R_lower (Kd.R_new' ho0 (Kd.R_lt (uR HO733.out))) (below_size uB)); have n2_ := Aside0.mk (blk_below (uK BK728.out) hb); have n3_ := Aside0.mk (blk_below (uK BK729.out) hb); have n4_ := Aside0.mk (below_step uB hb); clear HO733; clear BK728; clear BK729; clear HB; have HO733 := n0_; have HO737 := n1_; have BK728 := n2_; have BK729 := n3_; have HB := n4_; clear n0_ n1_ n2_ n3_ n4_; (try clear hb); (try clear hb2); (try clear hk); (try clear hi); (try clear ho0); have hcz13_0 : w12.cell? ⟨gb729, 0, none⟩ = some (.bool false) := (blk_cell BK729.out 0).trans rfl; have hcz13_1 : w12.cell? ⟨gb729, 1, none⟩ = some (.slice none 0 0) := (blk_cell BK729.out 1).trans rfl; have hfz13_0 := blk_frozen BK729.out 0; have hfz13_1 := blk_frozen BK729.out 1; obtain ⟨Ao14, co14, eo14⟩ := Kd.R_slice HO737.out; subst eo14))
 refine bodyPost_ret (results_cell_row rfl _ _ gb729 52 #[.bool t734, .slice Ao14 t735.length co14] (0, 0) _ rfl (by (with_reducible repeat (first | refine blk_drewN ?_ _ | refine blk_drew ?_ | refine blk_alloc ?_ _)); refine blk_put (cs := #[.bool t734, .slice none 0 0]) ?_ 1 _ rfl; (with_reducible repeat (first | refine blk_drewN ?_ _ | refine blk_drew ?_ | refine blk_alloc ?_ _)); refine blk_put (cs := #[.bool false, .slice none 0 0]) ?_ 0 _ rfl; (with_reducible repeat (first | refine blk_drewN ?_ _ | refine blk_drew ?_ | refine blk_alloc ?_ _)); exact BK729.out) Try.underlying52 rfl (by kernel_rfl)) rfl ?_
 exact ⟨_, by first | rfl | (simp [errW_none, errW_some] <;> rfl) | (simp [*, errW_none, errW_some] <;> rfl), by (with_reducible repeat (first | apply Kd.R_alloc | apply Kd.R_drewN | apply Kd.R_drew)); exact Kd.R_mono (Kd.R_far (p := ⟨gb729, 1, none⟩) (Kd.R_far (p := ⟨gb729, 0, none⟩) (Kd.R_types HO737.out BK729.out (by decide)) (fun _ hk => hk.2) (.bool t734)) (fun _ hk => hk.2) (.slice Ao14 t735.length co14)) (fun _ hk => trivial), uB⟩

end Go.Proofs.Ytgeanpnkllnipab.F
end

section
namespace Go.Proofs.Ytgeanpnkllnipab.F
open Go.RowKit Go.Proofs.YtgeanpnkllnipabW.PrintWords Go.Proofs.YtgeanpnkllnipabW.PrintLast Go.Proofs.YtgeanpnkllnipabW.PrintMore
attribute [local go_sem] max2_int min2_int max_two min_two max_three min_three max_four min_four
set_option linter.unusedVariables false
set_option linter.unusedSimpArgs false

def nat_Of.f (k : Nat) (a0 : Int) : Option (List Int) := (nat_trim.f k (([a0] : List Int))).bind fun t118 => (some t118)
set_option maxHeartbeats 8000000 in
set_option maxRecDepth 100000 in
theorem nat_Of.calls (k : Nat) (a0 : Int) (r : List Int) (w : World) (h : nat_Of.f k a0 = some r) :
  Calls Try.prog 102 #[.int .u64 a0] w fun e w' => ∃ v0_ : Value, e = .returned (v0_) ∧ Kd.R (Kd.int .u64) 27 w' w.heap.size (fun _ => True) v0_ r ∧ Below w.heap.size w w' := by
 have HB := Aside0.mk (Below.refl w.heap.size w)
 have H : ((nat_trim.f k (([a0] : List Int))).bind fun t118 => (some t118)) = some r := h
 clear h
 obtain ⟨y115, hy115⟩ : ∃ y_ : List Int, y_ = (([a0] : List Int)) := ⟨_, rfl⟩
 replace H : ((nat_trim.f k y115).bind fun t118 => (some t118)) = some r := by first | (rw [hy115]; with_reducible exact H) | (have H2_ := (Option.bind_some _ _).symm.trans H; rw [hy115]; with_reducible exact H2_) | (have H2_ := (Option.bind_some _ _).symm.trans H; with_reducible exact H2_) | with_reducible exact H | (rw [hy115]; exact H) | exact H
 have Ny115 := Aside0.mk hy115; clear hy115
 replace H := Option.bind_eq_some_iff.mp H
 obtain ⟨t118, A20, H⟩ := H
 replace H : (some t118) = some r := H
 have A2 := Aside0.mk A20; clear A20
 obtain rfl := Option.some.inj H
 go_enter Try.func102, Try.ntmps102
 go_wp2_with (first | ((with_reducible refine gate_dst (N := 4) rfl ?_); refine Kd.R_lit (Kd.int .u64) _ 27 ?hg (N := 4) ?hd (xs := ([a0] : List Int)) (inner := [.int .u64 a0]) (ok := fun _ => True) (okp := fun _ => True) ?hr ?hp (fun _ hk => hk) trivial (Below.refl _ _) (Nat.le_refl _) (by simp) ?_; (case hd => rfl); (case hg => rfl); (case hr => first | (go_simp; done) | (go_simp; rfl) | (go_simp; simp only [u64_u8]; done) | (go_simp; simp only [u64_u8]; rfl)); (case hp => exact (Reps.one (show Kd.M (Kd.int .u64) _ _ _ a0 [.int .u64 a0] from rfl) (Reps.none _ _))); intro v116 w3 ho4 hb hg_ hnew_; clear hg_ hnew_; (first | rw [← Ny115.out] at ho4 | (simp only [Int.reduceToNat] at ho4; rw [← Ny115.out] at ho4)); have n0_ := Aside0.mk (Kd.R_lower ho4 (below_size uB)); have n1_ := Aside0.mk (below_step uB hb); clear HB; have HO117 := n0_; have HB := n1_; clear n0_ n1_; clear hb ho4; obtain ⟨Ao5, co5, eo5⟩ := Kd.R_slice HO117.out; subst eo5) | ((with_reducible refine gate_callee (f := 125) rfl ?_); refine goesL_ (some 5) rfl rfl Try.func125 (by kernel_rfl) rfl #[.slice Ao5 y115.length co5] rfl uM ?_; (with_reducible refine (nat_trim.calls k (fun k_ => some k_ = (.slice Ao5 y115.length co5 : Value).ownBlock) (.slice Ao5 y115.length co5) y115 t118 w _ ?side1 ?side2 A2.out).mono ?_); (case side1 => repeat (first | (with_reducible first | exact HB.out | apply below_alloc | apply pw_below_drewN | apply below_drew1) | exact HB.out)); (case side2 => exact Kd.R_tight rfl HO117.out); rintro e w6 ⟨v119, rfl, ho0, hb, hkp⟩; refine ⟨_, rfl, ?_⟩; have n0_ := Aside0.mk (Kd.R_mono (ok' := fun k_ => True) ho0 (fun k_ hk_ => trivial)); have n1_ := Aside0.mk (hb); clear HB; clear HO117; have HO120 := n0_; have HB := n1_; clear n0_ n1_; (try clear hb); (try clear hkp); (try clear ho0)))
 go_ret
 exact ⟨_, by first | rfl | (simp [errW_none, errW_some] <;> rfl) | (simp [*, errW_none, errW_some] <;> rfl), uR HO120.out, uB⟩

end Go.Proofs.Ytgeanpnkllnipab.F
end

section
namespace Go.Proofs.Ytgeanpnkllnipab.F
open Go.RowKit Go.Proofs.YtgeanpnkllnipabW.PrintWords Go.Proofs.YtgeanpnkllnipabW.PrintLast Go.Proofs.YtgeanpnkllnipabW.PrintMore
attribute [local go_sem] max2_int min2_int max_two min_two max_three min_three max_four min_four
set_option linter.unusedVariables false
set_option linter.unusedSimpArgs false

def modint_Of.f (k : Nat) (a0 : Int) : Option (Bool × List Int) := if a0 < 0 then ((nat_Of.f k (IntKind.u64.wrap (-(IntKind.u64.wrap (a0))))).bind fun t739 => ((modint_From.f true t739).bind fun bt742 => (some (bt742.1, bt742.2)))) else ((nat_Of.f k (IntKind.u64.wrap (a0))).bind fun t746 => ((modint_From.f false t746).bind fun bt749 => (some (bt749.1, bt749.2))))
set_option maxHeartbeats 8000000 in
set_option maxRecDepth 100000 in
theorem modint_Of.calls (k : Nat) (a0 : Int) (r1 : Bool) (r2 : List Int) (w : World) (h : modint_Of.f k a0 = some (r1, r2)) :
  Calls Try.prog 58 #[.int .i64 a0] w fun e w' => ∃ v1_ : Value, e = .returned (.agg #[.bool r1, v1_]) ∧ Kd.R (Kd.int .u64) 27 w' w.heap.size (fun _ => True) v1_ r2 ∧ Below w.heap.size w w' := by
 have hu52 := Try.underlying52
 have HB := Aside0.mk (Below.refl w.heap.size w)
 have H : (if a0 < 0 then ((nat_Of.f k (IntKind.u64.wrap (-(IntKind.u64.wrap (a0))))).bind fun t739 => ((modint_From.f true t739).bind fun bt742 => (some (bt742.1, bt742.2)))) else ((nat_Of.f k (IntKind.u64.wrap (a0))).bind fun t746 => ((modint_From.f false t746).bind fun bt749 => (some (bt749.1, bt749.2))))) = some (r1, r2) := h
 clear h
 by_cases c2 : a0 < 0
 ·
  rw [if_pos c2] at H
  have c2b0 : decide (a0 < 0) = true := decide_eq_true c2
  clear c2
  replace H := Option.bind_eq_some_iff.mp H
  obtain ⟨t739, A30, H⟩ := H
  replace H : ((modint_From.f true t739).bind fun bt742 => (some (bt742.1, bt742.2))) = some (r1, r2) := H
  have A3 := Aside0.mk A30; clear A30
  replace H := Option.bind_eq_some_iff.mp H
  obtain ⟨⟨t742, t743⟩, A40, H⟩ := H
  replace H : (some (t742, t743)) = some (r1, r2) := H
  have A4 := Aside0.mk A40; clear A40
  simp only [Option.some.injEq, Prod.mk.injEq] at H
  obtain ⟨rfl, rfl⟩ := H
  go_enter Try.func58, Try.ntmps58
  go_wp2_with (first | ((with_reducible refine gate_dst (N := 2) rfl ?_); refine box_event ?hg (N := 2) ?hd (cs := #[.bool false, .slice none 0 0]) (t := 52) ?hr ?_; (case hd => rfl); (case hg => rfl); (case hr => first | (go_simp; done) | (go_simp; rfl)); intro gb738 hg w5 hbox hb; have n0_ := Aside0.mk (below_step uB hb); have n1_ := Aside0.mk (hbox); have n2_ := Aside0.mk ((by rw [hg]; exact (below_size uB) : w.heap.size ≤ gb738)); have n3_ := Aside0.mk ((by rw [hg]; exact (below_size uB) : w.heap.size ≤ gb738)); clear HB; have HB := n0_; have BK738 := n1_; have GW738 := n2_; have GE738 := n3_; clear n0_ n1_ n2_ n3_; clear hb hbox hg) | ((with_reducible refine gate_callee (f := 102) rfl ?_); refine goesL_ (some 8) rfl rfl Try.func102 (by kernel_rfl) rfl #[.int .u64 (IntKind.u64.wrap (-(IntKind.u64.wrap (a0))))] rfl uM ?_; (with_reducible refine (nat_Of.calls k (IntKind.u64.wrap (-(IntKind.u64.wrap (a0)))) t739 _ A3.out).mono ?_); rintro e w6 ⟨v740, rfl, ho0, hb⟩; refine ⟨_, rfl, ?_⟩; have n0_ := Aside0.mk (Kd.R_lower ho0 (below_size uB)); have n1_ := Aside0.mk (blk_below (uK BK738.out) hb); have n2_ := Aside0.mk (below_step uB hb); clear BK738; clear HB; have HO741 := n0_; have BK738 := n1_; have HB := n2_; clear n0_ n1_ n2_; (try clear hb); (try clear hb2); (try clear hk); (try clear hi); (try clear ho0); obtain ⟨Ao7, co7, eo7⟩ := Kd.R_slice HO741.out; subst eo7) | ((with_reducible refine gate_callee (f := 83) rfl ?_); refine goesL_ (some 9) rfl rfl Try.func83 (by kernel_rfl) rfl #[.bool true, .slice Ao7 t739.length co7] rfl uM ?_; (with_reducible refine (modint_From.calls true _ _ t739 t742 t743 _ ?side1 ?side2 A4.out).mono ?_); (case side1 => exact uC (Kd.R_reads' HO741.out).2.2); (case side2 => exact (Kd.R_reads' HO741.out).2.1); rintro e w8 ⟨v744, rfl, ho0, hb⟩; refine ⟨_, rfl, ?_⟩; have n0_ := Aside0.mk (Kd.R_elder' (uR HO741.out) (Kd.R_base ho0) hb); have n1_ := Aside0.mk (Kd.R_lower (Kd.R_new' ho0 (Kd.R_lt (uR HO741.out))) (below_size uB)); have n2_ := Aside0.mk (blk_below (uK BK738.out) hb); have n3_ := Aside0.mk (below_step uB hb); clear HO741; clear BK738; clear HB; have HO741 := n0_; have HO745 := n1_; have BK738 := n2_; have HB := n3_; clear n0_ n1_ n2_ n3_; (try clear hb); (try clear hb2); (try clear hk); (try clear hi); (try clear ho0); have hcz9_0 : w8.cell? ⟨gb738, 0, none⟩ = some (.bool false) := (blk_cell BK738.out 0).trans rfl; have hcz9_1 : w8.cell? ⟨gb738, 1, none⟩ = some (.slice none 0 0) := (blk_cell BK738.out 1).trans rfl; have hfz9_0 := blk_frozen BK738.out 0; have hfz9_1 := blk_frozen BK738.out 1; obtain ⟨Ao10, co10, eo10⟩ := Kd.R_slice HO745.out; subst eo10))
  refine bodyPost_ret (results_cell_row rfl _ _ gb738 52 #[.bool t742, .slice Ao10 t743.length co10] (0, 0) _ rfl (by (with_reducible repeat (first | refine blk_drewN ?_ _ | refine blk_drew ?_ | refine blk_alloc ?_ _)); refine blk_put (cs := #[.bool t742, .slice none 0 0]) ?_ 1 _ rfl; (with_reducible repeat (first | refine blk_drewN ?_ _ | refine blk_drew ?_ | refine blk_alloc ?_ _)); refine blk_put (cs := #[.bool false, .slice none 0 0]) ?_ 0 _ rfl; (with_reducible repeat (first | refine blk_drewN ?_ _ | refine blk_drew ?_ | refine blk_alloc ?_ _)); exact BK738.out) Try.underlying52 rfl (by kernel_rfl)) rfl ?_
  exact ⟨_, by first | rfl | (simp [errW_none, errW_some] <;> rfl) | (simp [*, errW_none, errW_some] <;> rfl), by (with_reducible repeat (first | apply Kd.R_alloc | apply Kd.R_drewN | apply Kd.R_drew)); exact Kd.R_mono (Kd.R_far (p := ⟨gb738, 1, none⟩) (Kd.R_far (p := ⟨gb738, 0, none⟩) (Kd.R_types HO745.out BK738.out (by decide)) (fun _ hk => hk.2) (.bool t742)) (fun _ hk => hk.2) (.slice Ao10 t743.length co10)) (fun _ hk => trivial), uB⟩
 ·
  rw [if_neg c2] at H
  have c2b0 : decide (a0 < 0) = false := decide_eq_false c2
  clear c2
  replace H := Option.bind_eq_some_iff.mp H
  obtain ⟨t746, A110, H⟩ := H
  replace H : ((modint_From.f false t746).bind fun bt749 => (some (bt749.1, bt749.2))) = some (r1, r2) := H
  have A11 := Aside0.mk A110; clear A110
  replace H := Option.bind_eq_some_iff.mp H
  obtain ⟨⟨t749, t750⟩, A120, H⟩ := H
  replace H : (some (t749, t750)) = some (r1, r2) := H
  have A12 := Aside0.mk A120; clear A120
  simp only [Option.some.injEq, Prod.mk.injEq] at H
  obtain ⟨rfl, rfl⟩ := H
  go_enter Try.func58, Try.ntmps58
  go_wp2_with (first | ((with_reducible refine gate_dst (N := 2) rfl ?_); refine box_event ?hg (N := 2) ?hd (cs := #[.bool false, .slice none 0 0]) (t := 52) ?hr ?_; (case hd => rfl); (case hg => rfl); (case hr => first | (go_simp; done) | (go_simp; rfl)); intro gb738 hg w13 hbox hb; have n0_ := Aside0.mk (below_step uB hb); have n1_ := Aside0.mk (hbox); have n2_ := Aside0.mk ((by rw [hg]; exact (below_size uB) : w.heap.size ≤ gb738)); have n3_ := Aside0.mk ((by rw [hg]; exact (below_size uB) : w.heap.size ≤ gb738)); clear HB; have HB := n0_; have BK738 := n1_; have GW738 := n2_; have GE738 := n3_; clear n0_ n1_ n2_ n3_; clear hb hbox hg) | ((with_reducible refine gate_callee (f := 102) rfl ?_); refine goesL_ (some 12) rfl rfl Try.func102 (by kernel_rfl) rfl #[.int .u64 (IntKind.u64.wrap (a0))] rfl uM ?_; (with_reducible refine (nat_Of.calls k (IntKind.u64.wrap (a0)) t746 _ A11.out).mono ?_); rintro e w14 ⟨v747, rfl, ho0, hb⟩; refine ⟨_, rfl, ?_⟩; have n0_ := Aside0.mk (Kd.R_lower ho0 (below_size uB)); have n1_ := Aside0.mk (blk_below (uK BK738.out) hb); have n2_ := Aside0.mk (below_step uB hb); clear BK738; clear HB; have HO748 := n0_; have BK738 := n1_; have HB := n2_; clear n0_ n1_ n2_; (try clear hb); (try clear hb2); (try clear hk); (try clear hi); (try clear ho0); obtain ⟨Ao15, co15, eo15⟩ := Kd.R_slice HO748.out; subst eo15) | ((with_reducible refine gate_callee (f := 83) rfl ?_); refine goesL_ (some 13) rfl rfl Try.func83 (by kernel_rfl) rfl #[.bool false, .slice Ao15 t746.length co15] rfl uM ?_; (with_reducible refine (modint_From.calls false _ _ t746 t749 t750 _ ?side1 ?side2 A12.out).mono ?_); (case side1 => exact uC (Kd.R_reads' HO748.out).2.2); (case side2 => exact (Kd.R_reads' HO748.out).2.1); rintro e w16 ⟨v751, rfl, ho0, hb⟩; refine ⟨_, rfl, ?_⟩; have n0_ := Aside0.mk (Kd.R_elder' (uR HO748.out) (Kd.R_base ho0) hb); have n1_ := Aside0.mk (Kd.R_lower (Kd.R_new' ho0 (Kd.R_lt (uR HO748.out))) (below_size uB)); have n2_ := Aside0.mk (blk_below (uK BK738.out) hb); have n3_ := Aside0.mk (below_step uB hb); clear HO748; clear BK738; clear HB; have HO748 := n0_; have HO752 := n1_; have BK738 := n2_; have HB := n3_; clear n0_ n1_ n2_ n3_; (try clear hb); (try clear hb2); (try clear hk); (try clear hi); (try clear ho0); have hcz17_0 : w16.cell? ⟨gb738, 0, none⟩ = some (.bool false) := (blk_cell BK738.out 0).trans rfl; have hcz17_1 : w16.cell? ⟨gb738, 1, none⟩ = some (.slice none 0 0) := (blk_cell BK738.out 1).trans rfl; have hfz17_0 := blk_frozen BK738.out 0; have hfz17_1 := blk_frozen BK738.out 1; obtain ⟨Ao18, co18, eo18⟩ := Kd.R_slice HO752.out; subst eo18))
  refine bodyPost_ret (results_cell_row rfl _ _ gb738 52 #[.bool t749, .slice Ao18 t750.length co18] (0, 0) _ rfl (by (with_reducible repeat (first | refine blk_drewN ?_ _ | refine blk_drew ?_ | refine blk_alloc ?_ _)); refine blk_put (cs := #[.bool t749, .slice none 0 0]) ?_ 1 _ rfl; (with_reducible repeat (first | refine blk_drewN ?_ _ | refine blk_drew ?_ | refine blk_alloc ?_ _)); refine blk_put (cs := #[.bool false, .slice none 0 0]) ?_ 0 _ rfl; (with_reducible repeat (first | refine blk_drewN ?_ _ | refine blk_drew ?_ | refine blk_alloc ?_ _)); exact BK738.out) Try.underlying52 rfl (by kernel_rfl)) rfl ?_
  exact ⟨_, by first | rfl | (simp [errW_none, errW_some] <;> rfl) | (simp [*, errW_none, errW_some] <;> rfl), by (with_reducible repeat (first | apply Kd.R_alloc | apply Kd.R_drewN | apply Kd.R_drew)); exact Kd.R_mono (Kd.R_far (p := ⟨gb738, 1, none⟩) (Kd.R_far (p := ⟨gb738, 0, none⟩) (Kd.R_types HO752.out BK738.out (by decide)) (fun _ hk => hk.2) (.bool t749)) (fun _ hk => hk.2) (.slice Ao18 t750.length co18)) (fun _ hk => trivial), uB⟩

end Go.Proofs.Ytgeanpnkllnipab.F
end

section
namespace Go.Proofs.Ytgeanpnkllnipab.F
open Go.RowKit Go.Proofs.YtgeanpnkllnipabW.PrintWords Go.Proofs.YtgeanpnkllnipabW.PrintLast Go.Proofs.YtgeanpnkllnipabW.PrintMore
attribute [local go_sem] max2_int min2_int max_two min_two max_three min_three max_four min_four
set_option linter.unusedVariables false
set_option linter.unusedSimpArgs false

def fixenc_Pack.j0 : Nat → List Int → Int → Int → Int → Bool → Option (List Int × Int)
 | 0, _, _, _, _, _ => none
 | k + 1, x0, x1, x2, x3, x12 => if x12 = true then (some (([] : List Int), 1)) else (if x3 < 0 then (some (([] : List Int), 12)) else (if 0 ≤ x1 then (if (shr .i64 x3 x1) = 0 then ((modint_Of.f k x2).bind fun bt754 => ((fixenc_times2.f k bt754.1 bt754.2 x1).bind fun bt758 => ((modint_Of.f k x3).bind fun bt762 => ((modint_Add.f k bt758.1 bt758.2 bt762.1 bt762.2).bind fun bt766 => ((fixenc_Encode.f k x0 bt766.1 bt766.2.1).bind fun bt772 => (some (bt772.1, bt772.2))))))) else (some (([] : List Int), 12))) else (none)))
def fixenc_Pack.f (k : Nat) (l0 : List Int) (a1 : Int) (a2 : Int) (a3 : Int) : Option (List Int × Int) := (fixenc_modulus_may.f k l0).bind fun t753 => (if t753 = true then (if a1 < 1 then (fixenc_Pack.j0 k l0 a1 a2 a3 true) else (fixenc_Pack.j0 k l0 a1 a2 a3 (decide (a1 > 62)))) else (fixenc_Pack.j0 k l0 a1 a2 a3 true))
set_option maxHeartbeats 8000000 in
set_option maxRecDepth 100000 in
theorem fixenc_Pack.calls (k : Nat) (A0 : Option Addr) (c0 : Nat) (l0 : List Int) (a1 : Int) (a2 : Int) (a3 : Int) (r1 : List Int) (r2 : Int) (w : World) (hr0 : Kd.C (Kd.int .u64) w A0 l0.length l0) (hc0 : l0.length ≤ c0) (h : fixenc_Pack.f k l0 a1 a2 a3 = some (r1, r2)) :
  Calls Try.prog 29 #[.slice A0 l0.length c0, .int .i64 a1, .int .i64 a2, .int .i64 a3] w fun e w' => ∃ v0_ : Value, e = .returned (.tuple #[v0_, .int .i64 r2]) ∧ Kd.R (Kd.int .u64) 27 w' w.heap.size (fun _ => True) v0_ r1 ∧ Below w.heap.size w w' := by
 have hu52 := Try.underlying52
 have HR0 := Aside0.mk hr0; have HC0 := Aside0.mk hc0; clear hr0 hc0
 have HB := Aside0.mk (Below.refl w.heap.size w)
 have H : ((fixenc_modulus_may.f k l0).bind fun t753 => (if t753 = true then (if a1 < 1 then (fixenc_Pack.j0 k l0 a1 a2 a3 true) else (fixenc_Pack.j0 k l0 a1 a2 a3 (decide (a1 > 62)))) else (fixenc_Pack.j0 k l0 a1 a2 a3 true))) = some (r1, r2) := h
 clear h; have HC5 := Aside0.mk H; clear H
 go_enter Try.func29, Try.ntmps29
 go_upto_region 1 with (fail)
 go_cut [12] (fun v12 wc => ∃ (kq : Nat) (x12_4 : Bool), v12 = .bool x12_4 ∧ Aside0 (fixenc_Pack.j0 kq l0 a1 a2 a3 x12_4 = some (r1, r2)) ∧ Aside0 (kq ≤ k) ∧ Aside0 (Below w.heap.size w wc))
 case first =>
  have H := HC5.out
  clear HC5
  replace H := Option.bind_eq_some_iff.mp H
  obtain ⟨t753, A60, H⟩ := H
  replace H : (if t753 = true then (if a1 < 1 then (fixenc_Pack.j0 k l0 a1 a2 a3 true) else (fixenc_Pack.j0 k l0 a1 a2 a3 (decide (a1 > 62)))) else (fixenc_Pack.j0 k l0 a1 a2 a3 true)) = some (r1, r2) := H
  have A6 := Aside0.mk A60; clear A60
  by_cases c7 : t753 = true
  ·
   subst c7
   have H1 : (if a1 < 1 then (fixenc_Pack.j0 k l0 a1 a2 a3 true) else (fixenc_Pack.j0 k l0 a1 a2 a3 (decide (a1 > 62)))) = some (r1, r2) := by rw [if_pos rfl] at H; exact H
   clear H; have H := H1; clear H1
   by_cases c8 : a1 < 1
   ·
    rw [if_pos c8] at H
    have c8b0 : decide (a1 < 1) = true := decide_eq_true c8
    clear c8
    (first | rw [c8b0] | (simp only [i64_w, i32_w]; rw [c8b0]) | skip)
    have H' := Aside0.mk H
    clear H
    go_wp2_with (first | ((with_reducible refine gate_callee (f := 55) rfl ?_); refine goesL_ (some 14) rfl rfl Try.func55 (by kernel_rfl) rfl #[.slice A0 l0.length c0] rfl uM ?_; (with_reducible refine (fixenc_modulus_may.calls k _ _ l0 true _ ?side1 ?side2 A6.out).mono ?_); (case side1 => exact uC (Kd.C_below HR0.out HB.out)); (case side2 => exact HC0.out); rintro e w9 ⟨rfl, hb⟩; refine ⟨_, rfl, ?_⟩; have n0_ := Aside0.mk (below_step uB hb); clear HB; have HB := n0_; clear n0_; (try clear hb); (try clear hb2); (try clear hk); (try clear hi)))
    go_meet
    case rel => exact ⟨_, (true), (by first | rfl | (simp; done) | (simp [*]; done)), H', ⟨by first | omega | exact Nat.le_refl _⟩, ⟨uB⟩⟩
   ·
    rw [if_neg c8] at H
    have c8b0 : decide (a1 < 1) = false := decide_eq_false c8
    clear c8
    (first | rw [c8b0] | (simp only [i64_w, i32_w]; rw [c8b0]) | skip)
    have H' := Aside0.mk H
    clear H
    go_wp2_with (first | ((with_reducible refine gate_callee (f := 55) rfl ?_); refine goesL_ (some 14) rfl rfl Try.func55 (by kernel_rfl) rfl #[.slice A0 l0.length c0] rfl uM ?_; (with_reducible refine (fixenc_modulus_may.calls k _ _ l0 true _ ?side1 ?side2 A6.out).mono ?_); (case side1 => exact uC (Kd.C_below HR0.out HB.out)); (case side2 => exact HC0.out); rintro e w10 ⟨rfl, hb⟩; refine ⟨_, rfl, ?_⟩; have n0_ := Aside0.mk (below_step uB hb); clear HB; have HB := n0_; clear n0_; (try clear hb); (try clear hb2); (try clear hk); (try clear hi)))
    go_meet
    case rel => exact ⟨_, (decide (a1 > 62)), (by first | rfl | (simp; done) | (simp [*]; done)), H', ⟨by first | omega | exact Nat.le_refl _⟩, ⟨uB⟩⟩
  ·
   replace c7 := Bool.eq_false_iff.mpr c7
   subst c7
   have H1 : (fixenc_Pack.j0 k l0 a1 a2 a3 true) = some (r1, r2) := by rw [if_neg (show ¬ (false = true) by decide)] at H; exact H
   clear H; have H := H1; clear H1
   have H' := Aside0.mk H
   clear H
   go_wp2_with (first | ((with_reducible refine gate_callee (f := 55) rfl ?_); refine goesL_ (some 14) rfl rfl Try.func55 (by kernel_rfl) rfl #[.slice A0 l0.length c0] rfl uM ?_; (with_reducible refine (fixenc_modulus_may.calls k _ _ l0 false _ ?side1 ?side2 A6.out).mono ?_); (case side1 => exact uC (Kd.C_below HR0.out HB.out)); (case side2 => exact HC0.out); rintro e w11 ⟨rfl, hb⟩; refine ⟨_, rfl, ?_⟩; have n0_ := Aside0.mk (below_step uB hb); clear HB; have HB := n0_; clear n0_; (try clear hb); (try clear hb2); (try clear hk); (try clear hi)))
   go_meet
   case rel => exact ⟨_, (true), (by first | rfl | (simp; done) | (simp [*]; done)), H', ⟨by first | omega | exact Nat.le_refl _⟩, ⟨uB⟩⟩
 case rest =>
  clear HC5
  try clear c2
  try clear p2
  try clear c5
  try clear c7
  try clear c8
  try clear c8b0
  obtain ⟨kq, x12_4, rfl, HA, HJ4, HB⟩ := hcut
  cases kq with
  | zero => exact absurd HA.out (by simp [fixenc_Pack.j0])
  | succ kj4 =>
   have H := HA.out
   clear HA
   simp only [fixenc_Pack.j0] at H
   by_cases c12 : x12_4 = true
   ·
    subst c12
    have H1 : (some (([] : List Int), 1)) = some (r1, r2) := by rw [if_pos rfl] at H; exact H
    clear H; have H := H1; clear H1
    simp only [Option.some.injEq, Prod.mk.injEq] at H
    obtain ⟨rfl, rfl⟩ := H
    go_wp2
    go_ret2
    exact ⟨_, by first | rfl | (simp [errW_none, errW_some] <;> rfl) | (simp [*, errW_none, errW_some] <;> rfl), by first | exact Kd.R_nil _ _ _ _ _ | exact Kd.N_nil _ _ _ _ _ | exact Kd.V_nil _ _ _ _ _ | exact Kd.Q_nil _ _ _ _ _ | exact Kd.S_nil _ _ _ _ _, uB⟩
   ·
    replace c12 := Bool.eq_false_iff.mpr c12
    subst c12
    have H1 : (if a3 < 0 then (some (([] : List Int), 12)) else (if 0 ≤ a1 then (if (shr .i64 a3 a1) = 0 then ((modint_Of.f kj4 a2).bind fun bt754 => ((fixenc_times2.f kj4 bt754.1 bt754.2 a1).bind fun bt758 => ((modint_Of.f kj4 a3).bind fun bt762 => ((modint_Add.f kj4 bt758.1 bt758.2 bt762.1 bt762.2).bind fun bt766 => ((fixenc_Encode.f kj4 l0 bt766.1 bt766.2.1).bind fun bt772 => (some (bt772.1, bt772.2))))))) else (some (([] : List Int), 12))) else (none))) = some (r1, r2) := by rw [if_neg (show ¬ (false = true) by decide)] at H; exact H
    clear H; have H := H1; clear H1
    by_cases c13 : a3 < 0
    ·
     rw [if_pos c13] at H
     have c13b0 : decide (a3 < 0) = true := decide_eq_true c13
     clear c13
     simp only [Option.some.injEq, Prod.mk.injEq] at H
     obtain ⟨rfl, rfl⟩ := H
     go_wp2
     go_ret2
     exact ⟨_, by first | rfl | (simp [errW_none, errW_some] <;> rfl) | (simp [*, errW_none, errW_some] <;> rfl), by first | exact Kd.R_nil _ _ _ _ _ | exact Kd.N_nil _ _ _ _ _ | exact Kd.V_nil _ _ _ _ _ | exact Kd.Q_nil _ _ _ _ _ | exact Kd.S_nil _ _ _ _ _, uB⟩
    ·
     rw [if_neg c13] at H
     have c13b0 : decide (a3 < 0) = false := decide_eq_false c13
     clear c13
     by_cases c14 : 0 ≤ a1
     ·
      rw [if_pos c14] at H
      have c14b0 := eq_true c14
      have c14b1 : decide (0 ≤ a1) = true := decide_eq_true c14
      clear c14
      obtain ⟨ji15, hji15⟩ : ∃ j_ : Int, (shr .i64 a3 a1) = j_ := ⟨_, rfl⟩
      replace H : (if (ji15) = 0 then ((modint_Of.f kj4 a2).bind fun bt754 => ((fixenc_times2.f kj4 bt754.1 bt754.2 a1).bind fun bt758 => ((modint_Of.f kj4 a3).bind fun bt762 => ((modint_Add.f kj4 bt758.1 bt758.2 bt762.1 bt762.2).bind fun bt766 => ((fixenc_Encode.f kj4 l0 bt766.1 bt766.2.1).bind fun bt772 => (some (bt772.1, bt772.2))))))) else (some (([] : List Int), 12))) = some (r1, r2) := by first | (rw [hji15] at H; exact H) | (simp only [hji15] at H ⊢; exact H)
      have hji15_ : (a3 / 2 ^ min a1.toNat 64) = ji15 := hji15
      have hji15z : a1 ≤ 64 → (a3 / 2 ^ a1.toNat) = ji15 := shr_small hji15
      by_cases c16 : (ji15) = 0
      ·
       rw [if_pos c16] at H
       have c16b0 : ((ji15) == 0) = true := beq_iff_eq.mpr c16
       have c16b1 : ((ji15) != 0) = false := bne_eq_false_iff_eq.mpr c16
       clear c16
       replace H := Option.bind_eq_some_iff.mp H
       obtain ⟨⟨t754, t755⟩, A170, H⟩ := H
       replace H : ((fixenc_times2.f kj4 t754 t755 a1).bind fun bt758 => ((modint_Of.f kj4 a3).bind fun bt762 => ((modint_Add.f kj4 bt758.1 bt758.2 bt762.1 bt762.2).bind fun bt766 => ((fixenc_Encode.f kj4 l0 bt766.1 bt766.2.1).bind fun bt772 => (some (bt772.1, bt772.2)))))) = some (r1, r2) := H
       have A17 := Aside0.mk A170; clear A170
       replace H := Option.bind_eq_some_iff.mp H
       obtain ⟨⟨t758, t759⟩, A180, H⟩ := H
       replace H : ((modint_Of.f kj4 a3).bind fun bt762 => ((modint_Add.f kj4 t758 t759 bt762.1 bt762.2).bind fun bt766 => ((fixenc_Encode.f kj4 l0 bt766.1 bt766.2.1).bind fun bt772 => (some (bt772.1, bt772.2))))) = some (r1, r2) := H
       have A18 := Aside0.mk A180; clear A180
       replace H := Option.bind_eq_some_iff.mp H
       obtain ⟨⟨t762, t763⟩, A190, H⟩ := H
       replace H : ((modint_Add.f kj4 t758 t759 t762 t763).bind fun bt766 => ((fixenc_Encode.f kj4 l0 bt766.1 bt766.2.1).bind fun bt772 => (some (bt772.1, bt772.2)))) = some (r1, r2) := H
       have A19 := Aside0.mk A190; clear A190
       replace H := Option.bind_eq_some_iff.mp H
       obtain ⟨⟨t766, t767, t770⟩, A200, H⟩ := H
       replace H : ((fixenc_Encode.f kj4 l0 t766 t767).bind fun bt772 => (some (bt772.1, bt772.2))) = some (r1, r2) := H
       have A20 := Aside0.mk A200; clear A200
       replace H := Option.bind_eq_some_iff.mp H
       obtain ⟨⟨t772, t775⟩, A210, H⟩ := H
       replace H : (some (t772, t775)) = some (r1, r2) := H
       have A21 := Aside0.mk A210; clear A210
       simp only [Option.some.injEq, Prod.mk.injEq] at H
       obtain ⟨rfl, rfl⟩ := H
       go_wp2_with (first | ((with_reducible refine gate_callee (f := 58) rfl ?_); refine goesL_ (some 35) rfl rfl Try.func58 (by kernel_rfl) rfl #[.int .i64 a2] rfl uM ?_; (with_reducible refine (modint_Of.calls kj4 a2 t754 t755 _ A17.out).mono ?_); rintro e w22 ⟨v756, rfl, ho0, hb⟩; refine ⟨_, rfl, ?_⟩; have n0_ := Aside0.mk (Kd.R_lower ho0 (below_size uB)); have n1_ := Aside0.mk (below_step uB hb); clear HB; have HO757 := n0_; have HB := n1_; clear n0_ n1_; (try clear hb); (try clear hb2); (try clear hk); (try clear hi); (try clear ho0); obtain ⟨Ao23, co23, eo23⟩ := Kd.R_slice HO757.out; subst eo23) | ((with_reducible refine gate_callee (f := 57) rfl ?_); refine goesL_ (some 37) rfl rfl Try.func57 (by kernel_rfl) rfl #[.agg #[.bool t754, .slice Ao23 t755.length co23], .int .i64 a1] rfl uM ?_; (with_reducible refine (fixenc_times2.calls kj4 t754 _ _ t755 a1 t758 t759 _ ?side1 ?side2 A18.out).mono ?_); (case side1 => exact uC (Kd.R_reads' HO757.out).2.2); (case side2 => exact (Kd.R_reads' HO757.out).2.1); rintro e w24 ⟨v760, rfl, ho0, hb⟩; refine ⟨_, rfl, ?_⟩; have n0_ := Aside0.mk (Kd.R_elder' (uR HO757.out) (Kd.R_base ho0) hb); have n1_ := Aside0.mk (Kd.R_lower (Kd.R_new' ho0 (Kd.R_lt (uR HO757.out))) (below_size uB)); have n2_ := Aside0.mk (below_step uB hb); clear HO757; clear HB; have HO757 := n0_; have HO761 := n1_; have HB := n2_; clear n0_ n1_ n2_; (try clear hb); (try clear hb2); (try clear hk); (try clear hi); (try clear ho0)) | ((with_reducible refine gate_callee (f := 58) rfl ?_); refine goesL_ (some 39) rfl rfl Try.func58 (by kernel_rfl) rfl #[.int .i64 a3] rfl uM ?_; (with_reducible refine (modint_Of.calls kj4 a3 t762 t763 _ A19.out).mono ?_); rintro e w25 ⟨v764, rfl, ho0, hb⟩; refine ⟨_, rfl, ?_⟩; have n0_ := Aside0.mk (Kd.R_elder' (uR HO757.out) (Kd.R_base ho0) hb); have n1_ := Aside0.mk (Kd.R_elder' (uR HO761.out) (Kd.R_base ho0) hb); have n2_ := Aside0.mk (Kd.R_lower (Kd.R_new' (Kd.R_new' ho0 (Kd.R_lt (uR HO757.out))) (Kd.R_lt (uR HO761.out))) (below_size uB)); have n3_ := Aside0.mk (below_step uB hb); clear HO757; clear HO761; clear HB; have HO757 := n0_; have HO761 := n1_; have HO765 := n2_; have HB := n3_; clear n0_ n1_ n2_ n3_; (try clear hb); (try clear hb2); (try clear hk); (try clear hi); (try clear ho0); obtain ⟨Ao26, co26, eo26⟩ := Kd.R_slice HO761.out; subst eo26; obtain ⟨Ao27, co27, eo27⟩ := Kd.R_slice HO765.out; subst eo27) | ((with_reducible refine gate_callee (f := 56) rfl ?_); refine goesL_ (some 40) rfl rfl Try.func56 (by kernel_rfl) rfl #[.agg #[.bool t758, .slice Ao26 t759.length co26], .agg #[.bool t762, .slice Ao27 t763.length co27]] rfl uM ?_; (with_reducible refine (modint_Add.calls kj4 t758 (fun k_ => some k_ = (.slice Ao26 t759.length co26 : Value).ownBlock) _ _ t759 t762 (fun k_ => some k_ = (.slice Ao27 t763.length co27 : Value).ownBlock) _ _ t763 t766 t767 t770 _ ?side1 ?side2 A20.out).mono ?_); (case side1 => exact Kd.R_V (Kd.R_tight rfl (HO761.out))); (case side2 => exact Kd.R_V (Kd.R_tight rfl (HO765.out))); rintro e w28 ⟨v768, rfl, ho0, hb⟩; refine ⟨_, rfl, ?_⟩; have n0_ := Aside0.mk (Kd.R_elder' (uR HO757.out) (Kd.R_base ho0) hb); have n1_ := Aside0.mk (Kd.R_elder' (uR HO761.out) (Kd.R_base ho0) hb); have n2_ := Aside0.mk (Kd.R_elder' (uR HO765.out) (Kd.R_base ho0) hb); have n3_ := Aside0.mk (Kd.R_lower (Kd.R_new' (Kd.R_new' (Kd.R_new' (Kd.R_mono (ok' := fun k_ => True) ho0 (fun _ hk_ => trivial)) (Kd.R_lt (uR HO757.out))) (Kd.R_lt (uR HO761.out))) (Kd.R_lt (uR HO765.out))) (below_size uB)); have n4_ := Aside0.mk (below_step uB hb); clear HO757; clear HO761; clear HO765; clear HB; have HO757 := n0_; have HO761 := n1_; have HO765 := n2_; have HO769 := n3_; have HB := n4_; clear n0_ n1_ n2_ n3_ n4_; (try clear hb); (try clear hb2); (try clear hk); (try clear hi); (try clear ho0)) | ((with_reducible refine gate_dst (N := 10) rfl ?_); refine box_event ?hg (N := 10) ?hd (cs := #[.bool false, .slice none 0 0]) (t := 52) ?hr ?_; (case hd => rfl); (case hg => rfl); (case hr => first | (go_simp; done) | (go_simp; rfl)); intro gb771 hg w29 hbox hb; have n0_ := Aside0.mk (Kd.R_below (uR HO757.out) hb); have n1_ := Aside0.mk (Kd.R_below (uR HO761.out) hb); have n2_ := Aside0.mk (Kd.R_below (uR HO765.out) hb); have n3_ := Aside0.mk (Kd.R_below (uR HO769.out) hb); have n4_ := Aside0.mk (below_step uB hb); have n5_ := Aside0.mk (hbox); have n6_ := Aside0.mk ((by rw [hg]; exact (below_size uB) : w.heap.size ≤ gb771)); have n7_ := Aside0.mk ((by rw [hg]; exact (below_size uB) : w.heap.size ≤ gb771)); clear HO757; clear HO761; clear HO765; clear HO769; clear HB; have HO757 := n0_; have HO761 := n1_; have HO765 := n2_; have HO769 := n3_; have HB := n4_; have BK771 := n5_; have GW771 := n6_; have GE771 := n7_; clear n0_ n1_ n2_ n3_ n4_ n5_ n6_ n7_; clear hb hbox hg; have hcz30_0 : w29.cell? ⟨gb771, 0, none⟩ = some (.bool false) := (blk_cell BK771.out 0).trans rfl; have hcz30_1 : w29.cell? ⟨gb771, 1, none⟩ = some (.slice none 0 0) := (blk_cell BK771.out 1).trans rfl; have hfz30_0 := blk_frozen BK771.out 0; have hfz30_1 := blk_frozen BK771.out 1; obtain ⟨Ao31, co31, eo31⟩ := Kd.R_slice HO769.out; subst eo31) | ((with_reducible refine gate_callee (f := 35) rfl ?_); refine goesL_ (some 45) rfl rfl Try.func35 (by kernel_rfl) rfl #[.slice A0 l0.length c0, .agg #[.bool t766, .slice Ao31 t767.length co31]] rfl uM ?_; (with_reducible refine (fixenc_Encode.calls kj4 _ _ l0 t766 _ _ t767 t772 t775 _ ?side1 ?side2 ?side3 ?side4 A21.out).mono ?_); (case side1 => exact Kd.C_below HR0.out uB); (case side2 => exact HC0.out); (case side3 => refine (Kd.R_reads' (e := 27) (base := w.heap.size) (ok := fun k_ => (((True ∧ some k_ ≠ (.slice Ao23 t755.length co23 : Value).ownBlock) ∧ some k_ ≠ (.slice Ao26 t759.length co26 : Value).ownBlock) ∧ some k_ ≠ (.slice Ao27 t763.length co27 : Value).ownBlock)) (n := t767.length) (c := co31) ?_).2.2; exact (uR ((Kd.R_mono (Kd.R_far (p := ⟨gb771, 1, none⟩) (Kd.R_far (p := ⟨gb771, 0, none⟩) (Kd.R_types HO769.out BK771.out (by decide)) (fun _ hk => hk.2) (.bool t766)) (fun _ hk => hk.2) (.slice Ao31 t767.length co31)) (fun _ h_ => h_.1))))); (case side4 => exact (Kd.R_reads' HO769.out).2.1); rintro e w32 ⟨v773, rfl, ho0, hb⟩; refine ⟨_, rfl, ?_⟩; have n0_ := Aside0.mk (Kd.R_elder' (uR ((Kd.R_mono (Kd.R_far (p := ⟨gb771, 1, none⟩) (Kd.R_far (p := ⟨gb771, 0, none⟩) (Kd.R_types HO757.out BK771.out (by decide)) (fun _ hk => hk.2) (.bool t766)) (fun _ hk => hk.2) (.slice Ao31 t767.length co31)) (fun _ h_ => h_.1)))) (Kd.R_base ho0) hb); have n1_ := Aside0.mk (Kd.R_elder' (uR ((Kd.R_mono (Kd.R_far (p := ⟨gb771, 1, none⟩) (Kd.R_far (p := ⟨gb771, 0, none⟩) (Kd.R_types HO761.out BK771.out (by decide)) (fun _ hk => hk.2) (.bool t766)) (fun _ hk => hk.2) (.slice Ao31 t767.length co31)) (fun _ h_ => h_.1)))) (Kd.R_base ho0) hb); have n2_ := Aside0.mk (Kd.R_elder' (uR ((Kd.R_mono (Kd.R_far (p := ⟨gb771, 1, none⟩) (Kd.R_far (p := ⟨gb771, 0, none⟩) (Kd.R_types HO765.out BK771.out (by decide)) (fun _ hk => hk.2) (.bool t766)) (fun _ hk => hk.2) (.slice Ao31 t767.length co31)) (fun _ h_ => h_.1)))) (Kd.R_base ho0) hb); have n3_ := Aside0.mk (Kd.R_elder' (uR ((Kd.R_mono (Kd.R_far (p := ⟨gb771, 1, none⟩) (Kd.R_far (p := ⟨gb771, 0, none⟩) (Kd.R_types HO769.out BK771.out (by decide)) (fun _ hk => hk.2) (.bool t766)) (fun _ hk => hk.2) (.slice Ao31 t767.length co31)) (fun _ h_ => h_.1)))) (Kd.R_base ho0) hb); have n4_ := Aside0.mk (Kd.R_lower (Kd.R_new' (Kd.R_new' (Kd.R_new' (Kd.R_new' ho0 (Kd.R_lt (uR ((Kd.R_mono (Kd.R_far (p := ⟨gb771, 1, none⟩) (Kd.R_far (p := ⟨gb771, 0, none⟩) (Kd.R_types HO757.out BK771.out (by decide)) (fun _ hk => hk.2) (.bool t766)) (fun _ hk => hk.2) (.slice Ao31 t767.length co31)) (fun _ h_ => h_.1)))))) (Kd.R_lt (uR ((Kd.R_mono (Kd.R_far (p := ⟨gb771, 1, none⟩) (Kd.R_far (p := ⟨gb771, 0, none⟩) (Kd.R_types HO761.out BK771.out (by decide)) (fun _ hk => hk.2) (.bool t766)) (fun _ hk => hk.2) (.slice Ao31 t767.length co31)) (fun _ h_ => h_.1)))))) (Kd.R_lt (uR ((Kd.R_mono (Kd.R_far (p := ⟨gb771, 1, none⟩) (Kd.R_far (p := ⟨gb771, 0, none⟩) (Kd.R_types HO765.out BK771.out (by decide)) (fun _ hk => hk.2) (.bool t766)) (fun _ hk => hk.2) (.slice Ao31 t767.length co31)) (fun _ h_ => h_.1)))))) (Kd.R_lt (uR ((Kd.R_mono (Kd.R_far (p := ⟨gb771, 1, none⟩) (Kd.R_far (p := ⟨gb771, 0, none⟩) (Kd.R_types HO769.out BK771.out (by decide)) (fun _ hk => hk.2) (.bool t766)) (fun _ hk => hk.2) (.slice Ao31 t767.length co31)) (fun _ h_ => h_.1)))))) (below_size uB)); have n5_ := Aside0.mk (blk_below (g := gb771) (o := .cells #[.bool t766, .slice Ao31 t767.length co31] 52 (0, 0)) (by (with_reducible repeat (first | refine blk_drewN ?_ _ | refine blk_drew ?_ | refine blk_alloc ?_ _)); refine blk_put (cs := #[.bool t766, .slice none 0 0]) ?_ 1 _ rfl; (with_reducible repeat (first | refine blk_drewN ?_ _ | refine blk_drew ?_ | refine blk_alloc ?_ _)); refine blk_put (cs := #[.bool false, .slice none 0 0]) ?_ 0 _ rfl; (with_reducible repeat (first | refine blk_drewN ?_ _ | refine blk_drew ?_ | refine blk_alloc ?_ _)); exact BK771.out) hb); have n6_ := Aside0.mk (below_step uB hb); clear HO757; clear HO761; clear HO765; clear HO769; clear BK771; clear HB; have HO757 := n0_; have HO761 := n1_; have HO765 := n2_; have HO769 := n3_; have HO774 := n4_; have BK771 := n5_; have HB := n6_; clear n0_ n1_ n2_ n3_ n4_ n5_ n6_; (try clear hb); (try clear hb2); (try clear hk); (try clear hi); (try clear ho0)))
       go_ret2
       exact ⟨_, by first | rfl | (simp [errW_none, errW_some] <;> rfl) | (simp only [← hji15]; first | rfl | (simp [errW_none, errW_some] <;> rfl)) | (simp [*, errW_none, errW_some] <;> rfl), by (with_reducible repeat (first | apply Kd.R_alloc | apply Kd.R_drewN | apply Kd.R_drew)); exact Kd.R_mono HO774.out (fun _ hk => trivial), uB⟩
      ·
       rw [if_neg c16] at H
       have c16b0 : ((ji15) == 0) = false := beq_eq_false_iff_ne.mpr c16
       have c16b1 : ((ji15) != 0) = true := bne_iff_ne.mpr c16
       simp only [Option.some.injEq, Prod.mk.injEq] at H
       obtain ⟨rfl, rfl⟩ := H
       go_wp2
       go_ret2
       exact ⟨_, by first | rfl | (simp [errW_none, errW_some] <;> rfl) | (simp only [← hji15]; first | rfl | (simp [errW_none, errW_some] <;> rfl)) | (simp [*, errW_none, errW_some] <;> rfl), by first | exact Kd.R_nil _ _ _ _ _ | exact Kd.N_nil _ _ _ _ _ | exact Kd.V_nil _ _ _ _ _ | exact Kd.Q_nil _ _ _ _ _ | exact Kd.S_nil _ _ _ _ _, uB⟩
     ·
      rw [if_neg c14] at H
      exact absurd H (by simp)

end Go.Proofs.Ytgeanpnkllnipab.F
end

section
namespace Go.Proofs.Ytgeanpnkllnipab.F
open Go.RowKit Go.Proofs.YtgeanpnkllnipabW.PrintWords Go.Proofs.YtgeanpnkllnipabW.PrintLast Go.Proofs.YtgeanpnkllnipabW.PrintMore
attribute [local go_sem] max2_int min2_int max_two min_two max_three min_three max_four min_four
set_option linter.unusedVariables false
set_option linter.unusedSimpArgs false

def windbreakref01_Right.f (l0 : List Int) : Option (Bool) := if (l0.length : Int) ≤ 64 then (if (l0.length : Int) = 0 then (some true) else (if 0 ≤ (wrap64 ((l0.length : Int) - 1)) then (if (wrap64 ((l0.length : Int) - 1)) < (l0.length : Int) then (some ((rd l0 (wrap64 ((l0.length : Int) - 1))) != 0)) else (none)) else (none))) else (some false)
set_option maxHeartbeats 8000000 in
set_option maxRecDepth 100000 in
theorem windbreakref01_Right.calls (A0 : Option Addr) (c0 : Nat) (l0 : List Int) (r : Bool) (w : World) (hr0 : Kd.C (Kd.int .u64) w A0 l0.length l0) (hc0 : l0.length ≤ c0) (h : windbreakref01_Right.f l0 = some r) :
  Calls Try.prog 50 #[.slice A0 l0.length c0] w fun e w' => e = .returned (.bool r) ∧ Drawn0 w w' := by
 have HR0 := Aside0.mk hr0; have HC0 := Aside0.mk hc0; clear hr0 hc0
 have H : (if (l0.length : Int) ≤ 64 then (if (l0.length : Int) = 0 then (some true) else (if 0 ≤ (wrap64 ((l0.length : Int) - 1)) then (if (wrap64 ((l0.length : Int) - 1)) < (l0.length : Int) then (some ((rd l0 (wrap64 ((l0.length : Int) - 1))) != 0)) else (none)) else (none))) else (some false)) = some r := h
 clear h
 by_cases c2 : (l0.length : Int) ≤ 64
 ·
  rw [if_pos c2] at H
  have c2b0 : decide ((l0.length : Int) ≤ 64) = true := decide_eq_true c2
  have c2b1 : decide (l0.length ≤ 64) = true := decide_eq_true (by omega)
  clear c2
  by_cases c3 : (l0.length : Int) = 0
  ·
   rw [if_pos c3] at H
   have c3b0 : ((l0.length : Int) == 0) = true := beq_iff_eq.mpr c3
   have c3b1 : ((l0.length : Int) != 0) = false := bne_eq_false_iff_eq.mpr c3
   clear c3
   obtain rfl := Option.some.inj H
   go_enter Try.func50, Try.ntmps50
   go_wp2
   go_ret
   exact ⟨by first | rfl | (simp; done) | (simp [*]; done), by repeat (first | exact Drawn0.refl _ | apply Drawn0.step)⟩
  ·
   rw [if_neg c3] at H
   have c3b0 : ((l0.length : Int) == 0) = false := beq_eq_false_iff_ne.mpr c3
   have c3b1 : ((l0.length : Int) != 0) = true := bne_iff_ne.mpr c3
   have c3b2 : ¬ (l0 = []) := fun h_ => c3 (by rw [h_]; rfl)
   obtain ⟨ji4, hji4⟩ : ∃ j_ : Int, (wrap64 ((l0.length : Int) - 1)) = j_ := ⟨_, rfl⟩
   replace H : (if 0 ≤ (ji4) then (if (ji4) < (l0.length : Int) then (some ((rd l0 (ji4)) != 0)) else (none)) else (none)) = some r := by first | (rw [hji4] at H; exact H) | (simp only [hji4] at H ⊢; exact H)
   have hji4w : (IntKind.i64.wrap ((l0.length : Int) - 1)) = ji4 := (i64_w _).trans hji4
   by_cases c5 : 0 ≤ (ji4)
   ·
    rw [if_pos c5] at H
    have c5b0 : decide (0 ≤ (ji4)) = true := decide_eq_true c5
    clear c5
    by_cases c6 : (ji4) < (l0.length : Int)
    ·
     rw [if_pos c6] at H
     have c6b0 : decide ((ji4) < (l0.length : Int)) = true := decide_eq_true c6
     clear c6
     obtain rfl := Option.some.inj H
     have p261 : 0 ≤ ((ji4) : Int) := of_decide_eq_true (by first | (with_reducible assumption) | assumption)
     have q261 : (ji4) < (l0.length : Int) := of_decide_eq_true (by first | (with_reducible assumption) | assumption)
     obtain ⟨ad261, e261, hx261_0⟩ := Kd.at_int HR0.out (ji4) p261 q261
     cases e261
     replace p261 := eq_true p261
     replace q261 := eq_true q261
     go_enter Try.func50, Try.ntmps50
     go_wp2
     go_ret
     exact ⟨by first | rfl | (simp; done) | (simp only [← hji4] <;> (first | rfl | simp)) | (simp [*]; done), by repeat (first | exact Drawn0.refl _ | apply Drawn0.step)⟩
    ·
     rw [if_neg c6] at H
     exact absurd H (by simp)
   ·
    rw [if_neg c5] at H
    exact absurd H (by simp)
 ·
  rw [if_neg c2] at H
  have c2b0 : decide ((l0.length : Int) ≤ 64) = false := decide_eq_false c2
  have c2b1 : decide (l0.length ≤ 64) = false := decide_eq_false (by omega)
  clear c2
  obtain rfl := Option.some.inj H
  go_enter Try.func50, Try.ntmps50
  go_wp2
  go_ret
  exact ⟨by first | rfl | (simp; done) | (simp [*]; done), by repeat (first | exact Drawn0.refl _ | apply Drawn0.step)⟩

end Go.Proofs.Ytgeanpnkllnipab.F
end

section
namespace Go.Proofs.Ytgeanpnkllnipab.F
open Go.RowKit Go.Proofs.YtgeanpnkllnipabW.PrintWords Go.Proofs.YtgeanpnkllnipabW.PrintLast Go.Proofs.YtgeanpnkllnipabW.PrintMore
attribute [local go_sem] max2_int min2_int max_two min_two max_three min_three max_four min_four
set_option linter.unusedVariables false
set_option linter.unusedSimpArgs false

def windbreakref01_cut.l0 : Nat → List Int → Int → Option (List Int)
 | 0, _, _ => none
 | k + 1, x0, x3 => if x3 > 0 then (if 0 ≤ (wrap64 (x3 - 1)) then (if (wrap64 (x3 - 1)) < (x0.length : Int) then (if (rd x0 (wrap64 (x3 - 1))) = 0 then (windbreakref01_cut.l0 k x0 (wrap64 (x3 - 1))) else (if 0 ≤ x3 then (if x3 ≤ (x0.length : Int) then (some (x0.take (x3 : Int).toNat)) else (none)) else (none))) else (none)) else (none)) else (if 0 ≤ x3 then (if x3 ≤ (x0.length : Int) then (some (x0.take (x3 : Int).toNat)) else (none)) else (none))
def windbreakref01_cut.f (k : Nat) (l0 : List Int) : Option (List Int) := windbreakref01_cut.l0 k l0 (l0.length : Int)
set_option maxHeartbeats 8000000 in
set_option maxRecDepth 100000 in
theorem windbreakref01_cut.calls (k : Nat) (P0_ : Nat → Prop) (u9000_ : Value) (l0 : List Int) (r : List Int) (w0 w : World) (hB : Below w0.heap.size w0 w) (ho0 : Kd.R (Kd.int .u64) 27 w w0.heap.size P0_ u9000_ l0) (h : windbreakref01_cut.f k l0 = some r) :
  Calls Try.prog 99 #[u9000_] w fun e w' => ∃ v0_ : Value, e = .returned (v0_) ∧ Kd.R (Kd.int .u64) 27 w' w0.heap.size (fun k_ => (P0_ k_ ∨ w.heap.size ≤ k_)) v0_ r ∧ Below w0.heap.size w0 w' ∧ Kept w w' (fun k_ => P0_ k_) := by
 have HO0 := Aside0.mk (show Kd.R (Kd.int .u64) 27 w w0.heap.size (fun k_ => (P0_ k_ ∨ w.heap.size ≤ k_)) u9000_ l0 from Kd.R_mono ho0 (fun k_ hk => (.inl hk)))
 have HK := Aside0.mk (Kept.refl w (fun k_ => P0_ k_))
 have HW0 := Aside0.mk hB.size
 have HB := Aside0.mk hB; clear hB
 have H : (windbreakref01_cut.l0 k l0 (l0.length : Int)) = some r := h
 clear h
 have H' := Aside0.mk H
 clear H
 obtain ⟨Ao2, co2, eo2⟩ := Kd.R_slice HO0.out
 subst eo2
 go_enter Try.func99, Try.ntmps99
 go_wp2
 go_loopg [3] k (fun kq v3 w' => ∃ (x3_1 : Int), v3 = .int .i64 x3_1 ∧ Aside0 (windbreakref01_cut.l0 kq l0 x3_1 = some r) ∧ Aside0 (kq ≤ k) ∧ Aside0 (Kd.R (Kd.int .u64) 27 w' w0.heap.size (fun k_ => (P0_ k_ ∨ w.heap.size ≤ k_)) (.slice Ao2 l0.length co2) l0) ∧ Aside0 (Kept w w' (fun k_ => P0_ k_)) ∧ Aside0 (Below w0.heap.size w0 w'))
 case atStart => exact ⟨((l0.length : Int)), (by first | rfl | (simp; done) | (simp [*]; done)), H', ⟨Nat.le_refl _⟩, ⟨uR HO0.out⟩, ⟨by repeat (first | (with_reducible first | exact HK.out | apply Kept.alloc | apply Kept.drewN | apply Kept.drew) | exact HK.out)⟩, ⟨uB⟩⟩
 case round =>
  clear H'
  try clear p2
  obtain ⟨x3_1, rfl, HA, HK1, HO_0, HK, HB⟩ := hrel
  cases gk with
  | zero => exact absurd HA.out (by simp [windbreakref01_cut.l0])
  | succ k1 =>
   have H := HA.out
   clear HA
   simp only [windbreakref01_cut.l0] at H
   by_cases c3 : x3_1 > 0
   ·
    rw [if_pos c3] at H
    have c3b0 : decide (0 < x3_1) = true := decide_eq_true c3
    clear c3
    obtain ⟨ji4, hji4⟩ : ∃ j_ : Int, (wrap64 (x3_1 - 1)) = j_ := ⟨_, rfl⟩
    replace H : (if 0 ≤ (ji4) then (if (ji4) < (l0.length : Int) then (if (rd l0 (ji4)) = 0 then (windbreakref01_cut.l0 k1 l0 ji4) else (if 0 ≤ x3_1 then (if x3_1 ≤ (l0.length : Int) then (some (l0.take (x3_1 : Int).toNat)) else (none)) else (none))) else (none)) else (none)) = some r := by first | (rw [hji4] at H; exact H) | (simp only [hji4] at H ⊢; exact H)
    have hji4w : (IntKind.i64.wrap (x3_1 - 1)) = ji4 := (i64_w _).trans hji4
    by_cases c5 : 0 ≤ (ji4)
    ·
     rw [if_pos c5] at H
     have c5b0 : decide (0 ≤ (ji4)) = true := decide_eq_true c5
     clear c5
     by_cases c6 : (ji4) < (l0.length : Int)
     ·
      rw [if_pos c6] at H
      have c6b0 : decide ((ji4) < (l0.length : Int)) = true := decide_eq_true c6
      clear c6
      by_cases c7 : (rd l0 (ji4)) = 0
      ·
       rw [if_pos c7] at H
       have c7b0 : ((rd l0 (ji4)) == 0) = true := beq_iff_eq.mpr c7
       have c7b1 : ((rd l0 (ji4)) != 0) = false := bne_eq_false_iff_eq.mpr c7
       clear c7
       have H' := Aside0.mk H
       clear H
       have p316 : 0 ≤ ((ji4) : Int) := of_decide_eq_true (by first | (with_reducible assumption) | assumption)
       have q316 : (ji4) < (l0.length : Int) := of_decide_eq_true (by first | (with_reducible assumption) | assumption)
       obtain ⟨ad316, e316, hx316_0⟩ := Kd.at_int (Kd.R_reads' HO_0.out).2.2 (ji4) p316 q316
       cases e316
       replace p316 := eq_true p316
       replace q316 := eq_true q316
       go_wp2
       first | go_roundg k1 | ((try simp only [← hji4] at H'); simp only [← hji4]; go_roundg k1)
       case measure => have := HK1.out; omega
       case rel => first | exact ⟨(ji4), (by first | rfl | (simp; done) | (simp only [← hji4] <;> (first | rfl | simp)) | (simp [*]; done)), H', ⟨by have := HK1.out; omega⟩, ⟨uR HO_0.out⟩, ⟨by repeat (first | (with_reducible first | exact HK.out | apply Kept.alloc | apply Kept.drewN | apply Kept.drew) | exact HK.out)⟩, ⟨uB⟩⟩ | (simp only [← hji4] at H'; exact ⟨(ji4), (by first | rfl | (simp; done) | (simp only [← hji4] <;> (first | rfl | simp)) | (simp [*]; done)), H', ⟨by have := HK1.out; omega⟩, ⟨uR HO_0.out⟩, ⟨by repeat (first | (with_reducible first | exact HK.out | apply Kept.alloc | apply Kept.drewN | apply Kept.drew) | exact HK.out)⟩, ⟨uB⟩⟩)
      ·
       rw [if_neg c7] at H
       have c7b0 : ((rd l0 (ji4)) == 0) = false := beq_eq_false_iff_ne.mpr c7
       have c7b1 : ((rd l0 (ji4)) != 0) = true := bne_iff_ne.mpr c7
       by_cases c8 : 0 ≤ x3_1
       ·
        rw [if_pos c8] at H
        have c8b0 := eq_true c8
        have c8b1 : decide (0 ≤ x3_1) = true := decide_eq_true c8
        clear c8
        by_cases c9 : x3_1 ≤ (l0.length : Int)
        ·
         rw [if_pos c9] at H
         have c9b0 := eq_true c9
         have c9b1 : decide (x3_1 ≤ (l0.length : Int)) = true := decide_eq_true c9
         clear c9
         obtain ⟨y317, hy317⟩ : ∃ y_ : List Int, y_ = (l0.take (x3_1 : Int).toNat) := ⟨_, rfl⟩
         replace H : (some y317) = some r := by first | (rw [hy317]; with_reducible exact H) | (have H2_ := (Option.bind_some _ _).symm.trans H; rw [hy317]; with_reducible exact H2_) | (have H2_ := (Option.bind_some _ _).symm.trans H; with_reducible exact H2_) | with_reducible exact H | (rw [hy317]; exact H) | exact H
         have Ny317 := Aside0.mk hy317; clear hy317
         obtain rfl := Option.some.inj H
         have p316 : 0 ≤ ((ji4) : Int) := of_decide_eq_true (by first | (with_reducible assumption) | assumption)
         have q316 : (ji4) < (l0.length : Int) := of_decide_eq_true (by first | (with_reducible assumption) | assumption)
         obtain ⟨ad316, e316, hx316_0⟩ := Kd.at_int (Kd.R_reads' HO_0.out).2.2 (ji4) p316 q316
         cases e316
         replace p316 := eq_true p316
         replace q316 := eq_true q316
         have q10 : (x3_1 : Int) ≤ ((l0.length : Int) : Int) := of_decide_eq_true (by first | (with_reducible assumption) | assumption)
         obtain ⟨i010, hi010, _, hsz10, _⟩ := info_parts info27
         have hcut10 := cut_to (P := Try.prog) 70 27 .i64 Try.underlying70 hi010 (some ad316) l0.length co2 x3_1 (of_decide_eq_true (by first | (with_reducible assumption) | assumption)) q10 (Kd.R_reads' HO_0.out).2.1
         have hr10 := Kd.R_take (m := (x3_1 : Int).toNat) HO_0.out (by omega)
         have hy10 : y317.length = (x3_1 : Int).toNat := (by rw [Ny317.out, List.length_take]; omega)
         rw [← Ny317.out] at hr10
         rw [← hy10] at hr10 hcut10
         clear hy10 hi010 hsz10 HO_0; have HO319 := Aside0.mk hr10; clear hr10
         replace q10 := eq_true q10
         go_wp2
         go_ret
         exact ⟨_, by first | rfl | (simp [errW_none, errW_some] <;> rfl) | (simp only [← hji4]; first | rfl | (simp [errW_none, errW_some] <;> rfl)) | (simp [*, errW_none, errW_some] <;> rfl), uR HO319.out, uB, by repeat (first | (with_reducible first | exact HK.out | apply Kept.alloc | apply Kept.drewN | apply Kept.drew) | exact HK.out)⟩
        ·
         rw [if_neg c9] at H
         exact absurd H (by simp)
       ·
        rw [if_neg c8] at H
        exact absurd H (by simp)
     ·
      rw [if_neg c6] at H
      exact absurd H (by simp)
    ·
     rw [if_neg c5] at H
     exact absurd H (by simp)
   ·
    rw [if_neg c3] at H
    have c3b0 : decide (0 < x3_1) = false := decide_eq_false c3
    clear c3
    by_cases c11 : 0 ≤ x3_1
    ·
     rw [if_pos c11] at H
     have c11b0 := eq_true c11
     have c11b1 : decide (0 ≤ x3_1) = true := decide_eq_true c11
     clear c11
     by_cases c12 : x3_1 ≤ (l0.length : Int)
     ·
      rw [if_pos c12] at H
      have c12b0 := eq_true c12
      have c12b1 : decide (x3_1 ≤ (l0.length : Int)) = true := decide_eq_true c12
      clear c12
      obtain ⟨y320, hy320⟩ : ∃ y_ : List Int, y_ = (l0.take (x3_1 : Int).toNat) := ⟨_, rfl⟩
      replace H : (some y320) = some r := by first | (rw [hy320]; with_reducible exact H) | (have H2_ := (Option.bind_some _ _).symm.trans H; rw [hy320]; with_reducible exact H2_) | (have H2_ := (Option.bind_some _ _).symm.trans H; with_reducible exact H2_) | with_reducible exact H | (rw [hy320]; exact H) | exact H
      have Ny320 := Aside0.mk hy320; clear hy320
      obtain rfl := Option.some.inj H
      have q13 : (x3_1 : Int) ≤ ((l0.length : Int) : Int) := of_decide_eq_true (by first | (with_reducible assumption) | assumption)
      obtain ⟨i013, hi013, _, hsz13, _⟩ := info_parts info27
      have hcut13 := cut_to (P := Try.prog) 70 27 .i64 Try.underlying70 hi013 Ao2 l0.length co2 x3_1 (of_decide_eq_true (by first | (with_reducible assumption) | assumption)) q13 (Kd.R_reads' HO_0.out).2.1
      have hr13 := Kd.R_take (m := (x3_1 : Int).toNat) HO_0.out (by omega)
      have hy13 : y320.length = (x3_1 : Int).toNat := (by rw [Ny320.out, List.length_take]; omega)
      rw [← Ny320.out] at hr13
      rw [← hy13] at hr13 hcut13
      clear hy13 hi013 hsz13 HO_0; have HO322 := Aside0.mk hr13; clear hr13
      replace q13 := eq_true q13
      go_wp2
      go_ret
      exact ⟨_, by first | rfl | (simp [errW_none, errW_some] <;> rfl) | (simp [*, errW_none, errW_some] <;> rfl), uR HO322.out, uB, by repeat (first | (with_reducible first | exact HK.out | apply Kept.alloc | apply Kept.drewN | apply Kept.drew) | exact HK.out)⟩
     ·
      rw [if_neg c12] at H
      exact absurd H (by simp)
    ·
     rw [if_neg c11] at H
     exact absurd H (by simp)

end Go.Proofs.Ytgeanpnkllnipab.F
end

section
namespace Go.Proofs.Ytgeanpnkllnipab.F
open Go.RowKit Go.Proofs.YtgeanpnkllnipabW.PrintWords Go.Proofs.YtgeanpnkllnipabW.PrintLast Go.Proofs.YtgeanpnkllnipabW.PrintMore
attribute [local go_sem] max2_int min2_int max_two min_two max_three min_three max_four min_four
set_option linter.unusedVariables false
set_option linter.unusedSimpArgs false

mutual
def windbreakref01_In.l0 : Nat → List Int → List Int → Int → Option (List Int)
 | 0, _, _, _ => none
 | k + 1, x0, x3, x4 => if x4 < (x0.length : Int) then (if 0 ≤ x4 then (windbreakref01_In.l1 k x0 x3 x4 (rd x0 x4) 0) else (none)) else ((windbreakref01_cut.f k x3).bind fun t323 => (some t323))
def windbreakref01_In.l1 : Nat → List Int → List Int → Int → Int → Int → Option (List Int)
 | 0, _, _, _, _, _ => none
 | k + 1, x0, x3, x4, x5, x6 => if x6 < 4 then (if x3.length < 17592186044416 then (windbreakref01_In.l1 k x0 (x3 ++ [Int.tmod x5 65536]) x4 (IntKind.u64.wrap (Int.tdiv x5 65536)) (wrap64 (x6 + 1))) else (none)) else (windbreakref01_In.l0 k x0 x3 (wrap64 (x4 + 1)))
end
def windbreakref01_In.f (k : Nat) (l0 : List Int) : Option (List Int) := windbreakref01_In.l0 k l0 ([] : List Int) 0
set_option maxHeartbeats 8000000 in
set_option maxRecDepth 100000 in
theorem windbreakref01_In.calls (k : Nat) (A0 : Option Addr) (c0 : Nat) (l0 : List Int) (r : List Int) (w : World) (hr0 : Kd.C (Kd.int .u64) w A0 l0.length l0) (hc0 : l0.length ≤ c0) (h : windbreakref01_In.f k l0 = some r) :
  Calls Try.prog 54 #[.slice A0 l0.length c0] w fun e w' => ∃ v0_ : Value, e = .returned (v0_) ∧ Kd.R (Kd.int .u64) 27 w' w.heap.size (fun _ => True) v0_ r ∧ Below w.heap.size w w' := by
 have HR0 := Aside0.mk hr0; have HC0 := Aside0.mk hc0; clear hr0 hc0
 have HB := Aside0.mk (Below.refl w.heap.size w)
 have H : (windbreakref01_In.l0 k l0 ([] : List Int) 0) = some r := h
 clear h
 have H' := Aside0.mk H
 clear H
 go_enter Try.func54, Try.ntmps54
 go_wp2
 go_loopg [3, 4] k (fun kq v3 v4 w' => ∃ (x3_1 : List Int) (x4_1 : Int), v4 = .int .i64 x4_1 ∧ Aside0 (windbreakref01_In.l0 kq l0 x3_1 x4_1 = some r) ∧ Aside0 (kq ≤ k) ∧ Aside0 (Kd.R (Kd.int .u64) 27 w' w.heap.size (fun _ => True) v3 x3_1) ∧ Aside0 (Below w.heap.size w w'))
 case atStart => exact ⟨(([] : List Int)), (0), (by first | rfl | (simp; done) | (simp [*]; done)), H', ⟨Nat.le_refl _⟩, ⟨by first | exact Kd.R_nil _ _ _ _ _ | exact Kd.N_nil _ _ _ _ _ | exact Kd.V_nil _ _ _ _ _ | exact Kd.Q_nil _ _ _ _ _ | exact Kd.S_nil _ _ _ _ _⟩, ⟨uB⟩⟩
 case round =>
  clear H'
  obtain ⟨x3_1, x4_1, rfl, HA, HK1, HO_3, HB⟩ := hrel
  cases gk with
  | zero => exact absurd HA.out (by simp [windbreakref01_In.l0])
  | succ k1 =>
   have H := HA.out
   clear HA
   simp only [windbreakref01_In.l0] at H
   by_cases c2 : x4_1 < (l0.length : Int)
   ·
    rw [if_pos c2] at H
    have c2b0 : decide (x4_1 < (l0.length : Int)) = true := decide_eq_true c2
    clear c2
    by_cases c3 : 0 ≤ x4_1
    ·
     rw [if_pos c3] at H
     have c3b0 : decide (0 ≤ x4_1) = true := decide_eq_true c3
     clear c3
     have H' := Aside0.mk H
     clear H
     have p326 : 0 ≤ (x4_1 : Int) := of_decide_eq_true (by first | (with_reducible assumption) | assumption)
     have q326 : x4_1 < (l0.length : Int) := of_decide_eq_true (by first | (with_reducible assumption) | assumption)
     obtain ⟨ad326, e326, hx326_0⟩ := Kd.at_int HR0.out x4_1 p326 q326
     cases e326
     replace hx326_0 := (HB.out.cell (World.block_lt_of_cell? w _ hx326_0)).trans hx326_0
     replace p326 := eq_true p326
     replace q326 := eq_true q326
     go_wp2
     go_loopg [3, 5, 6] k1 (fun kq v3 v5 v6 w' => ∃ (x3_2 : List Int) (x5_2 : Int) (x6_2 : Int), v5 = .int .u64 x5_2 ∧ v6 = .int .i64 x6_2 ∧ Aside0 (windbreakref01_In.l1 kq l0 x3_2 x4_1 x5_2 x6_2 = some r) ∧ Aside0 (kq ≤ k1) ∧ Aside0 (Kd.R (Kd.int .u64) 27 w' w.heap.size (fun _ => True) v3 x3_2) ∧ Aside0 (Below w.heap.size w w'))
     case atStart => exact ⟨(x3_1), (rd l0 x4_1), (0), (by first | rfl | (simp; done) | (simp [*]; done)), (by first | rfl | (simp; done) | (simp [*]; done)), H', ⟨Nat.le_refl _⟩, ⟨uR HO_3.out⟩, ⟨uB⟩⟩
     case round =>
      clear H'
      try clear c2
      try clear c2b0
      try clear p2
      try clear c3
      try clear c3b0
      try clear p3
      try clear q3
      try clear hx3
      try clear hx326_0
      try clear p326
      try clear q326
      obtain ⟨x3_2, x5_2, x6_2, rfl, rfl, HA, HK2, HO_3, HB⟩ := hrel
      cases gk with
      | zero => exact absurd HA.out (by simp [windbreakref01_In.l1])
      | succ k2 =>
       have H := HA.out
       clear HA
       simp only [windbreakref01_In.l1] at H
       by_cases c4 : x6_2 < 4
       ·
        rw [if_pos c4] at H
        have c4b0 : decide (x6_2 < 4) = true := decide_eq_true c4
        clear c4
        by_cases c5 : x3_2.length < 17592186044416
        ·
         rw [if_pos c5] at H
         have LMc5 := Aside0.mk c5; clear c5
         obtain ⟨y327, hy327⟩ : ∃ y_ : List Int, y_ = (x3_2 ++ [Int.tmod x5_2 65536]) := ⟨_, rfl⟩
         replace H : (windbreakref01_In.l1 k2 l0 y327 x4_1 (IntKind.u64.wrap (Int.tdiv x5_2 65536)) (wrap64 (x6_2 + 1))) = some r := by first | (rw [hy327]; with_reducible exact H) | (have H2_ := (Option.bind_some _ _).symm.trans H; rw [hy327]; with_reducible exact H2_) | (have H2_ := (Option.bind_some _ _).symm.trans H; with_reducible exact H2_) | with_reducible exact H | (rw [hy327]; exact H) | exact H
         have Ny327 := Aside0.mk hy327; clear hy327
         have H' := Aside0.mk H
         clear H
         go_wp2_with (first | ((with_reducible refine gate_builtin (b := .append) (xs := #[.tmp 21, .tmp 24]) rfl ?_); at_builtin; refine Kd.R_append (Kd.int .u64) (w0 := w) w.heap.size rfl (.tmp 21) (.tmp 24) 70 27 (.int .u64 0) 8 rfl Try.underlying70 info27 rfl (by decide) (by omega) u3 x3_2 (Int.tmod x5_2 65536) [.int .u64 (Int.tmod x5_2 65536)] (fun _ => True) (fun _ => False) rfl rfl ?aP (fun _ hk => hk.elim) ?aF ?aO ?aB ?aS ?aL ?_; (case aP => exact rfl); (case aB => exact uB); (case aF => exact (fun _ _ => trivial)); (case aO => exact (uR HO_3.out)); (case aS => exact (below_size uB)); (case aL => have := LMc5.out; omega); intro v328 w6 ho hb hg hat; rw [← Ny327.out] at ho; have n0_ := Aside0.mk (hb); have n1_ := Aside0.mk (ho); clear HB; clear HO_3; have HB := n0_; have HO329 := n1_; clear n0_ n1_; clear ho hb hg hat))
         go_roundg k2
         case measure => have := HK1.out; have := HK2.out; omega
         case rel => exact ⟨(y327), (IntKind.u64.wrap (Int.tdiv x5_2 65536)), (wrap64 (x6_2 + 1)), (by first | rfl | (simp; done) | (simp [*]; done)), (by first | rfl | (simp; done) | (simp [*]; done)), H', ⟨by have := HK1.out; have := HK2.out; omega⟩, ⟨uR HO329.out⟩, ⟨uB⟩⟩
        ·
         rw [if_neg c5] at H
         exact absurd H (by simp)
       ·
        rw [if_neg c4] at H
        have c4b0 : decide (x6_2 < 4) = false := decide_eq_false c4
        clear c4
        have H' := Aside0.mk H
        clear H
        go_wp2
        go_roundg k2
        case measure => have := HK1.out; have := HK2.out; omega
        case rel => exact ⟨(x3_2), (wrap64 (x4_1 + 1)), (by first | rfl | (simp; done) | (simp [*]; done)), H', ⟨by have := HK1.out; have := HK2.out; omega⟩, ⟨uR HO_3.out⟩, ⟨uB⟩⟩
    ·
     rw [if_neg c3] at H
     exact absurd H (by simp)
   ·
    rw [if_neg c2] at H
    have c2b0 : decide (x4_1 < (l0.length : Int)) = false := decide_eq_false c2
    clear c2
    replace H := Option.bind_eq_some_iff.mp H
    obtain ⟨t323, A70, H⟩ := H
    replace H : (some t323) = some r := H
    have A7 := Aside0.mk A70; clear A70
    obtain rfl := Option.some.inj H
    obtain ⟨Ao8, co8, eo8⟩ := Kd.R_slice HO_3.out
    subst eo8
    go_wp2_with (first | ((with_reducible refine gate_callee (f := 99) rfl ?_); refine goesL_ (some 29) rfl rfl Try.func99 (by kernel_rfl) rfl #[.slice Ao8 x3_1.length co8] rfl uM ?_; (with_reducible refine (windbreakref01_cut.calls k1 (fun k_ => some k_ = (.slice Ao8 x3_1.length co8 : Value).ownBlock) (.slice Ao8 x3_1.length co8) x3_1 t323 w _ ?side1 ?side2 A7.out).mono ?_); (case side1 => repeat (first | (with_reducible first | exact HB.out | apply below_alloc | apply pw_below_drewN | apply below_drew1) | exact HB.out)); (case side2 => exact Kd.R_tight rfl HO_3.out); rintro e w9 ⟨v324, rfl, ho0, hb, hkp⟩; refine ⟨_, rfl, ?_⟩; have n0_ := Aside0.mk (Kd.R_mono (ok' := fun k_ => True) ho0 (fun k_ hk_ => trivial)); have n1_ := Aside0.mk (hb); clear HB; clear HO_3; have HO325 := n0_; have HB := n1_; clear n0_ n1_; (try clear hb); (try clear hkp); (try clear ho0)))
    go_ret
    exact ⟨_, by first | rfl | (simp [errW_none, errW_some] <;> rfl) | (simp [*, errW_none, errW_some] <;> rfl), uR HO325.out, uB⟩

end Go.Proofs.Ytgeanpnkllnipab.F
end

section
namespace Go.Proofs.Ytgeanpnkllnipab.F
open Go.RowKit Go.Proofs.YtgeanpnkllnipabW.PrintWords Go.Proofs.YtgeanpnkllnipabW.PrintLast Go.Proofs.YtgeanpnkllnipabW.PrintMore
attribute [local go_sem] max2_int min2_int max_two min_two max_three min_three max_four min_four
set_option linter.unusedVariables false
set_option linter.unusedSimpArgs false

def windbreakref01_compare.l0 : Nat → List Int → List Int → Int → Option (Int)
 | 0, _, _, _ => none
 | k + 1, x0, x1, x5 => if x5 ≥ 0 then (if 0 ≤ x5 then (if x5 < (x0.length : Int) then (if x5 < (x1.length : Int) then (if (rd x0 x5) < (rd x1 x5) then (some (-1)) else (if (rd x0 x5) > (rd x1 x5) then (some 1) else (windbreakref01_compare.l0 k x0 x1 (wrap64 (x5 - 1))))) else (none)) else (none)) else (none)) else (some 0)
def windbreakref01_compare.f (k : Nat) (l0 : List Int) (l1 : List Int) : Option (Int) := if (l0.length : Int) = (l1.length : Int) then (windbreakref01_compare.l0 k l0 l1 (wrap64 ((l0.length : Int) - 1))) else (if (l0.length : Int) < (l1.length : Int) then (some (-1)) else (some 1))
set_option maxHeartbeats 8000000 in
set_option maxRecDepth 100000 in
theorem windbreakref01_compare.calls (k : Nat) (A0 : Option Addr) (c0 : Nat) (l0 : List Int) (A1 : Option Addr) (c1 : Nat) (l1 : List Int) (r : Int) (w : World) (hr0 : Kd.C (Kd.int .u64) w A0 l0.length l0) (hc0 : l0.length ≤ c0) (hr1 : Kd.C (Kd.int .u64) w A1 l1.length l1) (hc1 : l1.length ≤ c1) (h : windbreakref01_compare.f k l0 l1 = some r) :
  Calls Try.prog 110 #[.slice A0 l0.length c0, .slice A1 l1.length c1] w fun e w' => e = .returned (.int .i64 r) ∧ Drawn0 w w' := by
 have HR0 := Aside0.mk hr0; have HC0 := Aside0.mk hc0; clear hr0 hc0; have HR1 := Aside0.mk hr1; have HC1 := Aside0.mk hc1; clear hr1 hc1
 have H : (if (l0.length : Int) = (l1.length : Int) then (windbreakref01_compare.l0 k l0 l1 (wrap64 ((l0.length : Int) - 1))) else (if (l0.length : Int) < (l1.length : Int) then (some (-1)) else (some 1))) = some r := h
 clear h
 by_cases c3 : (l0.length : Int) = (l1.length : Int)
 ·
  rw [if_pos c3] at H
  have c3b0 : ((l0.length : Int) == (l1.length : Int)) = true := beq_iff_eq.mpr c3
  have c3b1 : ((l0.length : Int) != (l1.length : Int)) = false := bne_eq_false_iff_eq.mpr c3
  have c3b2 : (l0.length == l1.length) = true := by first | simpa using c3 | (simp at c3 ⊢; omega)
  clear c3
  have H' := Aside0.mk H
  clear H
  go_enter Try.func110, Try.ntmps110
  go_wp2
  repeat (go_quiet (fail); try go_wp2)
  go_loopg [5] k (fun kq v5 w' => ∃ (x5_1 : Int), v5 = .int .i64 x5_1 ∧ Aside0 (windbreakref01_compare.l0 kq l0 l1 x5_1 = some r) ∧ Aside0 (kq ≤ k) ∧ Drawn0 w w')
  case atStart => exact ⟨(wrap64 ((l0.length : Int) - 1)), (by first | rfl | (simp; done) | (simp [*]; done)), H', ⟨Nat.le_refl _⟩, by repeat (first | exact Drawn0.refl _ | apply Drawn0.step)⟩
  case round =>
   clear H'
   try clear c1
   try clear p2
   try clear c3
   try clear c3b0
   try clear c3b1
   try clear c3b2
   obtain ⟨x5_1, rfl, HA, HK1, ⟨m1, rfl⟩⟩ := hrel
   cases gk with
   | zero => exact absurd HA.out (by simp [windbreakref01_compare.l0])
   | succ k1 =>
    have H := HA.out
    clear HA
    simp only [windbreakref01_compare.l0] at H
    by_cases c4 : x5_1 ≥ 0
    ·
     rw [if_pos c4] at H
     have c4b0 : decide (0 ≤ x5_1) = true := decide_eq_true c4
     clear c4
     by_cases c5 : 0 ≤ x5_1
     ·
      rw [if_pos c5] at H
      have c5b0 : decide (0 ≤ x5_1) = true := decide_eq_true c5
      clear c5
      by_cases c6 : x5_1 < (l0.length : Int)
      ·
       rw [if_pos c6] at H
       have c6b0 : decide (x5_1 < (l0.length : Int)) = true := decide_eq_true c6
       clear c6
       by_cases c7 : x5_1 < (l1.length : Int)
       ·
        rw [if_pos c7] at H
        have c7b0 : decide (x5_1 < (l1.length : Int)) = true := decide_eq_true c7
        clear c7
        by_cases c8 : (rd l0 x5_1) < (rd l1 x5_1)
        ·
         rw [if_pos c8] at H
         have c8b0 : decide ((rd l0 x5_1) < (rd l1 x5_1)) = true := decide_eq_true c8
         clear c8
         obtain rfl := Option.some.inj H
         have p330 : 0 ≤ (x5_1 : Int) := of_decide_eq_true (by first | (with_reducible assumption) | assumption)
         have q330 : x5_1 < (l0.length : Int) := of_decide_eq_true (by first | (with_reducible assumption) | assumption)
         obtain ⟨ad330, e330, hx330_0⟩ := Kd.at_int HR0.out x5_1 p330 q330
         cases e330
         replace p330 := eq_true p330
         replace q330 := eq_true q330
         have p331 : 0 ≤ (x5_1 : Int) := of_decide_eq_true (by first | (with_reducible assumption) | assumption)
         have q331 : x5_1 < (l1.length : Int) := of_decide_eq_true (by first | (with_reducible assumption) | assumption)
         obtain ⟨ad331, e331, hx331_0⟩ := Kd.at_int HR1.out x5_1 p331 q331
         cases e331
         replace p331 := eq_true p331
         replace q331 := eq_true q331
         go_wp2
         repeat (go_quiet (fail); try go_wp2)
         go_ret
         exact ⟨by first | rfl | (simp; done) | (simp [*]; done), by repeat (first | exact Drawn0.refl _ | apply Drawn0.step)⟩
        ·
         rw [if_neg c8] at H
         have c8b0 : decide ((rd l0 x5_1) < (rd l1 x5_1)) = false := decide_eq_false c8
         clear c8
         by_cases c9 : (rd l0 x5_1) > (rd l1 x5_1)
         ·
          rw [if_pos c9] at H
          have c9b0 : decide ((rd l1 x5_1) < (rd l0 x5_1)) = true := decide_eq_true c9
          clear c9
          obtain rfl := Option.some.inj H
          have p330 : 0 ≤ (x5_1 : Int) := of_decide_eq_true (by first | (with_reducible assumption) | assumption)
          have q330 : x5_1 < (l0.length : Int) := of_decide_eq_true (by first | (with_reducible assumption) | assumption)
          obtain ⟨ad330, e330, hx330_0⟩ := Kd.at_int HR0.out x5_1 p330 q330
          cases e330
          replace p330 := eq_true p330
          replace q330 := eq_true q330
          have p331 : 0 ≤ (x5_1 : Int) := of_decide_eq_true (by first | (with_reducible assumption) | assumption)
          have q331 : x5_1 < (l1.length : Int) := of_decide_eq_true (by first | (with_reducible assumption) | assumption)
          obtain ⟨ad331, e331, hx331_0⟩ := Kd.at_int HR1.out x5_1 p331 q331
          cases e331
          replace p331 := eq_true p331
          replace q331 := eq_true q331
          have p332 : 0 ≤ (x5_1 : Int) := of_decide_eq_true (by first | (with_reducible assumption) | assumption)
          have q332 : x5_1 < (l0.length : Int) := of_decide_eq_true (by first | (with_reducible assumption) | assumption)
          obtain ⟨ad332, e332, hx332_0⟩ := Kd.at_int HR0.out x5_1 p332 q332
          obtain rfl : ad330 = ad332 := (by injection e332)
          replace p332 := eq_true p332
          replace q332 := eq_true q332
          have p333 : 0 ≤ (x5_1 : Int) := of_decide_eq_true (by first | (with_reducible assumption) | assumption)
          have q333 : x5_1 < (l1.length : Int) := of_decide_eq_true (by first | (with_reducible assumption) | assumption)
          obtain ⟨ad333, e333, hx333_0⟩ := Kd.at_int HR1.out x5_1 p333 q333
          obtain rfl : ad331 = ad333 := (by injection e333)
          replace p333 := eq_true p333
          replace q333 := eq_true q333
          go_wp2
          repeat (go_quiet (fail); try go_wp2)
          go_ret
          exact ⟨by first | rfl | (simp; done) | (simp [*]; done), by repeat (first | exact Drawn0.refl _ | apply Drawn0.step)⟩
         ·
          rw [if_neg c9] at H
          have c9b0 : decide ((rd l1 x5_1) < (rd l0 x5_1)) = false := decide_eq_false c9
          clear c9
          have H' := Aside0.mk H
          clear H
          have p330 : 0 ≤ (x5_1 : Int) := of_decide_eq_true (by first | (with_reducible assumption) | assumption)
          have q330 : x5_1 < (l0.length : Int) := of_decide_eq_true (by first | (with_reducible assumption) | assumption)
          obtain ⟨ad330, e330, hx330_0⟩ := Kd.at_int HR0.out x5_1 p330 q330
          cases e330
          replace p330 := eq_true p330
          replace q330 := eq_true q330
          have p331 : 0 ≤ (x5_1 : Int) := of_decide_eq_true (by first | (with_reducible assumption) | assumption)
          have q331 : x5_1 < (l1.length : Int) := of_decide_eq_true (by first | (with_reducible assumption) | assumption)
          obtain ⟨ad331, e331, hx331_0⟩ := Kd.at_int HR1.out x5_1 p331 q331
          cases e331
          replace p331 := eq_true p331
          replace q331 := eq_true q331
          have p332 : 0 ≤ (x5_1 : Int) := of_decide_eq_true (by first | (with_reducible assumption) | assumption)
          have q332 : x5_1 < (l0.length : Int) := of_decide_eq_true (by first | (with_reducible assumption) | assumption)
          obtain ⟨ad332, e332, hx332_0⟩ := Kd.at_int HR0.out x5_1 p332 q332
          obtain rfl : ad330 = ad332 := (by injection e332)
          replace p332 := eq_true p332
          replace q332 := eq_true q332
          have p333 : 0 ≤ (x5_1 : Int) := of_decide_eq_true (by first | (with_reducible assumption) | assumption)
          have q333 : x5_1 < (l1.length : Int) := of_decide_eq_true (by first | (with_reducible assumption) | assumption)
          obtain ⟨ad333, e333, hx333_0⟩ := Kd.at_int HR1.out x5_1 p333 q333
          obtain rfl : ad331 = ad333 := (by injection e333)
          replace p333 := eq_true p333
          replace q333 := eq_true q333
          go_wp2
          repeat (go_quiet (fail); try go_wp2)
          go_roundg k1
          case measure => have := HK1.out; omega
          case rel => exact ⟨(wrap64 (x5_1 - 1)), (by first | rfl | (simp; done) | (simp [*]; done)), H', ⟨by have := HK1.out; omega⟩, by repeat (first | exact Drawn0.refl _ | apply Drawn0.step)⟩
       ·
        rw [if_neg c7] at H
        exact absurd H (by simp)
      ·
       rw [if_neg c6] at H
       exact absurd H (by simp)
     ·
      rw [if_neg c5] at H
      exact absurd H (by simp)
    ·
     rw [if_neg c4] at H
     have c4b0 : decide (0 ≤ x5_1) = false := decide_eq_false c4
     clear c4
     obtain rfl := Option.some.inj H
     go_wp2
     repeat (go_quiet (fail); try go_wp2)
     go_ret
     exact ⟨by first | rfl | (simp; done) | (simp [*]; done), by repeat (first | exact Drawn0.refl _ | apply Drawn0.step)⟩
 ·
  rw [if_neg c3] at H
  have c3b0 : ((l0.length : Int) == (l1.length : Int)) = false := beq_eq_false_iff_ne.mpr c3
  have c3b1 : ((l0.length : Int) != (l1.length : Int)) = true := bne_iff_ne.mpr c3
  have c3b2 : (l0.length == l1.length) = false := by first | simpa using c3 | (simp at c3 ⊢; omega)
  by_cases c10 : (l0.length : Int) < (l1.length : Int)
  ·
   rw [if_pos c10] at H
   have c10b0 : decide ((l0.length : Int) < (l1.length : Int)) = true := decide_eq_true c10
   have c10b1 : decide (l0.length < l1.length) = true := decide_eq_true (Int.ofNat_lt.mp c10)
   clear c10
   obtain rfl := Option.some.inj H
   go_enter Try.func110, Try.ntmps110
   go_wp2
   repeat (go_quiet (fail); try go_wp2)
   go_ret
   exact ⟨by first | rfl | (simp; done) | (simp [*]; done), by repeat (first | exact Drawn0.refl _ | apply Drawn0.step)⟩
  ·
   rw [if_neg c10] at H
   have c10b0 : decide ((l0.length : Int) < (l1.length : Int)) = false := decide_eq_false c10
   have c10b1 : decide (l0.length < l1.length) = false := decide_eq_false (fun h => c10 (Int.ofNat_lt.mpr h))
   clear c10
   obtain rfl := Option.some.inj H
   go_enter Try.func110, Try.ntmps110
   go_wp2
   repeat (go_quiet (fail); try go_wp2)
   go_ret
   exact ⟨by first | rfl | (simp; done) | (simp [*]; done), by repeat (first | exact Drawn0.refl _ | apply Drawn0.step)⟩

end Go.Proofs.Ytgeanpnkllnipab.F
end

section
namespace Go.Proofs.Ytgeanpnkllnipab.F
open Go.RowKit Go.Proofs.YtgeanpnkllnipabW.PrintWords Go.Proofs.YtgeanpnkllnipabW.PrintLast Go.Proofs.YtgeanpnkllnipabW.PrintMore
attribute [local go_sem] max2_int min2_int max_two min_two max_three min_three max_four min_four
set_option linter.unusedVariables false
set_option linter.unusedSimpArgs false

def windbreakref01_Cmp.j0 : Nat → List Int → List Int → Bool → Option (Int)
 | 0, _, _, _ => none
 | k + 1, x0, x1, x16 => if x16 = true then (some 0) else ((windbreakref01_In.f k x0).bind fun t336 => ((windbreakref01_In.f k x1).bind fun t339 => ((windbreakref01_compare.f k t336 t339).bind fun t342 => (some t342))))
def windbreakref01_Cmp.f (k : Nat) (l0 : List Int) (l1 : List Int) : Option (Int) := (windbreakref01_Right.f l0).bind fun t334 => ((windbreakref01_Right.f l1).bind fun t335 => (if t334 = true then (windbreakref01_Cmp.j0 k l0 l1 (!t335)) else (windbreakref01_Cmp.j0 k l0 l1 true)))
set_option maxHeartbeats 8000000 in
set_option maxRecDepth 100000 in
theorem windbreakref01_Cmp.calls (k : Nat) (A0 : Option Addr) (c0 : Nat) (l0 : List Int) (A1 : Option Addr) (c1 : Nat) (l1 : List Int) (r : Int) (w : World) (hr0 : Kd.C (Kd.int .u64) w A0 l0.length l0) (hc0 : l0.length ≤ c0) (hr1 : Kd.C (Kd.int .u64) w A1 l1.length l1) (hc1 : l1.length ≤ c1) (h : windbreakref01_Cmp.f k l0 l1 = some r) :
  Calls Try.prog 72 #[.slice A0 l0.length c0, .slice A1 l1.length c1] w fun e w' => e = .returned (.int .i64 r) ∧ Below w.heap.size w w' := by
 have HR0 := Aside0.mk hr0; have HC0 := Aside0.mk hc0; clear hr0 hc0; have HR1 := Aside0.mk hr1; have HC1 := Aside0.mk hc1; clear hr1 hc1
 have HB := Aside0.mk (Below.refl w.heap.size w)
 have H : ((windbreakref01_Right.f l0).bind fun t334 => ((windbreakref01_Right.f l1).bind fun t335 => (if t334 = true then (windbreakref01_Cmp.j0 k l0 l1 (!t335)) else (windbreakref01_Cmp.j0 k l0 l1 true)))) = some r := h
 clear h
 replace H := Option.bind_eq_some_iff.mp H
 obtain ⟨t334, A30, H⟩ := H
 replace H : ((windbreakref01_Right.f l1).bind fun t335 => (if t334 = true then (windbreakref01_Cmp.j0 k l0 l1 (!t335)) else (windbreakref01_Cmp.j0 k l0 l1 true))) = some r := H
 have A3 := Aside0.mk A30; clear A30
 replace H := Option.bind_eq_some_iff.mp H
 obtain ⟨t335, A40, H⟩ := H
 replace H : (if t334 = true then (windbreakref01_Cmp.j0 k l0 l1 (!t335)) else (windbreakref01_Cmp.j0 k l0 l1 true)) = some r := H
 have A4 := Aside0.mk A40; clear A40; have HC5 := Aside0.mk H; clear H
 go_enter Try.func72, Try.ntmps72
 go_upto_region 3 with (first | ((with_reducible refine gate_callee (f := 50) rfl ?_); refine goesL_ (some 8) rfl rfl Try.func50 (by kernel_rfl) rfl #[.slice A0 l0.length c0] rfl uM ?_; (with_reducible refine (windbreakref01_Right.calls _ _ l0 t334 _ ?side1 ?side2 A3.out).mono ?_); (case side1 => exact uC HR0.out); (case side2 => exact HC0.out); rintro e w' ⟨rfl, ⟨nd, rfl⟩⟩; refine ⟨_, rfl, ?_⟩) | ((with_reducible refine gate_callee (f := 50) rfl ?_); refine goesL_ (some 10) rfl rfl Try.func50 (by kernel_rfl) rfl #[.slice A1 l1.length c1] rfl uM ?_; (with_reducible refine (windbreakref01_Right.calls _ _ l1 t335 _ ?side1 ?side2 A4.out).mono ?_); (case side1 => exact uC HR1.out); (case side2 => exact HC1.out); rintro e w' ⟨rfl, ⟨nd, rfl⟩⟩; refine ⟨_, rfl, ?_⟩))
 (try simp only [Act.put, List.setIfInBounds_toArray, List.set_cons_zero, List.set_cons_succ])
 go_cut [16] (fun v16 wc => ∃ (kq : Nat) (x16_4 : Bool), v16 = .bool x16_4 ∧ Aside0 (windbreakref01_Cmp.j0 kq l0 l1 x16_4 = some r) ∧ Aside0 (kq ≤ k) ∧ Aside0 (Below w.heap.size w wc))
 case first =>
  have H := HC5.out
  clear HC5
  by_cases c6 : t334 = true
  ·
   subst c6
   have H1 : (windbreakref01_Cmp.j0 k l0 l1 (!t335)) = some r := by rw [if_pos rfl] at H; exact H
   clear H; have H := H1; clear H1
   have H' := Aside0.mk H
   clear H
   go_wp2
   go_meet
   case rel => exact ⟨_, (!t335), (by first | rfl | (simp; done) | (simp [*]; done)), H', ⟨by first | omega | exact Nat.le_refl _⟩, ⟨uB⟩⟩
  ·
   replace c6 := Bool.eq_false_iff.mpr c6
   subst c6
   have H1 : (windbreakref01_Cmp.j0 k l0 l1 true) = some r := by rw [if_neg (show ¬ (false = true) by decide)] at H; exact H
   clear H; have H := H1; clear H1
   have H' := Aside0.mk H
   clear H
   go_wp2
   go_meet
   case rel => exact ⟨_, (true), (by first | rfl | (simp; done) | (simp [*]; done)), H', ⟨by first | omega | exact Nat.le_refl _⟩, ⟨uB⟩⟩
 case rest =>
  clear HC5
  try clear c1
  try clear p2
  try clear c5
  try clear c6
  obtain ⟨kq, x16_4, rfl, HA, HJ4, HB⟩ := hcut
  cases kq with
  | zero => exact absurd HA.out (by simp [windbreakref01_Cmp.j0])
  | succ kj4 =>
   have H := HA.out
   clear HA
   simp only [windbreakref01_Cmp.j0] at H
   by_cases c7 : x16_4 = true
   ·
    subst c7
    have H1 : (some 0) = some r := by rw [if_pos rfl] at H; exact H
    clear H; have H := H1; clear H1
    obtain rfl := Option.some.inj H
    go_wp2
    go_ret
    exact ⟨by first | rfl | (simp [errW_none, errW_some] <;> rfl) | (simp [*, errW_none, errW_some] <;> rfl), uB⟩
   ·
    replace c7 := Bool.eq_false_iff.mpr c7
    subst c7
    have H1 : ((windbreakref01_In.f kj4 l0).bind fun t336 => ((windbreakref01_In.f kj4 l1).bind fun t339 => ((windbreakref01_compare.f kj4 t336 t339).bind fun t342 => (some t342)))) = some r := by rw [if_neg (show ¬ (false = true) by decide)] at H; exact H
    clear H; have H := H1; clear H1
    replace H := Option.bind_eq_some_iff.mp H
    obtain ⟨t336, A80, H⟩ := H
    replace H : ((windbreakref01_In.f kj4 l1).bind fun t339 => ((windbreakref01_compare.f kj4 t336 t339).bind fun t342 => (some t342))) = some r := H
    have A8 := Aside0.mk A80; clear A80
    replace H := Option.bind_eq_some_iff.mp H
    obtain ⟨t339, A90, H⟩ := H
    replace H : ((windbreakref01_compare.f kj4 t336 t339).bind fun t342 => (some t342)) = some r := H
    have A9 := Aside0.mk A90; clear A90
    replace H := Option.bind_eq_some_iff.mp H
    obtain ⟨t342, A100, H⟩ := H
    replace H : (some t342) = some r := H
    have A10 := Aside0.mk A100; clear A100
    obtain rfl := Option.some.inj H
    go_wp2_with (first | ((with_reducible refine gate_callee (f := 54) rfl ?_); refine goesL_ (some 18) rfl rfl Try.func54 (by kernel_rfl) rfl #[.slice A0 l0.length c0] rfl uM ?_; (with_reducible refine (windbreakref01_In.calls kj4 _ _ l0 t336 _ ?side1 ?side2 A8.out).mono ?_); (case side1 => exact uC (Kd.C_below HR0.out HB.out)); (case side2 => exact HC0.out); rintro e w11 ⟨v337, rfl, ho0, hb⟩; refine ⟨_, rfl, ?_⟩; have n0_ := Aside0.mk (Kd.R_lower ho0 (below_size uB)); have n1_ := Aside0.mk (below_step uB hb); clear HB; have HO338 := n0_; have HB := n1_; clear n0_ n1_; (try clear hb); (try clear hb2); (try clear hk); (try clear hi); (try clear ho0)) | ((with_reducible refine gate_callee (f := 54) rfl ?_); refine goesL_ (some 20) rfl rfl Try.func54 (by kernel_rfl) rfl #[.slice A1 l1.length c1] rfl uM ?_; (with_reducible refine (windbreakref01_In.calls kj4 _ _ l1 t339 _ ?side1 ?side2 A9.out).mono ?_); (case side1 => exact uC (Kd.C_below HR1.out HB.out)); (case side2 => exact HC1.out); rintro e w12 ⟨v340, rfl, ho0, hb⟩; refine ⟨_, rfl, ?_⟩; have n0_ := Aside0.mk (Kd.R_elder' (uR HO338.out) (Kd.R_base ho0) hb); have n1_ := Aside0.mk (Kd.R_lower (Kd.R_new' ho0 (Kd.R_lt (uR HO338.out))) (below_size uB)); have n2_ := Aside0.mk (below_step uB hb); clear HO338; clear HB; have HO338 := n0_; have HO341 := n1_; have HB := n2_; clear n0_ n1_ n2_; (try clear hb); (try clear hb2); (try clear hk); (try clear hi); (try clear ho0); obtain ⟨Ao13, co13, eo13⟩ := Kd.R_slice HO338.out; subst eo13; obtain ⟨Ao14, co14, eo14⟩ := Kd.R_slice HO341.out; subst eo14) | ((with_reducible refine gate_callee (f := 110) rfl ?_); refine goesL_ (some 21) rfl rfl Try.func110 (by kernel_rfl) rfl #[.slice Ao13 t336.length co13, .slice Ao14 t339.length co14] rfl uM ?_; (with_reducible refine (windbreakref01_compare.calls kj4 _ _ t336 _ _ t339 t342 _ ?side1 ?side2 ?side3 ?side4 A10.out).mono ?_); (case side1 => exact uC (Kd.R_reads' HO338.out).2.2); (case side2 => exact (Kd.R_reads' HO338.out).2.1); (case side3 => exact uC (Kd.R_reads' HO341.out).2.2); (case side4 => exact (Kd.R_reads' HO341.out).2.1); rintro e w' ⟨rfl, ⟨nd, rfl⟩⟩; refine ⟨_, rfl, ?_⟩))
    go_ret
    exact ⟨by first | rfl | (simp [errW_none, errW_some] <;> rfl) | (simp [*, errW_none, errW_some] <;> rfl), uB⟩

end Go.Proofs.Ytgeanpnkllnipab.F
end

section
namespace Go.Proofs.Ytgeanpnkllnipab.F
open Go.RowKit Go.Proofs.YtgeanpnkllnipabW.PrintWords Go.Proofs.YtgeanpnkllnipabW.PrintLast Go.Proofs.YtgeanpnkllnipabW.PrintMore
attribute [local go_sem] max2_int min2_int max_two min_two max_three min_three max_four min_four
set_option linter.unusedVariables false
set_option linter.unusedSimpArgs false

def windbreakref01_Of.f (a0 : Int) : Option (List Int) := if a0 = 0 then (some ([] : List Int)) else (some (([a0] : List Int)))
set_option maxHeartbeats 8000000 in
set_option maxRecDepth 100000 in
theorem windbreakref01_Of.calls (a0 : Int) (r : List Int) (w : World) (h : windbreakref01_Of.f a0 = some r) :
  Calls Try.prog 94 #[.int .u64 a0] w fun e w' => ∃ v0_ : Value, e = .returned (v0_) ∧ Kd.R (Kd.int .u64) 27 w' w.heap.size (fun _ => True) v0_ r ∧ Below w.heap.size w w' := by
 have HB := Aside0.mk (Below.refl w.heap.size w)
 have H : (if a0 = 0 then (some ([] : List Int)) else (some (([a0] : List Int)))) = some r := h
 clear h
 by_cases c2 : a0 = 0
 ·
  rw [if_pos c2] at H
  have c2b0 : (a0 == 0) = true := beq_iff_eq.mpr c2
  have c2b1 : (a0 != 0) = false := bne_eq_false_iff_eq.mpr c2
  clear c2
  obtain rfl := Option.some.inj H
  go_enter Try.func94, Try.ntmps94
  go_wp2
  go_ret
  exact ⟨_, by first | rfl | (simp [errW_none, errW_some] <;> rfl) | (simp [*, errW_none, errW_some] <;> rfl), by first | exact Kd.R_nil _ _ _ _ _ | exact Kd.N_nil _ _ _ _ _ | exact Kd.V_nil _ _ _ _ _ | exact Kd.Q_nil _ _ _ _ _ | exact Kd.S_nil _ _ _ _ _, uB⟩
 ·
  rw [if_neg c2] at H
  have c2b0 : (a0 == 0) = false := beq_eq_false_iff_ne.mpr c2
  have c2b1 : (a0 != 0) = true := bne_iff_ne.mpr c2
  obtain ⟨y567, hy567⟩ : ∃ y_ : List Int, y_ = (([a0] : List Int)) := ⟨_, rfl⟩
  replace H : (some y567) = some r := by first | (rw [hy567]; with_reducible exact H) | (have H2_ := (Option.bind_some _ _).symm.trans H; rw [hy567]; with_reducible exact H2_) | (have H2_ := (Option.bind_some _ _).symm.trans H; with_reducible exact H2_) | with_reducible exact H | (rw [hy567]; exact H) | exact H
  have Ny567 := Aside0.mk hy567; clear hy567
  obtain rfl := Option.some.inj H
  go_enter Try.func94, Try.ntmps94
  go_wp2_with (first | ((with_reducible refine gate_dst (N := 6) rfl ?_); refine Kd.R_lit (Kd.int .u64) _ 27 ?hg (N := 6) ?hd (xs := ([a0] : List Int)) (inner := [.int .u64 a0]) (ok := fun _ => True) (okp := fun _ => True) ?hr ?hp (fun _ hk => hk) trivial (Below.refl _ _) (Nat.le_refl _) (by simp) ?_; (case hd => rfl); (case hg => rfl); (case hr => first | (go_simp; done) | (go_simp; rfl) | (go_simp; simp only [u64_u8]; done) | (go_simp; simp only [u64_u8]; rfl)); (case hp => exact (Reps.one (show Kd.M (Kd.int .u64) _ _ _ a0 [.int .u64 a0] from rfl) (Reps.none _ _))); intro v568 w3 ho4 hb hg_ hnew_; clear hg_ hnew_; (first | rw [← Ny567.out] at ho4 | (simp only [Int.reduceToNat] at ho4; rw [← Ny567.out] at ho4)); have n0_ := Aside0.mk (Kd.R_lower ho4 (below_size uB)); have n1_ := Aside0.mk (below_step uB hb); clear HB; have HO569 := n0_; have HB := n1_; clear n0_ n1_; clear hb ho4))
  go_ret
  exact ⟨_, by first | rfl | (simp [errW_none, errW_some] <;> rfl) | (simp [*, errW_none, errW_some] <;> rfl), uR HO569.out, uB⟩

end Go.Proofs.Ytgeanpnkllnipab.F
end

section
namespace Go.Proofs.Ytgeanpnkllnipab.F
open Go.RowKit Go.Proofs.YtgeanpnkllnipabW.PrintWords Go.Proofs.YtgeanpnkllnipabW.PrintLast Go.Proofs.YtgeanpnkllnipabW.PrintMore
attribute [local go_sem] max2_int min2_int max_two min_two max_three min_three max_four min_four
set_option linter.unusedVariables false
set_option linter.unusedSimpArgs false

def windbreakref07_May.f (k : Nat) (l0 : List Int) : Option (Bool) := (windbreakref01_Right.f l0).bind fun t776 => (if t776 = true then (if (l0.length : Int) ≤ 8 then ((windbreakref01_Of.f 3).bind fun t777 => ((windbreakref01_Cmp.f k l0 t777).bind fun t780 => (some (decide (t780 ≥ 0))))) else (some false)) else (some false))
set_option maxHeartbeats 8000000 in
set_option maxRecDepth 100000 in
theorem windbreakref07_May.calls (k : Nat) (A0 : Option Addr) (c0 : Nat) (l0 : List Int) (r : Bool) (w : World) (hr0 : Kd.C (Kd.int .u64) w A0 l0.length l0) (hc0 : l0.length ≤ c0) (h : windbreakref07_May.f k l0 = some r) :
  Calls Try.prog 59 #[.slice A0 l0.length c0] w fun e w' => e = .returned (.bool r) ∧ Below w.heap.size w w' := by
 have HR0 := Aside0.mk hr0; have HC0 := Aside0.mk hc0; clear hr0 hc0
 have HB := Aside0.mk (Below.refl w.heap.size w)
 have H : ((windbreakref01_Right.f l0).bind fun t776 => (if t776 = true then (if (l0.length : Int) ≤ 8 then ((windbreakref01_Of.f 3).bind fun t777 => ((windbreakref01_Cmp.f k l0 t777).bind fun t780 => (some (decide (t780 ≥ 0))))) else (some false)) else (some false))) = some r := h
 clear h
 replace H := Option.bind_eq_some_iff.mp H
 obtain ⟨t776, A20, H⟩ := H
 replace H : (if t776 = true then (if (l0.length : Int) ≤ 8 then ((windbreakref01_Of.f 3).bind fun t777 => ((windbreakref01_Cmp.f k l0 t777).bind fun t780 => (some (decide (t780 ≥ 0))))) else (some false)) else (some false)) = some r := H
 have A2 := Aside0.mk A20; clear A20
 by_cases c3 : t776 = true
 ·
  subst c3
  have H1 : (if (l0.length : Int) ≤ 8 then ((windbreakref01_Of.f 3).bind fun t777 => ((windbreakref01_Cmp.f k l0 t777).bind fun t780 => (some (decide (t780 ≥ 0))))) else (some false)) = some r := by rw [if_pos rfl] at H; exact H
  clear H; have H := H1; clear H1
  by_cases c4 : (l0.length : Int) ≤ 8
  ·
   rw [if_pos c4] at H
   have c4b0 : decide ((l0.length : Int) ≤ 8) = true := decide_eq_true c4
   have c4b1 : decide (l0.length ≤ 8) = true := decide_eq_true (by omega)
   clear c4
   replace H := Option.bind_eq_some_iff.mp H
   obtain ⟨t777, A50, H⟩ := H
   replace H : ((windbreakref01_Cmp.f k l0 t777).bind fun t780 => (some (decide (t780 ≥ 0)))) = some r := H
   have A5 := Aside0.mk A50; clear A50
   replace H := Option.bind_eq_some_iff.mp H
   obtain ⟨t780, A60, H⟩ := H
   replace H : (some (decide (t780 ≥ 0))) = some r := H
   have A6 := Aside0.mk A60; clear A60
   obtain rfl := Option.some.inj H
   go_enter Try.func59, Try.ntmps59
   go_wp2_with (first | ((with_reducible refine gate_callee (f := 50) rfl ?_); refine goesL_ (some 5) rfl rfl Try.func50 (by kernel_rfl) rfl #[.slice A0 l0.length c0] rfl uM ?_; (with_reducible refine (windbreakref01_Right.calls _ _ l0 true _ ?side1 ?side2 A2.out).mono ?_); (case side1 => exact uC HR0.out); (case side2 => exact HC0.out); rintro e w' ⟨rfl, ⟨nd, rfl⟩⟩; refine ⟨_, rfl, ?_⟩) | (go_at_call 94; (with_reducible refine (windbreakref01_Of.calls 3 t777 _ A5.out).mono ?_); rintro e w7 ⟨v778, rfl, ho0, hb⟩; have n0_ := Aside0.mk (Kd.R_lower ho0 (below_size uB)); have n1_ := Aside0.mk (below_step uB hb); clear HB; have HO779 := n0_; have HB := n1_; clear n0_ n1_; (try clear hb); (try clear hb2); (try clear hk); (try clear hi); (try clear ho0); obtain ⟨Ao8, co8, eo8⟩ := Kd.R_slice HO779.out; subst eo8) | (go_at_call 72; (with_reducible refine (windbreakref01_Cmp.calls k _ _ l0 _ _ t777 t780 _ ?side1 ?side2 ?side3 ?side4 A6.out).mono ?_); (case side1 => exact uC (Kd.C_below HR0.out HB.out)); (case side2 => exact HC0.out); (case side3 => exact uC (Kd.R_reads' HO779.out).2.2); (case side4 => exact (Kd.R_reads' HO779.out).2.1); rintro e w9 ⟨rfl, hb⟩; have n0_ := Aside0.mk (Kd.R_below (uR HO779.out) hb); have n1_ := Aside0.mk (below_step uB hb); clear HO779; clear HB; have HO779 := n0_; have HB := n1_; clear n0_ n1_; (try clear hb); (try clear hb2); (try clear hk); (try clear hi)))
   go_ret
   exact ⟨by first | rfl | (simp [errW_none, errW_some] <;> rfl) | (simp [*, errW_none, errW_some] <;> rfl), uB⟩
  ·
   rw [if_neg c4] at H
   have c4b0 : decide ((l0.length : Int) ≤ 8) = false := decide_eq_false c4
   have c4b1 : decide (l0.length ≤ 8) = false := decide_eq_false (by omega)
   clear c4
   obtain rfl := Option.some.inj H
   go_enter Try.func59, Try.ntmps59
   go_wp2_with (first | ((with_reducible refine gate_callee (f := 50) rfl ?_); refine goesL_ (some 5) rfl rfl Try.func50 (by kernel_rfl) rfl #[.slice A0 l0.length c0] rfl uM ?_; (with_reducible refine (windbreakref01_Right.calls _ _ l0 true _ ?side1 ?side2 A2.out).mono ?_); (case side1 => exact uC HR0.out); (case side2 => exact HC0.out); rintro e w' ⟨rfl, ⟨nd, rfl⟩⟩; refine ⟨_, rfl, ?_⟩))
   go_ret
   exact ⟨by first | rfl | (simp [errW_none, errW_some] <;> rfl) | (simp [*, errW_none, errW_some] <;> rfl), uB⟩
 ·
  replace c3 := Bool.eq_false_iff.mpr c3
  subst c3
  have H1 : (some false) = some r := by rw [if_neg (show ¬ (false = true) by decide)] at H; exact H
  clear H; have H := H1; clear H1
  obtain rfl := Option.some.inj H
  go_enter Try.func59, Try.ntmps59
  go_wp2_with (first | ((with_reducible refine gate_callee (f := 50) rfl ?_); refine goesL_ (some 5) rfl rfl Try.func50 (by kernel_rfl) rfl #[.slice A0 l0.length c0] rfl uM ?_; (with_reducible refine (windbreakref01_Right.calls _ _ l0 false _ ?side1 ?side2 A2.out).mono ?_); (case side1 => exact uC HR0.out); (case side2 => exact HC0.out); rintro e w' ⟨rfl, ⟨nd, rfl⟩⟩; refine ⟨_, rfl, ?_⟩))
  go_ret
  exact ⟨by first | rfl | (simp [errW_none, errW_some] <;> rfl) | (simp [*, errW_none, errW_some] <;> rfl), uB⟩

end Go.Proofs.Ytgeanpnkllnipab.F
end

section
namespace Go.Proofs.Ytgeanpnkllnipab.F
open Go.RowKit Go.Proofs.YtgeanpnkllnipabW.PrintWords Go.Proofs.YtgeanpnkllnipabW.PrintLast Go.Proofs.YtgeanpnkllnipabW.PrintMore
attribute [local go_sem] max2_int min2_int max_two min_two max_three min_three max_four min_four
set_option linter.unusedVariables false
set_option linter.unusedSimpArgs false

def windbreakref03_Right.f (a0_0 : Bool) (l0_1 : List Int) : Option (Bool) := (windbreakref01_Right.f l0_1).bind fun t782 => (if t782 = true then (if a0_0 = true then (some (decide ((l0_1.length : Int) > 0))) else (some true)) else (some false))
set_option maxHeartbeats 8000000 in
set_option maxRecDepth 100000 in
theorem windbreakref03_Right.calls (a0_0 : Bool) (A0_1 : Option Addr) (c0_1 : Nat) (l0_1 : List Int) (r : Bool) (w : World) (hr0_1 : Kd.C (Kd.int .u64) w A0_1 l0_1.length l0_1) (hc0_1 : l0_1.length ≤ c0_1) (h : windbreakref03_Right.f a0_0 l0_1 = some r) :
  Calls Try.prog 103 #[.agg #[.bool a0_0, .slice A0_1 l0_1.length c0_1]] w fun e w' => e = .returned (.bool r) ∧ Below w.heap.size w w' := by
 have hu52 := Try.underlying52
 have HR0_1 := Aside0.mk hr0_1; have HC0_1 := Aside0.mk hc0_1; clear hr0_1 hc0_1
 have HB := Aside0.mk (Below.refl w.heap.size w)
 have H : ((windbreakref01_Right.f l0_1).bind fun t782 => (if t782 = true then (if a0_0 = true then (some (decide ((l0_1.length : Int) > 0))) else (some true)) else (some false))) = some r := h
 clear h
 replace H := Option.bind_eq_some_iff.mp H
 obtain ⟨t782, A20, H⟩ := H
 replace H : (if t782 = true then (if a0_0 = true then (some (decide ((l0_1.length : Int) > 0))) else (some true)) else (some false)) = some r := H
 have A2 := Aside0.mk A20; clear A20
 by_cases c3 : t782 = true
 ·
  subst c3
  have H1 : (if a0_0 = true then (some (decide ((l0_1.length : Int) > 0))) else (some true)) = some r := by rw [if_pos rfl] at H; exact H
  clear H; have H := H1; clear H1
  by_cases c4 : a0_0 = true
  ·
   subst c4
   have H1 : (some (decide ((l0_1.length : Int) > 0))) = some r := by rw [if_pos rfl] at H; exact H
   clear H; have H := H1; clear H1
   obtain rfl := Option.some.inj H
   go_enter Try.func103, Try.ntmps103
   go_wp2_with (first | ((with_reducible refine gate_dst (N := 1) rfl ?_); (try (refine gate_guard (by rfl) ?_; dsimp only)); refine box_event ?hg (N := 1) ?hd (cs := #[.bool true, .slice A0_1 l0_1.length c0_1]) (t := 52) ?hr ?_; (case hd => rfl); (case hg => rfl); (case hr => first | (go_simp; done) | (go_simp; rfl)); intro gb781 hg w5 hbox hb; have n0_ := Aside0.mk (below_step uB hb); have n1_ := Aside0.mk (hbox); have n2_ := Aside0.mk ((by rw [hg]; exact (below_size uB) : w.heap.size ≤ gb781)); have n3_ := Aside0.mk ((by rw [hg]; exact (below_size uB) : w.heap.size ≤ gb781)); clear HB; have HB := n0_; have BK781 := n1_; have GW781 := n2_; have GE781 := n3_; clear n0_ n1_ n2_ n3_; clear hb hbox hg; have hcz6_0 : w5.cell? ⟨gb781, 0, none⟩ = some (.bool true) := (blk_cell BK781.out 0).trans rfl; have hcz6_1 : w5.cell? ⟨gb781, 1, none⟩ = some (.slice A0_1 l0_1.length c0_1) := (blk_cell BK781.out 1).trans rfl; have hfz6_0 := blk_frozen BK781.out 0; have hfz6_1 := blk_frozen BK781.out 1) | ((with_reducible refine gate_callee (f := 50) rfl ?_); refine goesL_ (some 6) rfl rfl Try.func50 (by kernel_rfl) rfl #[.slice A0_1 l0_1.length c0_1] rfl uM ?_; (with_reducible refine (windbreakref01_Right.calls _ _ l0_1 true _ ?side1 ?side2 A2.out).mono ?_); (case side1 => exact uC (Kd.C_below HR0_1.out HB.out)); (case side2 => exact HC0_1.out); rintro e w' ⟨rfl, ⟨nd, rfl⟩⟩; refine ⟨_, rfl, ?_⟩))
   go_ret
   exact ⟨by first | rfl | (simp [errW_none, errW_some] <;> rfl) | (simp [*, errW_none, errW_some] <;> rfl), uB⟩
  ·
   replace c4 := Bool.eq_false_iff.mpr c4
   subst c4
   have H1 : (some true) = some r := by rw [if_neg (show ¬ (false = true) by decide)] at H; exact H
   clear H; have H := H1; clear H1
   obtain rfl := Option.some.inj H
   go_enter Try.func103, Try.ntmps103
   go_wp2_with (first | ((with_reducible refine gate_dst (N := 1) rfl ?_); (try (refine gate_guard (by rfl) ?_; dsimp only)); refine box_event ?hg (N := 1) ?hd (cs := #[.bool false, .slice A0_1 l0_1.length c0_1]) (t := 52) ?hr ?_; (case hd => rfl); (case hg => rfl); (case hr => first | (go_simp; done) | (go_simp; rfl)); intro gb781 hg w7 hbox hb; have n0_ := Aside0.mk (below_step uB hb); have n1_ := Aside0.mk (hbox); have n2_ := Aside0.mk ((by rw [hg]; exact (below_size uB) : w.heap.size ≤ gb781)); have n3_ := Aside0.mk ((by rw [hg]; exact (below_size uB) : w.heap.size ≤ gb781)); clear HB; have HB := n0_; have BK781 := n1_; have GW781 := n2_; have GE781 := n3_; clear n0_ n1_ n2_ n3_; clear hb hbox hg; have hcz8_0 : w7.cell? ⟨gb781, 0, none⟩ = some (.bool false) := (blk_cell BK781.out 0).trans rfl; have hcz8_1 : w7.cell? ⟨gb781, 1, none⟩ = some (.slice A0_1 l0_1.length c0_1) := (blk_cell BK781.out 1).trans rfl; have hfz8_0 := blk_frozen BK781.out 0; have hfz8_1 := blk_frozen BK781.out 1) | ((with_reducible refine gate_callee (f := 50) rfl ?_); refine goesL_ (some 6) rfl rfl Try.func50 (by kernel_rfl) rfl #[.slice A0_1 l0_1.length c0_1] rfl uM ?_; (with_reducible refine (windbreakref01_Right.calls _ _ l0_1 true _ ?side1 ?side2 A2.out).mono ?_); (case side1 => exact uC (Kd.C_below HR0_1.out HB.out)); (case side2 => exact HC0_1.out); rintro e w' ⟨rfl, ⟨nd, rfl⟩⟩; refine ⟨_, rfl, ?_⟩))
   go_ret
   exact ⟨by first | rfl | (simp [errW_none, errW_some] <;> rfl) | (simp [*, errW_none, errW_some] <;> rfl), uB⟩
 ·
  replace c3 := Bool.eq_false_iff.mpr c3
  subst c3
  have H1 : (some false) = some r := by rw [if_neg (show ¬ (false = true) by decide)] at H; exact H
  clear H; have H := H1; clear H1
  obtain rfl := Option.some.inj H
  go_enter Try.func103, Try.ntmps103
  go_wp2_with (first | ((with_reducible refine gate_dst (N := 1) rfl ?_); (try (refine gate_guard (by rfl) ?_; dsimp only)); refine box_event ?hg (N := 1) ?hd (cs := #[.bool a0_0, .slice A0_1 l0_1.length c0_1]) (t := 52) ?hr ?_; (case hd => rfl); (case hg => rfl); (case hr => first | (go_simp; done) | (go_simp; rfl)); intro gb781 hg w9 hbox hb; have n0_ := Aside0.mk (below_step uB hb); have n1_ := Aside0.mk (hbox); have n2_ := Aside0.mk ((by rw [hg]; exact (below_size uB) : w.heap.size ≤ gb781)); have n3_ := Aside0.mk ((by rw [hg]; exact (below_size uB) : w.heap.size ≤ gb781)); clear HB; have HB := n0_; have BK781 := n1_; have GW781 := n2_; have GE781 := n3_; clear n0_ n1_ n2_ n3_; clear hb hbox hg; have hcz10_0 : w9.cell? ⟨gb781, 0, none⟩ = some (.bool a0_0) := (blk_cell BK781.out 0).trans rfl; have hcz10_1 : w9.cell? ⟨gb781, 1, none⟩ = some (.slice A0_1 l0_1.length c0_1) := (blk_cell BK781.out 1).trans rfl; have hfz10_0 := blk_frozen BK781.out 0; have hfz10_1 := blk_frozen BK781.out 1) | ((with_reducible refine gate_callee (f := 50) rfl ?_); refine goesL_ (some 6) rfl rfl Try.func50 (by kernel_rfl) rfl #[.slice A0_1 l0_1.length c0_1] rfl uM ?_; (with_reducible refine (windbreakref01_Right.calls _ _ l0_1 false _ ?side1 ?side2 A2.out).mono ?_); (case side1 => exact uC (Kd.C_below HR0_1.out HB.out)); (case side2 => exact HC0_1.out); rintro e w' ⟨rfl, ⟨nd, rfl⟩⟩; refine ⟨_, rfl, ?_⟩))
  go_ret
  exact ⟨by first | rfl | (simp [errW_none, errW_some] <;> rfl) | (simp [*, errW_none, errW_some] <;> rfl), uB⟩

end Go.Proofs.Ytgeanpnkllnipab.F
end

section
namespace Go.Proofs.Ytgeanpnkllnipab.F
open Go.RowKit Go.Proofs.YtgeanpnkllnipabW.PrintWords Go.Proofs.YtgeanpnkllnipabW.PrintLast Go.Proofs.YtgeanpnkllnipabW.PrintMore
attribute [local go_sem] max2_int min2_int max_two min_two max_three min_three max_four min_four
set_option linter.unusedVariables false
set_option linter.unusedSimpArgs false

def windbreakref03_Cmp.j0 : Nat → Bool → Bool → List Int → Bool → List Int → Option (Int)
 | 0, _, _, _, _, _ => none
 | k + 1, x16, x784000, x784001, x785000, x785001 => if x16 = true then (some 0) else (if (x784000 != x785000) = true then (if x784000 = true then (some (-1)) else (some 1)) else (if x784000 = true then ((windbreakref01_Cmp.f k x785001 x784001).bind fun t787 => (some t787)) else ((windbreakref01_Cmp.f k x784001 x785001).bind fun t788 => (some t788))))
def windbreakref03_Cmp.f (k : Nat) (a0_0 : Bool) (l0_1 : List Int) (a1_0 : Bool) (l1_1 : List Int) : Option (Int) := (windbreakref03_Right.f a0_0 l0_1).bind fun t785 => ((windbreakref03_Right.f a1_0 l1_1).bind fun t786 => (if t785 = true then (windbreakref03_Cmp.j0 k (!t786) a0_0 l0_1 a1_0 l1_1) else (windbreakref03_Cmp.j0 k true a0_0 l0_1 a1_0 l1_1)))
set_option maxHeartbeats 8000000 in
set_option maxRecDepth 100000 in
theorem windbreakref03_Cmp.calls (k : Nat) (a0_0 : Bool) (A0_1 : Option Addr) (c0_1 : Nat) (l0_1 : List Int) (a1_0 : Bool) (A1_1 : Option Addr) (c1_1 : Nat) (l1_1 : List Int) (r : Int) (w : World) (hr0_1 : Kd.C (Kd.int .u64) w A0_1 l0_1.length l0_1) (hc0_1 : l0_1.length ≤ c0_1) (hr1_1 : Kd.C (Kd.int .u64) w A1_1 l1_1.length l1_1) (hc1_1 : l1_1.length ≤ c1_1) (h : windbreakref03_Cmp.f k a0_0 l0_1 a1_0 l1_1 = some r) :
  Calls Try.prog 60 #[.agg #[.bool a0_0, .slice A0_1 l0_1.length c0_1], .agg #[.bool a1_0, .slice A1_1 l1_1.length c1_1]] w fun e w' => e = .returned (.int .i64 r) ∧ Below w.heap.size w w' := by
 have hu52 := Try.underlying52
 have HR0_1 := Aside0.mk hr0_1; have HC0_1 := Aside0.mk hc0_1; clear hr0_1 hc0_1; have HR1_1 := Aside0.mk hr1_1; have HC1_1 := Aside0.mk hc1_1; clear hr1_1 hc1_1
 have HB := Aside0.mk (Below.refl w.heap.size w)
 have H : ((windbreakref03_Right.f a0_0 l0_1).bind fun t785 => ((windbreakref03_Right.f a1_0 l1_1).bind fun t786 => (if t785 = true then (windbreakref03_Cmp.j0 k (!t786) a0_0 l0_1 a1_0 l1_1) else (windbreakref03_Cmp.j0 k true a0_0 l0_1 a1_0 l1_1)))) = some r := h
 clear h
 replace H := Option.bind_eq_some_iff.mp H
 obtain ⟨t785, A30, H⟩ := H
 replace H : ((windbreakref03_Right.f a1_0 l1_1).bind fun t786 => (if t785 = true then (windbreakref03_Cmp.j0 k (!t786) a0_0 l0_1 a1_0 l1_1) else (windbreakref03_Cmp.j0 k true a0_0 l0_1 a1_0 l1_1))) = some r := H
 have A3 := Aside0.mk A30; clear A30
 replace H := Option.bind_eq_some_iff.mp H
 obtain ⟨t786, A40, H⟩ := H
 replace H : (if t785 = true then (windbreakref03_Cmp.j0 k (!t786) a0_0 l0_1 a1_0 l1_1) else (windbreakref03_Cmp.j0 k true a0_0 l0_1 a1_0 l1_1)) = some r := H
 have A4 := Aside0.mk A40; clear A40; have HC5 := Aside0.mk H; clear H
 go_enter Try.func60, Try.ntmps60
 go_upto_region 3 with (first | ((with_reducible refine gate_dst (N := 2) rfl ?_); refine box_event ?hg (N := 2) ?hd (cs := #[.bool a0_0, .slice A0_1 l0_1.length c0_1]) (t := 52) ?hr ?_; (case hd => rfl); (case hg => rfl); (case hr => first | (go_simp; done) | (go_simp; rfl)); intro gb783 hg w6 hbox hb; have n0_ := Aside0.mk (below_step uB hb); have n1_ := Aside0.mk (hbox); have n2_ := Aside0.mk ((by rw [hg]; exact (below_size uB) : w.heap.size ≤ gb783)); have n3_ := Aside0.mk ((by rw [hg]; exact (below_size uB) : w.heap.size ≤ gb783)); clear HB; have HB := n0_; have BK783 := n1_; have GW783 := n2_; have GE783 := n3_; clear n0_ n1_ n2_ n3_; clear hb hbox hg) | ((with_reducible refine gate_dst (N := 3) rfl ?_); refine box_event ?hg (N := 3) ?hd (cs := #[.bool a1_0, .slice A1_1 l1_1.length c1_1]) (t := 52) ?hr ?_; (case hd => rfl); (case hg => rfl); (case hr => first | (go_simp; done) | (go_simp; rfl)); intro gb784 hg w7 hbox hb; have n0_ := Aside0.mk (blk_below (uK BK783.out) hb); have n1_ := Aside0.mk (below_step uB hb); have n2_ := Aside0.mk (hbox); have n3_ := Aside0.mk ((by rw [hg]; exact (below_size uB) : w.heap.size ≤ gb784)); have n4_ := Aside0.mk ((by rw [hg]; exact (below_size uB) : w.heap.size ≤ gb784)); have n5_ := Aside0.mk ((by rw [hg]; exact Nat.ne_of_lt (blk_lt (uK BK783.out)) : gb783 ≠ gb784)); have n6_ := Aside0.mk ((by rw [hg]; exact Nat.ne_of_gt (blk_lt (uK BK783.out)) : gb784 ≠ gb783)); clear BK783; clear HB; have BK783 := n0_; have HB := n1_; have BK784 := n2_; have GW784 := n3_; have GE784 := n4_; have NB783_784 := n5_; have NB784_783 := n6_; clear n0_ n1_ n2_ n3_ n4_ n5_ n6_; clear hb hbox hg; have hnb8 := NB783_784.out; have hnc8 := NB784_783.out; have hcz9_0 : w7.cell? ⟨gb783, 0, none⟩ = some (.bool a0_0) := (blk_cell BK783.out 0).trans rfl; have hcz9_1 : w7.cell? ⟨gb783, 1, none⟩ = some (.slice A0_1 l0_1.length c0_1) := (blk_cell BK783.out 1).trans rfl; have hfz9_0 := blk_frozen BK783.out 0; have hfz9_1 := blk_frozen BK783.out 1) | ((with_reducible refine gate_callee (f := 103) rfl ?_); refine goesL_ (some 8) rfl rfl Try.func103 (by kernel_rfl) rfl #[.agg #[.bool a0_0, .slice A0_1 l0_1.length c0_1]] rfl uM ?_; (with_reducible refine (windbreakref03_Right.calls a0_0 _ _ l0_1 t785 _ ?side1 ?side2 A3.out).mono ?_); (case side1 => exact uC (Kd.C_below HR0_1.out HB.out)); (case side2 => exact HC0_1.out); rintro e w10 ⟨rfl, hb⟩; refine ⟨_, rfl, ?_⟩; have n0_ := Aside0.mk (blk_below (uK BK783.out) hb); have n1_ := Aside0.mk (blk_below (uK BK784.out) hb); have n2_ := Aside0.mk (below_step uB hb); clear BK783; clear BK784; clear HB; have BK783 := n0_; have BK784 := n1_; have HB := n2_; clear n0_ n1_ n2_; (try clear hb); (try clear hb2); (try clear hk); (try clear hi); have hcz11_0 : w10.cell? ⟨gb784, 0, none⟩ = some (.bool a1_0) := (blk_cell BK784.out 0).trans rfl; have hcz11_1 : w10.cell? ⟨gb784, 1, none⟩ = some (.slice A1_1 l1_1.length c1_1) := (blk_cell BK784.out 1).trans rfl; have hfz11_0 := blk_frozen BK784.out 0; have hfz11_1 := blk_frozen BK784.out 1) | ((with_reducible refine gate_callee (f := 103) rfl ?_); refine goesL_ (some 10) rfl rfl Try.func103 (by kernel_rfl) rfl #[.agg #[.bool a1_0, .slice A1_1 l1_1.length c1_1]] rfl uM ?_; (with_reducible refine (windbreakref03_Right.calls a1_0 _ _ l1_1 t786 _ ?side1 ?side2 A4.out).mono ?_); (case side1 => exact uC (Kd.C_below HR1_1.out HB.out)); (case side2 => exact HC1_1.out); rintro e w12 ⟨rfl, hb⟩; refine ⟨_, rfl, ?_⟩; have n0_ := Aside0.mk (blk_below (uK BK783.out) hb); have n1_ := Aside0.mk (blk_below (uK BK784.out) hb); have n2_ := Aside0.mk (below_step uB hb); clear BK783; clear BK784; clear HB; have BK783 := n0_; have BK784 := n1_; have HB := n2_; clear n0_ n1_ n2_; (try clear hb); (try clear hb2); (try clear hk); (try clear hi)))
 (try simp only [Act.put, List.setIfInBounds_toArray, List.set_cons_zero, List.set_cons_succ])
 go_cut [16] (fun v16 wc => ∃ (kq : Nat) (x16_4 : Bool), v16 = .bool x16_4 ∧ Aside0 (windbreakref03_Cmp.j0 kq x16_4 a0_0 l0_1 a1_0 l1_1 = some r) ∧ Aside0 (kq ≤ k) ∧ Aside0 (wc.heap[gb783]? = some (.cells #[.bool a0_0, (.slice A0_1 l0_1.length c0_1)] 52 (0, 0))) ∧ Aside0 (wc.heap[gb784]? = some (.cells #[.bool a1_0, (.slice A1_1 l1_1.length c1_1)] 52 (0, 0))) ∧ Aside0 (Below w.heap.size w wc))
 case first =>
  have H := HC5.out
  clear HC5
  by_cases c13 : t785 = true
  ·
   subst c13
   have H1 : (windbreakref03_Cmp.j0 k (!t786) a0_0 l0_1 a1_0 l1_1) = some r := by rw [if_pos rfl] at H; exact H
   clear H; have H := H1; clear H1
   have H' := Aside0.mk H
   clear H
   go_wp2
   go_meet
   case rel => exact ⟨_, (!t786), (by first | rfl | (simp; done) | (simp [*]; done)), H', ⟨by first | omega | exact Nat.le_refl _⟩, ⟨uK BK783.out⟩, ⟨uK BK784.out⟩, ⟨uB⟩⟩
  ·
   replace c13 := Bool.eq_false_iff.mpr c13
   subst c13
   have H1 : (windbreakref03_Cmp.j0 k true a0_0 l0_1 a1_0 l1_1) = some r := by rw [if_neg (show ¬ (false = true) by decide)] at H; exact H
   clear H; have H := H1; clear H1
   have H' := Aside0.mk H
   clear H
   go_wp2
   go_meet
   case rel => exact ⟨_, (true), (by first | rfl | (simp; done) | (simp [*]; done)), H', ⟨by first | omega | exact Nat.le_refl _⟩, ⟨uK BK783.out⟩, ⟨uK BK784.out⟩, ⟨uB⟩⟩
 case rest =>
  clear HC5
  try clear c1
  try clear p2
  try clear c6
  try clear c8
  try clear c10
  try clear c13
  try clear hcz11_0
  try clear hcz11_1
  try clear hcz9_0
  try clear hcz9_1
  try clear hfz11_0
  try clear hfz11_1
  try clear hfz9_0
  try clear hfz9_1
  obtain ⟨kq, x16_4, rfl, HA, HJ4, BK783, BK784, HB⟩ := hcut
  cases kq with
  | zero => exact absurd HA.out (by simp [windbreakref03_Cmp.j0])
  | succ kj4 =>
   have H := HA.out
   clear HA
   simp only [windbreakref03_Cmp.j0] at H
   by_cases c14 : x16_4 = true
   ·
    subst c14
    have H1 : (some 0) = some r := by rw [if_pos rfl] at H; exact H
    clear H; have H := H1; clear H1
    obtain rfl := Option.some.inj H
    go_wp2
    go_ret
    exact ⟨by first | rfl | (simp [errW_none, errW_some] <;> rfl) | (simp [*, errW_none, errW_some] <;> rfl), uB⟩
   ·
    replace c14 := Bool.eq_false_iff.mpr c14
    subst c14
    have H1 : (if (a0_0 != a1_0) = true then (if a0_0 = true then (some (-1)) else (some 1)) else (if a0_0 = true then ((windbreakref01_Cmp.f kj4 l1_1 l0_1).bind fun t787 => (some t787)) else ((windbreakref01_Cmp.f kj4 l0_1 l1_1).bind fun t788 => (some t788)))) = some r := by rw [if_neg (show ¬ (false = true) by decide)] at H; exact H
    clear H; have H := H1; clear H1
    by_cases c15 : (a0_0 != a1_0) = true
    ·
     rw [if_pos c15] at H
     have c15b0 : (a0_0 != a1_0) = true := c15
     (try (have c15b1 : decide (a0_0 = a1_0) = false := by simpa using c15))
     (try (have c15b2 : (a0_0 == a1_0) = false := by simpa using c15))
     (try (have c15b3 : ¬ (a0_0 = a1_0) := by simpa using c15))
     clear c15
     by_cases c16 : a0_0 = true
     ·
      subst c16
      have H1 : (some (-1)) = some r := by rw [if_pos rfl] at H; exact H
      clear H; have H := H1; clear H1
      obtain rfl := Option.some.inj H
      have hnb17 := NB783_784.out
      have hnc17 := NB784_783.out
      have hcz18_0 : wc.cell? ⟨gb783, 0, none⟩ = some (.bool true) := (blk_cell BK783.out 0).trans rfl
      have hcz18_1 : wc.cell? ⟨gb783, 1, none⟩ = some (.slice A0_1 l0_1.length c0_1) := (blk_cell BK783.out 1).trans rfl
      have hfz18_0 := blk_frozen BK783.out 0
      have hfz18_1 := blk_frozen BK783.out 1
      have hcz19_0 : wc.cell? ⟨gb784, 0, none⟩ = some (.bool a1_0) := (blk_cell BK784.out 0).trans rfl
      have hcz19_1 : wc.cell? ⟨gb784, 1, none⟩ = some (.slice A1_1 l1_1.length c1_1) := (blk_cell BK784.out 1).trans rfl
      have hfz19_0 := blk_frozen BK784.out 0
      have hfz19_1 := blk_frozen BK784.out 1
      go_wp2
      go_ret
      exact ⟨by first | rfl | (simp [errW_none, errW_some] <;> rfl) | (simp [*, errW_none, errW_some] <;> rfl), uB⟩
     ·
      replace c16 := Bool.eq_false_iff.mpr c16
      subst c16
      have H1 : (some 1) = some r := by rw [if_neg (show ¬ (false = true) by decide)] at H; exact H
      clear H; have H := H1; clear H1
      obtain rfl := Option.some.inj H
      have hnb20 := NB783_784.out
      have hnc20 := NB784_783.out
      have hcz21_0 : wc.cell? ⟨gb783, 0, none⟩ = some (.bool false) := (blk_cell BK783.out 0).trans rfl
      have hcz21_1 : wc.cell? ⟨gb783, 1, none⟩ = some (.slice A0_1 l0_1.length c0_1) := (blk_cell BK783.out 1).trans rfl
      have hfz21_0 := blk_frozen BK783.out 0
      have hfz21_1 := blk_frozen BK783.out 1
      have hcz22_0 : wc.cell? ⟨gb784, 0, none⟩ = some (.bool a1_0) := (blk_cell BK784.out 0).trans rfl
      have hcz22_1 : wc.cell? ⟨gb784, 1, none⟩ = some (.slice A1_1 l1_1.length c1_1) := (blk_cell BK784.out 1).trans rfl
      have hfz22_0 := blk_frozen BK784.out 0
      have hfz22_1 := blk_frozen BK784.out 1
      go_wp2
      go_ret
      exact ⟨by first | rfl | (simp [errW_none, errW_some] <;> rfl) | (simp [*, errW_none, errW_some] <;> rfl), uB⟩
    ·
     rw [if_neg c15] at H
     have c15b0 : (a0_0 != a1_0) = false := by simpa using c15
     (try (have c15b1 : decide (a0_0 = a1_0) = true := by simpa using c15))
     (try (have c15b2 : (a0_0 == a1_0) = true := by simpa using c15))
     clear c15
     by_cases c23 : a0_0 = true
     ·
      subst c23
      have H1 : ((windbreakref01_Cmp.f kj4 l1_1 l0_1).bind fun t787 => (some t787)) = some r := by rw [if_pos rfl] at H; exact H
      clear H; have H := H1; clear H1
      replace H := Option.bind_eq_some_iff.mp H
      obtain ⟨t787, A240, H⟩ := H
      replace H : (some t787) = some r := H
      have A24 := Aside0.mk A240; clear A240
      obtain rfl := Option.some.inj H
      have hnb25 := NB783_784.out
      have hnc25 := NB784_783.out
      have hcz26_0 : wc.cell? ⟨gb783, 0, none⟩ = some (.bool true) := (blk_cell BK783.out 0).trans rfl
      have hcz26_1 : wc.cell? ⟨gb783, 1, none⟩ = some (.slice A0_1 l0_1.length c0_1) := (blk_cell BK783.out 1).trans rfl
      have hfz26_0 := blk_frozen BK783.out 0
      have hfz26_1 := blk_frozen BK783.out 1
      have hcz27_0 : wc.cell? ⟨gb784, 0, none⟩ = some (.bool a1_0) := (blk_cell BK784.out 0).trans rfl
      have hcz27_1 : wc.cell? ⟨gb784, 1, none⟩ = some (.slice A1_1 l1_1.length c1_1) := (blk_cell BK784.out 1).trans rfl
      have hfz27_0 := blk_frozen BK784.out 0
      have hfz27_1 := blk_frozen BK784.out 1
      go_wp2_with (first | ((with_reducible refine gate_callee (f := 72) rfl ?_); refine goesL_ (some 30) rfl rfl Try.func72 (by kernel_rfl) rfl #[.slice A1_1 l1_1.length c1_1, .slice A0_1 l0_1.length c0_1] rfl uM ?_; (with_reducible refine (windbreakref01_Cmp.calls kj4 _ _ l1_1 _ _ l0_1 t787 _ ?side1 ?side2 ?side3 ?side4 A24.out).mono ?_); (case side1 => exact uC (Kd.C_below HR1_1.out HB.out)); (case side2 => exact HC1_1.out); (case side3 => exact uC (Kd.C_below HR0_1.out HB.out)); (case side4 => exact HC0_1.out); rintro e w28 ⟨rfl, hb⟩; refine ⟨_, rfl, ?_⟩; have n0_ := Aside0.mk (blk_below (uK BK783.out) hb); have n1_ := Aside0.mk (blk_below (uK BK784.out) hb); have n2_ := Aside0.mk (below_step uB hb); clear BK783; clear BK784; clear HB; have BK783 := n0_; have BK784 := n1_; have HB := n2_; clear n0_ n1_ n2_; (try clear hb); (try clear hb2); (try clear hk); (try clear hi)))
      go_ret
      exact ⟨by first | rfl | (simp [errW_none, errW_some] <;> rfl) | (simp [*, errW_none, errW_some] <;> rfl), uB⟩
     ·
      replace c23 := Bool.eq_false_iff.mpr c23
      subst c23
      have H1 : ((windbreakref01_Cmp.f kj4 l0_1 l1_1).bind fun t788 => (some t788)) = some r := by rw [if_neg (show ¬ (false = true) by decide)] at H; exact H
      clear H; have H := H1; clear H1
      replace H := Option.bind_eq_some_iff.mp H
      obtain ⟨t788, A290, H⟩ := H
      replace H : (some t788) = some r := H
      have A29 := Aside0.mk A290; clear A290
      obtain rfl := Option.some.inj H
      have hnb30 := NB783_784.out
      have hnc30 := NB784_783.out
      have hcz31_0 : wc.cell? ⟨gb783, 0, none⟩ = some (.bool false) := (blk_cell BK783.out 0).trans rfl
      have hcz31_1 : wc.cell? ⟨gb783, 1, none⟩ = some (.slice A0_1 l0_1.length c0_1) := (blk_cell BK783.out 1).trans rfl
      have hfz31_0 := blk_frozen BK783.out 0
      have hfz31_1 := blk_frozen BK783.out 1
      have hcz32_0 : wc.cell? ⟨gb784, 0, none⟩ = some (.bool a1_0) := (blk_cell BK784.out 0).trans rfl
      have hcz32_1 : wc.cell? ⟨gb784, 1, none⟩ = some (.slice A1_1 l1_1.length c1_1) := (blk_cell BK784.out 1).trans rfl
      have hfz32_0 := blk_frozen BK784.out 0
      have hfz32_1 := blk_frozen BK784.out 1
      go_wp2_with (first | ((with_reducible refine gate_callee (f := 72) rfl ?_); refine goesL_ (some 35) rfl rfl Try.func72 (by kernel_rfl) rfl #[.slice A0_1 l0_1.length c0_1, .slice A1_1 l1_1.length c1_1] rfl uM ?_; (with_reducible refine (windbreakref01_Cmp.calls kj4 _ _ l0_1 _ _ l1_1 t788 _ ?side1 ?side2 ?side3 ?side4 A29.out).mono ?_); (case side1 => exact uC (Kd.C_below HR0_1.out HB.out)); (case side2 => exact HC0_1.out); (case side3 => exact uC (Kd.C_below HR1_1.out HB.out)); (case side4 => exact HC1_1.out); rintro e w33 ⟨rfl, hb⟩; refine ⟨_, rfl, ?_⟩; have n0_ := Aside0.mk (blk_below (uK BK783.out) hb); have n1_ := Aside0.mk (blk_below (uK BK784.out) hb); have n2_ := Aside0.mk (below_step uB hb); clear BK783; clear BK784; clear HB; have BK783 := n0_; have BK784 := n1_; have HB := n2_; clear n0_ n1_ n2_; (try clear hb); (try clear hb2); (try clear hk); (try clear hi)))
      go_ret
      exact ⟨by first | rfl | (simp [errW_none, errW_some] <;> rfl) | (simp [*, errW_none, errW_some] <;> rfl), uB⟩

end Go.Proofs.Ytgeanpnkllnipab.F
end

section
namespace Go.Proofs.Ytgeanpnkllnipab.F
open Go.RowKit Go.Proofs.YtgeanpnkllnipabW.PrintWords Go.Proofs.YtgeanpnkllnipabW.PrintLast Go.Proofs.YtgeanpnkllnipabW.PrintMore
attribute [local go_sem] max2_int min2_int max_two min_two max_three min_three max_four min_four
set_option linter.unusedVariables false
set_option linter.unusedSimpArgs false

def windbreakref03_From.f (a0 : Bool) (l1 : List Int) : Option (Bool × List Int) := (windbreakref01_Right.f l1).bind fun t790 => (if t790 = true then (if (l1.length : Int) = 0 then (some (false, ([] : List Int))) else ((some (([] : List Int) : List Int)).bind fun y791 => (if y791.length + l1.length < 17592186044416 then (some (a0, (y791 ++ l1))) else (none)))) else (some (false, ([] : List Int))))
set_option maxHeartbeats 8000000 in
set_option maxRecDepth 100000 in
theorem windbreakref03_From.calls (a0 : Bool) (A1 : Option Addr) (c1 : Nat) (l1 : List Int) (r1 : Bool) (r2 : List Int) (w : World) (hr1 : Kd.C (Kd.int .u64) w A1 l1.length l1) (hc1 : l1.length ≤ c1) (h : windbreakref03_From.f a0 l1 = some (r1, r2)) :
  Calls Try.prog 104 #[.bool a0, .slice A1 l1.length c1] w fun e w' => ∃ v1_ : Value, e = .returned (.agg #[.bool r1, v1_]) ∧ Kd.R (Kd.int .u64) 27 w' w.heap.size (fun _ => True) v1_ r2 ∧ Below w.heap.size w w' := by
 have hu52 := Try.underlying52
 have HR1 := Aside0.mk hr1; have HC1 := Aside0.mk hc1; clear hr1 hc1
 have HB := Aside0.mk (Below.refl w.heap.size w)
 have H : ((windbreakref01_Right.f l1).bind fun t790 => (if t790 = true then (if (l1.length : Int) = 0 then (some (false, ([] : List Int))) else ((some (([] : List Int) : List Int)).bind fun y791 => (if y791.length + l1.length < 17592186044416 then (some (a0, (y791 ++ l1))) else (none)))) else (some (false, ([] : List Int))))) = some (r1, r2) := h
 clear h
 replace H := Option.bind_eq_some_iff.mp H
 obtain ⟨t790, A30, H⟩ := H
 replace H : (if t790 = true then (if (l1.length : Int) = 0 then (some (false, ([] : List Int))) else ((some (([] : List Int) : List Int)).bind fun y791 => (if y791.length + l1.length < 17592186044416 then (some (a0, (y791 ++ l1))) else (none)))) else (some (false, ([] : List Int)))) = some (r1, r2) := H
 have A3 := Aside0.mk A30; clear A30
 by_cases c4 : t790 = true
 ·
  subst c4
  have H1 : (if (l1.length : Int) = 0 then (some (false, ([] : List Int))) else ((some (([] : List Int) : List Int)).bind fun y791 => (if y791.length + l1.length < 17592186044416 then (some (a0, (y791 ++ l1))) else (none)))) = some (r1, r2) := by rw [if_pos rfl] at H; exact H
  clear H; have H := H1; clear H1
  by_cases c5 : (l1.length : Int) = 0
  ·
   rw [if_pos c5] at H
   have c5b0 : ((l1.length : Int) == 0) = true := beq_iff_eq.mpr c5
   have c5b1 : ((l1.length : Int) != 0) = false := bne_eq_false_iff_eq.mpr c5
   clear c5
   simp only [Option.some.injEq, Prod.mk.injEq] at H
   obtain ⟨rfl, rfl⟩ := H
   go_enter Try.func104, Try.ntmps104
   go_wp2_with (first | ((with_reducible refine gate_dst (N := 4) rfl ?_); (try (refine gate_guard (by rfl) ?_; dsimp only)); refine box_event ?hg (N := 4) ?hd (cs := #[.bool false, .slice none 0 0]) (t := 52) ?hr ?_; (case hd => rfl); (case hg => rfl); (case hr => first | (go_simp; done) | (go_simp; rfl)); intro gb789 hg w6 hbox hb; have n0_ := Aside0.mk (below_step uB hb); have n1_ := Aside0.mk (hbox); have n2_ := Aside0.mk ((by rw [hg]; exact (below_size uB) : w.heap.size ≤ gb789)); have n3_ := Aside0.mk ((by rw [hg]; exact (below_size uB) : w.heap.size ≤ gb789)); clear HB; have HB := n0_; have BK789 := n1_; have GW789 := n2_; have GE789 := n3_; clear n0_ n1_ n2_ n3_; clear hb hbox hg) | ((with_reducible refine gate_callee (f := 50) rfl ?_); refine goesL_ (some 7) rfl rfl Try.func50 (by kernel_rfl) rfl #[.slice A1 l1.length c1] rfl uM ?_; (with_reducible refine (windbreakref01_Right.calls _ _ l1 true _ ?side1 ?side2 A3.out).mono ?_); (case side1 => exact uC (Kd.C_below HR1.out HB.out)); (case side2 => exact HC1.out); rintro e w' ⟨rfl, ⟨nd, rfl⟩⟩; refine ⟨_, rfl, ?_⟩; (try (rw [drewN_self w6]; generalize hq_ : World.drewN w6 _ = w6; have n0_ : Aside0 (w6.heap[gb789]? = some (.cells #[.bool false, .slice none 0 0] 52 (0, 0))) := ⟨by rw [← hq_]; exact (uK BK789.out)⟩; have n1_ : Aside0 (Below w.heap.size w w6) := ⟨by rw [← hq_]; exact uB⟩; clear BK789 HB hq_; have BK789 := n0_; have HB := n1_; clear n0_ n1_)); have hcz7_0 : w6.cell? ⟨gb789, 0, none⟩ = some (.bool false) := (blk_cell BK789.out 0).trans rfl; have hcz7_1 : w6.cell? ⟨gb789, 1, none⟩ = some (.slice none 0 0) := (blk_cell BK789.out 1).trans rfl; have hfz7_0 := blk_frozen BK789.out 0; have hfz7_1 := blk_frozen BK789.out 1))
   refine bodyPost_ret (results_cell_row rfl _ _ gb789 52 #[.bool false, .slice none 0 0] (0, 0) _ rfl (by (with_reducible repeat (first | refine blk_drewN ?_ _ | refine blk_drew ?_ | refine blk_alloc ?_ _)); refine blk_put (cs := #[.bool false, .slice none 0 0]) ?_ 1 _ rfl; (with_reducible repeat (first | refine blk_drewN ?_ _ | refine blk_drew ?_ | refine blk_alloc ?_ _)); refine blk_put (cs := #[.bool false, .slice none 0 0]) ?_ 0 _ rfl; (with_reducible repeat (first | refine blk_drewN ?_ _ | refine blk_drew ?_ | refine blk_alloc ?_ _)); exact BK789.out) Try.underlying52 rfl (by kernel_rfl)) rfl ?_
   exact ⟨_, by first | rfl | (simp [errW_none, errW_some] <;> rfl) | (simp [*, errW_none, errW_some] <;> rfl), by first | exact Kd.R_nil _ _ _ _ _ | exact Kd.N_nil _ _ _ _ _ | exact Kd.V_nil _ _ _ _ _ | exact Kd.Q_nil _ _ _ _ _ | exact Kd.S_nil _ _ _ _ _, uB⟩
  ·
   rw [if_neg c5] at H
   have c5b0 : ((l1.length : Int) == 0) = false := beq_eq_false_iff_ne.mpr c5
   have c5b1 : ((l1.length : Int) != 0) = true := bne_iff_ne.mpr c5
   have c5b2 : ¬ (l1 = []) := fun h_ => c5 (by rw [h_]; rfl)
   obtain ⟨y791, hy791⟩ : ∃ y_ : List Int, y_ = (([] : List Int)) := ⟨_, rfl⟩
   replace H : (if y791.length + l1.length < 17592186044416 then (some (a0, (y791 ++ l1))) else (none)) = some (r1, r2) := by first | (rw [hy791]; with_reducible exact H) | (have H2_ := (Option.bind_some _ _).symm.trans H; rw [hy791]; with_reducible exact H2_) | (have H2_ := (Option.bind_some _ _).symm.trans H; with_reducible exact H2_) | with_reducible exact H | (rw [hy791]; exact H) | exact H
   have Ny791 := Aside0.mk hy791; clear hy791
   by_cases c8 : y791.length + l1.length < 17592186044416
   ·
    rw [if_pos c8] at H
    have LMc8 := Aside0.mk c8; clear c8
    obtain ⟨y794, hy794⟩ : ∃ y_ : List Int, y_ = (y791 ++ l1) := ⟨_, rfl⟩
    replace H : (some (a0, y794)) = some (r1, r2) := by first | (rw [hy794]; with_reducible exact H) | (have H2_ := (Option.bind_some _ _).symm.trans H; rw [hy794]; with_reducible exact H2_) | (have H2_ := (Option.bind_some _ _).symm.trans H; with_reducible exact H2_) | with_reducible exact H | (rw [hy794]; exact H) | exact H
    have Ny794 := Aside0.mk hy794; clear hy794
    simp only [Option.some.injEq, Prod.mk.injEq] at H
    obtain ⟨rfl, rfl⟩ := H
    go_enter Try.func104, Try.ntmps104
    go_wp2_with (first | ((with_reducible refine gate_dst (N := 4) rfl ?_); (try (refine gate_guard (by rfl) ?_; dsimp only)); refine box_event ?hg (N := 4) ?hd (cs := #[.bool false, .slice none 0 0]) (t := 52) ?hr ?_; (case hd => rfl); (case hg => rfl); (case hr => first | (go_simp; done) | (go_simp; rfl)); intro gb789 hg w9 hbox hb; have n0_ := Aside0.mk (below_step uB hb); have n1_ := Aside0.mk (hbox); have n2_ := Aside0.mk ((by rw [hg]; exact (below_size uB) : w.heap.size ≤ gb789)); have n3_ := Aside0.mk ((by rw [hg]; exact (below_size uB) : w.heap.size ≤ gb789)); clear HB; have HB := n0_; have BK789 := n1_; have GW789 := n2_; have GE789 := n3_; clear n0_ n1_ n2_ n3_; clear hb hbox hg) | ((with_reducible refine gate_callee (f := 50) rfl ?_); refine goesL_ (some 7) rfl rfl Try.func50 (by kernel_rfl) rfl #[.slice A1 l1.length c1] rfl uM ?_; (with_reducible refine (windbreakref01_Right.calls _ _ l1 true _ ?side1 ?side2 A3.out).mono ?_); (case side1 => exact uC (Kd.C_below HR1.out HB.out)); (case side2 => exact HC1.out); rintro e w' ⟨rfl, ⟨nd, rfl⟩⟩; refine ⟨_, rfl, ?_⟩; (try (rw [drewN_self w9]; generalize hq_ : World.drewN w9 _ = w9; have n0_ : Aside0 (w9.heap[gb789]? = some (.cells #[.bool false, .slice none 0 0] 52 (0, 0))) := ⟨by rw [← hq_]; exact (uK BK789.out)⟩; have n1_ : Aside0 (Below w.heap.size w w9) := ⟨by rw [← hq_]; exact uB⟩; clear BK789 HB hq_; have BK789 := n0_; have HB := n1_; clear n0_ n1_))) | ((with_reducible refine gate_dst (N := 17) rfl ?_); (try (refine gate_guard (by rfl) ?_; dsimp only)); refine Kd.R_lit (Kd.int .u64) _ 27 ?hg (N := 17) ?hd (xs := ([] : List Int)) (inner := []) (ok := fun _ => True) (okp := fun _ => True) ?hr ?hp (fun _ hk => hk) trivial (Below.refl _ _) (Nat.le_refl _) (by simp) ?_; (case hd => rfl); (case hg => rfl); (case hr => first | (go_simp; done) | (go_simp; rfl) | (go_simp; simp only [u64_u8]; done) | (go_simp; simp only [u64_u8]; rfl)); (case hp => exact (Reps.none _ _)); intro v792 w10 ho11 hb hg_ hnew_; clear hg_ hnew_; (first | rw [← Ny791.out] at ho11 | (simp only [Int.reduceToNat] at ho11; rw [← Ny791.out] at ho11)); have n0_ := Aside0.mk (Kd.R_lower ho11 (below_size uB)); have n1_ := Aside0.mk (blk_below (uK BK789.out) hb); have n2_ := Aside0.mk (below_step uB hb); clear BK789; clear HB; have HO793 := n0_; have BK789 := n1_; have HB := n2_; clear n0_ n1_ n2_; clear hb ho11) | ((with_reducible refine gate_builtin (b := .append) (xs := #[.tmp 17, .tmp 18]) rfl ?_); (try (refine gate_guard (by rfl) ?_; dsimp only)); at_builtin; refine Kd.R_append_rows (Kd.int .u64) (w0 := w) w.heap.size rfl (.tmp 17) (.tmp 18) 23 27 (.int .u64 0) 8 rfl Try.underlying23 info27 rfl (by decide) (by omega) v792 y791 l1 _ _ _ (fun _ => True) (fun _ => False) rfl rfl ?aO ?aR (fun _ _ h => h) (fun _ h => h.elim) ?aF ?aB ?aS ?aL ?_; (case aR => exact uC (Kd.C_below HR1.out HB.out)); (case aB => exact uB); (case aF => exact (fun _ _ => trivial)); (case aO => exact (uR HO793.out)); (case aS => exact (below_size uB)); (case aL => have := LMc8.out; omega); intro v795 w12 ho hb hg hat; rw [← Ny794.out] at ho; have n0_ := Aside0.mk (blk_grown (g := gb789) (o := .cells #[.bool false, .slice none 0 0] 52 (0, 0)) (uK BK789.out) hg (Kd.R_ne HO793.out BK789.out (by decide))); have n1_ := Aside0.mk (hb); have n2_ := Aside0.mk (ho); clear BK789; clear HB; clear HO793; have BK789 := n0_; have HB := n1_; have HO796 := n2_; clear n0_ n1_ n2_; clear ho hb hg hat; obtain ⟨Ao13, co13, eo13⟩ := Kd.R_slice HO796.out; subst eo13; have hcz14_0 : w12.cell? ⟨gb789, 0, none⟩ = some (.bool false) := (blk_cell BK789.out 0).trans rfl; have hcz14_1 : w12.cell? ⟨gb789, 1, none⟩ = some (.slice none 0 0) := (blk_cell BK789.out 1).trans rfl; have hfz14_0 := blk_frozen BK789.out 0; have hfz14_1 := blk_frozen BK789.out 1))
    refine bodyPost_ret (results_cell_row rfl _ _ gb789 52 #[.bool a0, .slice Ao13 y794.length co13] (0, 0) _ rfl (by (with_reducible repeat (first | refine blk_drewN ?_ _ | refine blk_drew ?_ | refine blk_alloc ?_ _)); refine blk_put (cs := #[.bool a0, .slice none 0 0]) ?_ 1 _ rfl; (with_reducible repeat (first | refine blk_drewN ?_ _ | refine blk_drew ?_ | refine blk_alloc ?_ _)); refine blk_put (cs := #[.bool false, .slice none 0 0]) ?_ 0 _ rfl; (with_reducible repeat (first | refine blk_drewN ?_ _ | refine blk_drew ?_ | refine blk_alloc ?_ _)); exact BK789.out) Try.underlying52 rfl (by kernel_rfl)) rfl ?_
    exact ⟨_, by first | rfl | (simp [errW_none, errW_some] <;> rfl) | (simp [*, errW_none, errW_some] <;> rfl), by (with_reducible repeat (first | apply Kd.R_alloc | apply Kd.R_drewN | apply Kd.R_drew)); exact Kd.R_mono (Kd.R_far (p := ⟨gb789, 1, none⟩) (Kd.R_far (p := ⟨gb789, 0, none⟩) (Kd.R_types HO796.out BK789.out (by decide)) (fun _ hk => hk.2) (.bool a0)) (fun _ hk => hk.2) (.slice Ao13 y794.length co13)) (fun _ hk => trivial), uB⟩
   ·
    rw [if_neg c8] at H
    exact absurd H (by simp)
 ·
  replace c4 := Bool.eq_false_iff.mpr c4
  subst c4
  have H1 : (some (false, ([] : List Int))) = some (r1, r2) := by rw [if_neg (show ¬ (false = true) by decide)] at H; exact H
  clear H; have H := H1; clear H1
  simp only [Option.some.injEq, Prod.mk.injEq] at H
  obtain ⟨rfl, rfl⟩ := H
  go_enter Try.func104, Try.ntmps104
  go_wp2_with (first | ((with_reducible refine gate_dst (N := 4) rfl ?_); (try (refine gate_guard (by rfl) ?_; dsimp only)); refine box_event ?hg (N := 4) ?hd (cs := #[.bool false, .slice none 0 0]) (t := 52) ?hr ?_; (case hd => rfl); (case hg => rfl); (case hr => first | (go_simp; done) | (go_simp; rfl)); intro gb789 hg w15 hbox hb; have n0_ := Aside0.mk (below_step uB hb); have n1_ := Aside0.mk (hbox); have n2_ := Aside0.mk ((by rw [hg]; exact (below_size uB) : w.heap.size ≤ gb789)); have n3_ := Aside0.mk ((by rw [hg]; exact (below_size uB) : w.heap.size ≤ gb789)); clear HB; have HB := n0_; have BK789 := n1_; have GW789 := n2_; have GE789 := n3_; clear n0_ n1_ n2_ n3_; clear hb hbox hg) | ((with_reducible refine gate_callee (f := 50) rfl ?_); refine goesL_ (some 7) rfl rfl Try.func50 (by kernel_rfl) rfl #[.slice A1 l1.length c1] rfl uM ?_; (with_reducible refine (windbreakref01_Right.calls _ _ l1 false _ ?side1 ?side2 A3.out).mono ?_); (case side1 => exact uC (Kd.C_below HR1.out HB.out)); (case side2 => exact HC1.out); rintro e w' ⟨rfl, ⟨nd, rfl⟩⟩; refine ⟨_, rfl, ?_⟩; (try (rw [drewN_self w15]; generalize hq_ : World.drewN w15 _ = w15; have n0_ : Aside0 (w15.heap[gb789]? = some (.cells #[.bool false, .slice none 0 0] 52 (0, 0))) := ⟨by rw [← hq_]; exact (uK BK789.out)⟩; have n1_ : Aside0 (Below w.heap.size w w15) := ⟨by rw [← hq_]; exact uB⟩; clear BK789 HB hq_; have BK789 := n0_; have HB := n1_; clear n0_ n1_)); have hcz16_0 : w15.cell? ⟨gb789, 0, none⟩ = some (.bool false) := (blk_cell BK789.out 0).trans rfl; have hcz16_1 : w15.cell? ⟨gb789, 1, none⟩ = some (.slice none 0 0) := (blk_cell BK789.out 1).trans rfl; have hfz16_0 := blk_frozen BK789.out 0; have hfz16_1 := blk_frozen BK789.out 1))
  refine bodyPost_ret (results_cell_row rfl _ _ gb789 52 #[.bool false, .slice none 0 0] (0, 0) _ rfl (by (with_reducible repeat (first | refine blk_drewN ?_ _ | refine blk_drew ?_ | refine blk_alloc ?_ _)); refine blk_put (cs := #[.bool false, .slice none 0 0]) ?_ 1 _ rfl; (with_reducible repeat (first | refine blk_drewN ?_ _ | refine blk_drew ?_ | refine blk_alloc ?_ _)); refine blk_put (cs := #[.bool false, .slice none 0 0]) ?_ 0 _ rfl; (with_reducible repeat (first | refine blk_drewN ?_ _ | refine blk_drew ?_ | refine blk_alloc ?_ _)); exact BK789.out) Try.underlying52 rfl (by kernel_rfl)) rfl ?_
  exact ⟨_, by first | rfl | (simp [errW_none, errW_some] <;> rfl) | (simp [*, errW_none, errW_some] <;> rfl), by first | exact Kd.R_nil _ _ _ _ _ | exact Kd.N_nil _ _ _ _ _ | exact Kd.V_nil _ _ _ _ _ | exact Kd.Q_nil _ _ _ _ _ | exact Kd.S_nil _ _ _ _ _, uB⟩

end Go.Proofs.Ytgeanpnkllnipab.F
end
