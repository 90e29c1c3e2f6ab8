/- Proved: the law NatBack of layer 1: the quotient times b and the rest is a, and the rest is less than b; for every input, without a condition. -/
import Derived.Test.YteabkedhdgnhgabMNatBackd

section
namespace Go.Proofs.Yteabkedhdgnhgab.F
open Go.RowKit Go.Proofs.YteabkedhdgnhgabW.PrintWords Go.Proofs.YteabkedhdgnhgabW.PrintLast Go.Proofs.YteabkedhdgnhgabW.PrintMore
attribute [local go_sem] max2_int min2_int max_two min_two max_three min_three max_four min_four   -- for this text's walks alone
set_option linter.unusedVariables false
set_option linter.unusedSimpArgs false

/-! ### nat_Div: function 19 -/
def nat_Div.f (k : Nat) (l0 : List Int) (l1 : List Int) : Option (List Int × List Int × Int) := (nat_right.f (([l0, l1] : List (List Int)))).bind fun t469 => (if t469 = true then (if (l1.length : Int) = 0 then (some (([] : List Int), ([] : List Int), 3)) else ((nat_compare.f k l0 l1).bind fun t470 => (if t470 < 0 then ((api_Nat_uint64.f l0).bind fun t471 => (some (([] : List Int), t471, 0))) else (if (l1.length : Int) = 1 then (if 0 < (l1.length : Int) then ((nat_short.f k l0 (rd l1 0)).bind fun bt475 => ((nat_Of.f k bt475.2).bind fun t479 => (some (bt475.1, t479, 0)))) else (none)) else ((nat_long.f k l0 l1).bind fun bt482 => (some (bt482.1, bt482.2, 0))))))) else (some (([] : List Int), ([] : List Int), 1)))
theorem nat_Div.mono : ∀ a0 a1 k, LeO (nat_Div.f k a0 a1) (nat_Div.f (k + 1) a0 a1) := by
  intro a0 a1 k
  unfold nat_Div.f
  repeat' first
      | (with_reducible exact nat_Of.mono _ _)
      | (with_reducible exact nat_compare.mono _ _ _)
      | (with_reducible exact nat_long.mono _ _ _)
      | (with_reducible exact nat_short.mono _ _ _)
      | (with_reducible exact LeO.refl _)
      | (with_reducible exact LeO.none _)
      | (with_reducible refine LeO.ite ?_ ?_)
      | (with_reducible refine LeO.bind ?_ (fun _ => ?_))
      | exact nat_Of.mono _ _
      | exact nat_compare.mono _ _ _
      | exact nat_long.mono _ _ _
      | exact nat_short.mono _ _ _
      | exact LeO.none _
      | refine LeO.ite ?_ ?_
      | refine LeO.bind ?_ (fun _ => ?_)
set_option maxHeartbeats 8000000 in
set_option maxRecDepth 100000 in
theorem nat_Div.calls (k : Nat) (P0_ : Nat → Prop) (A0 : Option Addr) (c0 : Nat) (l0 : List Int) (P1_ : Nat → Prop) (A1 : Option Addr) (c1 : Nat) (l1 : List Int) (r1 : List Int) (r2 : List Int) (r3 : Int) (w : World) (hs0 : Kd.V (Kd.int .u64) 29 w w.heap.size (fun k_ => P0_ k_) (.slice A0 l0.length c0) l0) (hs1 : Kd.V (Kd.int .u64) 29 w w.heap.size (fun k_ => P1_ k_) (.slice A1 l1.length c1) l1) (h : nat_Div.f k l0 l1 = some (r1, r2, r3)) :
    Calls Try.prog 19 #[.slice A0 l0.length c0, .slice A1 l1.length c1] w fun e w' => ∃ v0_ v1_ : Value, e = .returned (.tuple #[v0_, v1_, .int .i64 r3]) ∧ Kd.R (Kd.int .u64) 29 w' w.heap.size (fun k_ => (w.heap.size ≤ k_) ∧ some k_ ≠ (v1_ : Value).ownBlock) v0_ r1 ∧ Kd.R (Kd.int .u64) 29 w' w.heap.size (fun k_ => (w.heap.size ≤ k_) ∧ some k_ ≠ (v0_ : Value).ownBlock) v1_ r2 ∧ Below w.heap.size w w' := by
  have HO0 := Aside0.mk (show Kd.V (Kd.int .u64) 29 w w.heap.size (fun k_ => ((P0_ k_ ∨ P1_ k_) ∨ w.heap.size ≤ k_)) (.slice A0 l0.length c0) l0 from Kd.V_mono hs0 (fun k_ hk => .inl (.inl hk)))
  have HO1 := Aside0.mk (show Kd.V (Kd.int .u64) 29 w w.heap.size (fun k_ => ((P0_ k_ ∨ P1_ k_) ∨ w.heap.size ≤ k_)) (.slice A1 l1.length c1) l1 from Kd.V_mono hs1 (fun k_ hk => .inl (.inr hk)))
  have HB := Aside0.mk (Below.refl w.heap.size w)
  have H : ((nat_right.f (([l0, l1] : List (List Int)))).bind fun t469 => (if t469 = true then (if (l1.length : Int) = 0 then (some (([] : List Int), ([] : List Int), 3)) else ((nat_compare.f k l0 l1).bind fun t470 => (if t470 < 0 then ((api_Nat_uint64.f l0).bind fun t471 => (some (([] : List Int), t471, 0))) else (if (l1.length : Int) = 1 then (if 0 < (l1.length : Int) then ((nat_short.f k l0 (rd l1 0)).bind fun bt475 => ((nat_Of.f k bt475.2).bind fun t479 => (some (bt475.1, t479, 0)))) else (none)) else ((nat_long.f k l0 l1).bind fun bt482 => (some (bt482.1, bt482.2, 0))))))) else (some (([] : List Int), ([] : List Int), 1)))) = some (r1, r2, r3) := h
  clear h
  obtain ⟨y466, hy466⟩ : ∃ y_ : List (List Int), y_ = (([l0, l1] : List (List Int))) := ⟨_, rfl⟩
  replace H : ((nat_right.f y466).bind fun t469 => (if t469 = true then (if (l1.length : Int) = 0 then (some (([] : List Int), ([] : List Int), 3)) else ((nat_compare.f k l0 l1).bind fun t470 => (if t470 < 0 then ((api_Nat_uint64.f l0).bind fun t471 => (some (([] : List Int), t471, 0))) else (if (l1.length : Int) = 1 then (if 0 < (l1.length : Int) then ((nat_short.f k l0 (rd l1 0)).bind fun bt475 => ((nat_Of.f k bt475.2).bind fun t479 => (some (bt475.1, t479, 0)))) else (none)) else ((nat_long.f k l0 l1).bind fun bt482 => (some (bt482.1, bt482.2, 0))))))) else (some (([] : List Int), ([] : List Int), 1)))) = some (r1, r2, r3) := by first | (rw [hy466]; with_reducible exact H) | (have H2_ := (Option.bind_some _ _).symm.trans H; rw [hy466]; with_reducible exact H2_) | (have H2_ := (Option.bind_some _ _).symm.trans H; with_reducible exact H2_) | with_reducible exact H | (rw [hy466]; exact H) | exact H
  have Ny466 := Aside0.mk hy466
  clear hy466
  replace H := Option.bind_eq_some_iff.mp H
  obtain ⟨t469, A30, H⟩ := H
  replace H : (if t469 = true then (if (l1.length : Int) = 0 then (some (([] : List Int), ([] : List Int), 3)) else ((nat_compare.f k l0 l1).bind fun t470 => (if t470 < 0 then ((api_Nat_uint64.f l0).bind fun t471 => (some (([] : List Int), t471, 0))) else (if (l1.length : Int) = 1 then (if 0 < (l1.length : Int) then ((nat_short.f k l0 (rd l1 0)).bind fun bt475 => ((nat_Of.f k bt475.2).bind fun t479 => (some (bt475.1, t479, 0)))) else (none)) else ((nat_long.f k l0 l1).bind fun bt482 => (some (bt482.1, bt482.2, 0))))))) else (some (([] : List Int), ([] : List Int), 1))) = some (r1, r2, r3) := H
  have A3 := Aside0.mk A30
  clear A30
  by_cases c4 : t469 = true
  · subst c4
    have H1 : (if (l1.length : Int) = 0 then (some (([] : List Int), ([] : List Int), 3)) else ((nat_compare.f k l0 l1).bind fun t470 => (if t470 < 0 then ((api_Nat_uint64.f l0).bind fun t471 => (some (([] : List Int), t471, 0))) else (if (l1.length : Int) = 1 then (if 0 < (l1.length : Int) then ((nat_short.f k l0 (rd l1 0)).bind fun bt475 => ((nat_Of.f k bt475.2).bind fun t479 => (some (bt475.1, t479, 0)))) else (none)) else ((nat_long.f k l0 l1).bind fun bt482 => (some (bt482.1, bt482.2, 0))))))) = some (r1, r2, r3) := by rw [if_pos rfl] at H; exact H
    clear H
    have H := H1
    clear H1
    by_cases c5 : (l1.length : Int) = 0
    · rw [if_pos c5] at H
      have c5b0 : ((l1.length : Int) == 0) = true := beq_iff_eq.mpr c5
      have c5b1 : ((l1.length : Int) != 0) = false := bne_eq_false_iff_eq.mpr c5
      clear c5
      simp only [Option.some.injEq, Prod.mk.injEq] at H
      obtain ⟨rfl, rfl, rfl⟩ := H
      go_enter Try.func19, Try.ntmps19
      go_wp2_with (first | ((with_reducible refine gate_dst (N := 14) rfl ?_); refine Kd.N_lit (Kd.slice 29 (Kd.int .u64)) _ 23 ?hg (N' := 14) ?hd (xs := ([l0, l1] : List (List Int))) (inner := [.slice A0 l0.length c0, .slice A1 l1.length c1]) (ok := (fun k_ => ((P0_ k_ ∨ P1_ k_) ∨ w.heap.size ≤ k_))) (okp := (fun k_ => ((P0_ k_ ∨ P1_ k_) ∨ w.heap.size ≤ k_))) ?hr ?hp (fun _ hk => hk) ((show ∀ k_, w.heap.size ≤ k_ → (fun k_ => ((P0_ k_ ∨ P1_ k_) ∨ w.heap.size ≤ k_)) k_ from fun k_ hk => (.inr (Nat.le_trans (below_size (by repeat (first | (with_reducible first | exact HB.out | apply below_alloc | apply pw_below_drewN | apply below_drew1) | exact HB.out))) hk))) _ (Nat.le_refl _)) (Below.refl _ _) (Nat.le_refl _) (by simp) ?_; (case hd => rfl); (case hg => rfl); (case hr => first | (go_simp; done) | (go_simp; rfl) | (go_simp; simp only [u64_u8]; done) | (go_simp; simp only [u64_u8]; rfl)); (case hp => exact (Reps.one (show Kd.FK (Kd.slice 29 (Kd.int .u64)) _ _ l0 [.slice A0 l0.length c0] from (Kd.FK_slice_mk (Kd.V_reads' (Kd.V_mono (ok' := (fun k_ => ((P0_ k_ ∨ P1_ k_) ∨ w.heap.size ≤ k_))) (HO0.out) (fun k_ hk => hk))).2.1 (Kd.V_F (Kd.V_mono (ok' := (fun k_ => ((P0_ k_ ∨ P1_ k_) ∨ w.heap.size ≤ k_))) (HO0.out) (fun k_ hk => hk))))) (Reps.one (show Kd.FK (Kd.slice 29 (Kd.int .u64)) _ _ l1 [.slice A1 l1.length c1] from (Kd.FK_slice_mk (Kd.V_reads' (Kd.V_mono (ok' := (fun k_ => ((P0_ k_ ∨ P1_ k_) ∨ w.heap.size ≤ k_))) (HO1.out) (fun k_ hk => hk))).2.1 (Kd.V_F (Kd.V_mono (ok' := (fun k_ => ((P0_ k_ ∨ P1_ k_) ∨ w.heap.size ≤ k_))) (HO1.out) (fun k_ hk => hk))))) (Reps.none _ _)))); intro v467 w6 ho7 hb hg_ hnew_; clear hg_ hnew_; (first | rw [← Ny466.out] at ho7 | (simp only [Int.reduceToNat] at ho7; rw [← Ny466.out] at ho7)); have n0_ := Aside0.mk (Kd.V_elder' (by (with_reducible repeat (first | apply Kd.V_alloc | apply Kd.V_drewN | apply Kd.V_drew)); exact HO0.out) (Kd.N_base ho7) hb); have n1_ := Aside0.mk (Kd.V_elder' (by (with_reducible repeat (first | apply Kd.V_alloc | apply Kd.V_drewN | apply Kd.V_drew)); exact HO1.out) (Kd.N_base ho7) hb); have n2_ := Aside0.mk (Kd.N_lower ho7 (below_size (by repeat (first | (with_reducible first | exact HB.out | apply below_alloc | apply pw_below_drewN | apply below_drew1) | exact HB.out)))); have n3_ := Aside0.mk (below_step (by repeat (first | (with_reducible first | exact HB.out | apply below_alloc | apply pw_below_drewN | apply below_drew1) | exact HB.out)) hb); clear HO0; clear HO1; clear HB; have HO0 := n0_; have HO1 := n1_; have HO468 := n2_; have HB := n3_; clear n0_ n1_ n2_ n3_; clear hb ho7; obtain ⟨Ao8, co8, eo8⟩ := Kd.N_slice HO468.out; subst eo8) | ((with_reducible refine gate_callee (f := 24) rfl ?_); refine goesL_ (some 15) rfl rfl Try.func24 (by kernel_rfl) rfl #[.slice Ao8 y466.length co8] rfl (by (try simp only [List.map_toArray, List.map_cons, List.map_nil]); first | done | rfl | (simp only [List.length_drop, List.length_take]; rfl)) ?_; (with_reducible refine (nat_right.calls _ _ y466 true _ ?side1 ?side2 A3.out).mono ?_); (case side1 => repeat (first | exact (Kd.N_reads' HO468.out).2.2 | (with_reducible refine Kd.C_alloc ?_ _) | (with_reducible refine Kd.C_drewN ?_ _) | (with_reducible refine Kd.C_drew ?_))); (case side2 => exact (Kd.N_reads' HO468.out).2.1); rintro e w' ⟨rfl, ⟨nd, rfl⟩⟩; refine ⟨_, rfl, ?_⟩))
      go_ret3
      exact ⟨_, _, by first | rfl | (simp [errW_none, errW_some] <;> rfl) | (simp [*, errW_none, errW_some] <;> rfl), by first | exact Kd.R_nil _ _ _ _ _ | exact Kd.N_nil _ _ _ _ _ | exact Kd.V_nil _ _ _ _ _ | exact Kd.Q_nil _ _ _ _ _ | exact Kd.S_nil _ _ _ _ _, by first | exact Kd.R_nil _ _ _ _ _ | exact Kd.N_nil _ _ _ _ _ | exact Kd.V_nil _ _ _ _ _ | exact Kd.Q_nil _ _ _ _ _ | exact Kd.S_nil _ _ _ _ _, by repeat (first | (with_reducible first | exact HB.out | apply below_alloc | apply pw_below_drewN | apply below_drew1) | exact HB.out)⟩
    · rw [if_neg c5] at H
      have c5b0 : ((l1.length : Int) == 0) = false := beq_eq_false_iff_ne.mpr c5
      have c5b1 : ((l1.length : Int) != 0) = true := bne_iff_ne.mpr c5
      have c5b2 : ¬ (l1 = []) := fun h_ => c5 (by rw [h_]; rfl)
      replace H := Option.bind_eq_some_iff.mp H
      obtain ⟨t470, A90, H⟩ := H
      replace H : (if t470 < 0 then ((api_Nat_uint64.f l0).bind fun t471 => (some (([] : List Int), t471, 0))) else (if (l1.length : Int) = 1 then (if 0 < (l1.length : Int) then ((nat_short.f k l0 (rd l1 0)).bind fun bt475 => ((nat_Of.f k bt475.2).bind fun t479 => (some (bt475.1, t479, 0)))) else (none)) else ((nat_long.f k l0 l1).bind fun bt482 => (some (bt482.1, bt482.2, 0))))) = some (r1, r2, r3) := H
      have A9 := Aside0.mk A90
      clear A90
      by_cases c10 : t470 < 0
      · rw [if_pos c10] at H
        have c10b0 : decide (t470 < 0) = true := decide_eq_true c10
        clear c10
        replace H := Option.bind_eq_some_iff.mp H
        obtain ⟨t471, A110, H⟩ := H
        replace H : (some (([] : List Int), t471, 0)) = some (r1, r2, r3) := H
        have A11 := Aside0.mk A110
        clear A110
        simp only [Option.some.injEq, Prod.mk.injEq] at H
        obtain ⟨rfl, rfl, rfl⟩ := H
        go_enter Try.func19, Try.ntmps19
        go_wp2_with (first | ((with_reducible refine gate_dst (N := 14) rfl ?_); refine Kd.N_lit (Kd.slice 29 (Kd.int .u64)) _ 23 ?hg (N' := 14) ?hd (xs := ([l0, l1] : List (List Int))) (inner := [.slice A0 l0.length c0, .slice A1 l1.length c1]) (ok := (fun k_ => ((P0_ k_ ∨ P1_ k_) ∨ w.heap.size ≤ k_))) (okp := (fun k_ => ((P0_ k_ ∨ P1_ k_) ∨ w.heap.size ≤ k_))) ?hr ?hp (fun _ hk => hk) ((show ∀ k_, w.heap.size ≤ k_ → (fun k_ => ((P0_ k_ ∨ P1_ k_) ∨ w.heap.size ≤ k_)) k_ from fun k_ hk => (.inr (Nat.le_trans (below_size (by repeat (first | (with_reducible first | exact HB.out | apply below_alloc | apply pw_below_drewN | apply below_drew1) | exact HB.out))) hk))) _ (Nat.le_refl _)) (Below.refl _ _) (Nat.le_refl _) (by simp) ?_; (case hd => rfl); (case hg => rfl); (case hr => first | (go_simp; done) | (go_simp; rfl) | (go_simp; simp only [u64_u8]; done) | (go_simp; simp only [u64_u8]; rfl)); (case hp => exact (Reps.one (show Kd.FK (Kd.slice 29 (Kd.int .u64)) _ _ l0 [.slice A0 l0.length c0] from (Kd.FK_slice_mk (Kd.V_reads' (Kd.V_mono (ok' := (fun k_ => ((P0_ k_ ∨ P1_ k_) ∨ w.heap.size ≤ k_))) (HO0.out) (fun k_ hk => hk))).2.1 (Kd.V_F (Kd.V_mono (ok' := (fun k_ => ((P0_ k_ ∨ P1_ k_) ∨ w.heap.size ≤ k_))) (HO0.out) (fun k_ hk => hk))))) (Reps.one (show Kd.FK (Kd.slice 29 (Kd.int .u64)) _ _ l1 [.slice A1 l1.length c1] from (Kd.FK_slice_mk (Kd.V_reads' (Kd.V_mono (ok' := (fun k_ => ((P0_ k_ ∨ P1_ k_) ∨ w.heap.size ≤ k_))) (HO1.out) (fun k_ hk => hk))).2.1 (Kd.V_F (Kd.V_mono (ok' := (fun k_ => ((P0_ k_ ∨ P1_ k_) ∨ w.heap.size ≤ k_))) (HO1.out) (fun k_ hk => hk))))) (Reps.none _ _)))); intro v467 w12 ho13 hb hg_ hnew_; clear hg_ hnew_; (first | rw [← Ny466.out] at ho13 | (simp only [Int.reduceToNat] at ho13; rw [← Ny466.out] at ho13)); have n0_ := Aside0.mk (Kd.V_elder' (by (with_reducible repeat (first | apply Kd.V_alloc | apply Kd.V_drewN | apply Kd.V_drew)); exact HO0.out) (Kd.N_base ho13) hb); have n1_ := Aside0.mk (Kd.V_elder' (by (with_reducible repeat (first | apply Kd.V_alloc | apply Kd.V_drewN | apply Kd.V_drew)); exact HO1.out) (Kd.N_base ho13) hb); have n2_ := Aside0.mk (Kd.N_lower ho13 (below_size (by repeat (first | (with_reducible first | exact HB.out | apply below_alloc | apply pw_below_drewN | apply below_drew1) | exact HB.out)))); have n3_ := Aside0.mk (below_step (by repeat (first | (with_reducible first | exact HB.out | apply below_alloc | apply pw_below_drewN | apply below_drew1) | exact HB.out)) hb); clear HO0; clear HO1; clear HB; have HO0 := n0_; have HO1 := n1_; have HO468 := n2_; have HB := n3_; clear n0_ n1_ n2_ n3_; clear hb ho13; obtain ⟨Ao14, co14, eo14⟩ := Kd.N_slice HO468.out; subst eo14) | ((with_reducible refine gate_callee (f := 24) rfl ?_); refine goesL_ (some 15) rfl rfl Try.func24 (by kernel_rfl) rfl #[.slice Ao14 y466.length co14] rfl (by (try simp only [List.map_toArray, List.map_cons, List.map_nil]); first | done | rfl | (simp only [List.length_drop, List.length_take]; rfl)) ?_; (with_reducible refine (nat_right.calls _ _ y466 true _ ?side1 ?side2 A3.out).mono ?_); (case side1 => repeat (first | exact (Kd.N_reads' HO468.out).2.2 | (with_reducible refine Kd.C_alloc ?_ _) | (with_reducible refine Kd.C_drewN ?_ _) | (with_reducible refine Kd.C_drew ?_))); (case side2 => exact (Kd.N_reads' HO468.out).2.1); rintro e w' ⟨rfl, ⟨nd, rfl⟩⟩; refine ⟨_, rfl, ?_⟩) | ((with_reducible refine gate_callee (f := 39) rfl ?_); refine goesL_ (some 24) rfl rfl Try.func39 (by kernel_rfl) rfl #[.slice A0 l0.length c0, .slice A1 l1.length c1] rfl (by (try simp only [List.map_toArray, List.map_cons, List.map_nil]); first | done | rfl | (simp only [List.length_drop, List.length_take]; rfl)) ?_; (with_reducible refine (nat_compare.calls k _ _ l0 _ _ l1 t470 _ ?side1 ?side2 ?side3 ?side4 A9.out).mono ?_); (case side1 => repeat (first | exact (Kd.V_reads' HO0.out).2.2 | (with_reducible refine Kd.C_alloc ?_ _) | (with_reducible refine Kd.C_drewN ?_ _) | (with_reducible refine Kd.C_drew ?_))); (case side2 => exact (Kd.V_reads' HO0.out).2.1); (case side3 => repeat (first | exact (Kd.V_reads' HO1.out).2.2 | (with_reducible refine Kd.C_alloc ?_ _) | (with_reducible refine Kd.C_drewN ?_ _) | (with_reducible refine Kd.C_drew ?_))); (case side4 => exact (Kd.V_reads' HO1.out).2.1); rintro e w' ⟨rfl, ⟨nd, rfl⟩⟩; refine ⟨_, rfl, ?_⟩) | ((with_reducible refine gate_callee (f := 40) rfl ?_); refine goesL_ (some 27) rfl rfl Try.func40 (by kernel_rfl) rfl #[.slice A0 l0.length c0] rfl (by (try simp only [List.map_toArray, List.map_cons, List.map_nil]); first | done | rfl | (simp only [List.length_drop, List.length_take]; rfl)) ?_; (with_reducible refine (api_Nat_uint64.calls _ _ l0 t471 _ ?side1 ?side2 A11.out).mono ?_); (case side1 => repeat (first | exact (Kd.V_reads' HO0.out).2.2 | (with_reducible refine Kd.C_alloc ?_ _) | (with_reducible refine Kd.C_drewN ?_ _) | (with_reducible refine Kd.C_drew ?_))); (case side2 => exact (Kd.V_reads' HO0.out).2.1); rintro e w15 ⟨v472, rfl, ho0, hb⟩; refine ⟨_, rfl, ?_⟩; have n0_ := Aside0.mk (Kd.V_elder' (by (with_reducible repeat (first | apply Kd.V_alloc | apply Kd.V_drewN | apply Kd.V_drew)); exact HO0.out) (Kd.R_base ho0) hb); have n1_ := Aside0.mk (Kd.V_elder' (by (with_reducible repeat (first | apply Kd.V_alloc | apply Kd.V_drewN | apply Kd.V_drew)); exact HO1.out) (Kd.R_base ho0) hb); have n2_ := Aside0.mk (Kd.N_elder' (by (with_reducible repeat (first | apply Kd.N_alloc | apply Kd.N_drewN | apply Kd.N_drew)); exact HO468.out) (Kd.R_base ho0) hb); have n3_ := Aside0.mk (Kd.R_lower (Kd.R_newM (M := fun k_ => (w.heap.size ≤ k_)) ho0 (below_size (by repeat (first | (with_reducible first | exact HB.out | apply below_alloc | apply pw_below_drewN | apply below_drew1) | exact HB.out))) (fun k_ h_ => h_)) (below_size (by repeat (first | (with_reducible first | exact HB.out | apply below_alloc | apply pw_below_drewN | apply below_drew1) | exact HB.out)))); have n4_ := Aside0.mk (below_step (by repeat (first | (with_reducible first | exact HB.out | apply below_alloc | apply pw_below_drewN | apply below_drew1) | exact HB.out)) hb); clear HO0; clear HO1; clear HO468; clear HB; have HO0 := n0_; have HO1 := n1_; have HO468 := n2_; have HO473 := n3_; have HB := n4_; clear n0_ n1_ n2_ n3_ n4_; (try clear hb); (try clear hb2); (try clear hk); (try clear hi); (try clear ho0)))
        go_ret3
        exact ⟨_, _, by first | rfl | (simp [errW_none, errW_some] <;> rfl) | (simp [*, errW_none, errW_some] <;> rfl), by first | exact Kd.R_nil _ _ _ _ _ | exact Kd.N_nil _ _ _ _ _ | exact Kd.V_nil _ _ _ _ _ | exact Kd.Q_nil _ _ _ _ _ | exact Kd.S_nil _ _ _ _ _, by (with_reducible repeat (first | apply Kd.R_alloc | apply Kd.R_drewN | apply Kd.R_drew)); exact Kd.R_mono HO473.out (fun _ hk => ⟨hk.1, (by simp [Value.ownBlock])⟩), by repeat (first | (with_reducible first | exact HB.out | apply below_alloc | apply pw_below_drewN | apply below_drew1) | exact HB.out)⟩
      · rw [if_neg c10] at H
        have c10b0 : decide (t470 < 0) = false := decide_eq_false c10
        clear c10
        by_cases c16 : (l1.length : Int) = 1
        · rw [if_pos c16] at H
          have c16b0 : ((l1.length : Int) == 1) = true := beq_iff_eq.mpr c16
          have c16b1 : ((l1.length : Int) != 1) = false := bne_eq_false_iff_eq.mpr c16
          clear c16
          by_cases c17 : 0 < (l1.length : Int)
          · rw [if_pos c17] at H
            have c17b0 : decide (0 < (l1.length : Int)) = true := decide_eq_true c17
            have c17b1 : decide (0 < l1.length) = true := decide_eq_true (by omega)
            clear c17
            replace H := Option.bind_eq_some_iff.mp H
            obtain ⟨⟨t475, t476⟩, A180, H⟩ := H
            replace H : ((nat_Of.f k t476).bind fun t479 => (some (t475, t479, 0))) = some (r1, r2, r3) := H
            have A18 := Aside0.mk A180
            clear A180
            replace H := Option.bind_eq_some_iff.mp H
            obtain ⟨t479, A190, H⟩ := H
            replace H : (some (t475, t479, 0)) = some (r1, r2, r3) := H
            have A19 := Aside0.mk A190
            clear A190
            simp only [Option.some.injEq, Prod.mk.injEq] at H
            obtain ⟨rfl, rfl, rfl⟩ := H
            go_enter Try.func19, Try.ntmps19
            go_wp2_with (first | ((with_reducible refine gate_dst (N := 14) rfl ?_); refine Kd.N_lit (Kd.slice 29 (Kd.int .u64)) _ 23 ?hg (N' := 14) ?hd (xs := ([l0, l1] : List (List Int))) (inner := [.slice A0 l0.length c0, .slice A1 l1.length c1]) (ok := (fun k_ => ((P0_ k_ ∨ P1_ k_) ∨ w.heap.size ≤ k_))) (okp := (fun k_ => ((P0_ k_ ∨ P1_ k_) ∨ w.heap.size ≤ k_))) ?hr ?hp (fun _ hk => hk) ((show ∀ k_, w.heap.size ≤ k_ → (fun k_ => ((P0_ k_ ∨ P1_ k_) ∨ w.heap.size ≤ k_)) k_ from fun k_ hk => (.inr (Nat.le_trans (below_size (by repeat (first | (with_reducible first | exact HB.out | apply below_alloc | apply pw_below_drewN | apply below_drew1) | exact HB.out))) hk))) _ (Nat.le_refl _)) (Below.refl _ _) (Nat.le_refl _) (by simp) ?_; (case hd => rfl); (case hg => rfl); (case hr => first | (go_simp; done) | (go_simp; rfl) | (go_simp; simp only [u64_u8]; done) | (go_simp; simp only [u64_u8]; rfl)); (case hp => exact (Reps.one (show Kd.FK (Kd.slice 29 (Kd.int .u64)) _ _ l0 [.slice A0 l0.length c0] from (Kd.FK_slice_mk (Kd.V_reads' (Kd.V_mono (ok' := (fun k_ => ((P0_ k_ ∨ P1_ k_) ∨ w.heap.size ≤ k_))) (HO0.out) (fun k_ hk => hk))).2.1 (Kd.V_F (Kd.V_mono (ok' := (fun k_ => ((P0_ k_ ∨ P1_ k_) ∨ w.heap.size ≤ k_))) (HO0.out) (fun k_ hk => hk))))) (Reps.one (show Kd.FK (Kd.slice 29 (Kd.int .u64)) _ _ l1 [.slice A1 l1.length c1] from (Kd.FK_slice_mk (Kd.V_reads' (Kd.V_mono (ok' := (fun k_ => ((P0_ k_ ∨ P1_ k_) ∨ w.heap.size ≤ k_))) (HO1.out) (fun k_ hk => hk))).2.1 (Kd.V_F (Kd.V_mono (ok' := (fun k_ => ((P0_ k_ ∨ P1_ k_) ∨ w.heap.size ≤ k_))) (HO1.out) (fun k_ hk => hk))))) (Reps.none _ _)))); intro v467 w20 ho21 hb hg_ hnew_; clear hg_ hnew_; (first | rw [← Ny466.out] at ho21 | (simp only [Int.reduceToNat] at ho21; rw [← Ny466.out] at ho21)); have n0_ := Aside0.mk (Kd.V_elder' (by (with_reducible repeat (first | apply Kd.V_alloc | apply Kd.V_drewN | apply Kd.V_drew)); exact HO0.out) (Kd.N_base ho21) hb); have n1_ := Aside0.mk (Kd.V_elder' (by (with_reducible repeat (first | apply Kd.V_alloc | apply Kd.V_drewN | apply Kd.V_drew)); exact HO1.out) (Kd.N_base ho21) hb); have n2_ := Aside0.mk (Kd.N_lower ho21 (below_size (by repeat (first | (with_reducible first | exact HB.out | apply below_alloc | apply pw_below_drewN | apply below_drew1) | exact HB.out)))); have n3_ := Aside0.mk (below_step (by repeat (first | (with_reducible first | exact HB.out | apply below_alloc | apply pw_below_drewN | apply below_drew1) | exact HB.out)) hb); clear HO0; clear HO1; clear HB; have HO0 := n0_; have HO1 := n1_; have HO468 := n2_; have HB := n3_; clear n0_ n1_ n2_ n3_; clear hb ho21; obtain ⟨Ao22, co22, eo22⟩ := Kd.N_slice HO468.out; subst eo22) | ((with_reducible refine gate_callee (f := 24) rfl ?_); refine goesL_ (some 15) rfl rfl Try.func24 (by kernel_rfl) rfl #[.slice Ao22 y466.length co22] rfl (by (try simp only [List.map_toArray, List.map_cons, List.map_nil]); first | done | rfl | (simp only [List.length_drop, List.length_take]; rfl)) ?_; (with_reducible refine (nat_right.calls _ _ y466 true _ ?side1 ?side2 A3.out).mono ?_); (case side1 => repeat (first | exact (Kd.N_reads' HO468.out).2.2 | (with_reducible refine Kd.C_alloc ?_ _) | (with_reducible refine Kd.C_drewN ?_ _) | (with_reducible refine Kd.C_drew ?_))); (case side2 => exact (Kd.N_reads' HO468.out).2.1); rintro e w' ⟨rfl, ⟨nd, rfl⟩⟩; refine ⟨_, rfl, ?_⟩) | ((with_reducible refine gate_callee (f := 39) rfl ?_); refine goesL_ (some 24) rfl rfl Try.func39 (by kernel_rfl) rfl #[.slice A0 l0.length c0, .slice A1 l1.length c1] rfl (by (try simp only [List.map_toArray, List.map_cons, List.map_nil]); first | done | rfl | (simp only [List.length_drop, List.length_take]; rfl)) ?_; (with_reducible refine (nat_compare.calls k _ _ l0 _ _ l1 t470 _ ?side1 ?side2 ?side3 ?side4 A9.out).mono ?_); (case side1 => repeat (first | exact (Kd.V_reads' HO0.out).2.2 | (with_reducible refine Kd.C_alloc ?_ _) | (with_reducible refine Kd.C_drewN ?_ _) | (with_reducible refine Kd.C_drew ?_))); (case side2 => exact (Kd.V_reads' HO0.out).2.1); (case side3 => repeat (first | exact (Kd.V_reads' HO1.out).2.2 | (with_reducible refine Kd.C_alloc ?_ _) | (with_reducible refine Kd.C_drewN ?_ _) | (with_reducible refine Kd.C_drew ?_))); (case side4 => exact (Kd.V_reads' HO1.out).2.1); rintro e w' ⟨rfl, ⟨nd, rfl⟩⟩; refine ⟨_, rfl, ?_⟩; have p474 : 0 ≤ (0 : Int) := (by omega); have q474 : 0 < (l1.length : Int) := of_decide_eq_true (by first | (with_reducible assumption) | assumption); obtain ⟨ad474, e474, hx474_0⟩ := Kd.at_int (Kd.V_reads' HO1.out).2.2 0 p474 q474; cases e474; have qi474 : (0 < l1.length) = True := eq_true (by omega); (try rw [show ((0 : Int)).toNat = 0 from rfl] at hx474_0); (try rw [Addr.add_zero'] at hx474_0); replace p474 := eq_true p474; replace q474 := eq_true q474) | ((with_reducible refine gate_callee (f := 37) rfl ?_); refine goesL_ (some 37) rfl rfl Try.func37 (by kernel_rfl) rfl #[.slice A0 l0.length c0, .int .u64 (rd l1 0)] rfl (by (try simp only [List.map_toArray, List.map_cons, List.map_nil]); first | done | rfl | (simp only [List.length_drop, List.length_take]; rfl)) ?_; (with_reducible refine (nat_short.calls k _ _ l0 (rd l1 0) t475 t476 _ ?side1 ?side2 A18.out).mono ?_); (case side1 => repeat (first | exact (Kd.V_reads' HO0.out).2.2 | (with_reducible refine Kd.C_alloc ?_ _) | (with_reducible refine Kd.C_drewN ?_ _) | (with_reducible refine Kd.C_drew ?_))); (case side2 => exact (Kd.V_reads' HO0.out).2.1); rintro e w23 ⟨v477, rfl, ho0, hb⟩; refine ⟨_, rfl, ?_⟩; have n0_ := Aside0.mk (Kd.V_elder' (by (with_reducible repeat (first | apply Kd.V_alloc | apply Kd.V_drewN | apply Kd.V_drew)); exact HO0.out) (Kd.R_base ho0) hb); have n1_ := Aside0.mk (Kd.V_elder' (by (with_reducible repeat (first | apply Kd.V_alloc | apply Kd.V_drewN | apply Kd.V_drew)); exact HO1.out) (Kd.R_base ho0) hb); have n2_ := Aside0.mk (Kd.N_elder' (by (with_reducible repeat (first | apply Kd.N_alloc | apply Kd.N_drewN | apply Kd.N_drew)); exact HO468.out) (Kd.R_base ho0) hb); have n3_ := Aside0.mk (Kd.R_lower (Kd.R_newM (M := fun k_ => (w.heap.size ≤ k_)) ho0 (below_size (by repeat (first | (with_reducible first | exact HB.out | apply below_alloc | apply pw_below_drewN | apply below_drew1) | exact HB.out))) (fun k_ h_ => h_)) (below_size (by repeat (first | (with_reducible first | exact HB.out | apply below_alloc | apply pw_below_drewN | apply below_drew1) | exact HB.out)))); have n4_ := Aside0.mk (below_step (by repeat (first | (with_reducible first | exact HB.out | apply below_alloc | apply pw_below_drewN | apply below_drew1) | exact HB.out)) hb); clear HO0; clear HO1; clear HO468; clear HB; have HO0 := n0_; have HO1 := n1_; have HO468 := n2_; have HO478 := n3_; have HB := n4_; clear n0_ n1_ n2_ n3_ n4_; (try clear hb); (try clear hb2); (try clear hk); (try clear hi); (try clear ho0)) | ((with_reducible refine gate_callee (f := 41) rfl ?_); refine goesL_ (some 42) rfl rfl Try.func41 (by kernel_rfl) rfl #[.int .u64 t476] rfl (by (try simp only [List.map_toArray, List.map_cons, List.map_nil]); first | done | rfl | (simp only [List.length_drop, List.length_take]; rfl)) ?_; (with_reducible refine (nat_Of.calls k t476 t479 _ A19.out).mono ?_); rintro e w24 ⟨v480, rfl, ho0, hb⟩; refine ⟨_, rfl, ?_⟩; have n0_ := Aside0.mk (Kd.V_elder' (by (with_reducible repeat (first | apply Kd.V_alloc | apply Kd.V_drewN | apply Kd.V_drew)); exact HO0.out) (Kd.R_base ho0) hb); have n1_ := Aside0.mk (Kd.V_elder' (by (with_reducible repeat (first | apply Kd.V_alloc | apply Kd.V_drewN | apply Kd.V_drew)); exact HO1.out) (Kd.R_base ho0) hb); have n2_ := Aside0.mk (Kd.N_elder' (by (with_reducible repeat (first | apply Kd.N_alloc | apply Kd.N_drewN | apply Kd.N_drew)); exact HO468.out) (Kd.R_base ho0) hb); have n3_ := Aside0.mk (Kd.R_elder' (by (with_reducible repeat (first | apply Kd.R_alloc | apply Kd.R_drewN | apply Kd.R_drew)); exact HO478.out) (Kd.R_base ho0) hb); have n4_ := Aside0.mk (Kd.R_lower (Kd.R_new' (Kd.R_newM (M := fun k_ => (w.heap.size ≤ k_)) ho0 (below_size (by repeat (first | (with_reducible first | exact HB.out | apply below_alloc | apply pw_below_drewN | apply below_drew1) | exact HB.out))) (fun k_ h_ => h_)) (Kd.R_lt (by (with_reducible repeat (first | apply Kd.R_alloc | apply Kd.R_drewN | apply Kd.R_drew)); exact HO478.out))) (below_size (by repeat (first | (with_reducible first | exact HB.out | apply below_alloc | apply pw_below_drewN | apply below_drew1) | exact HB.out)))); have n5_ := Aside0.mk (below_step (by repeat (first | (with_reducible first | exact HB.out | apply below_alloc | apply pw_below_drewN | apply below_drew1) | exact HB.out)) hb); clear HO0; clear HO1; clear HO468; clear HO478; clear HB; have HO0 := n0_; have HO1 := n1_; have HO468 := n2_; have HO478 := n3_; have HO481 := n4_; have HB := n5_; clear n0_ n1_ n2_ n3_ n4_ n5_; (try clear hb); (try clear hb2); (try clear hk); (try clear hi); (try clear ho0)))
            go_ret3
            exact ⟨_, _, by first | rfl | (simp [errW_none, errW_some] <;> rfl) | (simp [*, errW_none, errW_some] <;> rfl), by (with_reducible repeat (first | apply Kd.R_alloc | apply Kd.R_drewN | apply Kd.R_drew)); exact Kd.R_mono HO478.out (fun _ hk => ⟨hk.1.1, hk.2⟩), by (with_reducible repeat (first | apply Kd.R_alloc | apply Kd.R_drewN | apply Kd.R_drew)); exact Kd.R_mono HO481.out (fun _ hk => ⟨hk.1.1, hk.2⟩), by repeat (first | (with_reducible first | exact HB.out | apply below_alloc | apply pw_below_drewN | apply below_drew1) | exact HB.out)⟩
          · rw [if_neg c17] at H
            exact absurd H (by simp)
        · rw [if_neg c16] at H
          have c16b0 : ((l1.length : Int) == 1) = false := beq_eq_false_iff_ne.mpr c16
          have c16b1 : ((l1.length : Int) != 1) = true := bne_iff_ne.mpr c16
          replace H := Option.bind_eq_some_iff.mp H
          obtain ⟨⟨t482, t483⟩, A250, H⟩ := H
          replace H : (some (t482, t483, 0)) = some (r1, r2, r3) := H
          have A25 := Aside0.mk A250
          clear A250
          simp only [Option.some.injEq, Prod.mk.injEq] at H
          obtain ⟨rfl, rfl, rfl⟩ := H
          go_enter Try.func19, Try.ntmps19
          go_wp2_with (first | ((with_reducible refine gate_dst (N := 14) rfl ?_); refine Kd.N_lit (Kd.slice 29 (Kd.int .u64)) _ 23 ?hg (N' := 14) ?hd (xs := ([l0, l1] : List (List Int))) (inner := [.slice A0 l0.length c0, .slice A1 l1.length c1]) (ok := (fun k_ => ((P0_ k_ ∨ P1_ k_) ∨ w.heap.size ≤ k_))) (okp := (fun k_ => ((P0_ k_ ∨ P1_ k_) ∨ w.heap.size ≤ k_))) ?hr ?hp (fun _ hk => hk) ((show ∀ k_, w.heap.size ≤ k_ → (fun k_ => ((P0_ k_ ∨ P1_ k_) ∨ w.heap.size ≤ k_)) k_ from fun k_ hk => (.inr (Nat.le_trans (below_size (by repeat (first | (with_reducible first | exact HB.out | apply below_alloc | apply pw_below_drewN | apply below_drew1) | exact HB.out))) hk))) _ (Nat.le_refl _)) (Below.refl _ _) (Nat.le_refl _) (by simp) ?_; (case hd => rfl); (case hg => rfl); (case hr => first | (go_simp; done) | (go_simp; rfl) | (go_simp; simp only [u64_u8]; done) | (go_simp; simp only [u64_u8]; rfl)); (case hp => exact (Reps.one (show Kd.FK (Kd.slice 29 (Kd.int .u64)) _ _ l0 [.slice A0 l0.length c0] from (Kd.FK_slice_mk (Kd.V_reads' (Kd.V_mono (ok' := (fun k_ => ((P0_ k_ ∨ P1_ k_) ∨ w.heap.size ≤ k_))) (HO0.out) (fun k_ hk => hk))).2.1 (Kd.V_F (Kd.V_mono (ok' := (fun k_ => ((P0_ k_ ∨ P1_ k_) ∨ w.heap.size ≤ k_))) (HO0.out) (fun k_ hk => hk))))) (Reps.one (show Kd.FK (Kd.slice 29 (Kd.int .u64)) _ _ l1 [.slice A1 l1.length c1] from (Kd.FK_slice_mk (Kd.V_reads' (Kd.V_mono (ok' := (fun k_ => ((P0_ k_ ∨ P1_ k_) ∨ w.heap.size ≤ k_))) (HO1.out) (fun k_ hk => hk))).2.1 (Kd.V_F (Kd.V_mono (ok' := (fun k_ => ((P0_ k_ ∨ P1_ k_) ∨ w.heap.size ≤ k_))) (HO1.out) (fun k_ hk => hk))))) (Reps.none _ _)))); intro v467 w26 ho27 hb hg_ hnew_; clear hg_ hnew_; (first | rw [← Ny466.out] at ho27 | (simp only [Int.reduceToNat] at ho27; rw [← Ny466.out] at ho27)); have n0_ := Aside0.mk (Kd.V_elder' (by (with_reducible repeat (first | apply Kd.V_alloc | apply Kd.V_drewN | apply Kd.V_drew)); exact HO0.out) (Kd.N_base ho27) hb); have n1_ := Aside0.mk (Kd.V_elder' (by (with_reducible repeat (first | apply Kd.V_alloc | apply Kd.V_drewN | apply Kd.V_drew)); exact HO1.out) (Kd.N_base ho27) hb); have n2_ := Aside0.mk (Kd.N_lower ho27 (below_size (by repeat (first | (with_reducible first | exact HB.out | apply below_alloc | apply pw_below_drewN | apply below_drew1) | exact HB.out)))); have n3_ := Aside0.mk (below_step (by repeat (first | (with_reducible first | exact HB.out | apply below_alloc | apply pw_below_drewN | apply below_drew1) | exact HB.out)) hb); clear HO0; clear HO1; clear HB; have HO0 := n0_; have HO1 := n1_; have HO468 := n2_; have HB := n3_; clear n0_ n1_ n2_ n3_; clear hb ho27; obtain ⟨Ao28, co28, eo28⟩ := Kd.N_slice HO468.out; subst eo28) | ((with_reducible refine gate_callee (f := 24) rfl ?_); refine goesL_ (some 15) rfl rfl Try.func24 (by kernel_rfl) rfl #[.slice Ao28 y466.length co28] rfl (by (try simp only [List.map_toArray, List.map_cons, List.map_nil]); first | done | rfl | (simp only [List.length_drop, List.length_take]; rfl)) ?_; (with_reducible refine (nat_right.calls _ _ y466 true _ ?side1 ?side2 A3.out).mono ?_); (case side1 => repeat (first | exact (Kd.N_reads' HO468.out).2.2 | (with_reducible refine Kd.C_alloc ?_ _) | (with_reducible refine Kd.C_drewN ?_ _) | (with_reducible refine Kd.C_drew ?_))); (case side2 => exact (Kd.N_reads' HO468.out).2.1); rintro e w' ⟨rfl, ⟨nd, rfl⟩⟩; refine ⟨_, rfl, ?_⟩) | ((with_reducible refine gate_callee (f := 39) rfl ?_); refine goesL_ (some 24) rfl rfl Try.func39 (by kernel_rfl) rfl #[.slice A0 l0.length c0, .slice A1 l1.length c1] rfl (by (try simp only [List.map_toArray, List.map_cons, List.map_nil]); first | done | rfl | (simp only [List.length_drop, List.length_take]; rfl)) ?_; (with_reducible refine (nat_compare.calls k _ _ l0 _ _ l1 t470 _ ?side1 ?side2 ?side3 ?side4 A9.out).mono ?_); (case side1 => repeat (first | exact (Kd.V_reads' HO0.out).2.2 | (with_reducible refine Kd.C_alloc ?_ _) | (with_reducible refine Kd.C_drewN ?_ _) | (with_reducible refine Kd.C_drew ?_))); (case side2 => exact (Kd.V_reads' HO0.out).2.1); (case side3 => repeat (first | exact (Kd.V_reads' HO1.out).2.2 | (with_reducible refine Kd.C_alloc ?_ _) | (with_reducible refine Kd.C_drewN ?_ _) | (with_reducible refine Kd.C_drew ?_))); (case side4 => exact (Kd.V_reads' HO1.out).2.1); rintro e w' ⟨rfl, ⟨nd, rfl⟩⟩; refine ⟨_, rfl, ?_⟩) | ((with_reducible refine gate_callee (f := 42) rfl ?_); refine goesL_ (some 46) rfl rfl Try.func42 (by kernel_rfl) rfl #[.slice A0 l0.length c0, .slice A1 l1.length c1] rfl (by (try simp only [List.map_toArray, List.map_cons, List.map_nil]); first | done | rfl | (simp only [List.length_drop, List.length_take]; rfl)) ?_; (with_reducible refine (nat_long.calls k _ _ l0 _ _ l1 t482 t483 _ ?side1 ?side2 ?side3 ?side4 A25.out).mono ?_); (case side1 => repeat (first | exact (Kd.V_reads' HO0.out).2.2 | (with_reducible refine Kd.C_alloc ?_ _) | (with_reducible refine Kd.C_drewN ?_ _) | (with_reducible refine Kd.C_drew ?_))); (case side2 => exact (Kd.V_reads' HO0.out).2.1); (case side3 => repeat (first | exact (Kd.V_reads' HO1.out).2.2 | (with_reducible refine Kd.C_alloc ?_ _) | (with_reducible refine Kd.C_drewN ?_ _) | (with_reducible refine Kd.C_drew ?_))); (case side4 => exact (Kd.V_reads' HO1.out).2.1); rintro e w29 ⟨v484, v486, rfl, ho0, ho1, hb⟩; refine ⟨_, rfl, ?_⟩; have n0_ := Aside0.mk (Kd.V_mono (Kd.V_told (Kd.V_told (Kd.V_old (by (with_reducible repeat (first | apply Kd.V_alloc | apply Kd.V_drewN | apply Kd.V_drew)); exact HO0.out) hb) (Kd.R_base ho0)) (Kd.R_base ho1)) (fun _ h_ => h_.1)); have n1_ := Aside0.mk (Kd.V_mono (Kd.V_told (Kd.V_told (Kd.V_old (by (with_reducible repeat (first | apply Kd.V_alloc | apply Kd.V_drewN | apply Kd.V_drew)); exact HO1.out) hb) (Kd.R_base ho0)) (Kd.R_base ho1)) (fun _ h_ => h_.1)); have n2_ := Aside0.mk (Kd.N_mono (Kd.N_told (Kd.N_told (Kd.N_old (by (with_reducible repeat (first | apply Kd.N_alloc | apply Kd.N_drewN | apply Kd.N_drew)); exact HO468.out) hb) (Kd.R_base ho0)) (Kd.R_base ho1)) (fun _ h_ => h_.1)); have n3_ := Aside0.mk (Kd.R_lower (Kd.R_newM (M := fun k_ => (w.heap.size ≤ k_)) ho0 (below_size (by repeat (first | (with_reducible first | exact HB.out | apply below_alloc | apply pw_below_drewN | apply below_drew1) | exact HB.out))) (fun k_ h_ => h_)) (below_size (by repeat (first | (with_reducible first | exact HB.out | apply below_alloc | apply pw_below_drewN | apply below_drew1) | exact HB.out)))); have n4_ := Aside0.mk (Kd.R_lower (Kd.R_newM (M := fun k_ => (w.heap.size ≤ k_)) ho1 (below_size (by repeat (first | (with_reducible first | exact HB.out | apply below_alloc | apply pw_below_drewN | apply below_drew1) | exact HB.out))) (fun k_ h_ => h_)) (below_size (by repeat (first | (with_reducible first | exact HB.out | apply below_alloc | apply pw_below_drewN | apply below_drew1) | exact HB.out)))); have n5_ := Aside0.mk (below_step (by repeat (first | (with_reducible first | exact HB.out | apply below_alloc | apply pw_below_drewN | apply below_drew1) | exact HB.out)) hb); clear HO0; clear HO1; clear HO468; clear HB; have HO0 := n0_; have HO1 := n1_; have HO468 := n2_; have HO485 := n3_; have HO487 := n4_; have HB := n5_; clear n0_ n1_ n2_ n3_ n4_ n5_; (try clear hb); (try clear hb2); (try clear hk); (try clear hi); (try clear ho0); (try clear ho1)))
          go_ret3
          exact ⟨_, _, by first | rfl | (simp [errW_none, errW_some] <;> rfl) | (simp [*, errW_none, errW_some] <;> rfl), by (with_reducible repeat (first | apply Kd.R_alloc | apply Kd.R_drewN | apply Kd.R_drew)); exact HO485.out, by (with_reducible repeat (first | apply Kd.R_alloc | apply Kd.R_drewN | apply Kd.R_drew)); exact HO487.out, by repeat (first | (with_reducible first | exact HB.out | apply below_alloc | apply pw_below_drewN | apply below_drew1) | exact HB.out)⟩
  · replace c4 := Bool.eq_false_iff.mpr c4
    subst c4
    have H1 : (some (([] : List Int), ([] : List Int), 1)) = some (r1, r2, r3) := by rw [if_neg (show ¬ (false = true) by decide)] at H; exact H
    clear H
    have H := H1
    clear H1
    simp only [Option.some.injEq, Prod.mk.injEq] at H
    obtain ⟨rfl, rfl, rfl⟩ := H
    go_enter Try.func19, Try.ntmps19
    go_wp2_with (first | ((with_reducible refine gate_dst (N := 14) rfl ?_); refine Kd.N_lit (Kd.slice 29 (Kd.int .u64)) _ 23 ?hg (N' := 14) ?hd (xs := ([l0, l1] : List (List Int))) (inner := [.slice A0 l0.length c0, .slice A1 l1.length c1]) (ok := (fun k_ => ((P0_ k_ ∨ P1_ k_) ∨ w.heap.size ≤ k_))) (okp := (fun k_ => ((P0_ k_ ∨ P1_ k_) ∨ w.heap.size ≤ k_))) ?hr ?hp (fun _ hk => hk) ((show ∀ k_, w.heap.size ≤ k_ → (fun k_ => ((P0_ k_ ∨ P1_ k_) ∨ w.heap.size ≤ k_)) k_ from fun k_ hk => (.inr (Nat.le_trans (below_size (by repeat (first | (with_reducible first | exact HB.out | apply below_alloc | apply pw_below_drewN | apply below_drew1) | exact HB.out))) hk))) _ (Nat.le_refl _)) (Below.refl _ _) (Nat.le_refl _) (by simp) ?_; (case hd => rfl); (case hg => rfl); (case hr => first | (go_simp; done) | (go_simp; rfl) | (go_simp; simp only [u64_u8]; done) | (go_simp; simp only [u64_u8]; rfl)); (case hp => exact (Reps.one (show Kd.FK (Kd.slice 29 (Kd.int .u64)) _ _ l0 [.slice A0 l0.length c0] from (Kd.FK_slice_mk (Kd.V_reads' (Kd.V_mono (ok' := (fun k_ => ((P0_ k_ ∨ P1_ k_) ∨ w.heap.size ≤ k_))) (HO0.out) (fun k_ hk => hk))).2.1 (Kd.V_F (Kd.V_mono (ok' := (fun k_ => ((P0_ k_ ∨ P1_ k_) ∨ w.heap.size ≤ k_))) (HO0.out) (fun k_ hk => hk))))) (Reps.one (show Kd.FK (Kd.slice 29 (Kd.int .u64)) _ _ l1 [.slice A1 l1.length c1] from (Kd.FK_slice_mk (Kd.V_reads' (Kd.V_mono (ok' := (fun k_ => ((P0_ k_ ∨ P1_ k_) ∨ w.heap.size ≤ k_))) (HO1.out) (fun k_ hk => hk))).2.1 (Kd.V_F (Kd.V_mono (ok' := (fun k_ => ((P0_ k_ ∨ P1_ k_) ∨ w.heap.size ≤ k_))) (HO1.out) (fun k_ hk => hk))))) (Reps.none _ _)))); intro v467 w30 ho31 hb hg_ hnew_; clear hg_ hnew_; (first | rw [← Ny466.out] at ho31 | (simp only [Int.reduceToNat] at ho31; rw [← Ny466.out] at ho31)); have n0_ := Aside0.mk (Kd.V_elder' (by (with_reducible repeat (first | apply Kd.V_alloc | apply Kd.V_drewN | apply Kd.V_drew)); exact HO0.out) (Kd.N_base ho31) hb); have n1_ := Aside0.mk (Kd.V_elder' (by (with_reducible repeat (first | apply Kd.V_alloc | apply Kd.V_drewN | apply Kd.V_drew)); exact HO1.out) (Kd.N_base ho31) hb); have n2_ := Aside0.mk (Kd.N_lower ho31 (below_size (by repeat (first | (with_reducible first | exact HB.out | apply below_alloc | apply pw_below_drewN | apply below_drew1) | exact HB.out)))); have n3_ := Aside0.mk (below_step (by repeat (first | (with_reducible first | exact HB.out | apply below_alloc | apply pw_below_drewN | apply below_drew1) | exact HB.out)) hb); clear HO0; clear HO1; clear HB; have HO0 := n0_; have HO1 := n1_; have HO468 := n2_; have HB := n3_; clear n0_ n1_ n2_ n3_; clear hb ho31; obtain ⟨Ao32, co32, eo32⟩ := Kd.N_slice HO468.out; subst eo32) | ((with_reducible refine gate_callee (f := 24) rfl ?_); refine goesL_ (some 15) rfl rfl Try.func24 (by kernel_rfl) rfl #[.slice Ao32 y466.length co32] rfl (by (try simp only [List.map_toArray, List.map_cons, List.map_nil]); first | done | rfl | (simp only [List.length_drop, List.length_take]; rfl)) ?_; (with_reducible refine (nat_right.calls _ _ y466 false _ ?side1 ?side2 A3.out).mono ?_); (case side1 => repeat (first | exact (Kd.N_reads' HO468.out).2.2 | (with_reducible refine Kd.C_alloc ?_ _) | (with_reducible refine Kd.C_drewN ?_ _) | (with_reducible refine Kd.C_drew ?_))); (case side2 => exact (Kd.N_reads' HO468.out).2.1); rintro e w' ⟨rfl, ⟨nd, rfl⟩⟩; refine ⟨_, rfl, ?_⟩))
    go_ret3
    exact ⟨_, _, by first | rfl | (simp [errW_none, errW_some] <;> rfl) | (simp [*, errW_none, errW_some] <;> rfl), by first | exact Kd.R_nil _ _ _ _ _ | exact Kd.N_nil _ _ _ _ _ | exact Kd.V_nil _ _ _ _ _ | exact Kd.Q_nil _ _ _ _ _ | exact Kd.S_nil _ _ _ _ _, by first | exact Kd.R_nil _ _ _ _ _ | exact Kd.N_nil _ _ _ _ _ | exact Kd.V_nil _ _ _ _ _ | exact Kd.Q_nil _ _ _ _ _ | exact Kd.S_nil _ _ _ _ _, by repeat (first | (with_reducible first | exact HB.out | apply below_alloc | apply pw_below_drewN | apply below_drew1) | exact HB.out)⟩

end Go.Proofs.Yteabkedhdgnhgab.F
end

section
namespace Go.Proofs.Yteabkedhdgnhgab.F
open Go.RowKit Go.Proofs.YteabkedhdgnhgabW.PrintWords Go.Proofs.YteabkedhdgnhgabW.PrintLast Go.Proofs.YteabkedhdgnhgabW.PrintMore
attribute [local go_sem] max2_int min2_int max_two min_two max_three min_three max_four min_four   -- for this text's walks alone
set_option linter.unusedVariables false
set_option linter.unusedSimpArgs false

/-! ### nat_Cmp: function 21 -/
def nat_Cmp.f (k : Nat) (l0 : List Int) (l1 : List Int) : Option (Int) := (nat_right.f (([l0, l1] : List (List Int)))).bind fun t592 => (if t592 = true then ((nat_compare.f k l0 l1).bind fun t593 => (some t593)) else (some 0))
theorem nat_Cmp.mono : ∀ a0 a1 k, LeO (nat_Cmp.f k a0 a1) (nat_Cmp.f (k + 1) a0 a1) := by
  intro a0 a1 k
  unfold nat_Cmp.f
  repeat' first
      | (with_reducible exact nat_compare.mono _ _ _)
      | (with_reducible exact LeO.refl _)
      | (with_reducible exact LeO.none _)
      | (with_reducible refine LeO.ite ?_ ?_)
      | (with_reducible refine LeO.bind ?_ (fun _ => ?_))
      | exact nat_compare.mono _ _ _
      | exact LeO.none _
      | refine LeO.ite ?_ ?_
      | refine LeO.bind ?_ (fun _ => ?_)
set_option maxHeartbeats 8000000 in
set_option maxRecDepth 100000 in
theorem nat_Cmp.calls (k : Nat) (P0_ : Nat → Prop) (A0 : Option Addr) (c0 : Nat) (l0 : List Int) (P1_ : Nat → Prop) (A1 : Option Addr) (c1 : Nat) (l1 : List Int) (r : Int) (w : World) (hs0 : Kd.V (Kd.int .u64) 29 w w.heap.size (fun k_ => P0_ k_) (.slice A0 l0.length c0) l0) (hs1 : Kd.V (Kd.int .u64) 29 w w.heap.size (fun k_ => P1_ k_) (.slice A1 l1.length c1) l1) (h : nat_Cmp.f k l0 l1 = some r) :
    Calls Try.prog 21 #[.slice A0 l0.length c0, .slice A1 l1.length c1] w fun e w' => e = .returned (.int .i64 r) ∧ Below w.heap.size w w' := by
  have HO0 := Aside0.mk (show Kd.V (Kd.int .u64) 29 w w.heap.size (fun k_ => ((P0_ k_ ∨ P1_ k_) ∨ w.heap.size ≤ k_)) (.slice A0 l0.length c0) l0 from Kd.V_mono hs0 (fun k_ hk => .inl (.inl hk)))
  have HO1 := Aside0.mk (show Kd.V (Kd.int .u64) 29 w w.heap.size (fun k_ => ((P0_ k_ ∨ P1_ k_) ∨ w.heap.size ≤ k_)) (.slice A1 l1.length c1) l1 from Kd.V_mono hs1 (fun k_ hk => .inl (.inr hk)))
  have HB := Aside0.mk (Below.refl w.heap.size w)
  have H : ((nat_right.f (([l0, l1] : List (List Int)))).bind fun t592 => (if t592 = true then ((nat_compare.f k l0 l1).bind fun t593 => (some t593)) else (some 0))) = some r := h
  clear h
  obtain ⟨y589, hy589⟩ : ∃ y_ : List (List Int), y_ = (([l0, l1] : List (List Int))) := ⟨_, rfl⟩
  replace H : ((nat_right.f y589).bind fun t592 => (if t592 = true then ((nat_compare.f k l0 l1).bind fun t593 => (some t593)) else (some 0))) = some r := by first | (rw [hy589]; with_reducible exact H) | (have H2_ := (Option.bind_some _ _).symm.trans H; rw [hy589]; with_reducible exact H2_) | (have H2_ := (Option.bind_some _ _).symm.trans H; with_reducible exact H2_) | with_reducible exact H | (rw [hy589]; exact H) | exact H
  have Ny589 := Aside0.mk hy589
  clear hy589
  replace H := Option.bind_eq_some_iff.mp H
  obtain ⟨t592, A30, H⟩ := H
  replace H : (if t592 = true then ((nat_compare.f k l0 l1).bind fun t593 => (some t593)) else (some 0)) = some r := H
  have A3 := Aside0.mk A30
  clear A30
  by_cases c4 : t592 = true
  · subst c4
    have H1 : ((nat_compare.f k l0 l1).bind fun t593 => (some t593)) = some r := by rw [if_pos rfl] at H; exact H
    clear H
    have H := H1
    clear H1
    replace H := Option.bind_eq_some_iff.mp H
    obtain ⟨t593, A50, H⟩ := H
    replace H : (some t593) = some r := H
    have A5 := Aside0.mk A50
    clear A50
    obtain rfl := Option.some.inj H
    go_enter Try.func21, Try.ntmps21
    go_wp2_with (first | ((with_reducible refine gate_dst (N := 7) rfl ?_); refine Kd.N_lit (Kd.slice 29 (Kd.int .u64)) _ 23 ?hg (N' := 7) ?hd (xs := ([l0, l1] : List (List Int))) (inner := [.slice A0 l0.length c0, .slice A1 l1.length c1]) (ok := (fun k_ => ((P0_ k_ ∨ P1_ k_) ∨ w.heap.size ≤ k_))) (okp := (fun k_ => ((P0_ k_ ∨ P1_ k_) ∨ w.heap.size ≤ k_))) ?hr ?hp (fun _ hk => hk) ((show ∀ k_, w.heap.size ≤ k_ → (fun k_ => ((P0_ k_ ∨ P1_ k_) ∨ w.heap.size ≤ k_)) k_ from fun k_ hk => (.inr (Nat.le_trans (below_size (by repeat (first | (with_reducible first | exact HB.out | apply below_alloc | apply pw_below_drewN | apply below_drew1) | exact HB.out))) hk))) _ (Nat.le_refl _)) (Below.refl _ _) (Nat.le_refl _) (by simp) ?_; (case hd => rfl); (case hg => rfl); (case hr => first | (go_simp; done) | (go_simp; rfl) | (go_simp; simp only [u64_u8]; done) | (go_simp; simp only [u64_u8]; rfl)); (case hp => exact (Reps.one (show Kd.FK (Kd.slice 29 (Kd.int .u64)) _ _ l0 [.slice A0 l0.length c0] from (Kd.FK_slice_mk (Kd.V_reads' (Kd.V_mono (ok' := (fun k_ => ((P0_ k_ ∨ P1_ k_) ∨ w.heap.size ≤ k_))) (HO0.out) (fun k_ hk => hk))).2.1 (Kd.V_F (Kd.V_mono (ok' := (fun k_ => ((P0_ k_ ∨ P1_ k_) ∨ w.heap.size ≤ k_))) (HO0.out) (fun k_ hk => hk))))) (Reps.one (show Kd.FK (Kd.slice 29 (Kd.int .u64)) _ _ l1 [.slice A1 l1.length c1] from (Kd.FK_slice_mk (Kd.V_reads' (Kd.V_mono (ok' := (fun k_ => ((P0_ k_ ∨ P1_ k_) ∨ w.heap.size ≤ k_))) (HO1.out) (fun k_ hk => hk))).2.1 (Kd.V_F (Kd.V_mono (ok' := (fun k_ => ((P0_ k_ ∨ P1_ k_) ∨ w.heap.size ≤ k_))) (HO1.out) (fun k_ hk => hk))))) (Reps.none _ _)))); intro v590 w6 ho7 hb hg_ hnew_; clear hg_ hnew_; (first | rw [← Ny589.out] at ho7 | (simp only [Int.reduceToNat] at ho7; rw [← Ny589.out] at ho7)); have n0_ := Aside0.mk (Kd.V_elder' (by (with_reducible repeat (first | apply Kd.V_alloc | apply Kd.V_drewN | apply Kd.V_drew)); exact HO0.out) (Kd.N_base ho7) hb); have n1_ := Aside0.mk (Kd.V_elder' (by (with_reducible repeat (first | apply Kd.V_alloc | apply Kd.V_drewN | apply Kd.V_drew)); exact HO1.out) (Kd.N_base ho7) hb); have n2_ := Aside0.mk (Kd.N_lower ho7 (below_size (by repeat (first | (with_reducible first | exact HB.out | apply below_alloc | apply pw_below_drewN | apply below_drew1) | exact HB.out)))); have n3_ := Aside0.mk (below_step (by repeat (first | (with_reducible first | exact HB.out | apply below_alloc | apply pw_below_drewN | apply below_drew1) | exact HB.out)) hb); clear HO0; clear HO1; clear HB; have HO0 := n0_; have HO1 := n1_; have HO591 := n2_; have HB := n3_; clear n0_ n1_ n2_ n3_; clear hb ho7; obtain ⟨Ao8, co8, eo8⟩ := Kd.N_slice HO591.out; subst eo8) | ((with_reducible refine gate_callee (f := 24) rfl ?_); refine goesL_ (some 8) rfl rfl Try.func24 (by kernel_rfl) rfl #[.slice Ao8 y589.length co8] rfl (by (try simp only [List.map_toArray, List.map_cons, List.map_nil]); first | done | rfl | (simp only [List.length_drop, List.length_take]; rfl)) ?_; (with_reducible refine (nat_right.calls _ _ y589 true _ ?side1 ?side2 A3.out).mono ?_); (case side1 => repeat (first | exact (Kd.N_reads' HO591.out).2.2 | (with_reducible refine Kd.C_alloc ?_ _) | (with_reducible refine Kd.C_drewN ?_ _) | (with_reducible refine Kd.C_drew ?_))); (case side2 => exact (Kd.N_reads' HO591.out).2.1); rintro e w' ⟨rfl, ⟨nd, rfl⟩⟩; refine ⟨_, rfl, ?_⟩) | ((with_reducible refine gate_callee (f := 39) rfl ?_); refine goesL_ (some 12) rfl rfl Try.func39 (by kernel_rfl) rfl #[.slice A0 l0.length c0, .slice A1 l1.length c1] rfl (by (try simp only [List.map_toArray, List.map_cons, List.map_nil]); first | done | rfl | (simp only [List.length_drop, List.length_take]; rfl)) ?_; (with_reducible refine (nat_compare.calls k _ _ l0 _ _ l1 t593 _ ?side1 ?side2 ?side3 ?side4 A5.out).mono ?_); (case side1 => repeat (first | exact (Kd.V_reads' HO0.out).2.2 | (with_reducible refine Kd.C_alloc ?_ _) | (with_reducible refine Kd.C_drewN ?_ _) | (with_reducible refine Kd.C_drew ?_))); (case side2 => exact (Kd.V_reads' HO0.out).2.1); (case side3 => repeat (first | exact (Kd.V_reads' HO1.out).2.2 | (with_reducible refine Kd.C_alloc ?_ _) | (with_reducible refine Kd.C_drewN ?_ _) | (with_reducible refine Kd.C_drew ?_))); (case side4 => exact (Kd.V_reads' HO1.out).2.1); rintro e w' ⟨rfl, ⟨nd, rfl⟩⟩; refine ⟨_, rfl, ?_⟩))
    go_ret
    exact ⟨by first | rfl | (simp [errW_none, errW_some] <;> rfl) | (simp [*, errW_none, errW_some] <;> rfl), by repeat (first | (with_reducible first | exact HB.out | apply below_alloc | apply pw_below_drewN | apply below_drew1) | exact HB.out)⟩
  · replace c4 := Bool.eq_false_iff.mpr c4
    subst c4
    have H1 : (some 0) = some r := by rw [if_neg (show ¬ (false = true) by decide)] at H; exact H
    clear H
    have H := H1
    clear H1
    obtain rfl := Option.some.inj H
    go_enter Try.func21, Try.ntmps21
    go_wp2_with (first | ((with_reducible refine gate_dst (N := 7) rfl ?_); refine Kd.N_lit (Kd.slice 29 (Kd.int .u64)) _ 23 ?hg (N' := 7) ?hd (xs := ([l0, l1] : List (List Int))) (inner := [.slice A0 l0.length c0, .slice A1 l1.length c1]) (ok := (fun k_ => ((P0_ k_ ∨ P1_ k_) ∨ w.heap.size ≤ k_))) (okp := (fun k_ => ((P0_ k_ ∨ P1_ k_) ∨ w.heap.size ≤ k_))) ?hr ?hp (fun _ hk => hk) ((show ∀ k_, w.heap.size ≤ k_ → (fun k_ => ((P0_ k_ ∨ P1_ k_) ∨ w.heap.size ≤ k_)) k_ from fun k_ hk => (.inr (Nat.le_trans (below_size (by repeat (first | (with_reducible first | exact HB.out | apply below_alloc | apply pw_below_drewN | apply below_drew1) | exact HB.out))) hk))) _ (Nat.le_refl _)) (Below.refl _ _) (Nat.le_refl _) (by simp) ?_; (case hd => rfl); (case hg => rfl); (case hr => first | (go_simp; done) | (go_simp; rfl) | (go_simp; simp only [u64_u8]; done) | (go_simp; simp only [u64_u8]; rfl)); (case hp => exact (Reps.one (show Kd.FK (Kd.slice 29 (Kd.int .u64)) _ _ l0 [.slice A0 l0.length c0] from (Kd.FK_slice_mk (Kd.V_reads' (Kd.V_mono (ok' := (fun k_ => ((P0_ k_ ∨ P1_ k_) ∨ w.heap.size ≤ k_))) (HO0.out) (fun k_ hk => hk))).2.1 (Kd.V_F (Kd.V_mono (ok' := (fun k_ => ((P0_ k_ ∨ P1_ k_) ∨ w.heap.size ≤ k_))) (HO0.out) (fun k_ hk => hk))))) (Reps.one (show Kd.FK (Kd.slice 29 (Kd.int .u64)) _ _ l1 [.slice A1 l1.length c1] from (Kd.FK_slice_mk (Kd.V_reads' (Kd.V_mono (ok' := (fun k_ => ((P0_ k_ ∨ P1_ k_) ∨ w.heap.size ≤ k_))) (HO1.out) (fun k_ hk => hk))).2.1 (Kd.V_F (Kd.V_mono (ok' := (fun k_ => ((P0_ k_ ∨ P1_ k_) ∨ w.heap.size ≤ k_))) (HO1.out) (fun k_ hk => hk))))) (Reps.none _ _)))); intro v590 w9 ho10 hb hg_ hnew_; clear hg_ hnew_; (first | rw [← Ny589.out] at ho10 | (simp only [Int.reduceToNat] at ho10; rw [← Ny589.out] at ho10)); have n0_ := Aside0.mk (Kd.V_elder' (by (with_reducible repeat (first | apply Kd.V_alloc | apply Kd.V_drewN | apply Kd.V_drew)); exact HO0.out) (Kd.N_base ho10) hb); have n1_ := Aside0.mk (Kd.V_elder' (by (with_reducible repeat (first | apply Kd.V_alloc | apply Kd.V_drewN | apply Kd.V_drew)); exact HO1.out) (Kd.N_base ho10) hb); have n2_ := Aside0.mk (Kd.N_lower ho10 (below_size (by repeat (first | (with_reducible first | exact HB.out | apply below_alloc | apply pw_below_drewN | apply below_drew1) | exact HB.out)))); have n3_ := Aside0.mk (below_step (by repeat (first | (with_reducible first | exact HB.out | apply below_alloc | apply pw_below_drewN | apply below_drew1) | exact HB.out)) hb); clear HO0; clear HO1; clear HB; have HO0 := n0_; have HO1 := n1_; have HO591 := n2_; have HB := n3_; clear n0_ n1_ n2_ n3_; clear hb ho10; obtain ⟨Ao11, co11, eo11⟩ := Kd.N_slice HO591.out; subst eo11) | ((with_reducible refine gate_callee (f := 24) rfl ?_); refine goesL_ (some 8) rfl rfl Try.func24 (by kernel_rfl) rfl #[.slice Ao11 y589.length co11] rfl (by (try simp only [List.map_toArray, List.map_cons, List.map_nil]); first | done | rfl | (simp only [List.length_drop, List.length_take]; rfl)) ?_; (with_reducible refine (nat_right.calls _ _ y589 false _ ?side1 ?side2 A3.out).mono ?_); (case side1 => repeat (first | exact (Kd.N_reads' HO591.out).2.2 | (with_reducible refine Kd.C_alloc ?_ _) | (with_reducible refine Kd.C_drewN ?_ _) | (with_reducible refine Kd.C_drew ?_))); (case side2 => exact (Kd.N_reads' HO591.out).2.1); rintro e w' ⟨rfl, ⟨nd, rfl⟩⟩; refine ⟨_, rfl, ?_⟩))
    go_ret
    exact ⟨by first | rfl | (simp [errW_none, errW_some] <;> rfl) | (simp [*, errW_none, errW_some] <;> rfl), by repeat (first | (with_reducible first | exact HB.out | apply below_alloc | apply pw_below_drewN | apply below_drew1) | exact HB.out)⟩

end Go.Proofs.Yteabkedhdgnhgab.F
end

section
namespace Go.Proofs.Yteabkedhdgnhgab.F
open Go.RowKit Go.Proofs.YteabkedhdgnhgabW.PrintWords Go.Proofs.YteabkedhdgnhgabW.PrintLast Go.Proofs.YteabkedhdgnhgabW.PrintMore
attribute [local go_sem] max2_int min2_int max_two min_two max_three min_three max_four min_four   -- for this text's walks alone
set_option linter.unusedVariables false
set_option linter.unusedSimpArgs false

/-! ### windbreaklaw01_NatBack: function 7 -/
def windbreaklaw01_NatBack.j0 : Nat → List Int → List Int → Bool → Option (Bool)
  | 0, _, _, _ => none
  | k + 1, x0, x1, x33 => if x33 = true then (some true) else ((nat_Div.f k x0 x1).bind fun bt596 => ((nat_Mul.f k bt596.1 x1).bind fun bt603 => ((nat_Add.f k bt603.1 bt596.2.1).bind fun bt607 => ((windbreakref01_Same.f k bt607.1 x0).bind fun t611 => ((nat_Cmp.f k bt596.2.1 x1).bind fun t612 => ((nat_Div.f k (([1] : List Int)) (([1] : List Int))).bind fun bt619 => (if bt596.2.2 = 0 then (if bt603.2 = 0 then (if bt607.2 = 0 then (if t611 = true then (if t612 = (-1) then (some ((bt619.1.length : Int) == 1)) else (some false)) else (some false)) else (some false)) else (some false)) else (some false))))))))
def windbreaklaw01_NatBack.f (k : Nat) (l0 : List Int) (l1 : List Int) : Option (Bool) := (windbreakref01_Right.f l0).bind fun t594 => ((windbreakref01_Right.f l1).bind fun t595 => (if t594 = true then (if t595 = true then (windbreaklaw01_NatBack.j0 k l0 l1 ((l1.length : Int) == 0)) else (windbreaklaw01_NatBack.j0 k l0 l1 true)) else (windbreaklaw01_NatBack.j0 k l0 l1 true)))
theorem windbreaklaw01_NatBack.mono_l : ∀ k, (∀ y0 y1 y2, LeO (windbreaklaw01_NatBack.j0 k y0 y1 y2) (windbreaklaw01_NatBack.j0 (k + 1) y0 y1 y2))
  | 0 => fun _ _ _ r h => by simp [windbreaklaw01_NatBack.j0] at h
  | k + 1 => by
    have ih0 := windbreaklaw01_NatBack.mono_l k
    · intro y0 y1 y2
      unfold windbreaklaw01_NatBack.j0
      repeat' first
      | (with_reducible exact ih0 _ _ _)
      | (with_reducible exact nat_Add.mono _ _ _)
      | (with_reducible exact nat_Cmp.mono _ _ _)
      | (with_reducible exact nat_Div.mono _ _ _)
      | (with_reducible exact nat_Mul.mono _ _ _)
      | (with_reducible exact windbreakref01_Same.mono _ _ _)
      | (with_reducible exact LeO.refl _)
      | (with_reducible exact LeO.none _)
      | (with_reducible refine LeO.ite ?_ ?_)
      | (with_reducible refine LeO.bind ?_ (fun _ => ?_))
      | exact ih0 _ _ _
      | exact nat_Add.mono _ _ _
      | exact nat_Cmp.mono _ _ _
      | exact nat_Div.mono _ _ _
      | exact nat_Mul.mono _ _ _
      | exact windbreakref01_Same.mono _ _ _
      | exact LeO.none _
      | refine LeO.ite ?_ ?_
      | refine LeO.bind ?_ (fun _ => ?_)
theorem windbreaklaw01_NatBack.mono : ∀ a0 a1 k, LeO (windbreaklaw01_NatBack.f k a0 a1) (windbreaklaw01_NatBack.f (k + 1) a0 a1) := by
  intro a0 a1 k
  have ih0 := windbreaklaw01_NatBack.mono_l k
  unfold windbreaklaw01_NatBack.f
  repeat' first
      | (with_reducible exact ih0 _ _ _)
      | (with_reducible exact nat_Add.mono _ _ _)
      | (with_reducible exact nat_Cmp.mono _ _ _)
      | (with_reducible exact nat_Div.mono _ _ _)
      | (with_reducible exact nat_Mul.mono _ _ _)
      | (with_reducible exact windbreakref01_Same.mono _ _ _)
      | (with_reducible exact LeO.refl _)
      | (with_reducible exact LeO.none _)
      | (with_reducible refine LeO.ite ?_ ?_)
      | (with_reducible refine LeO.bind ?_ (fun _ => ?_))
      | exact ih0 _ _ _
      | exact nat_Add.mono _ _ _
      | exact nat_Cmp.mono _ _ _
      | exact nat_Div.mono _ _ _
      | exact nat_Mul.mono _ _ _
      | exact windbreakref01_Same.mono _ _ _
      | exact LeO.none _
      | refine LeO.ite ?_ ?_
      | refine LeO.bind ?_ (fun _ => ?_)
set_option maxHeartbeats 8000000 in
set_option maxRecDepth 100000 in
theorem windbreaklaw01_NatBack.calls (k : Nat) (A0 : Option Addr) (c0 : Nat) (l0 : List Int) (A1 : Option Addr) (c1 : Nat) (l1 : List Int) (r : Bool) (w : World) (hr0 : Kd.C (Kd.int .u64) w A0 l0.length l0) (hc0 : l0.length ≤ c0) (hr1 : Kd.C (Kd.int .u64) w A1 l1.length l1) (hc1 : l1.length ≤ c1) (h : windbreaklaw01_NatBack.f k l0 l1 = some r) :
    Calls Try.prog 7 #[.slice A0 l0.length c0, .slice A1 l1.length c1] w fun e w' => e = .returned (.bool r) ∧ Below w.heap.size w w' := by
  have HR0 := Aside0.mk hr0
  have HC0 := Aside0.mk hc0
  clear hr0 hc0
  have HR1 := Aside0.mk hr1
  have HC1 := Aside0.mk hc1
  clear hr1 hc1
  have HB := Aside0.mk (Below.refl w.heap.size w)
  have H : ((windbreakref01_Right.f l0).bind fun t594 => ((windbreakref01_Right.f l1).bind fun t595 => (if t594 = true then (if t595 = true then (windbreaklaw01_NatBack.j0 k l0 l1 ((l1.length : Int) == 0)) else (windbreaklaw01_NatBack.j0 k l0 l1 true)) else (windbreaklaw01_NatBack.j0 k l0 l1 true)))) = some r := h
  clear h
  replace H := Option.bind_eq_some_iff.mp H
  obtain ⟨t594, A30, H⟩ := H
  replace H : ((windbreakref01_Right.f l1).bind fun t595 => (if t594 = true then (if t595 = true then (windbreaklaw01_NatBack.j0 k l0 l1 ((l1.length : Int) == 0)) else (windbreaklaw01_NatBack.j0 k l0 l1 true)) else (windbreaklaw01_NatBack.j0 k l0 l1 true))) = some r := H
  have A3 := Aside0.mk A30
  clear A30
  replace H := Option.bind_eq_some_iff.mp H
  obtain ⟨t595, A40, H⟩ := H
  replace H : (if t594 = true then (if t595 = true then (windbreaklaw01_NatBack.j0 k l0 l1 ((l1.length : Int) == 0)) else (windbreaklaw01_NatBack.j0 k l0 l1 true)) else (windbreaklaw01_NatBack.j0 k l0 l1 true)) = some r := H
  have A4 := Aside0.mk A40
  clear A40
  have HC5 := Aside0.mk H
  clear H
  go_enter Try.func7, Try.ntmps7
  go_upto_region 3 with (first | ((with_reducible refine gate_callee (f := 14) rfl ?_); refine goesL_ (some 20) rfl rfl Try.func14 (by kernel_rfl) rfl #[.slice A0 l0.length c0] rfl (by (try simp only [List.map_toArray, List.map_cons, List.map_nil]); first | done | rfl | (simp only [List.length_drop, List.length_take]; rfl)) ?_; (with_reducible refine (windbreakref01_Right.calls _ _ l0 t594 _ ?side1 ?side2 A3.out).mono ?_); (case side1 => repeat (first | exact HR0.out | (with_reducible refine Kd.C_alloc ?_ _) | (with_reducible refine Kd.C_drewN ?_ _) | (with_reducible refine Kd.C_drew ?_))); (case side2 => exact HC0.out); rintro e w' ⟨rfl, ⟨nd, rfl⟩⟩; refine ⟨_, rfl, ?_⟩) | ((with_reducible refine gate_callee (f := 14) rfl ?_); refine goesL_ (some 22) rfl rfl Try.func14 (by kernel_rfl) rfl #[.slice A1 l1.length c1] rfl (by (try simp only [List.map_toArray, List.map_cons, List.map_nil]); first | done | rfl | (simp only [List.length_drop, List.length_take]; rfl)) ?_; (with_reducible refine (windbreakref01_Right.calls _ _ l1 t595 _ ?side1 ?side2 A4.out).mono ?_); (case side1 => repeat (first | exact HR1.out | (with_reducible refine Kd.C_alloc ?_ _) | (with_reducible refine Kd.C_drewN ?_ _) | (with_reducible refine Kd.C_drew ?_))); (case side2 => exact HC1.out); rintro e w' ⟨rfl, ⟨nd, rfl⟩⟩; refine ⟨_, rfl, ?_⟩))
  (try simp only [Act.put, List.setIfInBounds_toArray, List.set_cons_zero, List.set_cons_succ])
  go_cut [33] (fun v33 wc => ∃ (kq : Nat) (x33_4 : Bool), v33 = .bool x33_4 ∧ Aside0 (windbreaklaw01_NatBack.j0 kq l0 l1 x33_4 = some r) ∧ Aside0 (kq ≤ k) ∧ Aside0 (Below w.heap.size w wc))
  case first =>
    have H := HC5.out
    clear HC5
    by_cases c6 : t594 = true
    · subst c6
      have H1 : (if t595 = true then (windbreaklaw01_NatBack.j0 k l0 l1 ((l1.length : Int) == 0)) else (windbreaklaw01_NatBack.j0 k l0 l1 true)) = some r := by rw [if_pos rfl] at H; exact H
      clear H
      have H := H1
      clear H1
      by_cases c7 : t595 = true
      · subst c7
        have H1 : (windbreaklaw01_NatBack.j0 k l0 l1 ((l1.length : Int) == 0)) = some r := by rw [if_pos rfl] at H; exact H
        clear H
        have H := H1
        clear H1
        have H' := Aside0.mk H
        clear H
        go_wp2
        go_meet
        case rel => exact ⟨_, (((l1.length : Int) == 0)), (by first | rfl | (simp; done) | (simp [*]; done)), H', ⟨by first | omega | exact Nat.le_refl _⟩, ⟨by repeat (first | (with_reducible first | exact HB.out | apply below_alloc | apply pw_below_drewN | apply below_drew1) | exact HB.out)⟩⟩
      · replace c7 := Bool.eq_false_iff.mpr c7
        subst c7
        have H1 : (windbreaklaw01_NatBack.j0 k l0 l1 true) = some r := by rw [if_neg (show ¬ (false = true) by decide)] at H; exact H
        clear H
        have H := H1
        clear H1
        have H' := Aside0.mk H
        clear H
        go_wp2
        go_meet
        case rel => exact ⟨_, (true), (by first | rfl | (simp; done) | (simp [*]; done)), H', ⟨by first | omega | exact Nat.le_refl _⟩, ⟨by repeat (first | (with_reducible first | exact HB.out | apply below_alloc | apply pw_below_drewN | apply below_drew1) | exact HB.out)⟩⟩
    · replace c6 := Bool.eq_false_iff.mpr c6
      subst c6
      have H1 : (windbreaklaw01_NatBack.j0 k l0 l1 true) = some r := by rw [if_neg (show ¬ (false = true) by decide)] at H; exact H
      clear H
      have H := H1
      clear H1
      have H' := Aside0.mk H
      clear H
      go_wp2
      go_meet
      case rel => exact ⟨_, (true), (by first | rfl | (simp; done) | (simp [*]; done)), H', ⟨by first | omega | exact Nat.le_refl _⟩, ⟨by repeat (first | (with_reducible first | exact HB.out | apply below_alloc | apply pw_below_drewN | apply below_drew1) | exact HB.out)⟩⟩
  case rest =>
    clear HC5
    try clear c1
    try clear p2
    try clear c6
    try clear c7
    obtain ⟨kq, x33_4, rfl, HA, HJ4, HB⟩ := hcut
    cases kq with
    | zero => exact absurd HA.out (by simp [windbreaklaw01_NatBack.j0])
    | succ kj4 =>
      have H := HA.out
      clear HA
      simp only [windbreaklaw01_NatBack.j0] at H
      by_cases c8 : x33_4 = true
      · subst c8
        have H1 : (some true) = some r := by rw [if_pos rfl] at H; exact H
        clear H
        have H := H1
        clear H1
        obtain rfl := Option.some.inj H
        go_wp2
        go_ret
        exact ⟨by first | rfl | (simp [errW_none, errW_some] <;> rfl) | (simp [*, errW_none, errW_some] <;> rfl), by repeat (first | (with_reducible first | exact HB.out | apply below_alloc | apply pw_below_drewN | apply below_drew1) | exact HB.out)⟩
      · replace c8 := Bool.eq_false_iff.mpr c8
        subst c8
        have H1 : ((nat_Div.f kj4 l0 l1).bind fun bt596 => ((nat_Mul.f kj4 bt596.1 l1).bind fun bt603 => ((nat_Add.f kj4 bt603.1 bt596.2.1).bind fun bt607 => ((windbreakref01_Same.f kj4 bt607.1 l0).bind fun t611 => ((nat_Cmp.f kj4 bt596.2.1 l1).bind fun t612 => ((nat_Div.f kj4 (([1] : List Int)) (([1] : List Int))).bind fun bt619 => (if bt596.2.2 = 0 then (if bt603.2 = 0 then (if bt607.2 = 0 then (if t611 = true then (if t612 = (-1) then (some ((bt619.1.length : Int) == 1)) else (some false)) else (some false)) else (some false)) else (some false)) else (some false)))))))) = some r := by rw [if_neg (show ¬ (false = true) by decide)] at H; exact H
        clear H
        have H := H1
        clear H1
        replace H := Option.bind_eq_some_iff.mp H
        obtain ⟨⟨t596, t599, t602⟩, A90, H⟩ := H
        replace H : ((nat_Mul.f kj4 t596 l1).bind fun bt603 => ((nat_Add.f kj4 bt603.1 t599).bind fun bt607 => ((windbreakref01_Same.f kj4 bt607.1 l0).bind fun t611 => ((nat_Cmp.f kj4 t599 l1).bind fun t612 => ((nat_Div.f kj4 (([1] : List Int)) (([1] : List Int))).bind fun bt619 => (if t602 = 0 then (if bt603.2 = 0 then (if bt607.2 = 0 then (if t611 = true then (if t612 = (-1) then (some ((bt619.1.length : Int) == 1)) else (some false)) else (some false)) else (some false)) else (some false)) else (some false))))))) = some r := H
        have A9 := Aside0.mk A90
        clear A90
        replace H := Option.bind_eq_some_iff.mp H
        obtain ⟨⟨t603, t606⟩, A100, H⟩ := H
        replace H : ((nat_Add.f kj4 t603 t599).bind fun bt607 => ((windbreakref01_Same.f kj4 bt607.1 l0).bind fun t611 => ((nat_Cmp.f kj4 t599 l1).bind fun t612 => ((nat_Div.f kj4 (([1] : List Int)) (([1] : List Int))).bind fun bt619 => (if t602 = 0 then (if t606 = 0 then (if bt607.2 = 0 then (if t611 = true then (if t612 = (-1) then (some ((bt619.1.length : Int) == 1)) else (some false)) else (some false)) else (some false)) else (some false)) else (some false)))))) = some r := H
        have A10 := Aside0.mk A100
        clear A100
        replace H := Option.bind_eq_some_iff.mp H
        obtain ⟨⟨t607, t610⟩, A110, H⟩ := H
        replace H : ((windbreakref01_Same.f kj4 t607 l0).bind fun t611 => ((nat_Cmp.f kj4 t599 l1).bind fun t612 => ((nat_Div.f kj4 (([1] : List Int)) (([1] : List Int))).bind fun bt619 => (if t602 = 0 then (if t606 = 0 then (if t610 = 0 then (if t611 = true then (if t612 = (-1) then (some ((bt619.1.length : Int) == 1)) else (some false)) else (some false)) else (some false)) else (some false)) else (some false))))) = some r := H
        have A11 := Aside0.mk A110
        clear A110
        replace H := Option.bind_eq_some_iff.mp H
        obtain ⟨t611, A120, H⟩ := H
        replace H : ((nat_Cmp.f kj4 t599 l1).bind fun t612 => ((nat_Div.f kj4 (([1] : List Int)) (([1] : List Int))).bind fun bt619 => (if t602 = 0 then (if t606 = 0 then (if t610 = 0 then (if t611 = true then (if t612 = (-1) then (some ((bt619.1.length : Int) == 1)) else (some false)) else (some false)) else (some false)) else (some false)) else (some false)))) = some r := H
        have A12 := Aside0.mk A120
        clear A120
        replace H := Option.bind_eq_some_iff.mp H
        obtain ⟨t612, A130, H⟩ := H
        replace H : ((nat_Div.f kj4 (([1] : List Int)) (([1] : List Int))).bind fun bt619 => (if t602 = 0 then (if t606 = 0 then (if t610 = 0 then (if t611 = true then (if t612 = (-1) then (some ((bt619.1.length : Int) == 1)) else (some false)) else (some false)) else (some false)) else (some false)) else (some false))) = some r := H
        have A13 := Aside0.mk A130
        clear A130
        obtain ⟨y613, hy613⟩ : ∃ y_ : List Int, y_ = (([1] : List Int)) := ⟨_, rfl⟩
        replace H : ((nat_Div.f kj4 y613 (([1] : List Int))).bind fun bt619 => (if t602 = 0 then (if t606 = 0 then (if t610 = 0 then (if t611 = true then (if t612 = (-1) then (some ((bt619.1.length : Int) == 1)) else (some false)) else (some false)) else (some false)) else (some false)) else (some false))) = some r := by first | (rw [hy613]; with_reducible exact H) | (have H2_ := (Option.bind_some _ _).symm.trans H; rw [hy613]; with_reducible exact H2_) | (have H2_ := (Option.bind_some _ _).symm.trans H; with_reducible exact H2_) | with_reducible exact H | (rw [hy613]; exact H) | exact H
        have Ny613 := Aside0.mk hy613
        clear hy613
        obtain ⟨y616, hy616⟩ : ∃ y_ : List Int, y_ = (([1] : List Int)) := ⟨_, rfl⟩
        replace H : ((nat_Div.f kj4 y613 y616).bind fun bt619 => (if t602 = 0 then (if t606 = 0 then (if t610 = 0 then (if t611 = true then (if t612 = (-1) then (some ((bt619.1.length : Int) == 1)) else (some false)) else (some false)) else (some false)) else (some false)) else (some false))) = some r := by first | (rw [hy616]; with_reducible exact H) | (have H2_ := (Option.bind_some _ _).symm.trans H; rw [hy616]; with_reducible exact H2_) | (have H2_ := (Option.bind_some _ _).symm.trans H; with_reducible exact H2_) | with_reducible exact H | (rw [hy616]; exact H) | exact H
        have Ny616 := Aside0.mk hy616
        clear hy616
        replace H := Option.bind_eq_some_iff.mp H
        obtain ⟨⟨t619, t622, t625⟩, A140, H⟩ := H
        replace H : (if t602 = 0 then (if t606 = 0 then (if t610 = 0 then (if t611 = true then (if t612 = (-1) then (some ((t619.length : Int) == 1)) else (some false)) else (some false)) else (some false)) else (some false)) else (some false)) = some r := H
        have A14 := Aside0.mk A140
        clear A140
        by_cases c15 : t602 = 0
        · rw [if_pos c15] at H
          have c15b0 : (t602 == 0) = true := beq_iff_eq.mpr c15
          have c15b1 : (t602 != 0) = false := bne_eq_false_iff_eq.mpr c15
          clear c15
          by_cases c16 : t606 = 0
          · rw [if_pos c16] at H
            have c16b0 : (t606 == 0) = true := beq_iff_eq.mpr c16
            have c16b1 : (t606 != 0) = false := bne_eq_false_iff_eq.mpr c16
            clear c16
            by_cases c17 : t610 = 0
            · rw [if_pos c17] at H
              have c17b0 : (t610 == 0) = true := beq_iff_eq.mpr c17
              have c17b1 : (t610 != 0) = false := bne_eq_false_iff_eq.mpr c17
              clear c17
              by_cases c18 : t611 = true
              · subst c18
                have H1 : (if t612 = (-1) then (some ((t619.length : Int) == 1)) else (some false)) = some r := by rw [if_pos rfl] at H; exact H
                clear H
                have H := H1
                clear H1
                by_cases c19 : t612 = (-1)
                · rw [if_pos c19] at H
                  have c19b0 : (t612 == (-1)) = true := beq_iff_eq.mpr c19
                  have c19b1 : (t612 != (-1)) = false := bne_eq_false_iff_eq.mpr c19
                  clear c19
                  obtain rfl := Option.some.inj H
                  go_wp2_with (first | ((with_reducible refine gate_callee (f := 19) rfl ?_); refine goesL_ (some 37) rfl rfl Try.func19 (by kernel_rfl) rfl #[.slice A0 l0.length c0, .slice A1 l1.length c1] rfl (by (try simp only [List.map_toArray, List.map_cons, List.map_nil]); first | done | rfl | (simp only [List.length_drop, List.length_take]; rfl)) ?_; (with_reducible refine (nat_Div.calls kj4 (fun k_ => k_ < w.heap.size) _ _ l0 (fun k_ => k_ < w.heap.size) _ _ l1 t596 t599 t602 _ ?side1 ?side2 A9.out).mono ?_); (case side1 => exact Kd.V_mk HC0.out (Kd.F_below (Kd.C_F (Kd.heap_int .u64) HR0.out) (by repeat (first | (with_reducible first | exact HB.out | apply below_alloc | apply pw_below_drewN | apply below_drew1) | exact HB.out)))); (case side2 => exact Kd.V_mk HC1.out (Kd.F_below (Kd.C_F (Kd.heap_int .u64) HR1.out) (by repeat (first | (with_reducible first | exact HB.out | apply below_alloc | apply pw_below_drewN | apply below_drew1) | exact HB.out)))); rintro e w20 ⟨v597, v600, rfl, ho0, ho1, hb⟩; refine ⟨_, rfl, ?_⟩; have n0_ := Aside0.mk (Kd.R_lower (Kd.R_mono (ok' := fun k_ => some k_ ≠ (v600 : Value).ownBlock) ho0 (fun _ hk_ => hk_.2)) (below_size (by repeat (first | (with_reducible first | exact HB.out | apply below_alloc | apply pw_below_drewN | apply below_drew1) | exact HB.out)))); have n1_ := Aside0.mk (Kd.R_lower (Kd.R_mono (ok' := fun k_ => some k_ ≠ (v597 : Value).ownBlock) ho1 (fun _ hk_ => hk_.2)) (below_size (by repeat (first | (with_reducible first | exact HB.out | apply below_alloc | apply pw_below_drewN | apply below_drew1) | exact HB.out)))); have n2_ := Aside0.mk (below_step (by repeat (first | (with_reducible first | exact HB.out | apply below_alloc | apply pw_below_drewN | apply below_drew1) | exact HB.out)) hb); clear HB; have HO598 := n0_; have HO601 := n1_; have HB := n2_; clear n0_ n1_ n2_; (try clear hb); (try clear hb2); (try clear hk); (try clear hi); (try clear ho0); (try clear ho1); obtain ⟨Ao21, co21, eo21⟩ := Kd.R_slice HO598.out; subst eo21) | ((with_reducible refine gate_callee (f := 10) rfl ?_); refine goesL_ (some 44) rfl rfl Try.func10 (by kernel_rfl) rfl #[.slice Ao21 t596.length co21, .slice A1 l1.length c1] rfl (by (try simp only [List.map_toArray, List.map_cons, List.map_nil]); first | done | rfl | (simp only [List.length_drop, List.length_take]; rfl)) ?_; (with_reducible refine (nat_Mul.calls kj4 (fun k_ => some k_ = (.slice Ao21 t596.length co21 : Value).ownBlock) _ _ t596 (fun k_ => k_ < w.heap.size) _ _ l1 t603 t606 _ ?side1 ?side2 A10.out).mono ?_); (case side1 => exact Kd.R_V (Kd.R_tight rfl (HO598.out))); (case side2 => exact Kd.V_mk HC1.out (Kd.F_below (Kd.C_F (Kd.heap_int .u64) HR1.out) (by repeat (first | (with_reducible first | exact HB.out | apply below_alloc | apply pw_below_drewN | apply below_drew1) | exact HB.out)))); rintro e w22 ⟨v604, rfl, ho0, hb⟩; refine ⟨_, rfl, ?_⟩; have n0_ := Aside0.mk (Kd.R_elder' (by (with_reducible repeat (first | apply Kd.R_alloc | apply Kd.R_drewN | apply Kd.R_drew)); exact HO598.out) (Kd.R_base ho0) hb); have n1_ := Aside0.mk (Kd.R_elder' (by (with_reducible repeat (first | apply Kd.R_alloc | apply Kd.R_drewN | apply Kd.R_drew)); exact HO601.out) (Kd.R_base ho0) hb); have n2_ := Aside0.mk (Kd.R_lower (Kd.R_new' (Kd.R_new' (Kd.R_mono (ok' := fun k_ => True) ho0 (fun _ hk_ => trivial)) (Kd.R_lt (by (with_reducible repeat (first | apply Kd.R_alloc | apply Kd.R_drewN | apply Kd.R_drew)); exact HO598.out))) (Kd.R_lt (by (with_reducible repeat (first | apply Kd.R_alloc | apply Kd.R_drewN | apply Kd.R_drew)); exact HO601.out))) (below_size (by repeat (first | (with_reducible first | exact HB.out | apply below_alloc | apply pw_below_drewN | apply below_drew1) | exact HB.out)))); have n3_ := Aside0.mk (below_step (by repeat (first | (with_reducible first | exact HB.out | apply below_alloc | apply pw_below_drewN | apply below_drew1) | exact HB.out)) hb); clear HO598; clear HO601; clear HB; have HO598 := n0_; have HO601 := n1_; have HO605 := n2_; have HB := n3_; clear n0_ n1_ n2_ n3_; (try clear hb); (try clear hb2); (try clear hk); (try clear hi); (try clear ho0); obtain ⟨Ao23, co23, eo23⟩ := Kd.R_slice HO605.out; subst eo23; obtain ⟨Ao24, co24, eo24⟩ := Kd.R_slice HO601.out; subst eo24) | ((with_reducible refine gate_callee (f := 13) rfl ?_); refine goesL_ (some 50) rfl rfl Try.func13 (by kernel_rfl) rfl #[.slice Ao23 t603.length co23, .slice Ao24 t599.length co24] rfl (by (try simp only [List.map_toArray, List.map_cons, List.map_nil]); first | done | rfl | (simp only [List.length_drop, List.length_take]; rfl)) ?_; (with_reducible refine (nat_Add.calls kj4 (fun k_ => some k_ = (.slice Ao23 t603.length co23 : Value).ownBlock) _ _ t603 (fun k_ => some k_ = (.slice Ao24 t599.length co24 : Value).ownBlock) _ _ t599 t607 t610 _ ?side1 ?side2 A11.out).mono ?_); (case side1 => exact Kd.R_V (Kd.R_tight rfl (HO605.out))); (case side2 => exact Kd.R_V (Kd.R_tight rfl (HO601.out))); rintro e w25 ⟨v608, rfl, ho0, hb⟩; refine ⟨_, rfl, ?_⟩; have n0_ := Aside0.mk (Kd.R_elder' (by (with_reducible repeat (first | apply Kd.R_alloc | apply Kd.R_drewN | apply Kd.R_drew)); exact HO598.out) (Kd.R_base ho0) hb); have n1_ := Aside0.mk (Kd.R_elder' (by (with_reducible repeat (first | apply Kd.R_alloc | apply Kd.R_drewN | apply Kd.R_drew)); exact HO601.out) (Kd.R_base ho0) hb); have n2_ := Aside0.mk (Kd.R_elder' (by (with_reducible repeat (first | apply Kd.R_alloc | apply Kd.R_drewN | apply Kd.R_drew)); exact HO605.out) (Kd.R_base ho0) hb); have n3_ := Aside0.mk (Kd.R_lower (Kd.R_new' (Kd.R_new' (Kd.R_new' (Kd.R_mono (ok' := fun k_ => True) ho0 (fun _ hk_ => trivial)) (Kd.R_lt (by (with_reducible repeat (first | apply Kd.R_alloc | apply Kd.R_drewN | apply Kd.R_drew)); exact HO598.out))) (Kd.R_lt (by (with_reducible repeat (first | apply Kd.R_alloc | apply Kd.R_drewN | apply Kd.R_drew)); exact HO601.out))) (Kd.R_lt (by (with_reducible repeat (first | apply Kd.R_alloc | apply Kd.R_drewN | apply Kd.R_drew)); exact HO605.out))) (below_size (by repeat (first | (with_reducible first | exact HB.out | apply below_alloc | apply pw_below_drewN | apply below_drew1) | exact HB.out)))); have n4_ := Aside0.mk (below_step (by repeat (first | (with_reducible first | exact HB.out | apply below_alloc | apply pw_below_drewN | apply below_drew1) | exact HB.out)) hb); clear HO598; clear HO601; clear HO605; clear HB; have HO598 := n0_; have HO601 := n1_; have HO605 := n2_; have HO609 := n3_; have HB := n4_; clear n0_ n1_ n2_ n3_ n4_; (try clear hb); (try clear hb2); (try clear hk); (try clear hi); (try clear ho0); obtain ⟨Ao26, co26, eo26⟩ := Kd.R_slice HO609.out; subst eo26) | ((with_reducible refine gate_callee (f := 12) rfl ?_); refine goesL_ (some 55) rfl rfl Try.func12 (by kernel_rfl) rfl #[.slice Ao26 t607.length co26, .slice A0 l0.length c0] rfl (by (try simp only [List.map_toArray, List.map_cons, List.map_nil]); first | done | rfl | (simp only [List.length_drop, List.length_take]; rfl)) ?_; (with_reducible refine (windbreakref01_Same.calls kj4 _ _ t607 _ _ l0 true _ ?side1 ?side2 ?side3 ?side4 A12.out).mono ?_); (case side1 => repeat (first | exact (Kd.R_reads' HO609.out).2.2 | (with_reducible refine Kd.C_alloc ?_ _) | (with_reducible refine Kd.C_drewN ?_ _) | (with_reducible refine Kd.C_drew ?_))); (case side2 => exact (Kd.R_reads' HO609.out).2.1); (case side3 => repeat (first | exact (Kd.C_below HR0.out HB.out) | (with_reducible refine Kd.C_alloc ?_ _) | (with_reducible refine Kd.C_drewN ?_ _) | (with_reducible refine Kd.C_drew ?_))); (case side4 => exact HC0.out); rintro e w' ⟨rfl, ⟨nd, rfl⟩⟩; refine ⟨_, rfl, ?_⟩) | ((with_reducible refine gate_callee (f := 21) rfl ?_); refine goesL_ (some 58) rfl rfl Try.func21 (by kernel_rfl) rfl #[.slice Ao24 t599.length co24, .slice A1 l1.length c1] rfl (by (try simp only [List.map_toArray, List.map_cons, List.map_nil]); first | done | rfl | (simp only [List.length_drop, List.length_take]; rfl)) ?_; (with_reducible refine (nat_Cmp.calls kj4 (fun k_ => some k_ = (.slice Ao24 t599.length co24 : Value).ownBlock) _ _ t599 (fun k_ => k_ < w.heap.size) _ _ l1 t612 _ ?side1 ?side2 A13.out).mono ?_); (case side1 => exact Kd.R_V (Kd.R_tight rfl (HO601.out))); (case side2 => exact Kd.V_mk HC1.out (Kd.F_below (Kd.C_F (Kd.heap_int .u64) HR1.out) (by repeat (first | (with_reducible first | exact HB.out | apply below_alloc | apply pw_below_drewN | apply below_drew1) | exact HB.out)))); rintro e w27 ⟨rfl, hb⟩; refine ⟨_, rfl, ?_⟩; have n0_ := Aside0.mk (Kd.R_below (by (with_reducible repeat (first | apply Kd.R_alloc | apply Kd.R_drewN | apply Kd.R_drew)); exact HO598.out) hb); have n1_ := Aside0.mk (Kd.R_below (by (with_reducible repeat (first | apply Kd.R_alloc | apply Kd.R_drewN | apply Kd.R_drew)); exact HO601.out) hb); have n2_ := Aside0.mk (Kd.R_below (by (with_reducible repeat (first | apply Kd.R_alloc | apply Kd.R_drewN | apply Kd.R_drew)); exact HO605.out) hb); have n3_ := Aside0.mk (Kd.R_below (by (with_reducible repeat (first | apply Kd.R_alloc | apply Kd.R_drewN | apply Kd.R_drew)); exact HO609.out) hb); have n4_ := Aside0.mk (below_step (by repeat (first | (with_reducible first | exact HB.out | apply below_alloc | apply pw_below_drewN | apply below_drew1) | exact HB.out)) hb); clear HO598; clear HO601; clear HO605; clear HO609; clear HB; have HO598 := n0_; have HO601 := n1_; have HO605 := n2_; have HO609 := n3_; have HB := n4_; clear n0_ n1_ n2_ n3_ n4_; (try clear hb); (try clear hb2); (try clear hk); (try clear hi)) | ((with_reducible refine gate_dst (N := 61) rfl ?_); (try (refine gate_guard (by rfl) ?_; dsimp only)); refine Kd.R_lit (Kd.int .u64) _ 29 ?hg (N := 61) ?hd (xs := ([1] : List Int)) (inner := [.int .u64 1]) (ok := fun _ => True) (okp := fun _ => True) ?hr ?hp (fun _ hk => hk) trivial (Below.refl _ _) (Nat.le_refl _) (by simp) ?_; (case hd => rfl); (case hg => rfl); (case hr => first | (go_simp; done) | (go_simp; rfl) | (go_simp; simp only [u64_u8]; done) | (go_simp; simp only [u64_u8]; rfl)); (case hp => exact (Reps.one (show Kd.M (Kd.int .u64) _ _ _ 1 [.int .u64 1] from rfl) (Reps.none _ _))); intro v614 w28 ho29 hb hg_ hnew_; clear hg_ hnew_; (first | rw [← Ny613.out] at ho29 | (simp only [Int.reduceToNat] at ho29; rw [← Ny613.out] at ho29)); have n0_ := Aside0.mk (Kd.R_elder' (by (with_reducible repeat (first | apply Kd.R_alloc | apply Kd.R_drewN | apply Kd.R_drew)); exact HO598.out) (Kd.R_base ho29) hb); have n1_ := Aside0.mk (Kd.R_elder' (by (with_reducible repeat (first | apply Kd.R_alloc | apply Kd.R_drewN | apply Kd.R_drew)); exact HO601.out) (Kd.R_base ho29) hb); have n2_ := Aside0.mk (Kd.R_elder' (by (with_reducible repeat (first | apply Kd.R_alloc | apply Kd.R_drewN | apply Kd.R_drew)); exact HO605.out) (Kd.R_base ho29) hb); have n3_ := Aside0.mk (Kd.R_elder' (by (with_reducible repeat (first | apply Kd.R_alloc | apply Kd.R_drewN | apply Kd.R_drew)); exact HO609.out) (Kd.R_base ho29) hb); have n4_ := Aside0.mk (Kd.R_lower (Kd.R_new' (Kd.R_new' (Kd.R_new' (Kd.R_new' ho29 (Kd.R_lt (by (with_reducible repeat (first | apply Kd.R_alloc | apply Kd.R_drewN | apply Kd.R_drew)); exact HO598.out))) (Kd.R_lt (by (with_reducible repeat (first | apply Kd.R_alloc | apply Kd.R_drewN | apply Kd.R_drew)); exact HO601.out))) (Kd.R_lt (by (with_reducible repeat (first | apply Kd.R_alloc | apply Kd.R_drewN | apply Kd.R_drew)); exact HO605.out))) (Kd.R_lt (by (with_reducible repeat (first | apply Kd.R_alloc | apply Kd.R_drewN | apply Kd.R_drew)); exact HO609.out))) (below_size (by repeat (first | (with_reducible first | exact HB.out | apply below_alloc | apply pw_below_drewN | apply below_drew1) | exact HB.out)))); have n5_ := Aside0.mk (below_step (by repeat (first | (with_reducible first | exact HB.out | apply below_alloc | apply pw_below_drewN | apply below_drew1) | exact HB.out)) hb); clear HO598; clear HO601; clear HO605; clear HO609; clear HB; have HO598 := n0_; have HO601 := n1_; have HO605 := n2_; have HO609 := n3_; have HO615 := n4_; have HB := n5_; clear n0_ n1_ n2_ n3_ n4_ n5_; clear hb ho29) | ((with_reducible refine gate_dst (N := 62) rfl ?_); (try (refine gate_guard (by rfl) ?_; dsimp only)); refine Kd.R_lit (Kd.int .u64) _ 29 ?hg (N := 62) ?hd (xs := ([1] : List Int)) (inner := [.int .u64 1]) (ok := fun _ => True) (okp := fun _ => True) ?hr ?hp (fun _ hk => hk) trivial (Below.refl _ _) (Nat.le_refl _) (by simp) ?_; (case hd => rfl); (case hg => rfl); (case hr => first | (go_simp; done) | (go_simp; rfl) | (go_simp; simp only [u64_u8]; done) | (go_simp; simp only [u64_u8]; rfl)); (case hp => exact (Reps.one (show Kd.M (Kd.int .u64) _ _ _ 1 [.int .u64 1] from rfl) (Reps.none _ _))); intro v617 w30 ho31 hb hg_ hnew_; clear hg_ hnew_; (first | rw [← Ny616.out] at ho31 | (simp only [Int.reduceToNat] at ho31; rw [← Ny616.out] at ho31)); have n0_ := Aside0.mk (Kd.R_elder' (by (with_reducible repeat (first | apply Kd.R_alloc | apply Kd.R_drewN | apply Kd.R_drew)); exact HO598.out) (Kd.R_base ho31) hb); have n1_ := Aside0.mk (Kd.R_elder' (by (with_reducible repeat (first | apply Kd.R_alloc | apply Kd.R_drewN | apply Kd.R_drew)); exact HO601.out) (Kd.R_base ho31) hb); have n2_ := Aside0.mk (Kd.R_elder' (by (with_reducible repeat (first | apply Kd.R_alloc | apply Kd.R_drewN | apply Kd.R_drew)); exact HO605.out) (Kd.R_base ho31) hb); have n3_ := Aside0.mk (Kd.R_elder' (by (with_reducible repeat (first | apply Kd.R_alloc | apply Kd.R_drewN | apply Kd.R_drew)); exact HO609.out) (Kd.R_base ho31) hb); have n4_ := Aside0.mk (Kd.R_elder' (by (with_reducible repeat (first | apply Kd.R_alloc | apply Kd.R_drewN | apply Kd.R_drew)); exact HO615.out) (Kd.R_base ho31) hb); have n5_ := Aside0.mk (Kd.R_lower (Kd.R_new' (Kd.R_new' (Kd.R_new' (Kd.R_new' (Kd.R_new' ho31 (Kd.R_lt (by (with_reducible repeat (first | apply Kd.R_alloc | apply Kd.R_drewN | apply Kd.R_drew)); exact HO598.out))) (Kd.R_lt (by (with_reducible repeat (first | apply Kd.R_alloc | apply Kd.R_drewN | apply Kd.R_drew)); exact HO601.out))) (Kd.R_lt (by (with_reducible repeat (first | apply Kd.R_alloc | apply Kd.R_drewN | apply Kd.R_drew)); exact HO605.out))) (Kd.R_lt (by (with_reducible repeat (first | apply Kd.R_alloc | apply Kd.R_drewN | apply Kd.R_drew)); exact HO609.out))) (Kd.R_lt (by (with_reducible repeat (first | apply Kd.R_alloc | apply Kd.R_drewN | apply Kd.R_drew)); exact HO615.out))) (below_size (by repeat (first | (with_reducible first | exact HB.out | apply below_alloc | apply pw_below_drewN | apply below_drew1) | exact HB.out)))); have n6_ := Aside0.mk (below_step (by repeat (first | (with_reducible first | exact HB.out | apply below_alloc | apply pw_below_drewN | apply below_drew1) | exact HB.out)) hb); clear HO598; clear HO601; clear HO605; clear HO609; clear HO615; clear HB; have HO598 := n0_; have HO601 := n1_; have HO605 := n2_; have HO609 := n3_; have HO615 := n4_; have HO618 := n5_; have HB := n6_; clear n0_ n1_ n2_ n3_ n4_ n5_ n6_; clear hb ho31; obtain ⟨Ao32, co32, eo32⟩ := Kd.R_slice HO615.out; subst eo32; obtain ⟨Ao33, co33, eo33⟩ := Kd.R_slice HO618.out; subst eo33) | ((with_reducible refine gate_callee (f := 19) rfl ?_); refine goesL_ (some 63) rfl rfl Try.func19 (by kernel_rfl) rfl #[.slice Ao32 y613.length co32, .slice Ao33 y616.length co33] rfl (by (try simp only [List.map_toArray, List.map_cons, List.map_nil]); first | done | rfl | (simp only [List.length_drop, List.length_take]; rfl)) ?_; (with_reducible refine (nat_Div.calls kj4 (fun k_ => some k_ = (.slice Ao32 y613.length co32 : Value).ownBlock) _ _ y613 (fun k_ => some k_ = (.slice Ao33 y616.length co33 : Value).ownBlock) _ _ y616 t619 t622 t625 _ ?side1 ?side2 A14.out).mono ?_); (case side1 => exact Kd.R_V (Kd.R_tight rfl (HO615.out))); (case side2 => exact Kd.R_V (Kd.R_tight rfl (HO618.out))); rintro e w34 ⟨v620, v623, rfl, ho0, ho1, hb⟩; refine ⟨_, rfl, ?_⟩; have n0_ := Aside0.mk (Kd.R_mono (Kd.R_told (Kd.R_told (Kd.R_old (by (with_reducible repeat (first | apply Kd.R_alloc | apply Kd.R_drewN | apply Kd.R_drew)); exact HO598.out) hb) (Kd.R_base ho0)) (Kd.R_base ho1)) (fun _ h_ => h_.1)); have n1_ := Aside0.mk (Kd.R_mono (Kd.R_told (Kd.R_told (Kd.R_old (by (with_reducible repeat (first | apply Kd.R_alloc | apply Kd.R_drewN | apply Kd.R_drew)); exact HO601.out) hb) (Kd.R_base ho0)) (Kd.R_base ho1)) (fun _ h_ => h_.1)); have n2_ := Aside0.mk (Kd.R_mono (Kd.R_told (Kd.R_told (Kd.R_old (by (with_reducible repeat (first | apply Kd.R_alloc | apply Kd.R_drewN | apply Kd.R_drew)); exact HO605.out) hb) (Kd.R_base ho0)) (Kd.R_base ho1)) (fun _ h_ => h_.1)); have n3_ := Aside0.mk (Kd.R_mono (Kd.R_told (Kd.R_told (Kd.R_old (by (with_reducible repeat (first | apply Kd.R_alloc | apply Kd.R_drewN | apply Kd.R_drew)); exact HO609.out) hb) (Kd.R_base ho0)) (Kd.R_base ho1)) (fun _ h_ => h_.1)); have n4_ := Aside0.mk (Kd.R_mono (Kd.R_told (Kd.R_told (Kd.R_old (by (with_reducible repeat (first | apply Kd.R_alloc | apply Kd.R_drewN | apply Kd.R_drew)); exact HO615.out) hb) (Kd.R_base ho0)) (Kd.R_base ho1)) (fun _ h_ => h_.1)); have n5_ := Aside0.mk (Kd.R_mono (Kd.R_told (Kd.R_told (Kd.R_old (by (with_reducible repeat (first | apply Kd.R_alloc | apply Kd.R_drewN | apply Kd.R_drew)); exact HO618.out) hb) (Kd.R_base ho0)) (Kd.R_base ho1)) (fun _ h_ => h_.1)); have n6_ := Aside0.mk (Kd.R_lower (Kd.R_new' (Kd.R_new' (Kd.R_new' (Kd.R_new' (Kd.R_new' (Kd.R_new' (Kd.R_mono (ok' := fun k_ => some k_ ≠ (v623 : Value).ownBlock) ho0 (fun _ hk_ => hk_.2)) (Kd.R_lt (by (with_reducible repeat (first | apply Kd.R_alloc | apply Kd.R_drewN | apply Kd.R_drew)); exact HO598.out))) (Kd.R_lt (by (with_reducible repeat (first | apply Kd.R_alloc | apply Kd.R_drewN | apply Kd.R_drew)); exact HO601.out))) (Kd.R_lt (by (with_reducible repeat (first | apply Kd.R_alloc | apply Kd.R_drewN | apply Kd.R_drew)); exact HO605.out))) (Kd.R_lt (by (with_reducible repeat (first | apply Kd.R_alloc | apply Kd.R_drewN | apply Kd.R_drew)); exact HO609.out))) (Kd.R_lt (by (with_reducible repeat (first | apply Kd.R_alloc | apply Kd.R_drewN | apply Kd.R_drew)); exact HO615.out))) (Kd.R_lt (by (with_reducible repeat (first | apply Kd.R_alloc | apply Kd.R_drewN | apply Kd.R_drew)); exact HO618.out))) (below_size (by repeat (first | (with_reducible first | exact HB.out | apply below_alloc | apply pw_below_drewN | apply below_drew1) | exact HB.out)))); have n7_ := Aside0.mk (Kd.R_lower (Kd.R_new' (Kd.R_new' (Kd.R_new' (Kd.R_new' (Kd.R_new' (Kd.R_new' (Kd.R_mono (ok' := fun k_ => some k_ ≠ (v620 : Value).ownBlock) ho1 (fun _ hk_ => hk_.2)) (Kd.R_lt (by (with_reducible repeat (first | apply Kd.R_alloc | apply Kd.R_drewN | apply Kd.R_drew)); exact HO598.out))) (Kd.R_lt (by (with_reducible repeat (first | apply Kd.R_alloc | apply Kd.R_drewN | apply Kd.R_drew)); exact HO601.out))) (Kd.R_lt (by (with_reducible repeat (first | apply Kd.R_alloc | apply Kd.R_drewN | apply Kd.R_drew)); exact HO605.out))) (Kd.R_lt (by (with_reducible repeat (first | apply Kd.R_alloc | apply Kd.R_drewN | apply Kd.R_drew)); exact HO609.out))) (Kd.R_lt (by (with_reducible repeat (first | apply Kd.R_alloc | apply Kd.R_drewN | apply Kd.R_drew)); exact HO615.out))) (Kd.R_lt (by (with_reducible repeat (first | apply Kd.R_alloc | apply Kd.R_drewN | apply Kd.R_drew)); exact HO618.out))) (below_size (by repeat (first | (with_reducible first | exact HB.out | apply below_alloc | apply pw_below_drewN | apply below_drew1) | exact HB.out)))); have n8_ := Aside0.mk (below_step (by repeat (first | (with_reducible first | exact HB.out | apply below_alloc | apply pw_below_drewN | apply below_drew1) | exact HB.out)) hb); clear HO598; clear HO601; clear HO605; clear HO609; clear HO615; clear HO618; clear HB; have HO598 := n0_; have HO601 := n1_; have HO605 := n2_; have HO609 := n3_; have HO615 := n4_; have HO618 := n5_; have HO621 := n6_; have HO624 := n7_; have HB := n8_; clear n0_ n1_ n2_ n3_ n4_ n5_ n6_ n7_ n8_; (try clear hb); (try clear hb2); (try clear hk); (try clear hi); (try clear ho0); (try clear ho1); obtain ⟨Ao35, co35, eo35⟩ := Kd.R_slice HO621.out; subst eo35))
                  go_ret
                  exact ⟨by first | rfl | (simp [errW_none, errW_some] <;> rfl) | (simp [*, errW_none, errW_some] <;> rfl), by repeat (first | (with_reducible first | exact HB.out | apply below_alloc | apply pw_below_drewN | apply below_drew1) | exact HB.out)⟩
                · rw [if_neg c19] at H
                  have c19b0 : (t612 == (-1)) = false := beq_eq_false_iff_ne.mpr c19
                  have c19b1 : (t612 != (-1)) = true := bne_iff_ne.mpr c19
                  obtain rfl := Option.some.inj H
                  go_wp2_with (first | ((with_reducible refine gate_callee (f := 19) rfl ?_); refine goesL_ (some 37) rfl rfl Try.func19 (by kernel_rfl) rfl #[.slice A0 l0.length c0, .slice A1 l1.length c1] rfl (by (try simp only [List.map_toArray, List.map_cons, List.map_nil]); first | done | rfl | (simp only [List.length_drop, List.length_take]; rfl)) ?_; (with_reducible refine (nat_Div.calls kj4 (fun k_ => k_ < w.heap.size) _ _ l0 (fun k_ => k_ < w.heap.size) _ _ l1 t596 t599 t602 _ ?side1 ?side2 A9.out).mono ?_); (case side1 => exact Kd.V_mk HC0.out (Kd.F_below (Kd.C_F (Kd.heap_int .u64) HR0.out) (by repeat (first | (with_reducible first | exact HB.out | apply below_alloc | apply pw_below_drewN | apply below_drew1) | exact HB.out)))); (case side2 => exact Kd.V_mk HC1.out (Kd.F_below (Kd.C_F (Kd.heap_int .u64) HR1.out) (by repeat (first | (with_reducible first | exact HB.out | apply below_alloc | apply pw_below_drewN | apply below_drew1) | exact HB.out)))); rintro e w36 ⟨v597, v600, rfl, ho0, ho1, hb⟩; refine ⟨_, rfl, ?_⟩; have n0_ := Aside0.mk (Kd.R_lower (Kd.R_mono (ok' := fun k_ => some k_ ≠ (v600 : Value).ownBlock) ho0 (fun _ hk_ => hk_.2)) (below_size (by repeat (first | (with_reducible first | exact HB.out | apply below_alloc | apply pw_below_drewN | apply below_drew1) | exact HB.out)))); have n1_ := Aside0.mk (Kd.R_lower (Kd.R_mono (ok' := fun k_ => some k_ ≠ (v597 : Value).ownBlock) ho1 (fun _ hk_ => hk_.2)) (below_size (by repeat (first | (with_reducible first | exact HB.out | apply below_alloc | apply pw_below_drewN | apply below_drew1) | exact HB.out)))); have n2_ := Aside0.mk (below_step (by repeat (first | (with_reducible first | exact HB.out | apply below_alloc | apply pw_below_drewN | apply below_drew1) | exact HB.out)) hb); clear HB; have HO598 := n0_; have HO601 := n1_; have HB := n2_; clear n0_ n1_ n2_; (try clear hb); (try clear hb2); (try clear hk); (try clear hi); (try clear ho0); (try clear ho1); obtain ⟨Ao37, co37, eo37⟩ := Kd.R_slice HO598.out; subst eo37) | ((with_reducible refine gate_callee (f := 10) rfl ?_); refine goesL_ (some 44) rfl rfl Try.func10 (by kernel_rfl) rfl #[.slice Ao37 t596.length co37, .slice A1 l1.length c1] rfl (by (try simp only [List.map_toArray, List.map_cons, List.map_nil]); first | done | rfl | (simp only [List.length_drop, List.length_take]; rfl)) ?_; (with_reducible refine (nat_Mul.calls kj4 (fun k_ => some k_ = (.slice Ao37 t596.length co37 : Value).ownBlock) _ _ t596 (fun k_ => k_ < w.heap.size) _ _ l1 t603 t606 _ ?side1 ?side2 A10.out).mono ?_); (case side1 => exact Kd.R_V (Kd.R_tight rfl (HO598.out))); (case side2 => exact Kd.V_mk HC1.out (Kd.F_below (Kd.C_F (Kd.heap_int .u64) HR1.out) (by repeat (first | (with_reducible first | exact HB.out | apply below_alloc | apply pw_below_drewN | apply below_drew1) | exact HB.out)))); rintro e w38 ⟨v604, rfl, ho0, hb⟩; refine ⟨_, rfl, ?_⟩; have n0_ := Aside0.mk (Kd.R_elder' (by (with_reducible repeat (first | apply Kd.R_alloc | apply Kd.R_drewN | apply Kd.R_drew)); exact HO598.out) (Kd.R_base ho0) hb); have n1_ := Aside0.mk (Kd.R_elder' (by (with_reducible repeat (first | apply Kd.R_alloc | apply Kd.R_drewN | apply Kd.R_drew)); exact HO601.out) (Kd.R_base ho0) hb); have n2_ := Aside0.mk (Kd.R_lower (Kd.R_new' (Kd.R_new' (Kd.R_mono (ok' := fun k_ => True) ho0 (fun _ hk_ => trivial)) (Kd.R_lt (by (with_reducible repeat (first | apply Kd.R_alloc | apply Kd.R_drewN | apply Kd.R_drew)); exact HO598.out))) (Kd.R_lt (by (with_reducible repeat (first | apply Kd.R_alloc | apply Kd.R_drewN | apply Kd.R_drew)); exact HO601.out))) (below_size (by repeat (first | (with_reducible first | exact HB.out | apply below_alloc | apply pw_below_drewN | apply below_drew1) | exact HB.out)))); have n3_ := Aside0.mk (below_step (by repeat (first | (with_reducible first | exact HB.out | apply below_alloc | apply pw_below_drewN | apply below_drew1) | exact HB.out)) hb); clear HO598; clear HO601; clear HB; have HO598 := n0_; have HO601 := n1_; have HO605 := n2_; have HB := n3_; clear n0_ n1_ n2_ n3_; (try clear hb); (try clear hb2); (try clear hk); (try clear hi); (try clear ho0); obtain ⟨Ao39, co39, eo39⟩ := Kd.R_slice HO605.out; subst eo39; obtain ⟨Ao40, co40, eo40⟩ := Kd.R_slice HO601.out; subst eo40) | ((with_reducible refine gate_callee (f := 13) rfl ?_); refine goesL_ (some 50) rfl rfl Try.func13 (by kernel_rfl) rfl #[.slice Ao39 t603.length co39, .slice Ao40 t599.length co40] rfl (by (try simp only [List.map_toArray, List.map_cons, List.map_nil]); first | done | rfl | (simp only [List.length_drop, List.length_take]; rfl)) ?_; (with_reducible refine (nat_Add.calls kj4 (fun k_ => some k_ = (.slice Ao39 t603.length co39 : Value).ownBlock) _ _ t603 (fun k_ => some k_ = (.slice Ao40 t599.length co40 : Value).ownBlock) _ _ t599 t607 t610 _ ?side1 ?side2 A11.out).mono ?_); (case side1 => exact Kd.R_V (Kd.R_tight rfl (HO605.out))); (case side2 => exact Kd.R_V (Kd.R_tight rfl (HO601.out))); rintro e w41 ⟨v608, rfl, ho0, hb⟩; refine ⟨_, rfl, ?_⟩; have n0_ := Aside0.mk (Kd.R_elder' (by (with_reducible repeat (first | apply Kd.R_alloc | apply Kd.R_drewN | apply Kd.R_drew)); exact HO598.out) (Kd.R_base ho0) hb); have n1_ := Aside0.mk (Kd.R_elder' (by (with_reducible repeat (first | apply Kd.R_alloc | apply Kd.R_drewN | apply Kd.R_drew)); exact HO601.out) (Kd.R_base ho0) hb); have n2_ := Aside0.mk (Kd.R_elder' (by (with_reducible repeat (first | apply Kd.R_alloc | apply Kd.R_drewN | apply Kd.R_drew)); exact HO605.out) (Kd.R_base ho0) hb); have n3_ := Aside0.mk (Kd.R_lower (Kd.R_new' (Kd.R_new' (Kd.R_new' (Kd.R_mono (ok' := fun k_ => True) ho0 (fun _ hk_ => trivial)) (Kd.R_lt (by (with_reducible repeat (first | apply Kd.R_alloc | apply Kd.R_drewN | apply Kd.R_drew)); exact HO598.out))) (Kd.R_lt (by (with_reducible repeat (first | apply Kd.R_alloc | apply Kd.R_drewN | apply Kd.R_drew)); exact HO601.out))) (Kd.R_lt (by (with_reducible repeat (first | apply Kd.R_alloc | apply Kd.R_drewN | apply Kd.R_drew)); exact HO605.out))) (below_size (by repeat (first | (with_reducible first | exact HB.out | apply below_alloc | apply pw_below_drewN | apply below_drew1) | exact HB.out)))); have n4_ := Aside0.mk (below_step (by repeat (first | (with_reducible first | exact HB.out | apply below_alloc | apply pw_below_drewN | apply below_drew1) | exact HB.out)) hb); clear HO598; clear HO601; clear HO605; clear HB; have HO598 := n0_; have HO601 := n1_; have HO605 := n2_; have HO609 := n3_; have HB := n4_; clear n0_ n1_ n2_ n3_ n4_; (try clear hb); (try clear hb2); (try clear hk); (try clear hi); (try clear ho0); obtain ⟨Ao42, co42, eo42⟩ := Kd.R_slice HO609.out; subst eo42) | ((with_reducible refine gate_callee (f := 12) rfl ?_); refine goesL_ (some 55) rfl rfl Try.func12 (by kernel_rfl) rfl #[.slice Ao42 t607.length co42, .slice A0 l0.length c0] rfl (by (try simp only [List.map_toArray, List.map_cons, List.map_nil]); first | done | rfl | (simp only [List.length_drop, List.length_take]; rfl)) ?_; (with_reducible refine (windbreakref01_Same.calls kj4 _ _ t607 _ _ l0 true _ ?side1 ?side2 ?side3 ?side4 A12.out).mono ?_); (case side1 => repeat (first | exact (Kd.R_reads' HO609.out).2.2 | (with_reducible refine Kd.C_alloc ?_ _) | (with_reducible refine Kd.C_drewN ?_ _) | (with_reducible refine Kd.C_drew ?_))); (case side2 => exact (Kd.R_reads' HO609.out).2.1); (case side3 => repeat (first | exact (Kd.C_below HR0.out HB.out) | (with_reducible refine Kd.C_alloc ?_ _) | (with_reducible refine Kd.C_drewN ?_ _) | (with_reducible refine Kd.C_drew ?_))); (case side4 => exact HC0.out); rintro e w' ⟨rfl, ⟨nd, rfl⟩⟩; refine ⟨_, rfl, ?_⟩) | ((with_reducible refine gate_callee (f := 21) rfl ?_); refine goesL_ (some 58) rfl rfl Try.func21 (by kernel_rfl) rfl #[.slice Ao40 t599.length co40, .slice A1 l1.length c1] rfl (by (try simp only [List.map_toArray, List.map_cons, List.map_nil]); first | done | rfl | (simp only [List.length_drop, List.length_take]; rfl)) ?_; (with_reducible refine (nat_Cmp.calls kj4 (fun k_ => some k_ = (.slice Ao40 t599.length co40 : Value).ownBlock) _ _ t599 (fun k_ => k_ < w.heap.size) _ _ l1 t612 _ ?side1 ?side2 A13.out).mono ?_); (case side1 => exact Kd.R_V (Kd.R_tight rfl (HO601.out))); (case side2 => exact Kd.V_mk HC1.out (Kd.F_below (Kd.C_F (Kd.heap_int .u64) HR1.out) (by repeat (first | (with_reducible first | exact HB.out | apply below_alloc | apply pw_below_drewN | apply below_drew1) | exact HB.out)))); rintro e w43 ⟨rfl, hb⟩; refine ⟨_, rfl, ?_⟩; have n0_ := Aside0.mk (Kd.R_below (by (with_reducible repeat (first | apply Kd.R_alloc | apply Kd.R_drewN | apply Kd.R_drew)); exact HO598.out) hb); have n1_ := Aside0.mk (Kd.R_below (by (with_reducible repeat (first | apply Kd.R_alloc | apply Kd.R_drewN | apply Kd.R_drew)); exact HO601.out) hb); have n2_ := Aside0.mk (Kd.R_below (by (with_reducible repeat (first | apply Kd.R_alloc | apply Kd.R_drewN | apply Kd.R_drew)); exact HO605.out) hb); have n3_ := Aside0.mk (Kd.R_below (by (with_reducible repeat (first | apply Kd.R_alloc | apply Kd.R_drewN | apply Kd.R_drew)); exact HO609.out) hb); have n4_ := Aside0.mk (below_step (by repeat (first | (with_reducible first | exact HB.out | apply below_alloc | apply pw_below_drewN | apply below_drew1) | exact HB.out)) hb); clear HO598; clear HO601; clear HO605; clear HO609; clear HB; have HO598 := n0_; have HO601 := n1_; have HO605 := n2_; have HO609 := n3_; have HB := n4_; clear n0_ n1_ n2_ n3_ n4_; (try clear hb); (try clear hb2); (try clear hk); (try clear hi)) | ((with_reducible refine gate_dst (N := 61) rfl ?_); (try (refine gate_guard (by rfl) ?_; dsimp only)); refine Kd.R_lit (Kd.int .u64) _ 29 ?hg (N := 61) ?hd (xs := ([1] : List Int)) (inner := [.int .u64 1]) (ok := fun _ => True) (okp := fun _ => True) ?hr ?hp (fun _ hk => hk) trivial (Below.refl _ _) (Nat.le_refl _) (by simp) ?_; (case hd => rfl); (case hg => rfl); (case hr => first | (go_simp; done) | (go_simp; rfl) | (go_simp; simp only [u64_u8]; done) | (go_simp; simp only [u64_u8]; rfl)); (case hp => exact (Reps.one (show Kd.M (Kd.int .u64) _ _ _ 1 [.int .u64 1] from rfl) (Reps.none _ _))); intro v614 w44 ho45 hb hg_ hnew_; clear hg_ hnew_; (first | rw [← Ny613.out] at ho45 | (simp only [Int.reduceToNat] at ho45; rw [← Ny613.out] at ho45)); have n0_ := Aside0.mk (Kd.R_elder' (by (with_reducible repeat (first | apply Kd.R_alloc | apply Kd.R_drewN | apply Kd.R_drew)); exact HO598.out) (Kd.R_base ho45) hb); have n1_ := Aside0.mk (Kd.R_elder' (by (with_reducible repeat (first | apply Kd.R_alloc | apply Kd.R_drewN | apply Kd.R_drew)); exact HO601.out) (Kd.R_base ho45) hb); have n2_ := Aside0.mk (Kd.R_elder' (by (with_reducible repeat (first | apply Kd.R_alloc | apply Kd.R_drewN | apply Kd.R_drew)); exact HO605.out) (Kd.R_base ho45) hb); have n3_ := Aside0.mk (Kd.R_elder' (by (with_reducible repeat (first | apply Kd.R_alloc | apply Kd.R_drewN | apply Kd.R_drew)); exact HO609.out) (Kd.R_base ho45) hb); have n4_ := Aside0.mk (Kd.R_lower (Kd.R_new' (Kd.R_new' (Kd.R_new' (Kd.R_new' ho45 (Kd.R_lt (by (with_reducible repeat (first | apply Kd.R_alloc | apply Kd.R_drewN | apply Kd.R_drew)); exact HO598.out))) (Kd.R_lt (by (with_reducible repeat (first | apply Kd.R_alloc | apply Kd.R_drewN | apply Kd.R_drew)); exact HO601.out))) (Kd.R_lt (by (with_reducible repeat (first | apply Kd.R_alloc | apply Kd.R_drewN | apply Kd.R_drew)); exact HO605.out))) (Kd.R_lt (by (with_reducible repeat (first | apply Kd.R_alloc | apply Kd.R_drewN | apply Kd.R_drew)); exact HO609.out))) (below_size (by repeat (first | (with_reducible first | exact HB.out | apply below_alloc | apply pw_below_drewN | apply below_drew1) | exact HB.out)))); have n5_ := Aside0.mk (below_step (by repeat (first | (with_reducible first | exact HB.out | apply below_alloc | apply pw_below_drewN | apply below_drew1) | exact HB.out)) hb); clear HO598; clear HO601; clear HO605; clear HO609; clear HB; have HO598 := n0_; have HO601 := n1_; have HO605 := n2_; have HO609 := n3_; have HO615 := n4_; have HB := n5_; clear n0_ n1_ n2_ n3_ n4_ n5_; clear hb ho45) | ((with_reducible refine gate_dst (N := 62) rfl ?_); (try (refine gate_guard (by rfl) ?_; dsimp only)); refine Kd.R_lit (Kd.int .u64) _ 29 ?hg (N := 62) ?hd (xs := ([1] : List Int)) (inner := [.int .u64 1]) (ok := fun _ => True) (okp := fun _ => True) ?hr ?hp (fun _ hk => hk) trivial (Below.refl _ _) (Nat.le_refl _) (by simp) ?_; (case hd => rfl); (case hg => rfl); (case hr => first | (go_simp; done) | (go_simp; rfl) | (go_simp; simp only [u64_u8]; done) | (go_simp; simp only [u64_u8]; rfl)); (case hp => exact (Reps.one (show Kd.M (Kd.int .u64) _ _ _ 1 [.int .u64 1] from rfl) (Reps.none _ _))); intro v617 w46 ho47 hb hg_ hnew_; clear hg_ hnew_; (first | rw [← Ny616.out] at ho47 | (simp only [Int.reduceToNat] at ho47; rw [← Ny616.out] at ho47)); have n0_ := Aside0.mk (Kd.R_elder' (by (with_reducible repeat (first | apply Kd.R_alloc | apply Kd.R_drewN | apply Kd.R_drew)); exact HO598.out) (Kd.R_base ho47) hb); have n1_ := Aside0.mk (Kd.R_elder' (by (with_reducible repeat (first | apply Kd.R_alloc | apply Kd.R_drewN | apply Kd.R_drew)); exact HO601.out) (Kd.R_base ho47) hb); have n2_ := Aside0.mk (Kd.R_elder' (by (with_reducible repeat (first | apply Kd.R_alloc | apply Kd.R_drewN | apply Kd.R_drew)); exact HO605.out) (Kd.R_base ho47) hb); have n3_ := Aside0.mk (Kd.R_elder' (by (with_reducible repeat (first | apply Kd.R_alloc | apply Kd.R_drewN | apply Kd.R_drew)); exact HO609.out) (Kd.R_base ho47) hb); have n4_ := Aside0.mk (Kd.R_elder' (by (with_reducible repeat (first | apply Kd.R_alloc | apply Kd.R_drewN | apply Kd.R_drew)); exact HO615.out) (Kd.R_base ho47) hb); have n5_ := Aside0.mk (Kd.R_lower (Kd.R_new' (Kd.R_new' (Kd.R_new' (Kd.R_new' (Kd.R_new' ho47 (Kd.R_lt (by (with_reducible repeat (first | apply Kd.R_alloc | apply Kd.R_drewN | apply Kd.R_drew)); exact HO598.out))) (Kd.R_lt (by (with_reducible repeat (first | apply Kd.R_alloc | apply Kd.R_drewN | apply Kd.R_drew)); exact HO601.out))) (Kd.R_lt (by (with_reducible repeat (first | apply Kd.R_alloc | apply Kd.R_drewN | apply Kd.R_drew)); exact HO605.out))) (Kd.R_lt (by (with_reducible repeat (first | apply Kd.R_alloc | apply Kd.R_drewN | apply Kd.R_drew)); exact HO609.out))) (Kd.R_lt (by (with_reducible repeat (first | apply Kd.R_alloc | apply Kd.R_drewN | apply Kd.R_drew)); exact HO615.out))) (below_size (by repeat (first | (with_reducible first | exact HB.out | apply below_alloc | apply pw_below_drewN | apply below_drew1) | exact HB.out)))); have n6_ := Aside0.mk (below_step (by repeat (first | (with_reducible first | exact HB.out | apply below_alloc | apply pw_below_drewN | apply below_drew1) | exact HB.out)) hb); clear HO598; clear HO601; clear HO605; clear HO609; clear HO615; clear HB; have HO598 := n0_; have HO601 := n1_; have HO605 := n2_; have HO609 := n3_; have HO615 := n4_; have HO618 := n5_; have HB := n6_; clear n0_ n1_ n2_ n3_ n4_ n5_ n6_; clear hb ho47; obtain ⟨Ao48, co48, eo48⟩ := Kd.R_slice HO615.out; subst eo48; obtain ⟨Ao49, co49, eo49⟩ := Kd.R_slice HO618.out; subst eo49) | ((with_reducible refine gate_callee (f := 19) rfl ?_); refine goesL_ (some 63) rfl rfl Try.func19 (by kernel_rfl) rfl #[.slice Ao48 y613.length co48, .slice Ao49 y616.length co49] rfl (by (try simp only [List.map_toArray, List.map_cons, List.map_nil]); first | done | rfl | (simp only [List.length_drop, List.length_take]; rfl)) ?_; (with_reducible refine (nat_Div.calls kj4 (fun k_ => some k_ = (.slice Ao48 y613.length co48 : Value).ownBlock) _ _ y613 (fun k_ => some k_ = (.slice Ao49 y616.length co49 : Value).ownBlock) _ _ y616 t619 t622 t625 _ ?side1 ?side2 A14.out).mono ?_); (case side1 => exact Kd.R_V (Kd.R_tight rfl (HO615.out))); (case side2 => exact Kd.R_V (Kd.R_tight rfl (HO618.out))); rintro e w50 ⟨v620, v623, rfl, ho0, ho1, hb⟩; refine ⟨_, rfl, ?_⟩; have n0_ := Aside0.mk (Kd.R_mono (Kd.R_told (Kd.R_told (Kd.R_old (by (with_reducible repeat (first | apply Kd.R_alloc | apply Kd.R_drewN | apply Kd.R_drew)); exact HO598.out) hb) (Kd.R_base ho0)) (Kd.R_base ho1)) (fun _ h_ => h_.1)); have n1_ := Aside0.mk (Kd.R_mono (Kd.R_told (Kd.R_told (Kd.R_old (by (with_reducible repeat (first | apply Kd.R_alloc | apply Kd.R_drewN | apply Kd.R_drew)); exact HO601.out) hb) (Kd.R_base ho0)) (Kd.R_base ho1)) (fun _ h_ => h_.1)); have n2_ := Aside0.mk (Kd.R_mono (Kd.R_told (Kd.R_told (Kd.R_old (by (with_reducible repeat (first | apply Kd.R_alloc | apply Kd.R_drewN | apply Kd.R_drew)); exact HO605.out) hb) (Kd.R_base ho0)) (Kd.R_base ho1)) (fun _ h_ => h_.1)); have n3_ := Aside0.mk (Kd.R_mono (Kd.R_told (Kd.R_told (Kd.R_old (by (with_reducible repeat (first | apply Kd.R_alloc | apply Kd.R_drewN | apply Kd.R_drew)); exact HO609.out) hb) (Kd.R_base ho0)) (Kd.R_base ho1)) (fun _ h_ => h_.1)); have n4_ := Aside0.mk (Kd.R_mono (Kd.R_told (Kd.R_told (Kd.R_old (by (with_reducible repeat (first | apply Kd.R_alloc | apply Kd.R_drewN | apply Kd.R_drew)); exact HO615.out) hb) (Kd.R_base ho0)) (Kd.R_base ho1)) (fun _ h_ => h_.1)); have n5_ := Aside0.mk (Kd.R_mono (Kd.R_told (Kd.R_told (Kd.R_old (by (with_reducible repeat (first | apply Kd.R_alloc | apply Kd.R_drewN | apply Kd.R_drew)); exact HO618.out) hb) (Kd.R_base ho0)) (Kd.R_base ho1)) (fun _ h_ => h_.1)); have n6_ := Aside0.mk (Kd.R_lower (Kd.R_new' (Kd.R_new' (Kd.R_new' (Kd.R_new' (Kd.R_new' (Kd.R_new' (Kd.R_mono (ok' := fun k_ => some k_ ≠ (v623 : Value).ownBlock) ho0 (fun _ hk_ => hk_.2)) (Kd.R_lt (by (with_reducible repeat (first | apply Kd.R_alloc | apply Kd.R_drewN | apply Kd.R_drew)); exact HO598.out))) (Kd.R_lt (by (with_reducible repeat (first | apply Kd.R_alloc | apply Kd.R_drewN | apply Kd.R_drew)); exact HO601.out))) (Kd.R_lt (by (with_reducible repeat (first | apply Kd.R_alloc | apply Kd.R_drewN | apply Kd.R_drew)); exact HO605.out))) (Kd.R_lt (by (with_reducible repeat (first | apply Kd.R_alloc | apply Kd.R_drewN | apply Kd.R_drew)); exact HO609.out))) (Kd.R_lt (by (with_reducible repeat (first | apply Kd.R_alloc | apply Kd.R_drewN | apply Kd.R_drew)); exact HO615.out))) (Kd.R_lt (by (with_reducible repeat (first | apply Kd.R_alloc | apply Kd.R_drewN | apply Kd.R_drew)); exact HO618.out))) (below_size (by repeat (first | (with_reducible first | exact HB.out | apply below_alloc | apply pw_below_drewN | apply below_drew1) | exact HB.out)))); have n7_ := Aside0.mk (Kd.R_lower (Kd.R_new' (Kd.R_new' (Kd.R_new' (Kd.R_new' (Kd.R_new' (Kd.R_new' (Kd.R_mono (ok' := fun k_ => some k_ ≠ (v620 : Value).ownBlock) ho1 (fun _ hk_ => hk_.2)) (Kd.R_lt (by (with_reducible repeat (first | apply Kd.R_alloc | apply Kd.R_drewN | apply Kd.R_drew)); exact HO598.out))) (Kd.R_lt (by (with_reducible repeat (first | apply Kd.R_alloc | apply Kd.R_drewN | apply Kd.R_drew)); exact HO601.out))) (Kd.R_lt (by (with_reducible repeat (first | apply Kd.R_alloc | apply Kd.R_drewN | apply Kd.R_drew)); exact HO605.out))) (Kd.R_lt (by (with_reducible repeat (first | apply Kd.R_alloc | apply Kd.R_drewN | apply Kd.R_drew)); exact HO609.out))) (Kd.R_lt (by (with_reducible repeat (first | apply Kd.R_alloc | apply Kd.R_drewN | apply Kd.R_drew)); exact HO615.out))) (Kd.R_lt (by (with_reducible repeat (first | apply Kd.R_alloc | apply Kd.R_drewN | apply Kd.R_drew)); exact HO618.out))) (below_size (by repeat (first | (with_reducible first | exact HB.out | apply below_alloc | apply pw_below_drewN | apply below_drew1) | exact HB.out)))); have n8_ := Aside0.mk (below_step (by repeat (first | (with_reducible first | exact HB.out | apply below_alloc | apply pw_below_drewN | apply below_drew1) | exact HB.out)) hb); clear HO598; clear HO601; clear HO605; clear HO609; clear HO615; clear HO618; clear HB; have HO598 := n0_; have HO601 := n1_; have HO605 := n2_; have HO609 := n3_; have HO615 := n4_; have HO618 := n5_; have HO621 := n6_; have HO624 := n7_; have HB := n8_; clear n0_ n1_ n2_ n3_ n4_ n5_ n6_ n7_ n8_; (try clear hb); (try clear hb2); (try clear hk); (try clear hi); (try clear ho0); (try clear ho1)))
                  go_ret
                  exact ⟨by first | rfl | (simp [errW_none, errW_some] <;> rfl) | (simp [*, errW_none, errW_some] <;> rfl), by repeat (first | (with_reducible first | exact HB.out | apply below_alloc | apply pw_below_drewN | apply below_drew1) | exact HB.out)⟩
              · replace c18 := Bool.eq_false_iff.mpr c18
                subst c18
                have H1 : (some false) = some r := by rw [if_neg (show ¬ (false = true) by decide)] at H; exact H
                clear H
                have H := H1
                clear H1
                obtain rfl := Option.some.inj H
                go_wp2_with (first | ((with_reducible refine gate_callee (f := 19) rfl ?_); refine goesL_ (some 37) rfl rfl Try.func19 (by kernel_rfl) rfl #[.slice A0 l0.length c0, .slice A1 l1.length c1] rfl (by (try simp only [List.map_toArray, List.map_cons, List.map_nil]); first | done | rfl | (simp only [List.length_drop, List.length_take]; rfl)) ?_; (with_reducible refine (nat_Div.calls kj4 (fun k_ => k_ < w.heap.size) _ _ l0 (fun k_ => k_ < w.heap.size) _ _ l1 t596 t599 t602 _ ?side1 ?side2 A9.out).mono ?_); (case side1 => exact Kd.V_mk HC0.out (Kd.F_below (Kd.C_F (Kd.heap_int .u64) HR0.out) (by repeat (first | (with_reducible first | exact HB.out | apply below_alloc | apply pw_below_drewN | apply below_drew1) | exact HB.out)))); (case side2 => exact Kd.V_mk HC1.out (Kd.F_below (Kd.C_F (Kd.heap_int .u64) HR1.out) (by repeat (first | (with_reducible first | exact HB.out | apply below_alloc | apply pw_below_drewN | apply below_drew1) | exact HB.out)))); rintro e w51 ⟨v597, v600, rfl, ho0, ho1, hb⟩; refine ⟨_, rfl, ?_⟩; have n0_ := Aside0.mk (Kd.R_lower (Kd.R_mono (ok' := fun k_ => some k_ ≠ (v600 : Value).ownBlock) ho0 (fun _ hk_ => hk_.2)) (below_size (by repeat (first | (with_reducible first | exact HB.out | apply below_alloc | apply pw_below_drewN | apply below_drew1) | exact HB.out)))); have n1_ := Aside0.mk (Kd.R_lower (Kd.R_mono (ok' := fun k_ => some k_ ≠ (v597 : Value).ownBlock) ho1 (fun _ hk_ => hk_.2)) (below_size (by repeat (first | (with_reducible first | exact HB.out | apply below_alloc | apply pw_below_drewN | apply below_drew1) | exact HB.out)))); have n2_ := Aside0.mk (below_step (by repeat (first | (with_reducible first | exact HB.out | apply below_alloc | apply pw_below_drewN | apply below_drew1) | exact HB.out)) hb); clear HB; have HO598 := n0_; have HO601 := n1_; have HB := n2_; clear n0_ n1_ n2_; (try clear hb); (try clear hb2); (try clear hk); (try clear hi); (try clear ho0); (try clear ho1); obtain ⟨Ao52, co52, eo52⟩ := Kd.R_slice HO598.out; subst eo52) | ((with_reducible refine gate_callee (f := 10) rfl ?_); refine goesL_ (some 44) rfl rfl Try.func10 (by kernel_rfl) rfl #[.slice Ao52 t596.length co52, .slice A1 l1.length c1] rfl (by (try simp only [List.map_toArray, List.map_cons, List.map_nil]); first | done | rfl | (simp only [List.length_drop, List.length_take]; rfl)) ?_; (with_reducible refine (nat_Mul.calls kj4 (fun k_ => some k_ = (.slice Ao52 t596.length co52 : Value).ownBlock) _ _ t596 (fun k_ => k_ < w.heap.size) _ _ l1 t603 t606 _ ?side1 ?side2 A10.out).mono ?_); (case side1 => exact Kd.R_V (Kd.R_tight rfl (HO598.out))); (case side2 => exact Kd.V_mk HC1.out (Kd.F_below (Kd.C_F (Kd.heap_int .u64) HR1.out) (by repeat (first | (with_reducible first | exact HB.out | apply below_alloc | apply pw_below_drewN | apply below_drew1) | exact HB.out)))); rintro e w53 ⟨v604, rfl, ho0, hb⟩; refine ⟨_, rfl, ?_⟩; have n0_ := Aside0.mk (Kd.R_elder' (by (with_reducible repeat (first | apply Kd.R_alloc | apply Kd.R_drewN | apply Kd.R_drew)); exact HO598.out) (Kd.R_base ho0) hb); have n1_ := Aside0.mk (Kd.R_elder' (by (with_reducible repeat (first | apply Kd.R_alloc | apply Kd.R_drewN | apply Kd.R_drew)); exact HO601.out) (Kd.R_base ho0) hb); have n2_ := Aside0.mk (Kd.R_lower (Kd.R_new' (Kd.R_new' (Kd.R_mono (ok' := fun k_ => True) ho0 (fun _ hk_ => trivial)) (Kd.R_lt (by (with_reducible repeat (first | apply Kd.R_alloc | apply Kd.R_drewN | apply Kd.R_drew)); exact HO598.out))) (Kd.R_lt (by (with_reducible repeat (first | apply Kd.R_alloc | apply Kd.R_drewN | apply Kd.R_drew)); exact HO601.out))) (below_size (by repeat (first | (with_reducible first | exact HB.out | apply below_alloc | apply pw_below_drewN | apply below_drew1) | exact HB.out)))); have n3_ := Aside0.mk (below_step (by repeat (first | (with_reducible first | exact HB.out | apply below_alloc | apply pw_below_drewN | apply below_drew1) | exact HB.out)) hb); clear HO598; clear HO601; clear HB; have HO598 := n0_; have HO601 := n1_; have HO605 := n2_; have HB := n3_; clear n0_ n1_ n2_ n3_; (try clear hb); (try clear hb2); (try clear hk); (try clear hi); (try clear ho0); obtain ⟨Ao54, co54, eo54⟩ := Kd.R_slice HO605.out; subst eo54; obtain ⟨Ao55, co55, eo55⟩ := Kd.R_slice HO601.out; subst eo55) | ((with_reducible refine gate_callee (f := 13) rfl ?_); refine goesL_ (some 50) rfl rfl Try.func13 (by kernel_rfl) rfl #[.slice Ao54 t603.length co54, .slice Ao55 t599.length co55] rfl (by (try simp only [List.map_toArray, List.map_cons, List.map_nil]); first | done | rfl | (simp only [List.length_drop, List.length_take]; rfl)) ?_; (with_reducible refine (nat_Add.calls kj4 (fun k_ => some k_ = (.slice Ao54 t603.length co54 : Value).ownBlock) _ _ t603 (fun k_ => some k_ = (.slice Ao55 t599.length co55 : Value).ownBlock) _ _ t599 t607 t610 _ ?side1 ?side2 A11.out).mono ?_); (case side1 => exact Kd.R_V (Kd.R_tight rfl (HO605.out))); (case side2 => exact Kd.R_V (Kd.R_tight rfl (HO601.out))); rintro e w56 ⟨v608, rfl, ho0, hb⟩; refine ⟨_, rfl, ?_⟩; have n0_ := Aside0.mk (Kd.R_elder' (by (with_reducible repeat (first | apply Kd.R_alloc | apply Kd.R_drewN | apply Kd.R_drew)); exact HO598.out) (Kd.R_base ho0) hb); have n1_ := Aside0.mk (Kd.R_elder' (by (with_reducible repeat (first | apply Kd.R_alloc | apply Kd.R_drewN | apply Kd.R_drew)); exact HO601.out) (Kd.R_base ho0) hb); have n2_ := Aside0.mk (Kd.R_elder' (by (with_reducible repeat (first | apply Kd.R_alloc | apply Kd.R_drewN | apply Kd.R_drew)); exact HO605.out) (Kd.R_base ho0) hb); have n3_ := Aside0.mk (Kd.R_lower (Kd.R_new' (Kd.R_new' (Kd.R_new' (Kd.R_mono (ok' := fun k_ => True) ho0 (fun _ hk_ => trivial)) (Kd.R_lt (by (with_reducible repeat (first | apply Kd.R_alloc | apply Kd.R_drewN | apply Kd.R_drew)); exact HO598.out))) (Kd.R_lt (by (with_reducible repeat (first | apply Kd.R_alloc | apply Kd.R_drewN | apply Kd.R_drew)); exact HO601.out))) (Kd.R_lt (by (with_reducible repeat (first | apply Kd.R_alloc | apply Kd.R_drewN | apply Kd.R_drew)); exact HO605.out))) (below_size (by repeat (first | (with_reducible first | exact HB.out | apply below_alloc | apply pw_below_drewN | apply below_drew1) | exact HB.out)))); have n4_ := Aside0.mk (below_step (by repeat (first | (with_reducible first | exact HB.out | apply below_alloc | apply pw_below_drewN | apply below_drew1) | exact HB.out)) hb); clear HO598; clear HO601; clear HO605; clear HB; have HO598 := n0_; have HO601 := n1_; have HO605 := n2_; have HO609 := n3_; have HB := n4_; clear n0_ n1_ n2_ n3_ n4_; (try clear hb); (try clear hb2); (try clear hk); (try clear hi); (try clear ho0); obtain ⟨Ao57, co57, eo57⟩ := Kd.R_slice HO609.out; subst eo57) | ((with_reducible refine gate_callee (f := 12) rfl ?_); refine goesL_ (some 55) rfl rfl Try.func12 (by kernel_rfl) rfl #[.slice Ao57 t607.length co57, .slice A0 l0.length c0] rfl (by (try simp only [List.map_toArray, List.map_cons, List.map_nil]); first | done | rfl | (simp only [List.length_drop, List.length_take]; rfl)) ?_; (with_reducible refine (windbreakref01_Same.calls kj4 _ _ t607 _ _ l0 false _ ?side1 ?side2 ?side3 ?side4 A12.out).mono ?_); (case side1 => repeat (first | exact (Kd.R_reads' HO609.out).2.2 | (with_reducible refine Kd.C_alloc ?_ _) | (with_reducible refine Kd.C_drewN ?_ _) | (with_reducible refine Kd.C_drew ?_))); (case side2 => exact (Kd.R_reads' HO609.out).2.1); (case side3 => repeat (first | exact (Kd.C_below HR0.out HB.out) | (with_reducible refine Kd.C_alloc ?_ _) | (with_reducible refine Kd.C_drewN ?_ _) | (with_reducible refine Kd.C_drew ?_))); (case side4 => exact HC0.out); rintro e w' ⟨rfl, ⟨nd, rfl⟩⟩; refine ⟨_, rfl, ?_⟩) | ((with_reducible refine gate_callee (f := 21) rfl ?_); refine goesL_ (some 58) rfl rfl Try.func21 (by kernel_rfl) rfl #[.slice Ao55 t599.length co55, .slice A1 l1.length c1] rfl (by (try simp only [List.map_toArray, List.map_cons, List.map_nil]); first | done | rfl | (simp only [List.length_drop, List.length_take]; rfl)) ?_; (with_reducible refine (nat_Cmp.calls kj4 (fun k_ => some k_ = (.slice Ao55 t599.length co55 : Value).ownBlock) _ _ t599 (fun k_ => k_ < w.heap.size) _ _ l1 t612 _ ?side1 ?side2 A13.out).mono ?_); (case side1 => exact Kd.R_V (Kd.R_tight rfl (HO601.out))); (case side2 => exact Kd.V_mk HC1.out (Kd.F_below (Kd.C_F (Kd.heap_int .u64) HR1.out) (by repeat (first | (with_reducible first | exact HB.out | apply below_alloc | apply pw_below_drewN | apply below_drew1) | exact HB.out)))); rintro e w58 ⟨rfl, hb⟩; refine ⟨_, rfl, ?_⟩; have n0_ := Aside0.mk (Kd.R_below (by (with_reducible repeat (first | apply Kd.R_alloc | apply Kd.R_drewN | apply Kd.R_drew)); exact HO598.out) hb); have n1_ := Aside0.mk (Kd.R_below (by (with_reducible repeat (first | apply Kd.R_alloc | apply Kd.R_drewN | apply Kd.R_drew)); exact HO601.out) hb); have n2_ := Aside0.mk (Kd.R_below (by (with_reducible repeat (first | apply Kd.R_alloc | apply Kd.R_drewN | apply Kd.R_drew)); exact HO605.out) hb); have n3_ := Aside0.mk (Kd.R_below (by (with_reducible repeat (first | apply Kd.R_alloc | apply Kd.R_drewN | apply Kd.R_drew)); exact HO609.out) hb); have n4_ := Aside0.mk (below_step (by repeat (first | (with_reducible first | exact HB.out | apply below_alloc | apply pw_below_drewN | apply below_drew1) | exact HB.out)) hb); clear HO598; clear HO601; clear HO605; clear HO609; clear HB; have HO598 := n0_; have HO601 := n1_; have HO605 := n2_; have HO609 := n3_; have HB := n4_; clear n0_ n1_ n2_ n3_ n4_; (try clear hb); (try clear hb2); (try clear hk); (try clear hi)) | ((with_reducible refine gate_dst (N := 61) rfl ?_); (try (refine gate_guard (by rfl) ?_; dsimp only)); refine Kd.R_lit (Kd.int .u64) _ 29 ?hg (N := 61) ?hd (xs := ([1] : List Int)) (inner := [.int .u64 1]) (ok := fun _ => True) (okp := fun _ => True) ?hr ?hp (fun _ hk => hk) trivial (Below.refl _ _) (Nat.le_refl _) (by simp) ?_; (case hd => rfl); (case hg => rfl); (case hr => first | (go_simp; done) | (go_simp; rfl) | (go_simp; simp only [u64_u8]; done) | (go_simp; simp only [u64_u8]; rfl)); (case hp => exact (Reps.one (show Kd.M (Kd.int .u64) _ _ _ 1 [.int .u64 1] from rfl) (Reps.none _ _))); intro v614 w59 ho60 hb hg_ hnew_; clear hg_ hnew_; (first | rw [← Ny613.out] at ho60 | (simp only [Int.reduceToNat] at ho60; rw [← Ny613.out] at ho60)); have n0_ := Aside0.mk (Kd.R_elder' (by (with_reducible repeat (first | apply Kd.R_alloc | apply Kd.R_drewN | apply Kd.R_drew)); exact HO598.out) (Kd.R_base ho60) hb); have n1_ := Aside0.mk (Kd.R_elder' (by (with_reducible repeat (first | apply Kd.R_alloc | apply Kd.R_drewN | apply Kd.R_drew)); exact HO601.out) (Kd.R_base ho60) hb); have n2_ := Aside0.mk (Kd.R_elder' (by (with_reducible repeat (first | apply Kd.R_alloc | apply Kd.R_drewN | apply Kd.R_drew)); exact HO605.out) (Kd.R_base ho60) hb); have n3_ := Aside0.mk (Kd.R_elder' (by (with_reducible repeat (first | apply Kd.R_alloc | apply Kd.R_drewN | apply Kd.R_drew)); exact HO609.out) (Kd.R_base ho60) hb); have n4_ := Aside0.mk (Kd.R_lower (Kd.R_new' (Kd.R_new' (Kd.R_new' (Kd.R_new' ho60 (Kd.R_lt (by (with_reducible repeat (first | apply Kd.R_alloc | apply Kd.R_drewN | apply Kd.R_drew)); exact HO598.out))) (Kd.R_lt (by (with_reducible repeat (first | apply Kd.R_alloc | apply Kd.R_drewN | apply Kd.R_drew)); exact HO601.out))) (Kd.R_lt (by (with_reducible repeat (first | apply Kd.R_alloc | apply Kd.R_drewN | apply Kd.R_drew)); exact HO605.out))) (Kd.R_lt (by (with_reducible repeat (first | apply Kd.R_alloc | apply Kd.R_drewN | apply Kd.R_drew)); exact HO609.out))) (below_size (by repeat (first | (with_reducible first | exact HB.out | apply below_alloc | apply pw_below_drewN | apply below_drew1) | exact HB.out)))); have n5_ := Aside0.mk (below_step (by repeat (first | (with_reducible first | exact HB.out | apply below_alloc | apply pw_below_drewN | apply below_drew1) | exact HB.out)) hb); clear HO598; clear HO601; clear HO605; clear HO609; clear HB; have HO598 := n0_; have HO601 := n1_; have HO605 := n2_; have HO609 := n3_; have HO615 := n4_; have HB := n5_; clear n0_ n1_ n2_ n3_ n4_ n5_; clear hb ho60) | ((with_reducible refine gate_dst (N := 62) rfl ?_); (try (refine gate_guard (by rfl) ?_; dsimp only)); refine Kd.R_lit (Kd.int .u64) _ 29 ?hg (N := 62) ?hd (xs := ([1] : List Int)) (inner := [.int .u64 1]) (ok := fun _ => True) (okp := fun _ => True) ?hr ?hp (fun _ hk => hk) trivial (Below.refl _ _) (Nat.le_refl _) (by simp) ?_; (case hd => rfl); (case hg => rfl); (case hr => first | (go_simp; done) | (go_simp; rfl) | (go_simp; simp only [u64_u8]; done) | (go_simp; simp only [u64_u8]; rfl)); (case hp => exact (Reps.one (show Kd.M (Kd.int .u64) _ _ _ 1 [.int .u64 1] from rfl) (Reps.none _ _))); intro v617 w61 ho62 hb hg_ hnew_; clear hg_ hnew_; (first | rw [← Ny616.out] at ho62 | (simp only [Int.reduceToNat] at ho62; rw [← Ny616.out] at ho62)); have n0_ := Aside0.mk (Kd.R_elder' (by (with_reducible repeat (first | apply Kd.R_alloc | apply Kd.R_drewN | apply Kd.R_drew)); exact HO598.out) (Kd.R_base ho62) hb); have n1_ := Aside0.mk (Kd.R_elder' (by (with_reducible repeat (first | apply Kd.R_alloc | apply Kd.R_drewN | apply Kd.R_drew)); exact HO601.out) (Kd.R_base ho62) hb); have n2_ := Aside0.mk (Kd.R_elder' (by (with_reducible repeat (first | apply Kd.R_alloc | apply Kd.R_drewN | apply Kd.R_drew)); exact HO605.out) (Kd.R_base ho62) hb); have n3_ := Aside0.mk (Kd.R_elder' (by (with_reducible repeat (first | apply Kd.R_alloc | apply Kd.R_drewN | apply Kd.R_drew)); exact HO609.out) (Kd.R_base ho62) hb); have n4_ := Aside0.mk (Kd.R_elder' (by (with_reducible repeat (first | apply Kd.R_alloc | apply Kd.R_drewN | apply Kd.R_drew)); exact HO615.out) (Kd.R_base ho62) hb); have n5_ := Aside0.mk (Kd.R_lower (Kd.R_new' (Kd.R_new' (Kd.R_new' (Kd.R_new' (Kd.R_new' ho62 (Kd.R_lt (by (with_reducible repeat (first | apply Kd.R_alloc | apply Kd.R_drewN | apply Kd.R_drew)); exact HO598.out))) (Kd.R_lt (by (with_reducible repeat (first | apply Kd.R_alloc | apply Kd.R_drewN | apply Kd.R_drew)); exact HO601.out))) (Kd.R_lt (by (with_reducible repeat (first | apply Kd.R_alloc | apply Kd.R_drewN | apply Kd.R_drew)); exact HO605.out))) (Kd.R_lt (by (with_reducible repeat (first | apply Kd.R_alloc | apply Kd.R_drewN | apply Kd.R_drew)); exact HO609.out))) (Kd.R_lt (by (with_reducible repeat (first | apply Kd.R_alloc | apply Kd.R_drewN | apply Kd.R_drew)); exact HO615.out))) (below_size (by repeat (first | (with_reducible first | exact HB.out | apply below_alloc | apply pw_below_drewN | apply below_drew1) | exact HB.out)))); have n6_ := Aside0.mk (below_step (by repeat (first | (with_reducible first | exact HB.out | apply below_alloc | apply pw_below_drewN | apply below_drew1) | exact HB.out)) hb); clear HO598; clear HO601; clear HO605; clear HO609; clear HO615; clear HB; have HO598 := n0_; have HO601 := n1_; have HO605 := n2_; have HO609 := n3_; have HO615 := n4_; have HO618 := n5_; have HB := n6_; clear n0_ n1_ n2_ n3_ n4_ n5_ n6_; clear hb ho62; obtain ⟨Ao63, co63, eo63⟩ := Kd.R_slice HO615.out; subst eo63; obtain ⟨Ao64, co64, eo64⟩ := Kd.R_slice HO618.out; subst eo64) | ((with_reducible refine gate_callee (f := 19) rfl ?_); refine goesL_ (some 63) rfl rfl Try.func19 (by kernel_rfl) rfl #[.slice Ao63 y613.length co63, .slice Ao64 y616.length co64] rfl (by (try simp only [List.map_toArray, List.map_cons, List.map_nil]); first | done | rfl | (simp only [List.length_drop, List.length_take]; rfl)) ?_; (with_reducible refine (nat_Div.calls kj4 (fun k_ => some k_ = (.slice Ao63 y613.length co63 : Value).ownBlock) _ _ y613 (fun k_ => some k_ = (.slice Ao64 y616.length co64 : Value).ownBlock) _ _ y616 t619 t622 t625 _ ?side1 ?side2 A14.out).mono ?_); (case side1 => exact Kd.R_V (Kd.R_tight rfl (HO615.out))); (case side2 => exact Kd.R_V (Kd.R_tight rfl (HO618.out))); rintro e w65 ⟨v620, v623, rfl, ho0, ho1, hb⟩; refine ⟨_, rfl, ?_⟩; have n0_ := Aside0.mk (Kd.R_mono (Kd.R_told (Kd.R_told (Kd.R_old (by (with_reducible repeat (first | apply Kd.R_alloc | apply Kd.R_drewN | apply Kd.R_drew)); exact HO598.out) hb) (Kd.R_base ho0)) (Kd.R_base ho1)) (fun _ h_ => h_.1)); have n1_ := Aside0.mk (Kd.R_mono (Kd.R_told (Kd.R_told (Kd.R_old (by (with_reducible repeat (first | apply Kd.R_alloc | apply Kd.R_drewN | apply Kd.R_drew)); exact HO601.out) hb) (Kd.R_base ho0)) (Kd.R_base ho1)) (fun _ h_ => h_.1)); have n2_ := Aside0.mk (Kd.R_mono (Kd.R_told (Kd.R_told (Kd.R_old (by (with_reducible repeat (first | apply Kd.R_alloc | apply Kd.R_drewN | apply Kd.R_drew)); exact HO605.out) hb) (Kd.R_base ho0)) (Kd.R_base ho1)) (fun _ h_ => h_.1)); have n3_ := Aside0.mk (Kd.R_mono (Kd.R_told (Kd.R_told (Kd.R_old (by (with_reducible repeat (first | apply Kd.R_alloc | apply Kd.R_drewN | apply Kd.R_drew)); exact HO609.out) hb) (Kd.R_base ho0)) (Kd.R_base ho1)) (fun _ h_ => h_.1)); have n4_ := Aside0.mk (Kd.R_mono (Kd.R_told (Kd.R_told (Kd.R_old (by (with_reducible repeat (first | apply Kd.R_alloc | apply Kd.R_drewN | apply Kd.R_drew)); exact HO615.out) hb) (Kd.R_base ho0)) (Kd.R_base ho1)) (fun _ h_ => h_.1)); have n5_ := Aside0.mk (Kd.R_mono (Kd.R_told (Kd.R_told (Kd.R_old (by (with_reducible repeat (first | apply Kd.R_alloc | apply Kd.R_drewN | apply Kd.R_drew)); exact HO618.out) hb) (Kd.R_base ho0)) (Kd.R_base ho1)) (fun _ h_ => h_.1)); have n6_ := Aside0.mk (Kd.R_lower (Kd.R_new' (Kd.R_new' (Kd.R_new' (Kd.R_new' (Kd.R_new' (Kd.R_new' (Kd.R_mono (ok' := fun k_ => some k_ ≠ (v623 : Value).ownBlock) ho0 (fun _ hk_ => hk_.2)) (Kd.R_lt (by (with_reducible repeat (first | apply Kd.R_alloc | apply Kd.R_drewN | apply Kd.R_drew)); exact HO598.out))) (Kd.R_lt (by (with_reducible repeat (first | apply Kd.R_alloc | apply Kd.R_drewN | apply Kd.R_drew)); exact HO601.out))) (Kd.R_lt (by (with_reducible repeat (first | apply Kd.R_alloc | apply Kd.R_drewN | apply Kd.R_drew)); exact HO605.out))) (Kd.R_lt (by (with_reducible repeat (first | apply Kd.R_alloc | apply Kd.R_drewN | apply Kd.R_drew)); exact HO609.out))) (Kd.R_lt (by (with_reducible repeat (first | apply Kd.R_alloc | apply Kd.R_drewN | apply Kd.R_drew)); exact HO615.out))) (Kd.R_lt (by (with_reducible repeat (first | apply Kd.R_alloc | apply Kd.R_drewN | apply Kd.R_drew)); exact HO618.out))) (below_size (by repeat (first | (with_reducible first | exact HB.out | apply below_alloc | apply pw_below_drewN | apply below_drew1) | exact HB.out)))); have n7_ := Aside0.mk (Kd.R_lower (Kd.R_new' (Kd.R_new' (Kd.R_new' (Kd.R_new' (Kd.R_new' (Kd.R_new' (Kd.R_mono (ok' := fun k_ => some k_ ≠ (v620 : Value).ownBlock) ho1 (fun _ hk_ => hk_.2)) (Kd.R_lt (by (with_reducible repeat (first | apply Kd.R_alloc | apply Kd.R_drewN | apply Kd.R_drew)); exact HO598.out))) (Kd.R_lt (by (with_reducible repeat (first | apply Kd.R_alloc | apply Kd.R_drewN | apply Kd.R_drew)); exact HO601.out))) (Kd.R_lt (by (with_reducible repeat (first | apply Kd.R_alloc | apply Kd.R_drewN | apply Kd.R_drew)); exact HO605.out))) (Kd.R_lt (by (with_reducible repeat (first | apply Kd.R_alloc | apply Kd.R_drewN | apply Kd.R_drew)); exact HO609.out))) (Kd.R_lt (by (with_reducible repeat (first | apply Kd.R_alloc | apply Kd.R_drewN | apply Kd.R_drew)); exact HO615.out))) (Kd.R_lt (by (with_reducible repeat (first | apply Kd.R_alloc | apply Kd.R_drewN | apply Kd.R_drew)); exact HO618.out))) (below_size (by repeat (first | (with_reducible first | exact HB.out | apply below_alloc | apply pw_below_drewN | apply below_drew1) | exact HB.out)))); have n8_ := Aside0.mk (below_step (by repeat (first | (with_reducible first | exact HB.out | apply below_alloc | apply pw_below_drewN | apply below_drew1) | exact HB.out)) hb); clear HO598; clear HO601; clear HO605; clear HO609; clear HO615; clear HO618; clear HB; have HO598 := n0_; have HO601 := n1_; have HO605 := n2_; have HO609 := n3_; have HO615 := n4_; have HO618 := n5_; have HO621 := n6_; have HO624 := n7_; have HB := n8_; clear n0_ n1_ n2_ n3_ n4_ n5_ n6_ n7_ n8_; (try clear hb); (try clear hb2); (try clear hk); (try clear hi); (try clear ho0); (try clear ho1)))
                go_ret
                exact ⟨by first | rfl | (simp [errW_none, errW_some] <;> rfl) | (simp [*, errW_none, errW_some] <;> rfl), by repeat (first | (with_reducible first | exact HB.out | apply below_alloc | apply pw_below_drewN | apply below_drew1) | exact HB.out)⟩
            · rw [if_neg c17] at H
              have c17b0 : (t610 == 0) = false := beq_eq_false_iff_ne.mpr c17
              have c17b1 : (t610 != 0) = true := bne_iff_ne.mpr c17
              obtain rfl := Option.some.inj H
              go_wp2_with (first | ((with_reducible refine gate_callee (f := 19) rfl ?_); refine goesL_ (some 37) rfl rfl Try.func19 (by kernel_rfl) rfl #[.slice A0 l0.length c0, .slice A1 l1.length c1] rfl (by (try simp only [List.map_toArray, List.map_cons, List.map_nil]); first | done | rfl | (simp only [List.length_drop, List.length_take]; rfl)) ?_; (with_reducible refine (nat_Div.calls kj4 (fun k_ => k_ < w.heap.size) _ _ l0 (fun k_ => k_ < w.heap.size) _ _ l1 t596 t599 t602 _ ?side1 ?side2 A9.out).mono ?_); (case side1 => exact Kd.V_mk HC0.out (Kd.F_below (Kd.C_F (Kd.heap_int .u64) HR0.out) (by repeat (first | (with_reducible first | exact HB.out | apply below_alloc | apply pw_below_drewN | apply below_drew1) | exact HB.out)))); (case side2 => exact Kd.V_mk HC1.out (Kd.F_below (Kd.C_F (Kd.heap_int .u64) HR1.out) (by repeat (first | (with_reducible first | exact HB.out | apply below_alloc | apply pw_below_drewN | apply below_drew1) | exact HB.out)))); rintro e w66 ⟨v597, v600, rfl, ho0, ho1, hb⟩; refine ⟨_, rfl, ?_⟩; have n0_ := Aside0.mk (Kd.R_lower (Kd.R_mono (ok' := fun k_ => some k_ ≠ (v600 : Value).ownBlock) ho0 (fun _ hk_ => hk_.2)) (below_size (by repeat (first | (with_reducible first | exact HB.out | apply below_alloc | apply pw_below_drewN | apply below_drew1) | exact HB.out)))); have n1_ := Aside0.mk (Kd.R_lower (Kd.R_mono (ok' := fun k_ => some k_ ≠ (v597 : Value).ownBlock) ho1 (fun _ hk_ => hk_.2)) (below_size (by repeat (first | (with_reducible first | exact HB.out | apply below_alloc | apply pw_below_drewN | apply below_drew1) | exact HB.out)))); have n2_ := Aside0.mk (below_step (by repeat (first | (with_reducible first | exact HB.out | apply below_alloc | apply pw_below_drewN | apply below_drew1) | exact HB.out)) hb); clear HB; have HO598 := n0_; have HO601 := n1_; have HB := n2_; clear n0_ n1_ n2_; (try clear hb); (try clear hb2); (try clear hk); (try clear hi); (try clear ho0); (try clear ho1); obtain ⟨Ao67, co67, eo67⟩ := Kd.R_slice HO598.out; subst eo67) | ((with_reducible refine gate_callee (f := 10) rfl ?_); refine goesL_ (some 44) rfl rfl Try.func10 (by kernel_rfl) rfl #[.slice Ao67 t596.length co67, .slice A1 l1.length c1] rfl (by (try simp only [List.map_toArray, List.map_cons, List.map_nil]); first | done | rfl | (simp only [List.length_drop, List.length_take]; rfl)) ?_; (with_reducible refine (nat_Mul.calls kj4 (fun k_ => some k_ = (.slice Ao67 t596.length co67 : Value).ownBlock) _ _ t596 (fun k_ => k_ < w.heap.size) _ _ l1 t603 t606 _ ?side1 ?side2 A10.out).mono ?_); (case side1 => exact Kd.R_V (Kd.R_tight rfl (HO598.out))); (case side2 => exact Kd.V_mk HC1.out (Kd.F_below (Kd.C_F (Kd.heap_int .u64) HR1.out) (by repeat (first | (with_reducible first | exact HB.out | apply below_alloc | apply pw_below_drewN | apply below_drew1) | exact HB.out)))); rintro e w68 ⟨v604, rfl, ho0, hb⟩; refine ⟨_, rfl, ?_⟩; have n0_ := Aside0.mk (Kd.R_elder' (by (with_reducible repeat (first | apply Kd.R_alloc | apply Kd.R_drewN | apply Kd.R_drew)); exact HO598.out) (Kd.R_base ho0) hb); have n1_ := Aside0.mk (Kd.R_elder' (by (with_reducible repeat (first | apply Kd.R_alloc | apply Kd.R_drewN | apply Kd.R_drew)); exact HO601.out) (Kd.R_base ho0) hb); have n2_ := Aside0.mk (Kd.R_lower (Kd.R_new' (Kd.R_new' (Kd.R_mono (ok' := fun k_ => True) ho0 (fun _ hk_ => trivial)) (Kd.R_lt (by (with_reducible repeat (first | apply Kd.R_alloc | apply Kd.R_drewN | apply Kd.R_drew)); exact HO598.out))) (Kd.R_lt (by (with_reducible repeat (first | apply Kd.R_alloc | apply Kd.R_drewN | apply Kd.R_drew)); exact HO601.out))) (below_size (by repeat (first | (with_reducible first | exact HB.out | apply below_alloc | apply pw_below_drewN | apply below_drew1) | exact HB.out)))); have n3_ := Aside0.mk (below_step (by repeat (first | (with_reducible first | exact HB.out | apply below_alloc | apply pw_below_drewN | apply below_drew1) | exact HB.out)) hb); clear HO598; clear HO601; clear HB; have HO598 := n0_; have HO601 := n1_; have HO605 := n2_; have HB := n3_; clear n0_ n1_ n2_ n3_; (try clear hb); (try clear hb2); (try clear hk); (try clear hi); (try clear ho0); obtain ⟨Ao69, co69, eo69⟩ := Kd.R_slice HO605.out; subst eo69; obtain ⟨Ao70, co70, eo70⟩ := Kd.R_slice HO601.out; subst eo70) | ((with_reducible refine gate_callee (f := 13) rfl ?_); refine goesL_ (some 50) rfl rfl Try.func13 (by kernel_rfl) rfl #[.slice Ao69 t603.length co69, .slice Ao70 t599.length co70] rfl (by (try simp only [List.map_toArray, List.map_cons, List.map_nil]); first | done | rfl | (simp only [List.length_drop, List.length_take]; rfl)) ?_; (with_reducible refine (nat_Add.calls kj4 (fun k_ => some k_ = (.slice Ao69 t603.length co69 : Value).ownBlock) _ _ t603 (fun k_ => some k_ = (.slice Ao70 t599.length co70 : Value).ownBlock) _ _ t599 t607 t610 _ ?side1 ?side2 A11.out).mono ?_); (case side1 => exact Kd.R_V (Kd.R_tight rfl (HO605.out))); (case side2 => exact Kd.R_V (Kd.R_tight rfl (HO601.out))); rintro e w71 ⟨v608, rfl, ho0, hb⟩; refine ⟨_, rfl, ?_⟩; have n0_ := Aside0.mk (Kd.R_elder' (by (with_reducible repeat (first | apply Kd.R_alloc | apply Kd.R_drewN | apply Kd.R_drew)); exact HO598.out) (Kd.R_base ho0) hb); have n1_ := Aside0.mk (Kd.R_elder' (by (with_reducible repeat (first | apply Kd.R_alloc | apply Kd.R_drewN | apply Kd.R_drew)); exact HO601.out) (Kd.R_base ho0) hb); have n2_ := Aside0.mk (Kd.R_elder' (by (with_reducible repeat (first | apply Kd.R_alloc | apply Kd.R_drewN | apply Kd.R_drew)); exact HO605.out) (Kd.R_base ho0) hb); have n3_ := Aside0.mk (Kd.R_lower (Kd.R_new' (Kd.R_new' (Kd.R_new' (Kd.R_mono (ok' := fun k_ => True) ho0 (fun _ hk_ => trivial)) (Kd.R_lt (by (with_reducible repeat (first | apply Kd.R_alloc | apply Kd.R_drewN | apply Kd.R_drew)); exact HO598.out))) (Kd.R_lt (by (with_reducible repeat (first | apply Kd.R_alloc | apply Kd.R_drewN | apply Kd.R_drew)); exact HO601.out))) (Kd.R_lt (by (with_reducible repeat (first | apply Kd.R_alloc | apply Kd.R_drewN | apply Kd.R_drew)); exact HO605.out))) (below_size (by repeat (first | (with_reducible first | exact HB.out | apply below_alloc | apply pw_below_drewN | apply below_drew1) | exact HB.out)))); have n4_ := Aside0.mk (below_step (by repeat (first | (with_reducible first | exact HB.out | apply below_alloc | apply pw_below_drewN | apply below_drew1) | exact HB.out)) hb); clear HO598; clear HO601; clear HO605; clear HB; have HO598 := n0_; have HO601 := n1_; have HO605 := n2_; have HO609 := n3_; have HB := n4_; clear n0_ n1_ n2_ n3_ n4_; (try clear hb); (try clear hb2); (try clear hk); (try clear hi); (try clear ho0); obtain ⟨Ao72, co72, eo72⟩ := Kd.R_slice HO609.out; subst eo72) | ((with_reducible refine gate_callee (f := 12) rfl ?_); refine goesL_ (some 55) rfl rfl Try.func12 (by kernel_rfl) rfl #[.slice Ao72 t607.length co72, .slice A0 l0.length c0] rfl (by (try simp only [List.map_toArray, List.map_cons, List.map_nil]); first | done | rfl | (simp only [List.length_drop, List.length_take]; rfl)) ?_; (with_reducible refine (windbreakref01_Same.calls kj4 _ _ t607 _ _ l0 t611 _ ?side1 ?side2 ?side3 ?side4 A12.out).mono ?_); (case side1 => repeat (first | exact (Kd.R_reads' HO609.out).2.2 | (with_reducible refine Kd.C_alloc ?_ _) | (with_reducible refine Kd.C_drewN ?_ _) | (with_reducible refine Kd.C_drew ?_))); (case side2 => exact (Kd.R_reads' HO609.out).2.1); (case side3 => repeat (first | exact (Kd.C_below HR0.out HB.out) | (with_reducible refine Kd.C_alloc ?_ _) | (with_reducible refine Kd.C_drewN ?_ _) | (with_reducible refine Kd.C_drew ?_))); (case side4 => exact HC0.out); rintro e w' ⟨rfl, ⟨nd, rfl⟩⟩; refine ⟨_, rfl, ?_⟩) | ((with_reducible refine gate_callee (f := 21) rfl ?_); refine goesL_ (some 58) rfl rfl Try.func21 (by kernel_rfl) rfl #[.slice Ao70 t599.length co70, .slice A1 l1.length c1] rfl (by (try simp only [List.map_toArray, List.map_cons, List.map_nil]); first | done | rfl | (simp only [List.length_drop, List.length_take]; rfl)) ?_; (with_reducible refine (nat_Cmp.calls kj4 (fun k_ => some k_ = (.slice Ao70 t599.length co70 : Value).ownBlock) _ _ t599 (fun k_ => k_ < w.heap.size) _ _ l1 t612 _ ?side1 ?side2 A13.out).mono ?_); (case side1 => exact Kd.R_V (Kd.R_tight rfl (HO601.out))); (case side2 => exact Kd.V_mk HC1.out (Kd.F_below (Kd.C_F (Kd.heap_int .u64) HR1.out) (by repeat (first | (with_reducible first | exact HB.out | apply below_alloc | apply pw_below_drewN | apply below_drew1) | exact HB.out)))); rintro e w73 ⟨rfl, hb⟩; refine ⟨_, rfl, ?_⟩; have n0_ := Aside0.mk (Kd.R_below (by (with_reducible repeat (first | apply Kd.R_alloc | apply Kd.R_drewN | apply Kd.R_drew)); exact HO598.out) hb); have n1_ := Aside0.mk (Kd.R_below (by (with_reducible repeat (first | apply Kd.R_alloc | apply Kd.R_drewN | apply Kd.R_drew)); exact HO601.out) hb); have n2_ := Aside0.mk (Kd.R_below (by (with_reducible repeat (first | apply Kd.R_alloc | apply Kd.R_drewN | apply Kd.R_drew)); exact HO605.out) hb); have n3_ := Aside0.mk (Kd.R_below (by (with_reducible repeat (first | apply Kd.R_alloc | apply Kd.R_drewN | apply Kd.R_drew)); exact HO609.out) hb); have n4_ := Aside0.mk (below_step (by repeat (first | (with_reducible first | exact HB.out | apply below_alloc | apply pw_below_drewN | apply below_drew1) | exact HB.out)) hb); clear HO598; clear HO601; clear HO605; clear HO609; clear HB; have HO598 := n0_; have HO601 := n1_; have HO605 := n2_; have HO609 := n3_; have HB := n4_; clear n0_ n1_ n2_ n3_ n4_; (try clear hb); (try clear hb2); (try clear hk); (try clear hi)) | ((with_reducible refine gate_dst (N := 61) rfl ?_); (try (refine gate_guard (by rfl) ?_; dsimp only)); refine Kd.R_lit (Kd.int .u64) _ 29 ?hg (N := 61) ?hd (xs := ([1] : List Int)) (inner := [.int .u64 1]) (ok := fun _ => True) (okp := fun _ => True) ?hr ?hp (fun _ hk => hk) trivial (Below.refl _ _) (Nat.le_refl _) (by simp) ?_; (case hd => rfl); (case hg => rfl); (case hr => first | (go_simp; done) | (go_simp; rfl) | (go_simp; simp only [u64_u8]; done) | (go_simp; simp only [u64_u8]; rfl)); (case hp => exact (Reps.one (show Kd.M (Kd.int .u64) _ _ _ 1 [.int .u64 1] from rfl) (Reps.none _ _))); intro v614 w74 ho75 hb hg_ hnew_; clear hg_ hnew_; (first | rw [← Ny613.out] at ho75 | (simp only [Int.reduceToNat] at ho75; rw [← Ny613.out] at ho75)); have n0_ := Aside0.mk (Kd.R_elder' (by (with_reducible repeat (first | apply Kd.R_alloc | apply Kd.R_drewN | apply Kd.R_drew)); exact HO598.out) (Kd.R_base ho75) hb); have n1_ := Aside0.mk (Kd.R_elder' (by (with_reducible repeat (first | apply Kd.R_alloc | apply Kd.R_drewN | apply Kd.R_drew)); exact HO601.out) (Kd.R_base ho75) hb); have n2_ := Aside0.mk (Kd.R_elder' (by (with_reducible repeat (first | apply Kd.R_alloc | apply Kd.R_drewN | apply Kd.R_drew)); exact HO605.out) (Kd.R_base ho75) hb); have n3_ := Aside0.mk (Kd.R_elder' (by (with_reducible repeat (first | apply Kd.R_alloc | apply Kd.R_drewN | apply Kd.R_drew)); exact HO609.out) (Kd.R_base ho75) hb); have n4_ := Aside0.mk (Kd.R_lower (Kd.R_new' (Kd.R_new' (Kd.R_new' (Kd.R_new' ho75 (Kd.R_lt (by (with_reducible repeat (first | apply Kd.R_alloc | apply Kd.R_drewN | apply Kd.R_drew)); exact HO598.out))) (Kd.R_lt (by (with_reducible repeat (first | apply Kd.R_alloc | apply Kd.R_drewN | apply Kd.R_drew)); exact HO601.out))) (Kd.R_lt (by (with_reducible repeat (first | apply Kd.R_alloc | apply Kd.R_drewN | apply Kd.R_drew)); exact HO605.out))) (Kd.R_lt (by (with_reducible repeat (first | apply Kd.R_alloc | apply Kd.R_drewN | apply Kd.R_drew)); exact HO609.out))) (below_size (by repeat (first | (with_reducible first | exact HB.out | apply below_alloc | apply pw_below_drewN | apply below_drew1) | exact HB.out)))); have n5_ := Aside0.mk (below_step (by repeat (first | (with_reducible first | exact HB.out | apply below_alloc | apply pw_below_drewN | apply below_drew1) | exact HB.out)) hb); clear HO598; clear HO601; clear HO605; clear HO609; clear HB; have HO598 := n0_; have HO601 := n1_; have HO605 := n2_; have HO609 := n3_; have HO615 := n4_; have HB := n5_; clear n0_ n1_ n2_ n3_ n4_ n5_; clear hb ho75) | ((with_reducible refine gate_dst (N := 62) rfl ?_); (try (refine gate_guard (by rfl) ?_; dsimp only)); refine Kd.R_lit (Kd.int .u64) _ 29 ?hg (N := 62) ?hd (xs := ([1] : List Int)) (inner := [.int .u64 1]) (ok := fun _ => True) (okp := fun _ => True) ?hr ?hp (fun _ hk => hk) trivial (Below.refl _ _) (Nat.le_refl _) (by simp) ?_; (case hd => rfl); (case hg => rfl); (case hr => first | (go_simp; done) | (go_simp; rfl) | (go_simp; simp only [u64_u8]; done) | (go_simp; simp only [u64_u8]; rfl)); (case hp => exact (Reps.one (show Kd.M (Kd.int .u64) _ _ _ 1 [.int .u64 1] from rfl) (Reps.none _ _))); intro v617 w76 ho77 hb hg_ hnew_; clear hg_ hnew_; (first | rw [← Ny616.out] at ho77 | (simp only [Int.reduceToNat] at ho77; rw [← Ny616.out] at ho77)); have n0_ := Aside0.mk (Kd.R_elder' (by (with_reducible repeat (first | apply Kd.R_alloc | apply Kd.R_drewN | apply Kd.R_drew)); exact HO598.out) (Kd.R_base ho77) hb); have n1_ := Aside0.mk (Kd.R_elder' (by (with_reducible repeat (first | apply Kd.R_alloc | apply Kd.R_drewN | apply Kd.R_drew)); exact HO601.out) (Kd.R_base ho77) hb); have n2_ := Aside0.mk (Kd.R_elder' (by (with_reducible repeat (first | apply Kd.R_alloc | apply Kd.R_drewN | apply Kd.R_drew)); exact HO605.out) (Kd.R_base ho77) hb); have n3_ := Aside0.mk (Kd.R_elder' (by (with_reducible repeat (first | apply Kd.R_alloc | apply Kd.R_drewN | apply Kd.R_drew)); exact HO609.out) (Kd.R_base ho77) hb); have n4_ := Aside0.mk (Kd.R_elder' (by (with_reducible repeat (first | apply Kd.R_alloc | apply Kd.R_drewN | apply Kd.R_drew)); exact HO615.out) (Kd.R_base ho77) hb); have n5_ := Aside0.mk (Kd.R_lower (Kd.R_new' (Kd.R_new' (Kd.R_new' (Kd.R_new' (Kd.R_new' ho77 (Kd.R_lt (by (with_reducible repeat (first | apply Kd.R_alloc | apply Kd.R_drewN | apply Kd.R_drew)); exact HO598.out))) (Kd.R_lt (by (with_reducible repeat (first | apply Kd.R_alloc | apply Kd.R_drewN | apply Kd.R_drew)); exact HO601.out))) (Kd.R_lt (by (with_reducible repeat (first | apply Kd.R_alloc | apply Kd.R_drewN | apply Kd.R_drew)); exact HO605.out))) (Kd.R_lt (by (with_reducible repeat (first | apply Kd.R_alloc | apply Kd.R_drewN | apply Kd.R_drew)); exact HO609.out))) (Kd.R_lt (by (with_reducible repeat (first | apply Kd.R_alloc | apply Kd.R_drewN | apply Kd.R_drew)); exact HO615.out))) (below_size (by repeat (first | (with_reducible first | exact HB.out | apply below_alloc | apply pw_below_drewN | apply below_drew1) | exact HB.out)))); have n6_ := Aside0.mk (below_step (by repeat (first | (with_reducible first | exact HB.out | apply below_alloc | apply pw_below_drewN | apply below_drew1) | exact HB.out)) hb); clear HO598; clear HO601; clear HO605; clear HO609; clear HO615; clear HB; have HO598 := n0_; have HO601 := n1_; have HO605 := n2_; have HO609 := n3_; have HO615 := n4_; have HO618 := n5_; have HB := n6_; clear n0_ n1_ n2_ n3_ n4_ n5_ n6_; clear hb ho77; obtain ⟨Ao78, co78, eo78⟩ := Kd.R_slice HO615.out; subst eo78; obtain ⟨Ao79, co79, eo79⟩ := Kd.R_slice HO618.out; subst eo79) | ((with_reducible refine gate_callee (f := 19) rfl ?_); refine goesL_ (some 63) rfl rfl Try.func19 (by kernel_rfl) rfl #[.slice Ao78 y613.length co78, .slice Ao79 y616.length co79] rfl (by (try simp only [List.map_toArray, List.map_cons, List.map_nil]); first | done | rfl | (simp only [List.length_drop, List.length_take]; rfl)) ?_; (with_reducible refine (nat_Div.calls kj4 (fun k_ => some k_ = (.slice Ao78 y613.length co78 : Value).ownBlock) _ _ y613 (fun k_ => some k_ = (.slice Ao79 y616.length co79 : Value).ownBlock) _ _ y616 t619 t622 t625 _ ?side1 ?side2 A14.out).mono ?_); (case side1 => exact Kd.R_V (Kd.R_tight rfl (HO615.out))); (case side2 => exact Kd.R_V (Kd.R_tight rfl (HO618.out))); rintro e w80 ⟨v620, v623, rfl, ho0, ho1, hb⟩; refine ⟨_, rfl, ?_⟩; have n0_ := Aside0.mk (Kd.R_mono (Kd.R_told (Kd.R_told (Kd.R_old (by (with_reducible repeat (first | apply Kd.R_alloc | apply Kd.R_drewN | apply Kd.R_drew)); exact HO598.out) hb) (Kd.R_base ho0)) (Kd.R_base ho1)) (fun _ h_ => h_.1)); have n1_ := Aside0.mk (Kd.R_mono (Kd.R_told (Kd.R_told (Kd.R_old (by (with_reducible repeat (first | apply Kd.R_alloc | apply Kd.R_drewN | apply Kd.R_drew)); exact HO601.out) hb) (Kd.R_base ho0)) (Kd.R_base ho1)) (fun _ h_ => h_.1)); have n2_ := Aside0.mk (Kd.R_mono (Kd.R_told (Kd.R_told (Kd.R_old (by (with_reducible repeat (first | apply Kd.R_alloc | apply Kd.R_drewN | apply Kd.R_drew)); exact HO605.out) hb) (Kd.R_base ho0)) (Kd.R_base ho1)) (fun _ h_ => h_.1)); have n3_ := Aside0.mk (Kd.R_mono (Kd.R_told (Kd.R_told (Kd.R_old (by (with_reducible repeat (first | apply Kd.R_alloc | apply Kd.R_drewN | apply Kd.R_drew)); exact HO609.out) hb) (Kd.R_base ho0)) (Kd.R_base ho1)) (fun _ h_ => h_.1)); have n4_ := Aside0.mk (Kd.R_mono (Kd.R_told (Kd.R_told (Kd.R_old (by (with_reducible repeat (first | apply Kd.R_alloc | apply Kd.R_drewN | apply Kd.R_drew)); exact HO615.out) hb) (Kd.R_base ho0)) (Kd.R_base ho1)) (fun _ h_ => h_.1)); have n5_ := Aside0.mk (Kd.R_mono (Kd.R_told (Kd.R_told (Kd.R_old (by (with_reducible repeat (first | apply Kd.R_alloc | apply Kd.R_drewN | apply Kd.R_drew)); exact HO618.out) hb) (Kd.R_base ho0)) (Kd.R_base ho1)) (fun _ h_ => h_.1)); have n6_ := Aside0.mk (Kd.R_lower (Kd.R_new' (Kd.R_new' (Kd.R_new' (Kd.R_new' (Kd.R_new' (Kd.R_new' (Kd.R_mono (ok' := fun k_ => some k_ ≠ (v623 : Value).ownBlock) ho0 (fun _ hk_ => hk_.2)) (Kd.R_lt (by (with_reducible repeat (first | apply Kd.R_alloc | apply Kd.R_drewN | apply Kd.R_drew)); exact HO598.out))) (Kd.R_lt (by (with_reducible repeat (first | apply Kd.R_alloc | apply Kd.R_drewN | apply Kd.R_drew)); exact HO601.out))) (Kd.R_lt (by (with_reducible repeat (first | apply Kd.R_alloc | apply Kd.R_drewN | apply Kd.R_drew)); exact HO605.out))) (Kd.R_lt (by (with_reducible repeat (first | apply Kd.R_alloc | apply Kd.R_drewN | apply Kd.R_drew)); exact HO609.out))) (Kd.R_lt (by (with_reducible repeat (first | apply Kd.R_alloc | apply Kd.R_drewN | apply Kd.R_drew)); exact HO615.out))) (Kd.R_lt (by (with_reducible repeat (first | apply Kd.R_alloc | apply Kd.R_drewN | apply Kd.R_drew)); exact HO618.out))) (below_size (by repeat (first | (with_reducible first | exact HB.out | apply below_alloc | apply pw_below_drewN | apply below_drew1) | exact HB.out)))); have n7_ := Aside0.mk (Kd.R_lower (Kd.R_new' (Kd.R_new' (Kd.R_new' (Kd.R_new' (Kd.R_new' (Kd.R_new' (Kd.R_mono (ok' := fun k_ => some k_ ≠ (v620 : Value).ownBlock) ho1 (fun _ hk_ => hk_.2)) (Kd.R_lt (by (with_reducible repeat (first | apply Kd.R_alloc | apply Kd.R_drewN | apply Kd.R_drew)); exact HO598.out))) (Kd.R_lt (by (with_reducible repeat (first | apply Kd.R_alloc | apply Kd.R_drewN | apply Kd.R_drew)); exact HO601.out))) (Kd.R_lt (by (with_reducible repeat (first | apply Kd.R_alloc | apply Kd.R_drewN | apply Kd.R_drew)); exact HO605.out))) (Kd.R_lt (by (with_reducible repeat (first | apply Kd.R_alloc | apply Kd.R_drewN | apply Kd.R_drew)); exact HO609.out))) (Kd.R_lt (by (with_reducible repeat (first | apply Kd.R_alloc | apply Kd.R_drewN | apply Kd.R_drew)); exact HO615.out))) (Kd.R_lt (by (with_reducible repeat (first | apply Kd.R_alloc | apply Kd.R_drewN | apply Kd.R_drew)); exact HO618.out))) (below_size (by repeat (first | (with_reducible first | exact HB.out | apply below_alloc | apply pw_below_drewN | apply below_drew1) | exact HB.out)))); have n8_ := Aside0.mk (below_step (by repeat (first | (with_reducible first | exact HB.out | apply below_alloc | apply pw_below_drewN | apply below_drew1) | exact HB.out)) hb); clear HO598; clear HO601; clear HO605; clear HO609; clear HO615; clear HO618; clear HB; have HO598 := n0_; have HO601 := n1_; have HO605 := n2_; have HO609 := n3_; have HO615 := n4_; have HO618 := n5_; have HO621 := n6_; have HO624 := n7_; have HB := n8_; clear n0_ n1_ n2_ n3_ n4_ n5_ n6_ n7_ n8_; (try clear hb); (try clear hb2); (try clear hk); (try clear hi); (try clear ho0); (try clear ho1)))
              go_ret
              exact ⟨by first | rfl | (simp [errW_none, errW_some] <;> rfl) | (simp [*, errW_none, errW_some] <;> rfl), by repeat (first | (with_reducible first | exact HB.out | apply below_alloc | apply pw_below_drewN | apply below_drew1) | exact HB.out)⟩
          · rw [if_neg c16] at H
            have c16b0 : (t606 == 0) = false := beq_eq_false_iff_ne.mpr c16
            have c16b1 : (t606 != 0) = true := bne_iff_ne.mpr c16
            obtain rfl := Option.some.inj H
            go_wp2_with (first | ((with_reducible refine gate_callee (f := 19) rfl ?_); refine goesL_ (some 37) rfl rfl Try.func19 (by kernel_rfl) rfl #[.slice A0 l0.length c0, .slice A1 l1.length c1] rfl (by (try simp only [List.map_toArray, List.map_cons, List.map_nil]); first | done | rfl | (simp only [List.length_drop, List.length_take]; rfl)) ?_; (with_reducible refine (nat_Div.calls kj4 (fun k_ => k_ < w.heap.size) _ _ l0 (fun k_ => k_ < w.heap.size) _ _ l1 t596 t599 t602 _ ?side1 ?side2 A9.out).mono ?_); (case side1 => exact Kd.V_mk HC0.out (Kd.F_below (Kd.C_F (Kd.heap_int .u64) HR0.out) (by repeat (first | (with_reducible first | exact HB.out | apply below_alloc | apply pw_below_drewN | apply below_drew1) | exact HB.out)))); (case side2 => exact Kd.V_mk HC1.out (Kd.F_below (Kd.C_F (Kd.heap_int .u64) HR1.out) (by repeat (first | (with_reducible first | exact HB.out | apply below_alloc | apply pw_below_drewN | apply below_drew1) | exact HB.out)))); rintro e w81 ⟨v597, v600, rfl, ho0, ho1, hb⟩; refine ⟨_, rfl, ?_⟩; have n0_ := Aside0.mk (Kd.R_lower (Kd.R_mono (ok' := fun k_ => some k_ ≠ (v600 : Value).ownBlock) ho0 (fun _ hk_ => hk_.2)) (below_size (by repeat (first | (with_reducible first | exact HB.out | apply below_alloc | apply pw_below_drewN | apply below_drew1) | exact HB.out)))); have n1_ := Aside0.mk (Kd.R_lower (Kd.R_mono (ok' := fun k_ => some k_ ≠ (v597 : Value).ownBlock) ho1 (fun _ hk_ => hk_.2)) (below_size (by repeat (first | (with_reducible first | exact HB.out | apply below_alloc | apply pw_below_drewN | apply below_drew1) | exact HB.out)))); have n2_ := Aside0.mk (below_step (by repeat (first | (with_reducible first | exact HB.out | apply below_alloc | apply pw_below_drewN | apply below_drew1) | exact HB.out)) hb); clear HB; have HO598 := n0_; have HO601 := n1_; have HB := n2_; clear n0_ n1_ n2_; (try clear hb); (try clear hb2); (try clear hk); (try clear hi); (try clear ho0); (try clear ho1); obtain ⟨Ao82, co82, eo82⟩ := Kd.R_slice HO598.out; subst eo82) | ((with_reducible refine gate_callee (f := 10) rfl ?_); refine goesL_ (some 44) rfl rfl Try.func10 (by kernel_rfl) rfl #[.slice Ao82 t596.length co82, .slice A1 l1.length c1] rfl (by (try simp only [List.map_toArray, List.map_cons, List.map_nil]); first | done | rfl | (simp only [List.length_drop, List.length_take]; rfl)) ?_; (with_reducible refine (nat_Mul.calls kj4 (fun k_ => some k_ = (.slice Ao82 t596.length co82 : Value).ownBlock) _ _ t596 (fun k_ => k_ < w.heap.size) _ _ l1 t603 t606 _ ?side1 ?side2 A10.out).mono ?_); (case side1 => exact Kd.R_V (Kd.R_tight rfl (HO598.out))); (case side2 => exact Kd.V_mk HC1.out (Kd.F_below (Kd.C_F (Kd.heap_int .u64) HR1.out) (by repeat (first | (with_reducible first | exact HB.out | apply below_alloc | apply pw_below_drewN | apply below_drew1) | exact HB.out)))); rintro e w83 ⟨v604, rfl, ho0, hb⟩; refine ⟨_, rfl, ?_⟩; have n0_ := Aside0.mk (Kd.R_elder' (by (with_reducible repeat (first | apply Kd.R_alloc | apply Kd.R_drewN | apply Kd.R_drew)); exact HO598.out) (Kd.R_base ho0) hb); have n1_ := Aside0.mk (Kd.R_elder' (by (with_reducible repeat (first | apply Kd.R_alloc | apply Kd.R_drewN | apply Kd.R_drew)); exact HO601.out) (Kd.R_base ho0) hb); have n2_ := Aside0.mk (Kd.R_lower (Kd.R_new' (Kd.R_new' (Kd.R_mono (ok' := fun k_ => True) ho0 (fun _ hk_ => trivial)) (Kd.R_lt (by (with_reducible repeat (first | apply Kd.R_alloc | apply Kd.R_drewN | apply Kd.R_drew)); exact HO598.out))) (Kd.R_lt (by (with_reducible repeat (first | apply Kd.R_alloc | apply Kd.R_drewN | apply Kd.R_drew)); exact HO601.out))) (below_size (by repeat (first | (with_reducible first | exact HB.out | apply below_alloc | apply pw_below_drewN | apply below_drew1) | exact HB.out)))); have n3_ := Aside0.mk (below_step (by repeat (first | (with_reducible first | exact HB.out | apply below_alloc | apply pw_below_drewN | apply below_drew1) | exact HB.out)) hb); clear HO598; clear HO601; clear HB; have HO598 := n0_; have HO601 := n1_; have HO605 := n2_; have HB := n3_; clear n0_ n1_ n2_ n3_; (try clear hb); (try clear hb2); (try clear hk); (try clear hi); (try clear ho0); obtain ⟨Ao84, co84, eo84⟩ := Kd.R_slice HO605.out; subst eo84; obtain ⟨Ao85, co85, eo85⟩ := Kd.R_slice HO601.out; subst eo85) | ((with_reducible refine gate_callee (f := 13) rfl ?_); refine goesL_ (some 50) rfl rfl Try.func13 (by kernel_rfl) rfl #[.slice Ao84 t603.length co84, .slice Ao85 t599.length co85] rfl (by (try simp only [List.map_toArray, List.map_cons, List.map_nil]); first | done | rfl | (simp only [List.length_drop, List.length_take]; rfl)) ?_; (with_reducible refine (nat_Add.calls kj4 (fun k_ => some k_ = (.slice Ao84 t603.length co84 : Value).ownBlock) _ _ t603 (fun k_ => some k_ = (.slice Ao85 t599.length co85 : Value).ownBlock) _ _ t599 t607 t610 _ ?side1 ?side2 A11.out).mono ?_); (case side1 => exact Kd.R_V (Kd.R_tight rfl (HO605.out))); (case side2 => exact Kd.R_V (Kd.R_tight rfl (HO601.out))); rintro e w86 ⟨v608, rfl, ho0, hb⟩; refine ⟨_, rfl, ?_⟩; have n0_ := Aside0.mk (Kd.R_elder' (by (with_reducible repeat (first | apply Kd.R_alloc | apply Kd.R_drewN | apply Kd.R_drew)); exact HO598.out) (Kd.R_base ho0) hb); have n1_ := Aside0.mk (Kd.R_elder' (by (with_reducible repeat (first | apply Kd.R_alloc | apply Kd.R_drewN | apply Kd.R_drew)); exact HO601.out) (Kd.R_base ho0) hb); have n2_ := Aside0.mk (Kd.R_elder' (by (with_reducible repeat (first | apply Kd.R_alloc | apply Kd.R_drewN | apply Kd.R_drew)); exact HO605.out) (Kd.R_base ho0) hb); have n3_ := Aside0.mk (Kd.R_lower (Kd.R_new' (Kd.R_new' (Kd.R_new' (Kd.R_mono (ok' := fun k_ => True) ho0 (fun _ hk_ => trivial)) (Kd.R_lt (by (with_reducible repeat (first | apply Kd.R_alloc | apply Kd.R_drewN | apply Kd.R_drew)); exact HO598.out))) (Kd.R_lt (by (with_reducible repeat (first | apply Kd.R_alloc | apply Kd.R_drewN | apply Kd.R_drew)); exact HO601.out))) (Kd.R_lt (by (with_reducible repeat (first | apply Kd.R_alloc | apply Kd.R_drewN | apply Kd.R_drew)); exact HO605.out))) (below_size (by repeat (first | (with_reducible first | exact HB.out | apply below_alloc | apply pw_below_drewN | apply below_drew1) | exact HB.out)))); have n4_ := Aside0.mk (below_step (by repeat (first | (with_reducible first | exact HB.out | apply below_alloc | apply pw_below_drewN | apply below_drew1) | exact HB.out)) hb); clear HO598; clear HO601; clear HO605; clear HB; have HO598 := n0_; have HO601 := n1_; have HO605 := n2_; have HO609 := n3_; have HB := n4_; clear n0_ n1_ n2_ n3_ n4_; (try clear hb); (try clear hb2); (try clear hk); (try clear hi); (try clear ho0); obtain ⟨Ao87, co87, eo87⟩ := Kd.R_slice HO609.out; subst eo87) | ((with_reducible refine gate_callee (f := 12) rfl ?_); refine goesL_ (some 55) rfl rfl Try.func12 (by kernel_rfl) rfl #[.slice Ao87 t607.length co87, .slice A0 l0.length c0] rfl (by (try simp only [List.map_toArray, List.map_cons, List.map_nil]); first | done | rfl | (simp only [List.length_drop, List.length_take]; rfl)) ?_; (with_reducible refine (windbreakref01_Same.calls kj4 _ _ t607 _ _ l0 t611 _ ?side1 ?side2 ?side3 ?side4 A12.out).mono ?_); (case side1 => repeat (first | exact (Kd.R_reads' HO609.out).2.2 | (with_reducible refine Kd.C_alloc ?_ _) | (with_reducible refine Kd.C_drewN ?_ _) | (with_reducible refine Kd.C_drew ?_))); (case side2 => exact (Kd.R_reads' HO609.out).2.1); (case side3 => repeat (first | exact (Kd.C_below HR0.out HB.out) | (with_reducible refine Kd.C_alloc ?_ _) | (with_reducible refine Kd.C_drewN ?_ _) | (with_reducible refine Kd.C_drew ?_))); (case side4 => exact HC0.out); rintro e w' ⟨rfl, ⟨nd, rfl⟩⟩; refine ⟨_, rfl, ?_⟩) | ((with_reducible refine gate_callee (f := 21) rfl ?_); refine goesL_ (some 58) rfl rfl Try.func21 (by kernel_rfl) rfl #[.slice Ao85 t599.length co85, .slice A1 l1.length c1] rfl (by (try simp only [List.map_toArray, List.map_cons, List.map_nil]); first | done | rfl | (simp only [List.length_drop, List.length_take]; rfl)) ?_; (with_reducible refine (nat_Cmp.calls kj4 (fun k_ => some k_ = (.slice Ao85 t599.length co85 : Value).ownBlock) _ _ t599 (fun k_ => k_ < w.heap.size) _ _ l1 t612 _ ?side1 ?side2 A13.out).mono ?_); (case side1 => exact Kd.R_V (Kd.R_tight rfl (HO601.out))); (case side2 => exact Kd.V_mk HC1.out (Kd.F_below (Kd.C_F (Kd.heap_int .u64) HR1.out) (by repeat (first | (with_reducible first | exact HB.out | apply below_alloc | apply pw_below_drewN | apply below_drew1) | exact HB.out)))); rintro e w88 ⟨rfl, hb⟩; refine ⟨_, rfl, ?_⟩; have n0_ := Aside0.mk (Kd.R_below (by (with_reducible repeat (first | apply Kd.R_alloc | apply Kd.R_drewN | apply Kd.R_drew)); exact HO598.out) hb); have n1_ := Aside0.mk (Kd.R_below (by (with_reducible repeat (first | apply Kd.R_alloc | apply Kd.R_drewN | apply Kd.R_drew)); exact HO601.out) hb); have n2_ := Aside0.mk (Kd.R_below (by (with_reducible repeat (first | apply Kd.R_alloc | apply Kd.R_drewN | apply Kd.R_drew)); exact HO605.out) hb); have n3_ := Aside0.mk (Kd.R_below (by (with_reducible repeat (first | apply Kd.R_alloc | apply Kd.R_drewN | apply Kd.R_drew)); exact HO609.out) hb); have n4_ := Aside0.mk (below_step (by repeat (first | (with_reducible first | exact HB.out | apply below_alloc | apply pw_below_drewN | apply below_drew1) | exact HB.out)) hb); clear HO598; clear HO601; clear HO605; clear HO609; clear HB; have HO598 := n0_; have HO601 := n1_; have HO605 := n2_; have HO609 := n3_; have HB := n4_; clear n0_ n1_ n2_ n3_ n4_; (try clear hb); (try clear hb2); (try clear hk); (try clear hi)) | ((with_reducible refine gate_dst (N := 61) rfl ?_); (try (refine gate_guard (by rfl) ?_; dsimp only)); refine Kd.R_lit (Kd.int .u64) _ 29 ?hg (N := 61) ?hd (xs := ([1] : List Int)) (inner := [.int .u64 1]) (ok := fun _ => True) (okp := fun _ => True) ?hr ?hp (fun _ hk => hk) trivial (Below.refl _ _) (Nat.le_refl _) (by simp) ?_; (case hd => rfl); (case hg => rfl); (case hr => first | (go_simp; done) | (go_simp; rfl) | (go_simp; simp only [u64_u8]; done) | (go_simp; simp only [u64_u8]; rfl)); (case hp => exact (Reps.one (show Kd.M (Kd.int .u64) _ _ _ 1 [.int .u64 1] from rfl) (Reps.none _ _))); intro v614 w89 ho90 hb hg_ hnew_; clear hg_ hnew_; (first | rw [← Ny613.out] at ho90 | (simp only [Int.reduceToNat] at ho90; rw [← Ny613.out] at ho90)); have n0_ := Aside0.mk (Kd.R_elder' (by (with_reducible repeat (first | apply Kd.R_alloc | apply Kd.R_drewN | apply Kd.R_drew)); exact HO598.out) (Kd.R_base ho90) hb); have n1_ := Aside0.mk (Kd.R_elder' (by (with_reducible repeat (first | apply Kd.R_alloc | apply Kd.R_drewN | apply Kd.R_drew)); exact HO601.out) (Kd.R_base ho90) hb); have n2_ := Aside0.mk (Kd.R_elder' (by (with_reducible repeat (first | apply Kd.R_alloc | apply Kd.R_drewN | apply Kd.R_drew)); exact HO605.out) (Kd.R_base ho90) hb); have n3_ := Aside0.mk (Kd.R_elder' (by (with_reducible repeat (first | apply Kd.R_alloc | apply Kd.R_drewN | apply Kd.R_drew)); exact HO609.out) (Kd.R_base ho90) hb); have n4_ := Aside0.mk (Kd.R_lower (Kd.R_new' (Kd.R_new' (Kd.R_new' (Kd.R_new' ho90 (Kd.R_lt (by (with_reducible repeat (first | apply Kd.R_alloc | apply Kd.R_drewN | apply Kd.R_drew)); exact HO598.out))) (Kd.R_lt (by (with_reducible repeat (first | apply Kd.R_alloc | apply Kd.R_drewN | apply Kd.R_drew)); exact HO601.out))) (Kd.R_lt (by (with_reducible repeat (first | apply Kd.R_alloc | apply Kd.R_drewN | apply Kd.R_drew)); exact HO605.out))) (Kd.R_lt (by (with_reducible repeat (first | apply Kd.R_alloc | apply Kd.R_drewN | apply Kd.R_drew)); exact HO609.out))) (below_size (by repeat (first | (with_reducible first | exact HB.out | apply below_alloc | apply pw_below_drewN | apply below_drew1) | exact HB.out)))); have n5_ := Aside0.mk (below_step (by repeat (first | (with_reducible first | exact HB.out | apply below_alloc | apply pw_below_drewN | apply below_drew1) | exact HB.out)) hb); clear HO598; clear HO601; clear HO605; clear HO609; clear HB; have HO598 := n0_; have HO601 := n1_; have HO605 := n2_; have HO609 := n3_; have HO615 := n4_; have HB := n5_; clear n0_ n1_ n2_ n3_ n4_ n5_; clear hb ho90) | ((with_reducible refine gate_dst (N := 62) rfl ?_); (try (refine gate_guard (by rfl) ?_; dsimp only)); refine Kd.R_lit (Kd.int .u64) _ 29 ?hg (N := 62) ?hd (xs := ([1] : List Int)) (inner := [.int .u64 1]) (ok := fun _ => True) (okp := fun _ => True) ?hr ?hp (fun _ hk => hk) trivial (Below.refl _ _) (Nat.le_refl _) (by simp) ?_; (case hd => rfl); (case hg => rfl); (case hr => first | (go_simp; done) | (go_simp; rfl) | (go_simp; simp only [u64_u8]; done) | (go_simp; simp only [u64_u8]; rfl)); (case hp => exact (Reps.one (show Kd.M (Kd.int .u64) _ _ _ 1 [.int .u64 1] from rfl) (Reps.none _ _))); intro v617 w91 ho92 hb hg_ hnew_; clear hg_ hnew_; (first | rw [← Ny616.out] at ho92 | (simp only [Int.reduceToNat] at ho92; rw [← Ny616.out] at ho92)); have n0_ := Aside0.mk (Kd.R_elder' (by (with_reducible repeat (first | apply Kd.R_alloc | apply Kd.R_drewN | apply Kd.R_drew)); exact HO598.out) (Kd.R_base ho92) hb); have n1_ := Aside0.mk (Kd.R_elder' (by (with_reducible repeat (first | apply Kd.R_alloc | apply Kd.R_drewN | apply Kd.R_drew)); exact HO601.out) (Kd.R_base ho92) hb); have n2_ := Aside0.mk (Kd.R_elder' (by (with_reducible repeat (first | apply Kd.R_alloc | apply Kd.R_drewN | apply Kd.R_drew)); exact HO605.out) (Kd.R_base ho92) hb); have n3_ := Aside0.mk (Kd.R_elder' (by (with_reducible repeat (first | apply Kd.R_alloc | apply Kd.R_drewN | apply Kd.R_drew)); exact HO609.out) (Kd.R_base ho92) hb); have n4_ := Aside0.mk (Kd.R_elder' (by (with_reducible repeat (first | apply Kd.R_alloc | apply Kd.R_drewN | apply Kd.R_drew)); exact HO615.out) (Kd.R_base ho92) hb); have n5_ := Aside0.mk (Kd.R_lower (Kd.R_new' (Kd.R_new' (Kd.R_new' (Kd.R_new' (Kd.R_new' ho92 (Kd.R_lt (by (with_reducible repeat (first | apply Kd.R_alloc | apply Kd.R_drewN | apply Kd.R_drew)); exact HO598.out))) (Kd.R_lt (by (with_reducible repeat (first | apply Kd.R_alloc | apply Kd.R_drewN | apply Kd.R_drew)); exact HO601.out))) (Kd.R_lt (by (with_reducible repeat (first | apply Kd.R_alloc | apply Kd.R_drewN | apply Kd.R_drew)); exact HO605.out))) (Kd.R_lt (by (with_reducible repeat (first | apply Kd.R_alloc | apply Kd.R_drewN | apply Kd.R_drew)); exact HO609.out))) (Kd.R_lt (by (with_reducible repeat (first | apply Kd.R_alloc | apply Kd.R_drewN | apply Kd.R_drew)); exact HO615.out))) (below_size (by repeat (first | (with_reducible first | exact HB.out | apply below_alloc | apply pw_below_drewN | apply below_drew1) | exact HB.out)))); have n6_ := Aside0.mk (below_step (by repeat (first | (with_reducible first | exact HB.out | apply below_alloc | apply pw_below_drewN | apply below_drew1) | exact HB.out)) hb); clear HO598; clear HO601; clear HO605; clear HO609; clear HO615; clear HB; have HO598 := n0_; have HO601 := n1_; have HO605 := n2_; have HO609 := n3_; have HO615 := n4_; have HO618 := n5_; have HB := n6_; clear n0_ n1_ n2_ n3_ n4_ n5_ n6_; clear hb ho92; obtain ⟨Ao93, co93, eo93⟩ := Kd.R_slice HO615.out; subst eo93; obtain ⟨Ao94, co94, eo94⟩ := Kd.R_slice HO618.out; subst eo94) | ((with_reducible refine gate_callee (f := 19) rfl ?_); refine goesL_ (some 63) rfl rfl Try.func19 (by kernel_rfl) rfl #[.slice Ao93 y613.length co93, .slice Ao94 y616.length co94] rfl (by (try simp only [List.map_toArray, List.map_cons, List.map_nil]); first | done | rfl | (simp only [List.length_drop, List.length_take]; rfl)) ?_; (with_reducible refine (nat_Div.calls kj4 (fun k_ => some k_ = (.slice Ao93 y613.length co93 : Value).ownBlock) _ _ y613 (fun k_ => some k_ = (.slice Ao94 y616.length co94 : Value).ownBlock) _ _ y616 t619 t622 t625 _ ?side1 ?side2 A14.out).mono ?_); (case side1 => exact Kd.R_V (Kd.R_tight rfl (HO615.out))); (case side2 => exact Kd.R_V (Kd.R_tight rfl (HO618.out))); rintro e w95 ⟨v620, v623, rfl, ho0, ho1, hb⟩; refine ⟨_, rfl, ?_⟩; have n0_ := Aside0.mk (Kd.R_mono (Kd.R_told (Kd.R_told (Kd.R_old (by (with_reducible repeat (first | apply Kd.R_alloc | apply Kd.R_drewN | apply Kd.R_drew)); exact HO598.out) hb) (Kd.R_base ho0)) (Kd.R_base ho1)) (fun _ h_ => h_.1)); have n1_ := Aside0.mk (Kd.R_mono (Kd.R_told (Kd.R_told (Kd.R_old (by (with_reducible repeat (first | apply Kd.R_alloc | apply Kd.R_drewN | apply Kd.R_drew)); exact HO601.out) hb) (Kd.R_base ho0)) (Kd.R_base ho1)) (fun _ h_ => h_.1)); have n2_ := Aside0.mk (Kd.R_mono (Kd.R_told (Kd.R_told (Kd.R_old (by (with_reducible repeat (first | apply Kd.R_alloc | apply Kd.R_drewN | apply Kd.R_drew)); exact HO605.out) hb) (Kd.R_base ho0)) (Kd.R_base ho1)) (fun _ h_ => h_.1)); have n3_ := Aside0.mk (Kd.R_mono (Kd.R_told (Kd.R_told (Kd.R_old (by (with_reducible repeat (first | apply Kd.R_alloc | apply Kd.R_drewN | apply Kd.R_drew)); exact HO609.out) hb) (Kd.R_base ho0)) (Kd.R_base ho1)) (fun _ h_ => h_.1)); have n4_ := Aside0.mk (Kd.R_mono (Kd.R_told (Kd.R_told (Kd.R_old (by (with_reducible repeat (first | apply Kd.R_alloc | apply Kd.R_drewN | apply Kd.R_drew)); exact HO615.out) hb) (Kd.R_base ho0)) (Kd.R_base ho1)) (fun _ h_ => h_.1)); have n5_ := Aside0.mk (Kd.R_mono (Kd.R_told (Kd.R_told (Kd.R_old (by (with_reducible repeat (first | apply Kd.R_alloc | apply Kd.R_drewN | apply Kd.R_drew)); exact HO618.out) hb) (Kd.R_base ho0)) (Kd.R_base ho1)) (fun _ h_ => h_.1)); have n6_ := Aside0.mk (Kd.R_lower (Kd.R_new' (Kd.R_new' (Kd.R_new' (Kd.R_new' (Kd.R_new' (Kd.R_new' (Kd.R_mono (ok' := fun k_ => some k_ ≠ (v623 : Value).ownBlock) ho0 (fun _ hk_ => hk_.2)) (Kd.R_lt (by (with_reducible repeat (first | apply Kd.R_alloc | apply Kd.R_drewN | apply Kd.R_drew)); exact HO598.out))) (Kd.R_lt (by (with_reducible repeat (first | apply Kd.R_alloc | apply Kd.R_drewN | apply Kd.R_drew)); exact HO601.out))) (Kd.R_lt (by (with_reducible repeat (first | apply Kd.R_alloc | apply Kd.R_drewN | apply Kd.R_drew)); exact HO605.out))) (Kd.R_lt (by (with_reducible repeat (first | apply Kd.R_alloc | apply Kd.R_drewN | apply Kd.R_drew)); exact HO609.out))) (Kd.R_lt (by (with_reducible repeat (first | apply Kd.R_alloc | apply Kd.R_drewN | apply Kd.R_drew)); exact HO615.out))) (Kd.R_lt (by (with_reducible repeat (first | apply Kd.R_alloc | apply Kd.R_drewN | apply Kd.R_drew)); exact HO618.out))) (below_size (by repeat (first | (with_reducible first | exact HB.out | apply below_alloc | apply pw_below_drewN | apply below_drew1) | exact HB.out)))); have n7_ := Aside0.mk (Kd.R_lower (Kd.R_new' (Kd.R_new' (Kd.R_new' (Kd.R_new' (Kd.R_new' (Kd.R_new' (Kd.R_mono (ok' := fun k_ => some k_ ≠ (v620 : Value).ownBlock) ho1 (fun _ hk_ => hk_.2)) (Kd.R_lt (by (with_reducible repeat (first | apply Kd.R_alloc | apply Kd.R_drewN | apply Kd.R_drew)); exact HO598.out))) (Kd.R_lt (by (with_reducible repeat (first | apply Kd.R_alloc | apply Kd.R_drewN | apply Kd.R_drew)); exact HO601.out))) (Kd.R_lt (by (with_reducible repeat (first | apply Kd.R_alloc | apply Kd.R_drewN | apply Kd.R_drew)); exact HO605.out))) (Kd.R_lt (by (with_reducible repeat (first | apply Kd.R_alloc | apply Kd.R_drewN | apply Kd.R_drew)); exact HO609.out))) (Kd.R_lt (by (with_reducible repeat (first | apply Kd.R_alloc | apply Kd.R_drewN | apply Kd.R_drew)); exact HO615.out))) (Kd.R_lt (by (with_reducible repeat (first | apply Kd.R_alloc | apply Kd.R_drewN | apply Kd.R_drew)); exact HO618.out))) (below_size (by repeat (first | (with_reducible first | exact HB.out | apply below_alloc | apply pw_below_drewN | apply below_drew1) | exact HB.out)))); have n8_ := Aside0.mk (below_step (by repeat (first | (with_reducible first | exact HB.out | apply below_alloc | apply pw_below_drewN | apply below_drew1) | exact HB.out)) hb); clear HO598; clear HO601; clear HO605; clear HO609; clear HO615; clear HO618; clear HB; have HO598 := n0_; have HO601 := n1_; have HO605 := n2_; have HO609 := n3_; have HO615 := n4_; have HO618 := n5_; have HO621 := n6_; have HO624 := n7_; have HB := n8_; clear n0_ n1_ n2_ n3_ n4_ n5_ n6_ n7_ n8_; (try clear hb); (try clear hb2); (try clear hk); (try clear hi); (try clear ho0); (try clear ho1)))
            go_ret
            exact ⟨by first | rfl | (simp [errW_none, errW_some] <;> rfl) | (simp [*, errW_none, errW_some] <;> rfl), by repeat (first | (with_reducible first | exact HB.out | apply below_alloc | apply pw_below_drewN | apply below_drew1) | exact HB.out)⟩
        · rw [if_neg c15] at H
          have c15b0 : (t602 == 0) = false := beq_eq_false_iff_ne.mpr c15
          have c15b1 : (t602 != 0) = true := bne_iff_ne.mpr c15
          obtain rfl := Option.some.inj H
          go_wp2_with (first | ((with_reducible refine gate_callee (f := 19) rfl ?_); refine goesL_ (some 37) rfl rfl Try.func19 (by kernel_rfl) rfl #[.slice A0 l0.length c0, .slice A1 l1.length c1] rfl (by (try simp only [List.map_toArray, List.map_cons, List.map_nil]); first | done | rfl | (simp only [List.length_drop, List.length_take]; rfl)) ?_; (with_reducible refine (nat_Div.calls kj4 (fun k_ => k_ < w.heap.size) _ _ l0 (fun k_ => k_ < w.heap.size) _ _ l1 t596 t599 t602 _ ?side1 ?side2 A9.out).mono ?_); (case side1 => exact Kd.V_mk HC0.out (Kd.F_below (Kd.C_F (Kd.heap_int .u64) HR0.out) (by repeat (first | (with_reducible first | exact HB.out | apply below_alloc | apply pw_below_drewN | apply below_drew1) | exact HB.out)))); (case side2 => exact Kd.V_mk HC1.out (Kd.F_below (Kd.C_F (Kd.heap_int .u64) HR1.out) (by repeat (first | (with_reducible first | exact HB.out | apply below_alloc | apply pw_below_drewN | apply below_drew1) | exact HB.out)))); rintro e w96 ⟨v597, v600, rfl, ho0, ho1, hb⟩; refine ⟨_, rfl, ?_⟩; have n0_ := Aside0.mk (Kd.R_lower (Kd.R_mono (ok' := fun k_ => some k_ ≠ (v600 : Value).ownBlock) ho0 (fun _ hk_ => hk_.2)) (below_size (by repeat (first | (with_reducible first | exact HB.out | apply below_alloc | apply pw_below_drewN | apply below_drew1) | exact HB.out)))); have n1_ := Aside0.mk (Kd.R_lower (Kd.R_mono (ok' := fun k_ => some k_ ≠ (v597 : Value).ownBlock) ho1 (fun _ hk_ => hk_.2)) (below_size (by repeat (first | (with_reducible first | exact HB.out | apply below_alloc | apply pw_below_drewN | apply below_drew1) | exact HB.out)))); have n2_ := Aside0.mk (below_step (by repeat (first | (with_reducible first | exact HB.out | apply below_alloc | apply pw_below_drewN | apply below_drew1) | exact HB.out)) hb); clear HB; have HO598 := n0_; have HO601 := n1_; have HB := n2_; clear n0_ n1_ n2_; (try clear hb); (try clear hb2); (try clear hk); (try clear hi); (try clear ho0); (try clear ho1); obtain ⟨Ao97, co97, eo97⟩ := Kd.R_slice HO598.out; subst eo97) | ((with_reducible refine gate_callee (f := 10) rfl ?_); refine goesL_ (some 44) rfl rfl Try.func10 (by kernel_rfl) rfl #[.slice Ao97 t596.length co97, .slice A1 l1.length c1] rfl (by (try simp only [List.map_toArray, List.map_cons, List.map_nil]); first | done | rfl | (simp only [List.length_drop, List.length_take]; rfl)) ?_; (with_reducible refine (nat_Mul.calls kj4 (fun k_ => some k_ = (.slice Ao97 t596.length co97 : Value).ownBlock) _ _ t596 (fun k_ => k_ < w.heap.size) _ _ l1 t603 t606 _ ?side1 ?side2 A10.out).mono ?_); (case side1 => exact Kd.R_V (Kd.R_tight rfl (HO598.out))); (case side2 => exact Kd.V_mk HC1.out (Kd.F_below (Kd.C_F (Kd.heap_int .u64) HR1.out) (by repeat (first | (with_reducible first | exact HB.out | apply below_alloc | apply pw_below_drewN | apply below_drew1) | exact HB.out)))); rintro e w98 ⟨v604, rfl, ho0, hb⟩; refine ⟨_, rfl, ?_⟩; have n0_ := Aside0.mk (Kd.R_elder' (by (with_reducible repeat (first | apply Kd.R_alloc | apply Kd.R_drewN | apply Kd.R_drew)); exact HO598.out) (Kd.R_base ho0) hb); have n1_ := Aside0.mk (Kd.R_elder' (by (with_reducible repeat (first | apply Kd.R_alloc | apply Kd.R_drewN | apply Kd.R_drew)); exact HO601.out) (Kd.R_base ho0) hb); have n2_ := Aside0.mk (Kd.R_lower (Kd.R_new' (Kd.R_new' (Kd.R_mono (ok' := fun k_ => True) ho0 (fun _ hk_ => trivial)) (Kd.R_lt (by (with_reducible repeat (first | apply Kd.R_alloc | apply Kd.R_drewN | apply Kd.R_drew)); exact HO598.out))) (Kd.R_lt (by (with_reducible repeat (first | apply Kd.R_alloc | apply Kd.R_drewN | apply Kd.R_drew)); exact HO601.out))) (below_size (by repeat (first | (with_reducible first | exact HB.out | apply below_alloc | apply pw_below_drewN | apply below_drew1) | exact HB.out)))); have n3_ := Aside0.mk (below_step (by repeat (first | (with_reducible first | exact HB.out | apply below_alloc | apply pw_below_drewN | apply below_drew1) | exact HB.out)) hb); clear HO598; clear HO601; clear HB; have HO598 := n0_; have HO601 := n1_; have HO605 := n2_; have HB := n3_; clear n0_ n1_ n2_ n3_; (try clear hb); (try clear hb2); (try clear hk); (try clear hi); (try clear ho0); obtain ⟨Ao99, co99, eo99⟩ := Kd.R_slice HO605.out; subst eo99; obtain ⟨Ao100, co100, eo100⟩ := Kd.R_slice HO601.out; subst eo100) | ((with_reducible refine gate_callee (f := 13) rfl ?_); refine goesL_ (some 50) rfl rfl Try.func13 (by kernel_rfl) rfl #[.slice Ao99 t603.length co99, .slice Ao100 t599.length co100] rfl (by (try simp only [List.map_toArray, List.map_cons, List.map_nil]); first | done | rfl | (simp only [List.length_drop, List.length_take]; rfl)) ?_; (with_reducible refine (nat_Add.calls kj4 (fun k_ => some k_ = (.slice Ao99 t603.length co99 : Value).ownBlock) _ _ t603 (fun k_ => some k_ = (.slice Ao100 t599.length co100 : Value).ownBlock) _ _ t599 t607 t610 _ ?side1 ?side2 A11.out).mono ?_); (case side1 => exact Kd.R_V (Kd.R_tight rfl (HO605.out))); (case side2 => exact Kd.R_V (Kd.R_tight rfl (HO601.out))); rintro e w101 ⟨v608, rfl, ho0, hb⟩; refine ⟨_, rfl, ?_⟩; have n0_ := Aside0.mk (Kd.R_elder' (by (with_reducible repeat (first | apply Kd.R_alloc | apply Kd.R_drewN | apply Kd.R_drew)); exact HO598.out) (Kd.R_base ho0) hb); have n1_ := Aside0.mk (Kd.R_elder' (by (with_reducible repeat (first | apply Kd.R_alloc | apply Kd.R_drewN | apply Kd.R_drew)); exact HO601.out) (Kd.R_base ho0) hb); have n2_ := Aside0.mk (Kd.R_elder' (by (with_reducible repeat (first | apply Kd.R_alloc | apply Kd.R_drewN | apply Kd.R_drew)); exact HO605.out) (Kd.R_base ho0) hb); have n3_ := Aside0.mk (Kd.R_lower (Kd.R_new' (Kd.R_new' (Kd.R_new' (Kd.R_mono (ok' := fun k_ => True) ho0 (fun _ hk_ => trivial)) (Kd.R_lt (by (with_reducible repeat (first | apply Kd.R_alloc | apply Kd.R_drewN | apply Kd.R_drew)); exact HO598.out))) (Kd.R_lt (by (with_reducible repeat (first | apply Kd.R_alloc | apply Kd.R_drewN | apply Kd.R_drew)); exact HO601.out))) (Kd.R_lt (by (with_reducible repeat (first | apply Kd.R_alloc | apply Kd.R_drewN | apply Kd.R_drew)); exact HO605.out))) (below_size (by repeat (first | (with_reducible first | exact HB.out | apply below_alloc | apply pw_below_drewN | apply below_drew1) | exact HB.out)))); have n4_ := Aside0.mk (below_step (by repeat (first | (with_reducible first | exact HB.out | apply below_alloc | apply pw_below_drewN | apply below_drew1) | exact HB.out)) hb); clear HO598; clear HO601; clear HO605; clear HB; have HO598 := n0_; have HO601 := n1_; have HO605 := n2_; have HO609 := n3_; have HB := n4_; clear n0_ n1_ n2_ n3_ n4_; (try clear hb); (try clear hb2); (try clear hk); (try clear hi); (try clear ho0); obtain ⟨Ao102, co102, eo102⟩ := Kd.R_slice HO609.out; subst eo102) | ((with_reducible refine gate_callee (f := 12) rfl ?_); refine goesL_ (some 55) rfl rfl Try.func12 (by kernel_rfl) rfl #[.slice Ao102 t607.length co102, .slice A0 l0.length c0] rfl (by (try simp only [List.map_toArray, List.map_cons, List.map_nil]); first | done | rfl | (simp only [List.length_drop, List.length_take]; rfl)) ?_; (with_reducible refine (windbreakref01_Same.calls kj4 _ _ t607 _ _ l0 t611 _ ?side1 ?side2 ?side3 ?side4 A12.out).mono ?_); (case side1 => repeat (first | exact (Kd.R_reads' HO609.out).2.2 | (with_reducible refine Kd.C_alloc ?_ _) | (with_reducible refine Kd.C_drewN ?_ _) | (with_reducible refine Kd.C_drew ?_))); (case side2 => exact (Kd.R_reads' HO609.out).2.1); (case side3 => repeat (first | exact (Kd.C_below HR0.out HB.out) | (with_reducible refine Kd.C_alloc ?_ _) | (with_reducible refine Kd.C_drewN ?_ _) | (with_reducible refine Kd.C_drew ?_))); (case side4 => exact HC0.out); rintro e w' ⟨rfl, ⟨nd, rfl⟩⟩; refine ⟨_, rfl, ?_⟩) | ((with_reducible refine gate_callee (f := 21) rfl ?_); refine goesL_ (some 58) rfl rfl Try.func21 (by kernel_rfl) rfl #[.slice Ao100 t599.length co100, .slice A1 l1.length c1] rfl (by (try simp only [List.map_toArray, List.map_cons, List.map_nil]); first | done | rfl | (simp only [List.length_drop, List.length_take]; rfl)) ?_; (with_reducible refine (nat_Cmp.calls kj4 (fun k_ => some k_ = (.slice Ao100 t599.length co100 : Value).ownBlock) _ _ t599 (fun k_ => k_ < w.heap.size) _ _ l1 t612 _ ?side1 ?side2 A13.out).mono ?_); (case side1 => exact Kd.R_V (Kd.R_tight rfl (HO601.out))); (case side2 => exact Kd.V_mk HC1.out (Kd.F_below (Kd.C_F (Kd.heap_int .u64) HR1.out) (by repeat (first | (with_reducible first | exact HB.out | apply below_alloc | apply pw_below_drewN | apply below_drew1) | exact HB.out)))); rintro e w103 ⟨rfl, hb⟩; refine ⟨_, rfl, ?_⟩; have n0_ := Aside0.mk (Kd.R_below (by (with_reducible repeat (first | apply Kd.R_alloc | apply Kd.R_drewN | apply Kd.R_drew)); exact HO598.out) hb); have n1_ := Aside0.mk (Kd.R_below (by (with_reducible repeat (first | apply Kd.R_alloc | apply Kd.R_drewN | apply Kd.R_drew)); exact HO601.out) hb); have n2_ := Aside0.mk (Kd.R_below (by (with_reducible repeat (first | apply Kd.R_alloc | apply Kd.R_drewN | apply Kd.R_drew)); exact HO605.out) hb); have n3_ := Aside0.mk (Kd.R_below (by (with_reducible repeat (first | apply Kd.R_alloc | apply Kd.R_drewN | apply Kd.R_drew)); exact HO609.out) hb); have n4_ := Aside0.mk (below_step (by repeat (first | (with_reducible first | exact HB.out | apply below_alloc | apply pw_below_drewN | apply below_drew1) | exact HB.out)) hb); clear HO598; clear HO601; clear HO605; clear HO609; clear HB; have HO598 := n0_; have HO601 := n1_; have HO605 := n2_; have HO609 := n3_; have HB := n4_; clear n0_ n1_ n2_ n3_ n4_; (try clear hb); (try clear hb2); (try clear hk); (try clear hi)) | ((with_reducible refine gate_dst (N := 61) rfl ?_); (try (refine gate_guard (by rfl) ?_; dsimp only)); refine Kd.R_lit (Kd.int .u64) _ 29 ?hg (N := 61) ?hd (xs := ([1] : List Int)) (inner := [.int .u64 1]) (ok := fun _ => True) (okp := fun _ => True) ?hr ?hp (fun _ hk => hk) trivial (Below.refl _ _) (Nat.le_refl _) (by simp) ?_; (case hd => rfl); (case hg => rfl); (case hr => first | (go_simp; done) | (go_simp; rfl) | (go_simp; simp only [u64_u8]; done) | (go_simp; simp only [u64_u8]; rfl)); (case hp => exact (Reps.one (show Kd.M (Kd.int .u64) _ _ _ 1 [.int .u64 1] from rfl) (Reps.none _ _))); intro v614 w104 ho105 hb hg_ hnew_; clear hg_ hnew_; (first | rw [← Ny613.out] at ho105 | (simp only [Int.reduceToNat] at ho105; rw [← Ny613.out] at ho105)); have n0_ := Aside0.mk (Kd.R_elder' (by (with_reducible repeat (first | apply Kd.R_alloc | apply Kd.R_drewN | apply Kd.R_drew)); exact HO598.out) (Kd.R_base ho105) hb); have n1_ := Aside0.mk (Kd.R_elder' (by (with_reducible repeat (first | apply Kd.R_alloc | apply Kd.R_drewN | apply Kd.R_drew)); exact HO601.out) (Kd.R_base ho105) hb); have n2_ := Aside0.mk (Kd.R_elder' (by (with_reducible repeat (first | apply Kd.R_alloc | apply Kd.R_drewN | apply Kd.R_drew)); exact HO605.out) (Kd.R_base ho105) hb); have n3_ := Aside0.mk (Kd.R_elder' (by (with_reducible repeat (first | apply Kd.R_alloc | apply Kd.R_drewN | apply Kd.R_drew)); exact HO609.out) (Kd.R_base ho105) hb); have n4_ := Aside0.mk (Kd.R_lower (Kd.R_new' (Kd.R_new' (Kd.R_new' (Kd.R_new' ho105 (Kd.R_lt (by (with_reducible repeat (first | apply Kd.R_alloc | apply Kd.R_drewN | apply Kd.R_drew)); exact HO598.out))) (Kd.R_lt (by (with_reducible repeat (first | apply Kd.R_alloc | apply Kd.R_drewN | apply Kd.R_drew)); exact HO601.out))) (Kd.R_lt (by (with_reducible repeat (first | apply Kd.R_alloc | apply Kd.R_drewN | apply Kd.R_drew)); exact HO605.out))) (Kd.R_lt (by (with_reducible repeat (first | apply Kd.R_alloc | apply Kd.R_drewN | apply Kd.R_drew)); exact HO609.out))) (below_size (by repeat (first | (with_reducible first | exact HB.out | apply below_alloc | apply pw_below_drewN | apply below_drew1) | exact HB.out)))); have n5_ := Aside0.mk (below_step (by repeat (first | (with_reducible first | exact HB.out | apply below_alloc | apply pw_below_drewN | apply below_drew1) | exact HB.out)) hb); clear HO598; clear HO601; clear HO605; clear HO609; clear HB; have HO598 := n0_; have HO601 := n1_; have HO605 := n2_; have HO609 := n3_; have HO615 := n4_; have HB := n5_; clear n0_ n1_ n2_ n3_ n4_ n5_; clear hb ho105) | ((with_reducible refine gate_dst (N := 62) rfl ?_); (try (refine gate_guard (by rfl) ?_; dsimp only)); refine Kd.R_lit (Kd.int .u64) _ 29 ?hg (N := 62) ?hd (xs := ([1] : List Int)) (inner := [.int .u64 1]) (ok := fun _ => True) (okp := fun _ => True) ?hr ?hp (fun _ hk => hk) trivial (Below.refl _ _) (Nat.le_refl _) (by simp) ?_; (case hd => rfl); (case hg => rfl); (case hr => first | (go_simp; done) | (go_simp; rfl) | (go_simp; simp only [u64_u8]; done) | (go_simp; simp only [u64_u8]; rfl)); (case hp => exact (Reps.one (show Kd.M (Kd.int .u64) _ _ _ 1 [.int .u64 1] from rfl) (Reps.none _ _))); intro v617 w106 ho107 hb hg_ hnew_; clear hg_ hnew_; (first | rw [← Ny616.out] at ho107 | (simp only [Int.reduceToNat] at ho107; rw [← Ny616.out] at ho107)); have n0_ := Aside0.mk (Kd.R_elder' (by (with_reducible repeat (first | apply Kd.R_alloc | apply Kd.R_drewN | apply Kd.R_drew)); exact HO598.out) (Kd.R_base ho107) hb); have n1_ := Aside0.mk (Kd.R_elder' (by (with_reducible repeat (first | apply Kd.R_alloc | apply Kd.R_drewN | apply Kd.R_drew)); exact HO601.out) (Kd.R_base ho107) hb); have n2_ := Aside0.mk (Kd.R_elder' (by (with_reducible repeat (first | apply Kd.R_alloc | apply Kd.R_drewN | apply Kd.R_drew)); exact HO605.out) (Kd.R_base ho107) hb); have n3_ := Aside0.mk (Kd.R_elder' (by (with_reducible repeat (first | apply Kd.R_alloc | apply Kd.R_drewN | apply Kd.R_drew)); exact HO609.out) (Kd.R_base ho107) hb); have n4_ := Aside0.mk (Kd.R_elder' (by (with_reducible repeat (first | apply Kd.R_alloc | apply Kd.R_drewN | apply Kd.R_drew)); exact HO615.out) (Kd.R_base ho107) hb); have n5_ := Aside0.mk (Kd.R_lower (Kd.R_new' (Kd.R_new' (Kd.R_new' (Kd.R_new' (Kd.R_new' ho107 (Kd.R_lt (by (with_reducible repeat (first | apply Kd.R_alloc | apply Kd.R_drewN | apply Kd.R_drew)); exact HO598.out))) (Kd.R_lt (by (with_reducible repeat (first | apply Kd.R_alloc | apply Kd.R_drewN | apply Kd.R_drew)); exact HO601.out))) (Kd.R_lt (by (with_reducible repeat (first | apply Kd.R_alloc | apply Kd.R_drewN | apply Kd.R_drew)); exact HO605.out))) (Kd.R_lt (by (with_reducible repeat (first | apply Kd.R_alloc | apply Kd.R_drewN | apply Kd.R_drew)); exact HO609.out))) (Kd.R_lt (by (with_reducible repeat (first | apply Kd.R_alloc | apply Kd.R_drewN | apply Kd.R_drew)); exact HO615.out))) (below_size (by repeat (first | (with_reducible first | exact HB.out | apply below_alloc | apply pw_below_drewN | apply below_drew1) | exact HB.out)))); have n6_ := Aside0.mk (below_step (by repeat (first | (with_reducible first | exact HB.out | apply below_alloc | apply pw_below_drewN | apply below_drew1) | exact HB.out)) hb); clear HO598; clear HO601; clear HO605; clear HO609; clear HO615; clear HB; have HO598 := n0_; have HO601 := n1_; have HO605 := n2_; have HO609 := n3_; have HO615 := n4_; have HO618 := n5_; have HB := n6_; clear n0_ n1_ n2_ n3_ n4_ n5_ n6_; clear hb ho107; obtain ⟨Ao108, co108, eo108⟩ := Kd.R_slice HO615.out; subst eo108; obtain ⟨Ao109, co109, eo109⟩ := Kd.R_slice HO618.out; subst eo109) | ((with_reducible refine gate_callee (f := 19) rfl ?_); refine goesL_ (some 63) rfl rfl Try.func19 (by kernel_rfl) rfl #[.slice Ao108 y613.length co108, .slice Ao109 y616.length co109] rfl (by (try simp only [List.map_toArray, List.map_cons, List.map_nil]); first | done | rfl | (simp only [List.length_drop, List.length_take]; rfl)) ?_; (with_reducible refine (nat_Div.calls kj4 (fun k_ => some k_ = (.slice Ao108 y613.length co108 : Value).ownBlock) _ _ y613 (fun k_ => some k_ = (.slice Ao109 y616.length co109 : Value).ownBlock) _ _ y616 t619 t622 t625 _ ?side1 ?side2 A14.out).mono ?_); (case side1 => exact Kd.R_V (Kd.R_tight rfl (HO615.out))); (case side2 => exact Kd.R_V (Kd.R_tight rfl (HO618.out))); rintro e w110 ⟨v620, v623, rfl, ho0, ho1, hb⟩; refine ⟨_, rfl, ?_⟩; have n0_ := Aside0.mk (Kd.R_mono (Kd.R_told (Kd.R_told (Kd.R_old (by (with_reducible repeat (first | apply Kd.R_alloc | apply Kd.R_drewN | apply Kd.R_drew)); exact HO598.out) hb) (Kd.R_base ho0)) (Kd.R_base ho1)) (fun _ h_ => h_.1)); have n1_ := Aside0.mk (Kd.R_mono (Kd.R_told (Kd.R_told (Kd.R_old (by (with_reducible repeat (first | apply Kd.R_alloc | apply Kd.R_drewN | apply Kd.R_drew)); exact HO601.out) hb) (Kd.R_base ho0)) (Kd.R_base ho1)) (fun _ h_ => h_.1)); have n2_ := Aside0.mk (Kd.R_mono (Kd.R_told (Kd.R_told (Kd.R_old (by (with_reducible repeat (first | apply Kd.R_alloc | apply Kd.R_drewN | apply Kd.R_drew)); exact HO605.out) hb) (Kd.R_base ho0)) (Kd.R_base ho1)) (fun _ h_ => h_.1)); have n3_ := Aside0.mk (Kd.R_mono (Kd.R_told (Kd.R_told (Kd.R_old (by (with_reducible repeat (first | apply Kd.R_alloc | apply Kd.R_drewN | apply Kd.R_drew)); exact HO609.out) hb) (Kd.R_base ho0)) (Kd.R_base ho1)) (fun _ h_ => h_.1)); have n4_ := Aside0.mk (Kd.R_mono (Kd.R_told (Kd.R_told (Kd.R_old (by (with_reducible repeat (first | apply Kd.R_alloc | apply Kd.R_drewN | apply Kd.R_drew)); exact HO615.out) hb) (Kd.R_base ho0)) (Kd.R_base ho1)) (fun _ h_ => h_.1)); have n5_ := Aside0.mk (Kd.R_mono (Kd.R_told (Kd.R_told (Kd.R_old (by (with_reducible repeat (first | apply Kd.R_alloc | apply Kd.R_drewN | apply Kd.R_drew)); exact HO618.out) hb) (Kd.R_base ho0)) (Kd.R_base ho1)) (fun _ h_ => h_.1)); have n6_ := Aside0.mk (Kd.R_lower (Kd.R_new' (Kd.R_new' (Kd.R_new' (Kd.R_new' (Kd.R_new' (Kd.R_new' (Kd.R_mono (ok' := fun k_ => some k_ ≠ (v623 : Value).ownBlock) ho0 (fun _ hk_ => hk_.2)) (Kd.R_lt (by (with_reducible repeat (first | apply Kd.R_alloc | apply Kd.R_drewN | apply Kd.R_drew)); exact HO598.out))) (Kd.R_lt (by (with_reducible repeat (first | apply Kd.R_alloc | apply Kd.R_drewN | apply Kd.R_drew)); exact HO601.out))) (Kd.R_lt (by (with_reducible repeat (first | apply Kd.R_alloc | apply Kd.R_drewN | apply Kd.R_drew)); exact HO605.out))) (Kd.R_lt (by (with_reducible repeat (first | apply Kd.R_alloc | apply Kd.R_drewN | apply Kd.R_drew)); exact HO609.out))) (Kd.R_lt (by (with_reducible repeat (first | apply Kd.R_alloc | apply Kd.R_drewN | apply Kd.R_drew)); exact HO615.out))) (Kd.R_lt (by (with_reducible repeat (first | apply Kd.R_alloc | apply Kd.R_drewN | apply Kd.R_drew)); exact HO618.out))) (below_size (by repeat (first | (with_reducible first | exact HB.out | apply below_alloc | apply pw_below_drewN | apply below_drew1) | exact HB.out)))); have n7_ := Aside0.mk (Kd.R_lower (Kd.R_new' (Kd.R_new' (Kd.R_new' (Kd.R_new' (Kd.R_new' (Kd.R_new' (Kd.R_mono (ok' := fun k_ => some k_ ≠ (v620 : Value).ownBlock) ho1 (fun _ hk_ => hk_.2)) (Kd.R_lt (by (with_reducible repeat (first | apply Kd.R_alloc | apply Kd.R_drewN | apply Kd.R_drew)); exact HO598.out))) (Kd.R_lt (by (with_reducible repeat (first | apply Kd.R_alloc | apply Kd.R_drewN | apply Kd.R_drew)); exact HO601.out))) (Kd.R_lt (by (with_reducible repeat (first | apply Kd.R_alloc | apply Kd.R_drewN | apply Kd.R_drew)); exact HO605.out))) (Kd.R_lt (by (with_reducible repeat (first | apply Kd.R_alloc | apply Kd.R_drewN | apply Kd.R_drew)); exact HO609.out))) (Kd.R_lt (by (with_reducible repeat (first | apply Kd.R_alloc | apply Kd.R_drewN | apply Kd.R_drew)); exact HO615.out))) (Kd.R_lt (by (with_reducible repeat (first | apply Kd.R_alloc | apply Kd.R_drewN | apply Kd.R_drew)); exact HO618.out))) (below_size (by repeat (first | (with_reducible first | exact HB.out | apply below_alloc | apply pw_below_drewN | apply below_drew1) | exact HB.out)))); have n8_ := Aside0.mk (below_step (by repeat (first | (with_reducible first | exact HB.out | apply below_alloc | apply pw_below_drewN | apply below_drew1) | exact HB.out)) hb); clear HO598; clear HO601; clear HO605; clear HO609; clear HO615; clear HO618; clear HB; have HO598 := n0_; have HO601 := n1_; have HO605 := n2_; have HO609 := n3_; have HO615 := n4_; have HO618 := n5_; have HO621 := n6_; have HO624 := n7_; have HB := n8_; clear n0_ n1_ n2_ n3_ n4_ n5_ n6_ n7_ n8_; (try clear hb); (try clear hb2); (try clear hk); (try clear hi); (try clear ho0); (try clear ho1)))
          go_ret
          exact ⟨by first | rfl | (simp [errW_none, errW_some] <;> rfl) | (simp [*, errW_none, errW_some] <;> rfl), by repeat (first | (with_reducible first | exact HB.out | apply below_alloc | apply pw_below_drewN | apply below_drew1) | exact HB.out)⟩

/-- THE ONE PURE STATEMENT of windbreaklaw01_NatBack: yours. -/
def windbreaklaw01_NatBack.Pure : Prop := ∀ (l0 : List Int) (l1 : List Int), l0.length ≤ maxLen → l0.length * 8 ≤ 140737488351232 → (∀ x ∈ l0, (Lit.int .u64 x).wf = true) → l1.length ≤ maxLen → l1.length * 8 ≤ 140737488351232 → (∀ x ∈ l1, (Lit.int .u64 x).wf = true) → ∃ k, windbreaklaw01_NatBack.f k l0 l1 = some true
theorem windbreaklaw01_NatBack.walk (P : windbreaklaw01_NatBack.Pure) (a0 : Option Addr) (len0 cap0 : Nat) (z0 : List Int) (a1 : Option Addr) (len1 cap1 : Nat) (z1 : List Int) (w : World) (w0 : (a0 = none ∧ len0 = 0 ∧ cap0 = 0 ∧ z0 = []) ∨ ∃ x, a0 = some x ∧ len0 ≤ cap0 ∧ cap0 ≤ maxLen ∧ z0.length = cap0 ∧ (∀ i, i < z0.length → w.cell? (x.add i) = some (.int .u64 (z0.getD i 0))) ∧ ∀ n ∈ z0, (Lit.int .u64 n).wf = true) (y0 : len0 * 8 ≤ 140737488351232) (w1 : (a1 = none ∧ len1 = 0 ∧ cap1 = 0 ∧ z1 = []) ∨ ∃ x, a1 = some x ∧ len1 ≤ cap1 ∧ cap1 ≤ maxLen ∧ z1.length = cap1 ∧ (∀ i, i < z1.length → w.cell? (x.add i) = some (.int .u64 (z1.getD i 0))) ∧ ∀ n ∈ z1, (Lit.int .u64 n).wf = true) (y1 : len1 * 8 ≤ 140737488351232) :
    Calls Try.prog 7 #[.slice a0 len0 cap0, .slice a1 len1 cap1] w fun e w' => e = .returned (.bool true) ∧ Below w.heap.size w w' := by
  obtain ⟨l0, rfl, hr0, hm0, hw0, hc0⟩ := ReadsInt.ofRowC w0
  obtain ⟨l1, rfl, hr1, hm1, hw1, hc1⟩ := ReadsInt.ofRowC w1
  obtain ⟨k, h⟩ := P l0 l1 hm0 y0 hw0 hm1 y1 hw1
  refine (windbreaklaw01_NatBack.calls k _ _ l0 _ _ l1 true w (Kd.C_of_reads (d := (0 : Int)) (h1 := fun _ => rfl) hr0) hc0 (Kd.C_of_reads (d := (0 : Int)) (h1 := fun _ => rfl) hr1) hc1 h).mono ?_
  rintro e w' ⟨rfl, hd⟩
  exact ⟨rfl, hd⟩

end Go.Proofs.Yteabkedhdgnhgab.F
end

section
namespace Go.Proofs.Yteabkedhdgnhgab.Z
open Go.RowKit Go.Proofs.Yteabkedhdgnhgab.F Go.Proofs.YteabkedhdgnhgabW.PrintWords
set_option linter.unusedSimpArgs false
set_option linter.unusedVariables false
theorem nat_told_ev (l : List Int) (h : l.length ≤ 1000000) (d : Dig (b64 : Int) l) : Evt (fun k => nat_told.f k l) (toldV (num l)) := by
  unfold nat_told.f toldV
  refine Evt.bind (nat_trim_ev l (by simp [maxLen]; omega)) ?_
  rw [strip_limbs d]
  have hl := limbs_long (num l)
  by_cases h1 : num l < b64 ^ 64
  · rw [if_pos h1]
    have := hl.2 h1
    exact Evt.ite_neg (by omega) (Evt.pure _)
  · rw [if_neg h1]
    have : ¬ (limbs (num l)).length ≤ 64 := fun hh => h1 (hl.1 hh)
    exact Evt.ite_pos (by omega) (Evt.pure _)
end Go.Proofs.Yteabkedhdgnhgab.Z
end

section
namespace Go.Proofs.Yteabkedhdgnhgab.Z
open Go.RowKit Go.Proofs.YteabkedhdgnhgabW.PrintWords
set_option linter.unusedSimpArgs false
set_option linter.unusedVariables false
/-- How many bits. -/
def bl (n : Nat) : Nat := if n = 0 then 0 else n.log2 + 1
theorem bl_lt (n : Nat) : n < 2 ^ bl n := by
  unfold bl
  by_cases h : n = 0
  · subst h; decide
  · rw [if_neg h]; exact Nat.lt_log2_self
theorem bl_ge {n : Nat} (h : n ≠ 0) : 2 ^ (bl n - 1) ≤ n := by
  unfold bl
  rw [if_neg h, Nat.add_sub_cancel]
  exact Nat.log2_self_le h
theorem bl_pos {n : Nat} (h : n ≠ 0) : 0 < bl n := by unfold bl; rw [if_neg h]; omega
theorem bl_unique {n m : Nat} (h1 : n < 2 ^ m) (h2 : m = 0 ∨ 2 ^ (m - 1) ≤ n) : bl n = m := by
  by_cases h : n = 0
  · subst h
    rcases h2 with h2 | h2
    · rw [h2]; rfl
    · have := Nat.pow_pos (a := 2) (n := m - 1) (by decide)
      omega
  · have a1 := bl_lt n
    have a2 := bl_ge h
    have a3 := bl_pos h
    have hm : 0 < m := by
      by_cases e : m = 0
      · subst e; simp at h1; omega
      · omega
    have b1 : bl n - 1 < m := (Nat.pow_lt_pow_iff_right (a := 2) (by decide)).1 (by omega)
    have b2 : m - 1 < bl n := by
      rcases h2 with h2 | h2
      · omega
      · exact (Nat.pow_lt_pow_iff_right (a := 2) (by decide)).1 (by omega)
    omega
theorem bl_shift (n s : Nat) (h : n / 2 ^ s ≠ 0) : bl n = s + bl (n / 2 ^ s) := by
  have a1 := bl_lt (n / 2 ^ s)
  have a2 := bl_ge h
  have a3 := bl_pos h
  have hp : 0 < 2 ^ s := Nat.pow_pos (by decide)
  refine bl_unique ?_ (Or.inr ?_)
  · rw [Nat.pow_add]
    have := Nat.lt_mul_of_div_lt a1 hp
    rw [Nat.mul_comm]
    exact this
  · rw [show s + bl (n / 2 ^ s) - 1 = s + (bl (n / 2 ^ s) - 1) from by omega, Nat.pow_add]
    have := Nat.mul_le_mul_left (2 ^ s) a2
    exact Nat.le_trans this (Nat.mul_div_le n (2 ^ s))
theorem bl_le {x m : Nat} (h : x < 2 ^ m) : bl x ≤ m := by
  by_cases hx : x = 0
  · subst hx; exact Nat.zero_le _
  · have a2 := bl_ge hx
    have a3 := bl_pos hx
    have : bl x - 1 < m := (Nat.pow_lt_pow_iff_right (a := 2) (by decide)).1 (by omega)
    omega
theorem bl_le8 {x : Nat} (h : x < 256) : bl x ≤ 8 := bl_le h
end Go.Proofs.Yteabkedhdgnhgab.Z
end

section
namespace Go.Proofs.Yteabkedhdgnhgab.Z
open Go.RowKit Go.Proofs.YteabkedhdgnhgabW.PrintWords
set_option linter.unusedSimpArgs false
set_option linter.unusedVariables false
/-! ### The bytes of a number -/
theorem can_last {a : List Int} (ca : Can a) (h0 : a.length ≠ 0) : a.getD (a.length - 1) 0 ≠ 0 := by
  have h : a ≠ [] := fun e => h0 (by rw [e]; rfl)
  have h2 := ca h
  rw [List.getLast_eq_getElem] at h2
  rw [List.getD_eq_getElem?_getD, List.getElem?_eq_getElem (show a.length - 1 < a.length by omega)]
  exact h2
end Go.Proofs.Yteabkedhdgnhgab.Z
end

section
namespace Go.Proofs.Yteabkedhdgnhgab.Z
open Go.RowKit Go.Proofs.YteabkedhdgnhgabW.PrintWords
set_option linter.unusedSimpArgs false
set_option linter.unusedVariables false
/-- The quotient, the rest, and what went wrong. -/
def divV (a b : List Int) : List Int × List Int × Int :=
  if rightB a = true ∧ rightB b = true then (if num b = 0 then ([], [], 3) else (limbs (num a / num b), limbs (num a % num b), 0)) else ([], [], 1)
theorem num_zero_iff {b : List Int} (db : Dig (b64 : Int) b) (cb : Can b) : num b = 0 ↔ b.length = 0 := by
  constructor
  · intro h
    have := limbs_num db cb
    rw [h] at this
    rw [← this, show limbs 0 = [] from toD_zero b64]
    rfl
  · intro h
    rw [List.eq_nil_of_length_eq_zero h]
    rfl
theorem num_len_le {a b : List Int} (da : Dig (b64 : Int) a) (ca : Can a) (db : Dig (b64 : Int) b) (h : num a ≤ num b) : a.length ≤ b.length := by
  have h1 := limbs_num da ca
  rw [← h1]
  exact toD_len_le b64_two (Nat.lt_of_le_of_lt h (num_lt db))
theorem divV_one : (divV [1] [1]).1.length = 1 := by
  have d1 : Dig (b64 : Int) [1] := by intro x hx; simp at hx; subst hx; decide
  unfold divV
  rw [if_pos ⟨by decide, by decide⟩, num_one (by omega), if_neg (by decide)]
  have := limbs_num d1 (Can.one (by omega))
  rw [num_one (by omega)] at this
  rw [show (1 : Int).toNat / (1 : Int).toNat = (1 : Int).toNat from rfl, this]
  rfl
end Go.Proofs.Yteabkedhdgnhgab.Z
end

section
namespace Go.Proofs.Yteabkedhdgnhgab.Z
open Go.RowKit Go.Proofs.Yteabkedhdgnhgab.F Go.Proofs.YteabkedhdgnhgabW.PrintWords
set_option linter.unusedSimpArgs false
set_option linter.unusedVariables false
theorem len8 : ∀ n : Fin 256, bt (⟨#[0, 1, 2, 2, 3, 3, 3, 3, 4, 4, 4, 4, 4, 4, 4, 4, 5, 5, 5, 5, 5, 5, 5, 5, 5, 5, 5, 5, 5, 5, 5, 5, 6, 6, 6, 6, 6, 6, 6, 6, 6, 6, 6, 6, 6, 6, 6, 6, 6, 6, 6, 6, 6, 6, 6, 6, 6, 6, 6, 6, 6, 6, 6, 6, 7, 7, 7, 7, 7, 7, 7, 7, 7, 7, 7, 7, 7, 7, 7, 7, 7, 7, 7, 7, 7, 7, 7, 7, 7, 7, 7, 7, 7, 7, 7, 7, 7, 7, 7, 7, 7, 7, 7, 7, 7, 7, 7, 7, 7, 7, 7, 7, 7, 7, 7, 7, 7, 7, 7, 7, 7, 7, 7, 7, 7, 7, 7, 7, 8, 8, 8, 8, 8, 8, 8, 8, 8, 8, 8, 8, 8, 8, 8, 8, 8, 8, 8, 8, 8, 8, 8, 8, 8, 8, 8, 8, 8, 8, 8, 8, 8, 8, 8, 8, 8, 8, 8, 8, 8, 8, 8, 8, 8, 8, 8, 8, 8, 8, 8, 8, 8, 8, 8, 8, 8, 8, 8, 8, 8, 8, 8, 8, 8, 8, 8, 8, 8, 8, 8, 8, 8, 8, 8, 8, 8, 8, 8, 8, 8, 8, 8, 8, 8, 8, 8, 8, 8, 8, 8, 8, 8, 8, 8, 8, 8, 8, 8, 8, 8, 8, 8, 8, 8, 8, 8, 8, 8, 8, 8, 8, 8, 8, 8, 8, 8, 8, 8, 8, 8, 8, 8, 8, 8, 8, 8, 8]⟩ : ByteArray) ((n.val : Nat) : Int) = ((bl n.val : Nat) : Int) := by decide +kernel
theorem len8_at {x : Int} (h0 : 0 ≤ x) (h1 : x < 256) : bt (⟨#[0, 1, 2, 2, 3, 3, 3, 3, 4, 4, 4, 4, 4, 4, 4, 4, 5, 5, 5, 5, 5, 5, 5, 5, 5, 5, 5, 5, 5, 5, 5, 5, 6, 6, 6, 6, 6, 6, 6, 6, 6, 6, 6, 6, 6, 6, 6, 6, 6, 6, 6, 6, 6, 6, 6, 6, 6, 6, 6, 6, 6, 6, 6, 6, 7, 7, 7, 7, 7, 7, 7, 7, 7, 7, 7, 7, 7, 7, 7, 7, 7, 7, 7, 7, 7, 7, 7, 7, 7, 7, 7, 7, 7, 7, 7, 7, 7, 7, 7, 7, 7, 7, 7, 7, 7, 7, 7, 7, 7, 7, 7, 7, 7, 7, 7, 7, 7, 7, 7, 7, 7, 7, 7, 7, 7, 7, 7, 7, 8, 8, 8, 8, 8, 8, 8, 8, 8, 8, 8, 8, 8, 8, 8, 8, 8, 8, 8, 8, 8, 8, 8, 8, 8, 8, 8, 8, 8, 8, 8, 8, 8, 8, 8, 8, 8, 8, 8, 8, 8, 8, 8, 8, 8, 8, 8, 8, 8, 8, 8, 8, 8, 8, 8, 8, 8, 8, 8, 8, 8, 8, 8, 8, 8, 8, 8, 8, 8, 8, 8, 8, 8, 8, 8, 8, 8, 8, 8, 8, 8, 8, 8, 8, 8, 8, 8, 8, 8, 8, 8, 8, 8, 8, 8, 8, 8, 8, 8, 8, 8, 8, 8, 8, 8, 8, 8, 8, 8, 8, 8, 8, 8, 8, 8, 8, 8, 8, 8, 8, 8, 8, 8, 8, 8, 8, 8, 8]⟩ : ByteArray) x = ((bl x.toNat : Nat) : Int) := by
  obtain ⟨n, rfl⟩ := Int.eq_ofNat_of_zero_le h0
  exact len8 ⟨n, by omega⟩
set_option maxRecDepth 100000 in
theorem len64_j {x : Int} (h0 : 0 ≤ x) (h1 : x < 4294967296) (c : Int) (hc : 0 ≤ c ∧ c ≤ 1000) : Evt (fun k => bits_Len64.j0 k x c) (c + ((bl x.toNat : Nat) : Int)) := by
  have key : ∀ (s : Nat) (y : Int), 0 ≤ y → y < 256 → (s ≤ 24) → (y = 0 → s = 0) → y = x / 2 ^ s → ((bl x.toNat : Nat) : Int) = (s : Int) + ((bl y.toNat : Nat) : Int) := by
    intro s y hy0 hy1 hs hz he
    have : bl x.toNat = s + bl y.toNat := by
      by_cases h : y = 0
      · have hs0 := hz h
        subst hs0
        simp at he
        rw [he, Nat.zero_add]
      · have e : y.toNat = x.toNat / 2 ^ s := by
          rw [he]
          have h2 : x = ((x.toNat : Nat) : Int) := by omega
          rw [h2]
          have h3 : ((2 : Int) ^ s) = ((2 ^ s : Nat) : Int) := by simp
          rw [h3, ← Int.natCast_ediv, Int.toNat_natCast, Int.toNat_natCast]
        rw [e]
        exact bl_shift x.toNat s (by rw [← e]; omega)
    omega
  refine Evt.succ ?_
  simp only [bits_Len64.j0]
  by_cases c1 : x ≥ 65536
  · refine Evt.ite_pos c1 ?_
    by_cases c2 : x / 65536 ≥ 256
    · refine Evt.ite_pos c2 (Evt.ite_pos (by omega) (Evt.ite_pos (by omega) ?_))
      have e : x / 65536 / 256 % 256 = x / 65536 / 256 := by omega
      rw [e, len8_at (by omega) (by omega)]
      have k1 := key 24 (x / 65536 / 256) (by omega) (by omega) (by omega) (by omega) (by rw [Int.ediv_ediv_of_nonneg (by omega)]; rfl)
      have k2 := bl_le8 (x := (x / 65536 / 256).toNat) (by omega)
      rw [w64 (show -9223372036854775808 ≤ c + 16 by omega) (by omega), w64 (show -9223372036854775808 ≤ c + 16 + 8 by omega) (by omega), w64 (show -9223372036854775808 ≤ ((bl (x / 65536 / 256).toNat : Nat) : Int) by omega) (by omega), w64 (by omega) (by omega), k1]
      refine (Evt.pure _).congr (fun k => rfl) (by omega)
    · refine Evt.ite_neg c2 (Evt.ite_pos (by omega) (Evt.ite_pos (by omega) ?_))
      have e : x / 65536 % 256 = x / 65536 := by omega
      rw [e, len8_at (by omega) (by omega)]
      have k1 := key 16 (x / 65536) (by omega) (by omega) (by omega) (by omega) rfl
      have k2 := bl_le8 (x := (x / 65536).toNat) (by omega)
      rw [w64 (show -9223372036854775808 ≤ c + 16 by omega) (by omega), w64 (show -9223372036854775808 ≤ ((bl (x / 65536).toNat : Nat) : Int) by omega) (by omega), w64 (by omega) (by omega), k1]
      refine (Evt.pure _).congr (fun k => rfl) (by omega)
  · refine Evt.ite_neg c1 ?_
    by_cases c2 : x ≥ 256
    · refine Evt.ite_pos c2 (Evt.ite_pos (by omega) (Evt.ite_pos (by omega) ?_))
      have e : x / 256 % 256 = x / 256 := by omega
      rw [e, len8_at (by omega) (by omega)]
      have k1 := key 8 (x / 256) (by omega) (by omega) (by omega) (by omega) rfl
      have k2 := bl_le8 (x := (x / 256).toNat) (by omega)
      rw [w64 (show -9223372036854775808 ≤ c + 8 by omega) (by omega), w64 (show -9223372036854775808 ≤ ((bl (x / 256).toNat : Nat) : Int) by omega) (by omega), w64 (by omega) (by omega), k1]
      refine (Evt.pure _).congr (fun k => rfl) (by omega)
    · refine Evt.ite_neg c2 (Evt.ite_pos (by omega) (Evt.ite_pos (by omega) ?_))
      have e : x % 256 = x := by omega
      rw [e, len8_at (by omega) (by omega)]
      have k2 := bl_le8 (x := x.toNat) (by omega)
      rw [w64 (show -9223372036854775808 ≤ ((bl x.toNat : Nat) : Int) by omega) (by omega), w64 (by omega) (by omega)]
      exact Evt.pure _
theorem bits_Len64_ev {x : Int} (h0 : 0 ≤ x) (h1 : x < 18446744073709551616) : Evt (fun k => bits_Len64.f k x) ((bl x.toNat : Nat) : Int) := by
  unfold bits_Len64.f
  by_cases c1 : x ≥ 4294967296
  · refine Evt.ite_pos c1 ?_
    refine (len64_j (x := x / 4294967296) (by omega) (by omega) 32 (by omega)).congr (fun k => rfl) ?_
    have e : (x / 4294967296).toNat = x.toNat / 2 ^ 32 := by omega
    have := bl_shift x.toNat 32 (by omega)
    rw [e]
    omega
  · refine Evt.ite_neg c1 ?_
    exact (len64_j (x := x) (by omega) (by omega) 0 (by omega)).congr (fun k => rfl) (by omega)
end Go.Proofs.Yteabkedhdgnhgab.Z
end

section
namespace Go.Proofs.Yteabkedhdgnhgab.Z
open Go.RowKit Go.Proofs.Yteabkedhdgnhgab.F Go.Proofs.YteabkedhdgnhgabW.PrintWords
set_option linter.unusedSimpArgs false
set_option linter.unusedVariables false
/-- One digit of a quotient: what the test of the loop tells. -/
theorem div_corr {Y a b u c q r : Int} (hY : Y = a * 4294967296 + b) (ha : 2147483648 ≤ a ∧ a < 4294967296) (hb : 0 ≤ b ∧ b < 4294967296) (hu : 0 ≤ u ∧ u < Y) (hc : 0 ≤ c ∧ c < 4294967296)
    (hq : (u * 4294967296 + c) / Y ≤ q) (hq2 : q ≤ 4294967297) (hr : r = u - q * a) (hr0 : 0 ≤ r ∧ r < 4294967296) :
    ((q ≥ 4294967296 ∨ q * b > 4294967296 * r + c) → (u * 4294967296 + c) / Y ≤ q - 1) ∧ (¬ (q ≥ 4294967296 ∨ q * b > 4294967296 * r + c) → (u * 4294967296 + c) / Y = q) ∧
    ((q ≥ 4294967296 ∨ q * b > 4294967296 * r + c) → r + a ≥ 4294967296 → (u * 4294967296 + c) / Y = q - 1) := by
  have hY0 : 0 < Y := by omega
  have e1 : q * Y = q * a * 4294967296 + q * b := by rw [hY]; grind
  have e2 : (q - 1) * Y = q * Y - Y := by grind
  have lt : (u * 4294967296 + c) / Y < 4294967296 := by
    apply Int.ediv_lt_of_lt_mul hY0
    omega
  have up : (q ≥ 4294967296 ∨ q * b > 4294967296 * r + c) → (u * 4294967296 + c) / Y ≤ q - 1 := by
    intro h
    rcases h with h | h
    · omega
    · have : (u * 4294967296 + c) / Y < q := by
        apply Int.ediv_lt_of_lt_mul hY0
        rw [e1]; omega
      omega
  refine ⟨up, fun h => ?_, fun h h2 => ?_⟩
  · have : q ≤ (u * 4294967296 + c) / Y := by
      rw [Int.le_ediv_iff_mul_le hY0, e1]
      omega
    omega
  · have h3 := up h
    have h4 : (q - 1) * b ≤ 4294967296 * 4294967295 := by
      by_cases h5 : q - 1 ≤ 0
      · have : (q - 1) * b ≤ 0 := Int.mul_nonpos_of_nonpos_of_nonneg h5 hb.1
        omega
      · exact Int.mul_le_mul (by omega) (by omega) hb.1 (by omega)
    have h6 : (q - 1) * b = q * b - b := by grind
    have : q - 1 ≤ (u * 4294967296 + c) / Y := by
      rw [Int.le_ediv_iff_mul_le hY0, e2, e1]
      omega
    omega
theorem mul_u64 {x y : Int} (hx : 0 ≤ x ∧ x < 4294967296) (hy : 0 ≤ y ∧ y < 4294967296) : 0 ≤ x * y ∧ x * y < 18446744073709551616 := by
  refine ⟨Int.mul_nonneg hx.1 hy.1, ?_⟩
  have : x * y ≤ 4294967295 * 4294967295 := Int.mul_le_mul (by omega) (by omega) hy.1 (by omega)
  omega
theorem div_l0 {Y a b u c c0 s : Int} (hY : Y = a * 4294967296 + b) (ha : 2147483648 ≤ a ∧ a < 4294967296) (hb : 0 ≤ b ∧ b < 4294967296) (hu : 0 ≤ u ∧ u < Y) (hc : 0 ≤ c ∧ c < 4294967296) {res : Int × Int}
    (fin : Evt (fun k => bits_Div64.j2 k Y s a b u c c0 ((u * 4294967296 + c) / Y)) res) (n : Nat) : ∀ q r : Int, (u * 4294967296 + c) / Y ≤ q → q ≤ 4294967297 → r = u - q * a → 0 ≤ r ∧ r < 4294967296 → q - (u * 4294967296 + c) / Y ≤ n →
    Evt (fun k => bits_Div64.l0 k Y s a b u c c0 q r) res := by
  have hQ0 : 0 ≤ (u * 4294967296 + c) / Y := Int.ediv_nonneg (by omega) (by omega)
  induction n with
  | zero =>
    intro q r hq hq2 hr hr0 hn
    obtain ⟨g1, g2, g3⟩ := div_corr hY ha hb hu hc hq hq2 hr hr0
    have hno : ¬ (q ≥ 4294967296 ∨ q * b > 4294967296 * r + c) := fun h => by have := g1 h; omega
    refine Evt.succ ?_
    simp only [bits_Div64.l0]
    refine Evt.ite_neg (fun h => hno (Or.inl h)) ?_
    have hm := mul_u64 (x := q) (y := b) ⟨by omega, by omega⟩ hb
    rw [wu64_of hm.1 hm.2, wu64_of (x := 4294967296 * r) (by omega) (by omega), wu64_of (x := 4294967296 * r + c) (by omega) (by omega)]
    refine Evt.succ ?_
    simp only [bits_Div64.j1]
    refine Evt.ite_neg (by simp only [decide_eq_true_eq]; exact fun h => hno (Or.inr h)) ?_
    rw [← g2 hno]
    exact fin
  | succ n ih =>
    intro q r hq hq2 hr hr0 hn
    obtain ⟨g1, g2, g3⟩ := div_corr hY ha hb hu hc hq hq2 hr hr0
    have key : ∀ t : Bool, (t = true ↔ (q ≥ 4294967296 ∨ q * b > 4294967296 * r + c)) → Evt (fun k => bits_Div64.j1 k Y s a b u c c0 q r t) res := by
      intro t ht
      refine Evt.succ ?_
      simp only [bits_Div64.j1]
      by_cases h : t = true
      · have h' := ht.1 h
        have hq1 := g1 h'
        refine Evt.ite_pos h ?_
        rw [wu64_of (x := r + a) (by omega) (by omega), wu64_of (x := q - 1) (by omega) (by omega)]
        by_cases h2 : r + a ≥ 4294967296
        · refine Evt.ite_pos h2 ?_
          rw [← g3 h' h2]
          exact fin
        · refine Evt.ite_neg h2 (ih (q - 1) (r + a) hq1 (by omega) ?_ (by omega) (by omega))
          rw [hr]; grind
      · refine Evt.ite_neg h ?_
        rw [← g2 (fun h' => h (ht.2 h'))]
        exact fin
    refine Evt.succ ?_
    simp only [bits_Div64.l0]
    by_cases h : q ≥ 4294967296
    · exact Evt.ite_pos h (key true ⟨fun _ => Or.inl h, fun _ => rfl⟩)
    · refine Evt.ite_neg h (key _ ?_)
      have hm := mul_u64 (x := q) (y := b) ⟨by omega, by omega⟩ hb
      rw [wu64_of hm.1 hm.2, wu64_of (x := 4294967296 * r) (by omega) (by omega), wu64_of (x := 4294967296 * r + c) (by omega) (by omega), decide_eq_true_eq]
      exact ⟨fun h => Or.inr h, fun h' => by rcases h' with h' | h'; exact absurd h' h; exact h'⟩
/-- What is left behind one digit. -/
theorem div_left {Y u c : Int} (hY : 0 < Y ∧ Y < 18446744073709551616) (hu : 0 ≤ u ∧ u < Y) (hc : 0 ≤ c ∧ c < 4294967296) :
    IntKind.u64.wrap ((IntKind.u64.wrap ((IntKind.u64.wrap (u * 4294967296)) + c)) - (IntKind.u64.wrap ((u * 4294967296 + c) / Y * Y))) = (u * 4294967296 + c) % Y := by
  have h1 : (u * 4294967296 + c) % Y + (u * 4294967296 + c) / Y * Y = u * 4294967296 + c := by rw [Int.mul_comm (_ / Y)]; exact Int.emod_add_mul_ediv _ _
  have h2 := Int.emod_nonneg (u * 4294967296 + c) (show Y ≠ 0 by omega)
  have h3 := Int.emod_lt_of_pos (u * 4294967296 + c) hY.1
  generalize (u * 4294967296 + c) % Y = m at *
  generalize (u * 4294967296 + c) / Y * Y = p at *
  simp only [wu64]
  omega
theorem div_first {Y a b u : Int} (c : Int) (hY : Y = a * 4294967296 + b) (ha : 2147483648 ≤ a ∧ a < 4294967296) (hb : 0 ≤ b ∧ b < 4294967296) (hu : 0 ≤ u ∧ u < Y) (hc : 0 ≤ c ∧ c < 4294967296) :
    IntKind.u64.wrap (Int.tdiv u a) = u / a ∧ IntKind.u64.wrap (u - IntKind.u64.wrap (u / a * a)) = u - u / a * a ∧ (u * 4294967296 + c) / Y ≤ u / a ∧ u / a ≤ 4294967297 ∧ 0 ≤ u - u / a * a ∧ u - u / a * a < 4294967296 := by
  have h1 : u % a + u / a * a = u := by rw [Int.mul_comm (u / a)]; exact Int.emod_add_mul_ediv _ _
  have h2 := Int.emod_nonneg u (show a ≠ 0 by omega)
  have h3 := Int.emod_lt_of_pos u (show 0 < a by omega)
  have h4 := Int.ediv_nonneg hu.1 (show 0 ≤ a by omega)
  have h5 : u / a < 4294967298 := by
    apply Int.ediv_lt_of_lt_mul (by omega)
    omega
  have h6 : (u * 4294967296 + c) / Y ≤ u / a := by
    have hY0 : 0 < Y := by omega
    have : (u * 4294967296 + c) / Y < u / a + 1 := by
      apply Int.ediv_lt_of_lt_mul hY0
      have e : (u / a + 1) * Y = (u / a * a + a) * 4294967296 + (u / a) * b + b := by rw [hY]; grind
      have h7 := Int.mul_nonneg h4 hb.1
      rw [e]
      omega
    omega
  rw [Int.tdiv_eq_ediv_of_nonneg hu.1, wu64_of h4 (by omega)]
  have h8 := Int.mul_nonneg h4 (show 0 ≤ a by omega)
  refine ⟨rfl, ?_, h6, by omega, by omega, by omega⟩
  rw [wu64_of (x := u / a * a) (by omega) (by omega), wu64_of (by omega) (by omega)]
theorem div_l1 {Y a b u c q1 : Int} (s : Nat) (hs : s < 64) (hY : Y = a * 4294967296 + b) (ha : 2147483648 ≤ a ∧ a < 4294967296) (hb : 0 ≤ b ∧ b < 4294967296) (hu : 0 ≤ u ∧ u < Y) (hc : 0 ≤ c ∧ c < 4294967296)
    (hq1 : 0 ≤ q1 ∧ q1 < 4294967296) (n : Nat) : ∀ q r : Int, (u * 4294967296 + c) / Y ≤ q → q ≤ 4294967297 → r = u - q * a → 0 ≤ r ∧ r < 4294967296 → q - (u * 4294967296 + c) / Y ≤ n →
    Evt (fun k => bits_Div64.l1 k Y (s : Int) a b c q1 r u q) (q1 * 4294967296 + (u * 4294967296 + c) / Y, (u * 4294967296 + c) % Y / 2 ^ s) := by
  have hQ0 : 0 ≤ (u * 4294967296 + c) / Y := Int.ediv_nonneg (by omega) (by omega)
  have hQ1 : (u * 4294967296 + c) / Y < 4294967296 := by
    apply Int.ediv_lt_of_lt_mul (by omega)
    omega
  have hl := div_left (Y := Y) (u := u) (c := c) ⟨by omega, by omega⟩ hu hc
  induction n with
  | zero =>
    intro q r hq hq2 hr hr0 hn
    obtain ⟨g1, g2, g3⟩ := div_corr hY ha hb hu hc hq hq2 hr hr0
    have hno : ¬ (q ≥ 4294967296 ∨ q * b > 4294967296 * r + c) := fun h => by have := g1 h; omega
    refine Evt.succ ?_
    simp only [bits_Div64.l1]
    refine Evt.ite_neg (fun h => hno (Or.inl h)) ?_
    have hm := mul_u64 (x := q) (y := b) ⟨by omega, by omega⟩ hb
    rw [wu64_of hm.1 hm.2, wu64_of (x := 4294967296 * r) (by omega) (by omega), wu64_of (x := 4294967296 * r + c) (by omega) (by omega)]
    refine Evt.succ ?_
    simp only [bits_Div64.j4]
    refine Evt.ite_neg (by simp only [decide_eq_true_eq]; exact fun h => hno (Or.inr h)) (Evt.ite_pos (by omega) ?_)
    rw [← g2 hno, hl, shr_u64 _ _ (by omega), wu64_of (x := q1 * 4294967296) (by omega) (by omega), wu64_of (by omega) (by omega)]
    exact Evt.pure _
  | succ n ih =>
    intro q r hq hq2 hr hr0 hn
    obtain ⟨g1, g2, g3⟩ := div_corr hY ha hb hu hc hq hq2 hr hr0
    have key : ∀ t : Bool, (t = true ↔ (q ≥ 4294967296 ∨ q * b > 4294967296 * r + c)) → Evt (fun k => bits_Div64.j4 k Y (s : Int) a b c q1 r u q t) (q1 * 4294967296 + (u * 4294967296 + c) / Y, (u * 4294967296 + c) % Y / 2 ^ s) := by
      intro t ht
      refine Evt.succ ?_
      simp only [bits_Div64.j4]
      by_cases h : t = true
      · have h' := ht.1 h
        have hq1 := g1 h'
        refine Evt.ite_pos h ?_
        rw [wu64_of (x := r + a) (by omega) (by omega), wu64_of (x := q - 1) (by omega) (by omega)]
        by_cases h2 : r + a ≥ 4294967296
        · refine Evt.ite_pos h2 (Evt.ite_pos (by omega) ?_)
          rw [← g3 h' h2, hl, shr_u64 _ _ (by omega), wu64_of (x := q1 * 4294967296) (by omega) (by omega), wu64_of (by omega) (by omega)]
          exact Evt.pure _
        · refine Evt.ite_neg h2 (ih (q - 1) (r + a) hq1 (by omega) ?_ (by omega) (by omega))
          rw [hr]; grind
      · refine Evt.ite_neg h (Evt.ite_pos (by omega) ?_)
        rw [← g2 (fun h' => h (ht.2 h')), hl, shr_u64 _ _ (by omega), wu64_of (x := q1 * 4294967296) (by omega) (by omega), wu64_of (by omega) (by omega)]
        exact Evt.pure _
    refine Evt.succ ?_
    simp only [bits_Div64.l1]
    by_cases h : q ≥ 4294967296
    · exact Evt.ite_pos h (key true ⟨fun _ => Or.inl h, fun _ => rfl⟩)
    · refine Evt.ite_neg h (key _ ?_)
      have hm := mul_u64 (x := q) (y := b) ⟨by omega, by omega⟩ hb
      rw [wu64_of hm.1 hm.2, wu64_of (x := 4294967296 * r) (by omega) (by omega), wu64_of (x := 4294967296 * r + c) (by omega) (by omega), decide_eq_true_eq]
      exact ⟨fun h => Or.inr h, fun h' => by rcases h' with h' | h'; exact absurd h' h; exact h'⟩
theorem mask32 {x : Int} (h0 : 0 ≤ x) (h1 : x < 18446744073709551616) : Go.bits .and .u64 x 4294967295 = x % 4294967296 := by
  have h := bits_mask .u64 64 (by decide) wraps_u64 32 (by decide) x h0 (by omega)
  rw [show (2 : Int) ^ 32 = 4294967296 from by decide] at h
  exact h
/-- Two limbs by one. -/
theorem bits_Div64_ev {hi lo y : Int} (h1 : 0 ≤ hi ∧ hi < y) (h2 : 0 ≤ lo ∧ lo < 18446744073709551616) (h3 : y < 18446744073709551616) :
    Evt (fun k => bits_Div64.f k hi lo y) ((hi * 18446744073709551616 + lo) / y, (hi * 18446744073709551616 + lo) % y) := by
  unfold bits_Div64.f
  refine Evt.ite_neg (by omega) (Evt.ite_neg (by omega) ?_)
  by_cases h0 : hi = 0
  · subst h0
    have h4 := Int.ediv_nonneg h2.1 (show 0 ≤ y by omega)
    have h5 := Int.ediv_le_self y h2.1
    refine Evt.ite_pos rfl ?_
    rw [Int.zero_mul, Int.zero_add, Int.tdiv_eq_ediv_of_nonneg h2.1, Int.tmod_eq_emod_of_nonneg h2.1, wu64_of h4 (by omega)]
    exact Evt.pure _
  · refine Evt.ite_neg h0 ?_
    have hbl := bl_le (x := y.toNat) (m := 64) (by omega)
    have hbp := bl_pos (n := y.toNat) (by omega)
    have hb1 := bl_lt y.toNat
    have hb2 := bl_ge (n := y.toNat) (by omega)
    obtain ⟨s, hs⟩ : ∃ s, s = 64 - bl y.toNat := ⟨_, rfl⟩
    have hs64 : s < 64 := by omega
    refine Evt.bind (Evt.bind (h := fun t _ => some (wrap64 (64 - t))) (bits_Len64_ev (x := y) (by omega) h3) (Evt.pure _)) ?_
    rw [show wrap64 (64 - ((bl y.toNat : Nat) : Int)) = (s : Int) from by rw [w64 (by omega) (by omega)]; omega]
    rw [wu64_of (x := (s : Int)) (by omega) (by omega), wu64_of (x := 64 - (s : Int)) (by omega) (by omega), show 64 - (s : Int) = ((64 - s : Nat) : Int) from by omega]
    rw [shl_u64 y s (by omega), shl_u64 hi s (by omega), shl_u64 lo s (by omega), shr_u64 lo (64 - s) (by omega)]
    have hp := pow2_pos s
    have hY1 : y * 2 ^ s < 18446744073709551616 := by
      have h4 : y.toNat * 2 ^ s < 2 ^ bl y.toNat * 2 ^ s := Nat.mul_lt_mul_of_pos_right hb1 (Nat.pow_pos (by decide))
      rw [← Nat.pow_add, show bl y.toNat + s = 64 from by omega] at h4
      have h5 : ((y.toNat * 2 ^ s : Nat) : Int) = y * 2 ^ s := by rw [Int.natCast_mul, Int.toNat_of_nonneg (by omega)]; simp
      omega
    have hY2 : 9223372036854775808 ≤ y * 2 ^ s := by
      have h4 : 2 ^ (bl y.toNat - 1) * 2 ^ s ≤ y.toNat * 2 ^ s := Nat.mul_le_mul_right _ hb2
      rw [← Nat.pow_add, show bl y.toNat - 1 + s = 63 from by omega] at h4
      have h5 : ((y.toNat * 2 ^ s : Nat) : Int) = y * 2 ^ s := by rw [Int.natCast_mul, Int.toNat_of_nonneg (by omega)]; simp
      omega
    have hh0 : 0 ≤ hi * 2 ^ s := Int.mul_nonneg h1.1 (by omega)
    have hh1 : hi * 2 ^ s + 2 ^ s ≤ y * 2 ^ s := by
      have := Int.mul_le_mul_of_nonneg_right (show hi + 1 ≤ y by omega) (show 0 ≤ (2 : Int) ^ s by omega)
      rw [Int.add_mul, Int.one_mul] at this
      exact this
    obtain ⟨f1, f2, f3, f4⟩ := shl_facts h2 (s := s) (by omega)
    have f5 := Int.emod_nonneg (lo * 2 ^ s) (show (18446744073709551616 : Int) ≠ 0 by omega)
    have f6 := Int.emod_lt_of_pos (lo * 2 ^ s) (show (0 : Int) < 18446744073709551616 by omega)
    rw [Int.emod_eq_of_lt (show 0 ≤ y * 2 ^ s by omega) hY1, Int.emod_eq_of_lt hh0 (by omega)]
    rw [or_u64 s (by omega) hh0 (Int.mul_emod_left _ _) (by omega) f3 f4]
    rw [mask32 (by omega) hY1, mask32 f5 f6]
    have hres : ((hi * 18446744073709551616 + lo) * 2 ^ s) / (y * 2 ^ s) = (hi * 18446744073709551616 + lo) / y := Int.mul_ediv_mul_of_pos_left _ _ hp
    have hrem : ((hi * 18446744073709551616 + lo) * 2 ^ s) % (y * 2 ^ s) = (hi * 18446744073709551616 + lo) % y * 2 ^ s := by
      rw [Int.mul_comm _ (2 ^ s), Int.mul_comm y, Int.mul_emod_mul_of_pos _ _ hp, Int.mul_comm]
    have hV : (hi * 18446744073709551616 + lo) * 2 ^ s = (hi * 2 ^ s + lo / 2 ^ (64 - s)) * 18446744073709551616 + (lo * 2 ^ s) % 18446744073709551616 := by
      have e : (hi * 18446744073709551616 + lo) * 2 ^ s = hi * 2 ^ s * 18446744073709551616 + lo * 2 ^ s := by grind
      rw [e]
      omega
    have hu : 0 ≤ hi * 2 ^ s + lo / 2 ^ (64 - s) ∧ hi * 2 ^ s + lo / 2 ^ (64 - s) < y * 2 ^ s := by omega
    generalize (hi * 18446744073709551616 + lo) / y = RQ at *
    generalize (hi * 18446744073709551616 + lo) % y = RM at *
    generalize hi * 2 ^ s + lo / 2 ^ (64 - s) = u at *
    generalize (lo * 2 ^ s) % 18446744073709551616 = v at *
    generalize y * 2 ^ s = Y at *
    rw [hV] at hres hrem
    have ha : 2147483648 ≤ Y / 4294967296 ∧ Y / 4294967296 < 4294967296 := by omega
    have hb : 0 ≤ Y % 4294967296 ∧ Y % 4294967296 < 4294967296 := by omega
    have hYY : Y = Y / 4294967296 * 4294967296 + Y % 4294967296 := by omega
    have hc : 0 ≤ v / 4294967296 ∧ v / 4294967296 < 4294967296 := by omega
    have hc0 : 0 ≤ v % 4294967296 ∧ v % 4294967296 < 4294967296 := by omega
    have hvv : v = v / 4294967296 * 4294967296 + v % 4294967296 := by omega
    generalize Y / 4294967296 = a at *
    generalize Y % 4294967296 = b at *
    generalize v / 4294967296 = c at *
    generalize v % 4294967296 = c0 at *
    refine Evt.ite_pos (by omega) (Evt.ite_pos (by omega) (Evt.ite_neg (by omega) ?_))
    obtain ⟨g1, g2, g3, g4, g5, g6⟩ := div_first c hYY ha hb hu hc
    rw [g1, g2]
    have hY0 : 0 < Y := by omega
    have m1 := Int.emod_nonneg (u * 4294967296 + c) (show Y ≠ 0 by omega)
    have m2 := Int.emod_lt_of_pos (u * 4294967296 + c) hY0
    have m3 := Int.emod_add_mul_ediv (u * 4294967296 + c) Y
    have q0 : 0 ≤ (u * 4294967296 + c) / Y := Int.ediv_nonneg (by omega) (by omega)
    have q1 : (u * 4294967296 + c) / Y < 4294967296 := by
      apply Int.ediv_lt_of_lt_mul hY0
      omega
    have hl := div_left (Y := Y) (u := u) (c := c) ⟨hY0, hY1⟩ hu hc
    refine div_l0 hYY ha hb hu hc ?_ 4294967300 (u / a) (u - u / a * a) g3 g4 rfl ⟨g5, g6⟩ (by omega)
    refine Evt.succ ?_
    simp only [bits_Div64.j2]
    refine Evt.ite_neg (by omega) ?_
    rw [hl]
    generalize (u * 4294967296 + c) % Y = u2 at *
    generalize (u * 4294967296 + c) / Y = Q1 at *
    obtain ⟨k1, k2, k3, k4, k5, k6⟩ := div_first c0 hYY ha hb ⟨m1, m2⟩ hc0
    rw [k1, k2]
    have n1 := Int.emod_nonneg (u2 * 4294967296 + c0) (show Y ≠ 0 by omega)
    have n2 := Int.emod_lt_of_pos (u2 * 4294967296 + c0) hY0
    have n3 := Int.emod_add_mul_ediv (u2 * 4294967296 + c0) Y
    have r0 : 0 ≤ (u2 * 4294967296 + c0) / Y := Int.ediv_nonneg (by omega) (by omega)
    have hend := div_l1 (q1 := Q1) s hs64 hYY ha hb ⟨m1, m2⟩ hc0 ⟨q0, q1⟩ 4294967300 (u2 / a) (u2 - u2 / a * a) k3 k4 rfl ⟨k5, k6⟩ (by omega)
    refine hend.congr (fun k => rfl) ?_
    generalize (u2 * 4294967296 + c0) % Y = M at *
    generalize (u2 * 4294967296 + c0) / Y = Q0 at *
    have ef : u * 18446744073709551616 + v = M + Y * (Q1 * 4294967296 + Q0) := by
      have e : Y * (Q1 * 4294967296 + Q0) = Y * Q1 * 4294967296 + Y * Q0 := by grind
      rw [e]
      omega
    rw [ef, Int.add_mul_ediv_left _ _ (show Y ≠ 0 by omega), Int.ediv_eq_zero_of_lt n1 n2, Int.zero_add] at hres
    rw [ef, Int.add_mul_emod_self_left, Int.emod_eq_of_lt n1 n2] at hrem
    rw [hres, hrem, Int.mul_ediv_cancel _ (by omega)]
end Go.Proofs.Yteabkedhdgnhgab.Z
end

section
namespace Go.Proofs.Yteabkedhdgnhgab.Z
open Go.RowKit Go.Proofs.Yteabkedhdgnhgab.F Go.Proofs.YteabkedhdgnhgabW.PrintWords
set_option linter.unusedSimpArgs false
set_option linter.unusedVariables false
/-- A digit's guess: no digit that fits is above it. -/
theorem guess_l0 {r2 r1 r0 d1 d0 : Int} (h0 : 0 ≤ r0 ∧ r0 < 18446744073709551616) (k1 : 0 < d1 ∧ d1 < 18446744073709551616) (k0 : 0 ≤ d0 ∧ d0 < 18446744073709551616) (n : Nat) :
    ∀ q rest : Int, 0 ≤ q ∧ q < 18446744073709551616 → 0 ≤ rest ∧ rest < 18446744073709551616 → q * d1 + rest = r2 * 18446744073709551616 + r1 → q ≤ n → (∀ h, h < 18446744073709551616 → h * (d1 * 18446744073709551616 + d0) ≤ (r2 * 18446744073709551616 + r1) * 18446744073709551616 + r0 → h ≤ q) →
    ∃ g, Evt (fun k => nat_guess.l0 k r0 d1 d0 q rest) g ∧ (0 ≤ g ∧ g < 18446744073709551616) ∧ ∀ h, h < 18446744073709551616 → h * (d1 * 18446744073709551616 + d0) ≤ (r2 * 18446744073709551616 + r1) * 18446744073709551616 + r0 → h ≤ g := by
  induction n with
  | zero =>
    intro q rest hq hr he hn hall
    obtain rfl : q = 0 := by omega
    obtain ⟨hi, lo, e, e2, e3, e4⟩ := bits_Mul64_eq (x := 0) (y := d0) (by omega) k0
    refine ⟨0, ?_, by omega, hall⟩
    refine Evt.succ ?_
    simp only [nat_guess.l0]
    refine Evt.bind (Evt.of (fun _ => e)) ?_
    refine Evt.cond' (fun _ => ?_) (fun c => ?_)
    · refine Evt.succ ?_
      simp only [nat_guess.j1]
      exact Evt.ite_pos (by simp) (Evt.pure _)
    · rw [Int.zero_mul] at e2
      refine Evt.ite_pos (by omega) ?_
      refine Evt.succ ?_
      simp only [nat_guess.j1]
      exact Evt.ite_pos (by simp; omega) (Evt.pure _)
  | succ n ih =>
    intro q rest hq hr he hn hall
    obtain ⟨hi, lo, e, e2, e3, e4⟩ := bits_Mul64_eq (x := q) (y := d0) hq k0
    by_cases hp : hi < rest ∨ (hi = rest ∧ lo ≤ r0)
    · refine ⟨q, ?_, hq, hall⟩
      refine Evt.succ ?_
      simp only [nat_guess.l0]
      refine Evt.bind (Evt.of (fun _ => e)) ?_
      refine Evt.cond' (fun _ => ?_) (fun c => ?_)
      · refine Evt.succ ?_
        simp only [nat_guess.j1]
        exact Evt.ite_pos (by simp) (Evt.pure _)
      · refine Evt.ite_pos (by omega) ?_
        refine Evt.succ ?_
        simp only [nat_guess.j1]
        exact Evt.ite_pos (by simp; omega) (Evt.pure _)
    · have hno : ∀ h, h < 18446744073709551616 → h * (d1 * 18446744073709551616 + d0) ≤ (r2 * 18446744073709551616 + r1) * 18446744073709551616 + r0 → h ≤ q - 1 := by
        intro h h1 h2
        have h3 := hall h h1 h2
        by_cases h4 : h = q
        · subst h4
          have e5 : h * (d1 * 18446744073709551616 + d0) = h * d1 * 18446744073709551616 + h * d0 := by grind
          rw [e5, ← e2] at h2
          omega
        · omega
      have hq0 : q ≠ 0 := by
        intro h
        subst h
        rw [Int.zero_mul] at e2
        omega
      have step : ∀ {g : Int}, Evt (fun k => if IntKind.u64.wrap (rest + d1) < rest then (some (IntKind.u64.wrap (q - 1))) else (nat_guess.l0 k r0 d1 d0 (IntKind.u64.wrap (q - 1)) (IntKind.u64.wrap (rest + d1)))) g → Evt (fun k => nat_guess.l0 k r0 d1 d0 q rest) g := by
        intro g hg
        refine Evt.succ ?_
        simp only [nat_guess.l0]
        refine Evt.bind (Evt.of (fun _ => e)) ?_
        refine Evt.ite_neg (by omega) ?_
        refine Evt.cond' (fun _ => ?_) (fun c => ?_)
        · refine Evt.succ ?_
          simp only [nat_guess.j1]
          exact Evt.ite_neg (by simp; omega) hg
        · refine Evt.succ ?_
          simp only [nat_guess.j1]
          exact Evt.ite_neg (by simp) hg
      rw [wu64_of (x := q - 1) (by omega) (by omega), wu64] at step
      by_cases hov : rest + d1 < 18446744073709551616
      · obtain ⟨g, g1, g2, g3⟩ := ih (q - 1) (rest + d1) (by omega) (by omega) (by rw [Int.sub_mul]; omega) (by omega) hno
        refine ⟨g, step ?_, g2, g3⟩
        rw [Int.emod_eq_of_lt (by omega) hov]
        exact Evt.ite_neg (by omega) g1
      · refine ⟨q - 1, step ?_, by omega, hno⟩
        exact Evt.ite_pos (by omega) (Evt.pure _)
theorem nat_guess_ev {r2 r1 r0 d1 d0 : Int} (h2 : 0 ≤ r2) (h1 : 0 ≤ r1 ∧ r1 < 18446744073709551616) (h0 : 0 ≤ r0 ∧ r0 < 18446744073709551616) (k1 : 0 < d1 ∧ d1 < 18446744073709551616) (k0 : 0 ≤ d0 ∧ d0 < 18446744073709551616) :
    ∃ g, Evt (fun k => nat_guess.f k r2 r1 r0 d1 d0) g ∧ (0 ≤ g ∧ g < 18446744073709551616) ∧ ∀ h, h < 18446744073709551616 → h * (d1 * 18446744073709551616 + d0) ≤ (r2 * 18446744073709551616 + r1) * 18446744073709551616 + r0 → h ≤ g := by
  by_cases hc : r2 ≥ d1
  · refine ⟨18446744073709551615, ?_, by omega, fun h h3 _ => by omega⟩
    unfold nat_guess.f
    exact Evt.ite_pos hc (Evt.pure _)
  · have hq0 : 0 ≤ (r2 * 18446744073709551616 + r1) / d1 := Int.ediv_nonneg (by omega) (by omega)
    have hq1 : (r2 * 18446744073709551616 + r1) / d1 < 18446744073709551616 := by
      apply Int.ediv_lt_of_lt_mul k1.1
      omega
    have hm0 := Int.emod_nonneg (r2 * 18446744073709551616 + r1) (show d1 ≠ 0 by omega)
    have hm1 := Int.emod_lt_of_pos (r2 * 18446744073709551616 + r1) k1.1
    have hm : (r2 * 18446744073709551616 + r1) / d1 * d1 + (r2 * 18446744073709551616 + r1) % d1 = r2 * 18446744073709551616 + r1 := by rw [Int.mul_comm]; exact Int.mul_ediv_add_emod _ _
    obtain ⟨g, g1, g2, g3⟩ := guess_l0 (r2 := r2) (r1 := r1) h0 k1 k0 ((r2 * 18446744073709551616 + r1) / d1).toNat ((r2 * 18446744073709551616 + r1) / d1) ((r2 * 18446744073709551616 + r1) % d1) ⟨hq0, hq1⟩ ⟨hm0, by omega⟩ hm (by omega) (by
      intro h h3 h4
      rw [Int.le_ediv_iff_mul_le k1.1]
      have e : h * (d1 * 18446744073709551616 + d0) = h * d1 * 18446744073709551616 + h * d0 := by grind
      rw [e] at h4
      by_cases h5 : 0 ≤ h
      · have : 0 ≤ h * d0 := Int.mul_nonneg h5 k0.1
        omega
      · have : h * d1 ≤ 0 := Int.mul_nonpos_of_nonpos_of_nonneg (by omega) (by omega)
        omega)
    refine ⟨g, ?_, g2, g3⟩
    unfold nat_guess.f
    refine Evt.ite_neg hc ?_
    exact Evt.bind (bits_Div64_ev (by omega) h1 k1.2) g1
end Go.Proofs.Yteabkedhdgnhgab.Z
end

section
namespace Go.Proofs.Yteabkedhdgnhgab.F
open Go.RowKit Go.Proofs.YteabkedhdgnhgabW.PrintWords Go.Proofs.YteabkedhdgnhgabW.PrintLast Go.Proofs.YteabkedhdgnhgabW.PrintMore
attribute [local go_sem] max2_int min2_int max_two min_two max_three min_three max_four min_four   -- for this text's walks alone
set_option linter.unusedVariables false
set_option linter.unusedSimpArgs false

/-! ### windbreakref01_compare: function 60 -/
def windbreakref01_compare.l0 : Nat → List Int → List Int → Int → Option (Int)
  | 0, _, _, _ => none
  | k + 1, x0, x1, x5 => if x5 ≥ 0 then (if 0 ≤ x5 then (if x5 < (x0.length : Int) then (if x5 < (x1.length : Int) then (if (rd x0 x5) < (rd x1 x5) then (some (-1)) else (if (rd x0 x5) > (rd x1 x5) then (some 1) else (windbreakref01_compare.l0 k x0 x1 (wrap64 (x5 - 1))))) else (none)) else (none)) else (none)) else (some 0)
def windbreakref01_compare.f (k : Nat) (l0 : List Int) (l1 : List Int) : Option (Int) := if (l0.length : Int) = (l1.length : Int) then (windbreakref01_compare.l0 k l0 l1 (wrap64 ((l0.length : Int) - 1))) else (if (l0.length : Int) < (l1.length : Int) then (some (-1)) else (some 1))
theorem windbreakref01_compare.mono_l : ∀ k, (∀ y0 y1 y2, LeO (windbreakref01_compare.l0 k y0 y1 y2) (windbreakref01_compare.l0 (k + 1) y0 y1 y2))
  | 0 => fun _ _ _ r h => by simp [windbreakref01_compare.l0] at h
  | k + 1 => by
    have ih0 := windbreakref01_compare.mono_l k
    · intro y0 y1 y2
      unfold windbreakref01_compare.l0
      repeat' first
      | (with_reducible exact ih0 _ _ _)
      | (with_reducible exact LeO.refl _)
      | (with_reducible exact LeO.none _)
      | (with_reducible refine LeO.ite ?_ ?_)
      | (with_reducible refine LeO.bind ?_ (fun _ => ?_))
      | exact ih0 _ _ _
      | exact LeO.none _
      | refine LeO.ite ?_ ?_
      | refine LeO.bind ?_ (fun _ => ?_)
theorem windbreakref01_compare.mono : ∀ a0 a1 k, LeO (windbreakref01_compare.f k a0 a1) (windbreakref01_compare.f (k + 1) a0 a1) := by
  intro a0 a1 k
  have ih0 := windbreakref01_compare.mono_l k
  unfold windbreakref01_compare.f
  repeat' first
      | (with_reducible exact ih0 _ _ _)
      | (with_reducible exact LeO.refl _)
      | (with_reducible exact LeO.none _)
      | (with_reducible refine LeO.ite ?_ ?_)
      | (with_reducible refine LeO.bind ?_ (fun _ => ?_))
      | exact ih0 _ _ _
      | exact LeO.none _
      | refine LeO.ite ?_ ?_
      | refine LeO.bind ?_ (fun _ => ?_)
set_option maxHeartbeats 8000000 in
set_option maxRecDepth 100000 in
theorem windbreakref01_compare.calls (k : Nat) (A0 : Option Addr) (c0 : Nat) (l0 : List Int) (A1 : Option Addr) (c1 : Nat) (l1 : List Int) (r : Int) (w : World) (hr0 : Kd.C (Kd.int .u64) w A0 l0.length l0) (hc0 : l0.length ≤ c0) (hr1 : Kd.C (Kd.int .u64) w A1 l1.length l1) (hc1 : l1.length ≤ c1) (h : windbreakref01_compare.f k l0 l1 = some r) :
    Calls Try.prog 60 #[.slice A0 l0.length c0, .slice A1 l1.length c1] w fun e w' => e = .returned (.int .i64 r) ∧ Drawn0 w w' := by
  have HR0 := Aside0.mk hr0
  have HC0 := Aside0.mk hc0
  clear hr0 hc0
  have HR1 := Aside0.mk hr1
  have HC1 := Aside0.mk hc1
  clear hr1 hc1
  have H : (if (l0.length : Int) = (l1.length : Int) then (windbreakref01_compare.l0 k l0 l1 (wrap64 ((l0.length : Int) - 1))) else (if (l0.length : Int) < (l1.length : Int) then (some (-1)) else (some 1))) = some r := h
  clear h
  by_cases c3 : (l0.length : Int) = (l1.length : Int)
  · rw [if_pos c3] at H
    have c3b0 : ((l0.length : Int) == (l1.length : Int)) = true := beq_iff_eq.mpr c3
    have c3b1 : ((l0.length : Int) != (l1.length : Int)) = false := bne_eq_false_iff_eq.mpr c3
    have c3b2 : (l0.length == l1.length) = true := by first | simpa using c3 | (simp at c3 ⊢; omega)
    clear c3
    have H' := Aside0.mk H
    clear H
    go_enter Try.func60, Try.ntmps60
    go_wp2
    repeat (go_quiet (fail); try go_wp2)
    go_loopg [5] k (fun kq v5 w' => ∃ (x5_1 : Int), v5 = .int .i64 x5_1 ∧ Aside0 (windbreakref01_compare.l0 kq l0 l1 x5_1 = some r) ∧ Aside0 (kq ≤ k) ∧ Drawn0 w w')
    case atStart => exact ⟨(wrap64 ((l0.length : Int) - 1)), (by first | rfl | (simp; done) | (simp [*]; done)), H', ⟨Nat.le_refl _⟩, by repeat (first | exact Drawn0.refl _ | apply Drawn0.step)⟩
    case round =>
      clear H'
      try clear c1
      try clear p2
      try clear c3
      try clear c3b0
      try clear c3b1
      try clear c3b2
      obtain ⟨x5_1, rfl, HA, HK1, ⟨m1, rfl⟩⟩ := hrel
      cases gk with
      | zero => exact absurd HA.out (by simp [windbreakref01_compare.l0])
      | succ k1 =>
        have H := HA.out
        clear HA
        simp only [windbreakref01_compare.l0] at H
        by_cases c4 : x5_1 ≥ 0
        · rw [if_pos c4] at H
          have c4b0 : decide (0 ≤ x5_1) = true := decide_eq_true c4
          clear c4
          by_cases c5 : 0 ≤ x5_1
          · rw [if_pos c5] at H
            have c5b0 : decide (0 ≤ x5_1) = true := decide_eq_true c5
            clear c5
            by_cases c6 : x5_1 < (l0.length : Int)
            · rw [if_pos c6] at H
              have c6b0 : decide (x5_1 < (l0.length : Int)) = true := decide_eq_true c6
              clear c6
              by_cases c7 : x5_1 < (l1.length : Int)
              · rw [if_pos c7] at H
                have c7b0 : decide (x5_1 < (l1.length : Int)) = true := decide_eq_true c7
                clear c7
                by_cases c8 : (rd l0 x5_1) < (rd l1 x5_1)
                · rw [if_pos c8] at H
                  have c8b0 : decide ((rd l0 x5_1) < (rd l1 x5_1)) = true := decide_eq_true c8
                  clear c8
                  obtain rfl := Option.some.inj H
                  have p488 : 0 ≤ (x5_1 : Int) := of_decide_eq_true (by first | (with_reducible assumption) | assumption)
                  have q488 : x5_1 < (l0.length : Int) := of_decide_eq_true (by first | (with_reducible assumption) | assumption)
                  obtain ⟨ad488, e488, hx488_0⟩ := Kd.at_int HR0.out x5_1 p488 q488
                  cases e488
                  replace p488 := eq_true p488
                  replace q488 := eq_true q488
                  have p489 : 0 ≤ (x5_1 : Int) := of_decide_eq_true (by first | (with_reducible assumption) | assumption)
                  have q489 : x5_1 < (l1.length : Int) := of_decide_eq_true (by first | (with_reducible assumption) | assumption)
                  obtain ⟨ad489, e489, hx489_0⟩ := Kd.at_int HR1.out x5_1 p489 q489
                  cases e489
                  replace p489 := eq_true p489
                  replace q489 := eq_true q489
                  go_wp2
                  repeat (go_quiet (fail); try go_wp2)
                  go_ret
                  exact ⟨by first | rfl | (simp; done) | (simp [*]; done), by repeat (first | exact Drawn0.refl _ | apply Drawn0.step)⟩
                · rw [if_neg c8] at H
                  have c8b0 : decide ((rd l0 x5_1) < (rd l1 x5_1)) = false := decide_eq_false c8
                  clear c8
                  by_cases c9 : (rd l0 x5_1) > (rd l1 x5_1)
                  · rw [if_pos c9] at H
                    have c9b0 : decide ((rd l1 x5_1) < (rd l0 x5_1)) = true := decide_eq_true c9
                    clear c9
                    obtain rfl := Option.some.inj H
                    have p488 : 0 ≤ (x5_1 : Int) := of_decide_eq_true (by first | (with_reducible assumption) | assumption)
                    have q488 : x5_1 < (l0.length : Int) := of_decide_eq_true (by first | (with_reducible assumption) | assumption)
                    obtain ⟨ad488, e488, hx488_0⟩ := Kd.at_int HR0.out x5_1 p488 q488
                    cases e488
                    replace p488 := eq_true p488
                    replace q488 := eq_true q488
                    have p489 : 0 ≤ (x5_1 : Int) := of_decide_eq_true (by first | (with_reducible assumption) | assumption)
                    have q489 : x5_1 < (l1.length : Int) := of_decide_eq_true (by first | (with_reducible assumption) | assumption)
                    obtain ⟨ad489, e489, hx489_0⟩ := Kd.at_int HR1.out x5_1 p489 q489
                    cases e489
                    replace p489 := eq_true p489
                    replace q489 := eq_true q489
                    have p490 : 0 ≤ (x5_1 : Int) := of_decide_eq_true (by first | (with_reducible assumption) | assumption)
                    have q490 : x5_1 < (l0.length : Int) := of_decide_eq_true (by first | (with_reducible assumption) | assumption)
                    obtain ⟨ad490, e490, hx490_0⟩ := Kd.at_int HR0.out x5_1 p490 q490
                    obtain rfl : ad488 = ad490 := (by injection e490)
                    replace p490 := eq_true p490
                    replace q490 := eq_true q490
                    have p491 : 0 ≤ (x5_1 : Int) := of_decide_eq_true (by first | (with_reducible assumption) | assumption)
                    have q491 : x5_1 < (l1.length : Int) := of_decide_eq_true (by first | (with_reducible assumption) | assumption)
                    obtain ⟨ad491, e491, hx491_0⟩ := Kd.at_int HR1.out x5_1 p491 q491
                    obtain rfl : ad489 = ad491 := (by injection e491)
                    replace p491 := eq_true p491
                    replace q491 := eq_true q491
                    go_wp2
                    repeat (go_quiet (fail); try go_wp2)
                    go_ret
                    exact ⟨by first | rfl | (simp; done) | (simp [*]; done), by repeat (first | exact Drawn0.refl _ | apply Drawn0.step)⟩
                  · rw [if_neg c9] at H
                    have c9b0 : decide ((rd l1 x5_1) < (rd l0 x5_1)) = false := decide_eq_false c9
                    clear c9
                    have H' := Aside0.mk H
                    clear H
                    have p488 : 0 ≤ (x5_1 : Int) := of_decide_eq_true (by first | (with_reducible assumption) | assumption)
                    have q488 : x5_1 < (l0.length : Int) := of_decide_eq_true (by first | (with_reducible assumption) | assumption)
                    obtain ⟨ad488, e488, hx488_0⟩ := Kd.at_int HR0.out x5_1 p488 q488
                    cases e488
                    replace p488 := eq_true p488
                    replace q488 := eq_true q488
                    have p489 : 0 ≤ (x5_1 : Int) := of_decide_eq_true (by first | (with_reducible assumption) | assumption)
                    have q489 : x5_1 < (l1.length : Int) := of_decide_eq_true (by first | (with_reducible assumption) | assumption)
                    obtain ⟨ad489, e489, hx489_0⟩ := Kd.at_int HR1.out x5_1 p489 q489
                    cases e489
                    replace p489 := eq_true p489
                    replace q489 := eq_true q489
                    have p490 : 0 ≤ (x5_1 : Int) := of_decide_eq_true (by first | (with_reducible assumption) | assumption)
                    have q490 : x5_1 < (l0.length : Int) := of_decide_eq_true (by first | (with_reducible assumption) | assumption)
                    obtain ⟨ad490, e490, hx490_0⟩ := Kd.at_int HR0.out x5_1 p490 q490
                    obtain rfl : ad488 = ad490 := (by injection e490)
                    replace p490 := eq_true p490
                    replace q490 := eq_true q490
                    have p491 : 0 ≤ (x5_1 : Int) := of_decide_eq_true (by first | (with_reducible assumption) | assumption)
                    have q491 : x5_1 < (l1.length : Int) := of_decide_eq_true (by first | (with_reducible assumption) | assumption)
                    obtain ⟨ad491, e491, hx491_0⟩ := Kd.at_int HR1.out x5_1 p491 q491
                    obtain rfl : ad489 = ad491 := (by injection e491)
                    replace p491 := eq_true p491
                    replace q491 := eq_true q491
                    go_wp2
                    repeat (go_quiet (fail); try go_wp2)
                    go_roundg k1
                    case measure => have := HK1.out; omega
                    case rel => exact ⟨(wrap64 (x5_1 - 1)), (by first | rfl | (simp; done) | (simp [*]; done)), H', ⟨by have := HK1.out; omega⟩, by repeat (first | exact Drawn0.refl _ | apply Drawn0.step)⟩
              · rw [if_neg c7] at H
                exact absurd H (by simp)
            · rw [if_neg c6] at H
              exact absurd H (by simp)
          · rw [if_neg c5] at H
            exact absurd H (by simp)
        · rw [if_neg c4] at H
          have c4b0 : decide (0 ≤ x5_1) = false := decide_eq_false c4
          clear c4
          obtain rfl := Option.some.inj H
          go_wp2
          repeat (go_quiet (fail); try go_wp2)
          go_ret
          exact ⟨by first | rfl | (simp; done) | (simp [*]; done), by repeat (first | exact Drawn0.refl _ | apply Drawn0.step)⟩
  · rw [if_neg c3] at H
    have c3b0 : ((l0.length : Int) == (l1.length : Int)) = false := beq_eq_false_iff_ne.mpr c3
    have c3b1 : ((l0.length : Int) != (l1.length : Int)) = true := bne_iff_ne.mpr c3
    have c3b2 : (l0.length == l1.length) = false := by first | simpa using c3 | (simp at c3 ⊢; omega)
    by_cases c10 : (l0.length : Int) < (l1.length : Int)
    · rw [if_pos c10] at H
      have c10b0 : decide ((l0.length : Int) < (l1.length : Int)) = true := decide_eq_true c10
      have c10b1 : decide (l0.length < l1.length) = true := decide_eq_true (Int.ofNat_lt.mp c10)
      clear c10
      obtain rfl := Option.some.inj H
      go_enter Try.func60, Try.ntmps60
      go_wp2
      repeat (go_quiet (fail); try go_wp2)
      go_ret
      exact ⟨by first | rfl | (simp; done) | (simp [*]; done), by repeat (first | exact Drawn0.refl _ | apply Drawn0.step)⟩
    · rw [if_neg c10] at H
      have c10b0 : decide ((l0.length : Int) < (l1.length : Int)) = false := decide_eq_false c10
      have c10b1 : decide (l0.length < l1.length) = false := decide_eq_false (fun h => c10 (Int.ofNat_lt.mpr h))
      clear c10
      obtain rfl := Option.some.inj H
      go_enter Try.func60, Try.ntmps60
      go_wp2
      repeat (go_quiet (fail); try go_wp2)
      go_ret
      exact ⟨by first | rfl | (simp; done) | (simp [*]; done), by repeat (first | exact Drawn0.refl _ | apply Drawn0.step)⟩

end Go.Proofs.Yteabkedhdgnhgab.F
end

section
namespace Go.Proofs.Yteabkedhdgnhgab.Z
open Go.RowKit Go.Proofs.Yteabkedhdgnhgab.F Go.Proofs.YteabkedhdgnhgabW.PrintWords
set_option linter.unusedSimpArgs false
set_option linter.unusedVariables false
/-- The first i digits, the highest compared first. -/
def cmpL (B : Int) (l m : List Int) : Int := if val B l < val B m then -1 else if val B l = val B m then 0 else 1
theorem val_take_succ (B : Int) (l : List Int) (i : Nat) (h : i < l.length) : val B (l.take (i + 1)) = val B (l.take i) + B ^ i * l[i] := by
  rw [List.take_succ_eq_append_getElem h, val_append]
  simp only [val, List.length_take]
  rw [show min i l.length = i from by omega, Int.mul_zero, Int.add_zero]
theorem cmp_step {B : Int} (hB : 0 < B) {l m : List Int} (hl : Dig B l) (hm : Dig B m) (i : Nat) (h1 : i < l.length) (h2 : i < m.length) :
    (l[i] < m[i] → cmpL B (l.take (i + 1)) (m.take (i + 1)) = -1) ∧ (m[i] < l[i] → cmpL B (l.take (i + 1)) (m.take (i + 1)) = 1) ∧ (l[i] = m[i] → cmpL B (l.take (i + 1)) (m.take (i + 1)) = cmpL B (l.take i) (m.take i)) := by
  have a1 := val_nonneg hB (hl.take i)
  have a2 := val_nonneg hB (hm.take i)
  have b1 := val_lt hB (hl.take i)
  have b2 := val_lt hB (hm.take i)
  rw [List.length_take, show min i l.length = i from by omega] at b1
  rw [List.length_take, show min i m.length = i from by omega] at b2
  have hp : 0 < B ^ i := Int.pow_pos hB
  unfold cmpL
  rw [val_take_succ B l i h1, val_take_succ B m i h2]
  refine ⟨fun h => ?_, fun h => ?_, fun h => ?_⟩
  · have h3 : B ^ i * (l[i] + 1) ≤ B ^ i * m[i] := Int.mul_le_mul_of_nonneg_left (by omega) (by omega)
    rw [Int.mul_add, Int.mul_one] at h3
    rw [if_pos (by omega)]
  · have h3 : B ^ i * (m[i] + 1) ≤ B ^ i * l[i] := Int.mul_le_mul_of_nonneg_left (by omega) (by omega)
    rw [Int.mul_add, Int.mul_one] at h3
    rw [if_neg (by omega), if_neg (by omega)]
  · rw [h]
    by_cases c1 : val B (l.take i) < val B (m.take i)
    · rw [if_pos c1, if_pos (by omega)]
    · by_cases c2 : val B (l.take i) = val B (m.take i)
      · rw [if_neg c1, if_pos c2, if_neg (by omega), if_pos (by omega)]
      · rw [if_neg c1, if_neg c2, if_neg (by omega), if_neg (by omega)]
end Go.Proofs.Yteabkedhdgnhgab.Z
end

section
namespace Go.Proofs.Yteabkedhdgnhgab.Z
open Go.RowKit Go.Proofs.Yteabkedhdgnhgab.F Go.Proofs.YteabkedhdgnhgabW.PrintWords
set_option linter.unusedSimpArgs false
set_option linter.unusedVariables false
theorem nat_compare_loop {B : Int} (hB : 0 < B) (l m : List Int) (hl : Dig B l) (hm : Dig B m) (hlen : l.length = m.length) (hb : l.length ≤ 1000000) : ∀ i : Nat, i ≤ l.length → Evt (fun k => nat_compare.l0 k l m ((i : Int) - 1)) (cmpL B (l.take i) (m.take i)) := by
  intro i
  induction i with
  | zero =>
    intro _
    refine Evt.succ ?_
    simp only [nat_compare.l0]
    refine Evt.ite_neg (by omega) ?_
    exact Evt.pure _
  | succ i ih =>
    intro hi
    have h1 : i < l.length := by omega
    have h2 : i < m.length := by omega
    obtain ⟨s1, s2, s3⟩ := cmp_step hB hl hm i h1 h2
    rw [show (((i + 1 : Nat) : Int) - 1) = (i : Int) from by omega]
    refine Evt.succ ?_
    simp only [nat_compare.l0]
    refine Evt.ite_pos (by omega) (Evt.ite_pos (by omega) (Evt.ite_pos (by omega) (Evt.ite_pos (by omega) ?_)))
    have e1 : rd l (i : Int) = l[i] := by simp [rd_nat, h1]
    have e2 : rd m (i : Int) = m[i] := by simp [rd_nat, h2]
    rw [e1, e2]
    by_cases c0 : l[i] = m[i]
    · rw [s3 c0]
      refine Evt.ite_pos c0 ?_
      rw [w64 (by omega) (by omega)]
      exact ih (by omega)
    · refine Evt.ite_neg c0 ?_
      by_cases c1 : l[i] < m[i]
      · rw [s1 c1]; exact Evt.ite_pos c1 (Evt.pure _)
      · rw [s2 (by omega)]; exact Evt.ite_neg c1 (Evt.pure _)
theorem nat_compare_any {B : Int} (hB : 0 < B) (l m : List Int) (hl : Dig B l) (hm : Dig B m) (cl : Can l) (cm : Can m) (hb : l.length ≤ 1000000) : Evt (fun k => nat_compare.f k l m) (cmpL B l m) := by
  unfold nat_compare.f
  by_cases hlen : l.length = m.length
  · refine Evt.ite_pos (by omega) ?_
    rw [w64 (by omega) (by omega)]
    have := nat_compare_loop hB l m hl hm hlen hb l.length (Nat.le_refl _)
    refine this.congr (fun k => rfl) ?_
    rw [List.take_length, hlen, List.take_length]
  · refine Evt.ite_neg (by omega) ?_
    by_cases h2 : l.length < m.length
    · have := val_lt_of_length hB hl hm cm h2
      have e : cmpL B l m = -1 := if_pos this
      rw [e]
      exact Evt.ite_pos (by omega) (Evt.pure _)
    · have := val_lt_of_length hB hm hl cl (by omega)
      have e : cmpL B l m = 1 := by unfold cmpL; rw [if_neg (by omega), if_neg (by omega)]
      rw [e]
      exact Evt.ite_neg (by omega) (Evt.pure _)
theorem nat_compare_ev (l m : List Int) (hl : Dig (b64 : Int) l) (hm : Dig (b64 : Int) m) (cl : Can l) (cm : Can m) (hb : l.length ≤ 1000000) : Evt (fun k => nat_compare.f k l m) (cmpN (num l) (num m)) := by
  refine (nat_compare_any b64_pos l m hl hm cl cm hb).congr (fun k => rfl) ?_
  unfold cmpL cmpN
  rw [← num_val hl, ← num_val hm]
  simp only [Int.ofNat_lt, Int.natCast_inj]
end Go.Proofs.Yteabkedhdgnhgab.Z
end

section
namespace Go.Proofs.Yteabkedhdgnhgab.Z
open Go.RowKit Go.Proofs.Yteabkedhdgnhgab.F Go.Proofs.YteabkedhdgnhgabW.PrintWords
set_option linter.unusedSimpArgs false
set_option linter.unusedVariables false
theorem nat_Of_ev (n : Int) : Evt (fun k => nat_Of.f k n) (strip [n]) := by
  refine (Evt.bind (nat_trim_ev [n] (by simp [maxLen])) (h := fun t _ => some t) (Evt.pure _)).congr (fun k => rfl) rfl
end Go.Proofs.Yteabkedhdgnhgab.Z
end

section
namespace Go.Proofs.Yteabkedhdgnhgab.Z
open Go.RowKit Go.Proofs.Yteabkedhdgnhgab.F Go.Proofs.YteabkedhdgnhgabW.PrintWords Go.Proofs.YteabkedhdgnhgabW.PrintMore
set_option linter.unusedSimpArgs false
set_option linter.unusedVariables false
/-- The limbs done, and the limb under way: its high bits c. -/
theorem nat_up_loop (a : List Int) (da : Dig (b64 : Int) a) (ha : a.length ≤ 100000) (s : Nat) (hs : s < 64) (n : Nat) :
    ∀ (i : Nat) (p : List Int) (c : Int), a.length - i = n → i ≤ a.length → p.length = i → Dig (b64 : Int) p → 0 ≤ c ∧ c < 2 ^ s → val (b64 : Int) p + c * (b64 : Int) ^ i = val (b64 : Int) (a.take i) * 2 ^ s →
      ∃ r, Evt (fun k => nat_up.l0 k (s : Int) (p ++ c :: List.replicate n 0) a (a.length : Int) (i : Int)) r ∧ Dig (b64 : Int) r ∧ r.length = a.length + 1 ∧ val (b64 : Int) r = val (b64 : Int) a * 2 ^ s := by
  have hs64 : (2 : Int) ^ s ≤ 2 ^ 63 := pow_mono (by omega) (by omega)
  have hB : (b64 : Int) = 18446744073709551616 := rfl
  induction n with
  | zero =>
    intro i p c hn hi hp dp hc hv
    refine ⟨p ++ [c], ?_, Dig.append.2 ⟨dp, Dig.cons.2 ⟨by rw [hB]; omega, Dig.nil⟩⟩, by simp; omega, ?_⟩
    · refine Evt.succ ?_
      simp only [nat_up.l0]
      exact Evt.ite_neg (by omega) (Evt.pure _)
    · rw [List.take_of_length_le (by omega)] at hv
      rw [val_append, hp]
      simp only [val, Int.mul_zero, Int.add_zero]
      rw [Int.mul_comm ((b64 : Int) ^ i) c]
      exact hv
  | succ n ih =>
    intro i p c hn hi hp dp hc hv
    have hlt : i < a.length := by omega
    have rx := da a[i] (List.getElem_mem hlt)
    rw [hB] at rx
    obtain ⟨f1, f2, f3, f4⟩ := shl_facts rx (s := s) (by omega)
    have f5 : 0 ≤ (a[i] * 2 ^ s) % 18446744073709551616 := by omega
    have f6 : (a[i] * 2 ^ s) % 18446744073709551616 < 18446744073709551616 := by omega
    have hor : Go.bits .or .u64 c ((a[i] * 2 ^ s) % 18446744073709551616) = (a[i] * 2 ^ s) % 18446744073709551616 + c := by
      rw [or_comm_u64 hc.1 (by omega) f5 f6]
      exact or_u64 s (by omega) f5 f2 f6 hc.1 hc.2
    have hlow : (a[i] * 2 ^ s) % 18446744073709551616 + c < 18446744073709551616 := by
      have hp64 := pow64_split (s := s) (by omega)
      have hq := pow2_pos (64 - s)
      have hps := pow2_pos s
      generalize (a[i] * 2 ^ s) % 18446744073709551616 = z at *
      generalize (2 : Int) ^ s = P at *
      generalize (2 : Int) ^ (64 - s) = Q at *
      obtain ⟨t, ht⟩ := Int.dvd_of_emod_eq_zero f2
      subst ht
      have ht2 : t < Q := by
        refine Int.not_le.1 (fun hle => ?_)
        have := Int.mul_le_mul_of_nonneg_left hle (Int.le_of_lt hps)
        omega
      have : P * (t + 1) ≤ P * Q := Int.mul_le_mul_of_nonneg_left (by omega) (by omega)
      rw [Int.mul_add] at this
      omega
    generalize hz : (a[i] * 2 ^ s) % 18446744073709551616 = z at *
    obtain ⟨r, e1, e2, e3, e4⟩ := ih (i + 1) (p ++ [z + c]) (a[i] / 2 ^ (64 - s)) (by omega) (by omega) (by simp; omega) (Dig.append.2 ⟨dp, Dig.cons.2 ⟨by rw [hB]; omega, Dig.nil⟩⟩) ⟨f3, f4⟩ (by
      rw [val_append, hp, val_take_step (b64 : Int) a i hlt, Int.pow_succ]
      simp only [val, Int.mul_zero, Int.add_zero]
      rw [hB]
      rw [hB] at hv
      generalize (18446744073709551616 : Int) ^ i = P at *
      generalize a[i] / 2 ^ (64 - s) = h at *
      generalize val 18446744073709551616 (a.take i) = va at *
      generalize val 18446744073709551616 p = vp at *
      generalize (2 : Int) ^ s = S at *
      generalize a[i] = x at *
      have e : z = x * S - 18446744073709551616 * h := by omega
      rw [e]
      have e2 : vp = va * S - c * P := by omega
      rw [e2]
      grind)
    refine ⟨r, ?_, e2, e3, e4⟩
    refine Evt.succ ?_
    simp only [nat_up.l0]
    have hx : rd a (i : Int) = a[i] := by simp [rd_nat, hlt]
    have hc0 : rd (p ++ c :: List.replicate (n + 1) 0) (i : Int) = c := by
      rw [rd_nat]
      simp [List.getD_eq_getElem?_getD, ← hp]
    refine Evt.ite_pos (by omega) (Evt.ite_pos (by omega) (Evt.ite_pos (by omega) (Evt.ite_pos (by simp; omega) (Evt.ite_pos (by omega) ?_))))
    simp only [Option.bind_some]
    rw [hx, hc0, shl_u64 _ s (by omega), hz, hor, show ((i : Int)).toNat = p.length from by omega, set_at]
    rw [w64 (show -9223372036854775808 ≤ (i : Int) + 1 by omega) (by omega)]
    by_cases h0 : s = 0
    · refine Evt.ite_neg (by omega) ?_
      refine e1.congr (fun k => ?_) rfl
      have e0 : a[i] / 2 ^ (64 - s) = 0 := by
        rw [h0] at f4 f3 ⊢
        simp only [Int.pow_zero] at f4
        omega
      rw [e0, List.append_assoc]
      rfl
    · refine Evt.ite_pos (by omega) (Evt.ite_pos ?_ (Evt.ite_pos (by omega) (Evt.ite_pos (by simp; omega) ?_)))
      · rw [wu64_of (by omega) (by omega)]; omega
      · rw [wu64_of (by omega) (by omega), show (64 : Int) - (s : Int) = ((64 - s : Nat) : Int) from by omega, shr_u64 _ (64 - s) (by omega)]
        refine e1.congr (fun k => ?_) rfl
        have hset : (p ++ (z + c) :: List.replicate (n + 1) 0).set ((i : Int) + 1).toNat (a[i] / 2 ^ (64 - s)) = (p ++ [z + c]) ++ (a[i] / 2 ^ (64 - s)) :: List.replicate n 0 := by
          have e : p ++ (z + c) :: List.replicate (n + 1) 0 = (p ++ [z + c]) ++ 0 :: List.replicate n 0 := by rw [List.append_assoc, List.replicate_succ]; rfl
          rw [e, show ((i : Int) + 1).toNat = (p ++ [z + c]).length from by simp; omega]
          exact set_at _ _ _ _
        rw [hset]
        rfl
theorem nat_up_ev (a : List Int) (da : Dig (b64 : Int) a) (ha : a.length ≤ 100000) (s : Nat) (hs : s < 64) : ∃ r, Evt (fun k => nat_up.f k a (s : Int)) r ∧ Dig (b64 : Int) r ∧ r.length = a.length + 1 ∧ num r = num a * 2 ^ s := by
  obtain ⟨r, e1, e2, e3, e4⟩ := nat_up_loop a da ha s hs a.length 0 [] 0 (by omega) (by omega) rfl Dig.nil ⟨by omega, pow2_pos s⟩ (by simp [val])
  refine ⟨r, ?_, e2, e3, ?_⟩
  · unfold nat_up.f
    rw [w64 (show -9223372036854775808 ≤ (a.length : Int) + 1 by omega) (by omega)]
    refine Evt.ite_pos (by omega) (Evt.ite_pos (by omega) ?_)
    refine e1.congr (fun k => ?_) rfl
    rw [show ((a.length : Int) + 1).toNat = a.length + 1 from by omega, List.nil_append, List.replicate_succ]
    rfl
  · have h1 := num_val e2
    have h2 := num_val da
    have h3 : ((num a * 2 ^ s : Nat) : Int) = (num a : Int) * 2 ^ s := by simp
    rw [e4, ← h2, ← h3] at h1
    omega
end Go.Proofs.Yteabkedhdgnhgab.Z
end

section
namespace Go.Proofs.Yteabkedhdgnhgab.Z
open Go.RowKit Go.Proofs.YteabkedhdgnhgabW.PrintWords Go.Proofs.YteabkedhdgnhgabW.PrintMore
set_option linter.unusedSimpArgs false
set_option linter.unusedVariables false
/-- Limbs moved down by less than a limb's bits. -/
def downL (s : Nat) : List Int → List Int
  | [] => []
  | x :: l => (x / 2 ^ s + (if s = 0 then 0 else (l.getD 0 0 * 2 ^ (64 - s)) % 18446744073709551616)) :: downL s l
theorem downL_facts (s : Nat) (hs : s < 64) (l : List Int) (d : Dig (b64 : Int) l) : Dig (b64 : Int) (downL s l) ∧ (downL s l).length = l.length ∧ val (b64 : Int) (downL s l) * 2 ^ s + l.getD 0 0 % 2 ^ s = val (b64 : Int) l := by
  have hB : (b64 : Int) = 18446744073709551616 := rfl
  have hps := pow2_pos s
  induction l with
  | nil => exact ⟨Dig.nil, rfl, by simp [downL, val]⟩
  | cons x l ih =>
    have d1 := Dig.cons.1 d
    obtain ⟨i1, i2, i3⟩ := ih d1.2
    have rx := d1.1
    have ry := d1.2.getD b64_pos 0
    rw [hB] at rx ry
    by_cases h0 : s = 0
    · subst h0
      simp only [downL, Int.pow_zero, Int.ediv_one, if_true, Int.add_zero] at i3 ⊢
      refine ⟨Dig.cons.2 ⟨by rw [hB]; exact rx, i1⟩, by simp [i2], ?_⟩
      simp only [val, List.getD_cons_zero, Int.emod_one, Int.add_zero, Int.mul_one] at i3 ⊢
      rw [i3]
    · have hp64 := pow64_split (s := s) (by omega)
      have hq := pow2_pos (64 - s)
      obtain ⟨f1, f2, f3, f4⟩ := shl_facts ry (s := 64 - s) (by omega)
      rw [show 64 - (64 - s) = s from by omega] at f1 f3 f4
      simp only [downL, if_neg h0]
      have e1 := Int.emod_add_mul_ediv x (2 ^ s)
      have e2 := Int.emod_nonneg x (show (2 : Int) ^ s ≠ 0 by omega)
      have e3 := Int.emod_lt_of_pos x hps
      have e4 := Int.emod_add_mul_ediv (l.getD 0 0) (2 ^ s)
      generalize hz : (l.getD 0 0 * 2 ^ (64 - s)) % 18446744073709551616 = z at *
      generalize hxd : x / 2 ^ s = xd at *
      generalize hyd : l.getD 0 0 / 2 ^ s = yd at *
      generalize l.getD 0 0 = y at *
      have hxd1 : xd < 2 ^ (64 - s) := by
        rw [← hxd]
        apply Int.ediv_lt_of_lt_mul hps
        rw [Int.mul_comm, hp64]
        exact rx.2
      have hxd0 : 0 ≤ xd := by rw [← hxd]; exact Int.ediv_nonneg rx.1 (by omega)
      obtain ⟨t, ht⟩ := Int.dvd_of_emod_eq_zero f2
      have hz0 : 0 ≤ z := by omega
      have hz1 : z < 18446744073709551616 := by omega
      refine ⟨Dig.cons.2 ⟨?_, i1⟩, by simp [i2], ?_⟩
      · rw [hB]
        refine ⟨by omega, ?_⟩
        have ht2 : t < 2 ^ s := by
          refine Int.not_le.1 (fun hle => ?_)
          have := Int.mul_le_mul_of_nonneg_left hle (Int.le_of_lt hq)
          rw [Int.mul_comm ((2 : Int) ^ (64 - s)) (2 ^ s), hp64] at this
          omega
        have h5 : 2 ^ (64 - s) * (t + 1) ≤ (2 : Int) ^ (64 - s) * 2 ^ s := Int.mul_le_mul_of_nonneg_left (by omega) (by omega)
        rw [Int.mul_comm ((2 : Int) ^ (64 - s)) (2 ^ s), hp64, Int.mul_add] at h5
        omega
      · simp only [val, List.getD_cons_zero]
        rw [hB] at i3 ⊢
        generalize val 18446744073709551616 (downL s l) = vd at *
        generalize val 18446744073709551616 l = vl at *
        generalize x % 2 ^ s = xm at *
        generalize y % 2 ^ s = ym at *
        have hP : (2 : Int) ^ (64 - s) * 2 ^ s = 18446744073709551616 := by rw [Int.mul_comm]; exact hp64
        generalize (2 : Int) ^ s = P at *
        generalize (2 : Int) ^ (64 - s) = Q at *
        have e5 : (xd + z + 18446744073709551616 * vd) * P + xm = P * xd + xm + (z * P + 18446744073709551616 * (vd * P)) := by grind
        rw [e5]
        have e6 : z = y * Q - 18446744073709551616 * yd := by omega
        have e7 : z * P = 18446744073709551616 * ym := by
          rw [e6, ← e4, ← hP]
          grind
        rw [e7]
        omega
theorem num_down {a : List Int} (da : Dig (b64 : Int) a) (s : Nat) (hs : s < 64) : num (downL s a) = num a / 2 ^ s := by
  obtain ⟨d, _, e⟩ := downL_facts s hs a da
  have h1 := num_val d
  have h2 := num_val da
  have hp := pow2_pos s
  have hr0 := Int.emod_nonneg (a.getD 0 0) (show (2 : Int) ^ s ≠ 0 by omega)
  have hr1 := Int.emod_lt_of_pos (a.getD 0 0) hp
  rw [← h1, ← h2] at e
  generalize a.getD 0 0 % 2 ^ s = r at *
  obtain ⟨r', rfl⟩ := Int.eq_ofNat_of_zero_le hr0
  have hP : (2 : Int) ^ s = ((2 ^ s : Nat) : Int) := by simp
  rw [hP] at e hr1
  have e2 : num a = r' + 2 ^ s * num (downL s a) := by
    have : ((r' + 2 ^ s * num (downL s a) : Nat) : Int) = (r' : Int) + ((2 ^ s : Nat) : Int) * (num (downL s a) : Int) := by simp
    rw [Int.mul_comm] at e
    omega
  rw [e2, Nat.add_mul_div_left _ _ (Nat.pow_pos (by decide)), Nat.div_eq_of_lt (by omega), Nat.zero_add]
end Go.Proofs.Yteabkedhdgnhgab.Z
end
