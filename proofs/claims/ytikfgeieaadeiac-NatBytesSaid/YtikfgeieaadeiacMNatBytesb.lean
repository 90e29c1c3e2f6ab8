/- Proved: the law NatBytes of layer 1: any number's bytes, and the number of any bytes, are the document's; for every input, without a condition. -/
import Derived.Test.YtikfgeieaadeiacMNatBytesa
import Derived.Laws.BitsLemmas
import Derived.Test.YtikfgeieaadeiacRows
import Derived.WalkKit
import Derived.ProofKit
import Derived.OpenShut
import Derived.ShutString
import Derived.ChangeOld
import Derived.Below
import Derived.SizedLaws
import Derived.Test.YtikfgeieaadeiacWSized

namespace Go.Proofs.Ytikfgeieaadeiac.F
open Go.RowKit Go.Proofs.YtikfgeieaadeiacW.PrintWords Go.Proofs.YtikfgeieaadeiacW.PrintLast Go.Proofs.YtikfgeieaadeiacW.PrintMore
attribute [local go_sem] max2_int min2_int max_two min_two max_three min_three max_four min_four   -- for this text's walks alone
set_option linter.unusedVariables false
set_option linter.unusedSimpArgs false

/-! ### windbreaklaw01_NatBytes: function 6 -/
def windbreaklaw01_NatBytes.f (k : Nat) (l0 : List Int) (l1 : List Int) : Option (Bool) := (windbreaklaw01_few.f k (([l0] : List (List Int)))).bind fun t525 => (if t525 = true then ((nat_Bytes.f k l0).bind fun t526 => ((nat_Read.f k l1).bind fun bt529 => ((windbreakref01_Read.f k l1).bind fun bt533 => ((windbreakref01_Same.f k bt529.1 bt533.1).bind fun t537 => ((nat_Read.f k (([1] : List Int))).bind fun bt541 => ((windbreakref01_Bytes.f k l0).bind fun t545 => (if (strOfNums t526).toList = (strOfNums t545).toList then (if t537 = true then (if bt529.2 = bt533.2 then (some ((bt541.1.length : Int) == 1)) else (some false)) else (some false)) else (some false)))))))) else (some true))
theorem windbreaklaw01_NatBytes.mono : ∀ a0 a1 k, LeO (windbreaklaw01_NatBytes.f k a0 a1) (windbreaklaw01_NatBytes.f (k + 1) a0 a1) := by
  intro a0 a1 k
  unfold windbreaklaw01_NatBytes.f
  repeat' first
      | (with_reducible exact nat_Bytes.mono _ _)
      | (with_reducible exact nat_Read.mono _ _)
      | (with_reducible exact windbreaklaw01_few.mono _ _)
      | (with_reducible exact windbreakref01_Bytes.mono _ _)
      | (with_reducible exact windbreakref01_Read.mono _ _)
      | (with_reducible exact windbreakref01_Same.mono _ _ _)
      | (with_reducible exact LeO.refl _)
      | (with_reducible exact LeO.none _)
      | (with_reducible refine LeO.ite ?_ ?_)
      | (with_reducible refine LeO.bind ?_ (fun _ => ?_))
      | exact nat_Bytes.mono _ _
      | exact nat_Read.mono _ _
      | exact windbreaklaw01_few.mono _ _
      | exact windbreakref01_Bytes.mono _ _
      | exact windbreakref01_Read.mono _ _
      | exact windbreakref01_Same.mono _ _ _
      | exact LeO.none _
      | refine LeO.ite ?_ ?_
      | refine LeO.bind ?_ (fun _ => ?_)
def windbreaklaw01_NatBytes.T8 : Bool × List (List Nat × List Nat) := (true, [([], []), ([0], [0]), ([], []), ([2], [2]), ([3], [3]), ([1, 4], [1, 4]), ([5, 3], [5]), ([6], [6]), ([6, 7], [6, 7]), ([8, 6], [8]), ([9], [9]), ([9], [9]), ([10, 11, 9], [9, 10, 11]), ([9, 12], [9, 12]), ([13, 9], [13]), ([14], [14]), ([15, 14], [14, 15]), ([16, 14], [14, 16]), ([14, 17], [14, 17]), ([18, 14, 0, 1, 2, 3, 4, 5, 6, 7, 8, 9, 10, 11, 12, 13, 14, 15, 16, 17, 18], [18])])
def windbreaklaw01_NatBytes.B8 : List Nat := [0, 1, 0, 4, 12, 31, 63, 127, 255, 511, 1023, 1023, 4095, 8191, 16383, 32767, 65535, 131071, 262143, 524287]
theorem windbreaklaw01_NatBytes.tab8 : rtab .any (opsOf Try.f6 8) = windbreaklaw01_NatBytes.T8 := by kernel_rfl
theorem windbreaklaw01_NatBytes.bits8 : waitsOk windbreaklaw01_NatBytes.T8.2 windbreaklaw01_NatBytes.B8 = true := by kernel_rfl
set_option maxHeartbeats 8000000 in
set_option maxRecDepth 100000 in
theorem windbreaklaw01_NatBytes.calls (k : Nat) (P0_ : Nat → Prop) (A0 : Option Addr) (c0 : Nat) (l0 : List Int) (A1 : Option Addr) (c1 : Nat) (l1 : List Int) (r : Bool) (w : World) (hs0 : Kd.V (Kd.int .u64) 29 w w.heap.size (fun k_ => P0_ k_) (.slice A0 l0.length c0) l0) (hr1 : Kd.C (Kd.int .u8) w A1 l1.length l1) (hc1 : l1.length ≤ c1) (h : windbreaklaw01_NatBytes.f k l0 l1 = some r) :
    Calls Try.prog 6 #[.slice A0 l0.length c0, .slice A1 l1.length c1] w fun e w' => e = .returned (.bool r) ∧ Below w.heap.size w w' := by
  have HO0 := Aside0.mk (show Kd.V (Kd.int .u64) 29 w w.heap.size (fun k_ => (P0_ k_ ∨ w.heap.size ≤ k_)) (.slice A0 l0.length c0) l0 from Kd.V_mono hs0 (fun k_ hk => .inl hk))
  have HR1 := Aside0.mk hr1
  have HC1 := Aside0.mk hc1
  clear hr1 hc1
  have HB := Aside0.mk (Below.refl w.heap.size w)
  have H : ((windbreaklaw01_few.f k (([l0] : List (List Int)))).bind fun t525 => (if t525 = true then ((nat_Bytes.f k l0).bind fun t526 => ((nat_Read.f k l1).bind fun bt529 => ((windbreakref01_Read.f k l1).bind fun bt533 => ((windbreakref01_Same.f k bt529.1 bt533.1).bind fun t537 => ((nat_Read.f k (([1] : List Int))).bind fun bt541 => ((windbreakref01_Bytes.f k l0).bind fun t545 => (if (strOfNums t526).toList = (strOfNums t545).toList then (if t537 = true then (if bt529.2 = bt533.2 then (some ((bt541.1.length : Int) == 1)) else (some false)) else (some false)) else (some false)))))))) else (some true))) = some r := h
  clear h
  obtain ⟨y522, hy522⟩ : ∃ y_ : List (List Int), y_ = (([l0] : List (List Int))) := ⟨_, rfl⟩
  replace H : ((windbreaklaw01_few.f k y522).bind fun t525 => (if t525 = true then ((nat_Bytes.f k l0).bind fun t526 => ((nat_Read.f k l1).bind fun bt529 => ((windbreakref01_Read.f k l1).bind fun bt533 => ((windbreakref01_Same.f k bt529.1 bt533.1).bind fun t537 => ((nat_Read.f k (([1] : List Int))).bind fun bt541 => ((windbreakref01_Bytes.f k l0).bind fun t545 => (if (strOfNums t526).toList = (strOfNums t545).toList then (if t537 = true then (if bt529.2 = bt533.2 then (some ((bt541.1.length : Int) == 1)) else (some false)) else (some false)) else (some false)))))))) else (some true))) = some r := by first | (rw [hy522]; with_reducible exact H) | (have H2_ := (Option.bind_some _ _).symm.trans H; rw [hy522]; with_reducible exact H2_) | (have H2_ := (Option.bind_some _ _).symm.trans H; with_reducible exact H2_) | with_reducible exact H | (rw [hy522]; exact H) | exact H
  have Ny522 := Aside0.mk hy522
  clear hy522
  replace H := Option.bind_eq_some_iff.mp H
  obtain ⟨t525, A30, H⟩ := H
  replace H : (if t525 = true then ((nat_Bytes.f k l0).bind fun t526 => ((nat_Read.f k l1).bind fun bt529 => ((windbreakref01_Read.f k l1).bind fun bt533 => ((windbreakref01_Same.f k bt529.1 bt533.1).bind fun t537 => ((nat_Read.f k (([1] : List Int))).bind fun bt541 => ((windbreakref01_Bytes.f k l0).bind fun t545 => (if (strOfNums t526).toList = (strOfNums t545).toList then (if t537 = true then (if bt529.2 = bt533.2 then (some ((bt541.1.length : Int) == 1)) else (some false)) else (some false)) else (some false)))))))) else (some true)) = some r := H
  have A3 := Aside0.mk A30
  clear A30
  by_cases c4 : t525 = true
  · subst c4
    have H1 : ((nat_Bytes.f k l0).bind fun t526 => ((nat_Read.f k l1).bind fun bt529 => ((windbreakref01_Read.f k l1).bind fun bt533 => ((windbreakref01_Same.f k bt529.1 bt533.1).bind fun t537 => ((nat_Read.f k (([1] : List Int))).bind fun bt541 => ((windbreakref01_Bytes.f k l0).bind fun t545 => (if (strOfNums t526).toList = (strOfNums t545).toList then (if t537 = true then (if bt529.2 = bt533.2 then (some ((bt541.1.length : Int) == 1)) else (some false)) else (some false)) else (some false)))))))) = some r := by rw [if_pos rfl] at H; exact H
    clear H
    have H := H1
    clear H1
    replace H := Option.bind_eq_some_iff.mp H
    obtain ⟨t526, A50, H⟩ := H
    replace H : ((nat_Read.f k l1).bind fun bt529 => ((windbreakref01_Read.f k l1).bind fun bt533 => ((windbreakref01_Same.f k bt529.1 bt533.1).bind fun t537 => ((nat_Read.f k (([1] : List Int))).bind fun bt541 => ((windbreakref01_Bytes.f k l0).bind fun t545 => (if (strOfNums t526).toList = (strOfNums t545).toList then (if t537 = true then (if bt529.2 = bt533.2 then (some ((bt541.1.length : Int) == 1)) else (some false)) else (some false)) else (some false))))))) = some r := H
    have A5 := Aside0.mk A50
    clear A50
    replace H := Option.bind_eq_some_iff.mp H
    obtain ⟨⟨t529, t530⟩, A60, H⟩ := H
    replace H : ((windbreakref01_Read.f k l1).bind fun bt533 => ((windbreakref01_Same.f k t529 bt533.1).bind fun t537 => ((nat_Read.f k (([1] : List Int))).bind fun bt541 => ((windbreakref01_Bytes.f k l0).bind fun t545 => (if (strOfNums t526).toList = (strOfNums t545).toList then (if t537 = true then (if t530 = bt533.2 then (some ((bt541.1.length : Int) == 1)) else (some false)) else (some false)) else (some false)))))) = some r := H
    have A6 := Aside0.mk A60
    clear A60
    replace H := Option.bind_eq_some_iff.mp H
    obtain ⟨⟨t533, t534⟩, A70, H⟩ := H
    replace H : ((windbreakref01_Same.f k t529 t533).bind fun t537 => ((nat_Read.f k (([1] : List Int))).bind fun bt541 => ((windbreakref01_Bytes.f k l0).bind fun t545 => (if (strOfNums t526).toList = (strOfNums t545).toList then (if t537 = true then (if t530 = t534 then (some ((bt541.1.length : Int) == 1)) else (some false)) else (some false)) else (some false))))) = some r := H
    have A7 := Aside0.mk A70
    clear A70
    replace H := Option.bind_eq_some_iff.mp H
    obtain ⟨t537, A80, H⟩ := H
    replace H : ((nat_Read.f k (([1] : List Int))).bind fun bt541 => ((windbreakref01_Bytes.f k l0).bind fun t545 => (if (strOfNums t526).toList = (strOfNums t545).toList then (if t537 = true then (if t530 = t534 then (some ((bt541.1.length : Int) == 1)) else (some false)) else (some false)) else (some false)))) = some r := H
    have A8 := Aside0.mk A80
    clear A80
    obtain ⟨y538, hy538⟩ : ∃ y_ : List Int, y_ = (([1] : List Int)) := ⟨_, rfl⟩
    replace H : ((nat_Read.f k y538).bind fun bt541 => ((windbreakref01_Bytes.f k l0).bind fun t545 => (if (strOfNums t526).toList = (strOfNums t545).toList then (if t537 = true then (if t530 = t534 then (some ((bt541.1.length : Int) == 1)) else (some false)) else (some false)) else (some false)))) = some r := by first | (rw [hy538]; with_reducible exact H) | (have H2_ := (Option.bind_some _ _).symm.trans H; rw [hy538]; with_reducible exact H2_) | (have H2_ := (Option.bind_some _ _).symm.trans H; with_reducible exact H2_) | with_reducible exact H | (rw [hy538]; exact H) | exact H
    have Ny538 := Aside0.mk hy538
    clear hy538
    replace H := Option.bind_eq_some_iff.mp H
    obtain ⟨⟨t541, t542⟩, A90, H⟩ := H
    replace H : ((windbreakref01_Bytes.f k l0).bind fun t545 => (if (strOfNums t526).toList = (strOfNums t545).toList then (if t537 = true then (if t530 = t534 then (some ((t541.length : Int) == 1)) else (some false)) else (some false)) else (some false))) = some r := H
    have A9 := Aside0.mk A90
    clear A90
    replace H := Option.bind_eq_some_iff.mp H
    obtain ⟨t545, A100, H⟩ := H
    replace H : (if (strOfNums t526).toList = (strOfNums t545).toList then (if t537 = true then (if t530 = t534 then (some ((t541.length : Int) == 1)) else (some false)) else (some false)) else (some false)) = some r := H
    have A10 := Aside0.mk A100
    clear A100
    by_cases c11 : (strOfNums t526).toList = (strOfNums t545).toList
    · rw [if_pos c11] at H
      have c11b0 : ((strOfNums t526).toList == (strOfNums t545).toList) = true := beq_iff_eq.mpr c11
      have c11b1 : ((strOfNums t526).toList != (strOfNums t545).toList) = false := bne_eq_false_iff_eq.mpr c11
      clear c11
      by_cases c12 : t537 = true
      · subst c12
        have H1 : (if t530 = t534 then (some ((t541.length : Int) == 1)) else (some false)) = some r := by rw [if_pos rfl] at H; exact H
        clear H
        have H := H1
        clear H1
        by_cases c13 : t530 = t534
        · rw [if_pos c13] at H
          have c13b0 : (t530 == t534) = true := beq_iff_eq.mpr c13
          have c13b1 : (t530 != t534) = false := bne_eq_false_iff_eq.mpr c13
          clear c13
          obtain rfl := Option.some.inj H
          go_enter Try.func6, Try.ntmps6
          try go_wp2_with (first | ((with_reducible refine gate_dst (N := 14) rfl ?_); (try (refine gate_guard (by rfl) ?_; dsimp only)); refine Kd.N_lit (Kd.slice 29 (Kd.int .u64)) _ 23 ?hg (N' := 14) ?hd (xs := ([l0] : List (List Int))) (inner := [.slice A0 l0.length c0]) (ok := (fun k_ => (P0_ k_ ∨ w.heap.size ≤ k_))) (okp := (fun k_ => (P0_ k_ ∨ w.heap.size ≤ k_))) ?hr ?hp (fun _ hk => hk) ((show ∀ k_, w.heap.size ≤ k_ → (fun k_ => (P0_ k_ ∨ w.heap.size ≤ k_)) k_ from fun k_ hk => (.inr (Nat.le_trans (below_size (by repeat (first | (with_reducible first | exact HB.out | apply below_alloc | apply pw_below_drewN | apply below_drew1) | exact HB.out))) hk))) _ (Nat.le_refl _)) (Below.refl _ _) (Nat.le_refl _) (by simp) ?_; (case hd => rfl); (case hg => rfl); (case hr => first | (go_simp; done) | (go_simp; rfl)); (case hp => exact (Reps.one (show Kd.FK (Kd.slice 29 (Kd.int .u64)) _ _ l0 [.slice A0 l0.length c0] from (Kd.FK_slice_mk (Kd.V_reads' (Kd.V_mono (ok' := (fun k_ => (P0_ k_ ∨ w.heap.size ≤ k_))) (HO0.out) (fun k_ hk => hk))).2.1 (Kd.V_F (Kd.V_mono (ok' := (fun k_ => (P0_ k_ ∨ w.heap.size ≤ k_))) (HO0.out) (fun k_ hk => hk))))) (Reps.none _ _))); intro v523 w14 ho15 hb hg_ hnew_; clear hg_ hnew_; (first | rw [← Ny522.out] at ho15 | (simp only [Int.reduceToNat] at ho15; rw [← Ny522.out] at ho15)); have n0_ := Aside0.mk (Kd.V_elder' (by (with_reducible repeat (first | apply Kd.V_alloc | apply Kd.V_drewN | apply Kd.V_drew)); exact HO0.out) (Kd.N_base ho15) hb); have n1_ := Aside0.mk (Kd.N_lower ho15 (below_size (by repeat (first | (with_reducible first | exact HB.out | apply below_alloc | apply pw_below_drewN | apply below_drew1) | exact HB.out)))); have n2_ := Aside0.mk (below_step (by repeat (first | (with_reducible first | exact HB.out | apply below_alloc | apply pw_below_drewN | apply below_drew1) | exact HB.out)) hb); clear HO0; clear HB; have HO0 := n0_; have HO524 := n1_; have HB := n2_; clear n0_ n1_ n2_; clear hb ho15; obtain ⟨Ao16, co16, eo16⟩ := Kd.N_slice HO524.out; subst eo16) | ((with_reducible refine gate_callee (f := 9) rfl ?_); refine goesL_ (some 15) rfl rfl Try.func9 (by kernel_rfl) rfl #[.slice Ao16 y522.length co16] rfl (by (try simp only [List.map_toArray, List.map_cons, List.map_nil]); first | done | rfl | (simp only [List.length_drop, List.length_take]; rfl)) ?_; (with_reducible refine (windbreaklaw01_few.calls k _ _ y522 true _ ?side1 ?side2 A3.out).mono ?_); (case side1 => repeat (first | exact (Kd.N_reads' HO524.out).2.2 | (with_reducible refine Kd.C_alloc ?_ _) | (with_reducible refine Kd.C_drewN ?_ _) | (with_reducible refine Kd.C_drew ?_))); (case side2 => exact (Kd.N_reads' HO524.out).2.1); rintro e w' ⟨rfl, ⟨nd, rfl⟩⟩; refine ⟨_, rfl, ?_⟩) | ((with_reducible refine gate_callee (f := 26) rfl ?_); refine goesL_ (some 18) rfl rfl Try.func26 (by kernel_rfl) rfl #[.slice A0 l0.length c0] rfl (by (try simp only [List.map_toArray, List.map_cons, List.map_nil]); first | done | rfl | (simp only [List.length_drop, List.length_take]; rfl)) ?_; (with_reducible refine (nat_Bytes.calls k _ _ l0 t526 _ ?side1 ?side2 A5.out).mono ?_); (case side1 => repeat (first | exact (Kd.V_reads' HO0.out).2.2 | (with_reducible refine Kd.C_alloc ?_ _) | (with_reducible refine Kd.C_drewN ?_ _) | (with_reducible refine Kd.C_drew ?_))); (case side2 => exact (Kd.V_reads' HO0.out).2.1); rintro e w17 ⟨v527, rfl, ho0, hb⟩; refine ⟨_, rfl, ?_⟩; have n0_ := Aside0.mk (Kd.V_elder' (by (with_reducible repeat (first | apply Kd.V_alloc | apply Kd.V_drewN | apply Kd.V_drew)); exact HO0.out) (Kd.R_base ho0) hb); have n1_ := Aside0.mk (Kd.N_elder' (by (with_reducible repeat (first | apply Kd.N_alloc | apply Kd.N_drewN | apply Kd.N_drew)); exact HO524.out) (Kd.R_base ho0) hb); have n2_ := Aside0.mk (Kd.R_lower (Kd.R_newM (M := fun k_ => (w.heap.size ≤ k_)) ho0 (below_size (by repeat (first | (with_reducible first | exact HB.out | apply below_alloc | apply pw_below_drewN | apply below_drew1) | exact HB.out))) (fun k_ h_ => h_)) (below_size (by repeat (first | (with_reducible first | exact HB.out | apply below_alloc | apply pw_below_drewN | apply below_drew1) | exact HB.out)))); have n3_ := Aside0.mk (below_step (by repeat (first | (with_reducible first | exact HB.out | apply below_alloc | apply pw_below_drewN | apply below_drew1) | exact HB.out)) hb); clear HO0; clear HO524; clear HB; have HO0 := n0_; have HO524 := n1_; have HO528 := n2_; have HB := n3_; clear n0_ n1_ n2_ n3_; (try clear hb); (try clear hb2); (try clear hk); (try clear hi); (try clear ho0)) | ((with_reducible refine gate_callee (f := 27) rfl ?_); refine goesL_ (some 21) rfl rfl Try.func27 (by kernel_rfl) rfl #[.slice A1 l1.length c1] rfl (by (try simp only [List.map_toArray, List.map_cons, List.map_nil]); first | done | rfl | (simp only [List.length_drop, List.length_take]; rfl)) ?_; (with_reducible refine (nat_Read.calls k _ _ l1 t529 t530 _ ?side1 ?side2 A6.out).mono ?_); (case side1 => repeat (first | exact (Kd.C_below HR1.out HB.out) | (with_reducible refine Kd.C_alloc ?_ _) | (with_reducible refine Kd.C_drewN ?_ _) | (with_reducible refine Kd.C_drew ?_))); (case side2 => exact HC1.out); rintro e w18 ⟨v531, rfl, ho0, hb⟩; refine ⟨_, rfl, ?_⟩; have n0_ := Aside0.mk (Kd.V_elder' (by (with_reducible repeat (first | apply Kd.V_alloc | apply Kd.V_drewN | apply Kd.V_drew)); exact HO0.out) (Kd.R_base ho0) hb); have n1_ := Aside0.mk (Kd.N_elder' (by (with_reducible repeat (first | apply Kd.N_alloc | apply Kd.N_drewN | apply Kd.N_drew)); exact HO524.out) (Kd.R_base ho0) hb); have n2_ := Aside0.mk (Kd.R_below (by (with_reducible repeat (first | apply Kd.R_alloc | apply Kd.R_drewN | apply Kd.R_drew)); exact HO528.out) hb); have n3_ := Aside0.mk (Kd.R_lower (Kd.R_newM (M := fun k_ => (w.heap.size ≤ k_)) ho0 (below_size (by repeat (first | (with_reducible first | exact HB.out | apply below_alloc | apply pw_below_drewN | apply below_drew1) | exact HB.out))) (fun k_ h_ => h_)) (below_size (by repeat (first | (with_reducible first | exact HB.out | apply below_alloc | apply pw_below_drewN | apply below_drew1) | exact HB.out)))); have n4_ := Aside0.mk (below_step (by repeat (first | (with_reducible first | exact HB.out | apply below_alloc | apply pw_below_drewN | apply below_drew1) | exact HB.out)) hb); clear HO0; clear HO524; clear HO528; clear HB; have HO0 := n0_; have HO524 := n1_; have HO528 := n2_; have HO532 := n3_; have HB := n4_; clear n0_ n1_ n2_ n3_ n4_; (try clear hb); (try clear hb2); (try clear hk); (try clear hi); (try clear ho0)) | ((with_reducible refine gate_callee (f := 28) rfl ?_); refine goesL_ (some 26) rfl rfl Try.func28 (by kernel_rfl) rfl #[.slice A1 l1.length c1] rfl (by (try simp only [List.map_toArray, List.map_cons, List.map_nil]); first | done | rfl | (simp only [List.length_drop, List.length_take]; rfl)) ?_; (with_reducible refine (windbreakref01_Read.calls k _ _ l1 t533 t534 _ ?side1 ?side2 A7.out).mono ?_); (case side1 => repeat (first | exact (Kd.C_below HR1.out HB.out) | (with_reducible refine Kd.C_alloc ?_ _) | (with_reducible refine Kd.C_drewN ?_ _) | (with_reducible refine Kd.C_drew ?_))); (case side2 => exact HC1.out); rintro e w19 ⟨v535, rfl, ho0, hb⟩; refine ⟨_, rfl, ?_⟩; have n0_ := Aside0.mk (Kd.V_elder' (by (with_reducible repeat (first | apply Kd.V_alloc | apply Kd.V_drewN | apply Kd.V_drew)); exact HO0.out) (Kd.R_base ho0) hb); have n1_ := Aside0.mk (Kd.N_elder' (by (with_reducible repeat (first | apply Kd.N_alloc | apply Kd.N_drewN | apply Kd.N_drew)); exact HO524.out) (Kd.R_base ho0) hb); have n2_ := Aside0.mk (Kd.R_below (by (with_reducible repeat (first | apply Kd.R_alloc | apply Kd.R_drewN | apply Kd.R_drew)); exact HO528.out) hb); have n3_ := Aside0.mk (Kd.R_elder' (by (with_reducible repeat (first | apply Kd.R_alloc | apply Kd.R_drewN | apply Kd.R_drew)); exact HO532.out) (Kd.R_base ho0) hb); have n4_ := Aside0.mk (Kd.R_lower (Kd.R_new' (Kd.R_newM (M := fun k_ => (w.heap.size ≤ k_)) ho0 (below_size (by repeat (first | (with_reducible first | exact HB.out | apply below_alloc | apply pw_below_drewN | apply below_drew1) | exact HB.out))) (fun k_ h_ => h_)) (Kd.R_lt (by (with_reducible repeat (first | apply Kd.R_alloc | apply Kd.R_drewN | apply Kd.R_drew)); exact HO532.out))) (below_size (by repeat (first | (with_reducible first | exact HB.out | apply below_alloc | apply pw_below_drewN | apply below_drew1) | exact HB.out)))); have n5_ := Aside0.mk (below_step (by repeat (first | (with_reducible first | exact HB.out | apply below_alloc | apply pw_below_drewN | apply below_drew1) | exact HB.out)) hb); clear HO0; clear HO524; clear HO528; clear HO532; clear HB; have HO0 := n0_; have HO524 := n1_; have HO528 := n2_; have HO532 := n3_; have HO536 := n4_; have HB := n5_; clear n0_ n1_ n2_ n3_ n4_ n5_; (try clear hb); (try clear hb2); (try clear hk); (try clear hi); (try clear ho0); obtain ⟨Ao20, co20, eo20⟩ := Kd.R_slice HO532.out; subst eo20; obtain ⟨Ao21, co21, eo21⟩ := Kd.R_slice HO536.out; subst eo21) | ((with_reducible refine gate_callee (f := 12) rfl ?_); refine goesL_ (some 31) rfl rfl Try.func12 (by kernel_rfl) rfl #[.slice Ao20 t529.length co20, .slice Ao21 t533.length co21] rfl (by (try simp only [List.map_toArray, List.map_cons, List.map_nil]); first | done | rfl | (simp only [List.length_drop, List.length_take]; rfl)) ?_; (with_reducible refine (windbreakref01_Same.calls k _ _ t529 _ _ t533 true _ ?side1 ?side2 ?side3 ?side4 A8.out).mono ?_); (case side1 => repeat (first | exact (Kd.R_reads' HO532.out).2.2 | (with_reducible refine Kd.C_alloc ?_ _) | (with_reducible refine Kd.C_drewN ?_ _) | (with_reducible refine Kd.C_drew ?_))); (case side2 => exact (Kd.R_reads' HO532.out).2.1); (case side3 => repeat (first | exact (Kd.R_reads' HO536.out).2.2 | (with_reducible refine Kd.C_alloc ?_ _) | (with_reducible refine Kd.C_drewN ?_ _) | (with_reducible refine Kd.C_drew ?_))); (case side4 => exact (Kd.R_reads' HO536.out).2.1); rintro e w' ⟨rfl, ⟨nd, rfl⟩⟩; refine ⟨_, rfl, ?_⟩) | ((with_reducible refine gate_dst (N := 33) rfl ?_); (try (refine gate_guard (by rfl) ?_; dsimp only)); refine Kd.R_lit (Kd.int .u8) _ 5 ?hg (N := 33) ?hd (xs := ([1] : List Int)) (inner := [.int .u8 1]) (ok := fun _ => True) (okp := fun _ => True) ?hr ?hp (fun _ hk => hk) trivial (Below.refl _ _) (Nat.le_refl _) (by simp) ?_; (case hd => rfl); (case hg => rfl); (case hr => first | (go_simp; done) | (go_simp; rfl)); (case hp => exact (Reps.one (show Kd.M (Kd.int .u8) _ _ _ 1 [.int .u8 1] from rfl) (Reps.none _ _))); intro v539 w22 ho23 hb hg_ hnew_; clear hg_ hnew_; (first | rw [← Ny538.out] at ho23 | (simp only [Int.reduceToNat] at ho23; rw [← Ny538.out] at ho23)); have n0_ := Aside0.mk (Kd.V_elder' (by (with_reducible repeat (first | apply Kd.V_alloc | apply Kd.V_drewN | apply Kd.V_drew)); exact HO0.out) (Kd.R_base ho23) hb); have n1_ := Aside0.mk (Kd.N_elder' (by (with_reducible repeat (first | apply Kd.N_alloc | apply Kd.N_drewN | apply Kd.N_drew)); exact HO524.out) (Kd.R_base ho23) hb); have n2_ := Aside0.mk (Kd.R_elder' (by (with_reducible repeat (first | apply Kd.R_alloc | apply Kd.R_drewN | apply Kd.R_drew)); exact HO528.out) (Kd.R_base ho23) hb); have n3_ := Aside0.mk (Kd.R_below (by (with_reducible repeat (first | apply Kd.R_alloc | apply Kd.R_drewN | apply Kd.R_drew)); exact HO532.out) hb); have n4_ := Aside0.mk (Kd.R_below (by (with_reducible repeat (first | apply Kd.R_alloc | apply Kd.R_drewN | apply Kd.R_drew)); exact HO536.out) hb); have n5_ := Aside0.mk (Kd.R_lower (Kd.R_new' (Kd.R_newM (M := fun k_ => (w.heap.size ≤ k_)) ho23 (below_size (by repeat (first | (with_reducible first | exact HB.out | apply below_alloc | apply pw_below_drewN | apply below_drew1) | exact HB.out))) (fun k_ h_ => h_)) (Kd.R_lt (by (with_reducible repeat (first | apply Kd.R_alloc | apply Kd.R_drewN | apply Kd.R_drew)); exact HO528.out))) (below_size (by repeat (first | (with_reducible first | exact HB.out | apply below_alloc | apply pw_below_drewN | apply below_drew1) | exact HB.out)))); have n6_ := Aside0.mk (below_step (by repeat (first | (with_reducible first | exact HB.out | apply below_alloc | apply pw_below_drewN | apply below_drew1) | exact HB.out)) hb); clear HO0; clear HO524; clear HO528; clear HO532; clear HO536; clear HB; have HO0 := n0_; have HO524 := n1_; have HO528 := n2_; have HO532 := n3_; have HO536 := n4_; have HO540 := n5_; have HB := n6_; clear n0_ n1_ n2_ n3_ n4_ n5_ n6_; clear hb ho23; obtain ⟨Ao24, co24, eo24⟩ := Kd.R_slice HO540.out; subst eo24) | ((with_reducible refine gate_callee (f := 27) rfl ?_); refine goesL_ (some 34) rfl rfl Try.func27 (by kernel_rfl) rfl #[.slice Ao24 y538.length co24] rfl (by (try simp only [List.map_toArray, List.map_cons, List.map_nil]); first | done | rfl | (simp only [List.length_drop, List.length_take]; rfl)) ?_; (with_reducible refine (nat_Read.calls k _ _ y538 t541 t542 _ ?side1 ?side2 A9.out).mono ?_); (case side1 => repeat (first | exact (Kd.R_reads' HO540.out).2.2 | (with_reducible refine Kd.C_alloc ?_ _) | (with_reducible refine Kd.C_drewN ?_ _) | (with_reducible refine Kd.C_drew ?_))); (case side2 => exact (Kd.R_reads' HO540.out).2.1); rintro e w25 ⟨v543, rfl, ho0, hb⟩; refine ⟨_, rfl, ?_⟩; have n0_ := Aside0.mk (Kd.V_elder' (by (with_reducible repeat (first | apply Kd.V_alloc | apply Kd.V_drewN | apply Kd.V_drew)); exact HO0.out) (Kd.R_base ho0) hb); have n1_ := Aside0.mk (Kd.N_elder' (by (with_reducible repeat (first | apply Kd.N_alloc | apply Kd.N_drewN | apply Kd.N_drew)); exact HO524.out) (Kd.R_base ho0) hb); have n2_ := Aside0.mk (Kd.R_below (by (with_reducible repeat (first | apply Kd.R_alloc | apply Kd.R_drewN | apply Kd.R_drew)); exact HO528.out) hb); have n3_ := Aside0.mk (Kd.R_elder' (by (with_reducible repeat (first | apply Kd.R_alloc | apply Kd.R_drewN | apply Kd.R_drew)); exact HO532.out) (Kd.R_base ho0) hb); have n4_ := Aside0.mk (Kd.R_elder' (by (with_reducible repeat (first | apply Kd.R_alloc | apply Kd.R_drewN | apply Kd.R_drew)); exact HO536.out) (Kd.R_base ho0) hb); have n5_ := Aside0.mk (Kd.R_below (by (with_reducible repeat (first | apply Kd.R_alloc | apply Kd.R_drewN | apply Kd.R_drew)); exact HO540.out) hb); have n6_ := Aside0.mk (Kd.R_lower (Kd.R_new' (Kd.R_new' (Kd.R_newM (M := fun k_ => (w.heap.size ≤ k_)) ho0 (below_size (by repeat (first | (with_reducible first | exact HB.out | apply below_alloc | apply pw_below_drewN | apply below_drew1) | exact HB.out))) (fun k_ h_ => h_)) (Kd.R_lt (by (with_reducible repeat (first | apply Kd.R_alloc | apply Kd.R_drewN | apply Kd.R_drew)); exact HO532.out))) (Kd.R_lt (by (with_reducible repeat (first | apply Kd.R_alloc | apply Kd.R_drewN | apply Kd.R_drew)); exact HO536.out))) (below_size (by repeat (first | (with_reducible first | exact HB.out | apply below_alloc | apply pw_below_drewN | apply below_drew1) | exact HB.out)))); have n7_ := Aside0.mk (below_step (by repeat (first | (with_reducible first | exact HB.out | apply below_alloc | apply pw_below_drewN | apply below_drew1) | exact HB.out)) hb); clear HO0; clear HO524; clear HO528; clear HO532; clear HO536; clear HO540; clear HB; have HO0 := n0_; have HO524 := n1_; have HO528 := n2_; have HO532 := n3_; have HO536 := n4_; have HO540 := n5_; have HO544 := n6_; have HB := n7_; clear n0_ n1_ n2_ n3_ n4_ n5_ n6_ n7_; (try clear hb); (try clear hb2); (try clear hk); (try clear hi); (try clear ho0)))
          have n0_ := Aside0.mk (Kd.V_drew HO0.out)
          have n1_ := Aside0.mk (Kd.N_drew HO524.out)
          have n2_ := Aside0.mk (Kd.R_drew HO528.out)
          have n3_ := Aside0.mk (Kd.R_drew HO532.out)
          have n4_ := Aside0.mk (Kd.R_drew HO536.out)
          have n5_ := Aside0.mk (Kd.R_drew HO540.out)
          have n6_ := Aside0.mk (Kd.R_drew HO544.out)
          have n7_ := Aside0.mk (below_drew1 HB.out)
          clear HO0
          clear HO524
          clear HO528
          clear HO532
          clear HO536
          clear HO540
          clear HO544
          clear HB
          have HO0 := n0_
          have HO524 := n1_
          have HO528 := n2_
          have HO532 := n3_
          have HO536 := n4_
          have HO540 := n5_
          have HO544 := n6_
          have HB := n7_
          clear n0_ n1_ n2_ n3_ n4_ n5_ n6_ n7_
          refine start_ (n := 20) (S := fun w' => (convert 30 9 (v527)).run Try.prog w' = .ok (.string (strOfNums t526)) w') (ds := []) #[false, false, false, false, false, false, false, false, false, false, false, false, false, false, false, false, false, false, false, false] (by kernel_rfl) rfl rfl ((own_string (P := Try.prog) Try.underlying30 Try.underlying5 Try.underlying9 (Kd.own_of_R HO528.out))) (fun hHeld => ?_); refine with_tabW windbreaklaw01_NatBytes.tab8 windbreaklaw01_NatBytes.bits8 (fun HT_ HW_ => ?_)
          generalize w25.drew = w26 at HO0 HO524 HO528 HO532 HO536 HO540 HO544 HB hHeld ⊢
          refine pure_ (i := 0) (N := some 37) (v := ?_) (a' := ?_) #[true, false, false, false, false, false, false, false, false, false, false, false, false, false, false, false, false, false, false, false] rfl rfl (any_of HT_.out (by kernel_rfl)) (fun _ _ _ h => h) (Or.inl ⟨by rfl, ?_⟩) ?_ ?_
          rotate_left
          · intro w'
            go_simp
            with_reducible rfl
          rotate_left
          · simp only [Act.put, List.setIfInBounds_toArray, List.set_cons_zero, List.set_cons_succ, i64_w, i32_w]
            rfl
          refine pure_ (i := 2) (N := some 39) (v := ?_) (a' := ?_) #[true, false, true, false, false, false, false, false, false, false, false, false, false, false, false, false, false, false, false, false] rfl rfl (any_of HT_.out (by kernel_rfl)) (fun _ _ _ h => h) (Or.inl ⟨by rfl, ?_⟩) ?_ ?_
          rotate_left
          · intro w'
            go_simp
            with_reducible rfl
          rotate_left
          · simp only [Act.put, List.setIfInBounds_toArray, List.set_cons_zero, List.set_cons_succ, i64_w, i32_w]
            rfl
          refine take_ (i := 1) (N := some 38) (v := ?_) (a' := ?_) #[true, true, true, false, false, false, false, false, false, false, false, false, false, false, false, false, false, false, false, false] rfl rfl (take_ofW HT_.out HW_.out (by kernel_rfl)) (fun _ _ _ h => h) (Or.inl ⟨by rfl, ?_⟩) hHeld ?_ ?_
          rotate_left
          · intro w' s0
            go_simp
            with_reducible rfl
          rotate_left
          · simp only [Act.put, List.setIfInBounds_toArray, List.set_cons_zero, List.set_cons_succ, i64_w, i32_w]
            rfl
          refine one_ (i := 3) (N := some 40) #[true, true, true, true, false, false, false, false, false, false, false, false, false, false, false, false, false, false, false, false] rfl rfl (one_of HT_.out (by kernel_rfl)) (by decide) (fun K hK => ?_)
          refine goes_ Try.func29 (by kernel_rfl) rfl #[.slice A0 l0.length c0] (by rfl) rfl rfl (by (try simp only [List.map_toArray, List.map_cons, List.map_nil]); first | done | rfl | (simp only [List.length_drop, List.length_take]; rfl)) ?_
          with_reducible refine (windbreakref01_Bytes.calls k _ _ l0 t545 _ ?side1 ?side2 A10.out).mono ?_
          (case side1 => repeat (first | exact (Kd.V_reads' HO0.out).2.2 | (with_reducible refine Kd.C_alloc ?_ _) | (with_reducible refine Kd.C_drewN ?_ _) | (with_reducible refine Kd.C_drew ?_)))
          (case side2 => exact (Kd.V_reads' HO0.out).2.1)
          rintro e w27 ⟨v546, rfl, ho0, hb⟩
          refine ⟨_, rfl, ?_⟩
          have n0_ := Aside0.mk (Kd.V_elder' (by (with_reducible repeat (first | apply Kd.V_alloc | apply Kd.V_drewN | apply Kd.V_drew)); exact HO0.out) (Kd.R_base ho0) hb)
          have n1_ := Aside0.mk (Kd.N_elder' (by (with_reducible repeat (first | apply Kd.N_alloc | apply Kd.N_drewN | apply Kd.N_drew)); exact HO524.out) (Kd.R_base ho0) hb)
          have n2_ := Aside0.mk (Kd.R_elder' (by (with_reducible repeat (first | apply Kd.R_alloc | apply Kd.R_drewN | apply Kd.R_drew)); exact HO528.out) (Kd.R_base ho0) hb)
          have n3_ := Aside0.mk (Kd.R_below (by (with_reducible repeat (first | apply Kd.R_alloc | apply Kd.R_drewN | apply Kd.R_drew)); exact HO532.out) hb)
          have n4_ := Aside0.mk (Kd.R_below (by (with_reducible repeat (first | apply Kd.R_alloc | apply Kd.R_drewN | apply Kd.R_drew)); exact HO536.out) hb)
          have n5_ := Aside0.mk (Kd.R_elder' (by (with_reducible repeat (first | apply Kd.R_alloc | apply Kd.R_drewN | apply Kd.R_drew)); exact HO540.out) (Kd.R_base ho0) hb)
          have n6_ := Aside0.mk (Kd.R_below (by (with_reducible repeat (first | apply Kd.R_alloc | apply Kd.R_drewN | apply Kd.R_drew)); exact HO544.out) hb)
          have n7_ := Aside0.mk (Kd.R_lower (Kd.R_new' (Kd.R_new' (Kd.R_newM (M := fun k_ => (w.heap.size ≤ k_)) ho0 (below_size (by repeat (first | (with_reducible first | exact HB.out | apply below_alloc | apply pw_below_drewN | apply below_drew1) | exact HB.out))) (fun k_ h_ => h_)) (Kd.R_lt (by (with_reducible repeat (first | apply Kd.R_alloc | apply Kd.R_drewN | apply Kd.R_drew)); exact HO528.out))) (Kd.R_lt (by (with_reducible repeat (first | apply Kd.R_alloc | apply Kd.R_drewN | apply Kd.R_drew)); exact HO540.out))) (below_size (by repeat (first | (with_reducible first | exact HB.out | apply below_alloc | apply pw_below_drewN | apply below_drew1) | exact HB.out))))
          have n8_ := Aside0.mk (below_step (by repeat (first | (with_reducible first | exact HB.out | apply below_alloc | apply pw_below_drewN | apply below_drew1) | exact HB.out)) hb)
          clear HO0
          clear HO524
          clear HO528
          clear HO532
          clear HO536
          clear HO540
          clear HO544
          clear HB
          have HO0 := n0_
          have HO524 := n1_
          have HO528 := n2_
          have HO532 := n3_
          have HO536 := n4_
          have HO540 := n5_
          have HO544 := n6_
          have HO547 := n7_
          have HB := n8_
          clear n0_ n1_ n2_ n3_ n4_ n5_ n6_ n7_ n8_
          (try clear hb)
          (try clear hb2)
          (try clear hk)
          (try clear hi)
          (try clear ho0)
          obtain ⟨Ao29, co29, eo29⟩ := Kd.R_slice HO544.out
          (first | subst eo29 | (injection eo29 with f1_ f2_ f3_; have f4_ := f1_.symm; have f5_ := f3_.symm; clear f1_ f2_ f3_; subst f4_; subst f5_))
          refine hK.out _ _ ((own_string (P := Try.prog) Try.underlying30 Try.underlying5 Try.underlying9 (Kd.own_of_R HO528.out))) (fun hHeld => ?_)
          clear hK K
          refine norm_ (a' := ?_) ?_ ?_
          rotate_left
          · show Act.put _ (some 40) _ = _
            simp only [Act.put, List.setIfInBounds_toArray, List.set_cons_zero, List.set_cons_succ, i64_w, i32_w]
            rfl
          refine one_ (i := 4) (N := some 41) #[true, true, true, true, true, false, false, false, false, false, false, false, false, false, false, false, false, false, false, false] rfl rfl (one_of HT_.out (by kernel_rfl)) (by decide) (fun K hK => ?_)
          have hcv28 := own_string (P := Try.prog) Try.underlying30 Try.underlying5 Try.underlying9 (Kd.own_of_R HO547.out)
          refine value_ (w1 := ?_) (v := ?_) (by rfl) rfl ?_ ?_
          rotate_left 2
          · go_simp
            constructor
            · rfl
            · rfl
          clear hcv28
          refine hK.out _ _ ((own_string (P := Try.prog) Try.underlying30 Try.underlying5 Try.underlying9 (Kd.own_of_R HO528.out))) (fun hHeld => ?_)
          clear hK K
          refine norm_ (a' := ?_) ?_ ?_
          rotate_left
          · show Act.put _ (some 41) _ = _
            simp only [Act.put, List.setIfInBounds_toArray, List.set_cons_zero, List.set_cons_succ, i64_w, i32_w]
            rfl
          refine pure_ (i := 5) (N := some 42) (v := ?_) (a' := ?_) #[true, true, true, true, true, true, false, false, false, false, false, false, false, false, false, false, false, false, false, false] rfl rfl (any_of HT_.out (by kernel_rfl)) (fun _ _ _ h => h) (Or.inl ⟨by rfl, ?_⟩) ?_ ?_
          rotate_left
          · intro w'
            go_simp
            with_reducible rfl
          rotate_left
          · simp only [Act.put, List.setIfInBounds_toArray, List.set_cons_zero, List.set_cons_succ, i64_w, i32_w]
            rfl
          refine pure_ (i := 6) (N := some 43) (v := ?_) (a' := ?_) #[true, true, true, true, true, true, true, false, false, false, false, false, false, false, false, false, false, false, false, false] rfl rfl (any_of HT_.out (by kernel_rfl)) (fun _ _ _ h => h) (Or.inl ⟨by rfl, ?_⟩) ?_ ?_
          rotate_left
          · intro w'
            go_simp
            with_reducible rfl
          rotate_left
          · simp only [Act.put, List.setIfInBounds_toArray, List.set_cons_zero, List.set_cons_succ, i64_w, i32_w]
            rfl
          refine pure_ (i := 7) (N := some 44) (v := ?_) (a' := ?_) #[true, true, true, true, true, true, true, true, false, false, false, false, false, false, false, false, false, false, false, false] rfl rfl (any_of HT_.out (by kernel_rfl)) (fun _ _ _ h => h) (Or.inl ⟨by rfl, ?_⟩) ?_ ?_
          rotate_left
          · intro w'
            go_simp
            with_reducible rfl
          rotate_left
          · simp only [Act.put, List.setIfInBounds_toArray, List.set_cons_zero, List.set_cons_succ, i64_w, i32_w]
            rfl
          refine pure_ (i := 8) (N := some 45) (v := ?_) (a' := ?_) #[true, true, true, true, true, true, true, true, true, false, false, false, false, false, false, false, false, false, false, false] rfl rfl (any_of HT_.out (by kernel_rfl)) (fun _ _ _ h => h) (Or.inl ⟨by rfl, ?_⟩) ?_ ?_
          rotate_left
          · intro w'
            go_simp
            with_reducible rfl
          rotate_left
          · simp only [Act.put, List.setIfInBounds_toArray, List.set_cons_zero, List.set_cons_succ, i64_w, i32_w]
            rfl
          refine pure_ (i := 9) (N := some 46) (v := ?_) (a' := ?_) #[true, true, true, true, true, true, true, true, true, true, false, false, false, false, false, false, false, false, false, false] rfl rfl (any_of HT_.out (by kernel_rfl)) (fun _ _ _ h => h) (Or.inl ⟨by rfl, ?_⟩) ?_ ?_
          rotate_left
          · intro w'
            go_simp
            with_reducible rfl
          rotate_left
          · simp only [Act.put, List.setIfInBounds_toArray, List.set_cons_zero, List.set_cons_succ, i64_w, i32_w]
            rfl
          refine pure_ (i := 10) (N := some 47) (v := ?_) (a' := ?_) #[true, true, true, true, true, true, true, true, true, true, true, false, false, false, false, false, false, false, false, false] rfl rfl (any_of HT_.out (by kernel_rfl)) (fun _ _ _ h => h) (Or.inl ⟨by rfl, ?_⟩) ?_ ?_
          rotate_left
          · intro w'
            go_simp
            with_reducible rfl
          rotate_left
          · simp only [Act.put, List.setIfInBounds_toArray, List.set_cons_zero, List.set_cons_succ, i64_w, i32_w]
            rfl
          refine pure_ (i := 11) (N := some 48) (v := ?_) (a' := ?_) #[true, true, true, true, true, true, true, true, true, true, true, true, false, false, false, false, false, false, false, false] rfl rfl (any_of HT_.out (by kernel_rfl)) (fun _ _ _ h => h) (Or.inl ⟨by rfl, ?_⟩) ?_ ?_
          rotate_left
          · intro w'
            go_simp
            with_reducible rfl
          rotate_left
          · simp only [Act.put, List.setIfInBounds_toArray, List.set_cons_zero, List.set_cons_succ, i64_w, i32_w]
            rfl
          refine pure_ (i := 12) (N := some 49) (v := ?_) (a' := ?_) #[true, true, true, true, true, true, true, true, true, true, true, true, true, false, false, false, false, false, false, false] rfl rfl (any_of HT_.out (by kernel_rfl)) (fun _ _ _ h => h) (Or.inl ⟨by rfl, ?_⟩) ?_ ?_
          rotate_left
          · intro w'
            go_simp
            with_reducible rfl
          rotate_left
          · simp only [Act.put, List.setIfInBounds_toArray, List.set_cons_zero, List.set_cons_succ, i64_w, i32_w]
            rfl
          refine pure_ (i := 13) (N := some 50) (v := ?_) (a' := ?_) #[true, true, true, true, true, true, true, true, true, true, true, true, true, true, false, false, false, false, false, false] rfl rfl (any_of HT_.out (by kernel_rfl)) (fun _ _ _ h => h) (Or.inl ⟨by rfl, ?_⟩) ?_ ?_
          rotate_left
          · intro w'
            go_simp
            with_reducible rfl
          rotate_left
          · simp only [Act.put, List.setIfInBounds_toArray, List.set_cons_zero, List.set_cons_succ, i64_w, i32_w]
            rfl
          refine pure_ (i := 14) (N := some 51) (v := ?_) (a' := ?_) #[true, true, true, true, true, true, true, true, true, true, true, true, true, true, true, false, false, false, false, false] rfl rfl (any_of HT_.out (by kernel_rfl)) (fun _ _ _ h => h) (Or.inl ⟨by rfl, ?_⟩) ?_ ?_
          rotate_left
          · intro w'
            go_simp
            with_reducible rfl
          rotate_left
          · simp only [Act.put, List.setIfInBounds_toArray, List.set_cons_zero, List.set_cons_succ, i64_w, i32_w]
            rfl
          refine pure_ (i := 15) (N := some 52) (v := ?_) (a' := ?_) #[true, true, true, true, true, true, true, true, true, true, true, true, true, true, true, true, false, false, false, false] rfl rfl (any_of HT_.out (by kernel_rfl)) (fun _ _ _ h => h) (Or.inl ⟨by rfl, ?_⟩) ?_ ?_
          rotate_left
          · intro w'
            go_simp
            with_reducible rfl
          rotate_left
          · simp only [Act.put, List.setIfInBounds_toArray, List.set_cons_zero, List.set_cons_succ, i64_w, i32_w]
            rfl
          refine pure_ (i := 16) (N := some 53) (v := ?_) (a' := ?_) #[true, true, true, true, true, true, true, true, true, true, true, true, true, true, true, true, true, false, false, false] rfl rfl (any_of HT_.out (by kernel_rfl)) (fun _ _ _ h => h) (Or.inl ⟨by rfl, ?_⟩) ?_ ?_
          rotate_left
          · intro w'
            go_simp
            with_reducible rfl
          rotate_left
          · simp only [Act.put, List.setIfInBounds_toArray, List.set_cons_zero, List.set_cons_succ, i64_w, i32_w]
            rfl
          refine pure_ (i := 17) (N := some 54) (v := ?_) (a' := ?_) #[true, true, true, true, true, true, true, true, true, true, true, true, true, true, true, true, true, true, false, false] rfl rfl (any_of HT_.out (by kernel_rfl)) (fun _ _ _ h => h) (Or.inl ⟨by rfl, ?_⟩) ?_ ?_
          rotate_left
          · intro w'
            go_simp
            with_reducible rfl
          rotate_left
          · simp only [Act.put, List.setIfInBounds_toArray, List.set_cons_zero, List.set_cons_succ, i64_w, i32_w]
            rfl
          refine pure_ (i := 18) (N := some 55) (v := ?_) (a' := ?_) #[true, true, true, true, true, true, true, true, true, true, true, true, true, true, true, true, true, true, true, false] rfl rfl (any_of HT_.out (by kernel_rfl)) (fun _ _ _ h => h) (Or.inl ⟨by rfl, ?_⟩) ?_ ?_
          rotate_left
          · intro w'
            go_simp
            with_reducible rfl
          rotate_left
          · simp only [Act.put, List.setIfInBounds_toArray, List.set_cons_zero, List.set_cons_succ, i64_w, i32_w]
            rfl
          refine pure_ (i := 19) (N := some 4) (v := ?_) (a' := ?_) #[true, true, true, true, true, true, true, true, true, true, true, true, true, true, true, true, true, true, true, true] rfl rfl (any_of HT_.out (by kernel_rfl)) (fun _ _ _ h => h) (Or.inl ⟨by rfl, ?_⟩) ?_ ?_
          rotate_left
          · intro w'
            go_simp
            with_reducible rfl
          rotate_left
          · simp only [Act.put, List.setIfInBounds_toArray, List.set_cons_zero, List.set_cons_succ, i64_w, i32_w]
            rfl
          refine done_ (done_of HT_.out (by kernel_rfl)) ?_
          try go_wp2
          go_ret
          exact ⟨by first | rfl | (simp [errW_none, errW_some] <;> rfl) | (simp [*, errW_none, errW_some] <;> rfl), by repeat (first | (with_reducible first | exact HB.out | apply below_alloc | apply pw_below_drewN | apply below_drew1) | exact HB.out)⟩
        · rw [if_neg c13] at H
          have c13b0 : (t530 == t534) = false := beq_eq_false_iff_ne.mpr c13
          have c13b1 : (t530 != t534) = true := bne_iff_ne.mpr c13
          obtain rfl := Option.some.inj H
          go_enter Try.func6, Try.ntmps6
          try go_wp2_with (first | ((with_reducible refine gate_dst (N := 14) rfl ?_); (try (refine gate_guard (by rfl) ?_; dsimp only)); refine Kd.N_lit (Kd.slice 29 (Kd.int .u64)) _ 23 ?hg (N' := 14) ?hd (xs := ([l0] : List (List Int))) (inner := [.slice A0 l0.length c0]) (ok := (fun k_ => (P0_ k_ ∨ w.heap.size ≤ k_))) (okp := (fun k_ => (P0_ k_ ∨ w.heap.size ≤ k_))) ?hr ?hp (fun _ hk => hk) ((show ∀ k_, w.heap.size ≤ k_ → (fun k_ => (P0_ k_ ∨ w.heap.size ≤ k_)) k_ from fun k_ hk => (.inr (Nat.le_trans (below_size (by repeat (first | (with_reducible first | exact HB.out | apply below_alloc | apply pw_below_drewN | apply below_drew1) | exact HB.out))) hk))) _ (Nat.le_refl _)) (Below.refl _ _) (Nat.le_refl _) (by simp) ?_; (case hd => rfl); (case hg => rfl); (case hr => first | (go_simp; done) | (go_simp; rfl)); (case hp => exact (Reps.one (show Kd.FK (Kd.slice 29 (Kd.int .u64)) _ _ l0 [.slice A0 l0.length c0] from (Kd.FK_slice_mk (Kd.V_reads' (Kd.V_mono (ok' := (fun k_ => (P0_ k_ ∨ w.heap.size ≤ k_))) (HO0.out) (fun k_ hk => hk))).2.1 (Kd.V_F (Kd.V_mono (ok' := (fun k_ => (P0_ k_ ∨ w.heap.size ≤ k_))) (HO0.out) (fun k_ hk => hk))))) (Reps.none _ _))); intro v523 w31 ho32 hb hg_ hnew_; clear hg_ hnew_; (first | rw [← Ny522.out] at ho32 | (simp only [Int.reduceToNat] at ho32; rw [← Ny522.out] at ho32)); have n0_ := Aside0.mk (Kd.V_elder' (by (with_reducible repeat (first | apply Kd.V_alloc | apply Kd.V_drewN | apply Kd.V_drew)); exact HO0.out) (Kd.N_base ho32) hb); have n1_ := Aside0.mk (Kd.N_lower ho32 (below_size (by repeat (first | (with_reducible first | exact HB.out | apply below_alloc | apply pw_below_drewN | apply below_drew1) | exact HB.out)))); have n2_ := Aside0.mk (below_step (by repeat (first | (with_reducible first | exact HB.out | apply below_alloc | apply pw_below_drewN | apply below_drew1) | exact HB.out)) hb); clear HO0; clear HB; have HO0 := n0_; have HO524 := n1_; have HB := n2_; clear n0_ n1_ n2_; clear hb ho32; obtain ⟨Ao33, co33, eo33⟩ := Kd.N_slice HO524.out; subst eo33) | ((with_reducible refine gate_callee (f := 9) rfl ?_); refine goesL_ (some 15) rfl rfl Try.func9 (by kernel_rfl) rfl #[.slice Ao33 y522.length co33] rfl (by (try simp only [List.map_toArray, List.map_cons, List.map_nil]); first | done | rfl | (simp only [List.length_drop, List.length_take]; rfl)) ?_; (with_reducible refine (windbreaklaw01_few.calls k _ _ y522 true _ ?side1 ?side2 A3.out).mono ?_); (case side1 => repeat (first | exact (Kd.N_reads' HO524.out).2.2 | (with_reducible refine Kd.C_alloc ?_ _) | (with_reducible refine Kd.C_drewN ?_ _) | (with_reducible refine Kd.C_drew ?_))); (case side2 => exact (Kd.N_reads' HO524.out).2.1); rintro e w' ⟨rfl, ⟨nd, rfl⟩⟩; refine ⟨_, rfl, ?_⟩) | ((with_reducible refine gate_callee (f := 26) rfl ?_); refine goesL_ (some 18) rfl rfl Try.func26 (by kernel_rfl) rfl #[.slice A0 l0.length c0] rfl (by (try simp only [List.map_toArray, List.map_cons, List.map_nil]); first | done | rfl | (simp only [List.length_drop, List.length_take]; rfl)) ?_; (with_reducible refine (nat_Bytes.calls k _ _ l0 t526 _ ?side1 ?side2 A5.out).mono ?_); (case side1 => repeat (first | exact (Kd.V_reads' HO0.out).2.2 | (with_reducible refine Kd.C_alloc ?_ _) | (with_reducible refine Kd.C_drewN ?_ _) | (with_reducible refine Kd.C_drew ?_))); (case side2 => exact (Kd.V_reads' HO0.out).2.1); rintro e w34 ⟨v527, rfl, ho0, hb⟩; refine ⟨_, rfl, ?_⟩; have n0_ := Aside0.mk (Kd.V_elder' (by (with_reducible repeat (first | apply Kd.V_alloc | apply Kd.V_drewN | apply Kd.V_drew)); exact HO0.out) (Kd.R_base ho0) hb); have n1_ := Aside0.mk (Kd.N_elder' (by (with_reducible repeat (first | apply Kd.N_alloc | apply Kd.N_drewN | apply Kd.N_drew)); exact HO524.out) (Kd.R_base ho0) hb); have n2_ := Aside0.mk (Kd.R_lower (Kd.R_newM (M := fun k_ => (w.heap.size ≤ k_)) ho0 (below_size (by repeat (first | (with_reducible first | exact HB.out | apply below_alloc | apply pw_below_drewN | apply below_drew1) | exact HB.out))) (fun k_ h_ => h_)) (below_size (by repeat (first | (with_reducible first | exact HB.out | apply below_alloc | apply pw_below_drewN | apply below_drew1) | exact HB.out)))); have n3_ := Aside0.mk (below_step (by repeat (first | (with_reducible first | exact HB.out | apply below_alloc | apply pw_below_drewN | apply below_drew1) | exact HB.out)) hb); clear HO0; clear HO524; clear HB; have HO0 := n0_; have HO524 := n1_; have HO528 := n2_; have HB := n3_; clear n0_ n1_ n2_ n3_; (try clear hb); (try clear hb2); (try clear hk); (try clear hi); (try clear ho0)) | ((with_reducible refine gate_callee (f := 27) rfl ?_); refine goesL_ (some 21) rfl rfl Try.func27 (by kernel_rfl) rfl #[.slice A1 l1.length c1] rfl (by (try simp only [List.map_toArray, List.map_cons, List.map_nil]); first | done | rfl | (simp only [List.length_drop, List.length_take]; rfl)) ?_; (with_reducible refine (nat_Read.calls k _ _ l1 t529 t530 _ ?side1 ?side2 A6.out).mono ?_); (case side1 => repeat (first | exact (Kd.C_below HR1.out HB.out) | (with_reducible refine Kd.C_alloc ?_ _) | (with_reducible refine Kd.C_drewN ?_ _) | (with_reducible refine Kd.C_drew ?_))); (case side2 => exact HC1.out); rintro e w35 ⟨v531, rfl, ho0, hb⟩; refine ⟨_, rfl, ?_⟩; have n0_ := Aside0.mk (Kd.V_elder' (by (with_reducible repeat (first | apply Kd.V_alloc | apply Kd.V_drewN | apply Kd.V_drew)); exact HO0.out) (Kd.R_base ho0) hb); have n1_ := Aside0.mk (Kd.N_elder' (by (with_reducible repeat (first | apply Kd.N_alloc | apply Kd.N_drewN | apply Kd.N_drew)); exact HO524.out) (Kd.R_base ho0) hb); have n2_ := Aside0.mk (Kd.R_below (by (with_reducible repeat (first | apply Kd.R_alloc | apply Kd.R_drewN | apply Kd.R_drew)); exact HO528.out) hb); have n3_ := Aside0.mk (Kd.R_lower (Kd.R_newM (M := fun k_ => (w.heap.size ≤ k_)) ho0 (below_size (by repeat (first | (with_reducible first | exact HB.out | apply below_alloc | apply pw_below_drewN | apply below_drew1) | exact HB.out))) (fun k_ h_ => h_)) (below_size (by repeat (first | (with_reducible first | exact HB.out | apply below_alloc | apply pw_below_drewN | apply below_drew1) | exact HB.out)))); have n4_ := Aside0.mk (below_step (by repeat (first | (with_reducible first | exact HB.out | apply below_alloc | apply pw_below_drewN | apply below_drew1) | exact HB.out)) hb); clear HO0; clear HO524; clear HO528; clear HB; have HO0 := n0_; have HO524 := n1_; have HO528 := n2_; have HO532 := n3_; have HB := n4_; clear n0_ n1_ n2_ n3_ n4_; (try clear hb); (try clear hb2); (try clear hk); (try clear hi); (try clear ho0)) | ((with_reducible refine gate_callee (f := 28) rfl ?_); refine goesL_ (some 26) rfl rfl Try.func28 (by kernel_rfl) rfl #[.slice A1 l1.length c1] rfl (by (try simp only [List.map_toArray, List.map_cons, List.map_nil]); first | done | rfl | (simp only [List.length_drop, List.length_take]; rfl)) ?_; (with_reducible refine (windbreakref01_Read.calls k _ _ l1 t533 t534 _ ?side1 ?side2 A7.out).mono ?_); (case side1 => repeat (first | exact (Kd.C_below HR1.out HB.out) | (with_reducible refine Kd.C_alloc ?_ _) | (with_reducible refine Kd.C_drewN ?_ _) | (with_reducible refine Kd.C_drew ?_))); (case side2 => exact HC1.out); rintro e w36 ⟨v535, rfl, ho0, hb⟩; refine ⟨_, rfl, ?_⟩; have n0_ := Aside0.mk (Kd.V_elder' (by (with_reducible repeat (first | apply Kd.V_alloc | apply Kd.V_drewN | apply Kd.V_drew)); exact HO0.out) (Kd.R_base ho0) hb); have n1_ := Aside0.mk (Kd.N_elder' (by (with_reducible repeat (first | apply Kd.N_alloc | apply Kd.N_drewN | apply Kd.N_drew)); exact HO524.out) (Kd.R_base ho0) hb); have n2_ := Aside0.mk (Kd.R_below (by (with_reducible repeat (first | apply Kd.R_alloc | apply Kd.R_drewN | apply Kd.R_drew)); exact HO528.out) hb); have n3_ := Aside0.mk (Kd.R_elder' (by (with_reducible repeat (first | apply Kd.R_alloc | apply Kd.R_drewN | apply Kd.R_drew)); exact HO532.out) (Kd.R_base ho0) hb); have n4_ := Aside0.mk (Kd.R_lower (Kd.R_new' (Kd.R_newM (M := fun k_ => (w.heap.size ≤ k_)) ho0 (below_size (by repeat (first | (with_reducible first | exact HB.out | apply below_alloc | apply pw_below_drewN | apply below_drew1) | exact HB.out))) (fun k_ h_ => h_)) (Kd.R_lt (by (with_reducible repeat (first | apply Kd.R_alloc | apply Kd.R_drewN | apply Kd.R_drew)); exact HO532.out))) (below_size (by repeat (first | (with_reducible first | exact HB.out | apply below_alloc | apply pw_below_drewN | apply below_drew1) | exact HB.out)))); have n5_ := Aside0.mk (below_step (by repeat (first | (with_reducible first | exact HB.out | apply below_alloc | apply pw_below_drewN | apply below_drew1) | exact HB.out)) hb); clear HO0; clear HO524; clear HO528; clear HO532; clear HB; have HO0 := n0_; have HO524 := n1_; have HO528 := n2_; have HO532 := n3_; have HO536 := n4_; have HB := n5_; clear n0_ n1_ n2_ n3_ n4_ n5_; (try clear hb); (try clear hb2); (try clear hk); (try clear hi); (try clear ho0); obtain ⟨Ao37, co37, eo37⟩ := Kd.R_slice HO532.out; subst eo37; obtain ⟨Ao38, co38, eo38⟩ := Kd.R_slice HO536.out; subst eo38) | ((with_reducible refine gate_callee (f := 12) rfl ?_); refine goesL_ (some 31) rfl rfl Try.func12 (by kernel_rfl) rfl #[.slice Ao37 t529.length co37, .slice Ao38 t533.length co38] rfl (by (try simp only [List.map_toArray, List.map_cons, List.map_nil]); first | done | rfl | (simp only [List.length_drop, List.length_take]; rfl)) ?_; (with_reducible refine (windbreakref01_Same.calls k _ _ t529 _ _ t533 true _ ?side1 ?side2 ?side3 ?side4 A8.out).mono ?_); (case side1 => repeat (first | exact (Kd.R_reads' HO532.out).2.2 | (with_reducible refine Kd.C_alloc ?_ _) | (with_reducible refine Kd.C_drewN ?_ _) | (with_reducible refine Kd.C_drew ?_))); (case side2 => exact (Kd.R_reads' HO532.out).2.1); (case side3 => repeat (first | exact (Kd.R_reads' HO536.out).2.2 | (with_reducible refine Kd.C_alloc ?_ _) | (with_reducible refine Kd.C_drewN ?_ _) | (with_reducible refine Kd.C_drew ?_))); (case side4 => exact (Kd.R_reads' HO536.out).2.1); rintro e w' ⟨rfl, ⟨nd, rfl⟩⟩; refine ⟨_, rfl, ?_⟩) | ((with_reducible refine gate_dst (N := 33) rfl ?_); (try (refine gate_guard (by rfl) ?_; dsimp only)); refine Kd.R_lit (Kd.int .u8) _ 5 ?hg (N := 33) ?hd (xs := ([1] : List Int)) (inner := [.int .u8 1]) (ok := fun _ => True) (okp := fun _ => True) ?hr ?hp (fun _ hk => hk) trivial (Below.refl _ _) (Nat.le_refl _) (by simp) ?_; (case hd => rfl); (case hg => rfl); (case hr => first | (go_simp; done) | (go_simp; rfl)); (case hp => exact (Reps.one (show Kd.M (Kd.int .u8) _ _ _ 1 [.int .u8 1] from rfl) (Reps.none _ _))); intro v539 w39 ho40 hb hg_ hnew_; clear hg_ hnew_; (first | rw [← Ny538.out] at ho40 | (simp only [Int.reduceToNat] at ho40; rw [← Ny538.out] at ho40)); have n0_ := Aside0.mk (Kd.V_elder' (by (with_reducible repeat (first | apply Kd.V_alloc | apply Kd.V_drewN | apply Kd.V_drew)); exact HO0.out) (Kd.R_base ho40) hb); have n1_ := Aside0.mk (Kd.N_elder' (by (with_reducible repeat (first | apply Kd.N_alloc | apply Kd.N_drewN | apply Kd.N_drew)); exact HO524.out) (Kd.R_base ho40) hb); have n2_ := Aside0.mk (Kd.R_elder' (by (with_reducible repeat (first | apply Kd.R_alloc | apply Kd.R_drewN | apply Kd.R_drew)); exact HO528.out) (Kd.R_base ho40) hb); have n3_ := Aside0.mk (Kd.R_below (by (with_reducible repeat (first | apply Kd.R_alloc | apply Kd.R_drewN | apply Kd.R_drew)); exact HO532.out) hb); have n4_ := Aside0.mk (Kd.R_below (by (with_reducible repeat (first | apply Kd.R_alloc | apply Kd.R_drewN | apply Kd.R_drew)); exact HO536.out) hb); have n5_ := Aside0.mk (Kd.R_lower (Kd.R_new' (Kd.R_newM (M := fun k_ => (w.heap.size ≤ k_)) ho40 (below_size (by repeat (first | (with_reducible first | exact HB.out | apply below_alloc | apply pw_below_drewN | apply below_drew1) | exact HB.out))) (fun k_ h_ => h_)) (Kd.R_lt (by (with_reducible repeat (first | apply Kd.R_alloc | apply Kd.R_drewN | apply Kd.R_drew)); exact HO528.out))) (below_size (by repeat (first | (with_reducible first | exact HB.out | apply below_alloc | apply pw_below_drewN | apply below_drew1) | exact HB.out)))); have n6_ := Aside0.mk (below_step (by repeat (first | (with_reducible first | exact HB.out | apply below_alloc | apply pw_below_drewN | apply below_drew1) | exact HB.out)) hb); clear HO0; clear HO524; clear HO528; clear HO532; clear HO536; clear HB; have HO0 := n0_; have HO524 := n1_; have HO528 := n2_; have HO532 := n3_; have HO536 := n4_; have HO540 := n5_; have HB := n6_; clear n0_ n1_ n2_ n3_ n4_ n5_ n6_; clear hb ho40; obtain ⟨Ao41, co41, eo41⟩ := Kd.R_slice HO540.out; subst eo41) | ((with_reducible refine gate_callee (f := 27) rfl ?_); refine goesL_ (some 34) rfl rfl Try.func27 (by kernel_rfl) rfl #[.slice Ao41 y538.length co41] rfl (by (try simp only [List.map_toArray, List.map_cons, List.map_nil]); first | done | rfl | (simp only [List.length_drop, List.length_take]; rfl)) ?_; (with_reducible refine (nat_Read.calls k _ _ y538 t541 t542 _ ?side1 ?side2 A9.out).mono ?_); (case side1 => repeat (first | exact (Kd.R_reads' HO540.out).2.2 | (with_reducible refine Kd.C_alloc ?_ _) | (with_reducible refine Kd.C_drewN ?_ _) | (with_reducible refine Kd.C_drew ?_))); (case side2 => exact (Kd.R_reads' HO540.out).2.1); rintro e w42 ⟨v543, rfl, ho0, hb⟩; refine ⟨_, rfl, ?_⟩; have n0_ := Aside0.mk (Kd.V_elder' (by (with_reducible repeat (first | apply Kd.V_alloc | apply Kd.V_drewN | apply Kd.V_drew)); exact HO0.out) (Kd.R_base ho0) hb); have n1_ := Aside0.mk (Kd.N_elder' (by (with_reducible repeat (first | apply Kd.N_alloc | apply Kd.N_drewN | apply Kd.N_drew)); exact HO524.out) (Kd.R_base ho0) hb); have n2_ := Aside0.mk (Kd.R_below (by (with_reducible repeat (first | apply Kd.R_alloc | apply Kd.R_drewN | apply Kd.R_drew)); exact HO528.out) hb); have n3_ := Aside0.mk (Kd.R_elder' (by (with_reducible repeat (first | apply Kd.R_alloc | apply Kd.R_drewN | apply Kd.R_drew)); exact HO532.out) (Kd.R_base ho0) hb); have n4_ := Aside0.mk (Kd.R_elder' (by (with_reducible repeat (first | apply Kd.R_alloc | apply Kd.R_drewN | apply Kd.R_drew)); exact HO536.out) (Kd.R_base ho0) hb); have n5_ := Aside0.mk (Kd.R_below (by (with_reducible repeat (first | apply Kd.R_alloc | apply Kd.R_drewN | apply Kd.R_drew)); exact HO540.out) hb); have n6_ := Aside0.mk (Kd.R_lower (Kd.R_new' (Kd.R_new' (Kd.R_newM (M := fun k_ => (w.heap.size ≤ k_)) ho0 (below_size (by repeat (first | (with_reducible first | exact HB.out | apply below_alloc | apply pw_below_drewN | apply below_drew1) | exact HB.out))) (fun k_ h_ => h_)) (Kd.R_lt (by (with_reducible repeat (first | apply Kd.R_alloc | apply Kd.R_drewN | apply Kd.R_drew)); exact HO532.out))) (Kd.R_lt (by (with_reducible repeat (first | apply Kd.R_alloc | apply Kd.R_drewN | apply Kd.R_drew)); exact HO536.out))) (below_size (by repeat (first | (with_reducible first | exact HB.out | apply below_alloc | apply pw_below_drewN | apply below_drew1) | exact HB.out)))); have n7_ := Aside0.mk (below_step (by repeat (first | (with_reducible first | exact HB.out | apply below_alloc | apply pw_below_drewN | apply below_drew1) | exact HB.out)) hb); clear HO0; clear HO524; clear HO528; clear HO532; clear HO536; clear HO540; clear HB; have HO0 := n0_; have HO524 := n1_; have HO528 := n2_; have HO532 := n3_; have HO536 := n4_; have HO540 := n5_; have HO544 := n6_; have HB := n7_; clear n0_ n1_ n2_ n3_ n4_ n5_ n6_ n7_; (try clear hb); (try clear hb2); (try clear hk); (try clear hi); (try clear ho0)))
          have n0_ := Aside0.mk (Kd.V_drew HO0.out)
          have n1_ := Aside0.mk (Kd.N_drew HO524.out)
          have n2_ := Aside0.mk (Kd.R_drew HO528.out)
          have n3_ := Aside0.mk (Kd.R_drew HO532.out)
          have n4_ := Aside0.mk (Kd.R_drew HO536.out)
          have n5_ := Aside0.mk (Kd.R_drew HO540.out)
          have n6_ := Aside0.mk (Kd.R_drew HO544.out)
          have n7_ := Aside0.mk (below_drew1 HB.out)
          clear HO0
          clear HO524
          clear HO528
          clear HO532
          clear HO536
          clear HO540
          clear HO544
          clear HB
          have HO0 := n0_
          have HO524 := n1_
          have HO528 := n2_
          have HO532 := n3_
          have HO536 := n4_
          have HO540 := n5_
          have HO544 := n6_
          have HB := n7_
          clear n0_ n1_ n2_ n3_ n4_ n5_ n6_ n7_
          refine start_ (n := 20) (S := fun w' => (convert 30 9 (v527)).run Try.prog w' = .ok (.string (strOfNums t526)) w') (ds := []) #[false, false, false, false, false, false, false, false, false, false, false, false, false, false, false, false, false, false, false, false] (by kernel_rfl) rfl rfl ((own_string (P := Try.prog) Try.underlying30 Try.underlying5 Try.underlying9 (Kd.own_of_R HO528.out))) (fun hHeld => ?_); refine with_tabW windbreaklaw01_NatBytes.tab8 windbreaklaw01_NatBytes.bits8 (fun HT_ HW_ => ?_)
          generalize w42.drew = w43 at HO0 HO524 HO528 HO532 HO536 HO540 HO544 HB hHeld ⊢
          refine pure_ (i := 0) (N := some 37) (v := ?_) (a' := ?_) #[true, false, false, false, false, false, false, false, false, false, false, false, false, false, false, false, false, false, false, false] rfl rfl (any_of HT_.out (by kernel_rfl)) (fun _ _ _ h => h) (Or.inl ⟨by rfl, ?_⟩) ?_ ?_
          rotate_left
          · intro w'
            go_simp
            with_reducible rfl
          rotate_left
          · simp only [Act.put, List.setIfInBounds_toArray, List.set_cons_zero, List.set_cons_succ, i64_w, i32_w]
            rfl
          refine pure_ (i := 2) (N := some 39) (v := ?_) (a' := ?_) #[true, false, true, false, false, false, false, false, false, false, false, false, false, false, false, false, false, false, false, false] rfl rfl (any_of HT_.out (by kernel_rfl)) (fun _ _ _ h => h) (Or.inl ⟨by rfl, ?_⟩) ?_ ?_
          rotate_left
          · intro w'
            go_simp
            with_reducible rfl
          rotate_left
          · simp only [Act.put, List.setIfInBounds_toArray, List.set_cons_zero, List.set_cons_succ, i64_w, i32_w]
            rfl
          refine take_ (i := 1) (N := some 38) (v := ?_) (a' := ?_) #[true, true, true, false, false, false, false, false, false, false, false, false, false, false, false, false, false, false, false, false] rfl rfl (take_ofW HT_.out HW_.out (by kernel_rfl)) (fun _ _ _ h => h) (Or.inl ⟨by rfl, ?_⟩) hHeld ?_ ?_
          rotate_left
          · intro w' s0
            go_simp
            with_reducible rfl
          rotate_left
          · simp only [Act.put, List.setIfInBounds_toArray, List.set_cons_zero, List.set_cons_succ, i64_w, i32_w]
            rfl
          refine one_ (i := 3) (N := some 40) #[true, true, true, true, false, false, false, false, false, false, false, false, false, false, false, false, false, false, false, false] rfl rfl (one_of HT_.out (by kernel_rfl)) (by decide) (fun K hK => ?_)
          refine goes_ Try.func29 (by kernel_rfl) rfl #[.slice A0 l0.length c0] (by rfl) rfl rfl (by (try simp only [List.map_toArray, List.map_cons, List.map_nil]); first | done | rfl | (simp only [List.length_drop, List.length_take]; rfl)) ?_
          with_reducible refine (windbreakref01_Bytes.calls k _ _ l0 t545 _ ?side1 ?side2 A10.out).mono ?_
          (case side1 => repeat (first | exact (Kd.V_reads' HO0.out).2.2 | (with_reducible refine Kd.C_alloc ?_ _) | (with_reducible refine Kd.C_drewN ?_ _) | (with_reducible refine Kd.C_drew ?_)))
          (case side2 => exact (Kd.V_reads' HO0.out).2.1)
          rintro e w44 ⟨v546, rfl, ho0, hb⟩
          refine ⟨_, rfl, ?_⟩
          have n0_ := Aside0.mk (Kd.V_elder' (by (with_reducible repeat (first | apply Kd.V_alloc | apply Kd.V_drewN | apply Kd.V_drew)); exact HO0.out) (Kd.R_base ho0) hb)
          have n1_ := Aside0.mk (Kd.N_elder' (by (with_reducible repeat (first | apply Kd.N_alloc | apply Kd.N_drewN | apply Kd.N_drew)); exact HO524.out) (Kd.R_base ho0) hb)
          have n2_ := Aside0.mk (Kd.R_elder' (by (with_reducible repeat (first | apply Kd.R_alloc | apply Kd.R_drewN | apply Kd.R_drew)); exact HO528.out) (Kd.R_base ho0) hb)
          have n3_ := Aside0.mk (Kd.R_below (by (with_reducible repeat (first | apply Kd.R_alloc | apply Kd.R_drewN | apply Kd.R_drew)); exact HO532.out) hb)
          have n4_ := Aside0.mk (Kd.R_below (by (with_reducible repeat (first | apply Kd.R_alloc | apply Kd.R_drewN | apply Kd.R_drew)); exact HO536.out) hb)
          have n5_ := Aside0.mk (Kd.R_elder' (by (with_reducible repeat (first | apply Kd.R_alloc | apply Kd.R_drewN | apply Kd.R_drew)); exact HO540.out) (Kd.R_base ho0) hb)
          have n6_ := Aside0.mk (Kd.R_below (by (with_reducible repeat (first | apply Kd.R_alloc | apply Kd.R_drewN | apply Kd.R_drew)); exact HO544.out) hb)
          have n7_ := Aside0.mk (Kd.R_lower (Kd.R_new' (Kd.R_new' (Kd.R_newM (M := fun k_ => (w.heap.size ≤ k_)) ho0 (below_size (by repeat (first | (with_reducible first | exact HB.out | apply below_alloc | apply pw_below_drewN | apply below_drew1) | exact HB.out))) (fun k_ h_ => h_)) (Kd.R_lt (by (with_reducible repeat (first | apply Kd.R_alloc | apply Kd.R_drewN | apply Kd.R_drew)); exact HO528.out))) (Kd.R_lt (by (with_reducible repeat (first | apply Kd.R_alloc | apply Kd.R_drewN | apply Kd.R_drew)); exact HO540.out))) (below_size (by repeat (first | (with_reducible first | exact HB.out | apply below_alloc | apply pw_below_drewN | apply below_drew1) | exact HB.out))))
          have n8_ := Aside0.mk (below_step (by repeat (first | (with_reducible first | exact HB.out | apply below_alloc | apply pw_below_drewN | apply below_drew1) | exact HB.out)) hb)
          clear HO0
          clear HO524
          clear HO528
          clear HO532
          clear HO536
          clear HO540
          clear HO544
          clear HB
          have HO0 := n0_
          have HO524 := n1_
          have HO528 := n2_
          have HO532 := n3_
          have HO536 := n4_
          have HO540 := n5_
          have HO544 := n6_
          have HO547 := n7_
          have HB := n8_
          clear n0_ n1_ n2_ n3_ n4_ n5_ n6_ n7_ n8_
          (try clear hb)
          (try clear hb2)
          (try clear hk)
          (try clear hi)
          (try clear ho0)
          refine hK.out _ _ ((own_string (P := Try.prog) Try.underlying30 Try.underlying5 Try.underlying9 (Kd.own_of_R HO528.out))) (fun hHeld => ?_)
          clear hK K
          refine norm_ (a' := ?_) ?_ ?_
          rotate_left
          · show Act.put _ (some 40) _ = _
            simp only [Act.put, List.setIfInBounds_toArray, List.set_cons_zero, List.set_cons_succ, i64_w, i32_w]
            rfl
          refine one_ (i := 4) (N := some 41) #[true, true, true, true, true, false, false, false, false, false, false, false, false, false, false, false, false, false, false, false] rfl rfl (one_of HT_.out (by kernel_rfl)) (by decide) (fun K hK => ?_)
          have hcv45 := own_string (P := Try.prog) Try.underlying30 Try.underlying5 Try.underlying9 (Kd.own_of_R HO547.out)
          refine value_ (w1 := ?_) (v := ?_) (by rfl) rfl ?_ ?_
          rotate_left 2
          · go_simp
            constructor
            · rfl
            · rfl
          clear hcv45
          refine hK.out _ _ ((own_string (P := Try.prog) Try.underlying30 Try.underlying5 Try.underlying9 (Kd.own_of_R HO528.out))) (fun hHeld => ?_)
          clear hK K
          refine norm_ (a' := ?_) ?_ ?_
          rotate_left
          · show Act.put _ (some 41) _ = _
            simp only [Act.put, List.setIfInBounds_toArray, List.set_cons_zero, List.set_cons_succ, i64_w, i32_w]
            rfl
          refine pure_ (i := 5) (N := some 42) (v := ?_) (a' := ?_) #[true, true, true, true, true, true, false, false, false, false, false, false, false, false, false, false, false, false, false, false] rfl rfl (any_of HT_.out (by kernel_rfl)) (fun _ _ _ h => h) (Or.inl ⟨by rfl, ?_⟩) ?_ ?_
          rotate_left
          · intro w'
            go_simp
            with_reducible rfl
          rotate_left
          · simp only [Act.put, List.setIfInBounds_toArray, List.set_cons_zero, List.set_cons_succ, i64_w, i32_w]
            rfl
          refine pure_ (i := 6) (N := some 43) (v := ?_) (a' := ?_) #[true, true, true, true, true, true, true, false, false, false, false, false, false, false, false, false, false, false, false, false] rfl rfl (any_of HT_.out (by kernel_rfl)) (fun _ _ _ h => h) (Or.inl ⟨by rfl, ?_⟩) ?_ ?_
          rotate_left
          · intro w'
            go_simp
            with_reducible rfl
          rotate_left
          · simp only [Act.put, List.setIfInBounds_toArray, List.set_cons_zero, List.set_cons_succ, i64_w, i32_w]
            rfl
          refine pure_ (i := 7) (N := some 44) (v := ?_) (a' := ?_) #[true, true, true, true, true, true, true, true, false, false, false, false, false, false, false, false, false, false, false, false] rfl rfl (any_of HT_.out (by kernel_rfl)) (fun _ _ _ h => h) (Or.inl ⟨by rfl, ?_⟩) ?_ ?_
          rotate_left
          · intro w'
            go_simp
            with_reducible rfl
          rotate_left
          · simp only [Act.put, List.setIfInBounds_toArray, List.set_cons_zero, List.set_cons_succ, i64_w, i32_w]
            rfl
          refine pure_ (i := 8) (N := some 45) (v := ?_) (a' := ?_) #[true, true, true, true, true, true, true, true, true, false, false, false, false, false, false, false, false, false, false, false] rfl rfl (any_of HT_.out (by kernel_rfl)) (fun _ _ _ h => h) (Or.inl ⟨by rfl, ?_⟩) ?_ ?_
          rotate_left
          · intro w'
            go_simp
            with_reducible rfl
          rotate_left
          · simp only [Act.put, List.setIfInBounds_toArray, List.set_cons_zero, List.set_cons_succ, i64_w, i32_w]
            rfl
          refine pure_ (i := 9) (N := some 46) (v := ?_) (a' := ?_) #[true, true, true, true, true, true, true, true, true, true, false, false, false, false, false, false, false, false, false, false] rfl rfl (any_of HT_.out (by kernel_rfl)) (fun _ _ _ h => h) (Or.inl ⟨by rfl, ?_⟩) ?_ ?_
          rotate_left
          · intro w'
            go_simp
            with_reducible rfl
          rotate_left
          · simp only [Act.put, List.setIfInBounds_toArray, List.set_cons_zero, List.set_cons_succ, i64_w, i32_w]
            rfl
          refine pure_ (i := 10) (N := some 47) (v := ?_) (a' := ?_) #[true, true, true, true, true, true, true, true, true, true, true, false, false, false, false, false, false, false, false, false] rfl rfl (any_of HT_.out (by kernel_rfl)) (fun _ _ _ h => h) (Or.inl ⟨by rfl, ?_⟩) ?_ ?_
          rotate_left
          · intro w'
            go_simp
            with_reducible rfl
          rotate_left
          · simp only [Act.put, List.setIfInBounds_toArray, List.set_cons_zero, List.set_cons_succ, i64_w, i32_w]
            rfl
          refine pure_ (i := 11) (N := some 48) (v := ?_) (a' := ?_) #[true, true, true, true, true, true, true, true, true, true, true, true, false, false, false, false, false, false, false, false] rfl rfl (any_of HT_.out (by kernel_rfl)) (fun _ _ _ h => h) (Or.inl ⟨by rfl, ?_⟩) ?_ ?_
          rotate_left
          · intro w'
            go_simp
            with_reducible rfl
          rotate_left
          · simp only [Act.put, List.setIfInBounds_toArray, List.set_cons_zero, List.set_cons_succ, i64_w, i32_w]
            rfl
          refine pure_ (i := 12) (N := some 49) (v := ?_) (a' := ?_) #[true, true, true, true, true, true, true, true, true, true, true, true, true, false, false, false, false, false, false, false] rfl rfl (any_of HT_.out (by kernel_rfl)) (fun _ _ _ h => h) (Or.inl ⟨by rfl, ?_⟩) ?_ ?_
          rotate_left
          · intro w'
            go_simp
            with_reducible rfl
          rotate_left
          · simp only [Act.put, List.setIfInBounds_toArray, List.set_cons_zero, List.set_cons_succ, i64_w, i32_w]
            rfl
          refine pure_ (i := 13) (N := some 50) (v := ?_) (a' := ?_) #[true, true, true, true, true, true, true, true, true, true, true, true, true, true, false, false, false, false, false, false] rfl rfl (any_of HT_.out (by kernel_rfl)) (fun _ _ _ h => h) (Or.inl ⟨by rfl, ?_⟩) ?_ ?_
          rotate_left
          · intro w'
            go_simp
            with_reducible rfl
          rotate_left
          · simp only [Act.put, List.setIfInBounds_toArray, List.set_cons_zero, List.set_cons_succ, i64_w, i32_w]
            rfl
          refine pure_ (i := 14) (N := some 51) (v := ?_) (a' := ?_) #[true, true, true, true, true, true, true, true, true, true, true, true, true, true, true, false, false, false, false, false] rfl rfl (any_of HT_.out (by kernel_rfl)) (fun _ _ _ h => h) (Or.inl ⟨by rfl, ?_⟩) ?_ ?_
          rotate_left
          · intro w'
            go_simp
            with_reducible rfl
          rotate_left
          · simp only [Act.put, List.setIfInBounds_toArray, List.set_cons_zero, List.set_cons_succ, i64_w, i32_w]
            rfl
          refine pure_ (i := 15) (N := some 52) (v := undef) (a' := ?_) #[true, true, true, true, true, true, true, true, true, true, true, true, true, true, true, true, false, false, false, false] rfl rfl (any_of HT_.out (by kernel_rfl)) (fun _ _ _ h => h) (Or.inr ⟨by rfl, rfl⟩) ?_ ?_
          rotate_left
          · simp only [Act.put, List.setIfInBounds_toArray, List.set_cons_zero, List.set_cons_succ, i64_w, i32_w]
            rfl
          refine pure_ (i := 16) (N := some 53) (v := undef) (a' := ?_) #[true, true, true, true, true, true, true, true, true, true, true, true, true, true, true, true, true, false, false, false] rfl rfl (any_of HT_.out (by kernel_rfl)) (fun _ _ _ h => h) (Or.inr ⟨by rfl, rfl⟩) ?_ ?_
          rotate_left
          · simp only [Act.put, List.setIfInBounds_toArray, List.set_cons_zero, List.set_cons_succ, i64_w, i32_w]
            rfl
          refine pure_ (i := 17) (N := some 54) (v := undef) (a' := ?_) #[true, true, true, true, true, true, true, true, true, true, true, true, true, true, true, true, true, true, false, false] rfl rfl (any_of HT_.out (by kernel_rfl)) (fun _ _ _ h => h) (Or.inr ⟨by rfl, rfl⟩) ?_ ?_
          rotate_left
          · simp only [Act.put, List.setIfInBounds_toArray, List.set_cons_zero, List.set_cons_succ, i64_w, i32_w]
            rfl
          refine pure_ (i := 18) (N := some 55) (v := ?_) (a' := ?_) #[true, true, true, true, true, true, true, true, true, true, true, true, true, true, true, true, true, true, true, false] rfl rfl (any_of HT_.out (by kernel_rfl)) (fun _ _ _ h => h) (Or.inl ⟨by rfl, ?_⟩) ?_ ?_
          rotate_left
          · intro w'
            go_simp
            with_reducible rfl
          rotate_left
          · simp only [Act.put, List.setIfInBounds_toArray, List.set_cons_zero, List.set_cons_succ, i64_w, i32_w]
            rfl
          refine pure_ (i := 19) (N := some 4) (v := ?_) (a' := ?_) #[true, true, true, true, true, true, true, true, true, true, true, true, true, true, true, true, true, true, true, true] rfl rfl (any_of HT_.out (by kernel_rfl)) (fun _ _ _ h => h) (Or.inl ⟨by rfl, ?_⟩) ?_ ?_
          rotate_left
          · intro w'
            go_simp
            with_reducible rfl
          rotate_left
          · simp only [Act.put, List.setIfInBounds_toArray, List.set_cons_zero, List.set_cons_succ, i64_w, i32_w]
            rfl
          refine done_ (done_of HT_.out (by kernel_rfl)) ?_
          try go_wp2
          go_ret
          exact ⟨by first | rfl | (simp [errW_none, errW_some] <;> rfl) | (simp [*, errW_none, errW_some] <;> rfl), by repeat (first | (with_reducible first | exact HB.out | apply below_alloc | apply pw_below_drewN | apply below_drew1) | exact HB.out)⟩
      · replace c12 := Bool.eq_false_iff.mpr c12
        subst c12
        have H1 : (some false) = some r := by rw [if_neg (show ¬ (false = true) by decide)] at H; exact H
        clear H
        have H := H1
        clear H1
        obtain rfl := Option.some.inj H
        go_enter Try.func6, Try.ntmps6
        try go_wp2_with (first | ((with_reducible refine gate_dst (N := 14) rfl ?_); (try (refine gate_guard (by rfl) ?_; dsimp only)); refine Kd.N_lit (Kd.slice 29 (Kd.int .u64)) _ 23 ?hg (N' := 14) ?hd (xs := ([l0] : List (List Int))) (inner := [.slice A0 l0.length c0]) (ok := (fun k_ => (P0_ k_ ∨ w.heap.size ≤ k_))) (okp := (fun k_ => (P0_ k_ ∨ w.heap.size ≤ k_))) ?hr ?hp (fun _ hk => hk) ((show ∀ k_, w.heap.size ≤ k_ → (fun k_ => (P0_ k_ ∨ w.heap.size ≤ k_)) k_ from fun k_ hk => (.inr (Nat.le_trans (below_size (by repeat (first | (with_reducible first | exact HB.out | apply below_alloc | apply pw_below_drewN | apply below_drew1) | exact HB.out))) hk))) _ (Nat.le_refl _)) (Below.refl _ _) (Nat.le_refl _) (by simp) ?_; (case hd => rfl); (case hg => rfl); (case hr => first | (go_simp; done) | (go_simp; rfl)); (case hp => exact (Reps.one (show Kd.FK (Kd.slice 29 (Kd.int .u64)) _ _ l0 [.slice A0 l0.length c0] from (Kd.FK_slice_mk (Kd.V_reads' (Kd.V_mono (ok' := (fun k_ => (P0_ k_ ∨ w.heap.size ≤ k_))) (HO0.out) (fun k_ hk => hk))).2.1 (Kd.V_F (Kd.V_mono (ok' := (fun k_ => (P0_ k_ ∨ w.heap.size ≤ k_))) (HO0.out) (fun k_ hk => hk))))) (Reps.none _ _))); intro v523 w47 ho48 hb hg_ hnew_; clear hg_ hnew_; (first | rw [← Ny522.out] at ho48 | (simp only [Int.reduceToNat] at ho48; rw [← Ny522.out] at ho48)); have n0_ := Aside0.mk (Kd.V_elder' (by (with_reducible repeat (first | apply Kd.V_alloc | apply Kd.V_drewN | apply Kd.V_drew)); exact HO0.out) (Kd.N_base ho48) hb); have n1_ := Aside0.mk (Kd.N_lower ho48 (below_size (by repeat (first | (with_reducible first | exact HB.out | apply below_alloc | apply pw_below_drewN | apply below_drew1) | exact HB.out)))); have n2_ := Aside0.mk (below_step (by repeat (first | (with_reducible first | exact HB.out | apply below_alloc | apply pw_below_drewN | apply below_drew1) | exact HB.out)) hb); clear HO0; clear HB; have HO0 := n0_; have HO524 := n1_; have HB := n2_; clear n0_ n1_ n2_; clear hb ho48; obtain ⟨Ao49, co49, eo49⟩ := Kd.N_slice HO524.out; subst eo49) | ((with_reducible refine gate_callee (f := 9) rfl ?_); refine goesL_ (some 15) rfl rfl Try.func9 (by kernel_rfl) rfl #[.slice Ao49 y522.length co49] rfl (by (try simp only [List.map_toArray, List.map_cons, List.map_nil]); first | done | rfl | (simp only [List.length_drop, List.length_take]; rfl)) ?_; (with_reducible refine (windbreaklaw01_few.calls k _ _ y522 true _ ?side1 ?side2 A3.out).mono ?_); (case side1 => repeat (first | exact (Kd.N_reads' HO524.out).2.2 | (with_reducible refine Kd.C_alloc ?_ _) | (with_reducible refine Kd.C_drewN ?_ _) | (with_reducible refine Kd.C_drew ?_))); (case side2 => exact (Kd.N_reads' HO524.out).2.1); rintro e w' ⟨rfl, ⟨nd, rfl⟩⟩; refine ⟨_, rfl, ?_⟩) | ((with_reducible refine gate_callee (f := 26) rfl ?_); refine goesL_ (some 18) rfl rfl Try.func26 (by kernel_rfl) rfl #[.slice A0 l0.length c0] rfl (by (try simp only [List.map_toArray, List.map_cons, List.map_nil]); first | done | rfl | (simp only [List.length_drop, List.length_take]; rfl)) ?_; (with_reducible refine (nat_Bytes.calls k _ _ l0 t526 _ ?side1 ?side2 A5.out).mono ?_); (case side1 => repeat (first | exact (Kd.V_reads' HO0.out).2.2 | (with_reducible refine Kd.C_alloc ?_ _) | (with_reducible refine Kd.C_drewN ?_ _) | (with_reducible refine Kd.C_drew ?_))); (case side2 => exact (Kd.V_reads' HO0.out).2.1); rintro e w50 ⟨v527, rfl, ho0, hb⟩; refine ⟨_, rfl, ?_⟩; have n0_ := Aside0.mk (Kd.V_elder' (by (with_reducible repeat (first | apply Kd.V_alloc | apply Kd.V_drewN | apply Kd.V_drew)); exact HO0.out) (Kd.R_base ho0) hb); have n1_ := Aside0.mk (Kd.N_elder' (by (with_reducible repeat (first | apply Kd.N_alloc | apply Kd.N_drewN | apply Kd.N_drew)); exact HO524.out) (Kd.R_base ho0) hb); have n2_ := Aside0.mk (Kd.R_lower (Kd.R_newM (M := fun k_ => (w.heap.size ≤ k_)) ho0 (below_size (by repeat (first | (with_reducible first | exact HB.out | apply below_alloc | apply pw_below_drewN | apply below_drew1) | exact HB.out))) (fun k_ h_ => h_)) (below_size (by repeat (first | (with_reducible first | exact HB.out | apply below_alloc | apply pw_below_drewN | apply below_drew1) | exact HB.out)))); have n3_ := Aside0.mk (below_step (by repeat (first | (with_reducible first | exact HB.out | apply below_alloc | apply pw_below_drewN | apply below_drew1) | exact HB.out)) hb); clear HO0; clear HO524; clear HB; have HO0 := n0_; have HO524 := n1_; have HO528 := n2_; have HB := n3_; clear n0_ n1_ n2_ n3_; (try clear hb); (try clear hb2); (try clear hk); (try clear hi); (try clear ho0)) | ((with_reducible refine gate_callee (f := 27) rfl ?_); refine goesL_ (some 21) rfl rfl Try.func27 (by kernel_rfl) rfl #[.slice A1 l1.length c1] rfl (by (try simp only [List.map_toArray, List.map_cons, List.map_nil]); first | done | rfl | (simp only [List.length_drop, List.length_take]; rfl)) ?_; (with_reducible refine (nat_Read.calls k _ _ l1 t529 t530 _ ?side1 ?side2 A6.out).mono ?_); (case side1 => repeat (first | exact (Kd.C_below HR1.out HB.out) | (with_reducible refine Kd.C_alloc ?_ _) | (with_reducible refine Kd.C_drewN ?_ _) | (with_reducible refine Kd.C_drew ?_))); (case side2 => exact HC1.out); rintro e w51 ⟨v531, rfl, ho0, hb⟩; refine ⟨_, rfl, ?_⟩; have n0_ := Aside0.mk (Kd.V_elder' (by (with_reducible repeat (first | apply Kd.V_alloc | apply Kd.V_drewN | apply Kd.V_drew)); exact HO0.out) (Kd.R_base ho0) hb); have n1_ := Aside0.mk (Kd.N_elder' (by (with_reducible repeat (first | apply Kd.N_alloc | apply Kd.N_drewN | apply Kd.N_drew)); exact HO524.out) (Kd.R_base ho0) hb); have n2_ := Aside0.mk (Kd.R_below (by (with_reducible repeat (first | apply Kd.R_alloc | apply Kd.R_drewN | apply Kd.R_drew)); exact HO528.out) hb); have n3_ := Aside0.mk (Kd.R_lower (Kd.R_newM (M := fun k_ => (w.heap.size ≤ k_)) ho0 (below_size (by repeat (first | (with_reducible first | exact HB.out | apply below_alloc | apply pw_below_drewN | apply below_drew1) | exact HB.out))) (fun k_ h_ => h_)) (below_size (by repeat (first | (with_reducible first | exact HB.out | apply below_alloc | apply pw_below_drewN | apply below_drew1) | exact HB.out)))); have n4_ := Aside0.mk (below_step (by repeat (first | (with_reducible first | exact HB.out | apply below_alloc | apply pw_below_drewN | apply below_drew1) | exact HB.out)) hb); clear HO0; clear HO524; clear HO528; clear HB; have HO0 := n0_; have HO524 := n1_; have HO528 := n2_; have HO532 := n3_; have HB := n4_; clear n0_ n1_ n2_ n3_ n4_; (try clear hb); (try clear hb2); (try clear hk); (try clear hi); (try clear ho0)) | ((with_reducible refine gate_callee (f := 28) rfl ?_); refine goesL_ (some 26) rfl rfl Try.func28 (by kernel_rfl) rfl #[.slice A1 l1.length c1] rfl (by (try simp only [List.map_toArray, List.map_cons, List.map_nil]); first | done | rfl | (simp only [List.length_drop, List.length_take]; rfl)) ?_; (with_reducible refine (windbreakref01_Read.calls k _ _ l1 t533 t534 _ ?side1 ?side2 A7.out).mono ?_); (case side1 => repeat (first | exact (Kd.C_below HR1.out HB.out) | (with_reducible refine Kd.C_alloc ?_ _) | (with_reducible refine Kd.C_drewN ?_ _) | (with_reducible refine Kd.C_drew ?_))); (case side2 => exact HC1.out); rintro e w52 ⟨v535, rfl, ho0, hb⟩; refine ⟨_, rfl, ?_⟩; have n0_ := Aside0.mk (Kd.V_elder' (by (with_reducible repeat (first | apply Kd.V_alloc | apply Kd.V_drewN | apply Kd.V_drew)); exact HO0.out) (Kd.R_base ho0) hb); have n1_ := Aside0.mk (Kd.N_elder' (by (with_reducible repeat (first | apply Kd.N_alloc | apply Kd.N_drewN | apply Kd.N_drew)); exact HO524.out) (Kd.R_base ho0) hb); have n2_ := Aside0.mk (Kd.R_below (by (with_reducible repeat (first | apply Kd.R_alloc | apply Kd.R_drewN | apply Kd.R_drew)); exact HO528.out) hb); have n3_ := Aside0.mk (Kd.R_elder' (by (with_reducible repeat (first | apply Kd.R_alloc | apply Kd.R_drewN | apply Kd.R_drew)); exact HO532.out) (Kd.R_base ho0) hb); have n4_ := Aside0.mk (Kd.R_lower (Kd.R_new' (Kd.R_newM (M := fun k_ => (w.heap.size ≤ k_)) ho0 (below_size (by repeat (first | (with_reducible first | exact HB.out | apply below_alloc | apply pw_below_drewN | apply below_drew1) | exact HB.out))) (fun k_ h_ => h_)) (Kd.R_lt (by (with_reducible repeat (first | apply Kd.R_alloc | apply Kd.R_drewN | apply Kd.R_drew)); exact HO532.out))) (below_size (by repeat (first | (with_reducible first | exact HB.out | apply below_alloc | apply pw_below_drewN | apply below_drew1) | exact HB.out)))); have n5_ := Aside0.mk (below_step (by repeat (first | (with_reducible first | exact HB.out | apply below_alloc | apply pw_below_drewN | apply below_drew1) | exact HB.out)) hb); clear HO0; clear HO524; clear HO528; clear HO532; clear HB; have HO0 := n0_; have HO524 := n1_; have HO528 := n2_; have HO532 := n3_; have HO536 := n4_; have HB := n5_; clear n0_ n1_ n2_ n3_ n4_ n5_; (try clear hb); (try clear hb2); (try clear hk); (try clear hi); (try clear ho0); obtain ⟨Ao53, co53, eo53⟩ := Kd.R_slice HO532.out; subst eo53; obtain ⟨Ao54, co54, eo54⟩ := Kd.R_slice HO536.out; subst eo54) | ((with_reducible refine gate_callee (f := 12) rfl ?_); refine goesL_ (some 31) rfl rfl Try.func12 (by kernel_rfl) rfl #[.slice Ao53 t529.length co53, .slice Ao54 t533.length co54] rfl (by (try simp only [List.map_toArray, List.map_cons, List.map_nil]); first | done | rfl | (simp only [List.length_drop, List.length_take]; rfl)) ?_; (with_reducible refine (windbreakref01_Same.calls k _ _ t529 _ _ t533 false _ ?side1 ?side2 ?side3 ?side4 A8.out).mono ?_); (case side1 => repeat (first | exact (Kd.R_reads' HO532.out).2.2 | (with_reducible refine Kd.C_alloc ?_ _) | (with_reducible refine Kd.C_drewN ?_ _) | (with_reducible refine Kd.C_drew ?_))); (case side2 => exact (Kd.R_reads' HO532.out).2.1); (case side3 => repeat (first | exact (Kd.R_reads' HO536.out).2.2 | (with_reducible refine Kd.C_alloc ?_ _) | (with_reducible refine Kd.C_drewN ?_ _) | (with_reducible refine Kd.C_drew ?_))); (case side4 => exact (Kd.R_reads' HO536.out).2.1); rintro e w' ⟨rfl, ⟨nd, rfl⟩⟩; refine ⟨_, rfl, ?_⟩) | ((with_reducible refine gate_dst (N := 33) rfl ?_); (try (refine gate_guard (by rfl) ?_; dsimp only)); refine Kd.R_lit (Kd.int .u8) _ 5 ?hg (N := 33) ?hd (xs := ([1] : List Int)) (inner := [.int .u8 1]) (ok := fun _ => True) (okp := fun _ => True) ?hr ?hp (fun _ hk => hk) trivial (Below.refl _ _) (Nat.le_refl _) (by simp) ?_; (case hd => rfl); (case hg => rfl); (case hr => first | (go_simp; done) | (go_simp; rfl)); (case hp => exact (Reps.one (show Kd.M (Kd.int .u8) _ _ _ 1 [.int .u8 1] from rfl) (Reps.none _ _))); intro v539 w55 ho56 hb hg_ hnew_; clear hg_ hnew_; (first | rw [← Ny538.out] at ho56 | (simp only [Int.reduceToNat] at ho56; rw [← Ny538.out] at ho56)); have n0_ := Aside0.mk (Kd.V_elder' (by (with_reducible repeat (first | apply Kd.V_alloc | apply Kd.V_drewN | apply Kd.V_drew)); exact HO0.out) (Kd.R_base ho56) hb); have n1_ := Aside0.mk (Kd.N_elder' (by (with_reducible repeat (first | apply Kd.N_alloc | apply Kd.N_drewN | apply Kd.N_drew)); exact HO524.out) (Kd.R_base ho56) hb); have n2_ := Aside0.mk (Kd.R_elder' (by (with_reducible repeat (first | apply Kd.R_alloc | apply Kd.R_drewN | apply Kd.R_drew)); exact HO528.out) (Kd.R_base ho56) hb); have n3_ := Aside0.mk (Kd.R_below (by (with_reducible repeat (first | apply Kd.R_alloc | apply Kd.R_drewN | apply Kd.R_drew)); exact HO532.out) hb); have n4_ := Aside0.mk (Kd.R_below (by (with_reducible repeat (first | apply Kd.R_alloc | apply Kd.R_drewN | apply Kd.R_drew)); exact HO536.out) hb); have n5_ := Aside0.mk (Kd.R_lower (Kd.R_new' (Kd.R_newM (M := fun k_ => (w.heap.size ≤ k_)) ho56 (below_size (by repeat (first | (with_reducible first | exact HB.out | apply below_alloc | apply pw_below_drewN | apply below_drew1) | exact HB.out))) (fun k_ h_ => h_)) (Kd.R_lt (by (with_reducible repeat (first | apply Kd.R_alloc | apply Kd.R_drewN | apply Kd.R_drew)); exact HO528.out))) (below_size (by repeat (first | (with_reducible first | exact HB.out | apply below_alloc | apply pw_below_drewN | apply below_drew1) | exact HB.out)))); have n6_ := Aside0.mk (below_step (by repeat (first | (with_reducible first | exact HB.out | apply below_alloc | apply pw_below_drewN | apply below_drew1) | exact HB.out)) hb); clear HO0; clear HO524; clear HO528; clear HO532; clear HO536; clear HB; have HO0 := n0_; have HO524 := n1_; have HO528 := n2_; have HO532 := n3_; have HO536 := n4_; have HO540 := n5_; have HB := n6_; clear n0_ n1_ n2_ n3_ n4_ n5_ n6_; clear hb ho56; obtain ⟨Ao57, co57, eo57⟩ := Kd.R_slice HO540.out; subst eo57) | ((with_reducible refine gate_callee (f := 27) rfl ?_); refine goesL_ (some 34) rfl rfl Try.func27 (by kernel_rfl) rfl #[.slice Ao57 y538.length co57] rfl (by (try simp only [List.map_toArray, List.map_cons, List.map_nil]); first | done | rfl | (simp only [List.length_drop, List.length_take]; rfl)) ?_; (with_reducible refine (nat_Read.calls k _ _ y538 t541 t542 _ ?side1 ?side2 A9.out).mono ?_); (case side1 => repeat (first | exact (Kd.R_reads' HO540.out).2.2 | (with_reducible refine Kd.C_alloc ?_ _) | (with_reducible refine Kd.C_drewN ?_ _) | (with_reducible refine Kd.C_drew ?_))); (case side2 => exact (Kd.R_reads' HO540.out).2.1); rintro e w58 ⟨v543, rfl, ho0, hb⟩; refine ⟨_, rfl, ?_⟩; have n0_ := Aside0.mk (Kd.V_elder' (by (with_reducible repeat (first | apply Kd.V_alloc | apply Kd.V_drewN | apply Kd.V_drew)); exact HO0.out) (Kd.R_base ho0) hb); have n1_ := Aside0.mk (Kd.N_elder' (by (with_reducible repeat (first | apply Kd.N_alloc | apply Kd.N_drewN | apply Kd.N_drew)); exact HO524.out) (Kd.R_base ho0) hb); have n2_ := Aside0.mk (Kd.R_below (by (with_reducible repeat (first | apply Kd.R_alloc | apply Kd.R_drewN | apply Kd.R_drew)); exact HO528.out) hb); have n3_ := Aside0.mk (Kd.R_elder' (by (with_reducible repeat (first | apply Kd.R_alloc | apply Kd.R_drewN | apply Kd.R_drew)); exact HO532.out) (Kd.R_base ho0) hb); have n4_ := Aside0.mk (Kd.R_elder' (by (with_reducible repeat (first | apply Kd.R_alloc | apply Kd.R_drewN | apply Kd.R_drew)); exact HO536.out) (Kd.R_base ho0) hb); have n5_ := Aside0.mk (Kd.R_below (by (with_reducible repeat (first | apply Kd.R_alloc | apply Kd.R_drewN | apply Kd.R_drew)); exact HO540.out) hb); have n6_ := Aside0.mk (Kd.R_lower (Kd.R_new' (Kd.R_new' (Kd.R_newM (M := fun k_ => (w.heap.size ≤ k_)) ho0 (below_size (by repeat (first | (with_reducible first | exact HB.out | apply below_alloc | apply pw_below_drewN | apply below_drew1) | exact HB.out))) (fun k_ h_ => h_)) (Kd.R_lt (by (with_reducible repeat (first | apply Kd.R_alloc | apply Kd.R_drewN | apply Kd.R_drew)); exact HO532.out))) (Kd.R_lt (by (with_reducible repeat (first | apply Kd.R_alloc | apply Kd.R_drewN | apply Kd.R_drew)); exact HO536.out))) (below_size (by repeat (first | (with_reducible first | exact HB.out | apply below_alloc | apply pw_below_drewN | apply below_drew1) | exact HB.out)))); have n7_ := Aside0.mk (below_step (by repeat (first | (with_reducible first | exact HB.out | apply below_alloc | apply pw_below_drewN | apply below_drew1) | exact HB.out)) hb); clear HO0; clear HO524; clear HO528; clear HO532; clear HO536; clear HO540; clear HB; have HO0 := n0_; have HO524 := n1_; have HO528 := n2_; have HO532 := n3_; have HO536 := n4_; have HO540 := n5_; have HO544 := n6_; have HB := n7_; clear n0_ n1_ n2_ n3_ n4_ n5_ n6_ n7_; (try clear hb); (try clear hb2); (try clear hk); (try clear hi); (try clear ho0)))
        have n0_ := Aside0.mk (Kd.V_drew HO0.out)
        have n1_ := Aside0.mk (Kd.N_drew HO524.out)
        have n2_ := Aside0.mk (Kd.R_drew HO528.out)
        have n3_ := Aside0.mk (Kd.R_drew HO532.out)
        have n4_ := Aside0.mk (Kd.R_drew HO536.out)
        have n5_ := Aside0.mk (Kd.R_drew HO540.out)
        have n6_ := Aside0.mk (Kd.R_drew HO544.out)
        have n7_ := Aside0.mk (below_drew1 HB.out)
        clear HO0
        clear HO524
        clear HO528
        clear HO532
        clear HO536
        clear HO540
        clear HO544
        clear HB
        have HO0 := n0_
        have HO524 := n1_
        have HO528 := n2_
        have HO532 := n3_
        have HO536 := n4_
        have HO540 := n5_
        have HO544 := n6_
        have HB := n7_
        clear n0_ n1_ n2_ n3_ n4_ n5_ n6_ n7_
        refine start_ (n := 20) (S := fun w' => (convert 30 9 (v527)).run Try.prog w' = .ok (.string (strOfNums t526)) w') (ds := []) #[false, false, false, false, false, false, false, false, false, false, false, false, false, false, false, false, false, false, false, false] (by kernel_rfl) rfl rfl ((own_string (P := Try.prog) Try.underlying30 Try.underlying5 Try.underlying9 (Kd.own_of_R HO528.out))) (fun hHeld => ?_); refine with_tabW windbreaklaw01_NatBytes.tab8 windbreaklaw01_NatBytes.bits8 (fun HT_ HW_ => ?_)
        generalize w58.drew = w59 at HO0 HO524 HO528 HO532 HO536 HO540 HO544 HB hHeld ⊢
        refine pure_ (i := 0) (N := some 37) (v := ?_) (a' := ?_) #[true, false, false, false, false, false, false, false, false, false, false, false, false, false, false, false, false, false, false, false] rfl rfl (any_of HT_.out (by kernel_rfl)) (fun _ _ _ h => h) (Or.inl ⟨by rfl, ?_⟩) ?_ ?_
        rotate_left
        · intro w'
          go_simp
          with_reducible rfl
        rotate_left
        · simp only [Act.put, List.setIfInBounds_toArray, List.set_cons_zero, List.set_cons_succ, i64_w, i32_w]
          rfl
        refine pure_ (i := 2) (N := some 39) (v := ?_) (a' := ?_) #[true, false, true, false, false, false, false, false, false, false, false, false, false, false, false, false, false, false, false, false] rfl rfl (any_of HT_.out (by kernel_rfl)) (fun _ _ _ h => h) (Or.inl ⟨by rfl, ?_⟩) ?_ ?_
        rotate_left
        · intro w'
          go_simp
          with_reducible rfl
        rotate_left
        · simp only [Act.put, List.setIfInBounds_toArray, List.set_cons_zero, List.set_cons_succ, i64_w, i32_w]
          rfl
        refine take_ (i := 1) (N := some 38) (v := ?_) (a' := ?_) #[true, true, true, false, false, false, false, false, false, false, false, false, false, false, false, false, false, false, false, false] rfl rfl (take_ofW HT_.out HW_.out (by kernel_rfl)) (fun _ _ _ h => h) (Or.inl ⟨by rfl, ?_⟩) hHeld ?_ ?_
        rotate_left
        · intro w' s0
          go_simp
          with_reducible rfl
        rotate_left
        · simp only [Act.put, List.setIfInBounds_toArray, List.set_cons_zero, List.set_cons_succ, i64_w, i32_w]
          rfl
        refine one_ (i := 3) (N := some 40) #[true, true, true, true, false, false, false, false, false, false, false, false, false, false, false, false, false, false, false, false] rfl rfl (one_of HT_.out (by kernel_rfl)) (by decide) (fun K hK => ?_)
        refine goes_ Try.func29 (by kernel_rfl) rfl #[.slice A0 l0.length c0] (by rfl) rfl rfl (by (try simp only [List.map_toArray, List.map_cons, List.map_nil]); first | done | rfl | (simp only [List.length_drop, List.length_take]; rfl)) ?_
        with_reducible refine (windbreakref01_Bytes.calls k _ _ l0 t545 _ ?side1 ?side2 A10.out).mono ?_
        (case side1 => repeat (first | exact (Kd.V_reads' HO0.out).2.2 | (with_reducible refine Kd.C_alloc ?_ _) | (with_reducible refine Kd.C_drewN ?_ _) | (with_reducible refine Kd.C_drew ?_)))
        (case side2 => exact (Kd.V_reads' HO0.out).2.1)
        rintro e w60 ⟨v546, rfl, ho0, hb⟩
        refine ⟨_, rfl, ?_⟩
        have n0_ := Aside0.mk (Kd.V_elder' (by (with_reducible repeat (first | apply Kd.V_alloc | apply Kd.V_drewN | apply Kd.V_drew)); exact HO0.out) (Kd.R_base ho0) hb)
        have n1_ := Aside0.mk (Kd.N_elder' (by (with_reducible repeat (first | apply Kd.N_alloc | apply Kd.N_drewN | apply Kd.N_drew)); exact HO524.out) (Kd.R_base ho0) hb)
        have n2_ := Aside0.mk (Kd.R_elder' (by (with_reducible repeat (first | apply Kd.R_alloc | apply Kd.R_drewN | apply Kd.R_drew)); exact HO528.out) (Kd.R_base ho0) hb)
        have n3_ := Aside0.mk (Kd.R_below (by (with_reducible repeat (first | apply Kd.R_alloc | apply Kd.R_drewN | apply Kd.R_drew)); exact HO532.out) hb)
        have n4_ := Aside0.mk (Kd.R_below (by (with_reducible repeat (first | apply Kd.R_alloc | apply Kd.R_drewN | apply Kd.R_drew)); exact HO536.out) hb)
        have n5_ := Aside0.mk (Kd.R_elder' (by (with_reducible repeat (first | apply Kd.R_alloc | apply Kd.R_drewN | apply Kd.R_drew)); exact HO540.out) (Kd.R_base ho0) hb)
        have n6_ := Aside0.mk (Kd.R_below (by (with_reducible repeat (first | apply Kd.R_alloc | apply Kd.R_drewN | apply Kd.R_drew)); exact HO544.out) hb)
        have n7_ := Aside0.mk (Kd.R_lower (Kd.R_new' (Kd.R_new' (Kd.R_newM (M := fun k_ => (w.heap.size ≤ k_)) ho0 (below_size (by repeat (first | (with_reducible first | exact HB.out | apply below_alloc | apply pw_below_drewN | apply below_drew1) | exact HB.out))) (fun k_ h_ => h_)) (Kd.R_lt (by (with_reducible repeat (first | apply Kd.R_alloc | apply Kd.R_drewN | apply Kd.R_drew)); exact HO528.out))) (Kd.R_lt (by (with_reducible repeat (first | apply Kd.R_alloc | apply Kd.R_drewN | apply Kd.R_drew)); exact HO540.out))) (below_size (by repeat (first | (with_reducible first | exact HB.out | apply below_alloc | apply pw_below_drewN | apply below_drew1) | exact HB.out))))
        have n8_ := Aside0.mk (below_step (by repeat (first | (with_reducible first | exact HB.out | apply below_alloc | apply pw_below_drewN | apply below_drew1) | exact HB.out)) hb)
        clear HO0
        clear HO524
        clear HO528
        clear HO532
        clear HO536
        clear HO540
        clear HO544
        clear HB
        have HO0 := n0_
        have HO524 := n1_
        have HO528 := n2_
        have HO532 := n3_
        have HO536 := n4_
        have HO540 := n5_
        have HO544 := n6_
        have HO547 := n7_
        have HB := n8_
        clear n0_ n1_ n2_ n3_ n4_ n5_ n6_ n7_ n8_
        (try clear hb)
        (try clear hb2)
        (try clear hk)
        (try clear hi)
        (try clear ho0)
        refine hK.out _ _ ((own_string (P := Try.prog) Try.underlying30 Try.underlying5 Try.underlying9 (Kd.own_of_R HO528.out))) (fun hHeld => ?_)
        clear hK K
        refine norm_ (a' := ?_) ?_ ?_
        rotate_left
        · show Act.put _ (some 40) _ = _
          simp only [Act.put, List.setIfInBounds_toArray, List.set_cons_zero, List.set_cons_succ, i64_w, i32_w]
          rfl
        refine one_ (i := 4) (N := some 41) #[true, true, true, true, true, false, false, false, false, false, false, false, false, false, false, false, false, false, false, false] rfl rfl (one_of HT_.out (by kernel_rfl)) (by decide) (fun K hK => ?_)
        have hcv61 := own_string (P := Try.prog) Try.underlying30 Try.underlying5 Try.underlying9 (Kd.own_of_R HO547.out)
        refine value_ (w1 := ?_) (v := ?_) (by rfl) rfl ?_ ?_
        rotate_left 2
        · go_simp
          constructor
          · rfl
          · rfl
        clear hcv61
        refine hK.out _ _ ((own_string (P := Try.prog) Try.underlying30 Try.underlying5 Try.underlying9 (Kd.own_of_R HO528.out))) (fun hHeld => ?_)
        clear hK K
        refine norm_ (a' := ?_) ?_ ?_
        rotate_left
        · show Act.put _ (some 41) _ = _
          simp only [Act.put, List.setIfInBounds_toArray, List.set_cons_zero, List.set_cons_succ, i64_w, i32_w]
          rfl
        refine pure_ (i := 5) (N := some 42) (v := ?_) (a' := ?_) #[true, true, true, true, true, true, false, false, false, false, false, false, false, false, false, false, false, false, false, false] rfl rfl (any_of HT_.out (by kernel_rfl)) (fun _ _ _ h => h) (Or.inl ⟨by rfl, ?_⟩) ?_ ?_
        rotate_left
        · intro w'
          go_simp
          with_reducible rfl
        rotate_left
        · simp only [Act.put, List.setIfInBounds_toArray, List.set_cons_zero, List.set_cons_succ, i64_w, i32_w]
          rfl
        refine pure_ (i := 6) (N := some 43) (v := ?_) (a' := ?_) #[true, true, true, true, true, true, true, false, false, false, false, false, false, false, false, false, false, false, false, false] rfl rfl (any_of HT_.out (by kernel_rfl)) (fun _ _ _ h => h) (Or.inl ⟨by rfl, ?_⟩) ?_ ?_
        rotate_left
        · intro w'
          go_simp
          with_reducible rfl
        rotate_left
        · simp only [Act.put, List.setIfInBounds_toArray, List.set_cons_zero, List.set_cons_succ, i64_w, i32_w]
          rfl
        refine pure_ (i := 7) (N := some 44) (v := ?_) (a' := ?_) #[true, true, true, true, true, true, true, true, false, false, false, false, false, false, false, false, false, false, false, false] rfl rfl (any_of HT_.out (by kernel_rfl)) (fun _ _ _ h => h) (Or.inl ⟨by rfl, ?_⟩) ?_ ?_
        rotate_left
        · intro w'
          go_simp
          with_reducible rfl
        rotate_left
        · simp only [Act.put, List.setIfInBounds_toArray, List.set_cons_zero, List.set_cons_succ, i64_w, i32_w]
          rfl
        refine pure_ (i := 8) (N := some 45) (v := ?_) (a' := ?_) #[true, true, true, true, true, true, true, true, true, false, false, false, false, false, false, false, false, false, false, false] rfl rfl (any_of HT_.out (by kernel_rfl)) (fun _ _ _ h => h) (Or.inl ⟨by rfl, ?_⟩) ?_ ?_
        rotate_left
        · intro w'
          go_simp
          with_reducible rfl
        rotate_left
        · simp only [Act.put, List.setIfInBounds_toArray, List.set_cons_zero, List.set_cons_succ, i64_w, i32_w]
          rfl
        refine pure_ (i := 9) (N := some 46) (v := ?_) (a' := ?_) #[true, true, true, true, true, true, true, true, true, true, false, false, false, false, false, false, false, false, false, false] rfl rfl (any_of HT_.out (by kernel_rfl)) (fun _ _ _ h => h) (Or.inl ⟨by rfl, ?_⟩) ?_ ?_
        rotate_left
        · intro w'
          go_simp
          with_reducible rfl
        rotate_left
        · simp only [Act.put, List.setIfInBounds_toArray, List.set_cons_zero, List.set_cons_succ, i64_w, i32_w]
          rfl
        refine pure_ (i := 10) (N := some 47) (v := undef) (a' := ?_) #[true, true, true, true, true, true, true, true, true, true, true, false, false, false, false, false, false, false, false, false] rfl rfl (any_of HT_.out (by kernel_rfl)) (fun _ _ _ h => h) (Or.inr ⟨by rfl, rfl⟩) ?_ ?_
        rotate_left
        · simp only [Act.put, List.setIfInBounds_toArray, List.set_cons_zero, List.set_cons_succ, i64_w, i32_w]
          rfl
        refine pure_ (i := 11) (N := some 48) (v := undef) (a' := ?_) #[true, true, true, true, true, true, true, true, true, true, true, true, false, false, false, false, false, false, false, false] rfl rfl (any_of HT_.out (by kernel_rfl)) (fun _ _ _ h => h) (Or.inr ⟨by rfl, rfl⟩) ?_ ?_
        rotate_left
        · simp only [Act.put, List.setIfInBounds_toArray, List.set_cons_zero, List.set_cons_succ, i64_w, i32_w]
          rfl
        refine pure_ (i := 12) (N := some 49) (v := undef) (a' := ?_) #[true, true, true, true, true, true, true, true, true, true, true, true, true, false, false, false, false, false, false, false] rfl rfl (any_of HT_.out (by kernel_rfl)) (fun _ _ _ h => h) (Or.inr ⟨by rfl, rfl⟩) ?_ ?_
        rotate_left
        · simp only [Act.put, List.setIfInBounds_toArray, List.set_cons_zero, List.set_cons_succ, i64_w, i32_w]
          rfl
        refine pure_ (i := 13) (N := some 50) (v := ?_) (a' := ?_) #[true, true, true, true, true, true, true, true, true, true, true, true, true, true, false, false, false, false, false, false] rfl rfl (any_of HT_.out (by kernel_rfl)) (fun _ _ _ h => h) (Or.inl ⟨by rfl, ?_⟩) ?_ ?_
        rotate_left
        · intro w'
          go_simp
          with_reducible rfl
        rotate_left
        · simp only [Act.put, List.setIfInBounds_toArray, List.set_cons_zero, List.set_cons_succ, i64_w, i32_w]
          rfl
        refine pure_ (i := 14) (N := some 51) (v := ?_) (a' := ?_) #[true, true, true, true, true, true, true, true, true, true, true, true, true, true, true, false, false, false, false, false] rfl rfl (any_of HT_.out (by kernel_rfl)) (fun _ _ _ h => h) (Or.inl ⟨by rfl, ?_⟩) ?_ ?_
        rotate_left
        · intro w'
          go_simp
          with_reducible rfl
        rotate_left
        · simp only [Act.put, List.setIfInBounds_toArray, List.set_cons_zero, List.set_cons_succ, i64_w, i32_w]
          rfl
        refine pure_ (i := 15) (N := some 52) (v := undef) (a' := ?_) #[true, true, true, true, true, true, true, true, true, true, true, true, true, true, true, true, false, false, false, false] rfl rfl (any_of HT_.out (by kernel_rfl)) (fun _ _ _ h => h) (Or.inr ⟨by rfl, rfl⟩) ?_ ?_
        rotate_left
        · simp only [Act.put, List.setIfInBounds_toArray, List.set_cons_zero, List.set_cons_succ, i64_w, i32_w]
          rfl
        refine pure_ (i := 16) (N := some 53) (v := undef) (a' := ?_) #[true, true, true, true, true, true, true, true, true, true, true, true, true, true, true, true, true, false, false, false] rfl rfl (any_of HT_.out (by kernel_rfl)) (fun _ _ _ h => h) (Or.inr ⟨by rfl, rfl⟩) ?_ ?_
        rotate_left
        · simp only [Act.put, List.setIfInBounds_toArray, List.set_cons_zero, List.set_cons_succ, i64_w, i32_w]
          rfl
        refine pure_ (i := 17) (N := some 54) (v := undef) (a' := ?_) #[true, true, true, true, true, true, true, true, true, true, true, true, true, true, true, true, true, true, false, false] rfl rfl (any_of HT_.out (by kernel_rfl)) (fun _ _ _ h => h) (Or.inr ⟨by rfl, rfl⟩) ?_ ?_
        rotate_left
        · simp only [Act.put, List.setIfInBounds_toArray, List.set_cons_zero, List.set_cons_succ, i64_w, i32_w]
          rfl
        refine pure_ (i := 18) (N := some 55) (v := ?_) (a' := ?_) #[true, true, true, true, true, true, true, true, true, true, true, true, true, true, true, true, true, true, true, false] rfl rfl (any_of HT_.out (by kernel_rfl)) (fun _ _ _ h => h) (Or.inl ⟨by rfl, ?_⟩) ?_ ?_
        rotate_left
        · intro w'
          go_simp
          with_reducible rfl
        rotate_left
        · simp only [Act.put, List.setIfInBounds_toArray, List.set_cons_zero, List.set_cons_succ, i64_w, i32_w]
          rfl
        refine pure_ (i := 19) (N := some 4) (v := ?_) (a' := ?_) #[true, true, true, true, true, true, true, true, true, true, true, true, true, true, true, true, true, true, true, true] rfl rfl (any_of HT_.out (by kernel_rfl)) (fun _ _ _ h => h) (Or.inl ⟨by rfl, ?_⟩) ?_ ?_
        rotate_left
        · intro w'
          go_simp
          with_reducible rfl
        rotate_left
        · simp only [Act.put, List.setIfInBounds_toArray, List.set_cons_zero, List.set_cons_succ, i64_w, i32_w]
          rfl
        refine done_ (done_of HT_.out (by kernel_rfl)) ?_
        try go_wp2
        go_ret
        exact ⟨by first | rfl | (simp [errW_none, errW_some] <;> rfl) | (simp [*, errW_none, errW_some] <;> rfl), by repeat (first | (with_reducible first | exact HB.out | apply below_alloc | apply pw_below_drewN | apply below_drew1) | exact HB.out)⟩
    · rw [if_neg c11] at H
      have c11b0 : ((strOfNums t526).toList == (strOfNums t545).toList) = false := beq_eq_false_iff_ne.mpr c11
      have c11b1 : ((strOfNums t526).toList != (strOfNums t545).toList) = true := bne_iff_ne.mpr c11
      obtain rfl := Option.some.inj H
      go_enter Try.func6, Try.ntmps6
      try go_wp2_with (first | ((with_reducible refine gate_dst (N := 14) rfl ?_); (try (refine gate_guard (by rfl) ?_; dsimp only)); refine Kd.N_lit (Kd.slice 29 (Kd.int .u64)) _ 23 ?hg (N' := 14) ?hd (xs := ([l0] : List (List Int))) (inner := [.slice A0 l0.length c0]) (ok := (fun k_ => (P0_ k_ ∨ w.heap.size ≤ k_))) (okp := (fun k_ => (P0_ k_ ∨ w.heap.size ≤ k_))) ?hr ?hp (fun _ hk => hk) ((show ∀ k_, w.heap.size ≤ k_ → (fun k_ => (P0_ k_ ∨ w.heap.size ≤ k_)) k_ from fun k_ hk => (.inr (Nat.le_trans (below_size (by repeat (first | (with_reducible first | exact HB.out | apply below_alloc | apply pw_below_drewN | apply below_drew1) | exact HB.out))) hk))) _ (Nat.le_refl _)) (Below.refl _ _) (Nat.le_refl _) (by simp) ?_; (case hd => rfl); (case hg => rfl); (case hr => first | (go_simp; done) | (go_simp; rfl)); (case hp => exact (Reps.one (show Kd.FK (Kd.slice 29 (Kd.int .u64)) _ _ l0 [.slice A0 l0.length c0] from (Kd.FK_slice_mk (Kd.V_reads' (Kd.V_mono (ok' := (fun k_ => (P0_ k_ ∨ w.heap.size ≤ k_))) (HO0.out) (fun k_ hk => hk))).2.1 (Kd.V_F (Kd.V_mono (ok' := (fun k_ => (P0_ k_ ∨ w.heap.size ≤ k_))) (HO0.out) (fun k_ hk => hk))))) (Reps.none _ _))); intro v523 w63 ho64 hb hg_ hnew_; clear hg_ hnew_; (first | rw [← Ny522.out] at ho64 | (simp only [Int.reduceToNat] at ho64; rw [← Ny522.out] at ho64)); have n0_ := Aside0.mk (Kd.V_elder' (by (with_reducible repeat (first | apply Kd.V_alloc | apply Kd.V_drewN | apply Kd.V_drew)); exact HO0.out) (Kd.N_base ho64) hb); have n1_ := Aside0.mk (Kd.N_lower ho64 (below_size (by repeat (first | (with_reducible first | exact HB.out | apply below_alloc | apply pw_below_drewN | apply below_drew1) | exact HB.out)))); have n2_ := Aside0.mk (below_step (by repeat (first | (with_reducible first | exact HB.out | apply below_alloc | apply pw_below_drewN | apply below_drew1) | exact HB.out)) hb); clear HO0; clear HB; have HO0 := n0_; have HO524 := n1_; have HB := n2_; clear n0_ n1_ n2_; clear hb ho64; obtain ⟨Ao65, co65, eo65⟩ := Kd.N_slice HO524.out; subst eo65) | ((with_reducible refine gate_callee (f := 9) rfl ?_); refine goesL_ (some 15) rfl rfl Try.func9 (by kernel_rfl) rfl #[.slice Ao65 y522.length co65] rfl (by (try simp only [List.map_toArray, List.map_cons, List.map_nil]); first | done | rfl | (simp only [List.length_drop, List.length_take]; rfl)) ?_; (with_reducible refine (windbreaklaw01_few.calls k _ _ y522 true _ ?side1 ?side2 A3.out).mono ?_); (case side1 => repeat (first | exact (Kd.N_reads' HO524.out).2.2 | (with_reducible refine Kd.C_alloc ?_ _) | (with_reducible refine Kd.C_drewN ?_ _) | (with_reducible refine Kd.C_drew ?_))); (case side2 => exact (Kd.N_reads' HO524.out).2.1); rintro e w' ⟨rfl, ⟨nd, rfl⟩⟩; refine ⟨_, rfl, ?_⟩) | ((with_reducible refine gate_callee (f := 26) rfl ?_); refine goesL_ (some 18) rfl rfl Try.func26 (by kernel_rfl) rfl #[.slice A0 l0.length c0] rfl (by (try simp only [List.map_toArray, List.map_cons, List.map_nil]); first | done | rfl | (simp only [List.length_drop, List.length_take]; rfl)) ?_; (with_reducible refine (nat_Bytes.calls k _ _ l0 t526 _ ?side1 ?side2 A5.out).mono ?_); (case side1 => repeat (first | exact (Kd.V_reads' HO0.out).2.2 | (with_reducible refine Kd.C_alloc ?_ _) | (with_reducible refine Kd.C_drewN ?_ _) | (with_reducible refine Kd.C_drew ?_))); (case side2 => exact (Kd.V_reads' HO0.out).2.1); rintro e w66 ⟨v527, rfl, ho0, hb⟩; refine ⟨_, rfl, ?_⟩; have n0_ := Aside0.mk (Kd.V_elder' (by (with_reducible repeat (first | apply Kd.V_alloc | apply Kd.V_drewN | apply Kd.V_drew)); exact HO0.out) (Kd.R_base ho0) hb); have n1_ := Aside0.mk (Kd.N_elder' (by (with_reducible repeat (first | apply Kd.N_alloc | apply Kd.N_drewN | apply Kd.N_drew)); exact HO524.out) (Kd.R_base ho0) hb); have n2_ := Aside0.mk (Kd.R_lower (Kd.R_newM (M := fun k_ => (w.heap.size ≤ k_)) ho0 (below_size (by repeat (first | (with_reducible first | exact HB.out | apply below_alloc | apply pw_below_drewN | apply below_drew1) | exact HB.out))) (fun k_ h_ => h_)) (below_size (by repeat (first | (with_reducible first | exact HB.out | apply below_alloc | apply pw_below_drewN | apply below_drew1) | exact HB.out)))); have n3_ := Aside0.mk (below_step (by repeat (first | (with_reducible first | exact HB.out | apply below_alloc | apply pw_below_drewN | apply below_drew1) | exact HB.out)) hb); clear HO0; clear HO524; clear HB; have HO0 := n0_; have HO524 := n1_; have HO528 := n2_; have HB := n3_; clear n0_ n1_ n2_ n3_; (try clear hb); (try clear hb2); (try clear hk); (try clear hi); (try clear ho0)) | ((with_reducible refine gate_callee (f := 27) rfl ?_); refine goesL_ (some 21) rfl rfl Try.func27 (by kernel_rfl) rfl #[.slice A1 l1.length c1] rfl (by (try simp only [List.map_toArray, List.map_cons, List.map_nil]); first | done | rfl | (simp only [List.length_drop, List.length_take]; rfl)) ?_; (with_reducible refine (nat_Read.calls k _ _ l1 t529 t530 _ ?side1 ?side2 A6.out).mono ?_); (case side1 => repeat (first | exact (Kd.C_below HR1.out HB.out) | (with_reducible refine Kd.C_alloc ?_ _) | (with_reducible refine Kd.C_drewN ?_ _) | (with_reducible refine Kd.C_drew ?_))); (case side2 => exact HC1.out); rintro e w67 ⟨v531, rfl, ho0, hb⟩; refine ⟨_, rfl, ?_⟩; have n0_ := Aside0.mk (Kd.V_elder' (by (with_reducible repeat (first | apply Kd.V_alloc | apply Kd.V_drewN | apply Kd.V_drew)); exact HO0.out) (Kd.R_base ho0) hb); have n1_ := Aside0.mk (Kd.N_elder' (by (with_reducible repeat (first | apply Kd.N_alloc | apply Kd.N_drewN | apply Kd.N_drew)); exact HO524.out) (Kd.R_base ho0) hb); have n2_ := Aside0.mk (Kd.R_below (by (with_reducible repeat (first | apply Kd.R_alloc | apply Kd.R_drewN | apply Kd.R_drew)); exact HO528.out) hb); have n3_ := Aside0.mk (Kd.R_lower (Kd.R_newM (M := fun k_ => (w.heap.size ≤ k_)) ho0 (below_size (by repeat (first | (with_reducible first | exact HB.out | apply below_alloc | apply pw_below_drewN | apply below_drew1) | exact HB.out))) (fun k_ h_ => h_)) (below_size (by repeat (first | (with_reducible first | exact HB.out | apply below_alloc | apply pw_below_drewN | apply below_drew1) | exact HB.out)))); have n4_ := Aside0.mk (below_step (by repeat (first | (with_reducible first | exact HB.out | apply below_alloc | apply pw_below_drewN | apply below_drew1) | exact HB.out)) hb); clear HO0; clear HO524; clear HO528; clear HB; have HO0 := n0_; have HO524 := n1_; have HO528 := n2_; have HO532 := n3_; have HB := n4_; clear n0_ n1_ n2_ n3_ n4_; (try clear hb); (try clear hb2); (try clear hk); (try clear hi); (try clear ho0)) | ((with_reducible refine gate_callee (f := 28) rfl ?_); refine goesL_ (some 26) rfl rfl Try.func28 (by kernel_rfl) rfl #[.slice A1 l1.length c1] rfl (by (try simp only [List.map_toArray, List.map_cons, List.map_nil]); first | done | rfl | (simp only [List.length_drop, List.length_take]; rfl)) ?_; (with_reducible refine (windbreakref01_Read.calls k _ _ l1 t533 t534 _ ?side1 ?side2 A7.out).mono ?_); (case side1 => repeat (first | exact (Kd.C_below HR1.out HB.out) | (with_reducible refine Kd.C_alloc ?_ _) | (with_reducible refine Kd.C_drewN ?_ _) | (with_reducible refine Kd.C_drew ?_))); (case side2 => exact HC1.out); rintro e w68 ⟨v535, rfl, ho0, hb⟩; refine ⟨_, rfl, ?_⟩; have n0_ := Aside0.mk (Kd.V_elder' (by (with_reducible repeat (first | apply Kd.V_alloc | apply Kd.V_drewN | apply Kd.V_drew)); exact HO0.out) (Kd.R_base ho0) hb); have n1_ := Aside0.mk (Kd.N_elder' (by (with_reducible repeat (first | apply Kd.N_alloc | apply Kd.N_drewN | apply Kd.N_drew)); exact HO524.out) (Kd.R_base ho0) hb); have n2_ := Aside0.mk (Kd.R_below (by (with_reducible repeat (first | apply Kd.R_alloc | apply Kd.R_drewN | apply Kd.R_drew)); exact HO528.out) hb); have n3_ := Aside0.mk (Kd.R_elder' (by (with_reducible repeat (first | apply Kd.R_alloc | apply Kd.R_drewN | apply Kd.R_drew)); exact HO532.out) (Kd.R_base ho0) hb); have n4_ := Aside0.mk (Kd.R_lower (Kd.R_new' (Kd.R_newM (M := fun k_ => (w.heap.size ≤ k_)) ho0 (below_size (by repeat (first | (with_reducible first | exact HB.out | apply below_alloc | apply pw_below_drewN | apply below_drew1) | exact HB.out))) (fun k_ h_ => h_)) (Kd.R_lt (by (with_reducible repeat (first | apply Kd.R_alloc | apply Kd.R_drewN | apply Kd.R_drew)); exact HO532.out))) (below_size (by repeat (first | (with_reducible first | exact HB.out | apply below_alloc | apply pw_below_drewN | apply below_drew1) | exact HB.out)))); have n5_ := Aside0.mk (below_step (by repeat (first | (with_reducible first | exact HB.out | apply below_alloc | apply pw_below_drewN | apply below_drew1) | exact HB.out)) hb); clear HO0; clear HO524; clear HO528; clear HO532; clear HB; have HO0 := n0_; have HO524 := n1_; have HO528 := n2_; have HO532 := n3_; have HO536 := n4_; have HB := n5_; clear n0_ n1_ n2_ n3_ n4_ n5_; (try clear hb); (try clear hb2); (try clear hk); (try clear hi); (try clear ho0); obtain ⟨Ao69, co69, eo69⟩ := Kd.R_slice HO532.out; subst eo69; obtain ⟨Ao70, co70, eo70⟩ := Kd.R_slice HO536.out; subst eo70) | ((with_reducible refine gate_callee (f := 12) rfl ?_); refine goesL_ (some 31) rfl rfl Try.func12 (by kernel_rfl) rfl #[.slice Ao69 t529.length co69, .slice Ao70 t533.length co70] rfl (by (try simp only [List.map_toArray, List.map_cons, List.map_nil]); first | done | rfl | (simp only [List.length_drop, List.length_take]; rfl)) ?_; (with_reducible refine (windbreakref01_Same.calls k _ _ t529 _ _ t533 t537 _ ?side1 ?side2 ?side3 ?side4 A8.out).mono ?_); (case side1 => repeat (first | exact (Kd.R_reads' HO532.out).2.2 | (with_reducible refine Kd.C_alloc ?_ _) | (with_reducible refine Kd.C_drewN ?_ _) | (with_reducible refine Kd.C_drew ?_))); (case side2 => exact (Kd.R_reads' HO532.out).2.1); (case side3 => repeat (first | exact (Kd.R_reads' HO536.out).2.2 | (with_reducible refine Kd.C_alloc ?_ _) | (with_reducible refine Kd.C_drewN ?_ _) | (with_reducible refine Kd.C_drew ?_))); (case side4 => exact (Kd.R_reads' HO536.out).2.1); rintro e w' ⟨rfl, ⟨nd, rfl⟩⟩; refine ⟨_, rfl, ?_⟩) | ((with_reducible refine gate_dst (N := 33) rfl ?_); (try (refine gate_guard (by rfl) ?_; dsimp only)); refine Kd.R_lit (Kd.int .u8) _ 5 ?hg (N := 33) ?hd (xs := ([1] : List Int)) (inner := [.int .u8 1]) (ok := fun _ => True) (okp := fun _ => True) ?hr ?hp (fun _ hk => hk) trivial (Below.refl _ _) (Nat.le_refl _) (by simp) ?_; (case hd => rfl); (case hg => rfl); (case hr => first | (go_simp; done) | (go_simp; rfl)); (case hp => exact (Reps.one (show Kd.M (Kd.int .u8) _ _ _ 1 [.int .u8 1] from rfl) (Reps.none _ _))); intro v539 w71 ho72 hb hg_ hnew_; clear hg_ hnew_; (first | rw [← Ny538.out] at ho72 | (simp only [Int.reduceToNat] at ho72; rw [← Ny538.out] at ho72)); have n0_ := Aside0.mk (Kd.V_elder' (by (with_reducible repeat (first | apply Kd.V_alloc | apply Kd.V_drewN | apply Kd.V_drew)); exact HO0.out) (Kd.R_base ho72) hb); have n1_ := Aside0.mk (Kd.N_elder' (by (with_reducible repeat (first | apply Kd.N_alloc | apply Kd.N_drewN | apply Kd.N_drew)); exact HO524.out) (Kd.R_base ho72) hb); have n2_ := Aside0.mk (Kd.R_elder' (by (with_reducible repeat (first | apply Kd.R_alloc | apply Kd.R_drewN | apply Kd.R_drew)); exact HO528.out) (Kd.R_base ho72) hb); have n3_ := Aside0.mk (Kd.R_below (by (with_reducible repeat (first | apply Kd.R_alloc | apply Kd.R_drewN | apply Kd.R_drew)); exact HO532.out) hb); have n4_ := Aside0.mk (Kd.R_below (by (with_reducible repeat (first | apply Kd.R_alloc | apply Kd.R_drewN | apply Kd.R_drew)); exact HO536.out) hb); have n5_ := Aside0.mk (Kd.R_lower (Kd.R_new' (Kd.R_newM (M := fun k_ => (w.heap.size ≤ k_)) ho72 (below_size (by repeat (first | (with_reducible first | exact HB.out | apply below_alloc | apply pw_below_drewN | apply below_drew1) | exact HB.out))) (fun k_ h_ => h_)) (Kd.R_lt (by (with_reducible repeat (first | apply Kd.R_alloc | apply Kd.R_drewN | apply Kd.R_drew)); exact HO528.out))) (below_size (by repeat (first | (with_reducible first | exact HB.out | apply below_alloc | apply pw_below_drewN | apply below_drew1) | exact HB.out)))); have n6_ := Aside0.mk (below_step (by repeat (first | (with_reducible first | exact HB.out | apply below_alloc | apply pw_below_drewN | apply below_drew1) | exact HB.out)) hb); clear HO0; clear HO524; clear HO528; clear HO532; clear HO536; clear HB; have HO0 := n0_; have HO524 := n1_; have HO528 := n2_; have HO532 := n3_; have HO536 := n4_; have HO540 := n5_; have HB := n6_; clear n0_ n1_ n2_ n3_ n4_ n5_ n6_; clear hb ho72; obtain ⟨Ao73, co73, eo73⟩ := Kd.R_slice HO540.out; subst eo73) | ((with_reducible refine gate_callee (f := 27) rfl ?_); refine goesL_ (some 34) rfl rfl Try.func27 (by kernel_rfl) rfl #[.slice Ao73 y538.length co73] rfl (by (try simp only [List.map_toArray, List.map_cons, List.map_nil]); first | done | rfl | (simp only [List.length_drop, List.length_take]; rfl)) ?_; (with_reducible refine (nat_Read.calls k _ _ y538 t541 t542 _ ?side1 ?side2 A9.out).mono ?_); (case side1 => repeat (first | exact (Kd.R_reads' HO540.out).2.2 | (with_reducible refine Kd.C_alloc ?_ _) | (with_reducible refine Kd.C_drewN ?_ _) | (with_reducible refine Kd.C_drew ?_))); (case side2 => exact (Kd.R_reads' HO540.out).2.1); rintro e w74 ⟨v543, rfl, ho0, hb⟩; refine ⟨_, rfl, ?_⟩; have n0_ := Aside0.mk (Kd.V_elder' (by (with_reducible repeat (first | apply Kd.V_alloc | apply Kd.V_drewN | apply Kd.V_drew)); exact HO0.out) (Kd.R_base ho0) hb); have n1_ := Aside0.mk (Kd.N_elder' (by (with_reducible repeat (first | apply Kd.N_alloc | apply Kd.N_drewN | apply Kd.N_drew)); exact HO524.out) (Kd.R_base ho0) hb); have n2_ := Aside0.mk (Kd.R_below (by (with_reducible repeat (first | apply Kd.R_alloc | apply Kd.R_drewN | apply Kd.R_drew)); exact HO528.out) hb); have n3_ := Aside0.mk (Kd.R_elder' (by (with_reducible repeat (first | apply Kd.R_alloc | apply Kd.R_drewN | apply Kd.R_drew)); exact HO532.out) (Kd.R_base ho0) hb); have n4_ := Aside0.mk (Kd.R_elder' (by (with_reducible repeat (first | apply Kd.R_alloc | apply Kd.R_drewN | apply Kd.R_drew)); exact HO536.out) (Kd.R_base ho0) hb); have n5_ := Aside0.mk (Kd.R_below (by (with_reducible repeat (first | apply Kd.R_alloc | apply Kd.R_drewN | apply Kd.R_drew)); exact HO540.out) hb); have n6_ := Aside0.mk (Kd.R_lower (Kd.R_new' (Kd.R_new' (Kd.R_newM (M := fun k_ => (w.heap.size ≤ k_)) ho0 (below_size (by repeat (first | (with_reducible first | exact HB.out | apply below_alloc | apply pw_below_drewN | apply below_drew1) | exact HB.out))) (fun k_ h_ => h_)) (Kd.R_lt (by (with_reducible repeat (first | apply Kd.R_alloc | apply Kd.R_drewN | apply Kd.R_drew)); exact HO532.out))) (Kd.R_lt (by (with_reducible repeat (first | apply Kd.R_alloc | apply Kd.R_drewN | apply Kd.R_drew)); exact HO536.out))) (below_size (by repeat (first | (with_reducible first | exact HB.out | apply below_alloc | apply pw_below_drewN | apply below_drew1) | exact HB.out)))); have n7_ := Aside0.mk (below_step (by repeat (first | (with_reducible first | exact HB.out | apply below_alloc | apply pw_below_drewN | apply below_drew1) | exact HB.out)) hb); clear HO0; clear HO524; clear HO528; clear HO532; clear HO536; clear HO540; clear HB; have HO0 := n0_; have HO524 := n1_; have HO528 := n2_; have HO532 := n3_; have HO536 := n4_; have HO540 := n5_; have HO544 := n6_; have HB := n7_; clear n0_ n1_ n2_ n3_ n4_ n5_ n6_ n7_; (try clear hb); (try clear hb2); (try clear hk); (try clear hi); (try clear ho0)))
      have n0_ := Aside0.mk (Kd.V_drew HO0.out)
      have n1_ := Aside0.mk (Kd.N_drew HO524.out)
      have n2_ := Aside0.mk (Kd.R_drew HO528.out)
      have n3_ := Aside0.mk (Kd.R_drew HO532.out)
      have n4_ := Aside0.mk (Kd.R_drew HO536.out)
      have n5_ := Aside0.mk (Kd.R_drew HO540.out)
      have n6_ := Aside0.mk (Kd.R_drew HO544.out)
      have n7_ := Aside0.mk (below_drew1 HB.out)
      clear HO0
      clear HO524
      clear HO528
      clear HO532
      clear HO536
      clear HO540
      clear HO544
      clear HB
      have HO0 := n0_
      have HO524 := n1_
      have HO528 := n2_
      have HO532 := n3_
      have HO536 := n4_
      have HO540 := n5_
      have HO544 := n6_
      have HB := n7_
      clear n0_ n1_ n2_ n3_ n4_ n5_ n6_ n7_
      refine start_ (n := 20) (S := fun w' => (convert 30 9 (v527)).run Try.prog w' = .ok (.string (strOfNums t526)) w') (ds := []) #[false, false, false, false, false, false, false, false, false, false, false, false, false, false, false, false, false, false, false, false] (by kernel_rfl) rfl rfl ((own_string (P := Try.prog) Try.underlying30 Try.underlying5 Try.underlying9 (Kd.own_of_R HO528.out))) (fun hHeld => ?_); refine with_tabW windbreaklaw01_NatBytes.tab8 windbreaklaw01_NatBytes.bits8 (fun HT_ HW_ => ?_)
      generalize w74.drew = w75 at HO0 HO524 HO528 HO532 HO536 HO540 HO544 HB hHeld ⊢
      refine pure_ (i := 0) (N := some 37) (v := ?_) (a' := ?_) #[true, false, false, false, false, false, false, false, false, false, false, false, false, false, false, false, false, false, false, false] rfl rfl (any_of HT_.out (by kernel_rfl)) (fun _ _ _ h => h) (Or.inl ⟨by rfl, ?_⟩) ?_ ?_
      rotate_left
      · intro w'
        go_simp
        with_reducible rfl
      rotate_left
      · simp only [Act.put, List.setIfInBounds_toArray, List.set_cons_zero, List.set_cons_succ, i64_w, i32_w]
        rfl
      refine pure_ (i := 2) (N := some 39) (v := ?_) (a' := ?_) #[true, false, true, false, false, false, false, false, false, false, false, false, false, false, false, false, false, false, false, false] rfl rfl (any_of HT_.out (by kernel_rfl)) (fun _ _ _ h => h) (Or.inl ⟨by rfl, ?_⟩) ?_ ?_
      rotate_left
      · intro w'
        go_simp
        with_reducible rfl
      rotate_left
      · simp only [Act.put, List.setIfInBounds_toArray, List.set_cons_zero, List.set_cons_succ, i64_w, i32_w]
        rfl
      refine take_ (i := 1) (N := some 38) (v := ?_) (a' := ?_) #[true, true, true, false, false, false, false, false, false, false, false, false, false, false, false, false, false, false, false, false] rfl rfl (take_ofW HT_.out HW_.out (by kernel_rfl)) (fun _ _ _ h => h) (Or.inl ⟨by rfl, ?_⟩) hHeld ?_ ?_
      rotate_left
      · intro w' s0
        go_simp
        with_reducible rfl
      rotate_left
      · simp only [Act.put, List.setIfInBounds_toArray, List.set_cons_zero, List.set_cons_succ, i64_w, i32_w]
        rfl
      refine one_ (i := 3) (N := some 40) #[true, true, true, true, false, false, false, false, false, false, false, false, false, false, false, false, false, false, false, false] rfl rfl (one_of HT_.out (by kernel_rfl)) (by decide) (fun K hK => ?_)
      refine goes_ Try.func29 (by kernel_rfl) rfl #[.slice A0 l0.length c0] (by rfl) rfl rfl (by (try simp only [List.map_toArray, List.map_cons, List.map_nil]); first | done | rfl | (simp only [List.length_drop, List.length_take]; rfl)) ?_
      with_reducible refine (windbreakref01_Bytes.calls k _ _ l0 t545 _ ?side1 ?side2 A10.out).mono ?_
      (case side1 => repeat (first | exact (Kd.V_reads' HO0.out).2.2 | (with_reducible refine Kd.C_alloc ?_ _) | (with_reducible refine Kd.C_drewN ?_ _) | (with_reducible refine Kd.C_drew ?_)))
      (case side2 => exact (Kd.V_reads' HO0.out).2.1)
      rintro e w76 ⟨v546, rfl, ho0, hb⟩
      refine ⟨_, rfl, ?_⟩
      have n0_ := Aside0.mk (Kd.V_elder' (by (with_reducible repeat (first | apply Kd.V_alloc | apply Kd.V_drewN | apply Kd.V_drew)); exact HO0.out) (Kd.R_base ho0) hb)
      have n1_ := Aside0.mk (Kd.N_elder' (by (with_reducible repeat (first | apply Kd.N_alloc | apply Kd.N_drewN | apply Kd.N_drew)); exact HO524.out) (Kd.R_base ho0) hb)
      have n2_ := Aside0.mk (Kd.R_elder' (by (with_reducible repeat (first | apply Kd.R_alloc | apply Kd.R_drewN | apply Kd.R_drew)); exact HO528.out) (Kd.R_base ho0) hb)
      have n3_ := Aside0.mk (Kd.R_below (by (with_reducible repeat (first | apply Kd.R_alloc | apply Kd.R_drewN | apply Kd.R_drew)); exact HO532.out) hb)
      have n4_ := Aside0.mk (Kd.R_below (by (with_reducible repeat (first | apply Kd.R_alloc | apply Kd.R_drewN | apply Kd.R_drew)); exact HO536.out) hb)
      have n5_ := Aside0.mk (Kd.R_elder' (by (with_reducible repeat (first | apply Kd.R_alloc | apply Kd.R_drewN | apply Kd.R_drew)); exact HO540.out) (Kd.R_base ho0) hb)
      have n6_ := Aside0.mk (Kd.R_below (by (with_reducible repeat (first | apply Kd.R_alloc | apply Kd.R_drewN | apply Kd.R_drew)); exact HO544.out) hb)
      have n7_ := Aside0.mk (Kd.R_lower (Kd.R_new' (Kd.R_new' (Kd.R_newM (M := fun k_ => (w.heap.size ≤ k_)) ho0 (below_size (by repeat (first | (with_reducible first | exact HB.out | apply below_alloc | apply pw_below_drewN | apply below_drew1) | exact HB.out))) (fun k_ h_ => h_)) (Kd.R_lt (by (with_reducible repeat (first | apply Kd.R_alloc | apply Kd.R_drewN | apply Kd.R_drew)); exact HO528.out))) (Kd.R_lt (by (with_reducible repeat (first | apply Kd.R_alloc | apply Kd.R_drewN | apply Kd.R_drew)); exact HO540.out))) (below_size (by repeat (first | (with_reducible first | exact HB.out | apply below_alloc | apply pw_below_drewN | apply below_drew1) | exact HB.out))))
      have n8_ := Aside0.mk (below_step (by repeat (first | (with_reducible first | exact HB.out | apply below_alloc | apply pw_below_drewN | apply below_drew1) | exact HB.out)) hb)
      clear HO0
      clear HO524
      clear HO528
      clear HO532
      clear HO536
      clear HO540
      clear HO544
      clear HB
      have HO0 := n0_
      have HO524 := n1_
      have HO528 := n2_
      have HO532 := n3_
      have HO536 := n4_
      have HO540 := n5_
      have HO544 := n6_
      have HO547 := n7_
      have HB := n8_
      clear n0_ n1_ n2_ n3_ n4_ n5_ n6_ n7_ n8_
      (try clear hb)
      (try clear hb2)
      (try clear hk)
      (try clear hi)
      (try clear ho0)
      refine hK.out _ _ ((own_string (P := Try.prog) Try.underlying30 Try.underlying5 Try.underlying9 (Kd.own_of_R HO528.out))) (fun hHeld => ?_)
      clear hK K
      refine norm_ (a' := ?_) ?_ ?_
      rotate_left
      · show Act.put _ (some 40) _ = _
        simp only [Act.put, List.setIfInBounds_toArray, List.set_cons_zero, List.set_cons_succ, i64_w, i32_w]
        rfl
      refine one_ (i := 4) (N := some 41) #[true, true, true, true, true, false, false, false, false, false, false, false, false, false, false, false, false, false, false, false] rfl rfl (one_of HT_.out (by kernel_rfl)) (by decide) (fun K hK => ?_)
      have hcv77 := own_string (P := Try.prog) Try.underlying30 Try.underlying5 Try.underlying9 (Kd.own_of_R HO547.out)
      refine value_ (w1 := ?_) (v := ?_) (by rfl) rfl ?_ ?_
      rotate_left 2
      · go_simp
        constructor
        · rfl
        · rfl
      clear hcv77
      refine hK.out _ _ ((own_string (P := Try.prog) Try.underlying30 Try.underlying5 Try.underlying9 (Kd.own_of_R HO528.out))) (fun hHeld => ?_)
      clear hK K
      refine norm_ (a' := ?_) ?_ ?_
      rotate_left
      · show Act.put _ (some 41) _ = _
        simp only [Act.put, List.setIfInBounds_toArray, List.set_cons_zero, List.set_cons_succ, i64_w, i32_w]
        rfl
      refine pure_ (i := 5) (N := some 42) (v := ?_) (a' := ?_) #[true, true, true, true, true, true, false, false, false, false, false, false, false, false, false, false, false, false, false, false] rfl rfl (any_of HT_.out (by kernel_rfl)) (fun _ _ _ h => h) (Or.inl ⟨by rfl, ?_⟩) ?_ ?_
      rotate_left
      · intro w'
        go_simp
        with_reducible rfl
      rotate_left
      · simp only [Act.put, List.setIfInBounds_toArray, List.set_cons_zero, List.set_cons_succ, i64_w, i32_w]
        rfl
      refine pure_ (i := 6) (N := some 43) (v := ?_) (a' := ?_) #[true, true, true, true, true, true, true, false, false, false, false, false, false, false, false, false, false, false, false, false] rfl rfl (any_of HT_.out (by kernel_rfl)) (fun _ _ _ h => h) (Or.inl ⟨by rfl, ?_⟩) ?_ ?_
      rotate_left
      · intro w'
        go_simp
        with_reducible rfl
      rotate_left
      · simp only [Act.put, List.setIfInBounds_toArray, List.set_cons_zero, List.set_cons_succ, i64_w, i32_w]
        rfl
      refine pure_ (i := 7) (N := some 44) (v := undef) (a' := ?_) #[true, true, true, true, true, true, true, true, false, false, false, false, false, false, false, false, false, false, false, false] rfl rfl (any_of HT_.out (by kernel_rfl)) (fun _ _ _ h => h) (Or.inr ⟨by rfl, rfl⟩) ?_ ?_
      rotate_left
      · simp only [Act.put, List.setIfInBounds_toArray, List.set_cons_zero, List.set_cons_succ, i64_w, i32_w]
        rfl
      refine pure_ (i := 8) (N := some 45) (v := ?_) (a' := ?_) #[true, true, true, true, true, true, true, true, true, false, false, false, false, false, false, false, false, false, false, false] rfl rfl (any_of HT_.out (by kernel_rfl)) (fun _ _ _ h => h) (Or.inl ⟨by rfl, ?_⟩) ?_ ?_
      rotate_left
      · intro w'
        go_simp
        with_reducible rfl
      rotate_left
      · simp only [Act.put, List.setIfInBounds_toArray, List.set_cons_zero, List.set_cons_succ, i64_w, i32_w]
        rfl
      refine pure_ (i := 9) (N := some 46) (v := ?_) (a' := ?_) #[true, true, true, true, true, true, true, true, true, true, false, false, false, false, false, false, false, false, false, false] rfl rfl (any_of HT_.out (by kernel_rfl)) (fun _ _ _ h => h) (Or.inl ⟨by rfl, ?_⟩) ?_ ?_
      rotate_left
      · intro w'
        go_simp
        with_reducible rfl
      rotate_left
      · simp only [Act.put, List.setIfInBounds_toArray, List.set_cons_zero, List.set_cons_succ, i64_w, i32_w]
        rfl
      refine pure_ (i := 10) (N := some 47) (v := undef) (a' := ?_) #[true, true, true, true, true, true, true, true, true, true, true, false, false, false, false, false, false, false, false, false] rfl rfl (any_of HT_.out (by kernel_rfl)) (fun _ _ _ h => h) (Or.inr ⟨by rfl, rfl⟩) ?_ ?_
      rotate_left
      · simp only [Act.put, List.setIfInBounds_toArray, List.set_cons_zero, List.set_cons_succ, i64_w, i32_w]
        rfl
      refine pure_ (i := 11) (N := some 48) (v := undef) (a' := ?_) #[true, true, true, true, true, true, true, true, true, true, true, true, false, false, false, false, false, false, false, false] rfl rfl (any_of HT_.out (by kernel_rfl)) (fun _ _ _ h => h) (Or.inr ⟨by rfl, rfl⟩) ?_ ?_
      rotate_left
      · simp only [Act.put, List.setIfInBounds_toArray, List.set_cons_zero, List.set_cons_succ, i64_w, i32_w]
        rfl
      refine pure_ (i := 12) (N := some 49) (v := undef) (a' := ?_) #[true, true, true, true, true, true, true, true, true, true, true, true, true, false, false, false, false, false, false, false] rfl rfl (any_of HT_.out (by kernel_rfl)) (fun _ _ _ h => h) (Or.inr ⟨by rfl, rfl⟩) ?_ ?_
      rotate_left
      · simp only [Act.put, List.setIfInBounds_toArray, List.set_cons_zero, List.set_cons_succ, i64_w, i32_w]
        rfl
      refine pure_ (i := 13) (N := some 50) (v := ?_) (a' := ?_) #[true, true, true, true, true, true, true, true, true, true, true, true, true, true, false, false, false, false, false, false] rfl rfl (any_of HT_.out (by kernel_rfl)) (fun _ _ _ h => h) (Or.inl ⟨by rfl, ?_⟩) ?_ ?_
      rotate_left
      · intro w'
        go_simp
        with_reducible rfl
      rotate_left
      · simp only [Act.put, List.setIfInBounds_toArray, List.set_cons_zero, List.set_cons_succ, i64_w, i32_w]
        rfl
      refine pure_ (i := 14) (N := some 51) (v := ?_) (a' := ?_) #[true, true, true, true, true, true, true, true, true, true, true, true, true, true, true, false, false, false, false, false] rfl rfl (any_of HT_.out (by kernel_rfl)) (fun _ _ _ h => h) (Or.inl ⟨by rfl, ?_⟩) ?_ ?_
      rotate_left
      · intro w'
        go_simp
        with_reducible rfl
      rotate_left
      · simp only [Act.put, List.setIfInBounds_toArray, List.set_cons_zero, List.set_cons_succ, i64_w, i32_w]
        rfl
      refine pure_ (i := 15) (N := some 52) (v := undef) (a' := ?_) #[true, true, true, true, true, true, true, true, true, true, true, true, true, true, true, true, false, false, false, false] rfl rfl (any_of HT_.out (by kernel_rfl)) (fun _ _ _ h => h) (Or.inr ⟨by rfl, rfl⟩) ?_ ?_
      rotate_left
      · simp only [Act.put, List.setIfInBounds_toArray, List.set_cons_zero, List.set_cons_succ, i64_w, i32_w]
        rfl
      refine pure_ (i := 16) (N := some 53) (v := undef) (a' := ?_) #[true, true, true, true, true, true, true, true, true, true, true, true, true, true, true, true, true, false, false, false] rfl rfl (any_of HT_.out (by kernel_rfl)) (fun _ _ _ h => h) (Or.inr ⟨by rfl, rfl⟩) ?_ ?_
      rotate_left
      · simp only [Act.put, List.setIfInBounds_toArray, List.set_cons_zero, List.set_cons_succ, i64_w, i32_w]
        rfl
      refine pure_ (i := 17) (N := some 54) (v := undef) (a' := ?_) #[true, true, true, true, true, true, true, true, true, true, true, true, true, true, true, true, true, true, false, false] rfl rfl (any_of HT_.out (by kernel_rfl)) (fun _ _ _ h => h) (Or.inr ⟨by rfl, rfl⟩) ?_ ?_
      rotate_left
      · simp only [Act.put, List.setIfInBounds_toArray, List.set_cons_zero, List.set_cons_succ, i64_w, i32_w]
        rfl
      refine pure_ (i := 18) (N := some 55) (v := ?_) (a' := ?_) #[true, true, true, true, true, true, true, true, true, true, true, true, true, true, true, true, true, true, true, false] rfl rfl (any_of HT_.out (by kernel_rfl)) (fun _ _ _ h => h) (Or.inl ⟨by rfl, ?_⟩) ?_ ?_
      rotate_left
      · intro w'
        go_simp
        with_reducible rfl
      rotate_left
      · simp only [Act.put, List.setIfInBounds_toArray, List.set_cons_zero, List.set_cons_succ, i64_w, i32_w]
        rfl
      refine pure_ (i := 19) (N := some 4) (v := ?_) (a' := ?_) #[true, true, true, true, true, true, true, true, true, true, true, true, true, true, true, true, true, true, true, true] rfl rfl (any_of HT_.out (by kernel_rfl)) (fun _ _ _ h => h) (Or.inl ⟨by rfl, ?_⟩) ?_ ?_
      rotate_left
      · intro w'
        go_simp
        with_reducible rfl
      rotate_left
      · simp only [Act.put, List.setIfInBounds_toArray, List.set_cons_zero, List.set_cons_succ, i64_w, i32_w]
        rfl
      refine done_ (done_of HT_.out (by kernel_rfl)) ?_
      try go_wp2
      go_ret
      exact ⟨by first | rfl | (simp [errW_none, errW_some] <;> rfl) | (simp [*, errW_none, errW_some] <;> rfl), by repeat (first | (with_reducible first | exact HB.out | apply below_alloc | apply pw_below_drewN | apply below_drew1) | exact HB.out)⟩
  · replace c4 := Bool.eq_false_iff.mpr c4
    subst c4
    have H1 : (some true) = some r := by rw [if_neg (show ¬ (false = true) by decide)] at H; exact H
    clear H
    have H := H1
    clear H1
    obtain rfl := Option.some.inj H
    go_enter Try.func6, Try.ntmps6
    go_wp2_with (first | ((with_reducible refine gate_dst (N := 14) rfl ?_); (try (refine gate_guard (by rfl) ?_; dsimp only)); refine Kd.N_lit (Kd.slice 29 (Kd.int .u64)) _ 23 ?hg (N' := 14) ?hd (xs := ([l0] : List (List Int))) (inner := [.slice A0 l0.length c0]) (ok := (fun k_ => (P0_ k_ ∨ w.heap.size ≤ k_))) (okp := (fun k_ => (P0_ k_ ∨ w.heap.size ≤ k_))) ?hr ?hp (fun _ hk => hk) ((show ∀ k_, w.heap.size ≤ k_ → (fun k_ => (P0_ k_ ∨ w.heap.size ≤ k_)) k_ from fun k_ hk => (.inr (Nat.le_trans (below_size (by repeat (first | (with_reducible first | exact HB.out | apply below_alloc | apply pw_below_drewN | apply below_drew1) | exact HB.out))) hk))) _ (Nat.le_refl _)) (Below.refl _ _) (Nat.le_refl _) (by simp) ?_; (case hd => rfl); (case hg => rfl); (case hr => first | (go_simp; done) | (go_simp; rfl)); (case hp => exact (Reps.one (show Kd.FK (Kd.slice 29 (Kd.int .u64)) _ _ l0 [.slice A0 l0.length c0] from (Kd.FK_slice_mk (Kd.V_reads' (Kd.V_mono (ok' := (fun k_ => (P0_ k_ ∨ w.heap.size ≤ k_))) (HO0.out) (fun k_ hk => hk))).2.1 (Kd.V_F (Kd.V_mono (ok' := (fun k_ => (P0_ k_ ∨ w.heap.size ≤ k_))) (HO0.out) (fun k_ hk => hk))))) (Reps.none _ _))); intro v523 w79 ho80 hb hg_ hnew_; clear hg_ hnew_; (first | rw [← Ny522.out] at ho80 | (simp only [Int.reduceToNat] at ho80; rw [← Ny522.out] at ho80)); have n0_ := Aside0.mk (Kd.V_elder' (by (with_reducible repeat (first | apply Kd.V_alloc | apply Kd.V_drewN | apply Kd.V_drew)); exact HO0.out) (Kd.N_base ho80) hb); have n1_ := Aside0.mk (Kd.N_lower ho80 (below_size (by repeat (first | (with_reducible first | exact HB.out | apply below_alloc | apply pw_below_drewN | apply below_drew1) | exact HB.out)))); have n2_ := Aside0.mk (below_step (by repeat (first | (with_reducible first | exact HB.out | apply below_alloc | apply pw_below_drewN | apply below_drew1) | exact HB.out)) hb); clear HO0; clear HB; have HO0 := n0_; have HO524 := n1_; have HB := n2_; clear n0_ n1_ n2_; clear hb ho80; obtain ⟨Ao81, co81, eo81⟩ := Kd.N_slice HO524.out; subst eo81) | ((with_reducible refine gate_callee (f := 9) rfl ?_); refine goesL_ (some 15) rfl rfl Try.func9 (by kernel_rfl) rfl #[.slice Ao81 y522.length co81] rfl (by (try simp only [List.map_toArray, List.map_cons, List.map_nil]); first | done | rfl | (simp only [List.length_drop, List.length_take]; rfl)) ?_; (with_reducible refine (windbreaklaw01_few.calls k _ _ y522 false _ ?side1 ?side2 A3.out).mono ?_); (case side1 => repeat (first | exact (Kd.N_reads' HO524.out).2.2 | (with_reducible refine Kd.C_alloc ?_ _) | (with_reducible refine Kd.C_drewN ?_ _) | (with_reducible refine Kd.C_drew ?_))); (case side2 => exact (Kd.N_reads' HO524.out).2.1); rintro e w' ⟨rfl, ⟨nd, rfl⟩⟩; refine ⟨_, rfl, ?_⟩))
    go_ret
    exact ⟨by first | rfl | (simp [errW_none, errW_some] <;> rfl) | (simp [*, errW_none, errW_some] <;> rfl), by repeat (first | (with_reducible first | exact HB.out | apply below_alloc | apply pw_below_drewN | apply below_drew1) | exact HB.out)⟩

/-- THE ONE PURE STATEMENT of windbreaklaw01_NatBytes: yours. -/
def windbreaklaw01_NatBytes.Pure : Prop := ∀ (l0 : List Int) (l1 : List Int), l0.length ≤ maxLen → l0.length * 8 ≤ 140737488351232 → (∀ x ∈ l0, (Lit.int .u64 x).wf = true) → l1.length ≤ maxLen → l1.length * 1 ≤ 140737488351232 → (∀ x ∈ l1, (Lit.int .u8 x).wf = true) → ∃ k, windbreaklaw01_NatBytes.f k l0 l1 = some true
theorem windbreaklaw01_NatBytes.walk (P : windbreaklaw01_NatBytes.Pure) (a0 : Option Addr) (len0 cap0 : Nat) (z0 : List Int) (a1 : Option Addr) (len1 cap1 : Nat) (z1 : List Int) (w : World) (w0 : (a0 = none ∧ len0 = 0 ∧ cap0 = 0 ∧ z0 = []) ∨ ∃ x, a0 = some x ∧ len0 ≤ cap0 ∧ cap0 ≤ maxLen ∧ z0.length = cap0 ∧ (∀ i, i < z0.length → w.cell? (x.add i) = some (.int .u64 (z0.getD i 0))) ∧ ∀ n ∈ z0, (Lit.int .u64 n).wf = true) (y0 : len0 * 8 ≤ 140737488351232) (w1 : (a1 = none ∧ len1 = 0 ∧ cap1 = 0 ∧ z1 = []) ∨ ∃ x, a1 = some x ∧ len1 ≤ cap1 ∧ cap1 ≤ maxLen ∧ z1.length = cap1 ∧ (∀ i, i < z1.length → w.cell? (x.add i) = some (.int .u8 (z1.getD i 0))) ∧ ∀ n ∈ z1, (Lit.int .u8 n).wf = true) (y1 : len1 * 1 ≤ 140737488351232) :
    Calls Try.prog 6 #[.slice a0 len0 cap0, .slice a1 len1 cap1] w fun e w' => e = .returned (.bool true) ∧ Below w.heap.size w w' := by
  obtain ⟨l0, rfl, hr0, hm0, hw0, hc0⟩ := ReadsInt.ofRowC w0
  obtain ⟨l1, rfl, hr1, hm1, hw1, hc1⟩ := ReadsInt.ofRowC w1
  obtain ⟨k, h⟩ := P l0 l1 hm0 y0 hw0 hm1 y1 hw1
  refine (windbreaklaw01_NatBytes.calls k (fun k_ => k_ < w.heap.size) _ _ l0 _ _ l1 true w (Kd.V_mk hc0 (Kd.C_F (Kd.heap_int .u64) (Kd.C_of_reads (d := (0 : Int)) (h1 := fun _ => rfl) hr0))) (Kd.C_of_reads (d := (0 : Int)) (h1 := fun _ => rfl) hr1) hc1 h).mono ?_
  rintro e w' ⟨rfl, hd⟩
  exact ⟨rfl, hd⟩

end Go.Proofs.Ytikfgeieaadeiac.F

namespace Go.Proofs.Ytikfgeieaadeiac.Z
open Go.RowKit Go.Proofs.YtikfgeieaadeiacW.PrintWords
set_option linter.unusedSimpArgs false
set_option linter.unusedVariables false

/-! ### Rounds: from some number on the answer is r -/
def Evt {α : Type} (g : Nat → Option α) (r : α) : Prop := ∃ n, ∀ k, n ≤ k → g k = some r
theorem Evt.of {α : Type} {g : Nat → Option α} {r : α} (h : ∀ k, g k = some r) : Evt g r := ⟨0, fun k _ => h k⟩
theorem Evt.pure {α : Type} (r : α) : Evt (fun _ => some r) r := ⟨0, fun _ _ => rfl⟩
theorem Evt.bind {α β : Type} {g : Nat → Option α} {h : α → Nat → Option β} {a : α} {b : β} (h1 : Evt g a) (h2 : Evt (h a) b) : Evt (fun k => (g k).bind fun x => h x k) b := by
  obtain ⟨n, hn⟩ := h1
  obtain ⟨m, hm⟩ := h2
  exact ⟨n + m, fun k hk => by simp only [hn k (by omega), Option.bind_some]; exact hm k (by omega)⟩
theorem Evt.succ {α : Type} {g : Nat → Option α} {r : α} (h : Evt (fun k => g (k + 1)) r) : Evt g r := by
  obtain ⟨n, hn⟩ := h
  refine ⟨n + 1, fun k hk => ?_⟩
  obtain ⟨m, rfl⟩ : ∃ m, k = m + 1 := ⟨k - 1, by omega⟩
  exact hn m (by omega)
theorem Evt.get {α : Type} {g : Nat → Option α} {r : α} (h : Evt g r) : ∃ k, g k = some r := by
  obtain ⟨n, hn⟩ := h
  exact ⟨n, hn n (Nat.le_refl _)⟩
theorem Evt.congr {α : Type} {g g' : Nat → Option α} {r r' : α} (h : Evt g r) (hg : ∀ k, g' k = g k) (hr : r = r') : Evt g' r' := by
  subst hr
  obtain ⟨n, hn⟩ := h
  exact ⟨n, fun k hk => (hg k).trans (hn k hk)⟩
theorem Evt.ite_pos {α : Type} {c : Prop} [Decidable c] {g h : Nat → Option α} {r : α} (hc : c) (hg : Evt g r) : Evt (fun k => if c then g k else h k) r := by
  obtain ⟨n, hn⟩ := hg
  exact ⟨n, fun k hk => (if_pos hc).trans (hn k hk)⟩
theorem Evt.ite_neg {α : Type} {c : Prop} [Decidable c] {g h : Nat → Option α} {r : α} (hc : ¬ c) (hg : Evt h r) : Evt (fun k => if c then g k else h k) r := by
  obtain ⟨n, hn⟩ := hg
  exact ⟨n, fun k hk => (if_neg hc).trans (hn k hk)⟩
theorem Evt.cond {α : Type} {c : Prop} [Decidable c] {g h : Nat → Option α} {r s : α} (hg : c → Evt g r) (hh : ¬ c → Evt h s) : Evt (fun k => if c then g k else h k) (if c then r else s) := by
  by_cases hc : c
  · rw [if_pos hc]; exact Evt.ite_pos hc (hg hc)
  · rw [if_neg hc]; exact Evt.ite_neg hc (hh hc)

theorem Evt.cond' {α : Type} {c : Prop} [Decidable c] {g h : Nat → Option α} {r : α} (hg : c → Evt g r) (hh : ¬ c → Evt h r) : Evt (fun k => if c then g k else h k) r := by
  by_cases hc : c
  · exact Evt.ite_pos hc (hg hc)
  · exact Evt.ite_neg hc (hh hc)

/-! ### Numbers of a machine -/
theorem w64 {x : Int} (h0 : -9223372036854775808 ≤ x) (h1 : x < 9223372036854775808) : wrap64 x = x := by unfold wrap64; omega
theorem wu64 (x : Int) : IntKind.u64.wrap x = x % 18446744073709551616 := by simp [IntKind.wrap, IntKind.bits, IntKind.signed]
theorem wu64_of {x : Int} (h0 : 0 ≤ x) (h1 : x < 18446744073709551616) : IntKind.u64.wrap x = x := by rw [wu64]; omega
theorem wf_u64 {x : Int} (h : (Lit.int .u64 x).wf = true) : 0 ≤ x ∧ x < 18446744073709551616 := by
  simp [Lit.wf, IntKind.min, IntKind.max, IntKind.bits, IntKind.signed] at h
  omega
theorem wf_i64 {x : Int} (h : (Lit.int .i64 x).wf = true) : -9223372036854775808 ≤ x ∧ x < 9223372036854775808 := by
  simp [Lit.wf, IntKind.min, IntKind.max, IntKind.bits, IntKind.signed] at h
  omega
theorem rd_getD (l : List Int) (i : Int) : rd l i = l.getD i.toNat 0 := rfl
theorem rd_nat (l : List Int) (i : Nat) : rd l (i : Int) = l.getD i 0 := rfl

/-! ### Digits -/
/-- The number of digits, the lowest first. -/
def val (B : Int) : List Int → Int
  | [] => 0
  | d :: l => d + B * val B l
/-- All are digits. -/
def Dig (B : Int) (l : List Int) : Prop := ∀ x, x ∈ l → 0 ≤ x ∧ x < B
/-- The last digit is not 0. -/
def Can (l : List Int) : Prop := ∀ h : l ≠ [], l.getLast h ≠ 0
/-- Without noughts behind. -/
def strip : List Int → List Int
  | [] => []
  | d :: l => if strip l = [] then (if d = 0 then [] else [d]) else d :: strip l

theorem Dig.nil {B : Int} : Dig B [] := fun _ h => by simp at h
theorem Dig.cons {B d : Int} {l : List Int} : Dig B (d :: l) ↔ (0 ≤ d ∧ d < B) ∧ Dig B l := by
  unfold Dig
  simp
theorem Dig.append {B : Int} {l m : List Int} : Dig B (l ++ m) ↔ Dig B l ∧ Dig B m := by
  unfold Dig
  constructor
  · intro h
    exact ⟨fun x hx => h x (by simp [hx]), fun x hx => h x (by simp [hx])⟩
  · intro h x hx
    rcases List.mem_append.1 hx with hx | hx
    · exact h.1 x hx
    · exact h.2 x hx
theorem Dig.take {B : Int} {l : List Int} (h : Dig B l) (n : Nat) : Dig B (l.take n) := fun x hx => h x (List.mem_of_mem_take hx)
theorem Dig.drop {B : Int} {l : List Int} (h : Dig B l) (n : Nat) : Dig B (l.drop n) := fun x hx => h x (List.mem_of_mem_drop hx)
theorem Dig.getD {B : Int} {l : List Int} (h : Dig B l) (hB : 0 < B) (i : Nat) : 0 ≤ l.getD i 0 ∧ l.getD i 0 < B := by
  rw [List.getD_eq_getElem?_getD]
  cases he : l[i]? with
  | none => simp; omega
  | some x => simpa using h x (List.mem_of_getElem? he)
theorem Dig.set {B : Int} {l : List Int} (h : Dig B l) (i : Nat) {v : Int} (hv : 0 ≤ v ∧ v < B) : Dig B (l.set i v) := by
  intro x hx
  rcases List.mem_or_eq_of_mem_set hx with hx | rfl
  · exact h x hx
  · exact hv
theorem Dig.replicate {B : Int} (hB : 0 < B) (n : Nat) : Dig B (List.replicate n 0) := by
  intro x hx
  have := List.eq_of_mem_replicate hx
  omega

theorem val_append (B : Int) (l m : List Int) : val B (l ++ m) = val B l + B ^ l.length * val B m := by
  induction l with
  | nil => simp [val]
  | cons d l ih => simp only [List.cons_append, val, ih, List.length_cons, Int.pow_succ]; grind
theorem val_replicate (B : Int) (n : Nat) : val B (List.replicate n 0) = 0 := by
  induction n with
  | zero => rfl
  | succ n ih => simp [List.replicate_succ, val, ih]
theorem val_nonneg {B : Int} (hB : 0 < B) {l : List Int} (h : Dig B l) : 0 ≤ val B l := by
  induction l with
  | nil => simp [val]
  | cons d l ih =>
    have h' := Dig.cons.1 h
    have h1 := ih h'.2
    have : 0 ≤ B * val B l := Int.mul_nonneg (by omega) h1
    simp only [val]
    omega
theorem val_lt {B : Int} (hB : 0 < B) {l : List Int} (h : Dig B l) : val B l < B ^ l.length := by
  induction l with
  | nil => simp [val]
  | cons d l ih =>
    have h' := Dig.cons.1 h
    have h1 := ih h'.2
    have h2 : B * val B l ≤ B * (B ^ l.length - 1) := Int.mul_le_mul_of_nonneg_left (by omega) (by omega)
    have h3 : B * (B ^ l.length - 1) = B * B ^ l.length - B := by grind
    simp only [val, List.length_cons, Int.pow_succ]
    have h4 : B ^ l.length * B = B * B ^ l.length := Int.mul_comm _ _
    omega
theorem Can.nil : Can [] := fun h => absurd rfl h
theorem Can.tail {d : Int} {l : List Int} (h : Can (d :: l)) : Can l := by
  intro hl
  have := h (by simp)
  rwa [List.getLast_cons hl] at this
theorem Can.one {d : Int} (h : d ≠ 0) : Can [d] := fun _ => by simpa using h
theorem Can.cons {d : Int} {l : List Int} (h : Can l) (hl : l ≠ []) : Can (d :: l) := by
  intro _
  rw [List.getLast_cons hl]
  exact h hl
theorem val_pos {B : Int} (hB : 0 < B) {l : List Int} (h : Dig B l) (hc : Can l) (hl : l ≠ []) : B ^ (l.length - 1) ≤ val B l := by
  induction l with
  | nil => exact absurd rfl hl
  | cons d l ih =>
    have h' := Dig.cons.1 h
    by_cases e : l = []
    · subst e
      have := hc (by simp)
      simp [val] at this ⊢
      omega
    · have h1 := ih h'.2 hc.tail e
      have h2 : l.length - 1 + 1 = l.length := by have := List.length_pos_iff.2 e; omega
      simp only [val, List.length_cons, Nat.add_sub_cancel]
      rw [← h2, Int.pow_succ, Int.mul_comm]
      have : B * B ^ (l.length - 1) ≤ B * val B l := Int.mul_le_mul_of_nonneg_left h1 (by omega)
      omega
theorem val_zero {B : Int} (hB : 0 < B) {l : List Int} (h : Dig B l) (hc : Can l) (h0 : val B l = 0) : l = [] := by
  by_cases e : l = []
  · exact e
  · have := val_pos hB h hc e
    have h2 : 0 < B ^ (l.length - 1) := Int.pow_pos hB
    omega
theorem val_inj {B : Int} (hB : 0 < B) {l m : List Int} (hl : Dig B l) (hm : Dig B m) (cl : Can l) (cm : Can m) (h : val B l = val B m) : l = m := by
  induction l generalizing m with
  | nil => exact (val_zero hB hm cm h.symm).symm
  | cons d l ih =>
    cases m with
    | nil => exact val_zero hB hl cl h
    | cons e m =>
      have h1 := Dig.cons.1 hl
      have h2 := Dig.cons.1 hm
      simp only [val] at h
      have h3 : d = e := by
        have a1 : (d + B * val B l) % B = d := by rw [Int.add_mul_emod_self_left]; exact Int.emod_eq_of_lt h1.1.1 h1.1.2
        have a2 : (e + B * val B m) % B = e := by rw [Int.add_mul_emod_self_left]; exact Int.emod_eq_of_lt h2.1.1 h2.1.2
        rw [← a1, ← a2, h]
      subst h3
      have h4 : val B l = val B m := by
        have : B * val B l = B * val B m := by omega
        exact Int.eq_of_mul_eq_mul_left (by omega) this
      rw [ih h1.2 h2.2 cl.tail cm.tail h4]
theorem strip_val (B : Int) (l : List Int) : val B (strip l) = val B l := by
  induction l with
  | nil => rfl
  | cons d l ih =>
    simp only [strip]
    split
    · rename_i h
      rw [h] at ih
      simp only [val] at ih
      split
      · rename_i h0; simp [val, ← ih, h0]
      · simp [val, ← ih]
    · simp [val, ih]
theorem strip_can (l : List Int) : Can (strip l) := by
  induction l with
  | nil => exact Can.nil
  | cons d l ih =>
    simp only [strip]
    split
    · split
      · exact Can.nil
      · rename_i h; exact Can.one h
    · rename_i h; exact ih.cons h
theorem strip_dig {B : Int} {l : List Int} (h : Dig B l) : Dig B (strip l) := by
  induction l with
  | nil => exact Dig.nil
  | cons d l ih =>
    have h' := Dig.cons.1 h
    simp only [strip]
    split
    · split
      · exact Dig.nil
      · exact Dig.cons.2 ⟨h'.1, Dig.nil⟩
    · exact Dig.cons.2 ⟨h'.1, ih h'.2⟩
theorem strip_length (l : List Int) : (strip l).length ≤ l.length := by
  induction l with
  | nil => simp [strip]
  | cons d l ih =>
    simp only [strip]
    split
    · split <;> simp
    · simp; omega
theorem strip_of_can {l : List Int} (h : Can l) : strip l = l := by
  induction l with
  | nil => rfl
  | cons d l ih =>
    simp only [strip]
    rw [ih h.tail]
    split
    · rename_i e
      subst e
      have := h (by simp)
      simp at this
      simp [this]
    · rfl
theorem strip_snoc_zero (l : List Int) : strip (l ++ [0]) = strip l := by
  induction l with
  | nil => simp [strip]
  | cons d l ih => simp only [List.cons_append, strip, ih]
theorem strip_snoc {l : List Int} {d : Int} (h : d ≠ 0) : strip (l ++ [d]) = l ++ [d] := by
  apply strip_of_can
  intro hl
  simpa using h
/-- The number of stripped digits tells them. -/
theorem strip_unique {B : Int} (hB : 0 < B) {l m : List Int} (hl : Dig B l) (hm : Dig B m) (h : val B l = val B m) : strip l = strip m :=
  val_inj hB (strip_dig hl) (strip_dig hm) (strip_can l) (strip_can m) (by rw [strip_val, strip_val, h])
theorem pow_mono {B : Int} (hB : 0 < B) {m n : Nat} (h : m ≤ n) : B ^ m ≤ B ^ n := by
  induction n with
  | zero => have : m = 0 := by omega
            subst this
            exact Int.le_refl _
  | succ n ih =>
    by_cases e : m = n + 1
    · subst e
      exact Int.le_refl _
    · have h1 := ih (by omega)
      have h2 : 0 < B ^ n := Int.pow_pos hB
      have h3 : 1 * B ^ n ≤ B * B ^ n := Int.mul_le_mul_of_nonneg_right (by omega) (by omega)
      rw [Int.pow_succ, Int.mul_comm]
      omega
/-- Longer numbers are greater. -/
theorem val_lt_of_length {B : Int} (hB : 0 < B) {l m : List Int} (hl : Dig B l) (hm : Dig B m) (cm : Can m) (h : l.length < m.length) : val B l < val B m := by
  have h1 := val_lt hB hl
  have h2 := val_pos hB hm cm (by intro e; subst e; simp at h)
  have h3 : B ^ l.length ≤ B ^ (m.length - 1) := pow_mono hB (by omega)
  omega
/-- Are limbs a number's? -/
def rightB (l : List Int) : Bool := decide (l.length ≤ 64) && ((l.length == 0) || (l.getD (l.length - 1) 0 != 0))
theorem can_iff (l : List Int) : Can l ↔ ((l.length == 0) || (l.getD (l.length - 1) 0 != 0)) = true := by
  cases l with
  | nil => simp [Can]
  | cons d l =>
    have h : (d :: l).getLast (by simp) = (d :: l).getD ((d :: l).length - 1) 0 := by
      rw [List.getLast_eq_getElem]
      simp
    unfold Can
    simp only [List.length_cons, Nat.add_one_ne_zero, beq_iff_eq, Bool.or_eq_true, bne_iff_ne, false_or]
    constructor
    · intro hc
      have := hc (by simp)
      rw [h] at this
      exact this
    · intro hc _
      rw [h]
      exact hc
theorem rightB_iff (l : List Int) : rightB l = true ↔ l.length ≤ 64 ∧ Can l := by
  unfold rightB
  rw [Bool.and_eq_true, decide_eq_true_iff, ← can_iff]
/-- A number as a small one. -/
def smallV (l : List Int) : Int × Bool := if rightB l = true ∧ l.length ≤ 1 then (l.getD 0 0, true) else (0, false)
end Go.Proofs.Ytikfgeieaadeiac.Z

namespace Go.Proofs.Ytikfgeieaadeiac.Z
open Go.RowKit Go.Proofs.Ytikfgeieaadeiac.F Go.Proofs.YtikfgeieaadeiacW.PrintWords
set_option linter.unusedSimpArgs false
set_option linter.unusedVariables false
theorem few_loop (ls : List (List Int)) (h : ls.length ≤ maxLen) (d : Nat) : ∀ i : Nat, i ≤ ls.length → ls.length - i = d → Evt (fun k => windbreaklaw01_few.l0 k ls (i : Int)) ((ls.drop i).all fun a => decide (a.length ≤ 70)) := by
  unfold maxLen at h
  induction d with
  | zero =>
    intro i hi hd
    refine Evt.succ ?_
    simp only [windbreaklaw01_few.l0]
    refine Evt.ite_neg (by omega) ?_
    rw [show ls.drop i = [] from List.drop_of_length_le (by omega)]
    exact Evt.pure _
  | succ d ih =>
    intro i hi hd
    have hlt : i < ls.length := by omega
    refine Evt.succ ?_
    simp only [windbreaklaw01_few.l0]
    refine Evt.ite_pos (by omega) (Evt.ite_pos (by omega) ?_)
    have hx : rd_L1 ls (i : Int) = ls[i] := by simp [rd_L1, hlt]
    rw [hx, List.drop_eq_getElem_cons hlt, List.all_cons]
    by_cases h70 : ls[i].length ≤ 70
    · refine Evt.ite_neg (by omega) ?_
      rw [w64 (by omega) (by omega)]
      have := ih (i + 1) (by omega) (by omega)
      refine this.congr (fun k => rfl) ?_
      rw [decide_eq_true h70, Bool.true_and]
    · refine Evt.ite_pos (by omega) ?_
      rw [decide_eq_false h70, Bool.false_and]
      exact Evt.pure _
theorem few_ev (ls : List (List Int)) (h : ls.length ≤ maxLen) : Evt (fun k => windbreaklaw01_few.f k ls) (ls.all fun a => decide (a.length ≤ 70)) := by
  have := few_loop ls h ls.length 0 (Nat.zero_le _) (by omega)
  exact this.congr (fun k => rfl) (by simp)
end Go.Proofs.Ytikfgeieaadeiac.Z

namespace Go.Proofs.Ytikfgeieaadeiac.Z
open Go.RowKit Go.Proofs.Ytikfgeieaadeiac.F Go.Proofs.YtikfgeieaadeiacW.PrintWords
set_option linter.unusedSimpArgs false
set_option linter.unusedVariables false
theorem nat_Right_eq {l : List Int} (h : l.length ≤ maxLen) : nat_Right.f l = some (rightB l) := by
  unfold maxLen at h
  unfold nat_Right.f rightB
  by_cases h1 : l.length ≤ 64
  · rw [if_pos (by omega)]
    by_cases h2 : l.length = 0
    · rw [if_pos (by omega)]
      simp [h1, h2]
    · rw [if_neg (by omega), w64 (by omega) (by omega), if_pos (by omega), if_pos (by omega), rd_getD]
      rw [show ((l.length : Int) - 1).toNat = l.length - 1 from by omega]
      have h3 : (l.length == 0) = false := by simpa using h2
      rw [h3]
      simp [h1]
  · rw [if_neg (by omega)]
    simp [h1]
end Go.Proofs.Ytikfgeieaadeiac.Z

namespace Go.Proofs.Ytikfgeieaadeiac.Z
open Go.RowKit Go.Proofs.YtikfgeieaadeiacW.PrintWords
set_option linter.unusedSimpArgs false
set_option linter.unusedVariables false

/-! ### The digits of a number -/
def toD (B : Nat) (v : Nat) : List Int := if h : 2 ≤ B ∧ 0 < v then ((v % B : Nat) : Int) :: toD B (v / B) else []
termination_by v
decreasing_by exact Nat.div_lt_self h.2 (by omega)
theorem toD_zero (B : Nat) : toD B 0 = [] := by rw [toD]; simp
theorem toD_pos {B v : Nat} (hB : 2 ≤ B) (hv : 0 < v) : toD B v = ((v % B : Nat) : Int) :: toD B (v / B) := by rw [toD]; simp [hB, hv]
theorem toD_dig {B : Nat} (hB : 2 ≤ B) (v : Nat) : Dig (B : Int) (toD B v) := by
  induction v using Nat.strongRecOn with
  | _ v ih =>
    by_cases hv : v = 0
    · subst hv; rw [toD_zero]; exact Dig.nil
    · rw [toD_pos hB (by omega)]
      have := Nat.mod_lt v (show B > 0 by omega)
      exact Dig.cons.2 ⟨by omega, ih _ (Nat.div_lt_self (by omega) (by omega))⟩
theorem toD_eq_nil {B v : Nat} (hB : 2 ≤ B) : toD B v = [] ↔ v = 0 := by
  constructor
  · intro h
    by_cases hv : v = 0
    · exact hv
    · rw [toD_pos hB (by omega)] at h; cases h
  · rintro rfl; exact toD_zero B
theorem toD_can {B : Nat} (hB : 2 ≤ B) (v : Nat) : Can (toD B v) := by
  induction v using Nat.strongRecOn with
  | _ v ih =>
    by_cases hv : v = 0
    · subst hv; rw [toD_zero]; exact Can.nil
    · rw [toD_pos hB (by omega)]
      by_cases hq : v / B = 0
      · rw [hq, toD_zero]
        have hlt : v < B := (Nat.div_eq_zero_iff_lt (by omega)).1 hq
        rw [Nat.mod_eq_of_lt hlt]
        exact Can.one (by omega)
      · exact (ih _ (Nat.div_lt_self (by omega) (by omega))).cons (fun e => hq ((toD_eq_nil hB).1 e))
theorem val_toD {B : Nat} (hB : 2 ≤ B) (v : Nat) : val (B : Int) (toD B v) = (v : Int) := by
  induction v using Nat.strongRecOn with
  | _ v ih =>
    by_cases hv : v = 0
    · subst hv; rw [toD_zero]; rfl
    · rw [toD_pos hB (by omega)]
      simp only [val]
      rw [ih _ (Nat.div_lt_self (by omega) (by omega))]
      have h2 := Nat.mod_add_div v B
      have h3 : ((v % B + B * (v / B) : Nat) : Int) = (v : Int) := by rw [h2]
      simpa using h3
/-- What all noughts are taken off is the digits of the number. -/
theorem strip_toD {B : Nat} (hB : 2 ≤ B) {l : List Int} (h : Dig (B : Int) l) : strip l = toD B (val (B : Int) l).toNat := by
  have h0 : (0 : Int) < (B : Int) := by omega
  refine val_inj h0 (strip_dig h) (toD_dig hB _) (strip_can l) (toD_can hB _) ?_
  rw [strip_val, val_toD hB]
  have := val_nonneg h0 h
  omega
theorem can_toD {B : Nat} (hB : 2 ≤ B) {l : List Int} (h : Dig (B : Int) l) (hc : Can l) : l = toD B (val (B : Int) l).toNat := by
  rw [← strip_toD hB h, strip_of_can hc]
theorem pow_cast (B n : Nat) : ((B : Int)) ^ n = ((B ^ n : Nat) : Int) := by simp
theorem toD_len_le {B : Nat} (hB : 2 ≤ B) {v n : Nat} (h : v < B ^ n) : (toD B v).length ≤ n := by
  by_cases hv : v = 0
  · subst hv; rw [toD_zero]; simp
  · have h1 := val_pos (show (0 : Int) < (B : Int) by omega) (toD_dig hB v) (toD_can hB v) (fun e => hv ((toD_eq_nil hB).1 e))
    rw [val_toD hB, pow_cast] at h1
    have h2 : B ^ ((toD B v).length - 1) ≤ v := by omega
    have h3 : B ^ ((toD B v).length - 1) < B ^ n := by omega
    have h4 := (Nat.pow_lt_pow_iff_right (show 1 < B by omega)).1 h3
    omega
theorem toD_lt_pow {B : Nat} (hB : 2 ≤ B) (v : Nat) : v < B ^ (toD B v).length := by
  have h1 := val_lt (show (0 : Int) < (B : Int) by omega) (toD_dig hB v)
  rw [val_toD hB, pow_cast] at h1
  omega
theorem toD_len_iff {B : Nat} (hB : 2 ≤ B) (v n : Nat) : (toD B v).length ≤ n ↔ v < B ^ n :=
  ⟨fun h => Nat.lt_of_lt_of_le (toD_lt_pow hB v) (Nat.pow_le_pow_right (by omega) h), toD_len_le hB⟩

/-! ### Two bases: limbs of 64 bits, digits of 16 -/
def b64 : Nat := 18446744073709551616
def b16 : Nat := 65536
theorem b64_two : 2 ≤ b64 := by decide
theorem b16_two : 2 ≤ b16 := by decide
theorem b64_pow : b64 = b16 ^ 4 := by decide
/-- The number of limbs. -/
def num (l : List Int) : Nat := (val (b64 : Int) l).toNat
def num16 (l : List Int) : Nat := (val (b16 : Int) l).toNat
abbrev limbs (v : Nat) : List Int := toD b64 v
abbrev digs (v : Nat) : List Int := toD b16 v
theorem b64_pos : (0 : Int) < (b64 : Int) := by decide
theorem b16_pos : (0 : Int) < (b16 : Int) := by decide
theorem num_val {l : List Int} (h : Dig (b64 : Int) l) : (num l : Int) = val (b64 : Int) l := by
  have := val_nonneg b64_pos h
  unfold num; omega
theorem num16_val {l : List Int} (h : Dig (b16 : Int) l) : (num16 l : Int) = val (b16 : Int) l := by
  have := val_nonneg b16_pos h
  unfold num16; omega
theorem num_limbs (v : Nat) : num (limbs v) = v := by unfold num limbs; rw [val_toD b64_two]; omega
theorem num16_digs (v : Nat) : num16 (digs v) = v := by unfold num16 digs; rw [val_toD b16_two]; omega
theorem limbs_num {l : List Int} (h : Dig (b64 : Int) l) (hc : Can l) : limbs (num l) = l := (can_toD b64_two h hc).symm
theorem digs_num {l : List Int} (h : Dig (b16 : Int) l) (hc : Can l) : digs (num16 l) = l := (can_toD b16_two h hc).symm
theorem strip_limbs {l : List Int} (h : Dig (b64 : Int) l) : strip l = limbs (num l) := strip_toD b64_two h
theorem strip_digs {l : List Int} (h : Dig (b16 : Int) l) : strip l = digs (num16 l) := strip_toD b16_two h
theorem limbs_inj {v w : Nat} (h : limbs v = limbs w) : v = w := by rw [← num_limbs v, h, num_limbs]
theorem dig_of_wf {l : List Int} (h : ∀ x ∈ l, (Lit.int .u64 x).wf = true) : Dig (b64 : Int) l := fun x hx => wf_u64 (h x hx)
theorem num_lt {l : List Int} (h : Dig (b64 : Int) l) : num l < b64 ^ l.length := by
  have h1 := val_lt b64_pos h
  rw [← num_val h, pow_cast] at h1
  omega
theorem num16_lt {l : List Int} (h : Dig (b16 : Int) l) : num16 l < b16 ^ l.length := by
  have h1 := val_lt b16_pos h
  rw [← num16_val h, pow_cast] at h1
  omega
theorem num_nil : num [] = 0 := rfl
theorem num_one {x : Int} (h : 0 ≤ x) : num [x] = x.toNat := by simp [num, val]
theorem num16_nil : num16 [] = 0 := rfl
theorem num_cons {d : Int} {l : List Int} (h : Dig (b64 : Int) (d :: l)) : num (d :: l) = d.toNat + b64 * num l := by
  have h1 := Dig.cons.1 h
  have h2 := num_val h
  have h3 := num_val h1.2
  have h4 : ((d.toNat + b64 * num l : Nat) : Int) = d + (b64 : Int) * val (b64 : Int) l := by
    rw [← h3]; simp; omega
  have h5 : val (b64 : Int) (d :: l) = d + (b64 : Int) * val (b64 : Int) l := rfl
  omega
/-- No number of ours comes to that. -/
def thousand : Nat := 1000
def lim : Nat := b64 ^ thousand
theorem lim_pow {n : Nat} (h : n ≤ 1000) : b64 ^ n ≤ lim := Nat.pow_le_pow_right (by decide) (show n ≤ thousand from h)
theorem pow_lt_lim {n : Nat} (h : n < 1000) : b64 ^ n + b64 ^ n ≤ lim := by
  have h1 : b64 ^ (n + 1) ≤ lim := lim_pow h
  have h2 : b64 ^ n * 2 ≤ b64 ^ n * b64 := Nat.mul_le_mul_left _ b64_two
  rw [Nat.pow_succ] at h1
  omega
theorem num_lt_lim {l : List Int} (h : Dig (b64 : Int) l) (hl : l.length ≤ 1000) : num l < lim := Nat.lt_of_lt_of_le (num_lt h) (lim_pow hl)
theorem digs_len {v : Nat} (hv : v < lim) : (digs v).length ≤ 4000 := by
  have h : lim = b16 ^ (4 * thousand) := by
    unfold lim
    rw [b64_pow, ← Nat.pow_mul]
  rw [h] at hv
  have h2 := toD_len_le b16_two hv
  exact Nat.le_trans h2 (by decide)
theorem b64_pow2 (m : Nat) : b64 ^ m = 2 ^ (64 * m) := by
  have h : b64 = 2 ^ 64 := by decide
  rw [h, ← Nat.pow_mul]
theorem pow2_le_b64 {n m : Nat} (h : n ≤ 64 * m) : 2 ^ n ≤ b64 ^ m := by
  rw [b64_pow2]
  exact Nat.pow_le_pow_right (by decide) h
theorem b64_le_pow2 {n m : Nat} (h : 64 * m ≤ n) : b64 ^ m ≤ 2 ^ n := by
  rw [b64_pow2]
  exact Nat.pow_le_pow_right (by decide) h
theorem num_lt_p {a : List Int} (da : Dig (b64 : Int) a) (ha : a.length ≤ 64) : num a < b64 ^ 64 := Nat.lt_of_lt_of_le (num_lt da) (Nat.pow_le_pow_right (show b64 > 0 by decide) ha)
/-- Three ways. -/
def cmpN (x y : Nat) : Int := if x < y then -1 else if x = y then 0 else 1
/-- Too long an answer. -/
def toldV (v : Nat) : List Int × Int := if v < b64 ^ 64 then (limbs v, 0) else ([], 4)
theorem limbs_long (v : Nat) : (limbs v).length ≤ 64 ↔ v < b64 ^ 64 := toD_len_iff b64_two v 64
/-- The number of what a number's digits are, limb by limb. -/
theorem val_base (l : List Int) (hl : Dig (b64 : Int) l) : ∃ m, Dig (b16 : Int) m ∧ m.length = 4 * l.length ∧ val (b16 : Int) m = val (b64 : Int) l ∧ m = l.flatMap (fun x => [x % 65536, x / 65536 % 65536, x / 65536 / 65536 % 65536, x / 65536 / 65536 / 65536 % 65536]) := by
  induction l with
  | nil => exact ⟨[], Dig.nil, rfl, rfl, rfl⟩
  | cons d l ih =>
    have h1 := Dig.cons.1 hl
    obtain ⟨m, hm, hlen, hv, he⟩ := ih h1.2
    refine ⟨[d % 65536, d / 65536 % 65536, d / 65536 / 65536 % 65536, d / 65536 / 65536 / 65536 % 65536] ++ m, ?_, ?_, ?_, ?_⟩
    · refine Dig.append.2 ⟨?_, hm⟩
      intro x hx
      simp only [List.mem_cons, List.not_mem_nil, or_false] at hx
      simp only [b16]
      omega
    · simp only [List.length_append, List.length_cons, List.length_nil, hlen]; omega
    · rw [val_append, hv]
      have h2 := h1.1
      simp only [b64] at h2 ⊢
      simp only [val, b16, List.length_cons, List.length_nil]
      omega
    · simp only [List.flatMap_cons, ← he]
end Go.Proofs.Ytikfgeieaadeiac.Z

namespace Go.Proofs.Ytikfgeieaadeiac.Z
open Go.RowKit Go.Proofs.Ytikfgeieaadeiac.F Go.Proofs.YtikfgeieaadeiacW.PrintWords
set_option linter.unusedSimpArgs false
set_option linter.unusedVariables false
theorem set_at {α : Type} (p : List α) (x v : α) (r : List α) : (p ++ x :: r).set p.length v = p ++ v :: r := by simp
end Go.Proofs.Ytikfgeieaadeiac.Z

namespace Go.Proofs.Ytikfgeieaadeiac.Z
open Go.RowKit Go.Proofs.Ytikfgeieaadeiac.F Go.Proofs.YtikfgeieaadeiacW.PrintWords Go.Proofs.YtikfgeieaadeiacW.PrintMore
set_option linter.unusedSimpArgs false
set_option linter.unusedVariables false
theorem val_set (B : Int) (l : List Int) : ∀ (i : Nat) (v : Int), i < l.length → val B (l.set i v) = val B l + B ^ i * (v - l.getD i 0) := by
  induction l with
  | nil => intro i v h; simp at h
  | cons d l ih =>
    intro i v h
    cases i with
    | zero => simp [val]; omega
    | succ i =>
      have h2 := ih i v (by simpa using h)
      simp only [List.set_cons_succ, val, h2, Int.pow_succ, List.getD_cons_succ]
      generalize l.getD i 0 = y
      generalize B ^ i = P
      generalize val B l = V
      grind
theorem dig_append_zero {B : Int} (hB : 0 < B) {l : List Int} (h : Dig B l) (n : Nat) : Dig B (l ++ List.replicate n 0) := Dig.append.2 ⟨h, Dig.replicate hB n⟩
theorem val_append_zero (B : Int) (l : List Int) (n : Nat) : val B (l ++ List.replicate n 0) = val B l := by rw [val_append, val_replicate, Int.mul_zero, Int.add_zero]
theorem getD_append_left {l m : List Int} {i : Nat} (h : i < l.length) : (l ++ m).getD i 0 = l.getD i 0 := by
  simp [List.getD_eq_getElem?_getD, List.getElem?_append_left h]
theorem set_append_left {l m : List Int} {i : Nat} {v : Int} (h : i < l.length) : (l ++ m).set i v = l.set i v ++ m := by
  rw [List.set_append, if_pos h]
theorem val_take_step (B : Int) (l : List Int) (i : Nat) (h : i < l.length) : val B (l.take (i + 1)) = val B (l.take i) + B ^ i * l[i] := by
  rw [List.take_succ_eq_append_getElem h, val_append]
  simp only [val, List.length_take]
  rw [show min i l.length = i from by omega, Int.mul_zero, Int.add_zero]
/-! ### Bits -/
theorem wraps_u64 (n : Int) (h0 : 0 ≤ n) (h1 : n < 2 ^ 64) : IntKind.u64.wrap n = n := wu64_of h0 (by omega)
theorem or_u64 {x y : Int} (s : Nat) (hs : s ≤ 64) (hx0 : 0 ≤ x) (hx : x % 2 ^ s = 0) (hx1 : x < 18446744073709551616) (hy0 : 0 ≤ y) (hy : y < 2 ^ s) : Go.bits .or .u64 x y = x + y := by
  have h2 : (2 : Int) ^ s ≤ 2 ^ 64 := pow_mono (by omega) hs
  exact bits_join .u64 64 (by decide) wraps_u64 s x y hx0 hx (by omega) hy0 hy (by omega)
theorem or_comm_u64 {x y : Int} (hx0 : 0 ≤ x) (hx1 : x < 18446744073709551616) (hy0 : 0 ≤ y) (hy1 : y < 18446744073709551616) : Go.bits .or .u64 x y = Go.bits .or .u64 y x := by
  obtain ⟨a, rfl⟩ := Int.eq_ofNat_of_zero_le hx0
  obtain ⟨b, rfl⟩ := Int.eq_ofNat_of_zero_le hy0
  rw [(bits_nat .u64 64 (by decide) wraps_u64 a b (by omega) (by omega)).2, (bits_nat .u64 64 (by decide) wraps_u64 b a (by omega) (by omega)).2, Nat.or_comm]
theorem shl_u64 (x : Int) (s : Nat) (hs : s ≤ 64) : shl .u64 x (s : Int) = (x * 2 ^ s) % 18446744073709551616 := by
  unfold shl
  rw [wu64]
  simp only [IntKind.bits, Int.toNat_natCast]
  rw [show min s 64 = s from by omega]
theorem shr_u64 (x : Int) (s : Nat) (hs : s ≤ 64) : shr .u64 x (s : Int) = x / 2 ^ s := by
  unfold shr
  simp only [IntKind.bits, Int.toNat_natCast]
  rw [show min s 64 = s from by omega]
theorem pow64_split {s : Nat} (hs : s ≤ 64) : (2 : Int) ^ s * 2 ^ (64 - s) = 18446744073709551616 := by
  rw [← Int.pow_add, show s + (64 - s) = 64 from by omega]
  decide
theorem pow2_pos (s : Nat) : (0 : Int) < 2 ^ s := Int.pow_pos (by omega)
/-- What a limb's bits, moved up, leave in the limb. -/
theorem shl_facts {x : Int} (hx : 0 ≤ x ∧ x < 18446744073709551616) {s : Nat} (hs : s ≤ 64) :
    (x * 2 ^ s) % 18446744073709551616 + 18446744073709551616 * (x / 2 ^ (64 - s)) = x * 2 ^ s ∧ ((x * 2 ^ s) % 18446744073709551616) % 2 ^ s = 0 ∧ 0 ≤ x / 2 ^ (64 - s) ∧ x / 2 ^ (64 - s) < 2 ^ s := by
  have hp := pow64_split hs
  have h1 := pow2_pos s
  have h2 := pow2_pos (64 - s)
  generalize (2 : Int) ^ s = P at *
  generalize (2 : Int) ^ (64 - s) = Q at *
  have h3 : (x * P) / 18446744073709551616 = x / Q := by
    rw [← hp, Int.mul_comm x P, Int.mul_ediv_mul_of_pos _ _ h1]
  refine ⟨?_, ?_, Int.ediv_nonneg hx.1 (by omega), ?_⟩
  · have := Int.emod_add_mul_ediv (x * P) 18446744073709551616
    rw [h3] at this
    exact this
  · rw [← hp]
    have := Int.mul_emod_mul_of_pos (a := P) x Q h1
    rw [Int.mul_comm x P, this]
    exact Int.mul_emod_right P _
  · apply Int.ediv_lt_of_lt_mul h2
    rw [hp]
    exact hx.2
end Go.Proofs.Ytikfgeieaadeiac.Z

namespace Go.Proofs.Ytikfgeieaadeiac.Z
open Go.RowKit Go.Proofs.YtikfgeieaadeiacW.PrintWords
set_option linter.unusedSimpArgs false
set_option linter.unusedVariables false
/-- How many bits. -/
def bl (n : Nat) : Nat := if n = 0 then 0 else n.log2 + 1
theorem bl_zero : bl 0 = 0 := rfl
theorem bl_lt (n : Nat) : n < 2 ^ bl n := by
  unfold bl
  by_cases h : n = 0
  · subst h; decide
  · rw [if_neg h]; exact Nat.lt_log2_self
theorem bl_ge {n : Nat} (h : n ≠ 0) : 2 ^ (bl n - 1) ≤ n := by
  unfold bl
  rw [if_neg h, Nat.add_sub_cancel]
  exact Nat.log2_self_le h
theorem bl_pos {n : Nat} (h : n ≠ 0) : 0 < bl n := by unfold bl; rw [if_neg h]; omega
theorem bl_unique {n m : Nat} (h1 : n < 2 ^ m) (h2 : m = 0 ∨ 2 ^ (m - 1) ≤ n) : bl n = m := by
  by_cases h : n = 0
  · subst h
    rcases h2 with h2 | h2
    · rw [h2]; rfl
    · have := Nat.pow_pos (a := 2) (n := m - 1) (by decide)
      omega
  · have a1 := bl_lt n
    have a2 := bl_ge h
    have a3 := bl_pos h
    have hm : 0 < m := by
      by_cases e : m = 0
      · subst e; simp at h1; omega
      · omega
    have b1 : bl n - 1 < m := (Nat.pow_lt_pow_iff_right (a := 2) (by decide)).1 (by omega)
    have b2 : m - 1 < bl n := by
      rcases h2 with h2 | h2
      · omega
      · exact (Nat.pow_lt_pow_iff_right (a := 2) (by decide)).1 (by omega)
    omega
theorem bl_shift (n s : Nat) (h : n / 2 ^ s ≠ 0) : bl n = s + bl (n / 2 ^ s) := by
  have a1 := bl_lt (n / 2 ^ s)
  have a2 := bl_ge h
  have a3 := bl_pos h
  have hp : 0 < 2 ^ s := Nat.pow_pos (by decide)
  refine bl_unique ?_ (Or.inr ?_)
  · rw [Nat.pow_add]
    have := Nat.lt_mul_of_div_lt a1 hp
    rw [Nat.mul_comm]
    exact this
  · rw [show s + bl (n / 2 ^ s) - 1 = s + (bl (n / 2 ^ s) - 1) from by omega, Nat.pow_add]
    have := Nat.mul_le_mul_left (2 ^ s) a2
    exact Nat.le_trans this (Nat.mul_div_le n (2 ^ s))
theorem bl_half {n : Nat} (h : n ≠ 0) : bl n = bl (n / 2) + 1 := by
  by_cases h1 : n / 2 = 0
  · have : n = 1 := by omega
    subst this
    decide
  · have := bl_shift n 1 (by simpa using h1)
    simp only [Nat.pow_one] at this
    omega
theorem bl_le {x m : Nat} (h : x < 2 ^ m) : bl x ≤ m := by
  by_cases hx : x = 0
  · subst hx; exact Nat.zero_le _
  · have a2 := bl_ge hx
    have a3 := bl_pos hx
    have : bl x - 1 < m := (Nat.pow_lt_pow_iff_right (a := 2) (by decide)).1 (by omega)
    omega
theorem bl_le8 {x : Nat} (h : x < 256) : bl x ≤ 8 := bl_le h
/-- The bits of a number. -/
def bitsV (a : List Int) : Int := if rightB a = true ∧ a.length ≠ 0 then 64 * ((a.length : Int) - 1) + ((bl (a.getD (a.length - 1) 0).toNat : Nat) : Int) else 0
end Go.Proofs.Ytikfgeieaadeiac.Z

namespace Go.Proofs.Ytikfgeieaadeiac.Z
open Go.RowKit Go.Proofs.Ytikfgeieaadeiac.F Go.Proofs.YtikfgeieaadeiacW.PrintWords
set_option linter.unusedSimpArgs false
set_option linter.unusedVariables false
theorem len8 : ∀ n : Fin 256, bt (⟨#[0, 1, 2, 2, 3, 3, 3, 3, 4, 4, 4, 4, 4, 4, 4, 4, 5, 5, 5, 5, 5, 5, 5, 5, 5, 5, 5, 5, 5, 5, 5, 5, 6, 6, 6, 6, 6, 6, 6, 6, 6, 6, 6, 6, 6, 6, 6, 6, 6, 6, 6, 6, 6, 6, 6, 6, 6, 6, 6, 6, 6, 6, 6, 6, 7, 7, 7, 7, 7, 7, 7, 7, 7, 7, 7, 7, 7, 7, 7, 7, 7, 7, 7, 7, 7, 7, 7, 7, 7, 7, 7, 7, 7, 7, 7, 7, 7, 7, 7, 7, 7, 7, 7, 7, 7, 7, 7, 7, 7, 7, 7, 7, 7, 7, 7, 7, 7, 7, 7, 7, 7, 7, 7, 7, 7, 7, 7, 7, 8, 8, 8, 8, 8, 8, 8, 8, 8, 8, 8, 8, 8, 8, 8, 8, 8, 8, 8, 8, 8, 8, 8, 8, 8, 8, 8, 8, 8, 8, 8, 8, 8, 8, 8, 8, 8, 8, 8, 8, 8, 8, 8, 8, 8, 8, 8, 8, 8, 8, 8, 8, 8, 8, 8, 8, 8, 8, 8, 8, 8, 8, 8, 8, 8, 8, 8, 8, 8, 8, 8, 8, 8, 8, 8, 8, 8, 8, 8, 8, 8, 8, 8, 8, 8, 8, 8, 8, 8, 8, 8, 8, 8, 8, 8, 8, 8, 8, 8, 8, 8, 8, 8, 8, 8, 8, 8, 8, 8, 8, 8, 8, 8, 8, 8, 8, 8, 8, 8, 8, 8, 8, 8, 8, 8, 8, 8, 8]⟩ : ByteArray) ((n.val : Nat) : Int) = ((bl n.val : Nat) : Int) := by decide +kernel
theorem len8_at {x : Int} (h0 : 0 ≤ x) (h1 : x < 256) : bt (⟨#[0, 1, 2, 2, 3, 3, 3, 3, 4, 4, 4, 4, 4, 4, 4, 4, 5, 5, 5, 5, 5, 5, 5, 5, 5, 5, 5, 5, 5, 5, 5, 5, 6, 6, 6, 6, 6, 6, 6, 6, 6, 6, 6, 6, 6, 6, 6, 6, 6, 6, 6, 6, 6, 6, 6, 6, 6, 6, 6, 6, 6, 6, 6, 6, 7, 7, 7, 7, 7, 7, 7, 7, 7, 7, 7, 7, 7, 7, 7, 7, 7, 7, 7, 7, 7, 7, 7, 7, 7, 7, 7, 7, 7, 7, 7, 7, 7, 7, 7, 7, 7, 7, 7, 7, 7, 7, 7, 7, 7, 7, 7, 7, 7, 7, 7, 7, 7, 7, 7, 7, 7, 7, 7, 7, 7, 7, 7, 7, 8, 8, 8, 8, 8, 8, 8, 8, 8, 8, 8, 8, 8, 8, 8, 8, 8, 8, 8, 8, 8, 8, 8, 8, 8, 8, 8, 8, 8, 8, 8, 8, 8, 8, 8, 8, 8, 8, 8, 8, 8, 8, 8, 8, 8, 8, 8, 8, 8, 8, 8, 8, 8, 8, 8, 8, 8, 8, 8, 8, 8, 8, 8, 8, 8, 8, 8, 8, 8, 8, 8, 8, 8, 8, 8, 8, 8, 8, 8, 8, 8, 8, 8, 8, 8, 8, 8, 8, 8, 8, 8, 8, 8, 8, 8, 8, 8, 8, 8, 8, 8, 8, 8, 8, 8, 8, 8, 8, 8, 8, 8, 8, 8, 8, 8, 8, 8, 8, 8, 8, 8, 8, 8, 8, 8, 8, 8, 8]⟩ : ByteArray) x = ((bl x.toNat : Nat) : Int) := by
  obtain ⟨n, rfl⟩ := Int.eq_ofNat_of_zero_le h0
  exact len8 ⟨n, by omega⟩
set_option maxRecDepth 100000 in
theorem len64_j {x : Int} (h0 : 0 ≤ x) (h1 : x < 4294967296) (c : Int) (hc : 0 ≤ c ∧ c ≤ 1000) : Evt (fun k => bits_Len64.j0 k x c) (c + ((bl x.toNat : Nat) : Int)) := by
  have key : ∀ (s : Nat) (y : Int), 0 ≤ y → y < 256 → (s ≤ 24) → (y = 0 → s = 0) → y = x / 2 ^ s → ((bl x.toNat : Nat) : Int) = (s : Int) + ((bl y.toNat : Nat) : Int) := by
    intro s y hy0 hy1 hs hz he
    have : bl x.toNat = s + bl y.toNat := by
      by_cases h : y = 0
      · have hs0 := hz h
        subst hs0
        simp at he
        rw [he, Nat.zero_add]
      · have e : y.toNat = x.toNat / 2 ^ s := by
          rw [he]
          have h2 : x = ((x.toNat : Nat) : Int) := by omega
          rw [h2]
          have h3 : ((2 : Int) ^ s) = ((2 ^ s : Nat) : Int) := by simp
          rw [h3, ← Int.natCast_ediv, Int.toNat_natCast, Int.toNat_natCast]
        rw [e]
        exact bl_shift x.toNat s (by rw [← e]; omega)
    omega
  refine Evt.succ ?_
  simp only [bits_Len64.j0]
  by_cases c1 : x ≥ 65536
  · refine Evt.ite_pos c1 ?_
    by_cases c2 : x / 65536 ≥ 256
    · refine Evt.ite_pos c2 (Evt.ite_pos (by omega) (Evt.ite_pos (by omega) ?_))
      have e : x / 65536 / 256 % 256 = x / 65536 / 256 := by omega
      rw [e, len8_at (by omega) (by omega)]
      have k1 := key 24 (x / 65536 / 256) (by omega) (by omega) (by omega) (by omega) (by rw [Int.ediv_ediv_of_nonneg (by omega)]; rfl)
      have k2 := bl_le8 (x := (x / 65536 / 256).toNat) (by omega)
      rw [w64 (show -9223372036854775808 ≤ c + 16 by omega) (by omega), w64 (show -9223372036854775808 ≤ c + 16 + 8 by omega) (by omega), w64 (show -9223372036854775808 ≤ ((bl (x / 65536 / 256).toNat : Nat) : Int) by omega) (by omega), w64 (by omega) (by omega), k1]
      refine (Evt.pure _).congr (fun k => rfl) (by omega)
    · refine Evt.ite_neg c2 (Evt.ite_pos (by omega) (Evt.ite_pos (by omega) ?_))
      have e : x / 65536 % 256 = x / 65536 := by omega
      rw [e, len8_at (by omega) (by omega)]
      have k1 := key 16 (x / 65536) (by omega) (by omega) (by omega) (by omega) rfl
      have k2 := bl_le8 (x := (x / 65536).toNat) (by omega)
      rw [w64 (show -9223372036854775808 ≤ c + 16 by omega) (by omega), w64 (show -9223372036854775808 ≤ ((bl (x / 65536).toNat : Nat) : Int) by omega) (by omega), w64 (by omega) (by omega), k1]
      refine (Evt.pure _).congr (fun k => rfl) (by omega)
  · refine Evt.ite_neg c1 ?_
    by_cases c2 : x ≥ 256
    · refine Evt.ite_pos c2 (Evt.ite_pos (by omega) (Evt.ite_pos (by omega) ?_))
      have e : x / 256 % 256 = x / 256 := by omega
      rw [e, len8_at (by omega) (by omega)]
      have k1 := key 8 (x / 256) (by omega) (by omega) (by omega) (by omega) rfl
      have k2 := bl_le8 (x := (x / 256).toNat) (by omega)
      rw [w64 (show -9223372036854775808 ≤ c + 8 by omega) (by omega), w64 (show -9223372036854775808 ≤ ((bl (x / 256).toNat : Nat) : Int) by omega) (by omega), w64 (by omega) (by omega), k1]
      refine (Evt.pure _).congr (fun k => rfl) (by omega)
    · refine Evt.ite_neg c2 (Evt.ite_pos (by omega) (Evt.ite_pos (by omega) ?_))
      have e : x % 256 = x := by omega
      rw [e, len8_at (by omega) (by omega)]
      have k2 := bl_le8 (x := x.toNat) (by omega)
      rw [w64 (show -9223372036854775808 ≤ ((bl x.toNat : Nat) : Int) by omega) (by omega), w64 (by omega) (by omega)]
      exact Evt.pure _
theorem bits_Len64_ev {x : Int} (h0 : 0 ≤ x) (h1 : x < 18446744073709551616) : Evt (fun k => bits_Len64.f k x) ((bl x.toNat : Nat) : Int) := by
  unfold bits_Len64.f
  by_cases c1 : x ≥ 4294967296
  · refine Evt.ite_pos c1 ?_
    refine (len64_j (x := x / 4294967296) (by omega) (by omega) 32 (by omega)).congr (fun k => rfl) ?_
    have e : (x / 4294967296).toNat = x.toNat / 2 ^ 32 := by omega
    have := bl_shift x.toNat 32 (by omega)
    rw [e]
    omega
  · refine Evt.ite_neg c1 ?_
    exact (len64_j (x := x) (by omega) (by omega) 0 (by omega)).congr (fun k => rfl) (by omega)
end Go.Proofs.Ytikfgeieaadeiac.Z

namespace Go.Proofs.Ytikfgeieaadeiac.Z
open Go.RowKit Go.Proofs.Ytikfgeieaadeiac.F Go.Proofs.YtikfgeieaadeiacW.PrintWords
set_option linter.unusedSimpArgs false
set_option linter.unusedVariables false
theorem nat_Bits_ev (a : List Int) (ha : a.length ≤ maxLen) (da : Dig (b64 : Int) a) : Evt (fun k => nat_Bits.f k a) (bitsV a) := by
  unfold nat_Bits.f bitsV
  rw [nat_Right_eq ha]
  simp only [Option.bind_some]
  cases hA : rightB a with
  | true =>
    obtain ⟨h1, c1⟩ := (rightB_iff a).1 hA
    refine Evt.ite_pos rfl ?_
    by_cases h0 : a.length = 0
    · rw [if_neg (fun h => h.2 h0)]
      exact Evt.ite_pos (by omega) (Evt.pure _)
    · rw [if_pos (show true = true ∧ a.length ≠ 0 from ⟨rfl, h0⟩)]
      rw [w64 (show -9223372036854775808 ≤ (a.length : Int) - 1 by omega) (by omega)]
      refine Evt.ite_neg (by omega) (Evt.ite_pos (by omega) (Evt.ite_pos (by omega) ?_))
      rw [rd_getD, show ((a.length : Int) - 1).toNat = a.length - 1 from by omega]
      have hr := da.getD b64_pos (a.length - 1)
      simp only [b64] at hr
      refine Evt.bind (bits_Len64_ev hr.1 hr.2) ?_
      have hb := bl_le (x := (a.getD (a.length - 1) 0).toNat) (m := 64) (by omega)
      rw [w64 (show -9223372036854775808 ≤ 64 * ((a.length : Int) - 1) by omega) (by omega), w64 (by omega) (by omega)]
      exact Evt.pure _
  | false =>
    rw [if_neg (by simp)]
    exact Evt.ite_neg (by simp) (Evt.pure _)
end Go.Proofs.Ytikfgeieaadeiac.Z

namespace Go.Proofs.Ytikfgeieaadeiac.Z
open Go.RowKit Go.Proofs.YtikfgeieaadeiacW.PrintWords
set_option linter.unusedSimpArgs false
set_option linter.unusedVariables false
/-! ### The bytes of a number -/
def b8 : Nat := 256
theorem b8_two : 2 ≤ b8 := by decide
theorem b8_pos : (0 : Int) < (b8 : Int) := by decide
abbrev byts (v : Nat) : List Int := toD b8 v
theorem b8_pow2 (m : Nat) : b8 ^ m = 2 ^ (8 * m) := by
  have h : b8 = 2 ^ 8 := by decide
  rw [h, ← Nat.pow_mul]
theorem toD_getD {B : Nat} (hB : 2 ≤ B) (i : Nat) : ∀ v : Nat, (toD B v).getD i 0 = ((v / B ^ i % B : Nat) : Int) := by
  induction i with
  | zero =>
    intro v
    by_cases hv : v = 0
    · subst hv; rw [toD_zero]; simp
    · rw [toD_pos hB (by omega)]; simp
  | succ i ih =>
    intro v
    by_cases hv : v = 0
    · subst hv; rw [toD_zero]; simp
    · rw [toD_pos hB (by omega), List.getD_cons_succ, ih, Nat.div_div_eq_div_mul, Nat.pow_succ, Nat.mul_comm (B ^ i)]
theorem byts_len_iff (v m : Nat) : (byts v).length ≤ m ↔ bl v ≤ 8 * m := by
  rw [toD_len_iff b8_two, b8_pow2]
  exact ⟨bl_le, fun h => Nat.lt_of_lt_of_le (bl_lt v) (Nat.pow_le_pow_right (by decide) h)⟩
theorem byts_len (v : Nat) : (byts v).length = (bl v + 7) / 8 := by
  have h1 := (byts_len_iff v ((bl v + 7) / 8)).2 (by omega)
  have h2 := (byts_len_iff v (byts v).length).1 (Nat.le_refl _)
  omega
theorem limb_at {a : List Int} (da : Dig (b64 : Int) a) (ca : Can a) (i : Nat) : a.getD i 0 = ((num a / b64 ^ i % b64 : Nat) : Int) := by
  have h := toD_getD b64_two i (num a)
  rw [show toD b64 (num a) = a from limbs_num da ca] at h
  exact h
theorem can_last {a : List Int} (ca : Can a) (h0 : a.length ≠ 0) : a.getD (a.length - 1) 0 ≠ 0 := by
  have h : a ≠ [] := fun e => h0 (by rw [e]; rfl)
  have h2 := ca h
  rw [List.getLast_eq_getElem] at h2
  rw [List.getD_eq_getElem?_getD, List.getElem?_eq_getElem (show a.length - 1 < a.length by omega)]
  exact h2
theorem bitsV_bl {a : List Int} (da : Dig (b64 : Int) a) (hA : rightB a = true) : bitsV a = ((bl (num a) : Nat) : Int) := by
  obtain ⟨h1, ca⟩ := (rightB_iff a).1 hA
  unfold bitsV
  by_cases h0 : a.length = 0
  · rw [if_neg (fun h => h.2 h0)]
    have e : a = [] := List.length_eq_zero_iff.1 h0
    subst e
    rfl
  · rw [if_pos ⟨hA, h0⟩]
    have e := limb_at da ca (a.length - 1)
    have hlt := num_lt da
    have hne := can_last ca h0
    have hl : num a / b64 ^ (a.length - 1) < b64 := by
      apply Nat.div_lt_of_lt_mul
      rw [← Nat.pow_succ, show (a.length - 1).succ = a.length from by omega]
      exact hlt
    rw [Nat.mod_eq_of_lt hl] at e
    rw [e] at hne ⊢
    rw [b64_pow2] at hne ⊢
    have h2 := bl_shift (num a) (64 * (a.length - 1)) (fun hh => hne (by rw [hh]; rfl))
    rw [h2, Int.toNat_natCast]
    omega
theorem byte_of (v q r : Nat) (hr : r < 8) : v / b64 ^ q % b64 / 2 ^ (8 * r) % 256 = v / b8 ^ (8 * q + r) % b8 := by
  have h : b64 = 2 ^ (8 * r) * 2 ^ (64 - 8 * r) := by
    rw [← Nat.pow_add, show 8 * r + (64 - 8 * r) = 64 from by omega]; decide
  have hd : (256 : Nat) ∣ 2 ^ (64 - 8 * r) := Nat.pow_dvd_pow 2 (show 8 ≤ 64 - 8 * r by omega)
  have e1 : v / b64 ^ q % b64 / 2 ^ (8 * r) = v / b64 ^ q / 2 ^ (8 * r) % 2 ^ (64 - 8 * r) := by
    generalize v / b64 ^ q = x
    rw [h, Nat.mod_mul_right_div_self]
  rw [e1, Nat.mod_mod_of_dvd _ hd, Nat.div_div_eq_div_mul, b64_pow2, b8_pow2, ← Nat.pow_add, show 64 * q + 8 * r = 8 * (8 * q + r) from by omega]
  rfl
theorem byts_num_len {a : List Int} (da : Dig (b64 : Int) a) : (byts (num a)).length ≤ 8 * a.length := by
  rw [byts_len_iff]
  apply bl_le
  have := num_lt da
  rw [b64_pow2] at this
  rw [show 8 * (8 * a.length) = 64 * a.length from by omega]
  exact this
theorem tdiv_nat (i : Nat) (c : Nat) : Int.tdiv (i : Int) (c : Int) = ((i / c : Nat) : Int) := by
  rw [Int.tdiv_eq_ediv_of_nonneg (by omega)]; simp
theorem tmod_nat (i : Nat) (c : Nat) : Int.tmod (i : Int) (c : Int) = ((i % c : Nat) : Int) := by
  rw [Int.tmod_eq_emod_of_nonneg (by omega)]; simp
/-- A number's bytes, the highest first. -/
def bytesV (a : List Int) : List Int := if rightB a = true then (byts (num a)).reverse else []
/-- The number of bytes, the highest first, without noughts ahead. -/
def readV (b : List Int) : List Int × Int := if b.length > 512 then ([], 4) else (limbs (val (b8 : Int) b.reverse).toNat, 0)
theorem val_b8_lt {b : List Int} (h : Dig (b8 : Int) b) (hl : b.length ≤ 512) : (val (b8 : Int) b.reverse).toNat < b64 ^ 64 := by
  have h1 : Dig (b8 : Int) b.reverse := fun x hx => h x (List.mem_reverse.1 hx)
  have h2 := val_lt b8_pos h1
  have h3 := val_nonneg b8_pos h1
  rw [pow_cast, List.length_reverse] at h2
  have h4 : b8 ^ b.length ≤ b64 ^ 64 := by
    rw [b8_pow2]
    exact pow2_le_b64 (by omega)
  omega
end Go.Proofs.Ytikfgeieaadeiac.Z

namespace Go.Proofs.Ytikfgeieaadeiac.Z
open Go.RowKit Go.Proofs.Ytikfgeieaadeiac.F Go.Proofs.YtikfgeieaadeiacW.PrintWords
set_option linter.unusedSimpArgs false
set_option linter.unusedVariables false
theorem set_back (n i : Nat) (h : i < n) (T : List Int) (x : Int) : (List.replicate (n - i) (0 : Int) ++ T).set (n - 1 - i) x = List.replicate (n - (i + 1)) 0 ++ (x :: T) := by
  obtain ⟨m, hm⟩ : ∃ m, n - i = m + 1 := ⟨n - i - 1, by omega⟩
  rw [hm, show n - 1 - i = m from by omega, show n - (i + 1) = m from by omega, List.replicate_succ', List.append_assoc, List.set_append_right _ _ (by simp)]
  simp
theorem nat_Bytes_loop (a : List Int) (da : Dig (b64 : Int) a) (ca : Can a) (ha : a.length ≤ 64) (m : Nat) : ∀ i : Nat, i ≤ (byts (num a)).length → (byts (num a)).length - i = m →
    Evt (fun k => nat_Bytes.l0 k a ((byts (num a)).length : Int) (List.replicate ((byts (num a)).length - i) 0 ++ ((byts (num a)).take i).reverse) ((byts (num a)).length : Int) (i : Int)) (byts (num a)).reverse := by
  have hn := byts_num_len da
  induction m with
  | zero =>
    intro i hi hm
    refine Evt.succ ?_
    simp only [nat_Bytes.l0]
    refine Evt.ite_neg (by omega) ?_
    rw [show (byts (num a)).length - i = 0 from hm, List.take_of_length_le (by omega)]
    exact Evt.pure _
  | succ m ih =>
    intro i hi hm
    have hlt : i < (byts (num a)).length := by omega
    refine Evt.succ ?_
    simp only [nat_Bytes.l0]
    have e1 : wrap64 (Int.tdiv (i : Int) 8) = ((i / 8 : Nat) : Int) := by
      rw [show (8 : Int) = ((8 : Nat) : Int) from rfl, tdiv_nat]
      exact w64 (by omega) (by omega)
    have e2 : wrap64 (8 * Int.tmod (i : Int) 8) = ((8 * (i % 8) : Nat) : Int) := by
      rw [show Int.tmod (i : Int) 8 = Int.tmod (i : Int) ((8 : Nat) : Int) from rfl, tmod_nat, w64 (by omega) (by omega)]
      omega
    have e3 : wrap64 (wrap64 (((byts (num a)).length : Int) - 1) - (i : Int)) = (((byts (num a)).length - 1 - i : Nat) : Int) := by
      rw [w64 (show -9223372036854775808 ≤ ((byts (num a)).length : Int) - 1 by omega) (by omega), w64 (by omega) (by omega)]
      omega
    rw [e1, e2, e3, w64 (show -9223372036854775808 ≤ (i : Int) + 1 by omega) (by omega)]
    refine Evt.ite_pos (by omega) (Evt.ite_pos (by omega) (Evt.ite_pos (by omega) (Evt.ite_pos (by omega) (Evt.ite_pos (by omega) (Evt.ite_pos (by simp; omega) ?_)))))
    rw [Int.toNat_natCast, set_back _ _ hlt, rd_nat, shr_u64 _ _ (by omega), limb_at da ca]
    have h := ih (i + 1) hlt (by omega)
    refine h.congr (fun k => ?_) rfl
    have hv : ((num a / b64 ^ (i / 8) % b64 : Nat) : Int) / 2 ^ (8 * (i % 8)) % 256 = (byts (num a))[i] := by
      have g := toD_getD b8_two i (num a)
      rw [List.getD_eq_getElem?_getD, List.getElem?_eq_getElem hlt] at g
      rw [show (byts (num a))[i] = ((num a / b8 ^ i % b8 : Nat) : Int) from g]
      have hb := byte_of (num a) (i / 8) (i % 8) (by omega)
      rw [show 8 * (i / 8) + i % 8 = i from by omega] at hb
      rw [← hb]
      simp
    rw [hv, List.take_succ_eq_append_getElem hlt, List.reverse_append]
    rfl
theorem nat_Bytes_ev (a : List Int) (ha : a.length ≤ maxLen) (da : Dig (b64 : Int) a) : Evt (fun k => nat_Bytes.f k a) (bytesV a) := by
  unfold nat_Bytes.f bytesV
  rw [nat_Right_eq ha]
  simp only [Option.bind_some]
  cases hA : rightB a with
  | true =>
    obtain ⟨h1, c1⟩ := (rightB_iff a).1 hA
    rw [if_pos rfl]
    refine Evt.ite_pos rfl ?_
    refine Evt.bind (nat_Bits_ev a ha da) ?_
    rw [bitsV_bl da hA]
    have hl := byts_len (num a)
    have hn := byts_num_len da
    have hb := (byts_len_iff (num a) (byts (num a)).length).1 (Nat.le_refl _)
    have e : wrap64 (Int.tdiv (wrap64 (((bl (num a) : Nat) : Int) + 7)) 8) = ((byts (num a)).length : Int) := by
      rw [w64 (show -9223372036854775808 ≤ ((bl (num a) : Nat) : Int) + 7 by omega) (by omega), show ((bl (num a) : Nat) : Int) + 7 = ((bl (num a) + 7 : Nat) : Int) from by omega, show (8 : Int) = ((8 : Nat) : Int) from rfl, tdiv_nat, w64 (by omega) (by omega), hl]
    rw [e]
    refine Evt.ite_pos (by omega) (Evt.ite_pos (by omega) ?_)
    have h := nat_Bytes_loop a da c1 h1 (byts (num a)).length 0 (Nat.zero_le _) (by omega)
    refine h.congr (fun k => ?_) rfl
    simp
  | false =>
    rw [if_neg (by simp)]
    exact Evt.ite_neg (by simp) (Evt.pure _)
end Go.Proofs.Ytikfgeieaadeiac.Z

namespace Go.Proofs.Ytikfgeieaadeiac.Z
open Go.RowKit Go.Proofs.Ytikfgeieaadeiac.F Go.Proofs.YtikfgeieaadeiacW.PrintWords
set_option linter.unusedSimpArgs false
set_option linter.unusedVariables false
theorem windbreakref01_cut_loop (l : List Int) (h : l.length ≤ maxLen) : ∀ n : Nat, n ≤ l.length → Evt (fun k => windbreakref01_cut.l0 k l (n : Int)) (strip (l.take n)) := by
  unfold maxLen at h
  intro n
  induction n with
  | zero =>
    intro _
    refine Evt.succ ?_
    simp only [windbreakref01_cut.l0]
    refine Evt.ite_neg (by omega) (Evt.ite_pos (by omega) (Evt.ite_pos (by omega) ?_))
    simp [strip]
    exact Evt.pure _
  | succ n ih =>
    intro hn
    refine Evt.succ ?_
    simp only [windbreakref01_cut.l0]
    rw [w64 (by omega) (by omega), show ((n + 1 : Nat) : Int) - 1 = (n : Int) from by omega]
    refine Evt.ite_pos (by omega) (Evt.ite_pos (by omega) (Evt.ite_pos (by omega) ?_))
    rw [rd_nat, List.take_succ_eq_append_getElem (show n < l.length by omega)]
    have hg : l.getD n 0 = l[n] := by simp [show n < l.length by omega]
    rw [hg]
    by_cases h0 : l[n] = 0
    · rw [h0, strip_snoc_zero]
      exact Evt.ite_pos rfl (ih (by omega))
    · rw [strip_snoc h0]
      refine Evt.ite_neg h0 (Evt.ite_pos (by omega) (Evt.ite_pos (by omega) ?_))
      rw [← List.take_succ_eq_append_getElem (show n < l.length by omega)]
      exact Evt.pure _
theorem windbreakref01_cut_ev (l : List Int) (h : l.length ≤ maxLen) : Evt (fun k => windbreakref01_cut.f k l) (strip l) := by
  have := windbreakref01_cut_loop l h l.length (Nat.le_refl _)
  exact this.congr (fun k => rfl) (by rw [List.take_length])
end Go.Proofs.Ytikfgeieaadeiac.Z

namespace Go.Proofs.Ytikfgeieaadeiac.Z
open Go.RowKit Go.Proofs.Ytikfgeieaadeiac.F Go.Proofs.YtikfgeieaadeiacW.PrintWords
set_option linter.unusedSimpArgs false
set_option linter.unusedVariables false
def dg (x : Int) : List Int := [x % 65536, x / 65536 % 65536, x / 65536 / 65536 % 65536, x / 65536 / 65536 / 65536 % 65536]
theorem wdiv {x : Int} (h0 : 0 ≤ x) (h1 : x < 18446744073709551616) (c : Int) (hc : 0 < c) : IntKind.u64.wrap (Int.tdiv x c) = x / c := by
  rw [Int.tdiv_eq_ediv_of_nonneg h0]
  have h2 := Int.ediv_nonneg h0 (Int.le_of_lt hc)
  have h3 := Int.ediv_le_self c h0
  exact wu64_of h2 (by omega)
theorem in_step (a d : List Int) (i : Nat) (x : Int) (hx : 0 ≤ x ∧ x < 18446744073709551616) (hd : d.length ≤ 1000000) (hi : i ≤ 1000000) {r : List Int}
    (h : Evt (fun k => windbreakref01_In.l0 k a (d ++ dg x) ((i + 1 : Nat) : Int)) r) : Evt (fun k => windbreakref01_In.l1 k a d (i : Int) x 0) r := by
  refine Evt.succ ?_
  simp only [windbreakref01_In.l1]
  refine Evt.ite_pos (by omega) (Evt.ite_pos (by omega) ?_)
  rw [Int.tmod_eq_emod_of_nonneg hx.1, wdiv hx.1 hx.2 65536 (by omega), w64 (by omega) (by omega)]
  refine Evt.succ ?_
  simp only [windbreakref01_In.l1]
  refine Evt.ite_pos (by omega) (Evt.ite_pos (by simp; omega) ?_)
  rw [Int.tmod_eq_emod_of_nonneg (show 0 ≤ x / 65536 by omega), wdiv (show 0 ≤ x / 65536 by omega) (by omega) 65536 (by omega), w64 (by omega) (by omega)]
  refine Evt.succ ?_
  simp only [windbreakref01_In.l1]
  refine Evt.ite_pos (by omega) (Evt.ite_pos (by simp; omega) ?_)
  rw [Int.tmod_eq_emod_of_nonneg (show 0 ≤ x / 65536 / 65536 by omega), wdiv (show 0 ≤ x / 65536 / 65536 by omega) (by omega) 65536 (by omega), w64 (by omega) (by omega)]
  refine Evt.succ ?_
  simp only [windbreakref01_In.l1]
  refine Evt.ite_pos (by omega) (Evt.ite_pos (by simp; omega) ?_)
  rw [Int.tmod_eq_emod_of_nonneg (show 0 ≤ x / 65536 / 65536 / 65536 by omega), wdiv (show 0 ≤ x / 65536 / 65536 / 65536 by omega) (by omega) 65536 (by omega), w64 (by omega) (by omega)]
  refine Evt.succ ?_
  simp only [windbreakref01_In.l1]
  refine Evt.ite_neg (by omega) ?_
  rw [w64 (by omega) (by omega)]
  refine h.congr (fun k => ?_) rfl
  simp [dg]
theorem in_loop (a : List Int) (ha : a.length ≤ 1000) (hd : Dig (b64 : Int) a) (n : Nat) : ∀ i : Nat, i ≤ a.length → a.length - i = n → Evt (fun k => windbreakref01_In.l0 k a ((a.take i).flatMap dg) (i : Int)) (strip (a.flatMap dg)) := by
  have hlen : ∀ l : List Int, (l.flatMap dg).length = 4 * l.length := by
    intro l
    induction l with
    | nil => rfl
    | cons x l ih => simp only [List.flatMap_cons, List.length_append, ih, dg, List.length_cons, List.length_nil]; omega
  induction n with
  | zero =>
    intro i hi hn
    refine Evt.succ ?_
    simp only [windbreakref01_In.l0]
    refine Evt.ite_neg (by omega) ?_
    rw [List.take_of_length_le (by omega)]
    refine Evt.bind (windbreakref01_cut_ev _ (by rw [hlen]; simp [maxLen]; omega)) (h := fun t _ => some t) (Evt.pure _)
  | succ n ih =>
    intro i hi hn
    have hlt : i < a.length := by omega
    refine Evt.succ ?_
    simp only [windbreakref01_In.l0]
    refine Evt.ite_pos (by omega) (Evt.ite_pos (by omega) ?_)
    have hx : rd a (i : Int) = a[i] := by simp [rd_nat, hlt]
    have hr := hd a[i] (List.getElem_mem hlt)
    rw [hx]
    refine in_step a _ i _ hr (by rw [hlen, List.length_take]; omega) (by omega) ?_
    have := ih (i + 1) (by omega) (by omega)
    rw [List.take_succ_eq_append_getElem hlt, List.flatMap_append] at this
    refine this.congr (fun k => ?_) rfl
    simp
theorem ref_In_ev (a : List Int) (ha : a.length ≤ 1000) (hd : Dig (b64 : Int) a) : Evt (fun k => windbreakref01_In.f k a) (digs (num a)) := by
  have h := in_loop a ha hd a.length 0 (Nat.zero_le _) (by omega)
  obtain ⟨m, hm, _, hv, he⟩ := val_base a hd
  refine h.congr (fun k => rfl) ?_
  have e2 : a.flatMap dg = m := he.symm
  rw [e2, strip_digs hm]
  unfold num16 num
  rw [hv]
end Go.Proofs.Ytikfgeieaadeiac.Z

namespace Go.Proofs.Ytikfgeieaadeiac.Z
open Go.RowKit Go.Proofs.Ytikfgeieaadeiac.F Go.Proofs.YtikfgeieaadeiacW.PrintWords
set_option linter.unusedSimpArgs false
set_option linter.unusedVariables false
theorem windbreakref01_Right_eq {l : List Int} (h : l.length ≤ maxLen) : windbreakref01_Right.f l = some (rightB l) := by
  unfold maxLen at h
  unfold windbreakref01_Right.f rightB
  by_cases h1 : l.length ≤ 64
  · rw [if_pos (by omega)]
    by_cases h2 : l.length = 0
    · rw [if_pos (by omega)]
      simp [h1, h2]
    · rw [if_neg (by omega), w64 (by omega) (by omega), if_pos (by omega), if_pos (by omega), rd_getD]
      rw [show ((l.length : Int) - 1).toNat = l.length - 1 from by omega]
      have h3 : (l.length == 0) = false := by simpa using h2
      rw [h3]
      simp [h1]
  · rw [if_neg (by omega)]
    simp [h1]
end Go.Proofs.Ytikfgeieaadeiac.Z

namespace Go.Proofs.Ytikfgeieaadeiac.Z
open Go.RowKit Go.Proofs.Ytikfgeieaadeiac.F Go.Proofs.YtikfgeieaadeiacW.PrintWords
set_option linter.unusedSimpArgs false
set_option linter.unusedVariables false
theorem byts_step {u x : Nat} (hx : x < 65536) (h : 0 < u) : (byts (u * 65536 + x)).reverse = (byts u).reverse ++ [((x / 256 : Nat) : Int)] ++ [((x % 256 : Nat) : Int)] := by
  rw [show byts (u * 65536 + x) = (((u * 65536 + x) % b8 : Nat) : Int) :: toD b8 ((u * 65536 + x) / b8) from toD_pos b8_two (by omega)]
  rw [toD_pos b8_two (v := (u * 65536 + x) / b8) (by simp only [b8]; omega)]
  rw [show (u * 65536 + x) % b8 = x % 256 from by simp only [b8]; omega, show (u * 65536 + x) / b8 % b8 = x / 256 from by simp only [b8]; omega, show (u * 65536 + x) / b8 / b8 = u from by simp only [b8]; omega]
  simp
theorem byts_two {x : Nat} (hx : x < 65536) (h : 255 < x) : (byts x).reverse = [((x / 256 : Nat) : Int)] ++ [((x % 256 : Nat) : Int)] := by
  rw [show byts x = ((x % b8 : Nat) : Int) :: toD b8 (x / b8) from toD_pos b8_two (by omega)]
  rw [toD_pos b8_two (v := x / b8) (by simp only [b8]; omega)]
  rw [show x / b8 / b8 = 0 from by simp only [b8]; omega, toD_zero, show x / b8 % b8 = x / 256 from by simp only [b8]; omega]
  simp [b8]
theorem byts_one {x : Nat} (h0 : 0 < x) (h : x ≤ 255) : (byts x).reverse = [((x % 256 : Nat) : Int)] := by
  rw [show byts x = ((x % b8 : Nat) : Int) :: toD b8 (x / b8) from toD_pos b8_two h0]
  rw [show x / b8 = 0 from by simp only [b8]; omega, toD_zero]
  simp [b8]
theorem ref_Bytes_loop (v : Nat) (hv : v < lim) : ∀ i : Nat, i ≤ (digs v).length →
    Evt (fun k => windbreakref01_Bytes.l0 k (digs v) (byts (v / b16 ^ i)).reverse ((i : Int) - 1)) (byts v).reverse := by
  have hd := digs_len hv
  intro i
  induction i with
  | zero =>
    intro _
    refine Evt.succ ?_
    simp only [windbreakref01_Bytes.l0]
    refine Evt.ite_neg (by omega) ?_
    simp only [Nat.pow_zero, Nat.div_one]
    exact Evt.pure _
  | succ i ih =>
    intro hi
    have hs := ih (by omega)
    refine Evt.succ ?_
    simp only [windbreakref01_Bytes.l0]
    rw [show ((i + 1 : Nat) : Int) - 1 = (i : Int) from by omega, rd_nat, toD_getD b16_two, w64 (by omega) (by omega)]
    have hx : v / b16 ^ i % b16 < 65536 := Nat.mod_lt _ (by decide)
    have hu : v / b16 ^ i = v / b16 ^ (i + 1) * 65536 + v / b16 ^ i % b16 := by
      rw [Nat.pow_succ, ← Nat.div_div_eq_div_mul]
      have := Nat.div_add_mod (v / b16 ^ i) b16
      simp only [b16] at this ⊢
      omega
    obtain ⟨N, hN⟩ : ∃ N : Nat, N = 8000 := ⟨_, rfl⟩
    have hlen : (byts (v / b16 ^ (i + 1))).length ≤ N := by
      refine toD_len_le b8_two ?_
      have h1 : v / b16 ^ (i + 1) ≤ v := Nat.div_le_self _ _
      have h2 : v < b16 ^ (digs v).length := toD_lt_pow b16_two v
      have h3 : b16 ^ (digs v).length ≤ b8 ^ N := by
        rw [show b16 = b8 ^ 2 from by decide, ← Nat.pow_mul]
        exact Nat.pow_le_pow_right (by decide) (by omega)
      exact Nat.lt_of_le_of_lt h1 (Nat.lt_of_lt_of_le h2 h3)
    have ht : i + 1 = (digs v).length → 0 < v / b16 ^ i % b16 := by
      intro he
      have e0 : (toD b16 v).length = i + 1 := he.symm
      have h1 := can_last (toD_can b16_two v) (show (toD b16 v).length ≠ 0 by omega)
      rw [show (toD b16 v).length - 1 = i from by omega, toD_getD b16_two] at h1
      omega
    have hz : v / b16 ^ (i + 1) = 0 → i + 1 = (digs v).length := by
      intro he
      have h1 : v < b16 ^ (i + 1) := (Nat.div_eq_zero_iff_lt (Nat.pow_pos (by decide))).1 he
      have h2 := toD_len_le b16_two h1
      have h3 : (digs v).length = (toD b16 v).length := rfl
      omega
    rw [hu] at hs
    generalize v / b16 ^ i % b16 = x at *
    generalize v / b16 ^ (i + 1) = u at *
    have ed : IntKind.u64.wrap (Int.tdiv (x : Int) 256) % 256 = ((x / 256 : Nat) : Int) := by
      rw [show (256 : Int) = ((256 : Nat) : Int) from rfl, tdiv_nat, wu64_of (by omega) (by omega)]
      omega
    have em : Int.tmod (x : Int) 256 % 256 = ((x % 256 : Nat) : Int) := by
      rw [show (256 : Int) = ((256 : Nat) : Int) from rfl, tmod_nat]
      omega
    rw [ed, em]
    refine Evt.ite_pos (by omega) ?_
    by_cases h0 : u = 0
    · subst h0
      have hx0 := ht (hz rfl)
      rw [show byts 0 = [] from toD_zero b8]
      refine Evt.ite_neg (by simp) (Evt.ite_pos (by omega) (Evt.ite_pos (by omega) ?_))
      rw [Nat.zero_mul, Nat.zero_add] at hs
      by_cases h1 : (x : Int) > 255
      · refine Evt.ite_pos h1 (Evt.ite_pos (by simp) ?_)
        rw [byts_two hx (by omega)] at hs
        refine Evt.bind (Evt.pure _) (Evt.ite_pos (by simp) ?_)
        exact hs
      · refine Evt.ite_neg h1 (Evt.ite_pos (by simp) ?_)
        rw [byts_one hx0 (by omega)] at hs
        exact hs
    · have hp : 0 < (byts u).length := by
        refine List.length_pos_iff.2 (fun e => h0 ((toD_eq_nil b8_two).1 e))
      refine Evt.ite_pos (by simp; omega) (Evt.ite_pos (by omega) (Evt.ite_pos (by omega) (Evt.ite_pos (by simp; omega) ?_)))
      rw [byts_step hx (by omega)] at hs
      refine Evt.bind (Evt.pure _) (Evt.ite_pos (by simp; omega) ?_)
      exact hs
theorem ref_Bytes_ev (a : List Int) (ha : a.length ≤ maxLen) (da : Dig (b64 : Int) a) : Evt (fun k => windbreakref01_Bytes.f k a) (bytesV a) := by
  unfold windbreakref01_Bytes.f bytesV
  rw [windbreakref01_Right_eq ha]
  simp only [Option.bind_some]
  cases hA : rightB a with
  | true =>
    obtain ⟨h1, c1⟩ := (rightB_iff a).1 hA
    rw [if_pos rfl]
    refine Evt.ite_pos rfl ?_
    refine Evt.bind (ref_In_ev a (by omega) da) ?_
    have hv := num_lt_lim da (by omega)
    have hd := digs_len hv
    have hl := ref_Bytes_loop (num a) hv (digs (num a)).length (Nat.le_refl _)
    rw [(Nat.div_eq_zero_iff_lt (Nat.pow_pos (by decide))).2 (toD_lt_pow b16_two (num a)), show byts 0 = [] from toD_zero b8] at hl
    rw [w64 (by omega) (by omega)]
    exact hl
  | false =>
    rw [if_neg (by simp)]
    exact Evt.ite_neg (by simp) (Evt.pure _)
end Go.Proofs.Ytikfgeieaadeiac.Z

namespace Go.Proofs.Ytikfgeieaadeiac.Z
open Go.RowKit Go.Proofs.Ytikfgeieaadeiac.F Go.Proofs.YtikfgeieaadeiacW.PrintWords
set_option linter.unusedSimpArgs false
set_option linter.unusedVariables false
theorem nat_trim_loop (l : List Int) (h : l.length ≤ maxLen) : ∀ n : Nat, n ≤ l.length → Evt (fun k => nat_trim.l0 k l (n : Int)) (strip (l.take n)) := by
  unfold maxLen at h
  intro n
  induction n with
  | zero =>
    intro _
    refine Evt.succ ?_
    simp only [nat_trim.l0]
    refine Evt.ite_neg (by omega) (Evt.ite_pos (by omega) (Evt.ite_pos (by omega) ?_))
    simp [strip]
    exact Evt.pure _
  | succ n ih =>
    intro hn
    refine Evt.succ ?_
    simp only [nat_trim.l0]
    rw [w64 (by omega) (by omega), show ((n + 1 : Nat) : Int) - 1 = (n : Int) from by omega]
    refine Evt.ite_pos (by omega) (Evt.ite_pos (by omega) (Evt.ite_pos (by omega) ?_))
    rw [rd_nat, List.take_succ_eq_append_getElem (show n < l.length by omega)]
    have hg : l.getD n 0 = l[n] := by simp [show n < l.length by omega]
    rw [hg]
    by_cases h0 : l[n] = 0
    · rw [h0, strip_snoc_zero]
      exact Evt.ite_pos rfl (ih (by omega))
    · rw [strip_snoc h0]
      refine Evt.ite_neg h0 (Evt.ite_pos (by omega) (Evt.ite_pos (by omega) ?_))
      rw [← List.take_succ_eq_append_getElem (show n < l.length by omega)]
      exact Evt.pure _
theorem nat_trim_ev (l : List Int) (h : l.length ≤ maxLen) : Evt (fun k => nat_trim.f k l) (strip l) := by
  have := nat_trim_loop l h l.length (Nat.le_refl _)
  exact this.congr (fun k => rfl) (by rw [List.take_length])
end Go.Proofs.Ytikfgeieaadeiac.Z

namespace Go.Proofs.Ytikfgeieaadeiac.Z
open Go.RowKit Go.Proofs.Ytikfgeieaadeiac.F Go.Proofs.YtikfgeieaadeiacW.PrintWords
set_option linter.unusedSimpArgs false
set_option linter.unusedVariables false
theorem nat_told_ev (l : List Int) (h : l.length ≤ 1000000) (d : Dig (b64 : Int) l) : Evt (fun k => nat_told.f k l) (toldV (num l)) := by
  unfold nat_told.f toldV
  refine Evt.bind (nat_trim_ev l (by simp [maxLen]; omega)) ?_
  rw [strip_limbs d]
  have hl := limbs_long (num l)
  by_cases h1 : num l < b64 ^ 64
  · rw [if_pos h1]
    have := hl.2 h1
    exact Evt.ite_neg (by omega) (Evt.pure _)
  · rw [if_neg h1]
    have : ¬ (limbs (num l)).length ≤ 64 := fun hh => h1 (hl.1 hh)
    exact Evt.ite_pos (by omega) (Evt.pure _)
end Go.Proofs.Ytikfgeieaadeiac.Z

namespace Go.Proofs.Ytikfgeieaadeiac.Z
open Go.RowKit Go.Proofs.Ytikfgeieaadeiac.F Go.Proofs.YtikfgeieaadeiacW.PrintWords
set_option linter.unusedSimpArgs false
set_option linter.unusedVariables false
theorem pow_b64_b8 (q r : Nat) : (b64 : Int) ^ q * 2 ^ (8 * r) = (b8 : Int) ^ (8 * q + r) := by
  rw [pow_cast, pow_cast, show (2 : Int) ^ (8 * r) = ((2 ^ (8 * r) : Nat) : Int) from by simp, ← Int.natCast_mul]
  congr 1
  rw [b64_pow2, b8_pow2, ← Nat.pow_add]
  congr 1
  omega
/-- What a limb may hold behind i bytes. -/
def room (i j : Nat) : Int := 2 ^ (8 * min 8 (i - 8 * j))
theorem room_mono (i j : Nat) : room i j ≤ room (i + 1) j := pow_mono (by omega) (by omega)
theorem room_max (i j : Nat) : room i j ≤ 18446744073709551616 := by
  have h : (2 : Int) ^ (8 * min 8 (i - 8 * j)) ≤ 2 ^ 64 := pow_mono (by omega) (by omega)
  exact h
theorem nat_Read_loop (b : List Int) (hb : b.length ≤ 512) (db : Dig (b8 : Int) b) {r : List Int × Int} (n : Nat) : ∀ (i : Nat) (out : List Int), i ≤ b.length → b.length - i = n → out.length = (b.length + 7) / 8 →
    (∀ j : Nat, 0 ≤ out.getD j 0 ∧ out.getD j 0 < room i j) → val (b64 : Int) out = val (b8 : Int) (b.reverse.take i) →
    (∀ o : List Int, o.length = (b.length + 7) / 8 → Dig (b64 : Int) o → val (b64 : Int) o = val (b8 : Int) b.reverse → Evt (fun k => (nat_told.f k o).bind fun t => some (t.1, t.2)) r) →
    Evt (fun k => nat_Read.l0 k b out (b.length : Int) (i : Int)) r := by
  induction n with
  | zero =>
    intro i out hi hn hl hj hv fin
    refine Evt.succ ?_
    simp only [nat_Read.l0]
    refine Evt.ite_neg (by omega) ?_
    rw [List.take_of_length_le (by simp; omega)] at hv
    refine fin out hl (fun x hx => ?_) hv
    obtain ⟨j, hj1, rfl⟩ := List.getElem_of_mem hx
    have h1 := hj j
    have h2 := room_max i j
    rw [List.getD_eq_getElem?_getD, List.getElem?_eq_getElem hj1] at h1
    simp only [Option.getD_some] at h1
    simp only [b64]
    omega
  | succ n ih =>
    intro i out hi hn hl hj hv fin
    have hlt : i < b.length := by omega
    refine Evt.succ ?_
    simp only [nat_Read.l0]
    have e1 : wrap64 (Int.tdiv (i : Int) 8) = ((i / 8 : Nat) : Int) := by
      rw [show (8 : Int) = ((8 : Nat) : Int) from rfl, tdiv_nat]
      exact w64 (by omega) (by omega)
    have e2 : wrap64 (8 * Int.tmod (i : Int) 8) = ((8 * (i % 8) : Nat) : Int) := by
      rw [show Int.tmod (i : Int) 8 = Int.tmod (i : Int) ((8 : Nat) : Int) from rfl, tmod_nat, w64 (by omega) (by omega)]
      omega
    have e3 : wrap64 (wrap64 ((b.length : Int) - 1) - (i : Int)) = ((b.length - 1 - i : Nat) : Int) := by
      rw [w64 (show -9223372036854775808 ≤ (b.length : Int) - 1 by omega) (by omega), w64 (by omega) (by omega)]
      omega
    rw [e1, e2, e3, w64 (show -9223372036854775808 ≤ (i : Int) + 1 by omega) (by omega)]
    refine Evt.ite_pos (by omega) (Evt.ite_pos (by omega) (Evt.ite_pos (by omega) (Evt.ite_pos (by omega) (Evt.ite_pos (by omega) ?_))))
    have hx := db.getD b8_pos (b.length - 1 - i)
    have hR : b.reverse[i]'(by simp; omega) = b.getD (b.length - 1 - i) 0 := by
      rw [List.getElem_reverse, List.getD_eq_getElem?_getD, List.getElem?_eq_getElem (show b.length - 1 - i < b.length by omega)]
      rfl
    have ho := hj (i / 8)
    rw [rd_nat, rd_nat, Int.toNat_natCast]
    generalize hxx : b.getD (b.length - 1 - i) 0 = x at *
    simp only [b8] at hx
    have hs : (2 : Int) ^ (8 * (i % 8)) * 256 ≤ 18446744073709551616 := by
      have h : (2 : Int) ^ (8 * (i % 8) + 8) ≤ 2 ^ 64 := pow_mono (by omega) (by omega)
      rw [Int.pow_add] at h
      exact h
    have hp := pow2_pos (8 * (i % 8))
    have hr0 : room i (i / 8) = 2 ^ (8 * (i % 8)) := by
      unfold room
      rw [show min 8 (i - 8 * (i / 8)) = i % 8 from by omega]
    have hr1 : room (i + 1) (i / 8) = 2 ^ (8 * (i % 8)) * 256 := by
      unfold room
      rw [show 8 * min 8 (i + 1 - 8 * (i / 8)) = 8 * (i % 8) + 8 from by omega, Int.pow_add]
      rfl
    rw [hr0] at ho
    have hxm : x * 2 ^ (8 * (i % 8)) ≤ 255 * 2 ^ (8 * (i % 8)) := Int.mul_le_mul_of_nonneg_right (by omega) (by omega)
    have hx0 : 0 ≤ x * 2 ^ (8 * (i % 8)) := Int.mul_nonneg hx.1 (by omega)
    have hmod : (x * 2 ^ (8 * (i % 8))) % 2 ^ (8 * (i % 8)) = 0 := Int.mul_emod_left _ _
    rw [wu64_of hx.1 (by omega), shl_u64 _ _ (by omega), Int.emod_eq_of_lt hx0 (by omega)]
    have hor : Go.bits .or .u64 (out.getD (i / 8) 0) (x * 2 ^ (8 * (i % 8))) = out.getD (i / 8) 0 + x * 2 ^ (8 * (i % 8)) := by
      rw [or_comm_u64 ho.1 (by omega) hx0 (by omega), or_u64 (8 * (i % 8)) (by omega) hx0 hmod (by omega) ho.1 ho.2, Int.add_comm]
    rw [hor]
    refine ih (i + 1) (out.set (i / 8) (out.getD (i / 8) 0 + x * 2 ^ (8 * (i % 8)))) hlt (by omega) (by simp; exact hl) (fun j => ?_) ?_ fin
    · by_cases hji : j = i / 8
      · subst hji
        rw [List.getD_eq_getElem?_getD, List.getElem?_set_self (by omega)]
        simp only [Option.getD_some]
        rw [hr1]
        omega
      · have h1 := hj j
        have h2 := room_mono i j
        rw [List.getD_eq_getElem?_getD] at h1 ⊢
        rw [List.getElem?_set_ne (by omega)]
        omega
    · rw [val_set _ _ _ _ (by omega), hv, val_take_step _ _ _ (by simp; omega), hR]
      have h3 := pow_b64_b8 (i / 8) (i % 8)
      rw [show 8 * (i / 8) + i % 8 = i from by omega] at h3
      rw [← h3]
      generalize out.getD (i / 8) 0 = o
      generalize (b64 : Int) ^ (i / 8) = P
      generalize (2 : Int) ^ (8 * (i % 8)) = Q
      grind
theorem nat_Read_ev (b : List Int) (hb : b.length ≤ maxLen) (db : Dig (b8 : Int) b) (k : Nat) (hk : k ≤ b.length) (hz : ∀ j, j < k → b.getD j 0 = 0) (hn : k < b.length → b.getD k 0 ≠ 0) : Evt (fun m => nat_Read.f m b) (readV (b.drop k)) := by
  have hbl : b.length ≤ 9223372036854775807 := by simp only [maxLen] at hb; omega
  unfold nat_Read.f readV
  simp only [nat_Read_ix.f, Option.bind_some]
  have hg : nat_Read_ix.g b 0 = (if k < b.length then (k : Int) else -1) := by
    rcases nat_Read_ix.g_of b 0 with ⟨h1, h2⟩ | ⟨q, h1, h2, h3, h4⟩
    · by_cases h : k < b.length
      · exact absurd (h2 k h) (hn h)
      · rw [if_neg h, h1]
    · by_cases h : k < b.length
      · rw [if_pos h, h2]
        have a1 : ¬ q < k := fun hq => h3 (hz q hq)
        have a2 : ¬ k < q := fun hq => hn h (h4 k hq)
        omega
      · exact absurd (hz q (by omega)) h3
  rw [hg]
  by_cases h : k < b.length
  · rw [if_pos h]
    refine Evt.ite_neg (by omega) (Evt.ite_pos (by omega) (Evt.ite_pos (by omega) ?_))
    rw [Int.toNat_natCast]
    have dc : Dig (b8 : Int) (b.drop k) := db.drop k
    generalize b.drop k = c at *
    by_cases hc : c.length > 512
    · rw [if_pos hc]
      exact Evt.ite_pos (by omega) (Evt.pure _)
    · rw [if_neg hc]
      have e : wrap64 (Int.tdiv (wrap64 ((c.length : Int) + 7)) 8) = (((c.length + 7) / 8 : Nat) : Int) := by
        rw [w64 (show -9223372036854775808 ≤ (c.length : Int) + 7 by omega) (by omega), show (c.length : Int) + 7 = ((c.length + 7 : Nat) : Int) from by omega, show (8 : Int) = ((8 : Nat) : Int) from rfl, tdiv_nat, w64 (by omega) (by omega)]
      rw [e]
      refine Evt.ite_neg (by omega) (Evt.ite_pos (by omega) (Evt.ite_pos (by omega) ?_))
      rw [Int.toNat_natCast]
      refine nat_Read_loop c (by omega) dc c.length 0 _ (Nat.zero_le _) (by omega) (by simp) (fun j => ?_) ?_ ?_
      · have e0 : (List.replicate ((c.length + 7) / 8) (0 : Int)).getD j 0 = 0 := by
          rw [List.getD_eq_getElem?_getD, List.getElem?_replicate]
          split <;> rfl
        rw [e0]
        exact ⟨Int.le_refl _, Int.pow_pos (by omega)⟩
      · rw [val_replicate]; rfl
      · intro o ho do_ hv
        have ht := nat_told_ev o (by omega) do_
        have hnum : num o = (val (b8 : Int) c.reverse).toNat := by unfold num; rw [hv]
        rw [hnum] at ht
        have hlt := val_b8_lt dc (by omega)
        unfold toldV at ht
        rw [if_pos hlt] at ht
        exact Evt.bind ht (h := fun t _ => some (t.1, t.2)) (Evt.pure _)
  · rw [if_neg h, show b.drop k = [] from List.drop_of_length_le (by omega)]
    refine Evt.ite_pos (by omega) ?_
    rw [if_neg (by simp)]
    have e : limbs (val (b8 : Int) ([] : List Int).reverse).toNat = [] := toD_zero b64
    rw [e]
    exact Evt.pure _
end Go.Proofs.Ytikfgeieaadeiac.Z

namespace Go.Proofs.Ytikfgeieaadeiac.Z
open Go.RowKit Go.Proofs.Ytikfgeieaadeiac.F Go.Proofs.YtikfgeieaadeiacW.PrintWords
set_option linter.unusedSimpArgs false
set_option linter.unusedVariables false
theorem strip_split (l : List Int) : ∃ n, l = strip l ++ List.replicate n 0 := by
  induction l with
  | nil => exact ⟨0, rfl⟩
  | cons d l ih =>
    obtain ⟨n, hn⟩ := ih
    simp only [strip]
    by_cases h : strip l = []
    · rw [if_pos h]
      rw [h, List.nil_append] at hn
      by_cases h0 : d = 0
      · rw [if_pos h0]
        refine ⟨n + 1, ?_⟩
        rw [h0, List.replicate_succ, List.nil_append, ← hn]
      · rw [if_neg h0]
        refine ⟨n, ?_⟩
        rw [List.singleton_append, ← hn]
    · rw [if_neg h]
      refine ⟨n, ?_⟩
      rw [List.cons_append, ← hn]
theorem can_of_val {B : Nat} (hB : 2 ≤ B) {l : List Int} (h : Dig (B : Int) l) (hv : l ≠ [] → (B : Int) ^ (l.length - 1) ≤ val (B : Int) l) : Can l := by
  by_cases e : l = []
  · subst e; exact Can.nil
  · have h1 := hv e
    obtain ⟨n, hn⟩ := strip_split l
    have h2 := val_lt (show (0 : Int) < (B : Int) by omega) (strip_dig h)
    rw [strip_val] at h2
    have h3 : l.length = (strip l).length + n := by
      have := congrArg List.length hn
      simpa using this
    have h4 : n = 0 := by
      by_cases hn0 : n = 0
      · exact hn0
      · have := pow_mono (show (0 : Int) < (B : Int) by omega) (show (strip l).length ≤ l.length - 1 by omega)
        omega
    subst h4
    rw [List.replicate_zero, List.append_nil] at hn
    rw [hn]
    exact strip_can l
/-- A limb out of four digits. -/
def grp (d : List Int) : Int := d.getD 0 0 + 65536 * (d.getD 1 0 + 65536 * (d.getD 2 0 + 65536 * d.getD 3 0))
def outN : Nat → List Int → List Int
  | 0, _ => []
  | n + 1, d => grp d :: outN n (d.drop 4)
theorem grp_range {d : List Int} (h : Dig (b16 : Int) d) : 0 ≤ grp d ∧ grp d < (b64 : Int) := by
  have h0 := h.getD b16_pos 0
  have h1 := h.getD b16_pos 1
  have h2 := h.getD b16_pos 2
  have h3 := h.getD b16_pos 3
  unfold grp
  simp only [b16, b64] at *
  omega
theorem val_four (d : List Int) : val (b16 : Int) d = grp d + (b64 : Int) * val (b16 : Int) (d.drop 4) := by
  unfold grp
  simp only [b16, b64]
  match d with
  | [] => simp [val]
  | [a] => simp [val]
  | [a, b] => simp [val]
  | [a, b, c] => simp [val]
  | a :: b :: c :: e :: d => simp [val]; omega
theorem outN_facts (n : Nat) : ∀ d : List Int, Dig (b16 : Int) d → d.length ≤ 4 * n → Dig (b64 : Int) (outN n d) ∧ val (b64 : Int) (outN n d) = val (b16 : Int) d ∧ (outN n d).length = n := by
  induction n with
  | zero =>
    intro d _ h
    have : d = [] := List.length_eq_zero_iff.1 (by omega)
    subst this
    exact ⟨Dig.nil, rfl, rfl⟩
  | succ n ih =>
    intro d hd h
    obtain ⟨i1, i2, i3⟩ := ih (d.drop 4) (hd.drop 4) (by simp; omega)
    refine ⟨Dig.cons.2 ⟨grp_range hd, i1⟩, ?_, by simp [outN, i3]⟩
    rw [val_four d]
    simp only [outN, val, i2]
theorem out_limbs (v : Nat) : outN (((digs v).length + 3) / 4) (digs v) = limbs v := by
  obtain ⟨f1, f2, f3⟩ := outN_facts (((digs v).length + 3) / 4) (digs v) (toD_dig b16_two v) (by omega)
  rw [val_toD b16_two] at f2
  have hc : Can (outN (((digs v).length + 3) / 4) (digs v)) := by
    refine can_of_val b64_two f1 (fun hne => ?_)
    rw [f2, f3, b64_pow, pow_cast, ← Nat.pow_mul]
    have hl : 0 < ((digs v).length + 3) / 4 := by rw [← f3]; exact List.length_pos_iff.2 hne
    have hd : digs v ≠ [] := by intro e; rw [e] at hl; simp at hl
    have h1 := val_pos b16_pos (toD_dig b16_two v) (toD_can b16_two v) hd
    rw [val_toD b16_two, pow_cast] at h1
    have h2 : b16 ^ (4 * (((digs v).length + 3) / 4 - 1)) ≤ b16 ^ ((digs v).length - 1) := Nat.pow_le_pow_right (by decide) (by omega)
    exact Int.le_trans (Int.ofNat_le.2 h2) h1
  have := limbs_num f1 hc
  rw [← this]
  unfold num
  rw [f2]
  rfl
theorem out_inner (d acc : List Int) (i : Nat) (hd : Dig (b16 : Int) d) (hacc : acc.length ≤ 1000000) (hi : i ≤ 4000000) {r : List Int × Bool}
    (h : Evt (fun k => windbreakref01_Out.l0 k d (acc ++ [grp (d.drop i)]) ((i + 4 : Nat) : Int)) r) : Evt (fun k => windbreakref01_Out.l1 k d acc (i : Int) 0 3) r := by
  have step : ∀ (x : Int) (j : Nat), j ≤ 3 → 0 ≤ x → x * 65536 + 65535 < 18446744073709551616 →
      Evt (fun k => windbreakref01_Out.l1 k d acc (i : Int) (x * 65536 + (d.drop i).getD j 0) ((j : Int) - 1)) r →
      Evt (fun k => windbreakref01_Out.l1 k d acc (i : Int) x (j : Int)) r := by
    intro x j hj hx hx2 hs
    have hdig := (hd.drop i).getD b16_pos j
    simp only [b16] at hdig
    refine Evt.succ ?_
    simp only [windbreakref01_Out.l1]
    refine Evt.ite_pos (by omega) ?_
    rw [w64 (show -9223372036854775808 ≤ (i : Int) + (j : Int) by omega) (by omega), w64 (show -9223372036854775808 ≤ (j : Int) - 1 by omega) (by omega), wu64_of (show 0 ≤ x * 65536 by omega) (by omega)]
    by_cases hlt : i + j < d.length
    · refine Evt.ite_pos (by omega) (Evt.ite_pos (by omega) ?_)
      have e : rd d ((i : Int) + (j : Int)) = (d.drop i).getD j 0 := by
        rw [rd_getD, show ((i : Int) + (j : Int)).toNat = i + j from by omega]
        simp [List.getD_eq_getElem?_getD]
      rw [e, wu64_of (by omega) (by omega)]
      exact hs
    · refine Evt.ite_neg (by omega) ?_
      have e : (d.drop i).getD j 0 = 0 := by
        simp [List.getD_eq_getElem?_getD, List.getElem?_eq_none (by omega : d.length ≤ i + j)]
      rw [e, Int.add_zero] at hs
      exact hs
  have h0 := (hd.drop i).getD b16_pos 0
  have h1 := (hd.drop i).getD b16_pos 1
  have h2 := (hd.drop i).getD b16_pos 2
  have h3 := (hd.drop i).getD b16_pos 3
  simp only [b16] at h0 h1 h2 h3
  refine step 0 3 (by omega) (by omega) (by omega) ?_
  refine (step (0 * 65536 + (d.drop i).getD 3 0) 2 (by omega) (by omega) (by omega) ?_).congr (fun k => rfl) rfl
  refine (step ((0 * 65536 + (d.drop i).getD 3 0) * 65536 + (d.drop i).getD 2 0) 1 (by omega) (by omega) (by omega) ?_).congr (fun k => rfl) rfl
  refine (step (((0 * 65536 + (d.drop i).getD 3 0) * 65536 + (d.drop i).getD 2 0) * 65536 + (d.drop i).getD 1 0) 0 (by omega) (by omega) (by omega) ?_).congr (fun k => rfl) rfl
  refine Evt.succ ?_
  simp only [windbreakref01_Out.l1]
  refine Evt.ite_neg (by omega) (Evt.ite_pos (by omega) ?_)
  rw [w64 (by omega) (by omega)]
  refine h.congr (fun k => ?_) rfl
  have e : (((0 * 65536 + (d.drop i).getD 3 0) * 65536 + (d.drop i).getD 2 0) * 65536 + (d.drop i).getD 1 0) * 65536 + (d.drop i).getD 0 0 = grp (d.drop i) := by
    unfold grp; omega
  rw [e, show (i : Int) + 4 = ((i + 4 : Nat) : Int) from by omega]
theorem out_loop (d : List Int) (hd : Dig (b16 : Int) d) (hlen : d.length ≤ 1000000) (n : Nat) : ∀ (i : Nat) (acc : List Int), acc.length ≤ i → i ≤ d.length + 3 → (d.length - i + 3) / 4 = n →
    Evt (fun k => windbreakref01_Out.l0 k d acc (i : Int)) (acc ++ outN n (d.drop i), decide ((acc ++ outN n (d.drop i)).length ≤ 64)) := by
  induction n with
  | zero =>
    intro i acc hacc hi hn
    refine Evt.succ ?_
    simp only [windbreakref01_Out.l0]
    refine Evt.ite_neg (by omega) ?_
    simp only [outN, List.append_nil]
    refine (Evt.pure _).congr (fun k => rfl) ?_
    congr 1
    simp only [decide_eq_decide]
    omega
  | succ n ih =>
    intro i acc hacc hi hn
    refine Evt.succ ?_
    simp only [windbreakref01_Out.l0]
    refine Evt.ite_pos (by omega) ?_
    refine out_inner d acc i hd (by omega) (by omega) ?_
    refine (ih (i + 4) (acc ++ [grp (d.drop i)]) (by simp; omega) (by omega) (by omega)).congr (fun k => rfl) ?_
    simp [outN, List.drop_drop]
theorem ref_Out_ev (v : Nat) (hv : v < lim) : Evt (fun k => windbreakref01_Out.f k (digs v)) (limbs v, decide (v < b64 ^ 64)) := by
  have hlen : (digs v).length ≤ 1000000 := Nat.le_trans (digs_len hv) (by omega)
  have h := out_loop (digs v) (toD_dig b16_two v) hlen (((digs v).length + 3) / 4) 0 [] (Nat.le_refl _) (by omega) (by omega)
  refine h.congr (fun k => rfl) ?_
  rw [List.nil_append, List.drop_zero, out_limbs]
  have := limbs_long v
  simp only [this]
end Go.Proofs.Ytikfgeieaadeiac.Z

namespace Go.Proofs.Ytikfgeieaadeiac.Z
open Go.RowKit Go.Proofs.Ytikfgeieaadeiac.F Go.Proofs.YtikfgeieaadeiacW.PrintWords
set_option linter.unusedSimpArgs false
set_option linter.unusedVariables false
theorem ref_told_ev (v : Nat) (hv : v < lim) : Evt (fun k => windbreakref01_told.f k (digs v)) (toldV v) := by
  unfold windbreakref01_told.f toldV
  refine Evt.bind (ref_Out_ev v hv) ?_
  by_cases h : v < b64 ^ 64
  · simp only [h, decide_true, if_true]
    exact Evt.pure _
  · simp only [h, decide_false, if_false]
    exact Evt.ite_neg (by simp) (Evt.pure _)
end Go.Proofs.Ytikfgeieaadeiac.Z

namespace Go.Proofs.Ytikfgeieaadeiac.Z
open Go.RowKit Go.Proofs.Ytikfgeieaadeiac.F Go.Proofs.YtikfgeieaadeiacW.PrintWords
set_option linter.unusedSimpArgs false
set_option linter.unusedVariables false
theorem pow_b16_b8 (p : Nat) : (b16 : Int) ^ p = (b8 : Int) ^ (2 * p) := by
  rw [pow_cast, pow_cast]
  congr 1
  rw [show b16 = b8 ^ 2 from by decide, ← Nat.pow_mul]
theorem rev_at {b : List Int} {k q : Nat} (hq : q < (b.drop k).reverse.length) : (b.drop k).reverse[q] = b.getD (b.length - 1 - q) 0 := by
  have hq' : q < b.length - k := by simpa using hq
  rw [List.getElem_reverse, List.getElem_drop, List.getD_eq_getElem?_getD, List.getElem?_eq_getElem (show b.length - 1 - q < b.length by omega)]
  simp only [Option.getD_some, List.length_drop]
  congr 1
  omega
theorem ref_Read_l1 (b : List Int) (k : Nat) (hk : k ≤ b.length) (hb : b.length ≤ 9223372036854775807) (db : Dig (b8 : Int) b) (h5 : (b.drop k).length ≤ 512) (n : Nat) : ∀ (d : List Int), Dig (b16 : Int) d → d.length ≤ 256 → (b.length - k + 1) / 2 - d.length = n →
    val (b16 : Int) d = val (b8 : Int) ((b.drop k).reverse.take (2 * d.length)) →
    Evt (fun m => windbreakref01_Read.l1 m b (k : Int) d ((b.length : Int) - 1 - 2 * (d.length : Int))) (limbs (val (b8 : Int) (b.drop k).reverse).toNat, 0) := by
  have h5' : b.length - k ≤ 512 := by simpa using h5
  induction n with
  | zero =>
    intro d dd hd hn hv
    refine Evt.succ ?_
    simp only [windbreakref01_Read.l1]
    refine Evt.ite_neg (by omega) ?_
    rw [List.take_of_length_le (by simp; omega)] at hv
    refine Evt.bind (windbreakref01_cut_ev d (by simp [maxLen]; omega)) ?_
    have hlt := val_b8_lt (db.drop k) h5
    have hnum : num16 d = (val (b8 : Int) (b.drop k).reverse).toNat := by unfold num16; rw [hv]
    rw [strip_digs dd, hnum]
    have hlim : (val (b8 : Int) (b.drop k).reverse).toNat < lim := Nat.lt_of_lt_of_le hlt (lim_pow (by omega))
    have ht := ref_told_ev _ hlim
    unfold toldV at ht
    rw [if_pos hlt] at ht
    exact Evt.bind ht (h := fun t _ => some (t.1, t.2)) (Evt.pure _)
  | succ n ih =>
    intro d dd hd hn hv
    refine Evt.succ ?_
    simp only [windbreakref01_Read.l1]
    have hx := db.getD b8_pos (b.length - 1 - 2 * d.length)
    have hy := db.getD b8_pos (b.length - 1 - (2 * d.length + 1))
    have r0 := rev_at (b := b) (k := k) (q := 2 * d.length) (by simp; omega)
    rw [w64 (show -9223372036854775808 ≤ (b.length : Int) - 1 - 2 * (d.length : Int) - 1 by omega) (by omega), w64 (show -9223372036854775808 ≤ (b.length : Int) - 1 - 2 * (d.length : Int) - 2 by omega) (by omega)]
    refine Evt.ite_pos (by omega) (Evt.ite_pos (by omega) (Evt.ite_pos (by omega) ?_))
    rw [rd_getD b ((b.length : Int) - 1 - 2 * (d.length : Int)), show ((b.length : Int) - 1 - 2 * (d.length : Int)).toNat = b.length - 1 - 2 * d.length from by omega]
    by_cases h2 : (b.length : Int) - 1 - 2 * (d.length : Int) - 1 ≥ (k : Int)
    · have r1 := rev_at (b := b) (k := k) (q := 2 * d.length + 1) (by simp; omega)
      refine Evt.ite_pos h2 (Evt.ite_pos (by omega) (Evt.ite_pos (by omega) (Evt.ite_pos (by omega) ?_)))
      rw [rd_getD b ((b.length : Int) - 1 - 2 * (d.length : Int) - 1), show ((b.length : Int) - 1 - 2 * (d.length : Int) - 1).toNat = b.length - 1 - (2 * d.length + 1) from by omega]
      generalize b.getD (b.length - 1 - 2 * d.length) 0 = x at *
      generalize b.getD (b.length - 1 - (2 * d.length + 1)) 0 = y at *
      simp only [b8] at hx hy
      rw [wu64_of (x := x) (by omega) (by omega), wu64_of (x := y) (by omega) (by omega), wu64_of (x := 256 * y) (by omega) (by omega), wu64_of (x := x + 256 * y) (by omega) (by omega)]
      have h := ih (d ++ [x + 256 * y]) (Dig.append.2 ⟨dd, fun z hz => by simp at hz; subst hz; simp only [b16]; omega⟩) (by simp; omega) (by simp; omega) ?_
      · refine h.congr (fun m => ?_) rfl
        congr 1
        simp
        omega
      · rw [val_append, hv, pow_b16_b8, List.length_append, List.length_singleton, show 2 * (d.length + 1) = 2 * d.length + 1 + 1 from by omega, val_take_step _ _ _ (by simp; omega), val_take_step _ _ _ (by simp; omega), r0, r1, Int.pow_succ]
        simp only [val]
        rw [show ((b8 : Nat) : Int) = 256 from rfl]
        generalize (256 : Int) ^ (2 * d.length) = P
        generalize val 256 _ = V
        grind
    · refine Evt.ite_neg h2 (Evt.ite_pos (by omega) ?_)
      generalize b.getD (b.length - 1 - 2 * d.length) 0 = x at *
      simp only [b8] at hx
      rw [wu64_of (x := x) (by omega) (by omega)]
      have h := ih (d ++ [x]) (Dig.append.2 ⟨dd, fun z hz => by simp at hz; subst hz; simp only [b16]; omega⟩) (by simp; omega) (by simp; omega) ?_
      · refine h.congr (fun m => ?_) rfl
        congr 1
        simp
        omega
      · rw [val_append, hv, pow_b16_b8, List.length_append, List.length_singleton, show 2 * (d.length + 1) = 2 * d.length + 1 + 1 from by omega]
        rw [List.take_of_length_le (i := 2 * d.length + 1 + 1) (by simp; omega), ← List.take_of_length_le (i := 2 * d.length + 1) (l := (b.drop k).reverse) (by simp; omega), val_take_step _ _ _ (by simp; omega), r0]
        rw [List.take_take, Nat.min_eq_left (by omega)]
        simp [val]
theorem ref_Read_ev (b : List Int) (hb : b.length ≤ maxLen) (db : Dig (b8 : Int) b) (k : Nat) (hk : k ≤ b.length) (hz : ∀ j, j < k → b.getD j 0 = 0) (hn : k < b.length → b.getD k 0 ≠ 0) : Evt (fun m => windbreakref01_Read.f m b) (readV (b.drop k)) := by
  have hbl : b.length ≤ 9223372036854775807 := by simp only [maxLen] at hb; omega
  have hj : Evt (fun m => windbreakref01_Read.j1 m b (k : Int)) (readV (b.drop k)) := by
    refine Evt.succ ?_
    simp only [windbreakref01_Read.j1]
    unfold readV
    rw [w64 (show -9223372036854775808 ≤ (b.length : Int) - (k : Int) by omega) (by omega), w64 (show -9223372036854775808 ≤ (b.length : Int) - 1 by omega) (by omega)]
    by_cases hc : (b.drop k).length > 512
    · have hc' : b.length - k > 512 := by simpa using hc
      rw [if_pos hc]
      exact Evt.ite_pos (by omega) (Evt.pure _)
    · have hc' : ¬ b.length - k > 512 := by simpa using hc
      rw [if_neg hc]
      refine Evt.ite_neg (by omega) ?_
      have h := ref_Read_l1 b k hk hbl db (by omega) ((b.length - k + 1) / 2) [] Dig.nil (by simp) (by simp) rfl
      refine h.congr (fun m => ?_) rfl
      simp
  have hl : ∀ (n i : Nat), k - i = n → i ≤ k → Evt (fun m => windbreakref01_Read.l0 m b (i : Int)) (readV (b.drop k)) := by
    intro n
    induction n with
    | zero =>
      intro i h1 h2
      obtain rfl : i = k := by omega
      refine Evt.succ ?_
      simp only [windbreakref01_Read.l0]
      by_cases h : i < b.length
      · refine Evt.ite_pos (by omega) (Evt.ite_pos (by omega) ?_)
        rw [rd_nat]
        exact Evt.ite_neg (hn h) hj
      · exact Evt.ite_neg (by omega) hj
    | succ n ih =>
      intro i h1 h2
      refine Evt.succ ?_
      simp only [windbreakref01_Read.l0]
      refine Evt.ite_pos (by omega) (Evt.ite_pos (by omega) ?_)
      rw [rd_nat, w64 (by omega) (by omega)]
      exact Evt.ite_pos (hz i (by omega)) (ih (i + 1) (by omega) (by omega))
  exact (hl k 0 (by omega) (Nat.zero_le _)).congr (fun m => rfl) rfl
end Go.Proofs.Ytikfgeieaadeiac.Z

namespace Go.Proofs.Ytikfgeieaadeiac.Z
open Go.RowKit Go.Proofs.Ytikfgeieaadeiac.F Go.Proofs.YtikfgeieaadeiacW.PrintWords
set_option linter.unusedSimpArgs false
set_option linter.unusedVariables false
theorem same_loop (l m : List Int) (h : l.length ≤ maxLen) (hlm : l.length = m.length) (d : Nat) : ∀ i : Nat, i ≤ l.length → l.length - i = d → Evt (fun k => windbreakref01_Same.l0 k l m (i : Int)) (decide (l.drop i = m.drop i)) := by
  unfold maxLen at h
  induction d with
  | zero =>
    intro i hi hd
    refine Evt.succ ?_
    simp only [windbreakref01_Same.l0]
    refine Evt.ite_neg (by omega) ?_
    rw [List.drop_of_length_le (by omega), List.drop_of_length_le (by omega)]
    exact Evt.pure _
  | succ d ih =>
    intro i hi hd
    have hl : i < l.length := by omega
    have hm : i < m.length := by omega
    refine Evt.succ ?_
    simp only [windbreakref01_Same.l0]
    refine Evt.ite_pos (by omega) (Evt.ite_pos (by omega) (Evt.ite_pos (by omega) ?_))
    have e1 : rd l (i : Int) = l[i] := by simp [rd_nat, hl]
    have e2 : rd m (i : Int) = m[i] := by simp [rd_nat, hm]
    rw [e1, e2, w64 (by omega) (by omega), List.drop_eq_getElem_cons hl, List.drop_eq_getElem_cons hm]
    by_cases he : l[i] = m[i]
    · refine Evt.ite_pos he ?_
      refine (ih (i + 1) (by omega) (by omega)).congr (fun k => rfl) ?_
      rw [he]
      simp only [List.cons.injEq, true_and]
    · refine Evt.ite_neg he ?_
      have : decide (l[i] :: l.drop (i + 1) = m[i] :: m.drop (i + 1)) = false := by
        simp only [List.cons.injEq, decide_eq_false_iff_not]
        exact fun hh => he hh.1
      rw [this]
      exact Evt.pure _
theorem same_ev (l m : List Int) (h : l.length ≤ maxLen) : Evt (fun k => windbreakref01_Same.f k l m) (decide (l = m)) := by
  unfold windbreakref01_Same.f
  by_cases hlm : l.length = m.length
  · refine Evt.ite_pos (by omega) ?_
    exact (same_loop l m h hlm l.length 0 (Nat.zero_le _) (by omega)).congr (fun k => rfl) (by simp)
  · refine Evt.ite_neg (by omega) ?_
    have : decide (l = m) = false := by
      simp only [decide_eq_false_iff_not]
      intro e
      exact hlm (by rw [e])
    rw [this]
    exact Evt.pure _
end Go.Proofs.Ytikfgeieaadeiac.Z

namespace Go.Proofs.Ytikfgeieaadeiac.Pure
open Go.RowKit Go.Proofs.Ytikfgeieaadeiac.F Go.Proofs.Ytikfgeieaadeiac.Z
set_option linter.unusedSimpArgs false
set_option linter.unusedVariables false
theorem wf_u8 {x : Int} (h : (Lit.int .u8 x).wf = true) : 0 ≤ x ∧ x < 256 := by
  simp [Lit.wf, IntKind.min, IntKind.max, IntKind.bits, IntKind.signed] at h
  omega
theorem lead (b : List Int) : ∃ k : Nat, k ≤ b.length ∧ (∀ j, j < k → b.getD j 0 = 0) ∧ (k < b.length → b.getD k 0 ≠ 0) := by
  induction b with
  | nil => exact ⟨0, Nat.le_refl _, fun j hj => absurd hj (Nat.not_lt_zero _), fun h => absurd h (Nat.not_lt_zero _)⟩
  | cons c b ih =>
    by_cases h : c = 0
    · obtain ⟨k, h1, h2, h3⟩ := ih
      refine ⟨k + 1, by simp; omega, fun j hj => ?_, fun hh => by simpa using h3 (by simpa using hh)⟩
      cases j with
      | zero => simpa using h
      | succ j => simpa using h2 j (by omega)
    · exact ⟨0, Nat.zero_le _, fun j hj => absurd hj (Nat.not_lt_zero _), fun _ => by simpa using h⟩
theorem NatBytes : windbreaklaw01_NatBytes.Pure := by
  intro a b ha _ wa hb _ wb
  apply Evt.get
  have da := dig_of_wf wa
  have db : Dig (b8 : Int) b := fun x hx => wf_u8 (wb x hx)
  have d1 : Dig (b8 : Int) [1] := by intro x hx; simp at hx; subst hx; decide
  obtain ⟨k, hk, hz, hn⟩ := lead b
  unfold windbreaklaw01_NatBytes.f
  refine Evt.bind (few_ev [a] (by simp [maxLen])) ?_
  refine Evt.cond' (fun _ => ?_) (fun _ => Evt.pure _)
  refine Evt.bind (nat_Bytes_ev a ha da) ?_
  refine Evt.bind (nat_Read_ev b hb db k hk hz hn) ?_
  refine Evt.bind (ref_Read_ev b hb db k hk hz hn) ?_
  have hl : (readV (b.drop k)).1.length ≤ maxLen := by
    unfold readV
    by_cases h : (b.drop k).length > 512
    · rw [if_pos h]; exact Nat.zero_le _
    · rw [if_neg h]
      have h1 := val_b8_lt (db.drop k) (by omega)
      have := (limbs_long _).2 h1
      simp only [maxLen]; omega
  refine Evt.bind (same_ev _ _ hl) ?_
  refine Evt.bind (nat_Read_ev [1] (by simp [maxLen]) d1 0 (by simp) (fun j hj => absurd hj (Nat.not_lt_zero _)) (fun _ => by simp)) ?_
  refine Evt.bind (ref_Bytes_ev a ha da) ?_
  refine Evt.ite_pos rfl (Evt.ite_pos (by simp) (Evt.ite_pos rfl ?_))
  have e : (readV (([1] : List Int).drop 0)).1.length = 1 := by
    have e3 : limbs 1 = [1] := by
      have := limbs_num (l := [1]) (by intro x hx; simp at hx; subst hx; decide) (Can.one (by omega))
      rwa [num_one (by omega)] at this
    simp [readV, val]
    rw [e3]
    rfl
  rw [e]
  exact Evt.pure _
end Go.Proofs.Ytikfgeieaadeiac.Pure

namespace Go.Proofs.Ytikfgeieaadeiac.natBytes
open Go.ChangeShapes Go.WideShapes Go.ChangeAt Go.RowKit
open Go.ChangeMaps (open_string shut_string)
set_option linter.unusedVariables false
theorem own : ownKnob Try.prog.godebug = none := by kernel_rfl
theorem laidOut : laidOutB Try.prog = true := by kernel_rfl
def IsRow (k : IntKind) (w : World) (a : Option Addr) (len cap : Nat) (zs : List Int) : Prop :=
  (a = none ∧ len = 0 ∧ cap = 0 ∧ zs = []) ∨
  ∃ x, a = some x ∧ len ≤ cap ∧ cap ≤ maxLen ∧ zs.length = cap ∧ (∀ i, i < zs.length → w.cell? (x.add i) = some (.int k (zs.getD i 0))) ∧ ∀ n ∈ zs, (Lit.int k n).wf = true
set_option maxRecDepth 100000 in
theorem lifted (os : Os) (started : os.Started) (H : Type) (enc : TypeId × Value → H) :
    ReturnsInHanded {} Try.checked os 6 .any (Rows.natBytesSpec.pre6 enc Try.prog Try.f6 Rows.natBytesRow.domain false) (Rows.natBytesSpec.post enc Try.prog Try.f6 false true false false) := by
  refine returnsInHanded_of_change_sized (C := Try.checked) own started (by kernel_rfl) Try.func6
    (ChangeSpec.witness6 (enc := enc) (C := Try.checked) false ⟨#[], #[.slice none 0 0, .slice none 0 0], []⟩ 8 (by kernel_rfl) (by kernel_rfl) (by kernel_rfl) (by kernel_rfl)) ?_
  intro W base args ds gs before hval0 hW hcnd hsz0 _
  have hsz : (DataW.weightsEach Try.prog (Try.f6.params.toList ++ Rows.natBytesSpec.plain.varTypes Try.prog) (ds ++ gs)).all (· ≤ reachBytes) = true := hsz0
  have hval : ∀ (j : Nat) t v, Try.f6.params[j]? = some t → args[j]? = some v → Value.okWide Try.prog W .any base t v := hval0
  have hW' := hW
  obtain ⟨p, q, hA0, hV, rfl, hfz, hnd⟩ := hW
  have hA : DataW.TrodAll enc Try.prog W 0 (fun _ => true) true Try.f6.params.toList args.toList ds p := hA0
  rw [Try.params6] at hA hval hsz
  obtain ⟨v0, vs0, d0, ds0, p0, q0, hargs, rfl, rfl, h0, r0⟩ := trodAll_cons hA
  obtain ⟨v1, vs1, d1, ds1, p1, q1, rfl, rfl, rfl, h1, r1⟩ := trodAll_cons r0
  obtain ⟨rfl, rfl, rfl⟩ := trodAll_nil r1
  obtain rfl : args = #[v0, v1] := by cases args; simp_all
  obtain ⟨rfl, rfl⟩ := trodVars_none hV
  obtain ⟨a0, len0, cap0, rfl⟩ := okWide_slice Try.underlying23 (hval 0 23 v0 rfl rfl)
  have k0 := h0
  have lt0 : ∀ x ∈ p0, x.block < W.heap.size := by obtain ⟨m, hm⟩ := k0; exact DataW.trod_lt m _ _ _ hm
  obtain ⟨z0, w0⟩ : ∃ zs, IsRow .u64 W a0 len0 cap0 zs := by
    obtain ⟨fuel, hf⟩ := h0
    rcases open_ints Try.underlying23 Try.underlying29 (by kernel_rfl) hf with ⟨hcs, _⟩ | ⟨x, l, c, zs, hcs, _, hl, hm, hz, _, hcell, hwz⟩
    · simp [Value.cells] at hcs
      obtain ⟨rfl, rfl, rfl⟩ := hcs
      exact ⟨[], .inl ⟨rfl, rfl, rfl, rfl⟩⟩
    · simp [Value.cells] at hcs
      obtain ⟨rfl, rfl, rfl⟩ := hcs
      exact ⟨zs, .inr ⟨_, rfl, hl, hm, by simpa using hz, hcell, hwz⟩⟩
  have y0 : len0 * 8 ≤ 140737488351232 := Go.Proofs.YtikfgeieaadeiacW.PrintWords.sized_ints hsz (j := 0) (t := 23) rfl rfl Try.underlying23 Try.underlying29 (by kernel_rfl) (by kernel_rfl) h0
  obtain ⟨a1, len1, cap1, rfl⟩ := okWide_slice Try.underlying30 (hval 1 30 v1 rfl rfl)
  have k1 := h1
  have lt1 : ∀ x ∈ p1, x.block < W.heap.size := by obtain ⟨m, hm⟩ := k1; exact DataW.trod_lt m _ _ _ hm
  obtain ⟨z1, w1⟩ : ∃ zs, IsRow .u8 W a1 len1 cap1 zs := by
    obtain ⟨fuel, hf⟩ := h1
    rcases open_ints Try.underlying30 Try.underlying5 (by kernel_rfl) hf with ⟨hcs, _⟩ | ⟨x, l, c, zs, hcs, _, hl, hm, hz, _, hcell, hwz⟩
    · simp [Value.cells] at hcs
      obtain ⟨rfl, rfl, rfl⟩ := hcs
      exact ⟨[], .inl ⟨rfl, rfl, rfl, rfl⟩⟩
    · simp [Value.cells] at hcs
      obtain ⟨rfl, rfl, rfl⟩ := hcs
      exact ⟨zs, .inr ⟨_, rfl, hl, hm, by simpa using hz, hcell, hwz⟩⟩
  have y1 : len1 * 1 ≤ 140737488351232 := Go.Proofs.YtikfgeieaadeiacW.PrintWords.sized_ints hsz (j := 1) (t := 30) rfl rfl Try.underlying30 Try.underlying5 (by kernel_rfl) (by kernel_rfl) h1
  clear hA0 hval0 hsz0 hsz
  refine (F.windbreaklaw01_NatBytes.walk Pure.NatBytes a0 len0 cap0 z0 a1 len1 cap1 z1 W w0 y0 w1 y1).mono fun e W' ⟨he, bel⟩ => ?_
  subst he
  exact ⟨_, rfl, _, _, _, [], _, [], hW', trodAll_mk1 (shut_bool Try.underlying4 _), (trodAll_cons_mk (Below.trod laidOut (by kernel_rfl) (of_decide_eq_true (by kernel_rfl)) k0 bel lt0) (trodAll_cons_mk (Below.trod laidOut (by kernel_rfl) (of_decide_eq_true (by kernel_rfl)) k1 bel lt1) trodAll_mk0)), rfl, bel.frame _, fun h => by cases h⟩
theorem over : Rows.natBytesRow.holds Try.pinned (OpenSpec.ofChange Rows.natBytesSpec) :=
  OpenClaim.holds_of_wide 6 Try.f6 rfl rfl rfl rfl rfl rfl rfl ⟨rfl, rfl, rfl, rfl, rfl⟩ rfl rfl rfl rfl rfl (by kernel_rfl) Try.func6 (by kernel_rfl)
    (of_decide_eq_true (by kernel_rfl)) (by unfold Func.isWrapper; first | (rw [if_pos (by decide +kernel)]; kernel_rfl) | (rw [if_neg (by decide +kernel)]; exact ⟨rfl, rfl⟩))
    (fun os started H enc _ => lifted os started H enc)
theorem proved : Rows.NatBytesSaid := over
#print axioms proved
end Go.Proofs.Ytikfgeieaadeiac.natBytes
namespace Go.Proofs.Ytikfgeieaadeiac
/-- The row, under a short name, for the claim. -/
theorem natBytes_holds : Rows.NatBytesSaid := natBytes.proved
end Go.Proofs.Ytikfgeieaadeiac
