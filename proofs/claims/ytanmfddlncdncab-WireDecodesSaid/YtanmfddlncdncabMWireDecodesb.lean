/- Proved: the law WireDecodes of layer 12: the message that any bytes are is the document's; for every input, without a condition. -/
import Derived.Test.YtanmfddlncdncabMWireDecodesa
import Derived.Laws.BitsLemmas
import Derived.Outline
import Derived.Laws.Tables
import Derived.Laws.Rows
import Derived.Laws.CopyOwn
section
namespace Go.Proofs.Ytanmfddlncdncab.F
open Go.RowKit Go.Proofs.YtanmfddlncdncabW.PrintWords Go.Proofs.YtanmfddlncdncabW.PrintLast Go.Proofs.YtanmfddlncdncabW.PrintMore
attribute [local go_sem] max2_int min2_int max_two min_two max_three min_three max_four min_four
set_option linter.unusedVariables false
set_option linter.unusedSimpArgs false
def windbreakref12_list.l0 : Nat → List Int → List Int → Int → Option (List Int)
 | 0, _, _, _ => none
 | k + 1, x0, x3, x4 => if x4 < (x0.length : Int) then (if 0 ≤ x4 then ((windbreakref09_Number.f k (IntKind.u64.wrap (rd x0 x4))).bind fun t142 => (if x3.length + t142.length < 140737488355328 then (windbreakref12_list.l0 k x0 (x3 ++ t142) (wrap64 (x4 + 1))) else (none))) else (none)) else (some x3)
def windbreakref12_list.f (k : Nat) (l0 : List Int) : Option (List Int) := (windbreakref09_Number.f k (IntKind.u64.wrap ((l0.length : Int)))).bind fun t138 => (windbreakref12_list.l0 k l0 t138 0)
set_option maxHeartbeats 8000000 in
set_option maxRecDepth 100000 in
theorem windbreakref12_list.calls (k : Nat) (A0 : Option Addr) (c0 : Nat) (l0 : List Int) (r : List Int) (w : World) (hr0 : Kd.C (Kd.int .i64) w A0 l0.length l0) (hc0 : l0.length ≤ c0) (h : windbreakref12_list.f k l0 = some r) :
  Calls Try.prog 19 #[.slice A0 l0.length c0] w fun e w' => ∃ v0_ : Value, e = .returned (v0_) ∧ Kd.R (Kd.int .u8) 5 w' w.heap.size (fun _ => True) v0_ r ∧ Below w.heap.size w w' := by
 have HR0 := Aside0.mk hr0; have HC0 := Aside0.mk hc0; clear hr0 hc0
 have HB := Aside0.mk (Below.refl w.heap.size w)
 have H : ((windbreakref09_Number.f k (IntKind.u64.wrap ((l0.length : Int)))).bind fun t138 => (windbreakref12_list.l0 k l0 t138 0)) = some r := h
 clear h
 replace H := ub H; obtain ⟨t138, A2, H⟩ := H
 have H' := Aside0.mk H
 clear H
 go_enter Try.func19, Try.ntmps19
 go_wp2_with (first | ((with_reducible refine gate_callee (f := 18) rfl ?_); refine goesL_ (some 8) rfl rfl Try.func18 (by kernel_rfl) rfl #[.int .u64 (IntKind.u64.wrap ((l0.length : Int)))] rfl uM ?_; (with_reducible refine (windbreakref09_Number.calls k (IntKind.u64.wrap ((l0.length : Int))) t138 _ A2.out).mono ?_); rintro e w3 ⟨v139, rfl, ho0, hb⟩; refine ⟨_, rfl, ?_⟩; have HO140 := Aside0.mk (Kd.R_lower ho0 (below_size uB)); replace HB := uy hb; (try clear hb ho0)))
 go_loopg [3, 4] k (fun kq v3 v4 w' => ∃ (x3_1 : List Int) (x4_1 : Int), v4 = .int .i64 x4_1 ∧ Aside0 (windbreakref12_list.l0 kq l0 x3_1 x4_1 = some r) ∧ Aside0 (kq ≤ k) ∧ Aside0 (Kd.R (Kd.int .u8) 5 w' w.heap.size (fun _ => True) v3 x3_1) ∧ Aside0 (Below w.heap.size w w'))
 case atStart => exact ⟨(t138), (0), uG, H', ⟨Nat.le_refl _⟩, ⟨uR HO140.out⟩, ⟨uB⟩⟩
 case round =>
  clear H'
  (try clear c1); (try clear p2)
  obtain ⟨x3_1, x4_1, rfl, HA, HK1, HO_3, HB⟩ := hrel
  cases gk with
  | zero => exact absurd HA.out (by simp [windbreakref12_list.l0])
  | succ k1 =>
   have H := HA.out
   clear HA
   simp only [windbreakref12_list.l0] at H
   by_cases c4 : x4_1 < (l0.length : Int)
   ·
    rw [if_pos c4] at H
    have c4b0 : decide (x4_1 < (l0.length : Int)) = true := decide_eq_true c4
    clear c4
    replace H := uT H; obtain ⟨c5, H⟩ := H
    have c5b0 : decide (0 ≤ x4_1) = true := decide_eq_true c5
    clear c5
    replace H := ub H; obtain ⟨t142, A6, H⟩ := H
    replace H := uT H; obtain ⟨c7, H⟩ := H
    have LMc7 := Aside0.mk c7; clear c7
    obtain ⟨y145, hy145⟩ : ∃ y_ : List Int, y_ = (x3_1 ++ t142) := ⟨_, rfl⟩
    replace H : (windbreakref12_list.l0 k1 l0 y145 (wrap64 (x4_1 + 1))) = some r := by first | (rw [hy145]; with_reducible exact H) | (have H2_ := (Option.bind_some _ _).symm.trans H; rw [hy145]; with_reducible exact H2_) | (have H2_ := (Option.bind_some _ _).symm.trans H; with_reducible exact H2_) | with_reducible exact H | (rw [hy145]; exact H) | exact H
    have Ny145 := Aside0.mk hy145; clear hy145
    have H' := Aside0.mk H
    clear H
    have p141 : 0 ≤ (x4_1 : Int) := uO
    have q141 : x4_1 < (l0.length : Int) := uO
    obtain ⟨ad141, e141, hx141_0⟩ := Kd.at_int HR0.out x4_1 p141 q141
    cases e141
    replace hx141_0 := (HB.out.cell (World.block_lt_of_cell? w _ hx141_0)).trans hx141_0
    replace p141 := eq_true p141
    replace q141 := eq_true q141
    go_wp2_with (first | ((with_reducible refine gate_callee (f := 18) rfl ?_); refine goesL_ (some 21) rfl rfl Try.func18 (by kernel_rfl) rfl #[.int .u64 (IntKind.u64.wrap (rd l0 x4_1))] rfl uM ?_; (with_reducible refine (windbreakref09_Number.calls k1 (IntKind.u64.wrap (rd l0 x4_1)) t142 _ A6.out).mono ?_); rintro e w8 ⟨v143, rfl, ho0, hb⟩; refine ⟨_, rfl, ?_⟩; have HO144 := Aside0.mk (Kd.R_lower (Kd.R_new' ho0 (Kd.R_lt (uR HO_3.out))) (below_size uB)); replace HO_3 := ueR HO_3 ho0 hb; replace HB := uy hb; (try clear hb ho0); obtain ⟨Ao10, co10, eo10⟩ := Kd.R_slice HO144.out; subst eo10) | ((with_reducible refine gate_builtin (b := .append) (xs := #[.tmp 15, .tmp 21]) rfl ?_); at_builtin; refine Kd.R_append_rows (Kd.int .u8) (w0 := w) w.heap.size rfl (.tmp 15) (.tmp 21) 27 5 (.int .u8 0) 1 rfl Try.underlying27 info5 rfl (by decide) (by omega) u3 x3_1 t142 _ _ _ (fun k_ => some k_ ≠ (.slice Ao10 t142.length co10 : Value).ownBlock) (fun _ => False) rfl rfl ?aO ?aR (fun _ _ h => h) (fun _ h => h.elim) ?aF ?aB ?aS ?aL ?_; (case aR => exact uC (Kd.R_reads' HO144.out).2.2); (case aB => exact uB); (case aF => exact (fun k_ hk => Kd.fresh' (Kd.R_lt (uR HO144.out)) k_ hk)); (case aO => exact (uR (Kd.R_mono HO_3.out (fun _ hk => hk.2)))); (case aS => exact (below_size uB)); (case aL => have := LMc7.out; omega); intro v146 w9 ho hb hg hat; rw [← Ny145.out] at ho; replace HO144 := Aside0.mk (Kd.R_after (ok := (fun _ => True)) (uR HO144.out) hg hat); replace HB := Aside0.mk (hb); have HO147 := Aside0.mk (ho); clear HO_3; clear ho hb hg hat))
    go_roundg k1
    case measure => have := HK1.out; omega
    case rel => exact ⟨(y145), (wrap64 (x4_1 + 1)), uG, H', ⟨by have := HK1.out; omega⟩, ⟨by (with_reducible repeat (first | apply Kd.R_alloc | apply Kd.R_drewN | apply Kd.R_drew)); exact Kd.R_mono HO147.out (fun _ hk => trivial)⟩, ⟨uB⟩⟩
   rw [if_neg c4] at H
   have c4b0 : decide (x4_1 < (l0.length : Int)) = false := decide_eq_false c4
   clear c4
   obtain rfl := Option.some.inj H
   go_wp2
   go_ret
   exact ⟨_, uF, uR HO_3.out, uB⟩
def windbreakref01_Right.f (l0 : List Int) : Option (Bool) := if (l0.length : Int) ≤ 64 then (if (l0.length : Int) = 0 then (some true) else (if 0 ≤ (wrap64 ((l0.length : Int) - 1)) then (if (wrap64 ((l0.length : Int) - 1)) < (l0.length : Int) then (some ((rd l0 (wrap64 ((l0.length : Int) - 1))) != 0)) else (none)) else (none))) else (some false)
set_option maxHeartbeats 8000000 in
set_option maxRecDepth 100000 in
theorem windbreakref01_Right.calls (A0 : Option Addr) (c0 : Nat) (l0 : List Int) (r : Bool) (w : World) (hr0 : Kd.C (Kd.int .u64) w A0 l0.length l0) (hc0 : l0.length ≤ c0) (h : windbreakref01_Right.f l0 = some r) :
  Calls Try.prog 45 #[.slice A0 l0.length c0] w fun e w' => e = .returned (.bool r) ∧ Drawn0 w w' := by
 have HR0 := Aside0.mk hr0; have HC0 := Aside0.mk hc0; clear hr0 hc0
 have H : (if (l0.length : Int) ≤ 64 then (if (l0.length : Int) = 0 then (some true) else (if 0 ≤ (wrap64 ((l0.length : Int) - 1)) then (if (wrap64 ((l0.length : Int) - 1)) < (l0.length : Int) then (some ((rd l0 (wrap64 ((l0.length : Int) - 1))) != 0)) else (none)) else (none))) else (some false)) = some r := h
 clear h
 by_cases c2 : (l0.length : Int) ≤ 64
 ·
  rw [if_pos c2] at H
  have c2b0 : decide ((l0.length : Int) ≤ 64) = true := decide_eq_true c2
  have c2b1 : decide (l0.length ≤ 64) = true := decide_eq_true (by omega)
  clear c2
  by_cases c3 : (l0.length : Int) = 0
  ·
   rw [if_pos c3] at H
   have c3b0 : ((l0.length : Int) == 0) = true := beq_iff_eq.mpr c3
   have c3b1 : ((l0.length : Int) != 0) = false := bne_eq_false_iff_eq.mpr c3
   clear c3
   obtain rfl := Option.some.inj H
   go_enter Try.func45, Try.ntmps45
   go_wp2
   go_ret
   exact ⟨by first | rfl | (simp; done) | (simp [*]; done), by repeat (first | exact Drawn0.refl _ | apply Drawn0.step)⟩
  rw [if_neg c3] at H
  have c3b0 : ((l0.length : Int) == 0) = false := beq_eq_false_iff_ne.mpr c3
  have c3b1 : ((l0.length : Int) != 0) = true := bne_iff_ne.mpr c3
  have c3b2 : ¬ (l0 = []) := fun h_ => c3 (by rw [h_]; rfl)
  obtain ⟨ji4, hji4⟩ : ∃ j_ : Int, (wrap64 ((l0.length : Int) - 1)) = j_ := ⟨_, rfl⟩
  first | rw [hji4] at H | simp only [hji4] at H
  have hji4w : (IntKind.i64.wrap ((l0.length : Int) - 1)) = ji4 := (i64_w _).trans hji4
  replace H := uT H; obtain ⟨c5, H⟩ := H
  have c5b0 : decide (0 ≤ (ji4)) = true := decide_eq_true c5
  clear c5
  replace H := uT H; obtain ⟨c6, H⟩ := H
  have c6b0 : decide ((ji4) < (l0.length : Int)) = true := decide_eq_true c6
  clear c6
  obtain rfl := Option.some.inj H
  have p131 : 0 ≤ ((ji4) : Int) := uO
  have q131 : (ji4) < (l0.length : Int) := uO
  obtain ⟨ad131, e131, hx131_0⟩ := Kd.at_int HR0.out (ji4) p131 q131
  cases e131
  replace p131 := eq_true p131
  replace q131 := eq_true q131
  go_enter Try.func45, Try.ntmps45
  go_wp2
  go_ret
  exact ⟨by first | rfl | (simp; done) | (simp only [← hji4] <;> (first | rfl | simp)) | (simp [*]; done), by repeat (first | exact Drawn0.refl _ | apply Drawn0.step)⟩
 rw [if_neg c2] at H
 have c2b0 : decide ((l0.length : Int) ≤ 64) = false := decide_eq_false c2
 have c2b1 : decide (l0.length ≤ 64) = false := decide_eq_false (by omega)
 clear c2
 obtain rfl := Option.some.inj H
 go_enter Try.func45, Try.ntmps45
 go_wp2
 go_ret
 exact ⟨by first | rfl | (simp; done) | (simp [*]; done), by repeat (first | exact Drawn0.refl _ | apply Drawn0.step)⟩
def windbreakref01_cut.l0 : Nat → List Int → Int → Option (List Int)
 | 0, _, _ => none
 | k + 1, x0, x3 => if x3 > 0 then (if 0 ≤ (wrap64 (x3 - 1)) then (if (wrap64 (x3 - 1)) < (x0.length : Int) then (if (rd x0 (wrap64 (x3 - 1))) = 0 then (windbreakref01_cut.l0 k x0 (wrap64 (x3 - 1))) else (if 0 ≤ x3 then (if x3 ≤ (x0.length : Int) then (some (x0.take (x3 : Int).toNat)) else (none)) else (none))) else (none)) else (none)) else (if 0 ≤ x3 then (if x3 ≤ (x0.length : Int) then (some (x0.take (x3 : Int).toNat)) else (none)) else (none))
def windbreakref01_cut.f (k : Nat) (l0 : List Int) : Option (List Int) := windbreakref01_cut.l0 k l0 (l0.length : Int)
set_option maxHeartbeats 8000000 in
set_option maxRecDepth 100000 in
theorem windbreakref01_cut.calls (k : Nat) (P0_ : Nat → Prop) (u9000_ : Value) (l0 : List Int) (r : List Int) (w0 w : World) (hB : Below w0.heap.size w0 w) (ho0 : Kd.R (Kd.int .u64) 37 w w0.heap.size P0_ u9000_ l0) (h : windbreakref01_cut.f k l0 = some r) :
  Calls Try.prog 54 #[u9000_] w fun e w' => ∃ v0_ : Value, e = .returned (v0_) ∧ Kd.R (Kd.int .u64) 37 w' w0.heap.size (fun k_ => (P0_ k_ ∨ w.heap.size ≤ k_)) v0_ r ∧ Below w0.heap.size w0 w' ∧ Kept w w' (fun k_ => P0_ k_) := by
 have HO0 := Aside0.mk (show Kd.R (Kd.int .u64) 37 w w0.heap.size (fun k_ => (P0_ k_ ∨ w.heap.size ≤ k_)) u9000_ l0 from Kd.R_mono ho0 (fun k_ hk => (.inl hk)))
 have HK := Aside0.mk (Kept.refl w (fun k_ => P0_ k_))
 have HW0 := Aside0.mk hB.size
 have HB := Aside0.mk hB; clear hB
 have H : (windbreakref01_cut.l0 k l0 (l0.length : Int)) = some r := h
 clear h
 have H' := Aside0.mk H
 clear H
 obtain ⟨Ao2, co2, eo2⟩ := Kd.R_slice HO0.out
 subst eo2
 go_enter Try.func54, Try.ntmps54
 go_wp2
 go_loopg [3] k (fun kq v3 w' => ∃ (x3_1 : Int), v3 = .int .i64 x3_1 ∧ Aside0 (windbreakref01_cut.l0 kq l0 x3_1 = some r) ∧ Aside0 (kq ≤ k) ∧ Aside0 (Kd.R (Kd.int .u64) 37 w' w0.heap.size (fun k_ => (P0_ k_ ∨ w.heap.size ≤ k_)) (.slice Ao2 l0.length co2) l0) ∧ Aside0 (Kept w w' (fun k_ => P0_ k_)) ∧ Aside0 (Below w0.heap.size w0 w'))
 case atStart => exact ⟨((l0.length : Int)), uG, H', ⟨Nat.le_refl _⟩, ⟨uR HO0.out⟩, ⟨by repeat (first | (with_reducible first | exact HK.out | apply Kept.alloc | apply Kept.drewN | apply Kept.drew) | exact HK.out)⟩, ⟨uB⟩⟩
 case round =>
  clear H'
  (try clear p2)
  obtain ⟨x3_1, rfl, HA, HK1, HO_0, HK, HB⟩ := hrel
  cases gk with
  | zero => exact absurd HA.out (by simp [windbreakref01_cut.l0])
  | succ k1 =>
   have H := HA.out
   clear HA
   simp only [windbreakref01_cut.l0] at H
   by_cases c3 : x3_1 > 0
   ·
    rw [if_pos c3] at H
    have c3b0 : decide (0 < x3_1) = true := decide_eq_true c3
    clear c3
    obtain ⟨ji4, hji4⟩ : ∃ j_ : Int, (wrap64 (x3_1 - 1)) = j_ := ⟨_, rfl⟩
    first | rw [hji4] at H | simp only [hji4] at H
    have hji4w : (IntKind.i64.wrap (x3_1 - 1)) = ji4 := (i64_w _).trans hji4
    replace H := uT H; obtain ⟨c5, H⟩ := H
    have c5b0 : decide (0 ≤ (ji4)) = true := decide_eq_true c5
    clear c5
    replace H := uT H; obtain ⟨c6, H⟩ := H
    have c6b0 : decide ((ji4) < (l0.length : Int)) = true := decide_eq_true c6
    clear c6
    by_cases c7 : (rd l0 (ji4)) = 0
    ·
     rw [if_pos c7] at H
     have c7b0 : ((rd l0 (ji4)) == 0) = true := beq_iff_eq.mpr c7
     have c7b1 : ((rd l0 (ji4)) != 0) = false := bne_eq_false_iff_eq.mpr c7
     clear c7
     have H' := Aside0.mk H
     clear H
     have p154 : 0 ≤ ((ji4) : Int) := uO
     have q154 : (ji4) < (l0.length : Int) := uO
     obtain ⟨ad154, e154, hx154_0⟩ := Kd.at_int (Kd.R_reads' HO_0.out).2.2 (ji4) p154 q154
     cases e154
     replace p154 := eq_true p154
     replace q154 := eq_true q154
     go_wp2
     first | go_roundg k1 | ((try simp only [← hji4] at H'); simp only [← hji4]; go_roundg k1)
     case measure => have := HK1.out; omega
     case rel => first | exact ⟨(ji4), (by first | rfl | (simp; done) | (simp only [← hji4] <;> (first | rfl | simp)) | (simp [*]; done)), H', ⟨by have := HK1.out; omega⟩, ⟨uR HO_0.out⟩, ⟨by repeat (first | (with_reducible first | exact HK.out | apply Kept.alloc | apply Kept.drewN | apply Kept.drew) | exact HK.out)⟩, ⟨uB⟩⟩ | (simp only [← hji4] at H'; exact ⟨(ji4), (by first | rfl | (simp; done) | (simp only [← hji4] <;> (first | rfl | simp)) | (simp [*]; done)), H', ⟨by have := HK1.out; omega⟩, ⟨uR HO_0.out⟩, ⟨by repeat (first | (with_reducible first | exact HK.out | apply Kept.alloc | apply Kept.drewN | apply Kept.drew) | exact HK.out)⟩, ⟨uB⟩⟩)
    rw [if_neg c7] at H
    have c7b0 : ((rd l0 (ji4)) == 0) = false := beq_eq_false_iff_ne.mpr c7
    have c7b1 : ((rd l0 (ji4)) != 0) = true := bne_iff_ne.mpr c7
    replace H := uT H; obtain ⟨c8, H⟩ := H
    have c8b0 := eq_true c8
    have c8b1 : decide (0 ≤ x3_1) = true := decide_eq_true c8
    clear c8
    replace H := uT H; obtain ⟨c9, H⟩ := H
    have c9b0 := eq_true c9
    have c9b1 : decide (x3_1 ≤ (l0.length : Int)) = true := decide_eq_true c9
    clear c9
    obtain ⟨y155, hy155⟩ : ∃ y_ : List Int, y_ = (l0.take (x3_1 : Int).toNat) := ⟨_, rfl⟩
    replace H : (some y155) = some r := by first | (rw [hy155]; with_reducible exact H) | (have H2_ := (Option.bind_some _ _).symm.trans H; rw [hy155]; with_reducible exact H2_) | (have H2_ := (Option.bind_some _ _).symm.trans H; with_reducible exact H2_) | with_reducible exact H | (rw [hy155]; exact H) | exact H
    have Ny155 := Aside0.mk hy155; clear hy155
    obtain rfl := Option.some.inj H
    have p154 : 0 ≤ ((ji4) : Int) := uO
    have q154 : (ji4) < (l0.length : Int) := uO
    obtain ⟨ad154, e154, hx154_0⟩ := Kd.at_int (Kd.R_reads' HO_0.out).2.2 (ji4) p154 q154
    cases e154
    replace p154 := eq_true p154
    replace q154 := eq_true q154
    have q10 : (x3_1 : Int) ≤ ((l0.length : Int) : Int) := uO
    obtain ⟨i010, hi010, _, hsz10, _⟩ := info_parts info37
    have hcut10 := cut_to (P := Try.prog) 80 37 .i64 Try.underlying80 hi010 (some ad154) l0.length co2 x3_1 uO q10 (Kd.R_reads' HO_0.out).2.1
    have hr10 := Kd.R_take (m := (x3_1 : Int).toNat) HO_0.out (by omega)
    have hy10 : y155.length = (x3_1 : Int).toNat := (by rw [Ny155.out, List.length_take]; omega)
    rw [← Ny155.out] at hr10
    rw [← hy10] at hr10 hcut10
    clear hy10 hi010 hsz10 HO_0; have HO157 := Aside0.mk hr10; clear hr10
    replace q10 := eq_true q10
    go_wp2
    go_ret
    exact ⟨_, by first | rfl | (simp [errW_none, errW_some] <;> rfl) | (simp only [← hji4]; first | rfl | (simp [errW_none, errW_some] <;> rfl)) | (simp [*, errW_none, errW_some] <;> rfl), uR HO157.out, uB, by repeat (first | (with_reducible first | exact HK.out | apply Kept.alloc | apply Kept.drewN | apply Kept.drew) | exact HK.out)⟩
   rw [if_neg c3] at H
   have c3b0 : decide (0 < x3_1) = false := decide_eq_false c3
   clear c3
   replace H := uT H; obtain ⟨c11, H⟩ := H
   have c11b0 := eq_true c11
   have c11b1 : decide (0 ≤ x3_1) = true := decide_eq_true c11
   clear c11
   replace H := uT H; obtain ⟨c12, H⟩ := H
   have c12b0 := eq_true c12
   have c12b1 : decide (x3_1 ≤ (l0.length : Int)) = true := decide_eq_true c12
   clear c12
   obtain ⟨y158, hy158⟩ : ∃ y_ : List Int, y_ = (l0.take (x3_1 : Int).toNat) := ⟨_, rfl⟩
   replace H : (some y158) = some r := by first | (rw [hy158]; with_reducible exact H) | (have H2_ := (Option.bind_some _ _).symm.trans H; rw [hy158]; with_reducible exact H2_) | (have H2_ := (Option.bind_some _ _).symm.trans H; with_reducible exact H2_) | with_reducible exact H | (rw [hy158]; exact H) | exact H
   have Ny158 := Aside0.mk hy158; clear hy158
   obtain rfl := Option.some.inj H
   have q13 : (x3_1 : Int) ≤ ((l0.length : Int) : Int) := uO
   obtain ⟨i013, hi013, _, hsz13, _⟩ := info_parts info37
   have hcut13 := cut_to (P := Try.prog) 80 37 .i64 Try.underlying80 hi013 Ao2 l0.length co2 x3_1 uO q13 (Kd.R_reads' HO_0.out).2.1
   have hr13 := Kd.R_take (m := (x3_1 : Int).toNat) HO_0.out (by omega)
   have hy13 : y158.length = (x3_1 : Int).toNat := (by rw [Ny158.out, List.length_take]; omega)
   rw [← Ny158.out] at hr13
   rw [← hy13] at hr13 hcut13
   clear hy13 hi013 hsz13 HO_0; have HO160 := Aside0.mk hr13; clear hr13
   replace q13 := eq_true q13
   go_wp2
   go_ret
   exact ⟨_, uF, uR HO160.out, uB, by repeat (first | (with_reducible first | exact HK.out | apply Kept.alloc | apply Kept.drewN | apply Kept.drew) | exact HK.out)⟩
end Go.Proofs.Ytanmfddlncdncab.F
end
section
namespace Go.Proofs.Ytanmfddlncdncab.Z
open Go.RowKit Go.Proofs.YtanmfddlncdncabW.PrintWords
set_option linter.unusedSimpArgs false
set_option linter.unusedVariables false
def Evt {α : Type} (g : Nat → Option α) (r : α) : Prop := ∃ n, ∀ k, n ≤ k → g k = some r
theorem Evt.pure {α : Type} (r : α) : Evt (fun _ => some r) r := ⟨0, fun _ _ => rfl⟩
theorem Evt.bind {α β : Type} {g : Nat → Option α} {h : α → Nat → Option β} {a : α} {b : β} (h1 : Evt g a) (h2 : Evt (h a) b) : Evt (fun k => (g k).bind fun x => h x k) b := by
  obtain ⟨n, hn⟩ := h1
  obtain ⟨m, hm⟩ := h2
  exact ⟨n + m, fun k hk => by simp only [hn k (by omega), Option.bind_some]; exact hm k (by omega)⟩
theorem Evt.succ {α : Type} {g : Nat → Option α} {r : α} (h : Evt (fun k => g (k + 1)) r) : Evt g r := by
  obtain ⟨n, hn⟩ := h
  refine ⟨n + 1, fun k hk => ?_⟩
  obtain ⟨m, rfl⟩ : ∃ m, k = m + 1 := ⟨k - 1, by omega⟩
  exact hn m (by omega)
theorem Evt.get {α : Type} {g : Nat → Option α} {r : α} (h : Evt g r) : ∃ k, g k = some r := by
  obtain ⟨n, hn⟩ := h
  exact ⟨n, hn n (Nat.le_refl _)⟩
theorem Evt.congr {α : Type} {g g' : Nat → Option α} {r r' : α} (h : Evt g r) (hg : ∀ k, g' k = g k) (hr : r = r') : Evt g' r' := by
  subst hr
  obtain ⟨n, hn⟩ := h
  exact ⟨n, fun k hk => (hg k).trans (hn k hk)⟩
theorem Evt.ite_pos {α : Type} {c : Prop} [Decidable c] {g h : Nat → Option α} {r : α} (hc : c) (hg : Evt g r) : Evt (fun k => if c then g k else h k) r := by
  obtain ⟨n, hn⟩ := hg
  exact ⟨n, fun k hk => (if_pos hc).trans (hn k hk)⟩
theorem Evt.ite_neg {α : Type} {c : Prop} [Decidable c] {g h : Nat → Option α} {r : α} (hc : ¬ c) (hg : Evt h r) : Evt (fun k => if c then g k else h k) r := by
  obtain ⟨n, hn⟩ := hg
  exact ⟨n, fun k hk => (if_neg hc).trans (hn k hk)⟩
theorem Evt.cond' {α : Type} {c : Prop} [Decidable c] {g h : Nat → Option α} {r : α} (hg : c → Evt g r) (hh : ¬ c → Evt h r) : Evt (fun k => if c then g k else h k) r := by
  by_cases hc : c
  · exact Evt.ite_pos hc (hg hc)
  · exact Evt.ite_neg hc (hh hc)
theorem w64 {x : Int} (h0 : -9223372036854775808 ≤ x) (h1 : x < 9223372036854775808) : wrap64 x = x := by unfold wrap64; omega
theorem wu64 (x : Int) : IntKind.u64.wrap x = x % 18446744073709551616 := by simp [IntKind.wrap, IntKind.bits, IntKind.signed]
theorem wu64_of {x : Int} (h0 : 0 ≤ x) (h1 : x < 18446744073709551616) : IntKind.u64.wrap x = x := by rw [wu64]; omega
theorem rd_getD (l : List Int) (i : Int) : rd l i = l.getD i.toNat 0 := rfl
theorem rd_nat (l : List Int) (i : Nat) : rd l (i : Int) = l.getD i 0 := rfl
def val (B : Int) : List Int → Int
  | [] => 0
  | d :: l => d + B * val B l
def Dig (B : Int) (l : List Int) : Prop := ∀ x, x ∈ l → 0 ≤ x ∧ x < B
def Can (l : List Int) : Prop := ∀ h : l ≠ [], l.getLast h ≠ 0
def strip : List Int → List Int
  | [] => []
  | d :: l => if strip l = [] then (if d = 0 then [] else [d]) else d :: strip l
theorem Dig.nil {B : Int} : Dig B [] := fun _ h => by simp at h
theorem Dig.cons {B d : Int} {l : List Int} : Dig B (d :: l) ↔ (0 ≤ d ∧ d < B) ∧ Dig B l := by
  unfold Dig
  simp
theorem Dig.append {B : Int} {l m : List Int} : Dig B (l ++ m) ↔ Dig B l ∧ Dig B m := by
  unfold Dig
  constructor
  · intro h
    exact ⟨fun x hx => h x (by simp [hx]), fun x hx => h x (by simp [hx])⟩
  · intro h x hx
    rcases List.mem_append.1 hx with hx | hx
    · exact h.1 x hx
    · exact h.2 x hx
theorem Dig.take {B : Int} {l : List Int} (h : Dig B l) (n : Nat) : Dig B (l.take n) := fun x hx => h x (List.mem_of_mem_take hx)
theorem Dig.drop {B : Int} {l : List Int} (h : Dig B l) (n : Nat) : Dig B (l.drop n) := fun x hx => h x (List.mem_of_mem_drop hx)
theorem Dig.getD {B : Int} {l : List Int} (h : Dig B l) (hB : 0 < B) (i : Nat) : 0 ≤ l.getD i 0 ∧ l.getD i 0 < B := by
  rw [List.getD_eq_getElem?_getD]
  cases he : l[i]? with
  | none => simp; omega
  | some x => simpa using h x (List.mem_of_getElem? he)
theorem Dig.set {B : Int} {l : List Int} (h : Dig B l) (i : Nat) {v : Int} (hv : 0 ≤ v ∧ v < B) : Dig B (l.set i v) := by
  intro x hx
  rcases List.mem_or_eq_of_mem_set hx with hx | rfl
  · exact h x hx
  · exact hv
theorem val_append (B : Int) (l m : List Int) : val B (l ++ m) = val B l + B ^ l.length * val B m := by
  induction l with
  | nil => simp [val]
  | cons d l ih => simp only [List.cons_append, val, ih, List.length_cons, Int.pow_succ]; grind
theorem val_replicate (B : Int) (n : Nat) : val B (List.replicate n 0) = 0 := by
  induction n with
  | zero => rfl
  | succ n ih => simp [List.replicate_succ, val, ih]
theorem val_nonneg {B : Int} (hB : 0 < B) {l : List Int} (h : Dig B l) : 0 ≤ val B l := by
  induction l with
  | nil => simp [val]
  | cons d l ih =>
    have h' := Dig.cons.1 h
    have h1 := ih h'.2
    have : 0 ≤ B * val B l := Int.mul_nonneg (by omega) h1
    simp only [val]
    omega
theorem val_lt {B : Int} (hB : 0 < B) {l : List Int} (h : Dig B l) : val B l < B ^ l.length := by
  induction l with
  | nil => simp [val]
  | cons d l ih =>
    have h' := Dig.cons.1 h
    have h1 := ih h'.2
    have h2 : B * val B l ≤ B * (B ^ l.length - 1) := Int.mul_le_mul_of_nonneg_left (by omega) (by omega)
    have h3 : B * (B ^ l.length - 1) = B * B ^ l.length - B := by grind
    simp only [val, List.length_cons, Int.pow_succ]
    have h4 : B ^ l.length * B = B * B ^ l.length := Int.mul_comm _ _
    omega
theorem Can.nil : Can [] := fun h => absurd rfl h
theorem Can.tail {d : Int} {l : List Int} (h : Can (d :: l)) : Can l := by
  intro hl
  have := h (by simp)
  rwa [List.getLast_cons hl] at this
theorem Can.one {d : Int} (h : d ≠ 0) : Can [d] := fun _ => by simpa using h
theorem Can.cons {d : Int} {l : List Int} (h : Can l) (hl : l ≠ []) : Can (d :: l) := by
  intro _
  rw [List.getLast_cons hl]
  exact h hl
theorem val_pos {B : Int} (hB : 0 < B) {l : List Int} (h : Dig B l) (hc : Can l) (hl : l ≠ []) : B ^ (l.length - 1) ≤ val B l := by
  induction l with
  | nil => exact absurd rfl hl
  | cons d l ih =>
    have h' := Dig.cons.1 h
    by_cases e : l = []
    · subst e
      have := hc (by simp)
      simp [val] at this ⊢
      omega
    · have h1 := ih h'.2 hc.tail e
      have h2 : l.length - 1 + 1 = l.length := by have := List.length_pos_iff.2 e; omega
      simp only [val, List.length_cons, Nat.add_sub_cancel]
      rw [← h2, Int.pow_succ, Int.mul_comm]
      have : B * B ^ (l.length - 1) ≤ B * val B l := Int.mul_le_mul_of_nonneg_left h1 (by omega)
      omega
theorem val_zero {B : Int} (hB : 0 < B) {l : List Int} (h : Dig B l) (hc : Can l) (h0 : val B l = 0) : l = [] := by
  by_cases e : l = []
  · exact e
  · have := val_pos hB h hc e
    have h2 : 0 < B ^ (l.length - 1) := Int.pow_pos hB
    omega
theorem val_inj {B : Int} (hB : 0 < B) {l m : List Int} (hl : Dig B l) (hm : Dig B m) (cl : Can l) (cm : Can m) (h : val B l = val B m) : l = m := by
  induction l generalizing m with
  | nil => exact (val_zero hB hm cm h.symm).symm
  | cons d l ih =>
    cases m with
    | nil => exact val_zero hB hl cl h
    | cons e m =>
      have h1 := Dig.cons.1 hl
      have h2 := Dig.cons.1 hm
      simp only [val] at h
      have h3 : d = e := by
        have a1 : (d + B * val B l) % B = d := by rw [Int.add_mul_emod_self_left]; exact Int.emod_eq_of_lt h1.1.1 h1.1.2
        have a2 : (e + B * val B m) % B = e := by rw [Int.add_mul_emod_self_left]; exact Int.emod_eq_of_lt h2.1.1 h2.1.2
        rw [← a1, ← a2, h]
      subst h3
      have h4 : val B l = val B m := by
        have : B * val B l = B * val B m := by omega
        exact Int.eq_of_mul_eq_mul_left (by omega) this
      rw [ih h1.2 h2.2 cl.tail cm.tail h4]
theorem strip_val (B : Int) (l : List Int) : val B (strip l) = val B l := by
  induction l with
  | nil => rfl
  | cons d l ih =>
    simp only [strip]
    split
    · rename_i h
      rw [h] at ih
      simp only [val] at ih
      split
      · rename_i h0; simp [val, ← ih, h0]
      · simp [val, ← ih]
    · simp [val, ih]
theorem strip_can (l : List Int) : Can (strip l) := by
  induction l with
  | nil => exact Can.nil
  | cons d l ih =>
    simp only [strip]
    split
    · split
      · exact Can.nil
      · rename_i h; exact Can.one h
    · rename_i h; exact ih.cons h
theorem strip_dig {B : Int} {l : List Int} (h : Dig B l) : Dig B (strip l) := by
  induction l with
  | nil => exact Dig.nil
  | cons d l ih =>
    have h' := Dig.cons.1 h
    simp only [strip]
    split
    · split
      · exact Dig.nil
      · exact Dig.cons.2 ⟨h'.1, Dig.nil⟩
    · exact Dig.cons.2 ⟨h'.1, ih h'.2⟩
theorem strip_of_can {l : List Int} (h : Can l) : strip l = l := by
  induction l with
  | nil => rfl
  | cons d l ih =>
    simp only [strip]
    rw [ih h.tail]
    split
    · rename_i e
      subst e
      have := h (by simp)
      simp at this
      simp [this]
    · rfl
theorem strip_snoc_zero (l : List Int) : strip (l ++ [0]) = strip l := by
  induction l with
  | nil => simp [strip]
  | cons d l ih => simp only [List.cons_append, strip, ih]
theorem strip_snoc {l : List Int} {d : Int} (h : d ≠ 0) : strip (l ++ [d]) = l ++ [d] := by
  apply strip_of_can
  intro hl
  simpa using h
theorem pow_mono {B : Int} (hB : 0 < B) {m n : Nat} (h : m ≤ n) : B ^ m ≤ B ^ n := by
  induction n with
  | zero => have : m = 0 := by omega
            subst this
            exact Int.le_refl _
  | succ n ih =>
    by_cases e : m = n + 1
    · subst e
      exact Int.le_refl _
    · have h1 := ih (by omega)
      have h2 : 0 < B ^ n := Int.pow_pos hB
      have h3 : 1 * B ^ n ≤ B * B ^ n := Int.mul_le_mul_of_nonneg_right (by omega) (by omega)
      rw [Int.pow_succ, Int.mul_comm]
      omega
def rightB (l : List Int) : Bool := decide (l.length ≤ 64) && ((l.length == 0) || (l.getD (l.length - 1) 0 != 0))
theorem can_iff (l : List Int) : Can l ↔ ((l.length == 0) || (l.getD (l.length - 1) 0 != 0)) = true := by
  cases l with
  | nil => simp [Can]
  | cons d l =>
    have h : (d :: l).getLast (by simp) = (d :: l).getD ((d :: l).length - 1) 0 := by
      rw [List.getLast_eq_getElem]
      simp
    unfold Can
    simp only [List.length_cons, Nat.add_one_ne_zero, beq_iff_eq, Bool.or_eq_true, bne_iff_ne, false_or]
    constructor
    · intro hc
      have := hc (by simp)
      rw [h] at this
      exact this
    · intro hc _
      rw [h]
      exact hc
theorem rightB_iff (l : List Int) : rightB l = true ↔ l.length ≤ 64 ∧ Can l := by
  unfold rightB
  rw [Bool.and_eq_true, decide_eq_true_iff, ← can_iff]
def encN (n : Nat) : List Int := if n < 128 then [(n : Int)] else ((n % 128 + 128 : Nat) : Int) :: encN (n / 128)
termination_by n
decreasing_by omega
theorem encN_small {n : Nat} (h : n < 128) : encN n = [(n : Int)] := by rw [encN, if_pos h]
theorem encN_big {n : Nat} (h : ¬ n < 128) : encN n = ((n % 128 + 128 : Nat) : Int) :: encN (n / 128) := by rw [encN, if_neg h]
theorem encN_pos (n : Nat) : 0 < (encN n).length := by
  by_cases h : n < 128
  · rw [encN_small h]; simp
  · rw [encN_big h]; simp
theorem encN_dig (n : Nat) : Dig 256 (encN n) := by
  induction n using Nat.strongRecOn with
  | ind n ih =>
    by_cases h : n < 128
    · rw [encN_small h]
      exact Dig.cons.2 ⟨by omega, Dig.nil⟩
    · rw [encN_big h]
      exact Dig.cons.2 ⟨by omega, ih _ (by omega)⟩
theorem encN_len (n : Nat) (d : Nat) (h : n < 128 ^ (d + 1)) : (encN n).length ≤ d + 1 := by
  induction d generalizing n with
  | zero => rw [encN_small (by simpa using h)]; simp
  | succ d ih =>
    by_cases h1 : n < 128
    · rw [encN_small h1]; simp
    · rw [encN_big h1]
      have := ih (n / 128) (by rw [Nat.div_lt_iff_lt_mul (by omega)]; rw [Nat.pow_succ] at h; exact h)
      simp
      omega
def nxt : Nat → List Int → Option (Nat × Nat)
  | _, [] => none
  | j, c :: l => if j = 9 ∧ (1 < c % 128 ∨ 128 ≤ c) then none else if c < 128 then (if c = 0 ∧ 0 < j then none else some (c.toNat, 1)) else (nxt (j + 1) l).bind fun r => some ((c % 128).toNat + 128 * r.1, r.2 + 1)
theorem nxt_encN (n : Nat) : ∀ (j : Nat) (x : List Int), n < 2 ^ (64 - 7 * j) → (0 < j → 0 < n) → j ≤ 9 → nxt j (encN n ++ x) = some (n, (encN n).length) := by
  induction n using Nat.strongRecOn with
  | ind n ih =>
    intro j x hn h0 hj
    by_cases h : n < 128
    · rw [encN_small h]
      simp only [List.cons_append, List.nil_append, nxt]
      rw [if_neg, if_pos (by omega), if_neg (by omega)]
      · simp
      · rintro ⟨rfl, h1⟩
        have : n < 2 ^ 1 := hn
        omega
    · rw [encN_big h]
      simp only [List.cons_append, nxt]
      have h9 : j ≠ 9 := by
        rintro rfl
        have : n < 2 ^ 1 := hn
        omega
      rw [if_neg (by omega), if_neg (by omega), ih (n / 128) (by omega) (j + 1) x ?_ (by omega) (by omega)]
      · simp
        omega
      · rw [Nat.div_lt_iff_lt_mul (by omega), show 128 = 2 ^ 7 from rfl, ← Nat.pow_add]
        refine Nat.lt_of_lt_of_le hn (Nat.pow_le_pow_right (by omega) (by omega))
theorem nxt_of : ∀ (l : List Int) (j n k : Nat), Dig 256 l → j ≤ 9 → nxt j l = some (n, k) → k ≤ l.length ∧ l.take k = encN n ∧ n < 2 ^ (64 - 7 * j) ∧ (0 < j → 0 < n) := by
  intro l
  induction l with
  | nil => intro j n k _ _ h; simp [nxt] at h
  | cons c l ih =>
    intro j n k hd hj h
    obtain ⟨hc, hd⟩ := Dig.cons.1 hd
    rw [nxt] at h
    by_cases h1 : j = 9 ∧ (1 < c % 128 ∨ 128 ≤ c)
    · rw [if_pos h1] at h; simp at h
    · rw [if_neg h1] at h
      by_cases h2 : c < 128
      · rw [if_pos h2] at h
        by_cases h3 : c = 0 ∧ 0 < j
        · rw [if_pos h3] at h; simp at h
        · rw [if_neg h3] at h
          simp only [Option.some.injEq, Prod.mk.injEq] at h
          obtain ⟨rfl, rfl⟩ := h
          refine ⟨by simp, ?_, ?_, by omega⟩
          · rw [encN_small (by omega)]
            simp
            omega
          · by_cases h9 : j = 9
            · subst h9
              show _ < 2 ^ 1
              omega
            · have : 2 ^ 8 ≤ 2 ^ (64 - 7 * j) := Nat.pow_le_pow_right (by omega) (by omega)
              omega
      · rw [if_neg h2] at h
        obtain ⟨⟨n', k'⟩, hr, h⟩ := Option.bind_eq_some_iff.mp h
        simp only [Option.some.injEq, Prod.mk.injEq] at h
        obtain ⟨rfl, rfl⟩ := h
        have hj9 : j ≠ 9 := by omega
        obtain ⟨a1, a2, a3, a4⟩ := ih (j + 1) n' k' hd (by omega) hr
        have a4 := a4 (by omega)
        refine ⟨by simp; omega, ?_, ?_, by omega⟩
        · rw [encN_big (by omega), List.take_succ_cons, a2]
          congr 1
          · omega
          · congr 1
            omega
        · have e : 64 - 7 * j = (64 - 7 * (j + 1)) + 7 := by omega
          rw [e, Nat.pow_add]
          omega
def encL (l : List Int) : List Int := l.flatMap fun x => encN x.toNat
theorem encL_nil : encL [] = [] := rfl
theorem encL_cons (x : Int) (l : List Int) : encL (x :: l) = encN x.toNat ++ encL l := by simp [encL]
def toD (B : Nat) (v : Nat) : List Int := if h : 2 ≤ B ∧ 0 < v then ((v % B : Nat) : Int) :: toD B (v / B) else []
termination_by v
decreasing_by exact Nat.div_lt_self h.2 (by omega)
theorem toD_zero (B : Nat) : toD B 0 = [] := by rw [toD]; simp
theorem toD_pos {B v : Nat} (hB : 2 ≤ B) (hv : 0 < v) : toD B v = ((v % B : Nat) : Int) :: toD B (v / B) := by rw [toD]; simp [hB, hv]
theorem toD_dig {B : Nat} (hB : 2 ≤ B) (v : Nat) : Dig (B : Int) (toD B v) := by
  induction v using Nat.strongRecOn with
  | _ v ih =>
    by_cases hv : v = 0
    · subst hv; rw [toD_zero]; exact Dig.nil
    · rw [toD_pos hB (by omega)]
      have := Nat.mod_lt v (show B > 0 by omega)
      exact Dig.cons.2 ⟨by omega, ih _ (Nat.div_lt_self (by omega) (by omega))⟩
theorem toD_eq_nil {B v : Nat} (hB : 2 ≤ B) : toD B v = [] ↔ v = 0 := by
  constructor
  · intro h
    by_cases hv : v = 0
    · exact hv
    · rw [toD_pos hB (by omega)] at h; cases h
  · rintro rfl; exact toD_zero B
theorem toD_can {B : Nat} (hB : 2 ≤ B) (v : Nat) : Can (toD B v) := by
  induction v using Nat.strongRecOn with
  | _ v ih =>
    by_cases hv : v = 0
    · subst hv; rw [toD_zero]; exact Can.nil
    · rw [toD_pos hB (by omega)]
      by_cases hq : v / B = 0
      · rw [hq, toD_zero]
        have hlt : v < B := (Nat.div_eq_zero_iff_lt (by omega)).1 hq
        rw [Nat.mod_eq_of_lt hlt]
        exact Can.one (by omega)
      · exact (ih _ (Nat.div_lt_self (by omega) (by omega))).cons (fun e => hq ((toD_eq_nil hB).1 e))
theorem val_toD {B : Nat} (hB : 2 ≤ B) (v : Nat) : val (B : Int) (toD B v) = (v : Int) := by
  induction v using Nat.strongRecOn with
  | _ v ih =>
    by_cases hv : v = 0
    · subst hv; rw [toD_zero]; rfl
    · rw [toD_pos hB (by omega)]
      simp only [val]
      rw [ih _ (Nat.div_lt_self (by omega) (by omega))]
      have h2 := Nat.mod_add_div v B
      have h3 : ((v % B + B * (v / B) : Nat) : Int) = (v : Int) := by rw [h2]
      simpa using h3
theorem strip_toD {B : Nat} (hB : 2 ≤ B) {l : List Int} (h : Dig (B : Int) l) : strip l = toD B (val (B : Int) l).toNat := by
  have h0 : (0 : Int) < (B : Int) := by omega
  refine val_inj h0 (strip_dig h) (toD_dig hB _) (strip_can l) (toD_can hB _) ?_
  rw [strip_val, val_toD hB]
  have := val_nonneg h0 h
  omega
theorem can_toD {B : Nat} (hB : 2 ≤ B) {l : List Int} (h : Dig (B : Int) l) (hc : Can l) : l = toD B (val (B : Int) l).toNat := by
  rw [← strip_toD hB h, strip_of_can hc]
theorem pow_cast (B n : Nat) : ((B : Int)) ^ n = ((B ^ n : Nat) : Int) := by simp
theorem toD_len_le {B : Nat} (hB : 2 ≤ B) {v n : Nat} (h : v < B ^ n) : (toD B v).length ≤ n := by
  by_cases hv : v = 0
  · subst hv; rw [toD_zero]; simp
  · have h1 := val_pos (show (0 : Int) < (B : Int) by omega) (toD_dig hB v) (toD_can hB v) (fun e => hv ((toD_eq_nil hB).1 e))
    rw [val_toD hB, pow_cast] at h1
    have h2 : B ^ ((toD B v).length - 1) ≤ v := by omega
    have h3 : B ^ ((toD B v).length - 1) < B ^ n := by omega
    have h4 := (Nat.pow_lt_pow_iff_right (show 1 < B by omega)).1 h3
    omega
theorem toD_lt_pow {B : Nat} (hB : 2 ≤ B) (v : Nat) : v < B ^ (toD B v).length := by
  have h1 := val_lt (show (0 : Int) < (B : Int) by omega) (toD_dig hB v)
  rw [val_toD hB, pow_cast] at h1
  omega
theorem toD_len_iff {B : Nat} (hB : 2 ≤ B) (v n : Nat) : (toD B v).length ≤ n ↔ v < B ^ n :=
  ⟨fun h => Nat.lt_of_lt_of_le (toD_lt_pow hB v) (Nat.pow_le_pow_right (by omega) h), toD_len_le hB⟩
def b64 : Nat := 18446744073709551616
def b16 : Nat := 65536
theorem b64_two : 2 ≤ b64 := by decide
theorem b16_two : 2 ≤ b16 := by decide
theorem b64_pow : b64 = b16 ^ 4 := by decide
def num (l : List Int) : Nat := (val (b64 : Int) l).toNat
def num16 (l : List Int) : Nat := (val (b16 : Int) l).toNat
abbrev limbs (v : Nat) : List Int := toD b64 v
abbrev digs (v : Nat) : List Int := toD b16 v
theorem b64_pos : (0 : Int) < (b64 : Int) := by decide
theorem b16_pos : (0 : Int) < (b16 : Int) := by decide
theorem num_val {l : List Int} (h : Dig (b64 : Int) l) : (num l : Int) = val (b64 : Int) l := by
  have := val_nonneg b64_pos h
  unfold num; omega
theorem num_limbs (v : Nat) : num (limbs v) = v := by unfold num limbs; rw [val_toD b64_two]; omega
theorem limbs_num {l : List Int} (h : Dig (b64 : Int) l) (hc : Can l) : limbs (num l) = l := (can_toD b64_two h hc).symm
theorem strip_limbs {l : List Int} (h : Dig (b64 : Int) l) : strip l = limbs (num l) := strip_toD b64_two h
theorem strip_digs {l : List Int} (h : Dig (b16 : Int) l) : strip l = digs (num16 l) := strip_toD b16_two h
theorem num_lt {l : List Int} (h : Dig (b64 : Int) l) : num l < b64 ^ l.length := by
  have h1 := val_lt b64_pos h
  rw [← num_val h, pow_cast] at h1
  omega
def thousand : Nat := 1000
def lim : Nat := b64 ^ thousand
theorem lim_pow {n : Nat} (h : n ≤ 1000) : b64 ^ n ≤ lim := Nat.pow_le_pow_right (by decide) (show n ≤ thousand from h)
theorem num_lt_lim {l : List Int} (h : Dig (b64 : Int) l) (hl : l.length ≤ 1000) : num l < lim := Nat.lt_of_lt_of_le (num_lt h) (lim_pow hl)
theorem digs_len {v : Nat} (hv : v < lim) : (digs v).length ≤ 4000 := by
  have h : lim = b16 ^ (4 * thousand) := by
    unfold lim
    rw [b64_pow, ← Nat.pow_mul]
  rw [h] at hv
  have h2 := toD_len_le b16_two hv
  exact Nat.le_trans h2 (by decide)
theorem b64_pow2 (m : Nat) : b64 ^ m = 2 ^ (64 * m) := by
  have h : b64 = 2 ^ 64 := by decide
  rw [h, ← Nat.pow_mul]
theorem pow2_le_b64 {n m : Nat} (h : n ≤ 64 * m) : 2 ^ n ≤ b64 ^ m := by
  rw [b64_pow2]
  exact Nat.pow_le_pow_right (by decide) h
def toldV (v : Nat) : List Int × Int := if v < b64 ^ 64 then (limbs v, 0) else ([], 4)
theorem limbs_long (v : Nat) : (limbs v).length ≤ 64 ↔ v < b64 ^ 64 := toD_len_iff b64_two v 64
theorem val_base (l : List Int) (hl : Dig (b64 : Int) l) : ∃ m, Dig (b16 : Int) m ∧ m.length = 4 * l.length ∧ val (b16 : Int) m = val (b64 : Int) l ∧ m = l.flatMap (fun x => [x % 65536, x / 65536 % 65536, x / 65536 / 65536 % 65536, x / 65536 / 65536 / 65536 % 65536]) := by
  induction l with
  | nil => exact ⟨[], Dig.nil, rfl, rfl, rfl⟩
  | cons d l ih =>
    have h1 := Dig.cons.1 hl
    obtain ⟨m, hm, hlen, hv, he⟩ := ih h1.2
    refine ⟨[d % 65536, d / 65536 % 65536, d / 65536 / 65536 % 65536, d / 65536 / 65536 / 65536 % 65536] ++ m, ?_, ?_, ?_, ?_⟩
    · refine Dig.append.2 ⟨?_, hm⟩
      intro x hx
      simp only [List.mem_cons, List.not_mem_nil, or_false] at hx
      simp only [b16]
      omega
    · simp only [List.length_append, List.length_cons, List.length_nil, hlen]; omega
    · rw [val_append, hv]
      have h2 := h1.1
      simp only [b64] at h2 ⊢
      simp only [val, b16, List.length_cons, List.length_nil]
      omega
    · simp only [List.flatMap_cons, ← he]
def bl (n : Nat) : Nat := if n = 0 then 0 else n.log2 + 1
theorem bl_lt (n : Nat) : n < 2 ^ bl n := by
  unfold bl
  by_cases h : n = 0
  · subst h; decide
  · rw [if_neg h]; exact Nat.lt_log2_self
theorem bl_ge {n : Nat} (h : n ≠ 0) : 2 ^ (bl n - 1) ≤ n := by
  unfold bl
  rw [if_neg h, Nat.add_sub_cancel]
  exact Nat.log2_self_le h
theorem bl_pos {n : Nat} (h : n ≠ 0) : 0 < bl n := by unfold bl; rw [if_neg h]; omega
theorem bl_unique {n m : Nat} (h1 : n < 2 ^ m) (h2 : m = 0 ∨ 2 ^ (m - 1) ≤ n) : bl n = m := by
  by_cases h : n = 0
  · subst h
    rcases h2 with h2 | h2
    · rw [h2]; rfl
    · have := Nat.pow_pos (a := 2) (n := m - 1) (by decide)
      omega
  · have a1 := bl_lt n
    have a2 := bl_ge h
    have a3 := bl_pos h
    have hm : 0 < m := by
      by_cases e : m = 0
      · subst e; simp at h1; omega
      · omega
    have b1 : bl n - 1 < m := (Nat.pow_lt_pow_iff_right (a := 2) (by decide)).1 (by omega)
    have b2 : m - 1 < bl n := by
      rcases h2 with h2 | h2
      · omega
      · exact (Nat.pow_lt_pow_iff_right (a := 2) (by decide)).1 (by omega)
    omega
theorem bl_shift (n s : Nat) (h : n / 2 ^ s ≠ 0) : bl n = s + bl (n / 2 ^ s) := by
  have a1 := bl_lt (n / 2 ^ s)
  have a2 := bl_ge h
  have a3 := bl_pos h
  have hp : 0 < 2 ^ s := Nat.pow_pos (by decide)
  refine bl_unique ?_ (Or.inr ?_)
  · rw [Nat.pow_add]
    have := Nat.lt_mul_of_div_lt a1 hp
    rw [Nat.mul_comm]
    exact this
  · rw [show s + bl (n / 2 ^ s) - 1 = s + (bl (n / 2 ^ s) - 1) from by omega, Nat.pow_add]
    have := Nat.mul_le_mul_left (2 ^ s) a2
    exact Nat.le_trans this (Nat.mul_div_le n (2 ^ s))
theorem bl_le {x m : Nat} (h : x < 2 ^ m) : bl x ≤ m := by
  by_cases hx : x = 0
  · subst hx; exact Nat.zero_le _
  · have a2 := bl_ge hx
    have a3 := bl_pos hx
    have : bl x - 1 < m := (Nat.pow_lt_pow_iff_right (a := 2) (by decide)).1 (by omega)
    omega
theorem bl_le8 {x : Nat} (h : x < 256) : bl x ≤ 8 := bl_le h
def bitsV (a : List Int) : Int := if rightB a = true ∧ a.length ≠ 0 then 64 * ((a.length : Int) - 1) + ((bl (a.getD (a.length - 1) 0).toNat : Nat) : Int) else 0
end Go.Proofs.Ytanmfddlncdncab.Z
end
section
namespace Go.Proofs.Ytanmfddlncdncab.Z
open Go.RowKit Go.Proofs.Ytanmfddlncdncab.F Go.Proofs.YtanmfddlncdncabW.PrintWords
set_option linter.unusedSimpArgs false
set_option linter.unusedVariables false
theorem nat_Right_eq {l : List Int} (h : l.length ≤ maxLen) : nat_Right.f l = some (rightB l) := by
  unfold maxLen at h
  unfold nat_Right.f rightB
  by_cases h1 : l.length ≤ 64
  · rw [if_pos (by omega)]
    by_cases h2 : l.length = 0
    · rw [if_pos (by omega)]
      simp [h1, h2]
    · rw [if_neg (by omega), w64 (by omega) (by omega), if_pos (by omega), if_pos (by omega), rd_getD]
      rw [show ((l.length : Int) - 1).toNat = l.length - 1 from by omega]
      have h3 : (l.length == 0) = false := by simpa using h2
      rw [h3]
      simp [h1]
  · rw [if_neg (by omega)]
    simp [h1]
theorem same_loop (l m : List Int) (h : l.length ≤ maxLen) (hlm : l.length = m.length) (d : Nat) : ∀ i : Nat, i ≤ l.length → l.length - i = d → Evt (fun k => windbreakref01_Same.l0 k l m (i : Int)) (decide (l.drop i = m.drop i)) := by
  unfold maxLen at h
  induction d with
  | zero =>
    intro i hi hd
    refine Evt.succ ?_
    simp only [windbreakref01_Same.l0]
    refine Evt.ite_neg (by omega) ?_
    rw [List.drop_of_length_le (by omega), List.drop_of_length_le (by omega)]
    exact Evt.pure _
  | succ d ih =>
    intro i hi hd
    have hl : i < l.length := by omega
    have hm : i < m.length := by omega
    refine Evt.succ ?_
    simp only [windbreakref01_Same.l0]
    refine Evt.ite_pos (by omega) (Evt.ite_pos (by omega) (Evt.ite_pos (by omega) ?_))
    have e1 : rd l (i : Int) = l[i] := by simp [rd_nat, hl]
    have e2 : rd m (i : Int) = m[i] := by simp [rd_nat, hm]
    rw [e1, e2, w64 (by omega) (by omega), List.drop_eq_getElem_cons hl, List.drop_eq_getElem_cons hm]
    by_cases he : l[i] = m[i]
    · refine Evt.ite_pos he ?_
      refine (ih (i + 1) (by omega) (by omega)).congr (fun k => rfl) ?_
      rw [he]
      simp only [List.cons.injEq, true_and]
    · refine Evt.ite_neg he ?_
      have : decide (l[i] :: l.drop (i + 1) = m[i] :: m.drop (i + 1)) = false := by
        simp only [List.cons.injEq, decide_eq_false_iff_not]
        exact fun hh => he hh.1
      rw [this]
      exact Evt.pure _
theorem same_ev (l m : List Int) (h : l.length ≤ maxLen) : Evt (fun k => windbreakref01_Same.f k l m) (decide (l = m)) := by
  unfold windbreakref01_Same.f
  by_cases hlm : l.length = m.length
  · refine Evt.ite_pos (by omega) ?_
    exact (same_loop l m h hlm l.length 0 (Nat.zero_le _) (by omega)).congr (fun k => rfl) (by simp)
  · refine Evt.ite_neg (by omega) ?_
    have : decide (l = m) = false := by
      simp only [decide_eq_false_iff_not]
      intro e
      exact hlm (by rw [e])
    rw [this]
    exact Evt.pure _
theorem nat_trim_loop (l : List Int) (h : l.length ≤ maxLen) : ∀ n : Nat, n ≤ l.length → Evt (fun k => nat_trim.l0 k l (n : Int)) (strip (l.take n)) := by
  unfold maxLen at h
  intro n
  induction n with
  | zero =>
    intro _
    refine Evt.succ ?_
    simp only [nat_trim.l0]
    refine Evt.ite_neg (by omega) (Evt.ite_pos (by omega) (Evt.ite_pos (by omega) ?_))
    simp [strip]
    exact Evt.pure _
  | succ n ih =>
    intro hn
    refine Evt.succ ?_
    simp only [nat_trim.l0]
    rw [w64 (by omega) (by omega), show ((n + 1 : Nat) : Int) - 1 = (n : Int) from by omega]
    refine Evt.ite_pos (by omega) (Evt.ite_pos (by omega) (Evt.ite_pos (by omega) ?_))
    rw [rd_nat, List.take_succ_eq_append_getElem (show n < l.length by omega)]
    have hg : l.getD n 0 = l[n] := by simp [show n < l.length by omega]
    rw [hg]
    by_cases h0 : l[n] = 0
    · rw [h0, strip_snoc_zero]
      exact Evt.ite_pos rfl (ih (by omega))
    · rw [strip_snoc h0]
      refine Evt.ite_neg h0 (Evt.ite_pos (by omega) (Evt.ite_pos (by omega) ?_))
      rw [← List.take_succ_eq_append_getElem (show n < l.length by omega)]
      exact Evt.pure _
theorem nat_trim_ev (l : List Int) (h : l.length ≤ maxLen) : Evt (fun k => nat_trim.f k l) (strip l) := by
  have := nat_trim_loop l h l.length (Nat.le_refl _)
  exact this.congr (fun k => rfl) (by rw [List.take_length])
theorem nat_told_ev (l : List Int) (h : l.length ≤ 1000000) (d : Dig (b64 : Int) l) : Evt (fun k => nat_told.f k l) (toldV (num l)) := by
  unfold nat_told.f toldV
  refine Evt.bind (nat_trim_ev l (by simp [maxLen]; omega)) ?_
  rw [strip_limbs d]
  have hl := limbs_long (num l)
  by_cases h1 : num l < b64 ^ 64
  · rw [if_pos h1]
    have := hl.2 h1
    exact Evt.ite_neg (by omega) (Evt.pure _)
  · rw [if_neg h1]
    have : ¬ (limbs (num l)).length ≤ 64 := fun hh => h1 (hl.1 hh)
    exact Evt.ite_pos (by omega) (Evt.pure _)
theorem windbreakref01_cut_loop (l : List Int) (h : l.length ≤ maxLen) : ∀ n : Nat, n ≤ l.length → Evt (fun k => windbreakref01_cut.l0 k l (n : Int)) (strip (l.take n)) := by
  unfold maxLen at h
  intro n
  induction n with
  | zero =>
    intro _
    refine Evt.succ ?_
    simp only [windbreakref01_cut.l0]
    refine Evt.ite_neg (by omega) (Evt.ite_pos (by omega) (Evt.ite_pos (by omega) ?_))
    simp [strip]
    exact Evt.pure _
  | succ n ih =>
    intro hn
    refine Evt.succ ?_
    simp only [windbreakref01_cut.l0]
    rw [w64 (by omega) (by omega), show ((n + 1 : Nat) : Int) - 1 = (n : Int) from by omega]
    refine Evt.ite_pos (by omega) (Evt.ite_pos (by omega) (Evt.ite_pos (by omega) ?_))
    rw [rd_nat, List.take_succ_eq_append_getElem (show n < l.length by omega)]
    have hg : l.getD n 0 = l[n] := by simp [show n < l.length by omega]
    rw [hg]
    by_cases h0 : l[n] = 0
    · rw [h0, strip_snoc_zero]
      exact Evt.ite_pos rfl (ih (by omega))
    · rw [strip_snoc h0]
      refine Evt.ite_neg h0 (Evt.ite_pos (by omega) (Evt.ite_pos (by omega) ?_))
      rw [← List.take_succ_eq_append_getElem (show n < l.length by omega)]
      exact Evt.pure _
theorem windbreakref01_cut_ev (l : List Int) (h : l.length ≤ maxLen) : Evt (fun k => windbreakref01_cut.f k l) (strip l) := by
  have := windbreakref01_cut_loop l h l.length (Nat.le_refl _)
  exact this.congr (fun k => rfl) (by rw [List.take_length])
theorem windbreakref01_Right_eq {l : List Int} (h : l.length ≤ maxLen) : windbreakref01_Right.f l = some (rightB l) := by
  unfold maxLen at h
  unfold windbreakref01_Right.f rightB
  by_cases h1 : l.length ≤ 64
  · rw [if_pos (by omega)]
    by_cases h2 : l.length = 0
    · rw [if_pos (by omega)]
      simp [h1, h2]
    · rw [if_neg (by omega), w64 (by omega) (by omega), if_pos (by omega), if_pos (by omega), rd_getD]
      rw [show ((l.length : Int) - 1).toNat = l.length - 1 from by omega]
      have h3 : (l.length == 0) = false := by simpa using h2
      rw [h3]
      simp [h1]
  · rw [if_neg (by omega)]
    simp [h1]
end Go.Proofs.Ytanmfddlncdncab.Z
end
section
namespace Go.Proofs.Ytanmfddlncdncab.Z
open Go.RowKit Go.Proofs.Ytanmfddlncdncab.F Go.Proofs.YtanmfddlncdncabW.PrintWords Go.Proofs.YtanmfddlncdncabW.PrintMore
set_option linter.unusedSimpArgs false
set_option linter.unusedVariables false
theorem val_set (B : Int) (l : List Int) : ∀ (i : Nat) (v : Int), i < l.length → val B (l.set i v) = val B l + B ^ i * (v - l.getD i 0) := by
  induction l with
  | nil => intro i v h; simp at h
  | cons d l ih =>
    intro i v h
    cases i with
    | zero => simp [val]; omega
    | succ i =>
      have h2 := ih i v (by simpa using h)
      simp only [List.set_cons_succ, val, h2, Int.pow_succ, List.getD_cons_succ]
      generalize l.getD i 0 = y
      generalize B ^ i = P
      generalize val B l = V
      grind
theorem set_append_left {l m : List Int} {i : Nat} {v : Int} (h : i < l.length) : (l ++ m).set i v = l.set i v ++ m := by
  rw [List.set_append, if_pos h]
theorem val_take_step (B : Int) (l : List Int) (i : Nat) (h : i < l.length) : val B (l.take (i + 1)) = val B (l.take i) + B ^ i * l[i] := by
  rw [List.take_succ_eq_append_getElem h, val_append]
  simp only [val, List.length_take]
  rw [show min i l.length = i from by omega, Int.mul_zero, Int.add_zero]
theorem wraps_u64 (n : Int) (h0 : 0 ≤ n) (h1 : n < 2 ^ 64) : IntKind.u64.wrap n = n := wu64_of h0 (by omega)
theorem or_u64 {x y : Int} (s : Nat) (hs : s ≤ 64) (hx0 : 0 ≤ x) (hx : x % 2 ^ s = 0) (hx1 : x < 18446744073709551616) (hy0 : 0 ≤ y) (hy : y < 2 ^ s) : Go.bits .or .u64 x y = x + y := by
  have h2 : (2 : Int) ^ s ≤ 2 ^ 64 := pow_mono (by omega) hs
  exact bits_join .u64 64 (by decide) wraps_u64 s x y hx0 hx (by omega) hy0 hy (by omega)
theorem or_comm_u64 {x y : Int} (hx0 : 0 ≤ x) (hx1 : x < 18446744073709551616) (hy0 : 0 ≤ y) (hy1 : y < 18446744073709551616) : Go.bits .or .u64 x y = Go.bits .or .u64 y x := by
  obtain ⟨a, rfl⟩ := Int.eq_ofNat_of_zero_le hx0
  obtain ⟨b, rfl⟩ := Int.eq_ofNat_of_zero_le hy0
  rw [(bits_nat .u64 64 (by decide) wraps_u64 a b (by omega) (by omega)).2, (bits_nat .u64 64 (by decide) wraps_u64 b a (by omega) (by omega)).2, Nat.or_comm]
theorem shl_u64 (x : Int) (s : Nat) (hs : s ≤ 64) : shl .u64 x (s : Int) = (x * 2 ^ s) % 18446744073709551616 := by
  unfold shl
  rw [wu64]
  simp only [IntKind.bits, Int.toNat_natCast]
  rw [show min s 64 = s from by omega]
theorem shr_u64 (x : Int) (s : Nat) (hs : s ≤ 64) : shr .u64 x (s : Int) = x / 2 ^ s := by
  unfold shr
  simp only [IntKind.bits, Int.toNat_natCast]
  rw [show min s 64 = s from by omega]
theorem pow2_pos (s : Nat) : (0 : Int) < 2 ^ s := Int.pow_pos (by omega)
end Go.Proofs.Ytanmfddlncdncab.Z
end
section
namespace Go.Proofs.Ytanmfddlncdncab.F
open Go.RowKit Go.Proofs.YtanmfddlncdncabW.PrintWords Go.Proofs.YtanmfddlncdncabW.PrintLast Go.Proofs.YtanmfddlncdncabW.PrintMore
open Go.Proofs.Ytanmfddlncdncab.Z (nxt encN Dig)
set_option linter.unusedVariables false
set_option linter.unusedSimpArgs false
def finN (i a : Nat) (l : List Int) : Nat × Nat := match nxt i l with | none => (0, 0) | some r => (a + 128 ^ i * r.1, i + r.2)
theorem finN_zero (l : List Int) : finN 0 0 l = (nxt 0 l).getD (0, 0) := by
  unfold finN
  cases nxt 0 l with
  | none => rfl
  | some r => simp
theorem andNot128 : ∀ a : Fin 256, Go.bits .andNot .u8 ((a.val : Nat) : Int) 128 = ((a.val % 128 : Nat) : Int) := by decide +kernel
theorem finN_bad {i a c : Nat} {l : List Int} (h : i = 9 ∧ (1 < c % 128 ∨ 128 ≤ c) ∨ c = 0 ∧ 0 < i) : finN i a ((c : Int) :: l) = (0, 0) := by
  unfold finN
  rw [nxt]
  by_cases h1 : i = 9 ∧ (1 < (c : Int) % 128 ∨ 128 ≤ (c : Int))
  · rw [if_pos h1]
  · rw [if_neg h1]
    have h2 : c = 0 ∧ 0 < i := by
      rcases h with h | h
      · exact absurd (by omega) h1
      · exact h
    rw [if_pos (by omega), if_pos (by omega)]
theorem finN_last {i a c : Nat} {l : List Int} (h : c < 128) (h9 : i = 9 → c ≤ 1) (h0 : 0 < i → 0 < c) : finN i a ((c : Int) :: l) = (a + 128 ^ i * c, i + 1) := by
  unfold finN
  rw [nxt, if_neg (by omega), if_pos (by omega), if_neg (by omega)]
  simp
theorem finN_more {i a c : Nat} {l : List Int} (h : ¬ c < 128) (h9 : i ≠ 9) : finN i a ((c : Int) :: l) = finN (i + 1) (a + 128 ^ i * (c % 128)) l := by
  unfold finN
  rw [nxt, if_neg (by omega), if_neg (by omega)]
  cases nxt (i + 1) l with
  | none => rfl
  | some r =>
    simp only [Option.bind_some]
    congr 1
    · rw [Nat.pow_succ, Nat.mul_add]
      have : ((c : Int) % 128).toNat = c % 128 := by omega
      rw [this]
      simp only [Nat.mul_add, Nat.mul_assoc, Nat.add_assoc]
    · omega
theorem pow7 (i : Nat) : (2 : Nat) ^ (7 * i) = 128 ^ i := by rw [Nat.pow_mul]
theorem or_at {i a d : Nat} (hi : i ≤ 9) (ha : a < 128 ^ i) (hd : d < 128) (h9 : i = 9 → d ≤ 1) : Go.bits .or .u64 (a : Int) (IntKind.u64.wrap ((d : Int) * 2 ^ (7 * i))) = ((a + 128 ^ i * d : Nat) : Int) := by
  have hp : (128 : Nat) ^ i * d < 18446744073709551616 := by
    by_cases h : i = 9
    · have := h9 h
      subst h
      have : (128 : Nat) ^ 9 * d ≤ 128 ^ 9 * 1 := Nat.mul_le_mul_left _ this
      omega
    · have h1 : (128 : Nat) ^ i ≤ 128 ^ 8 := Nat.pow_le_pow_right (by omega) (by omega)
      have h2 := Nat.mul_le_mul h1 (show d ≤ 127 by omega)
      omega
  have hx : (d : Int) * 2 ^ (7 * i) = ((128 ^ i * d : Nat) : Int) := by
    rw [← pow7]
    push_cast
    exact Int.mul_comm _ _
  have hle : (128 : Nat) ^ i ≤ 128 ^ 9 := Nat.pow_le_pow_right (by omega) hi
  have ha2 : (a : Int) < 18446744073709551616 := by omega
  rw [hx, Z.wu64_of (by omega) (by omega), Z.or_comm_u64 (by omega) ha2 (by omega) (by omega)]
  rw [Z.or_u64 (7 * i) (by omega) (by omega) ?_ (by omega) (by omega) ?_]
  · push_cast; omega
  · rw [show (2 : Int) ^ (7 * i) = ((128 ^ i : Nat) : Int) from by rw [← pow7]; push_cast; rfl]
    push_cast
    exact Int.mul_emod_right _ _
  · rw [show (2 : Int) ^ (7 * i) = ((128 ^ i : Nat) : Int) from by rw [← pow7]; push_cast; rfl]
    omega
theorem or_at9 {a d : Nat} (ha : a < 128 ^ 9) (hd : d ≤ 1) : Go.bits .or .u64 (a : Int) ((d : Int) * 9223372036854775808) = ((a + 128 ^ 9 * d : Nat) : Int) := by
  rw [← or_at (i := 9) (by omega) ha (by omega) (by omega), Z.wu64_of (by omega) (by omega)]
  rfl
theorem or_zero {a : Nat} (ha : a < 128 ^ 0) : Go.bits .or .u64 (a : Int) 0 = ((a + 128 ^ 0 * 0 : Nat) : Int) := by
  rw [← or_at (i := 0) (d := 0) (by omega) ha (by omega) (by omega)]
  rfl
theorem ret_of {x y : Int} {r : Nat × Nat} (h : x = (r.1 : Int) ∧ y = (r.2 : Int)) : Ending.returned (.tuple #[.int .u64 x, .int .i64 y]) = Ending.returned (.tuple #[.int .u64 (r.1 : Int), .int .i64 (r.2 : Int)]) := by rw [h.1, h.2]
structure KG (w W : World) (g : Nat) : Prop where
  kept : Kept w W (fun k => k = g)
  os : W.os = w.os
  tape : W.tape = w.tape
  output : W.output = w.output
theorem KG.refl (w : World) (g : Nat) : KG w w g := ⟨Kept.refl _ _, rfl, rfl, rfl⟩
theorem KG.of_below {w W : World} (h : Below w.heap.size w W) (g : Nat) : KG w W g := ⟨Kept.of_below h _, h.os, h.tape, h.output⟩
theorem KG.then_ {w W W2 : World} {g : Nat} (h : KG w W g) (k : KG W W2 g) : KG w W2 g := ⟨h.kept.then_ k.kept (fun k hk => .inl hk), k.os.trans h.os, k.tape.trans h.tape, k.output.trans h.output⟩
theorem KG.below {w W W2 : World} {g : Nat} (h : KG w W g) (k : Below W.heap.size W W2) : KG w W2 g := h.then_ (KG.of_below k g)
theorem KG.set {w W : World} {g : Nat} (h : KG w W g) (u : Value) : KG w (W.setCell ⟨g, 0, none⟩ u) g := ⟨h.kept.setCell (p := ⟨g, 0, none⟩) (.inl rfl) u, h.os, h.tape, h.output⟩
theorem KG.of_grown {w W W2 : World} {g : Nat} {row : Option Nat} (hg : W.grownBy W2 row) (h : KG w W g) (hr : ∀ k, row = some k → w.heap.size ≤ k) : KG w W2 g := ⟨Kept.of_grown hg h.kept (fun k e => .inr (hr k e)), hg.os.trans h.os, hg.tape.trans h.tape, hg.output.trans h.output⟩
theorem KG.base {w W w0 : World} {g : Nat} (h : KG w W g) (hb : Below w0.heap.size w0 w) (hg : w0.heap.size ≤ g) : Below w0.heap.size w0 W := ⟨h.os.trans hb.os, h.tape.trans hb.tape, h.output.trans hb.output, Nat.le_trans hb.size h.kept.1, fun k hk => (h.kept.2 k (Nat.lt_of_lt_of_le hk hb.size) (by omega)).trans (hb.block k hk)⟩
def Rdr (w : World) (g : Nat) (ok : Nat → Prop) (l : List Int) : Prop := ∃ A c, w.heap[g]? = some (.cells #[.slice A l.length c] 83 (0, 0)) ∧ l.length ≤ c ∧ Kd.F (Kd.int .u8) w ok A l.length l
theorem Rdr.below {w w1 : World} {g : Nat} {ok : Nat → Prop} {l : List Int} (h : Rdr w g ok l) (hb : Below w.heap.size w w1) : Rdr w1 g ok l := by
  obtain ⟨A, c, h1, h2, h3⟩ := h
  exact ⟨A, c, (hb.block g (blk_lt h1)).trans h1, h2, Kd.F_below h3 hb⟩
theorem Rdr.far {w : World} {g : Nat} {ok : Nat → Prop} {l : List Int} (h : Rdr w g ok l) {p : Addr} (hp : p.block ≠ g) (hok : ∀ k, ok k → k ≠ p.block) (u : Value) : Rdr (w.setCell p u) g ok l := by
  obtain ⟨A, c, h1, h2, h3⟩ := h
  exact ⟨A, c, blk_far h1 (Ne.symm hp) u, h2, Kd.F_far h3 hok u⟩
theorem Rdr.lt {w : World} {g : Nat} {ok : Nat → Prop} {l : List Int} (h : Rdr w g ok l) : g < w.heap.size := by
  obtain ⟨A, c, h1, _⟩ := h
  exact blk_lt h1
set_option maxHeartbeats 8000000 in
set_option maxRecDepth 100000 in
theorem codec_New.calls (A0 : Option Addr) (c0 : Nat) (l0 : List Int) (w : World) (hr0 : Kd.C (Kd.int .u8) w A0 l0.length l0) (hc0 : l0.length ≤ c0) (hl : l0.length < 140737488355328) :
    Calls Try.prog 22 #[.slice A0 l0.length c0] w fun e w' => ∃ g, e = .returned (.pointer (some ⟨g, 0, none⟩)) ∧ w.heap.size ≤ g ∧ Rdr w' g (fun k => w.heap.size ≤ k ∧ k < g) l0 ∧ Below w.heap.size w w' := by
  have HR0 := Aside0.mk hr0
  have HC0 := Aside0.mk hc0
  have A3 := Aside0.mk (show slices_Clone_byte_byte.f l0 = some l0 from by
    unfold slices_Clone_byte_byte.f
    simp only [Option.bind_some, List.length_nil, List.nil_append]
    rw [if_pos (by omega)])
  clear hr0 hc0
  go_enter Try.func22, Try.ntmps22
  go_wp2_with (go_at_call 47; (with_reducible refine (slices_Clone_byte_byte.calls _ _ l0 l0 _ HR0.out HC0.out A3.out).mono ?_); rintro e w1 ⟨v1, rfl, ho1, hb1⟩; obtain ⟨A1_, c1_, rfl⟩ := Kd.R_slice ho1; have HO := Aside0.mk ho1; have HB := Aside0.mk hb1; clear ho1 hb1)
  go_ret
  refine ⟨w1.heap.size, rfl, below_size HB.out, ⟨A1_, c1_, blk_new w1 _, (Kd.R_reads' HO.out).2.1, ?_⟩, below_alloc HB.out _⟩
  exact Kd.F_alloc (Kd.V_at (base := w.heap.size) (Kd.R_V (Kd.R_mono (Kd.R_bound HO.out) (fun k hk => ⟨hk.2.1, hk.2.2.1⟩)))).2.2 _
set_option maxHeartbeats 8000000 in
set_option maxRecDepth 100000 in
theorem codec_next.calls (g : Nat) (l : List Int) (ok : Nat → Prop) (w : World) (hR : Rdr w g ok l) (hd : Dig 256 l) (r : Nat × Nat) (h : (nxt 0 l).getD (0, 0) = r) :
    Calls Try.prog 48 #[.pointer (some ⟨g, 0, none⟩)] w fun e w' => e = .returned (.tuple #[.int .u64 (r.1 : Int), .int .i64 (r.2 : Int)]) ∧ w' = w := by
  obtain ⟨A, c, h1, h2, h3⟩ := hR
  have hcg : w.cell? ⟨g, 0, none⟩ = some (.slice A l.length c) := (blk_cell h1 0).trans rfl
  have H3 := Aside0.mk h3
  have HH := Aside0.mk h
  have HD := Aside0.mk hd
  clear h1 h3 h hd
  go_enter Try.func48, Try.ntmps48
  go_wp2
  go_step3
  go_wp2
  go_step3
  go_wp2
  go_loopg [4, 14] l.length (fun gg v4 v14 wr => ∃ i a : Nat, v4 = .int .u64 (a : Int) ∧ v14 = .int .i64 (i : Int) ∧ i ≤ l.length ∧ i ≤ 9 ∧ l.length - i ≤ gg ∧ a < 128 ^ i ∧ Aside0 (finN i a (l.drop i) = r) ∧ wr = w)
  case atStart => exact ⟨0, 0, rfl, rfl, by omega, by omega, by omega, by simp, ⟨by rw [← HH.out, List.drop_zero]; exact finN_zero l⟩, rfl⟩
  case round =>
    obtain ⟨i, a, rfl, rfl, hi, hi9, hgg, ha, HF, rfl⟩ := hrel
    by_cases hlt : i < l.length
    · have hltz : (i : Int) < (l.length : Int) := by omega
      have h0z : (0 : Int) ≤ (i : Int) := by omega
      obtain ⟨ad, hA, hcl⟩ := Kd.at_int (Kd.F_now H3.out) (i : Int) h0z hltz
      subst hA
      simp only [Go.IntWalk.toNatUp] at hcl
      rw [show rd l (i : Int) = l.getD i 0 from rfl] at hcl
      have hF := HF.out
      rw [show l.drop i = l.getD i 0 :: l.drop (i + 1) from by rw [List.drop_eq_getElem_cons hlt, List.getD_eq_getElem?_getD, List.getElem?_eq_getElem hlt]; rfl] at hF
      have hc := HD.out.getD (by omega) i
      generalize l.getD i 0 = cc at hcl hF hc
      obtain ⟨c, rfl⟩ := Int.eq_ofNat_of_zero_le hc.1
      have hc2 : c < 256 := by omega
      have hd1 : Go.bits .andNot .u8 ((c : Nat) : Int) 128 = ((c % 128 : Nat) : Int) := andNot128 ⟨c, hc2⟩
      have hd2 : IntKind.u64.wrap ((c % 128 : Nat) : Int) = ((c % 128 : Nat) : Int) := Z.wu64_of (by omega) (by omega)
      obtain ⟨d, hd⟩ : ∃ d, d = c % 128 := ⟨_, rfl⟩
      rw [← hd] at hd1 hd2
      clear HF hc
      have hst : (decide (i = 9) : Bool) = decide (i = 9) := rfl
      by_cases hlast : c < 128
      · have hlz : decide ((c : Int) < 128) = true := decide_eq_true (by omega)
        go_wp2
        · (try rw [Exit.noGoto_ret]); go_ret2
          refine ⟨ret_of ?_, rfl⟩; rw [← hF, finN_bad (by omega)]; exact ⟨rfl, rfl⟩
        · (try rw [Exit.noGoto_ret]); go_ret2
          refine ⟨ret_of ?_, rfl⟩; rw [← hF, finN_last hlast (by omega) (by omega)]
          obtain rfl : i = 9 := by omega
          exact ⟨(congrArg (Go.bits .or .u64 (a : Int)) (by omega)).trans (or_at9 (d := c) ha (by omega)), rfl⟩
        · (try rw [Exit.noGoto_ret]); go_ret2
          refine ⟨ret_of ?_, rfl⟩; rw [← hF, finN_bad (by omega)]; exact ⟨rfl, rfl⟩
        · (try rw [Exit.noGoto_ret]); go_ret2
          refine ⟨ret_of ?_, rfl⟩; rw [← hF, finN_bad (by omega)]; exact ⟨rfl, rfl⟩
        · (try rw [Exit.noGoto_ret]); go_ret2
          refine ⟨ret_of ?_, rfl⟩; rw [← hF, finN_last hlast (by omega) (by omega)]
          obtain rfl : i = 0 := by omega
          obtain rfl : c = 0 := by omega
          exact ⟨or_zero ha, rfl⟩
        · (try rw [Exit.noGoto_ret]); go_ret2
          refine ⟨ret_of ?_, rfl⟩; rw [← hF, finN_last hlast (by omega) (by omega)]
          refine ⟨?_, by push_cast; rfl⟩
          have e : (c : Int) % 128 = ((c : Nat) : Int) := by omega
          rw [e]
          exact or_at hi9 ha hlast (by omega)
      · have hlz : decide ((c : Int) < 128) = false := decide_eq_false (by omega)
        go_wp2
        · (try rw [Exit.noGoto_ret]); go_ret2
          refine ⟨ret_of ?_, rfl⟩; rw [← hF, finN_bad (by omega)]; exact ⟨rfl, rfl⟩
        · (try rw [Exit.noGoto_ret]); go_ret2
          refine ⟨ret_of ?_, rfl⟩; rw [← hF, finN_bad (by omega)]; exact ⟨rfl, rfl⟩
        · have e : (c : Int) % 128 = ((c % 128 : Nat) : Int) := by omega
          rw [e, or_at hi9 ha (by omega) (by omega)]
          rw [finN_more hlast (by omega)] at hF
          have hpw : 128 ^ i * (c % 128) + 128 ^ i ≤ 128 ^ (i + 1) := by
            rw [Nat.pow_succ]
            have := Nat.mul_le_mul_left (128 ^ i) (show c % 128 + 1 ≤ 128 by omega)
            rw [Nat.mul_add, Nat.mul_one] at this
            exact this
          go_roundg (l.length - (i + 1))
          case measure => omega
          case rel => exact ⟨i + 1, _, rfl, by go_num, by omega, by omega, by omega, by omega, ⟨hF⟩, rfl⟩
    · have hltz : ¬ (i : Int) < (l.length : Int) := by omega
      go_wp2
      (try rw [Exit.noGoto_ret]); go_ret2
      refine ⟨ret_of ?_, rfl⟩
      have hF := HF.out
      rw [List.drop_eq_nil_of_le (by omega)] at hF
      rw [← hF]
      exact ⟨rfl, rfl⟩
theorem nxt_pos {i : Nat} {l : List Int} {n k : Nat} (h : nxt i l = some (n, k)) : 0 < k := by
  cases l with
  | nil => simp [nxt] at h
  | cons c l =>
    rw [nxt] at h
    split at h
    · simp at h
    · split at h
      · split at h
        · simp at h
        · simp only [Option.some.injEq, Prod.mk.injEq] at h; omega
      · obtain ⟨r, _, h⟩ := Option.bind_eq_some_iff.mp h
        simp only [Option.some.injEq, Prod.mk.injEq] at h; omega
theorem Rdr.cut {w : World} {g : Nat} {ok : Nat → Prop} {l : List Int} {A : Option Addr} {c k : Nat} (h1 : w.heap[g]? = some (.cells #[.slice A l.length c] 83 (0, 0))) (h2 : l.length ≤ c) (h3 : Kd.F (Kd.int .u8) w ok A l.length l) (hok : ∀ k, ok k → k ≠ g) (hk : k ≤ l.length) :
    Rdr (w.setCell ⟨g, 0, none⟩ (.slice (if c = k then A else A.map (·.add k)) (l.length - k) (c - k))) g ok (l.drop k) := by
  refine ⟨if c = k then A else A.map (·.add k), c - k, ?_, by simp; omega, ?_⟩
  · rw [List.length_drop]
    exact blk_put (cs := #[.slice A l.length c]) h1 0 _ rfl
  · have h := Kd.F_cut (m := k) (c := c) h3 hk h2
    simp only [Kd.int, Kd.scalar, Nat.mul_one] at h
    exact Kd.F_far (p := ⟨g, 0, none⟩) h hok _
theorem Rdr.cut1 {w : World} {g : Nat} {ok : Nat → Prop} {l : List Int} {A : Option Addr} {k : Nat} (h1 : w.heap[g]? = some (.cells #[.slice A l.length k] 83 (0, 0))) (h2 : l.length ≤ k) (h3 : Kd.F (Kd.int .u8) w ok A l.length l) (hok : ∀ k, ok k → k ≠ g) (hk : k ≤ l.length) :
    Rdr (w.setCell ⟨g, 0, none⟩ (.slice A (l.length - k) 0)) g ok (l.drop k) := by
  have h := Rdr.cut h1 h2 h3 hok hk
  rw [if_pos rfl, Nat.sub_self] at h
  exact h
theorem Rdr.cut2 {w : World} {g : Nat} {ok : Nat → Prop} {l : List Int} {A : Option Addr} {c k : Nat} (h1 : w.heap[g]? = some (.cells #[.slice A l.length c] 83 (0, 0))) (h2 : l.length ≤ c) (h3 : Kd.F (Kd.int .u8) w ok A l.length l) (hok : ∀ k, ok k → k ≠ g) (hk : k ≤ l.length) (hc : ¬ c = k) :
    Rdr (w.setCell ⟨g, 0, none⟩ (.slice (A.map (·.add k)) (l.length - k) (c - k))) g ok (l.drop k) := by
  have h := Rdr.cut h1 h2 h3 hok hk
  rw [if_neg hc] at h
  exact h
def numV (most : Nat) (l : List Int) : Nat × Int × List Int := match nxt 0 l with | none => (0, 13, l) | some r => if most < r.1 then (0, 13, l) else (r.1, 0, l.drop r.2)
set_option maxHeartbeats 8000000 in
set_option maxRecDepth 100000 in
theorem codec_read.calls (g most : Nat) (l : List Int) (ok : Nat → Prop) (w : World) (hR : Rdr w g ok l) (hk : ∀ k, ok k → k ≠ g) (hd : Dig 256 l) :
    Calls Try.prog 24 #[.pointer (some ⟨g, 0, none⟩), .int .u64 (most : Int)] w fun e w' => e = .returned (.tuple #[.int .u64 ((numV most l).1 : Int), .int .i64 (numV most l).2.1]) ∧ Rdr w' g ok (numV most l).2.2 ∧ KG w w' g := by
  have HR := Aside0.mk hR
  have HD := Aside0.mk hd
  have HK := Aside0.mk hk
  clear hd hk
  obtain ⟨v, hv⟩ : ∃ v, numV most l = v := ⟨_, rfl⟩
  rw [hv]
  unfold numV at hv
  rcases hn : nxt 0 l with _ | ⟨n, k⟩ <;> rw [hn] at hv <;> simp only at hv
  · have HN := Aside0.mk (show (nxt 0 l).getD (0, 0) = (0, 0) from by rw [hn]; rfl)
    subst hv; clear hR hn
    go_enter Try.func24, Try.ntmps24
    go_wp2_with (go_at_call 48; (with_reducible refine (codec_next.calls g l ok _ HR.out HD.out (0, 0) HN.out).mono ?_); rintro e w1 ⟨rfl, rfl⟩)
    all_goals (try go_ret2)
    all_goals exact ⟨rfl, HR.out, KG.refl _ _⟩
  · have hp := nxt_pos hn
    obtain ⟨hl, _, hn64, _⟩ := Z.nxt_of l 0 n k HD.out (by omega) hn
    have HN := Aside0.mk (show (nxt 0 l).getD (0, 0) = (n, k) from by rw [hn]; rfl)
    obtain ⟨A, c, h1, h2, h3⟩ := hR
    have hcg : w.cell? ⟨g, 0, none⟩ = some (.slice A l.length c) := (blk_cell h1 0).trans rfl
    have H1 := Aside0.mk h1
    have hfg := blk_frozen h1 0
    have H3 := Aside0.mk h3
    clear h1 h3 hn
    have hkz : ((k : Int) == 0) = false := beq_eq_false_iff_ne.mpr (by omega)
    have hlk : (k : Int) ≤ (l.length : Int) := by omega
    have hlc : (l.length : Int) ≤ (c : Int) := by omega
    have h0k : (0 : Int) ≤ (k : Int) := by omega
    by_cases hm : most < n
    · rw [if_pos hm] at hv; subst hv
      have hmz : decide ((most : Int) < (n : Int)) = true := decide_eq_true (by omega)
      go_enter Try.func24, Try.ntmps24
      go_wp2_with (go_at_call 48; (with_reducible refine (codec_next.calls g l ok _ HR.out HD.out (n, k) HN.out).mono ?_); rintro e w1 ⟨rfl, rfl⟩)
      all_goals (try go_ret2)
      all_goals exact ⟨rfl, HR.out, KG.refl _ _⟩
    · rw [if_neg hm] at hv; subst hv
      have hmz : decide ((most : Int) < (n : Int)) = false := decide_eq_false (by omega)
      go_enter Try.func24, Try.ntmps24
      go_wp2_with (go_at_call 48; (with_reducible refine (codec_next.calls g l ok _ HR.out HD.out (n, k) HN.out).mono ?_); rintro e w1 ⟨rfl, rfl⟩)
      all_goals (try go_ret2)
      · obtain rfl : c = k := by omega
        exact ⟨rfl, Rdr.cut1 H1.out (by omega) H3.out HK.out hl, (KG.refl w1 g).set _⟩
      · exact ⟨rfl, Rdr.cut2 H1.out (by omega) H3.out HK.out hl (by omega), (KG.refl w1 g).set _⟩
theorem wrap64_of {x : Int} (h0 : 0 ≤ x) (h1 : x < 9223372036854775808) : wrap64 x = x := by simp only [wrap64]; omega
def bytV (most : Nat) (l : List Int) : List Int × Int × List Int := match nxt 0 l with | none => ([], 13, l) | some r => if most < r.1 ∨ l.length - r.2 < r.1 then ([], 13, l) else ((l.drop r.2).take r.1, 0, l.drop (r.2 + r.1))
set_option maxHeartbeats 8000000 in
set_option maxRecDepth 100000 in
theorem codec_readB.calls (g most : Nat) (l : List Int) (ok : Nat → Prop) (w : World) (hR : Rdr w g ok l) (hk : ∀ k, ok k → k ≠ g) (hd : Dig 256 l) (hmost : most ≤ 100000000) (hll : l.length < 9223372036854775808) :
    Calls Try.prog 26 #[.pointer (some ⟨g, 0, none⟩), .int .i64 (most : Int)] w fun e w' => ∃ v : Value, e = .returned (.tuple #[v, .int .i64 (bytV most l).2.1]) ∧ Kd.R (Kd.int .u8) 5 w' w.heap.size (fun _ => True) v (bytV most l).1 ∧ Rdr w' g ok (bytV most l).2.2 ∧ KG w w' g := by
  have HR := Aside0.mk hR
  have HD := Aside0.mk hd
  have HK := Aside0.mk hk
  clear hd hk
  obtain ⟨v, hv⟩ : ∃ v, bytV most l = v := ⟨_, rfl⟩
  rw [hv]
  unfold bytV at hv
  have hm0 : decide ((most : Int) < 0) = false := decide_eq_false (by omega)
  have hwm : IntKind.u64.wrap (most : Int) = (most : Int) := Z.wu64_of (by omega) (by omega)
  rcases hn : nxt 0 l with _ | ⟨n, k⟩ <;> rw [hn] at hv <;> simp only at hv
  · have HN := Aside0.mk (show (nxt 0 l).getD (0, 0) = (0, 0) from by rw [hn]; rfl)
    subst hv; clear hR hn
    go_enter Try.func26, Try.ntmps26
    go_wp2_with (go_at_call 48; (with_reducible refine (codec_next.calls g l ok _ HR.out HD.out (0, 0) HN.out).mono ?_); rintro e w1 ⟨rfl, rfl⟩)
    all_goals (try go_ret2)
    all_goals exact ⟨_, rfl, Kd.R_nil _ _ _ _ _, HR.out, KG.refl _ _⟩
  · have hp := nxt_pos hn
    obtain ⟨hl, _, hn64, _⟩ := Z.nxt_of l 0 n k HD.out (by omega) hn
    have HN := Aside0.mk (show (nxt 0 l).getD (0, 0) = (n, k) from by rw [hn]; rfl)
    obtain ⟨A, c, h1, h2, h3⟩ := hR
    have hcg : w.cell? ⟨g, 0, none⟩ = some (.slice A l.length c) := (blk_cell h1 0).trans rfl
    have H1 := Aside0.mk h1
    have hfg := blk_frozen h1 0
    have H3 := Aside0.mk h3
    clear h1 h3 hn
    have hkz : ((k : Int) == 0) = false := beq_eq_false_iff_ne.mpr (by omega)
    have hlk : (k : Int) ≤ (l.length : Int) := by omega
    have hlc : (l.length : Int) ≤ (c : Int) := by omega
    have h0k : (0 : Int) ≤ (k : Int) := by omega
    by_cases hm : most < n ∨ l.length - k < n
    · rw [if_pos hm] at hv; subst hv
      by_cases hm1 : most < n
      · have hmz : decide ((most : Int) < (n : Int)) = true := decide_eq_true (by omega)
        go_enter Try.func26, Try.ntmps26
        go_wp2_with (go_at_call 48; (with_reducible refine (codec_next.calls g l ok _ HR.out HD.out (n, k) HN.out).mono ?_); rintro e w1 ⟨rfl, rfl⟩)
        all_goals (try go_ret2)
        all_goals exact ⟨_, rfl, Kd.R_nil _ _ _ _ _, HR.out, KG.refl _ _⟩
      · have hmz : decide ((most : Int) < (n : Int)) = false := decide_eq_false (by omega)
        have hs1 : (l.length : Int) - (k : Int) < 9223372036854775808 := by omega
        have hs3 : (0 : Int) ≤ (l.length : Int) - (k : Int) := by omega
        have hwl : IntKind.u64.wrap ((l.length : Int) - (k : Int)) = ((l.length - k : Nat) : Int) := (Z.wu64_of hs3 (Int.lt_trans hs1 (by decide))).trans (by omega)
        have hi1 := wrap64_of hs3 hs1
        have hmy : decide (((l.length - k : Nat) : Int) < (n : Int)) = true := decide_eq_true (by omega)
        go_enter Try.func26, Try.ntmps26
        go_wp2_with (go_at_call 48; (with_reducible refine (codec_next.calls g l ok _ HR.out HD.out (n, k) HN.out).mono ?_); rintro e w1 ⟨rfl, rfl⟩)
        all_goals (try go_ret2)
        all_goals exact ⟨_, rfl, Kd.R_nil _ _ _ _ _, HR.out, KG.refl _ _⟩
    · rw [if_neg hm] at hv; subst hv
      have hmz : decide ((most : Int) < (n : Int)) = false := decide_eq_false (by omega)
      have hmy : decide (((l.length - k : Nat) : Int) < (n : Int)) = false := decide_eq_false (by omega)
      have hle : k + n ≤ l.length := by omega
      have hs1 : (l.length : Int) - (k : Int) < 9223372036854775808 := by omega
      have hs2 : (k : Int) + (n : Int) < 9223372036854775808 := by omega
      have hs3 : (0 : Int) ≤ (l.length : Int) - (k : Int) := by omega
      have HW1 := Aside0.mk (show IntKind.u64.wrap ((l.length : Int) - (k : Int)) = ((l.length - k : Nat) : Int) from (Z.wu64_of hs3 (Int.lt_trans hs1 (by decide))).trans (by omega))
      have HW2 := Aside0.mk (wrap64_of hs3 hs1)
      have HW3 := Aside0.mk (wrap64_of (x := (n : Int)) (by omega) (by omega))
      have HW4 := Aside0.mk (wrap64_of (x := (k : Int) + (n : Int)) (by omega) hs2)
      obtain ⟨i0, hi0, _, hsz, _⟩ := info_parts info5
      obtain ⟨A2, c2, hc2, hA2, hcut2⟩ : ∃ (A2 : Option Addr) (c2 : Nat), n ≤ c2 ∧ (∀ W : World, Kd.C (Kd.int .u8) W A l.length l → Kd.C (Kd.int .u8) W A2 ((l.drop k).take n).length ((l.drop k).take n)) ∧ ∀ W : World, (Instr.slice 27 (.slice A l.length c) (some (.int .i64 (k : Int))) (some (.int .i64 ((k : Int) + (n : Int)))) none).run Try.prog W = .ok (.slice A2 ((l.drop k).take n).length c2) W := by
        have e1 : (l.take ((k : Int) + (n : Int)).toNat).drop (k : Int).toNat = (l.drop k).take n := by
          rw [List.drop_take, show ((k : Int) + (n : Int)).toNat - (k : Int).toNat = n from by omega]; rfl
        have e2 : ((l.drop k).take n).length = ((k : Int) + (n : Int)).toNat - (k : Int).toNat := by
          rw [List.length_take, List.length_drop]; omega
        refine ⟨if c = (k : Int).toNat then A else A.map (·.add ((k : Int).toNat * 1)), c - (k : Int).toNat, by omega, fun W h => ?_, fun W => ?_⟩
        · rw [← e1]
          exact Kd.C_mid (lo := (k : Int).toNat) (hi := ((k : Int) + (n : Int)).toNat) h (by omega) (by omega) h2
        · rw [e2]
          exact cut_mid (P := Try.prog) 27 5 .i64 .i64 Try.underlying27 hi0 1 hsz A l.length c (k : Int) ((k : Int) + (n : Int)) (by omega) (by omega) (by omega) h2 W
      obtain ⟨A3, c3, hR3, hcut3⟩ : ∃ (A3 : Option Addr) (c3 : Nat), (∀ W : World, W.heap[g]? = some (.cells #[.slice A l.length c] 83 (0, 0)) → Kd.F (Kd.int .u8) W ok A l.length l → Rdr (W.setCell ⟨g, 0, none⟩ (.slice A3 (l.length - (k + n)) c3)) g ok (l.drop (k + n))) ∧ ∀ W : World, (Instr.slice 27 (.slice A l.length c) (some (.int .i64 ((k : Int) + (n : Int)))) none none).run Try.prog W = .ok (.slice A3 (l.length - (k + n)) c3) W := by
        refine ⟨if c = k + n then A else A.map (·.add (k + n)), c - (k + n), fun W h1 h3 => Rdr.cut h1 h2 h3 HK.out hle, fun W => ?_⟩
        have h := cut_from (P := Try.prog) 27 5 .i64 Try.underlying27 hi0 1 hsz A l.length c ((k : Int) + (n : Int)) (by omega) (by omega) W
        rw [show ((k : Int) + (n : Int)).toNat = k + n from by omega, Nat.mul_one] at h
        exact h
      obtain ⟨X, hX⟩ : ∃ X, X = (l.drop k).take n := ⟨_, rfl⟩
      have NX := Aside0.mk hX
      rw [← hX] at hA2 hcut2 ⊢
      have hXl : X.length = n := by rw [hX, List.length_take, List.length_drop]; omega
      have HXL := Aside0.mk hXl
      have A4 := Aside0.mk (show slices_Clone_byte_byte.f X = some X from by
        unfold slices_Clone_byte_byte.f
        simp only [Option.bind_some, List.length_nil, List.nil_append]
        rw [if_pos (by omega)])
      have HA2 := Aside0.mk hA2
      have HR3 := Aside0.mk hR3
      have HC2 := Aside0.mk hc2
      have hwl := HW1.out
      have hi1 := HW2.out
      clear hX hA2 hR3 hXl hc2 hlc h2 hs1 hs2 hs3 hle
      go_enter Try.func26, Try.ntmps26
      go_wp2_with (first | (go_at_call 48; (with_reducible refine (codec_next.calls g l ok _ HR.out HD.out (n, k) HN.out).mono ?_); rintro e w1 ⟨rfl, rfl⟩) | (go_at_call 47; (with_reducible refine (slices_Clone_byte_byte.calls _ _ X X _ (HA2.out _ (Kd.F_now H3.out)) (by rw [HXL.out]; exact HC2.out) A4.out).mono ?_); rintro e w2 ⟨v2, rfl, ho, hb⟩; obtain ⟨A5, c5, e5⟩ := Kd.R_slice ho; subst e5; have HO := Aside0.mk ho; have HB := Aside0.mk hb; have hcg2 := (hb.cell (blk_lt H1.out) (p := ⟨g, 0, none⟩)).trans hcg; have hfg2 := (hb.frozen (blk_lt H1.out)).trans hfg; clear ho hb hcg hfg))
      go_ret2
      have hgl := blk_lt H1.out
      exact ⟨_, rfl, Kd.R_mono (Kd.R_far (p := ⟨g, 0, none⟩) (Kd.R_bound HO.out) (fun k hk => by have := hk.2.1; show k ≠ g; omega) _) (fun _ _ => trivial), HR3.out w2 (blk_below H1.out HB.out) (Kd.F_below H3.out HB.out), (KG.of_below HB.out g).set _⟩
end Go.Proofs.Ytanmfddlncdncab.F
end
section
namespace Go.Proofs.Ytanmfddlncdncab.F
open Go.RowKit Go.Proofs.YtanmfddlncdncabW.PrintWords Go.Proofs.YtanmfddlncdncabW.PrintLast Go.Proofs.YtanmfddlncdncabW.PrintMore
set_option linter.unusedVariables false
set_option linter.unusedSimpArgs false
def nat_Read_ix.g : List Int → Nat → Int
  | [], _ => -1
  | c :: l, i => if c = 0 then nat_Read_ix.g l (i + 1) else (i : Int)
def nat_Read_ix.f (l : List Int) : Option Int := some (nat_Read_ix.g l 0)
theorem nat_Read_ix.g_of (l : List Int) : ∀ i : Nat, (nat_Read_ix.g l i = -1 ∧ ∀ j, j < l.length → l.getD j 0 = 0) ∨ ∃ k, k < l.length ∧ nat_Read_ix.g l i = ((i + k : Nat) : Int) ∧ l.getD k 0 ≠ 0 ∧ ∀ j, j < k → l.getD j 0 = 0 := by
  induction l with
  | nil => intro i; exact Or.inl ⟨rfl, fun j hj => absurd hj (Nat.not_lt_zero _)⟩
  | cons c l ih =>
    intro i
    by_cases h : c = 0
    · simp only [nat_Read_ix.g, if_pos h]
      rcases ih (i + 1) with ⟨h1, h2⟩ | ⟨k, h1, h2, h3, h4⟩
      · refine Or.inl ⟨h1, fun j hj => ?_⟩
        cases j with
        | zero => simpa using h
        | succ j => simpa using h2 j (by simpa using hj)
      · refine Or.inr ⟨k + 1, by simpa using h1, by rw [h2]; omega, by simpa using h3, fun j hj => ?_⟩
        cases j with
        | zero => simpa using h
        | succ j => simpa using h4 j (by omega)
    · simp only [nat_Read_ix.g, if_neg h]
      exact Or.inr ⟨0, by simp, by omega, by simpa using h, fun j hj => absurd hj (Nat.not_lt_zero _)⟩
set_option maxHeartbeats 1000000 in
theorem nat_Read_ix.closure (x : Int) (w : World) :
    Calls Try.prog 50 #[.int .u8 x] w fun e w' => e = .returned (.bool (x != 0)) ∧ Drawn0 w w' := by
  go_enter Try.func50, Try.ntmps50
  go_wp2
  go_ret
  exact ⟨rfl, Drawn0.refl _⟩
set_option maxHeartbeats 8000000 in
set_option maxRecDepth 100000 in
theorem nat_Read_ix.calls (A0 : Option Addr) (c0 : Nat) (l0 : List Int) (r : Int) (w : World) (hr0 : Kd.C (Kd.int .u8) w A0 l0.length l0) (hc0 : l0.length ≤ c0) (h : nat_Read_ix.f l0 = some r) :
    Calls Try.prog 49 #[.slice A0 l0.length c0, .func (.func 50) #[] #[]] w fun e w' => e = .returned (.int .i64 r) ∧ Drawn0 w w' := by
  have HR0 := Aside0.mk hr0
  obtain rfl : nat_Read_ix.g l0 0 = r := Option.some.inj h
  clear h
  obtain ⟨k, hk, hz, hn, hr⟩ : ∃ k : Nat, k ≤ l0.length ∧ (∀ j, j < k → l0.getD j 0 = 0) ∧ (k < l0.length → l0.getD k 0 ≠ 0) ∧ nat_Read_ix.g l0 0 = (if k < l0.length then (k : Int) else -1) := by
    rcases nat_Read_ix.g_of l0 0 with ⟨h1, h2⟩ | ⟨k, h1, h2, h3, h4⟩
    · exact ⟨l0.length, Nat.le_refl _, h2, fun hh => absurd hh (Nat.lt_irrefl _), by rw [h1, if_neg (Nat.lt_irrefl _)]⟩
    · exact ⟨k, by omega, h4, fun _ => h3, by rw [h2, if_pos h1]; omega⟩
  generalize nat_Read_ix.g l0 0 = r at *
  have hbig : l0.length ≤ 9223372036854775807 := hr0.2.1
  have HZ := Aside0.mk hz
  have HN := Aside0.mk hn
  have HRR := Aside0.mk hr
  clear hr0 hc0 hz hn hr
  go_enter Try.func49, Try.ntmps49
  go_wp2
  go_loopg [5, 8] l0.length (fun gg _ s8 wr => ∃ kk : Nat, kk ≤ k ∧ l0.length - kk ≤ gg ∧ s8 = .int .i64 kk ∧ Aside0 (Drawn0 w wr))
  case atStart => exact ⟨0, Nat.zero_le _, by omega, rfl, ⟨Drawn0.refl _⟩⟩
  case round =>
    obtain ⟨kk, hkk, hg, rfl, D⟩ := hrel
    by_cases hlt : kk < l0.length
    · have hltz : (kk : Int) < (l0.length : Int) := by omega
      have hC1 : Kd.C (Kd.int .u8) wr A0 l0.length l0 := Kd.C_below HR0.out D.out.below
      have h0k : (0 : Int) ≤ (kk : Int) := Int.natCast_nonneg kk
      obtain ⟨ad, hA, hcell⟩ := Kd.at_int hC1 (kk : Int) h0k hltz
      subst hA
      simp only [Go.IntWalk.toNatUp] at hcell
      have HX := HZ.out kk
      have HY := HN.out
      clear hC1
      rw [show rd l0 (kk : Int) = l0.getD kk 0 from rfl] at hcell
      generalize hx : l0.getD kk 0 = x at hcell HX
      have hcall := Aside0.mk (nat_Read_ix.closure x wr)
      have D2 := D
      by_cases hlast : kk < k
      · have hx0 : (x != 0) = false := by rw [HX hlast]; rfl
        clear D HX HY hx
        go_wp2_with (go_at_call 50; refine hcall.out.mono ?_; rintro e w' ⟨rfl, ⟨q, rfl⟩⟩)
        go_roundg (l0.length - (kk + 1))
        case measure => omega
        case rel => exact ⟨kk + 1, by omega, by omega, by go_num, ⟨D2.out.step _⟩⟩
      · have hkk' : kk = k := by omega
        subst hkk'
        have hx1 := HY hlt
        rw [hx] at hx1
        have hx0 : (x != 0) = true := by simpa using hx1
        have HE := Aside0.mk (HRR.out.trans (if_pos hlt))
        clear D HX HY hx hx1
        go_wp2_with (go_at_call 50; refine hcall.out.mono ?_; rintro e w' ⟨rfl, ⟨q, rfl⟩⟩)
        go_ret
        exact ⟨by rw [HE.out]; rfl, D2.out.step _⟩
    · have hltz : ¬ (kk : Int) < (l0.length : Int) := by omega
      have HE := Aside0.mk (HRR.out.trans (if_neg (by omega)))
      go_wp2
      go_ret
      exact ⟨by rw [HE.out]; rfl, D.out⟩
def wire_nats.one (l : List Int) : Option Bool := (nat_Right.f l).bind fun b => some (b && decide ((l.length : Int) ≤ 4))
def wire_nats.f : List (List Int) → Option Bool
  | [] => some true
  | a :: l => (wire_nats.one a).bind fun b => if b = true then wire_nats.f l else some false
def wire_nats.ix : List (List Int) → Option Nat
  | [] => some 0
  | a :: l => (wire_nats.one a).bind fun b => if b = true then (wire_nats.ix l).map (· + 1) else some 0
theorem wire_nats.ix_of {l : List (List Int)} {r : Bool} (h : wire_nats.f l = some r) : ∃ k, wire_nats.ix l = some k ∧ k ≤ l.length ∧ (r = true ↔ k = l.length) ∧ (∀ j, j < k → wire_nats.one (l.getD j []) = some true) ∧ (k < l.length → wire_nats.one (l.getD k []) = some false) := by
  induction l generalizing r with
  | nil =>
    simp only [wire_nats.f, Option.some.injEq] at h
    exact ⟨0, rfl, Nat.le_refl _, by simp [← h], fun j hj => absurd hj (Nat.not_lt_zero _), fun hj => absurd hj (Nat.not_lt_zero _)⟩
  | cons a l ih =>
    simp only [wire_nats.f] at h
    cases hb : wire_nats.one a with
    | none => rw [hb] at h; simp at h
    | some b =>
      rw [hb] at h
      simp only [Option.bind_some] at h
      cases b with
      | true =>
        simp only [if_true] at h
        obtain ⟨k, hk, hle, hr, hj, hl⟩ := ih h
        refine ⟨k + 1, by simp [wire_nats.ix, hb, hk], by simp; omega, by simp [hr], ?_, ?_⟩
        · intro j hjk
          cases j with
          | zero => simpa using hb
          | succ j => simpa using hj j (by omega)
        · intro hlt
          simpa using hl (by simpa using hlt)
      | false =>
        simp at h
        refine ⟨0, by simp [wire_nats.ix, hb], Nat.zero_le _, ?_, fun j hj => absurd hj (Nat.not_lt_zero _), fun _ => by simpa using hb⟩
        simp [← h]
set_option maxHeartbeats 4000000 in
theorem wire_nats.closure (A0 : Option Addr) (c0 : Nat) (l0 : List Int) (r : Bool) (w : World) (hr0 : Kd.C (Kd.int .u64) w A0 l0.length l0) (hc0 : l0.length ≤ c0) (h : wire_nats.one l0 = some r) :
    Calls Try.prog 39 #[.slice A0 l0.length c0] w fun e w' => e = .returned (.bool (!r)) ∧ Drawn0 w w' := by
  unfold wire_nats.one at h
  obtain ⟨b, hb, h⟩ := Option.bind_eq_some_iff.mp h
  have HC := Aside0.mk (nat_Right.calls A0 c0 l0 b w hr0 hc0 hb)
  clear hr0 hc0 hb
  obtain rfl := Option.some.inj h
  clear h
  cases b
  all_goals
    go_enter Try.func39, Try.ntmps39
    go_wp2_with (go_at_call 40; refine HC.out.mono ?_; rintro e w' ⟨rfl, hd⟩; have HD := Aside0.mk hd; clear hd)
    go_ret
    exact ⟨by first | rfl | (simp; done) | (by_cases h4 : (l0.length : Int) ≤ 4 <;> simp [h4] <;> omega), HD.out⟩
set_option maxHeartbeats 8000000 in
set_option maxRecDepth 100000 in
theorem wire_nats.index (A0 : Option Addr) (c0 : Nat) (l0 : List (List Int)) (r : Bool) (w : World) (hr0 : Kd.C (Kd.slice 37 (Kd.int .u64)) w A0 l0.length l0) (hc0 : l0.length ≤ c0) (h : wire_nats.f l0 = some r) :
    Calls Try.prog 62 #[.slice A0 l0.length c0, .func (.func 39) #[] #[]] w fun e w' => (∃ k : Int, e = .returned (.int .i64 k) ∧ decide (0 ≤ k) = !r) ∧ Drawn0 w w' := by
  have HR0 := Aside0.mk hr0
  obtain ⟨k, hk, hle, hr, hj, hl⟩ := wire_nats.ix_of h
  have hbig : l0.length ≤ 9223372036854775807 := hr0.2.1
  have HJ := Aside0.mk hj
  have HL := Aside0.mk hl
  have HRR := Aside0.mk hr
  clear hr0 hc0 hj hl hk h hr
  go_enter Try.func62, Try.ntmps62
  go_wp2
  go_loopg [5, 8] l0.length (fun gg _ s8 wr => ∃ kk : Nat, kk ≤ k ∧ l0.length - kk ≤ gg ∧ s8 = .int .i64 kk ∧ Aside0 (Drawn0 w wr))
  case atStart => exact ⟨0, Nat.zero_le _, by omega, rfl, ⟨Drawn0.refl _⟩⟩
  case round =>
    obtain ⟨kk, hkk, hg, rfl, D⟩ := hrel
    by_cases hlt : kk < l0.length
    · have hltz : (kk : Int) < (l0.length : Int) := by omega
      have hC1 : Kd.C (Kd.slice 37 (Kd.int .u64)) wr A0 l0.length l0 := Kd.C_below HR0.out D.out.below
      have h0k : (0 : Int) ≤ (kk : Int) := Int.natCast_nonneg kk
      obtain ⟨ad, c, hA, _, hK, hc⟩ := Kd.C_get hC1 ([] : List Int) (kk : Int) h0k hltz
      obtain ⟨A1, c1, rfl, hl1, hi1⟩ := hK
      subst hA
      have hcell := hc 0 _ rfl
      rw [Nat.add_zero, show (Kd.slice 37 (Kd.int .u64)).sz = 1 from rfl, Nat.mul_one] at hcell
      simp only [Go.IntWalk.toNatUp] at hcell hl1 hi1
      have HX := HJ.out kk
      have HY := HL.out
      clear hc hC1
      generalize hx : l0.getD kk [] = x at hcell hl1 hi1 HX
      by_cases hlast : kk < k
      · have hcall := Aside0.mk (wire_nats.closure A1 c1 x true wr hi1 hl1 (HX hlast))
        have D2 := D
        clear D hi1 HX HY hx
        go_wp2_with (go_at_call 39; refine hcall.out.mono ?_; rintro e w' ⟨rfl, ⟨q, rfl⟩⟩)
        go_roundg (l0.length - (kk + 1))
        case measure => omega
        case rel => exact ⟨kk + 1, by omega, by omega, by go_num, ⟨D2.out.step _⟩⟩
      · have hkk' : kk = k := by omega
        subst hkk'
        have HZ := HY hlt
        rw [hx] at HZ
        have hcall := Aside0.mk (wire_nats.closure A1 c1 x false wr hi1 hl1 HZ)
        have hr : r = false := by
          cases r with
          | false => rfl
          | true => have := HRR.out.1 rfl; omega
        have HR := Aside0.mk hr
        have D2 := D
        clear D hi1 HX HY hx HZ hr
        go_wp2_with (go_at_call 39; refine hcall.out.mono ?_; rintro e w' ⟨rfl, ⟨q, rfl⟩⟩)
        go_ret
        exact ⟨⟨_, rfl, by rw [HR.out]; simp⟩, D2.out.step _⟩
    · have hltz : ¬ (kk : Int) < (l0.length : Int) := by omega
      have hr : r = true := HRR.out.2 (by omega)
      have HR := Aside0.mk hr
      clear hr
      go_wp2
      go_ret
      exact ⟨⟨_, rfl, by rw [HR.out]; simp⟩, D.out⟩
set_option maxHeartbeats 8000000 in
set_option maxRecDepth 100000 in
theorem wire_nats.contains (A0 : Option Addr) (c0 : Nat) (l0 : List (List Int)) (r : Bool) (w : World) (hr0 : Kd.C (Kd.slice 37 (Kd.int .u64)) w A0 l0.length l0) (hc0 : l0.length ≤ c0) (h : wire_nats.f l0 = some r) :
    Calls Try.prog 57 #[.slice A0 l0.length c0, .func (.func 39) #[] #[]] w fun e w' => e = .returned (.bool (!r)) ∧ Drawn0 w w' := by
  have hcall := Aside0.mk (wire_nats.index A0 c0 l0 r w hr0 hc0 h)
  clear hr0 hc0 h
  go_enter Try.func57, Try.ntmps57
  go_wp2_with (go_at_call 62; refine hcall.out.mono ?_; rintro e w' ⟨⟨k, rfl, hk⟩, hd⟩; have HK := Aside0.mk hk; have HD := Aside0.mk hd; clear hk hd)
  go_ret
  exact ⟨by rw [← HK.out]; rfl, HD.out⟩
def wire_ints.f (l : List Int) : Bool := l.all fun x => decide (0 ≤ x) && decide (x ≤ 1073741824)
theorem wire_ints.odd (x : Int) : wire_odd.f x = some (!(decide (0 ≤ x) && decide (x ≤ 1073741824))) := by
  unfold wire_odd.f
  by_cases h : x < 0
  · rw [if_pos h, decide_eq_false (show ¬ 0 ≤ x by omega)]
    rfl
  · rw [if_neg h, decide_eq_true (show 0 ≤ x by omega)]
    by_cases h2 : x ≤ 1073741824
    · rw [decide_eq_true h2, decide_eq_false (show ¬ x > 1073741824 by omega)]
      rfl
    · rw [decide_eq_false h2, decide_eq_true (show x > 1073741824 by omega)]
      rfl
theorem wire_ints.ix_of {l : List Int} {r : Bool} (h : wire_ints.f l = r) : ∃ k, k ≤ l.length ∧ (r = true ↔ k = l.length) ∧ (∀ j, j < k → wire_odd.f (l.getD j 0) = some false) ∧ (k < l.length → wire_odd.f (l.getD k 0) = some true) := by
  subst h
  induction l with
  | nil => exact ⟨0, Nat.le_refl _, by simp [wire_ints.f], fun j hj => absurd hj (Nat.not_lt_zero _), fun hj => absurd hj (Nat.not_lt_zero _)⟩
  | cons a l ih =>
    have e : wire_ints.f (a :: l) = ((decide (0 ≤ a) && decide (a ≤ 1073741824)) && wire_ints.f l) := by simp [wire_ints.f]
    have ho := wire_ints.odd a
    cases hb : (decide (0 ≤ a) && decide (a ≤ 1073741824)) with
    | true =>
      rw [hb] at ho
      obtain ⟨k, hle, hr, hj, hl⟩ := ih
      refine ⟨k + 1, by simp; omega, ?_, ?_, ?_⟩
      · rw [e, hb, Bool.true_and, hr]
        simp
      · intro j hjk
        cases j with
        | zero => simpa using ho
        | succ j => simpa using hj j (by omega)
      · intro hlt
        simpa using hl (by simpa using hlt)
    | false =>
      rw [hb] at ho
      refine ⟨0, Nat.zero_le _, ?_, fun j hj => absurd hj (Nat.not_lt_zero _), fun _ => by simpa using ho⟩
      rw [e, hb]
      simp
set_option maxHeartbeats 8000000 in
set_option maxRecDepth 100000 in
theorem wire_ints.index (A0 : Option Addr) (c0 : Nat) (l0 : List Int) (r : Bool) (w : World) (hr0 : Kd.C (Kd.int .i64) w A0 l0.length l0) (hc0 : l0.length ≤ c0) (h : wire_ints.f l0 = r) :
    Calls Try.prog 61 #[.slice A0 l0.length c0, .func (.func 38) #[] #[]] w fun e w' => (∃ k : Int, e = .returned (.int .i64 k) ∧ decide (0 ≤ k) = !r) ∧ Drawn0 w w' := by
  have HR0 := Aside0.mk hr0
  obtain ⟨k, hle, hr, hj, hl⟩ := wire_ints.ix_of h
  have hbig : l0.length ≤ 9223372036854775807 := hr0.2.1
  have HJ := Aside0.mk hj
  have HL := Aside0.mk hl
  have HRR := Aside0.mk hr
  clear hr0 hc0 hj hl h hr
  go_enter Try.func61, Try.ntmps61
  go_wp2
  go_loopg [5, 8] l0.length (fun gg _ s8 wr => ∃ kk : Nat, kk ≤ k ∧ l0.length - kk ≤ gg ∧ s8 = .int .i64 kk ∧ Aside0 (Drawn0 w wr))
  case atStart => exact ⟨0, Nat.zero_le _, by omega, rfl, ⟨Drawn0.refl _⟩⟩
  case round =>
    obtain ⟨kk, hkk, hg, rfl, D⟩ := hrel
    by_cases hlt : kk < l0.length
    · have hltz : (kk : Int) < (l0.length : Int) := by omega
      have hC1 : Kd.C (Kd.int .i64) wr A0 l0.length l0 := Kd.C_below HR0.out D.out.below
      have h0k : (0 : Int) ≤ (kk : Int) := Int.natCast_nonneg kk
      obtain ⟨ad, hA, hcell⟩ := Kd.at_int hC1 (kk : Int) h0k hltz
      subst hA
      simp only [Go.IntWalk.toNatUp] at hcell
      rw [show rd l0 (kk : Int) = l0.getD kk 0 from rfl] at hcell
      have HX := HJ.out kk
      have HY := HL.out
      clear hC1
      generalize hx : l0.getD kk 0 = x at hcell HX
      by_cases hlast : kk < k
      · have hcall := Aside0.mk (wire_odd.calls x false wr (HX hlast))
        have D2 := D
        clear D HX HY hx
        go_wp2_with (go_at_call 38; refine hcall.out.mono ?_; rintro e w' ⟨rfl, ⟨q, rfl⟩⟩)
        go_roundg (l0.length - (kk + 1))
        case measure => omega
        case rel => exact ⟨kk + 1, by omega, by omega, by go_num, ⟨D2.out.step _⟩⟩
      · have hkk' : kk = k := by omega
        subst hkk'
        have HZ := HY hlt
        rw [hx] at HZ
        have hcall := Aside0.mk (wire_odd.calls x true wr HZ)
        have hr : r = false := by
          cases r with
          | false => rfl
          | true => have := HRR.out.1 rfl; omega
        have HR := Aside0.mk hr
        have D2 := D
        clear D HX HY hx HZ hr
        go_wp2_with (go_at_call 38; refine hcall.out.mono ?_; rintro e w' ⟨rfl, ⟨q, rfl⟩⟩)
        go_ret
        exact ⟨⟨_, rfl, by rw [HR.out]; simp⟩, D2.out.step _⟩
    · have hltz : ¬ (kk : Int) < (l0.length : Int) := by omega
      have hr : r = true := HRR.out.2 (by omega)
      have HR := Aside0.mk hr
      clear hr
      go_wp2
      go_ret
      exact ⟨⟨_, rfl, by rw [HR.out]; simp⟩, D.out⟩
set_option maxHeartbeats 8000000 in
set_option maxRecDepth 100000 in
theorem wire_ints.contains (A0 : Option Addr) (c0 : Nat) (l0 : List Int) (r : Bool) (w : World) (hr0 : Kd.C (Kd.int .i64) w A0 l0.length l0) (hc0 : l0.length ≤ c0) (h : wire_ints.f l0 = r) :
    Calls Try.prog 56 #[.slice A0 l0.length c0, .func (.func 38) #[] #[]] w fun e w' => e = .returned (.bool (!r)) ∧ Drawn0 w w' := by
  have hcall := Aside0.mk (wire_ints.index A0 c0 l0 r w hr0 hc0 h)
  clear hr0 hc0 h
  go_enter Try.func56, Try.ntmps56
  go_wp2_with (go_at_call 61; refine hcall.out.mono ?_; rintro e w' ⟨⟨k, rfl, hk⟩, hd⟩; have HK := Aside0.mk hk; have HD := Aside0.mk hd; clear hk hd)
  go_ret
  exact ⟨by rw [← HK.out]; rfl, HD.out⟩
set_option maxHeartbeats 8000000 in
set_option maxRecDepth 100000 in
theorem wire_list.ints (A0 : Option Addr) (c0 : Nat) (l0 : List Int) (may r : Bool) (w : World) (hr0 : Kd.C (Kd.int .i64) w A0 l0.length l0) (hc0 : l0.length ≤ c0) (h : (decide (l0.length ≤ 16384) && (may || decide (l0.length = 0)) && wire_ints.f l0) = r) :
    Calls Try.prog 41 #[.slice A0 l0.length c0, .bool may, .func (.func 38) #[] #[]] w fun e w' => e = .returned (.bool r) ∧ Drawn0 w w' := by
  have hcall := Aside0.mk (fun q => wire_ints.contains A0 c0 l0 (wire_ints.f l0) (w.drewN q) (Kd.C_below hr0 (Drawn0.below ⟨⟨q, rfl⟩⟩)) hc0 rfl)
  clear hr0 hc0
  by_cases h1 : l0.length ≤ 16384
  · have z1 : decide ((l0.length : Int) ≤ 16384) = true := decide_eq_true (by omega)
    rw [decide_eq_true h1] at h
    cases may with
    | true =>
      have HH := Aside0.mk h
      clear h h1
      go_enter Try.func41, Try.ntmps41
      go_wp2_with (go_at_call 56; refine (hcall.out 0).mono ?_; rintro e w' ⟨rfl, hd⟩; have HD := Aside0.mk hd; clear hd)
      go_ret
      exact ⟨by rw [← HH.out]; simp, HD.out⟩
    | false =>
      by_cases h2 : l0.length = 0
      · have z2 : ((l0.length : Int) == 0) = true := beq_iff_eq.mpr (by omega)
        rw [decide_eq_true h2] at h
        have HH := Aside0.mk h
        clear h h1 h2
        go_enter Try.func41, Try.ntmps41
        go_wp2_with (go_at_call 56; refine (hcall.out 0).mono ?_; rintro e w' ⟨rfl, hd⟩; have HD := Aside0.mk hd; clear hd)
        go_ret
        exact ⟨by rw [← HH.out]; simp, HD.out⟩
      · have z2 : ((l0.length : Int) == 0) = false := beq_eq_false_iff_ne.mpr (by omega)
        rw [decide_eq_false h2] at h
        have HH := Aside0.mk h
        clear h h1 h2
        go_enter Try.func41, Try.ntmps41
        go_wp2
        go_ret
        exact ⟨by rw [← HH.out]; simp, Drawn0.refl _⟩
  · have z1 : decide ((l0.length : Int) ≤ 16384) = false := decide_eq_false (by omega)
    rw [decide_eq_false h1] at h
    have HH := Aside0.mk h
    clear h h1
    go_enter Try.func41, Try.ntmps41
    go_wp2
    go_ret
    exact ⟨by rw [← HH.out]; simp, Drawn0.refl _⟩
set_option maxHeartbeats 8000000 in
set_option maxRecDepth 100000 in
theorem wire_list.nats (A0 : Option Addr) (c0 : Nat) (l0 : List (List Int)) (may b r : Bool) (w : World) (hr0 : Kd.C (Kd.slice 37 (Kd.int .u64)) w A0 l0.length l0) (hc0 : l0.length ≤ c0) (h : (decide (l0.length ≤ 16384) && (may || decide (l0.length = 0)) && b) = r) (hb : wire_nats.f l0 = some b) :
    Calls Try.prog 42 #[.slice A0 l0.length c0, .bool may, .func (.func 39) #[] #[]] w fun e w' => e = .returned (.bool r) ∧ Drawn0 w w' := by
  have hcall := Aside0.mk (fun q => wire_nats.contains A0 c0 l0 b (w.drewN q) (Kd.C_below hr0 (Drawn0.below ⟨⟨q, rfl⟩⟩)) hc0 hb)
  clear hr0 hc0 hb
  by_cases h1 : l0.length ≤ 16384
  · have z1 : decide ((l0.length : Int) ≤ 16384) = true := decide_eq_true (by omega)
    rw [decide_eq_true h1] at h
    cases may with
    | true =>
      have HH := Aside0.mk h
      clear h h1
      go_enter Try.func42, Try.ntmps42
      go_wp2_with (go_at_call 57; refine (hcall.out 0).mono ?_; rintro e w' ⟨rfl, hd⟩; have HD := Aside0.mk hd; clear hd)
      go_ret
      exact ⟨by rw [← HH.out]; simp, HD.out⟩
    | false =>
      by_cases h2 : l0.length = 0
      · have z2 : ((l0.length : Int) == 0) = true := beq_iff_eq.mpr (by omega)
        rw [decide_eq_true h2] at h
        have HH := Aside0.mk h
        clear h h1 h2
        go_enter Try.func42, Try.ntmps42
        go_wp2_with (go_at_call 57; refine (hcall.out 0).mono ?_; rintro e w' ⟨rfl, hd⟩; have HD := Aside0.mk hd; clear hd)
        go_ret
        exact ⟨by rw [← HH.out]; simp, HD.out⟩
      · have z2 : ((l0.length : Int) == 0) = false := beq_eq_false_iff_ne.mpr (by omega)
        rw [decide_eq_false h2] at h
        have HH := Aside0.mk h
        clear h h1 h2
        go_enter Try.func42, Try.ntmps42
        go_wp2
        go_ret
        exact ⟨by rw [← HH.out]; simp, Drawn0.refl _⟩
  · have z1 : decide ((l0.length : Int) ≤ 16384) = false := decide_eq_false (by omega)
    rw [decide_eq_false h1] at h
    have HH := Aside0.mk h
    clear h h1
    go_enter Try.func42, Try.ntmps42
    go_wp2
    go_ret
    exact ⟨by rw [← HH.out]; simp, Drawn0.refl _⟩
def wire_kindOf : Nat → Int × Bool × Bool × Bool
  | 1 => (2, false, false, true)
  | 2 => (2, false, false, false)
  | 3 => (1, false, false, true)
  | 4 => (2, false, true, false)
  | 5 => (2, true, false, true)
  | 6 => (2, true, false, false)
  | 7 => (3, false, true, false)
  | 8 => (2, false, false, false)
  | 9 => (3, false, false, false)
  | 10 => (1, false, false, false)
  | 11 => (1, false, false, false)
  | _ => (0, false, false, false)
def wire_cells (p : Int × Bool × Bool × Bool) : List Value := [.int .i64 p.1, .bool p.2.1, .bool p.2.2.1, .bool p.2.2.2]
def wire_tab : Array Value := ((List.range 12).flatMap fun i => wire_cells (wire_kindOf i)).toArray
def wire_zero : Array Value := ((List.range 12).flatMap fun i => wire_cells (wire_kindOf 0)).toArray
theorem wire_tab_at (i : Nat) (hi : i < 12) : wire_tab[i * 4]? = some (.int .i64 (wire_kindOf i).1) ∧ wire_tab[i * 4 + 1]? = some (.bool (wire_kindOf i).2.1) ∧ wire_tab[i * 4 + 2]? = some (.bool (wire_kindOf i).2.2.1) ∧ wire_tab[i * 4 + 3]? = some (.bool (wire_kindOf i).2.2.2) := by
  match i, hi with
  | 0, _ => exact ⟨rfl, rfl, rfl, rfl⟩
  | 1, _ => exact ⟨rfl, rfl, rfl, rfl⟩
  | 2, _ => exact ⟨rfl, rfl, rfl, rfl⟩
  | 3, _ => exact ⟨rfl, rfl, rfl, rfl⟩
  | 4, _ => exact ⟨rfl, rfl, rfl, rfl⟩
  | 5, _ => exact ⟨rfl, rfl, rfl, rfl⟩
  | 6, _ => exact ⟨rfl, rfl, rfl, rfl⟩
  | 7, _ => exact ⟨rfl, rfl, rfl, rfl⟩
  | 8, _ => exact ⟨rfl, rfl, rfl, rfl⟩
  | 9, _ => exact ⟨rfl, rfl, rfl, rfl⟩
  | 10, _ => exact ⟨rfl, rfl, rfl, rfl⟩
  | 11, _ => exact ⟨rfl, rfl, rfl, rfl⟩
  | n + 12, h => omega
set_option maxHeartbeats 8000000 in
set_option maxRecDepth 100000 in
theorem wire_kinds.calls (w : World) :
    Calls Try.prog 37 #[] w fun e w' => e = .returned (.agg wire_tab) ∧ Below w.heap.size w w' := by
  go_enter Try.func37, Try.ntmps37
  go_wp2_with (first
    | ((with_reducible refine gate_dst (N := 0) rfl ?_); refine box_event ?hg (N := 0) ?hd (cs := wire_zero) (t := 71) ?hr ?_; (case hd => rfl); (case hg => rfl); (case hr => kernel_rfl); intro g hg w1 hbox hb; have BK := Aside0.mk hbox; have HB := Aside0.mk hb; have HG := Aside0.mk (show w.heap.size ≤ g from Nat.le_of_eq hg.symm); clear hbox hb hg)
    | ((with_reducible refine gate_dst (N := 12) rfl ?_); refine Kd.event_run (v := .agg wire_tab) (w1 := w1) ?hg ?hr ?_; (case hg => rfl); (case hr => kernel_rfl))
    | ((with_reducible refine gate_store (t := 71) (p := 0) rfl ?_); refine wpList_store_row rfl 71 (.tmp 0) (.tmp 12) rfl g wire_tab rfl rfl 71 wire_zero BK.out (by kernel_rfl) (by kernel_rfl) (by kernel_rfl) ?_; have BK2 := Aside0.mk (setRow_heap w1 g _ wire_tab _ _ BK.out); have HB2 := Aside0.mk (below_setRow HB.out HG.out wire_tab); generalize w1.setRow g wire_tab = w2 at BK2 HB2 ⊢; clear BK HB))
  refine bodyPost_ret (results_cell_row rfl _ _ g 71 wire_tab (0, 0) _ rfl BK2.out Try.underlying71 rfl (by kernel_rfl)) rfl ⟨rfl, HB2.out⟩
def wire_ok (x : Int) : Bool := decide (0 ≤ x) && decide (x ≤ 1073741824)
def wire_okAt (nk a1 a2 a3 : Int) (i : Nat) : Bool := decide ((i : Int) < nk) || ([a1, a2, a3].getD i 0 == 0)
def wire_noughts (nk a1 a2 a3 : Int) : Bool := wire_okAt nk a1 a2 a3 0 && wire_okAt nk a1 a2 a3 1 && wire_okAt nk a1 a2 a3 2
def wire_may (n : Nat) (may ok : Bool) : Bool := decide (n ≤ 16384) && (may || decide (n = 0)) && ok
def wire_incr (l : List Int) : Bool := decide (∀ j, j < l.length → 0 < j → l.getD (j - 1) 0 < l.getD j 0)
def wire_last (a0 a3 : Int) (l4 : List Int) (l6 : List (List Int)) : Bool := if a0 = 1 then decide (l6.length = 1) else if a0 = 5 then decide (l6.length = l4.length) else if a0 = 6 then decide (0 < l4.length) else if a0 = 9 then decide (a3 ≤ 1) else true
def Rd1 (w : World) (A : Option Addr) (c : Nat) (l : List Int) : Prop := Kd.C (Kd.int .i64) w A l.length l ∧ l.length ≤ c
theorem Rd1.below {w w' : World} {A : Option Addr} {c : Nat} {l : List Int} (h : Rd1 w A c l) (hb : Below w.heap.size w w') : Rd1 w' A c l := ⟨Kd.C_below h.1 hb, h.2⟩
theorem Rd1.C {w : World} {A : Option Addr} {c : Nat} {l : List Int} (h : Rd1 w A c l) : Kd.C (Kd.int .i64) w A l.length l := h.1
theorem Rd1.le {w : World} {A : Option Addr} {c : Nat} {l : List Int} (h : Rd1 w A c l) : l.length ≤ c := h.2
theorem wire_one (nk : Int) (ik rk tk : Bool) : (#[Value.int .i64 nk, .bool ik, .bool rk, .bool tk]).all (·.oneCell') = true := by simp [Value.oneCell']
theorem wire_noughts_true {nk a1 a2 a3 : Int} (h : ∀ j, j < 3 → wire_okAt nk a1 a2 a3 j = true) : wire_noughts nk a1 a2 a3 = true := by
  unfold wire_noughts
  rw [h 0 (by omega), h 1 (by omega), h 2 (by omega)]
  rfl
theorem wire_noughts_false {nk a1 a2 a3 : Int} {j : Nat} (hj : j < 3) (h : wire_okAt nk a1 a2 a3 j = false) : wire_noughts nk a1 a2 a3 = false := by
  unfold wire_noughts
  match j, hj with
  | 0, _ => rw [h]; rfl
  | 1, _ => rw [h]; simp
  | 2, _ => rw [h]; simp
theorem wire_info : (Try.prog.info? 70).map (·.size) = some 4 := by kernel_rfl
theorem wire_ret {a b : Bool} (h : a = b) : Ending.returned (.bool a) = .returned (.bool b) := by rw [h]
def wire_Right.g (p : Int × Bool × Bool × Bool) (a0 a1 a2 a3 : Int) (l4 l5 : List Int) (l6 : List (List Int)) : Option Bool :=
  if wire_noughts p.1 a1 a2 a3 = true then (if wire_may l4.length p.2.1 (wire_ints.f l4) = true then (if wire_may l5.length p.2.2.1 (wire_ints.f l5) = true then ((wire_nats.f l6).bind fun b => if wire_may l6.length p.2.2.2 b = true then some (wire_incr l5 && wire_last a0 a3 l4 l6) else some false) else some false) else some false) else some false
def wire_Right.f (a0 a1 a2 a3 : Int) (l4 l5 : List Int) (l6 : List (List Int)) : Option Bool :=
  if 1 ≤ a0 ∧ a0 < 12 ∧ wire_ok a1 = true ∧ wire_ok a2 = true ∧ wire_ok a3 = true then wire_Right.g (wire_kindOf a0.toNat) a0 a1 a2 a3 l4 l5 l6 else some false
theorem wire_incr_of {l : List Int} (h : ∀ j, j < l.length → 0 < j → l.getD (j - 1) 0 < l.getD j 0) : wire_incr l = true := decide_eq_true h
theorem wire_incr_not {l : List Int} {j : Nat} (h1 : j < l.length) (h2 : 0 < j) (h : l.getD j 0 ≤ l.getD (j - 1) 0) : wire_incr l = false := decide_eq_false (fun H => by have := H j h1 h2; omega)
set_option maxHeartbeats 8000000 in
set_option maxRecDepth 100000 in
theorem wire_Right.bad (a0 a1 a2 a3 : Int) (A4 : Option Addr) (c4 : Nat) (l4 : List Int) (A5 : Option Addr) (c5 : Nat) (l5 : List Int) (A6 : Option Addr) (c6 : Nat) (l6 : List (List Int)) (w : World) (h : ¬ (1 ≤ a0 ∧ a0 < 12 ∧ wire_ok a1 = true ∧ wire_ok a2 = true ∧ wire_ok a3 = true)) :
    Calls Try.prog 12 #[.agg #[.int .i64 a0, .int .i64 a1, .int .i64 a2, .int .i64 a3, .slice A4 l4.length c4, .slice A5 l5.length c5, .slice A6 l6.length c6]] w fun e w' => e = .returned (.bool false) ∧ Below w.heap.size w w' := by
  have key : decide (a0 < 1) = true ∨ decide (a0 < 1) = false ∧ (decide ((12 : Int) ≤ a0) = true ∨ decide ((12 : Int) ≤ a0) = false ∧ (wire_odd.f a1 = some true ∨ wire_odd.f a1 = some false ∧ (wire_odd.f a2 = some true ∨ wire_odd.f a2 = some false ∧ wire_odd.f a3 = some true))) := by
    rw [wire_ints.odd, wire_ints.odd, wire_ints.odd]
    change ¬ (1 ≤ a0 ∧ a0 < 12 ∧ (decide (0 ≤ a1) && decide (a1 ≤ 1073741824)) = true ∧ (decide (0 ≤ a2) && decide (a2 ≤ 1073741824)) = true ∧ (decide (0 ≤ a3) && decide (a3 ≤ 1073741824)) = true) at h
    by_cases h1 : a0 < 1
    · exact .inl (decide_eq_true h1)
    · refine .inr ⟨decide_eq_false h1, ?_⟩
      by_cases h2 : 12 ≤ a0
      · exact .inl (decide_eq_true h2)
      · refine .inr ⟨decide_eq_false h2, ?_⟩
        cases g1 : (decide (0 ≤ a1) && decide (a1 ≤ 1073741824)) with
        | false => exact .inl rfl
        | true =>
          refine .inr ⟨rfl, ?_⟩
          cases g2 : (decide (0 ≤ a2) && decide (a2 ≤ 1073741824)) with
          | false => exact .inl rfl
          | true =>
            refine .inr ⟨rfl, ?_⟩
            cases g3 : (decide (0 ≤ a3) && decide (a3 ≤ 1073741824)) with
            | false => rfl
            | true => exact absurd ⟨by omega, by omega, g1, g2, g3⟩ h
  have HB := Aside0.mk (Below.refl w.heap.size w)
  clear h
  rcases key with h1 | ⟨h1, h2 | ⟨h2, h3 | ⟨h3, h4 | ⟨h4, h5⟩⟩⟩⟩
  all_goals
    go_enter Try.func12, Try.ntmps12
    go_wp2_with (first
      | ((with_reducible refine gate_dst (N := 1) rfl ?_); refine box_event ?hg (N := 1) ?hd (cs := #[.int .i64 a0, .int .i64 a1, .int .i64 a2, .int .i64 a3, .slice A4 l4.length c4, .slice A5 l5.length c5, .slice A6 l6.length c6]) (t := 25) ?hr ?_; (case hd => rfl); (case hg => rfl); (case hr => first | (go_simp; done) | (go_simp; rfl)); intro gm hg w1 hbox hb; have BM := Aside0.mk hbox; have HB1 := Aside0.mk (below_step HB.out hb); have HGM := Aside0.mk (show w.heap.size ≤ gm from hg ▸ below_size HB.out); clear HB hb hbox hg)
      | (go_at_call 37; refine (wire_kinds.calls _).mono ?_; rintro e w2 ⟨rfl, hb⟩; have BM2 := Aside0.mk (blk_below BM.out hb); have HB2 := Aside0.mk (below_step HB1.out hb); clear BM HB1 hb)
      | ((with_reducible refine gate_dst (N := 3) rfl ?_); refine box_event ?hg (N := 3) ?hd (cs := wire_zero) (t := 71) ?hr ?_; (case hd => rfl); (case hg => rfl); (case hr => kernel_rfl); intro gk hg w3 hbox hb; have BK := Aside0.mk hbox; have BM3 := Aside0.mk (blk_below BM2.out hb); have HB3 := Aside0.mk (below_step HB2.out hb); have HGK := Aside0.mk (show w.heap.size ≤ gk from hg ▸ below_size HB2.out); have HKM := Aside0.mk (show gm ≠ gk from by have := blk_lt BM2.out; omega); clear HB2 BM2 hb hbox hg)
      | ((with_reducible refine gate_store (t := 71) (p := 3) rfl ?_); refine wpList_store_row rfl 71 (.tmp 3) (.tmp 9) rfl gk wire_tab rfl rfl 71 wire_zero BK.out (by kernel_rfl) (by kernel_rfl) (by kernel_rfl) ?_; have BK4 := Aside0.mk (setRow_heap w3 gk _ wire_tab _ _ BK.out); have BM4 := Aside0.mk ((setRow_other w3 gk gm wire_tab HKM.out).trans BM3.out); have HB4 := Aside0.mk (below_setRow HB3.out HGK.out wire_tab); generalize w3.setRow gk wire_tab = w4 at BK4 BM4 HB4 ⊢; clear BK HB3 BM3; have hm0 := (blk_cell BM4.out 0).trans rfl; have hm1 := (blk_cell BM4.out 1).trans rfl; have hm2 := (blk_cell BM4.out 2).trans rfl; have hm3 := (blk_cell BM4.out 3).trans rfl)
      | (go_at_call 38; refine (wire_odd.calls _ _ _ (by assumption)).mono ?_; rintro e w' ⟨rfl, ⟨z1, rfl⟩⟩))
    go_ret
    exact ⟨rfl, uB⟩
set_option maxHeartbeats 8000000 in
set_option maxRecDepth 100000 in
theorem wire_Right.good (n : Nat) (nk : Int) (ik rk tk : Bool) (a1 a2 a3 : Int) (A4 : Option Addr) (c4 : Nat) (l4 : List Int) (A5 : Option Addr) (c5 : Nat) (l5 : List Int) (A6 : Option Addr) (c6 : Nat) (l6 : List (List Int)) (w : World) (hn1 : 1 ≤ n) (hn2 : n < 12) (h1 : wire_odd.f a1 = some false) (h2 : wire_odd.f a2 = some false) (h3 : wire_odd.f a3 = some false) (hp : wire_kindOf n = (nk, ik, rk, tk)) (r : Bool) (hg : wire_Right.g (nk, ik, rk, tk) (n : Int) a1 a2 a3 l4 l5 l6 = some r) (h4 : Rd1 w A4 c4 l4) (h5 : Rd1 w A5 c5 l5) (h6 : Kd.C (Kd.slice 37 (Kd.int .u64)) w A6 l6.length l6 ∧ l6.length ≤ c6) :
    Calls Try.prog 12 #[.agg #[.int .i64 (n : Int), .int .i64 a1, .int .i64 a2, .int .i64 a3, .slice A4 l4.length c4, .slice A5 l5.length c5, .slice A6 l6.length c6]] w fun e w' => e = .returned (.bool r) ∧ Below w.heap.size w w' := by
  have HB := Aside0.mk (Below.refl w.heap.size w)
  have HP := Aside0.mk hp
  have HG := Aside0.mk hg
  have H4 := Aside0.mk h4
  have H5 := Aside0.mk h5
  have H6 := Aside0.mk h6
  clear hp hg h4 h5 h6
  have z1 : decide ((n : Int) < 1) = false := decide_eq_false (by omega)
  have z2 : decide ((12 : Int) ≤ (n : Int)) = false := decide_eq_false (by omega)
  have y1 : (0 : Int) ≤ (n : Int) := by omega
  have y2 : (n : Int) < 12 := by omega
  go_enter Try.func12, Try.ntmps12
  go_wp2_with (first
    | ((with_reducible refine gate_dst (N := 1) rfl ?_); refine box_event ?hg (N := 1) ?hd (cs := #[.int .i64 (n : Int), .int .i64 a1, .int .i64 a2, .int .i64 a3, .slice A4 l4.length c4, .slice A5 l5.length c5, .slice A6 l6.length c6]) (t := 25) ?hr ?_; (case hd => rfl); (case hg => rfl); (case hr => first | (go_simp; done) | (go_simp; rfl)); intro gm hg w1 hbox hb; have BM := Aside0.mk hbox; have HB1 := Aside0.mk (below_step HB.out hb); have HGM := Aside0.mk (show w.heap.size ≤ gm from hg ▸ below_size HB.out); clear HB hb hbox hg)
    | (go_at_call 37; refine (wire_kinds.calls _).mono ?_; rintro e w2 ⟨rfl, hb⟩; have BM2 := Aside0.mk (blk_below BM.out hb); have HB2 := Aside0.mk (below_step HB1.out hb); clear BM HB1 hb)
    | ((with_reducible refine gate_dst (N := 3) rfl ?_); refine box_event ?hg (N := 3) ?hd (cs := wire_zero) (t := 71) ?hr ?_; (case hd => rfl); (case hg => rfl); (case hr => kernel_rfl); intro gk hg w3 hbox hb; have BK := Aside0.mk hbox; have BM3 := Aside0.mk (blk_below BM2.out hb); have HB3 := Aside0.mk (below_step HB2.out hb); have HGK := Aside0.mk (show w.heap.size ≤ gk from hg ▸ below_size HB2.out); have HKM := Aside0.mk (show gm ≠ gk from by have := blk_lt BM2.out; omega); clear HB2 BM2 hb hbox hg)
    | ((with_reducible refine gate_store (t := 71) (p := 3) rfl ?_); refine wpList_store_row rfl 71 (.tmp 3) (.tmp 9) rfl gk wire_tab rfl rfl 71 wire_zero BK.out (by kernel_rfl) (by kernel_rfl) (by kernel_rfl) ?_; have BK4 := Aside0.mk (setRow_heap w3 gk _ wire_tab _ _ BK.out); have BM4 := Aside0.mk ((setRow_other w3 gk gm wire_tab HKM.out).trans BM3.out); have HB4 := Aside0.mk (below_setRow HB3.out HGK.out wire_tab); generalize w3.setRow gk wire_tab = w4 at BK4 BM4 HB4 ⊢; clear BK HB3 BM3; have hm0 := (blk_cell BM4.out 0).trans rfl; obtain ⟨ht0, ht1, ht2, ht3⟩ := wire_tab_at n (by omega); rw [HP.out] at ht0 ht1 ht2 ht3; have hk0 := (blk_cell BK4.out (n * 4)).trans ht0; have hk1 := (blk_cell BK4.out (n * 4 + 1)).trans ht1; have hk2 := (blk_cell BK4.out (n * 4 + 2)).trans ht2; have hk3 := (blk_cell BK4.out (n * 4 + 3)).trans ht3; clear ht0 ht1 ht2 ht3; have hm1 := (blk_cell BM4.out 1).trans rfl; have hm2 := (blk_cell BM4.out 2).trans rfl; have hm3 := (blk_cell BM4.out 3).trans rfl)
    | (go_at_call 38; refine (wire_odd.calls _ _ _ (by assumption)).mono ?_; rintro e w' ⟨rfl, ⟨z1, rfl⟩⟩)
    | ((with_reducible refine gate_dst (N := 4) rfl ?_); refine box_event ?hg (N := 4) ?hd (cs := #[.int .i64 0, .bool false, .bool false, .bool false]) (t := 70) ?hr ?_; (case hd => rfl); (case hg => rfl); (case hr => first | (go_simp; done) | (go_simp; rfl)); intro gp hg w5 hbox hb; have BP := Aside0.mk hbox; have BM5 := Aside0.mk (blk_below (uK BM4.out) hb); have HB5 := Aside0.mk (below_step uB hb); have HGP := Aside0.mk (show w.heap.size ≤ gp from hg ▸ below_size uB); have HPM := Aside0.mk (show gm ≠ gp from by rw [hg]; exact Nat.ne_of_lt (blk_lt (uK BM4.out))); clear HB4 BM4 BK4 hm0 hm1 hm2 hm3 hk0 hk1 hk2 hk3 hb hbox hg)
    | ((with_reducible refine gate_store (t := 70) (p := 4) rfl ?_); refine wpList_store_row rfl 70 (.tmp 4) (.tmp 36) rfl gp #[.int .i64 nk, .bool ik, .bool rk, .bool tk] rfl rfl 70 #[.int .i64 0, .bool false, .bool false, .bool false] BP.out wire_info rfl (wire_one nk ik rk tk) ?_; have BP6 := Aside0.mk (setRow_heap w5 gp _ #[.int .i64 nk, .bool ik, .bool rk, .bool tk] _ _ BP.out); have BM6 := Aside0.mk ((setRow_other w5 gp gm #[.int .i64 nk, .bool ik, .bool rk, .bool tk] HPM.out).trans BM5.out); have HB6 := Aside0.mk (below_setRow HB5.out HGP.out #[.int .i64 nk, .bool ik, .bool rk, .bool tk]); generalize w5.setRow gp #[.int .i64 nk, .bool ik, .bool rk, .bool tk] = w6 at BP6 BM6 HB6 ⊢; clear BP HB5 BM5; have hm1 := (blk_cell BM6.out 1).trans rfl; have hm2 := (blk_cell BM6.out 2).trans rfl; have hm3 := (blk_cell BM6.out 3).trans rfl)
    | ((with_reducible refine gate_dst (N := 43) rfl ?_); refine Kd.R_lit (Kd.int .i64) _ 3 ?hg (N := 43) ?hd (xs := ([a1, a2, a3] : List Int)) (inner := [.int .i64 a1, .int .i64 a2, .int .i64 a3]) (ok := fun _ => True) (okp := fun _ => True) ?hr ?hp (fun _ hk => hk) trivial (Below.refl _ _) (Nat.le_refl _) (by simp) ?_; (case hd => rfl); (case hg => rfl); (case hr => first | (go_simp; done) | (go_simp; rfl)); (case hp => exact Reps.one (show Kd.M (Kd.int .i64) _ _ _ a1 [.int .i64 a1] from rfl) (Reps.one (show Kd.M (Kd.int .i64) _ _ _ a2 [.int .i64 a2] from rfl) (Reps.one (show Kd.M (Kd.int .i64) _ _ _ a3 [.int .i64 a3] from rfl) (Reps.none _ _)))); intro v7 w7 ho hb hg_ hnew_; clear hg_ hnew_; obtain ⟨A7, c7, e7⟩ := Kd.R_slice ho; subst e7; have HL7 := Aside0.mk (Kd.R_reads' ho).2.2; have BM7 := Aside0.mk (blk_below BM6.out hb); have BP7 := Aside0.mk (blk_below BP6.out hb); have HB7 := Aside0.mk (below_step HB6.out hb); clear HB6 hb ho BM6 BP6 hm1 hm2 hm3))
  go_loopg [45] 3 (fun gg v45 wr => ∃ i : Nat, v45 = .int .i64 (i : Int) ∧ i ≤ 3 ∧ 3 - i ≤ gg ∧ Aside0 (∀ j, j < i → wire_okAt nk a1 a2 a3 j = true) ∧ wr = w7)
  case atStart => exact ⟨0, rfl, by omega, by omega, ⟨fun j hj => absurd hj (Nat.not_lt_zero _)⟩, rfl⟩
  case round =>
    obtain ⟨i, rfl, hi, hgg, HOK, rfl⟩ := hrel
    by_cases hlt : i < 3
    · have hltz : (i : Int) < 3 := by omega
      have h0z : (0 : Int) ≤ (i : Int) := by omega
      obtain ⟨ad, hA, hcell⟩ := Kd.at_int HL7.out (i : Int) h0z (by simp; omega)
      subst hA
      simp only [Go.IntWalk.toNatUp] at hcell
      rw [show rd [a1, a2, a3] (i : Int) = [a1, a2, a3].getD i 0 from rfl] at hcell
      have hp0 : wr.cell? ⟨gp, 0, none⟩ = some (.int .i64 nk) := (blk_cell BP7.out 0).trans rfl
      have hok : wire_okAt nk a1 a2 a3 i = (decide ((i : Int) < nk) || ([a1, a2, a3].getD i 0 == 0)) := rfl
      generalize [a1, a2, a3].getD i 0 = x at hcell hok
      by_cases hk : (i : Int) < nk
      · have hkz : decide (nk ≤ (i : Int)) = false := decide_eq_false (by omega)
        have HN := Aside0.mk (show wire_okAt nk a1 a2 a3 i = true from by rw [hok, decide_eq_true hk]; rfl)
        clear hok hk
        go_wp2
        go_roundg (3 - (i + 1))
        case measure => omega
        case rel => exact ⟨i + 1, by go_num, by omega, by omega, ⟨fun j hj => by rcases Nat.lt_succ_iff_lt_or_eq.mp hj with h | h; exact HOK.out j h; rw [h]; exact HN.out⟩, rfl⟩
      · have hkz : decide (nk ≤ (i : Int)) = true := decide_eq_true (by omega)
        rw [decide_eq_false hk, Bool.false_or] at hok
        by_cases hx : x = 0
        · have hxz : (x != 0) = false := by rw [hx]; rfl
          have HN := Aside0.mk (show wire_okAt nk a1 a2 a3 i = true from by rw [hok, hx]; rfl)
          clear hok hk hx
          go_wp2
          go_roundg (3 - (i + 1))
          case measure => omega
          case rel => exact ⟨i + 1, by go_num, by omega, by omega, ⟨fun j hj => by rcases Nat.lt_succ_iff_lt_or_eq.mp hj with h | h; exact HOK.out j h; rw [h]; exact HN.out⟩, rfl⟩
        · have hxz : (x != 0) = true := by simp [hx]
          have HN := wire_noughts_false hlt (show wire_okAt nk a1 a2 a3 i = false from by rw [hok]; simp [hx])
          have hG := HG.out
          unfold wire_Right.g at hG
          rw [if_neg (by rw [HN]; decide)] at hG
          obtain rfl := Option.some.inj hG
          clear hok hk hx HN hG HG
          go_wp2
          go_ret
          exact ⟨rfl, uB⟩
    · have hltz : ¬ (i : Int) < 3 := by omega
      have HN := wire_noughts_true (fun j hj => HOK.out j (by omega))
      have hG := HG.out
      unfold wire_Right.g at hG
      rw [if_pos HN] at hG
      have hm4 := (blk_cell BM7.out 4).trans rfl
      have hm5 := (blk_cell BM7.out 5).trans rfl
      have hm6 := (blk_cell BM7.out 6).trans rfl
      have hp1 := (blk_cell BP7.out 1).trans rfl
      have hp2 := (blk_cell BP7.out 2).trans rfl
      have hp3 := (blk_cell BP7.out 3).trans rfl
      clear HG HN
      by_cases q4 : wire_may l4.length ik (wire_ints.f l4) = true
      · rw [if_pos q4] at hG
        have Q4 := Aside0.mk (show (decide (l4.length ≤ 16384) && (ik || decide (l4.length = 0)) && wire_ints.f l4) = true from q4)
        clear q4
        by_cases q5 : wire_may l5.length rk (wire_ints.f l5) = true
        · rw [if_pos q5] at hG
          obtain ⟨b, hb, hG⟩ := Option.bind_eq_some_iff.mp hG
          have Q5 := Aside0.mk (show (decide (l5.length ≤ 16384) && (rk || decide (l5.length = 0)) && wire_ints.f l5) = true from q5)
          have HBN := Aside0.mk hb
          clear q5 hb
          by_cases q6 : wire_may l6.length tk b = true
          · rw [if_pos q6] at hG
            have Q6 := Aside0.mk (show (decide (l6.length ≤ 16384) && (tk || decide (l6.length = 0)) && b) = true from q6)
            have HR := Aside0.mk (Option.some.inj hG)
            clear q6 hG
            go_wp2_with (first
              | (go_at_call 41; ((with_reducible refine (wire_list.ints A4 c4 l4 ik true _ (H4.out.below uB).C H4.out.le Q4.out).mono ?_); rintro e w' ⟨rfl, ⟨y4, rfl⟩⟩))
              | (go_at_call 41; ((with_reducible refine (wire_list.ints A5 c5 l5 rk true _ (H5.out.below uB).C H5.out.le Q5.out).mono ?_); rintro e w' ⟨rfl, ⟨y5, rfl⟩⟩))
              | (go_at_call 42; ((with_reducible refine (wire_list.nats A6 c6 l6 tk b true _ (Kd.C_below H6.out.1 uB) H6.out.2 Q6.out HBN.out).mono ?_); rintro e w' ⟨rfl, ⟨y6, rfl⟩⟩)))
            have BM8 := Aside0.mk (uK BM7.out (W := _) (by repeat (first | exact Below.refl _ _ | apply pw_below_drewN)))
            go_loopg [85] l5.length (fun gg v85 wr => ∃ i : Nat, v85 = .int .i64 (i : Int) ∧ i ≤ l5.length ∧ l5.length - i ≤ gg ∧ Aside0 (∀ j, j < i → 0 < j → l5.getD (j - 1) 0 < l5.getD j 0) ∧ Aside0 (wr.heap[gm]? = some (.cells #[.int .i64 (n : Int), .int .i64 a1, .int .i64 a2, .int .i64 a3, .slice A4 l4.length c4, .slice A5 l5.length c5, .slice A6 l6.length c6] 25 (0, 0))) ∧ Aside0 (Below w.heap.size w wr))
            case atStart => exact ⟨0, rfl, by omega, by omega, ⟨fun j hj => absurd hj (Nat.not_lt_zero _)⟩, BM8, ⟨uB⟩⟩
            case round =>
              clear hm4 hm5 hm6 hp1 hp2 hp3 BM8
              obtain ⟨i, rfl, hi, hgg, HJ, BM9, HB9⟩ := hrel
              have hbig : l5.length ≤ 9223372036854775807 := H5.out.C.2.1
              by_cases hlt : i < l5.length
              · have hltz : (i : Int) < (l5.length : Int) := by omega
                have hm5 := (blk_cell BM9.out 5).trans rfl
                by_cases h0 : i = 0
                · have h0z : decide ((0 : Int) < (i : Int)) = false := decide_eq_false (by omega)
                  have h0y : decide (0 < i) = false := decide_eq_false (by omega)
                  have HI := Aside0.mk h0
                  clear h0
                  go_wp2
                  go_quiet (fail)
                  go_wp2
                  go_roundg (l5.length - (i + 1))
                  case measure => omega
                  case rel => exact ⟨i + 1, by go_num, by omega, by omega, ⟨fun j hj hj0 => by have := HI.out; omega⟩, ⟨uK BM9.out⟩, ⟨uB⟩⟩
                · obtain ⟨j, hj⟩ : ∃ j, i = j + 1 := ⟨i - 1, by omega⟩
                  have h0z : decide ((0 : Int) < (i : Int)) = true := decide_eq_true (by omega)
                  have h0y : decide (0 < i) = true := decide_eq_true (by omega)
                  have hC := (H5.out.below HB9.out).C
                  obtain ⟨ad, hA, hc1⟩ := Kd.at_int hC (i : Int) (by omega) hltz
                  subst hA
                  obtain ⟨ad2, hA2, hc2⟩ := Kd.at_int hC ((i : Int) - 1) (by omega) (by omega)
                  obtain rfl : ad = ad2 := by injection hA2
                  clear hA2 hC
                  rw [show ((i : Int) - 1).toNat = i - 1 from by omega] at hc2
                  simp only [Go.IntWalk.toNatUp] at hc1
                  rw [show rd l5 (i : Int) = l5.getD i 0 from rfl] at hc1
                  rw [show rd l5 ((i : Int) - 1) = l5.getD (i - 1) 0 from by show l5.getD ((i : Int) - 1).toNat 0 = _; rw [show ((i : Int) - 1).toNat = i - 1 from by omega]] at hc2
                  obtain ⟨x, hx⟩ : ∃ x, x = l5.getD i 0 := ⟨_, rfl⟩
                  obtain ⟨y, hy⟩ : ∃ y, y = l5.getD (i - 1) 0 := ⟨_, rfl⟩
                  rw [← hx] at hc1
                  rw [← hy] at hc2
                  have HX := Aside0.mk hx
                  have HY := Aside0.mk hy
                  have HJE := Aside0.mk hj
                  have p0 : (0 : Int) ≤ (i : Int) := by omega
                  have p1 : (0 : Int) ≤ (i : Int) - 1 := by omega
                  have p2 : (i : Int) - 1 < (l5.length : Int) := by omega
                  have p3 : ((i : Int) - 1).toNat = i - 1 := by omega
                  have p4 : IntKind.i64.wrap ((i : Int) - 1) = (i : Int) - 1 := by rw [i64_w]; unfold wrap64; omega
                  clear hx hy hj h0
                  by_cases hxy : x ≤ y
                  · have hxz : decide (x ≤ y) = true := decide_eq_true hxy
                    have HIN := wire_incr_not hlt (by have := HJE.out; omega) (show l5.getD i 0 ≤ l5.getD (i - 1) 0 from by rw [← HX.out, ← HY.out]; exact hxy)
                    have hR := HR.out
                    rw [HIN, Bool.false_and] at hR
                    subst hR
                    clear hxy HIN HR
                    go_wp2
                    go_quiet (fail)
                    go_wp2
                    go_ret
                    exact ⟨rfl, uB⟩
                  · have hxz : decide (x ≤ y) = false := decide_eq_false hxy
                    have HLT := Aside0.mk (show l5.getD (i - 1) 0 < l5.getD i 0 from by rw [← HX.out, ← HY.out]; omega)
                    clear hxy
                    go_wp2
                    go_quiet (fail)
                    clear p4
                    go_wp2
                    go_roundg (l5.length - (i + 1))
                    case measure => omega
                    case rel => exact ⟨i + 1, by go_num, by omega, by omega, ⟨fun j hj hj0 => by rcases Nat.lt_succ_iff_lt_or_eq.mp hj with h | h; exact HJ.out j h hj0; rw [h]; exact HLT.out⟩, ⟨uK BM9.out⟩, ⟨uB⟩⟩
              · have hltz : ¬ (i : Int) < (l5.length : Int) := by omega
                have HIN := wire_incr_of (l := l5) (fun j hj hj0 => HJ.out j (by omega) hj0)
                have hR := HR.out
                rw [HIN, Bool.true_and] at hR
                have HR2 := Aside0.mk hR
                have hm0 := (blk_cell BM9.out 0).trans rfl
                have hm3 := (blk_cell BM9.out 3).trans rfl
                have hm4 := (blk_cell BM9.out 4).trans rfl
                have hm6 := (blk_cell BM9.out 6).trans rfl
                have key : ((n : Int) == 1) = true ∧ r = decide (l6.length = 1) ∨ ((n : Int) == 1) = false ∧ (((n : Int) == 5) = true ∧ r = decide (l6.length = l4.length) ∨ ((n : Int) == 5) = false ∧ (((n : Int) == 6) = true ∧ r = decide (0 < l4.length) ∨ ((n : Int) == 6) = false ∧ (((n : Int) == 9) = true ∧ r = decide (a3 ≤ 1) ∨ ((n : Int) == 9) = false ∧ r = true))) := by
                  rw [← hR]
                  unfold wire_last
                  by_cases e1 : (n : Int) = 1
                  · exact .inl ⟨by simp [e1], by rw [if_pos e1]⟩
                  · refine .inr ⟨by simp [e1], ?_⟩
                    rw [if_neg e1]
                    by_cases e2 : (n : Int) = 5
                    · exact .inl ⟨by simp [e2], by rw [if_pos e2]⟩
                    · refine .inr ⟨by simp [e2], ?_⟩
                      rw [if_neg e2]
                      by_cases e3 : (n : Int) = 6
                      · exact .inl ⟨by simp [e3], by rw [if_pos e3]⟩
                      · refine .inr ⟨by simp [e3], ?_⟩
                        rw [if_neg e3]
                        by_cases e4 : (n : Int) = 9
                        · exact .inl ⟨by simp [e4], by rw [if_pos e4]⟩
                        · exact .inr ⟨by simp [e4], by rw [if_neg e4]⟩
                clear hR HR HR2 HIN
                rcases key with ⟨e1, hr⟩ | ⟨e1, ⟨e2, hr⟩ | ⟨e2, ⟨e3, hr⟩ | ⟨e3, ⟨e4, hr⟩ | ⟨e4, hr⟩⟩⟩⟩
                all_goals
                  have HRR := Aside0.mk hr
                  clear hr
                  go_wp2
                  go_ret
                  exact ⟨wire_ret (by rw [HRR.out]; (try rw [Bool.eq_iff_iff]; simp); (try omega)), uB⟩
          · rw [if_neg q6] at hG
            obtain rfl := Option.some.inj hG
            have Q6 := Aside0.mk (show (decide (l6.length ≤ 16384) && (tk || decide (l6.length = 0)) && b) = false from Bool.eq_false_iff.mpr q6)
            clear q6 hG
            go_wp2_with (first
              | (go_at_call 41; ((with_reducible refine (wire_list.ints A4 c4 l4 ik true _ (H4.out.below uB).C H4.out.le Q4.out).mono ?_); rintro e w' ⟨rfl, ⟨y4, rfl⟩⟩))
              | (go_at_call 41; ((with_reducible refine (wire_list.ints A5 c5 l5 rk true _ (H5.out.below uB).C H5.out.le Q5.out).mono ?_); rintro e w' ⟨rfl, ⟨y5, rfl⟩⟩))
              | (go_at_call 42; ((with_reducible refine (wire_list.nats A6 c6 l6 tk b false _ (Kd.C_below H6.out.1 uB) H6.out.2 Q6.out HBN.out).mono ?_); rintro e w' ⟨rfl, ⟨y6, rfl⟩⟩)))
            go_ret
            exact ⟨rfl, uB⟩
        · rw [if_neg q5] at hG
          obtain rfl := Option.some.inj hG
          have Q5 := Aside0.mk (show (decide (l5.length ≤ 16384) && (rk || decide (l5.length = 0)) && wire_ints.f l5) = false from Bool.eq_false_iff.mpr q5)
          clear q5 hG
          go_wp2_with (first
            | (go_at_call 41; ((with_reducible refine (wire_list.ints A4 c4 l4 ik true _ (H4.out.below uB).C H4.out.le Q4.out).mono ?_); rintro e w' ⟨rfl, ⟨y4, rfl⟩⟩))
            | (go_at_call 41; ((with_reducible refine (wire_list.ints A5 c5 l5 rk false _ (H5.out.below uB).C H5.out.le Q5.out).mono ?_); rintro e w' ⟨rfl, ⟨y5, rfl⟩⟩)))
          go_ret
          exact ⟨rfl, uB⟩
      · rw [if_neg q4] at hG
        obtain rfl := Option.some.inj hG
        have Q4 := Aside0.mk (show (decide (l4.length ≤ 16384) && (ik || decide (l4.length = 0)) && wire_ints.f l4) = false from Bool.eq_false_iff.mpr q4)
        clear q4 hG
        go_wp2_with (go_at_call 41; ((with_reducible refine (wire_list.ints A4 c4 l4 ik false _ (H4.out.below uB).C H4.out.le Q4.out).mono ?_); rintro e w' ⟨rfl, ⟨y4, rfl⟩⟩))
        go_ret
        exact ⟨rfl, uB⟩
theorem wire_ok_odd {x : Int} (h : wire_ok x = true) : wire_odd.f x = some false := by
  rw [wire_ints.odd]
  unfold wire_ok at h
  rw [h]
  rfl
theorem wire_Right.call7 (a0 a1 a2 a3 : Int) (A4 : Option Addr) (c4 : Nat) (l4 : List Int) (A5 : Option Addr) (c5 : Nat) (l5 : List Int) (A6 : Option Addr) (c6 : Nat) (l6 : List (List Int)) (r : Bool) (w : World) (h4 : Rd1 w A4 c4 l4) (h5 : Rd1 w A5 c5 l5) (h6 : Kd.C (Kd.slice 37 (Kd.int .u64)) w A6 l6.length l6 ∧ l6.length ≤ c6) (h : wire_Right.f a0 a1 a2 a3 l4 l5 l6 = some r) :
    Calls Try.prog 12 #[.agg #[.int .i64 a0, .int .i64 a1, .int .i64 a2, .int .i64 a3, .slice A4 l4.length c4, .slice A5 l5.length c5, .slice A6 l6.length c6]] w fun e w' => e = .returned (.bool r) ∧ Below w.heap.size w w' := by
  unfold wire_Right.f at h
  by_cases hc : 1 ≤ a0 ∧ a0 < 12 ∧ wire_ok a1 = true ∧ wire_ok a2 = true ∧ wire_ok a3 = true
  · rw [if_pos hc] at h
    obtain ⟨h0, h0', q1, q2, q3⟩ := hc
    obtain ⟨n, rfl⟩ := Int.eq_ofNat_of_zero_le (show 0 ≤ a0 by omega)
    rw [Int.toNat_natCast] at h
    obtain ⟨nk, ik, rk, tk⟩ : Int × Bool × Bool × Bool := wire_kindOf n
    exact wire_Right.good n (wire_kindOf n).1 (wire_kindOf n).2.1 (wire_kindOf n).2.2.1 (wire_kindOf n).2.2.2 a1 a2 a3 A4 c4 l4 A5 c5 l5 A6 c6 l6 w (by omega) (by omega) (wire_ok_odd q1) (wire_ok_odd q2) (wire_ok_odd q3) rfl r h h4 h5 h6
  · rw [if_neg hc] at h
    obtain rfl := Option.some.inj h
    exact wire_Right.bad a0 a1 a2 a3 A4 c4 l4 A5 c5 l5 A6 c6 l6 w hc
def IsBytes (w : World) (k : Nat) : Prop := ∃ cells, w.heap[k]? = some (.cells cells 5 (0, 0))
def Kp (w w' : World) (gb : Nat) : Prop := Kept w w' (fun k => k = gb ∨ IsBytes w k)
theorem Kp.of_below {w w' : World} (h : Below w.heap.size w w') (gb : Nat) : Kp w w' gb := Kept.of_below h _
theorem Kp.trans {w w1 w2 : World} {gb : Nat} (h : Kp w w1 gb) (k : Kp w1 w2 gb) : Kp w w2 gb := by
  refine ⟨Nat.le_trans h.1 k.1, fun i hi hn => ?_⟩
  have e1 := h.2 i hi hn
  refine (k.2 i (Nat.lt_of_lt_of_le hi h.1) (fun hs => hn ?_)).trans e1
  rcases hs with hs | ⟨cs, hs⟩
  · exact .inl hs
  · exact .inr ⟨cs, by rw [← e1]; exact hs⟩
theorem Kp.blk {w w' : World} {gb g t : Nat} {cs : Array Value} (h : Kp w w' gb) (hb : w.heap[g]? = some (.cells cs t (0, 0))) (hg : g ≠ gb) (ht : t ≠ 5) : w'.heap[g]? = some (.cells cs t (0, 0)) := by
  refine (h.2 g (blk_lt hb) (fun hs => ?_)).trans hb
  rcases hs with hs | ⟨cs', hs⟩
  · exact hg hs
  · rw [hb] at hs
    injection hs with hs
    injection hs with h1 h2
    exact ht h2
theorem Kp.set {w w1 : World} {gb : Nat} (h : Kp w w1 gb) (i : Nat) (u : Value) : Kp w (w1.setCell ⟨gb, i, none⟩ u) gb := Kept.setCell h (.inl (.inl rfl)) u
theorem Kp.grown {w w1 w2 : World} {gb base : Nat} {v : Value} {xs : List Int} {ok : Nat → Prop} (h : Kp w w1 gb) (hR : Kd.R (Kd.int .u8) 5 w1 base ok v xs) (hg : w1.grownBy w2 v.ownBlock) : Kp w w2 gb := by
  refine h.trans ⟨hg.size, fun i hi hn => hg.block i hi (fun he => hn (.inr ?_))⟩
  obtain ⟨_, _, _, q, hq, cells, hc⟩ := (Kd.R_bound hR).1 i he.symm
  have hq' : q = 5 := by
    rcases List.mem_cons.1 hq with h | h
    · exact h
    · exact absurd h (by simp [Kd.int, Kd.scalar])
  exact ⟨cells, by rw [hc, hq']⟩
def OutAt (w : World) (base gb : Nat) (xs : List Int) : Prop := ∃ v, w.heap[gb]? = some (.cells #[v] 27 (0, 0)) ∧ Kd.R (Kd.int .u8) 5 w base (fun _ => True) v xs
theorem OutAt.below {w w' : World} {base gb : Nat} {xs : List Int} (h : OutAt w base gb xs) (hb : Below w.heap.size w w') : OutAt w' base gb xs := by
  obtain ⟨v, h1, h2⟩ := h
  exact ⟨v, blk_below h1 hb, Kd.R_below h2 hb⟩
theorem OutAt.lt {w : World} {base gb : Nat} {xs : List Int} (h : OutAt w base gb xs) : gb < w.heap.size := by
  obtain ⟨v, h1, _⟩ := h
  exact blk_lt h1
theorem R_off1 {base g i : Nat} {ok : Nat → Prop} {v u : Value} {xs : List Int} {w : World} {t : Nat} {cs : Array Value} (h : Kd.R (Kd.int .u8) 5 w base ok v xs) (hb : w.heap[g]? = some (.cells cs t (0, 0))) (ht : 5 ≠ t) : Kd.R (Kd.int .u8) 5 (w.setCell ⟨g, i, none⟩ u) base ok v xs :=
  Kd.R_mono (Kd.R_far (p := ⟨g, i, none⟩) (Kd.R_types h hb (by intro q hq; rcases List.mem_cons.1 hq with e | e; rw [e]; exact ht; exact absurd e (by simp [Kd.int, Kd.scalar]))) (fun _ hk => hk.2) u) (fun _ hk => hk.1)
set_option maxHeartbeats 8000000 in
set_option maxRecDepth 100000 in
theorem wire_number.calls (k : Nat) (gb : Nat) (n : Int) (xs d : List Int) (w0 w : World) (hB : Below w0.heap.size w0 w) (hgb : w0.heap.size ≤ gb) (hO : OutAt w w0.heap.size gb xs) (h : codec_Number.f k (IntKind.u64.wrap n) = some d) (hl : xs.length + d.length < 140737488355328) :
    Calls Try.prog 13 #[.int .i64 n, .pointer (some ⟨gb, 0, none⟩)] w fun e w' => e = .returned (.tuple #[]) ∧ OutAt w' w0.heap.size gb (xs ++ d) ∧ Below w0.heap.size w0 w' ∧ Kp w w' gb := by
  obtain ⟨v, hb1, hb2⟩ := hO
  have HB := Aside0.mk hB
  have BG := Aside0.mk hb1
  have HV := Aside0.mk hb2
  have HH := Aside0.mk h
  have HL := Aside0.mk hl
  have hs : w.cell? ⟨gb, 0, none⟩ = some v := (blk_cell hb1 0).trans rfl
  clear hB hb1 hb2 h hl
  go_enter Try.func13, Try.ntmps13
  refine start_ (n := 6) (S := fun w' => w'.cell? ⟨gb, 0, none⟩ = some v) (ds := [5]) (.replicate 6 false) (by kernel_rfl) rfl rfl hs (fun hHeld => ?_)
  replace HB := Aside0.mk (below_drew1 HB.out)
  replace BG := Aside0.mk (blk_drew BG.out)
  replace HV := Aside0.mk (Kd.R_drew HV.out)
  have HK := Aside0.mk (Kp.of_below (below_drew1 (Below.refl w.heap.size w)) gb)
  have hfz := blk_frozen BG.out 0
  clear hs
  generalize w.drew = w1 at HB BG HV HK hHeld hfz ⊢
  refine pure_ (i := 1) (N := some 4) (v := ?_) (a' := ?_) (uA 6 2) rfl rfl (by kernel_rfl) (fun _ _ _ h => h) (Or.inl ⟨by rfl, ?_⟩) ?_ ?_
  rotate_left
  · intro w'
    go_simp
    with_reducible rfl
  rotate_left
  · exact uQ
  refine pure_ (i := 2) (N := some 5) (v := ?_) (a' := ?_) (uA 6 6) rfl rfl (by kernel_rfl) (fun _ _ _ h => h) (Or.inl ⟨by rfl, ?_⟩) ?_ ?_
  rotate_left
  · intro w'
    go_simp
    with_reducible rfl
  rotate_left
  · exact uQ
  refine take_ (i := 0) (N := some 3) (v := ?_) (a' := ?_) (uA 6 7) rfl rfl (by kernel_rfl) (fun _ _ _ h => h) (Or.inl ⟨by rfl, ?_⟩) hHeld ?_ ?_
  rotate_left
  · rintro w' s0
    go_simp
    with_reducible rfl
  rotate_left
  · exact uQ
  refine one_ (i := 3) (N := some 6) (uA 6 15) rfl rfl (by kernel_rfl) (by decide) (fun K hK => ?_)
  refine goes_ Try.func14 (by kernel_rfl) rfl #[.int .u64 (IntKind.u64.wrap n)] (by rfl) rfl rfl uM ?_
  refine (codec_Number.calls k (IntKind.u64.wrap n) d _ HH.out).mono ?_
  rintro e w2 ⟨v2, rfl, ho, hb⟩
  refine ⟨_, rfl, ?_⟩
  obtain ⟨A2, c2, e2⟩ := Kd.R_slice ho
  subst e2
  have HO := Aside0.mk ho
  replace HB := Aside0.mk (below_step HB.out hb)
  replace BG := Aside0.mk (blk_below BG.out hb)
  have HLT := Aside0.mk (Kd.R_lt HV.out)
  replace HV := Aside0.mk (Kd.R_below HV.out hb)
  replace HK := Aside0.mk (HK.out.trans (Kp.of_below hb gb))
  clear ho hb hfz
  refine hK.out _ _ ((blk_cell BG.out 0).trans rfl) (fun hHeld => ?_)
  clear hK K
  refine norm_ (a' := ?_) ?_ ?_; rotate_left
  · exact uQ
  refine one_ (i := 4) (N := some 7) (uA 6 31) rfl rfl (by kernel_rfl) (by decide) (fun K hK => ?_)
  refine Kd.R_append_rows_step (Kd.int .u8) (w0 := w0) w0.heap.size (by rfl) (.tmp 3) (.tmp 6) 27 5 (.int .u8 0) 1 rfl Try.underlying27 info5 rfl (by decide) (by omega) v xs d A2 d.length c2 (fun k_ => some k_ ≠ (.slice A2 d.length c2 : Value).ownBlock) (fun _ => False) rfl rfl ?aO ?aR (fun _ _ h => h) (fun _ h => h.elim) ?aF ?aB ?aS ?aL ?_
  case aR => exact (Kd.R_reads' HO.out).2.2
  case aB => exact HB.out
  case aF => exact fun k_ hk he => by have := Kd.R_lt HO.out k_ he.symm; omega
  case aO => exact Kd.R_mono (Kd.R_tight rfl HV.out) (fun k_ hk he => by have h1 := HLT.out k_ hk.symm; have h2 := Kd.R_base HO.out k_ he.symm; omega)
  case aS => exact below_size HB.out
  case aL => have := HL.out; omega
  intro v3 w3 ho hb hg hat
  obtain ⟨A3, c3, e3⟩ := Kd.R_slice ho
  subst e3
  have HO3 := Aside0.mk ho
  have BG3 := Aside0.mk (blk_grown BG.out hg (fun he => by obtain ⟨_, _, _, q, hq, cells, hc⟩ := (Kd.R_bound HV.out).1 gb he.symm; rw [BG.out] at hc; injection hc with hc; injection hc with _ hq2; subst hq2; rcases List.mem_cons.1 hq with h | h; exact absurd h (by decide); exact absurd h (by simp [Kd.int, Kd.scalar])))
  have HK3 := Aside0.mk (HK.out.grown HV.out hg)
  have HB3 := Aside0.mk hb
  clear ho hb hg hat HB HK HV BG HO HLT
  refine hK.out _ _ ((blk_cell BG3.out 0).trans rfl) (fun hHeld => ?_)
  clear hK K
  refine norm_ (a' := ?_) ?_ ?_; rotate_left
  · exact uQ
  have hs3 : w3.cell? ⟨gb, 0, none⟩ = some v := (blk_cell BG3.out 0).trans rfl
  have hf3 := blk_frozen BG3.out 0
  refine last_ (i := 5) (N := none) (uA 6 63) rfl rfl (by kernel_rfl) (by decide) (fun K hK => ?_)
  refine skip_ (w1 := ?_) (by rfl) rfl ?_ ?_
  rotate_left
  · go_simp
    rfl
  refine hK.out _ _ ?_; clear hK K
  refine done_ (by kernel_rfl) ?_
  first | go_end0 | ((try simp only [Exit.inBlock, Exit.then]); refine bodyPost_ret (results_none rfl _ _ _) rfl ?_)
  have HO4 := HO3.out
  rw [List.length_append] at HO4
  exact ⟨rfl, ⟨_, blk_put (cs := #[v]) BG3.out 0 _ rfl, Kd.R_mono (R_off1 HO4 BG3.out (by decide)) (fun _ _ => trivial)⟩, HB3.out.setCell (p := ⟨gb, 0, none⟩) hgb _, HK3.out.set 0 _⟩
def wire_Encode.nums (k : Nat) : List Int → List Int → Option (List Int)
  | [], xs => some xs
  | n :: l, xs => (codec_Number.f k (IntKind.u64.wrap n)).bind fun d => if xs.length + d.length < 140737488355328 then wire_Encode.nums k l (xs ++ d) else none
def wire_Encode.lists (k : Nat) : List (List Int) → List Int → Option (List Int)
  | [], xs => some xs
  | l :: ls, xs => (wire_Encode.nums k ((l.length : Int) :: l) xs).bind fun ys => wire_Encode.lists k ls ys
def wire_Encode.nats (k : Nat) : List (List Int) → List Int → Option (List Int)
  | [], xs => some xs
  | a :: l, xs => (nat_Bytes.f k a).bind fun b => (codec_Bytes.f k b).bind fun d => if xs.length + d.length < 140737488355328 then wire_Encode.nats k l (xs ++ d) else none
def wire_Encode.f (k : Nat) (a0 a1 a2 a3 : Int) (l4 l5 : List Int) (l6 : List (List Int)) : Option (List Int × Int) :=
  (wire_Right.f a0 a1 a2 a3 l4 l5 l6).bind fun r => if r = true then ((wire_Encode.nums k [a0, a1, a2, a3] []).bind fun x1 => (wire_Encode.lists k [l4, l5] x1).bind fun x2 => (wire_Encode.nums k [(l6.length : Int)] x2).bind fun x3 => (wire_Encode.nats k l6 x3).bind fun x4 => some (if x4.length > 1048576 then ([], 16) else (x4, 0))) else some ([], 16)
theorem slice_event {P : Program} {ops : Array Oper} {rest : List Oper} {o : Oper} {a : Act} {Q : Exit → Act → World → Prop} {W : World} (hgd : o.guard = none) {N : Tmp} (_hd : o.dst = some N) {cs : Array Value} {t : TypeId} {n : Nat}
    (hrun : (execOp a.eval o).run P W = .ok (.value (.slice (some ⟨W.heap.size, 0, none⟩) n n)) (W.alloc (.cells cs t (0, 0))))
    (h : ∀ g, g = W.heap.size → ∀ w1, w1.heap[g]? = some (.cells cs t (0, 0)) → Below W.heap.size W w1 → wpList P ops Q rest (a.put o.dst (.slice (some ⟨g, 0, none⟩) n n)) w1) : wpList P ops Q (o :: rest) a W :=
  Kd.event_run hgd hrun (h _ rfl _ (blk_new W _) (below_alloc (Below.refl _ _) _))
theorem lit_get {L : List Int} {w : World} {g t : Nat} (h : w.heap[g]? = some (.cells (L.map (Value.int .i64)).toArray t (0, 0))) (i : Nat) (hi : i < L.length) : w.cell? ⟨g, i, none⟩ = some (.int .i64 (L.getD i 0)) := by
  rw [blk_cell h i]
  simp [List.getElem?_map, List.getElem?_eq_getElem hi, List.getD_eq_getElem?_getD]
theorem nums_drop {k : Nat} {L xs r : List Int} {i : Nat} (hi : i < L.length) (h : wire_Encode.nums k (L.drop i) xs = some r) : ∃ d, codec_Number.f k (IntKind.u64.wrap (L.getD i 0)) = some d ∧ xs.length + d.length < 140737488355328 ∧ wire_Encode.nums k (L.drop (i + 1)) (xs ++ d) = some r := by
  rw [List.drop_eq_getElem_cons hi, wire_Encode.nums] at h
  obtain ⟨d, h1, h2⟩ := Option.bind_eq_some_iff.mp h
  obtain ⟨c, h2⟩ := uT h2
  refine ⟨d, ?_, c, h2⟩
  rw [← h1, List.getD_eq_getElem?_getD, List.getElem?_eq_getElem hi]
  rfl
theorem nums_done {k : Nat} {L xs r : List Int} {i : Nat} (hi : ¬ i < L.length) (h : wire_Encode.nums k (L.drop i) xs = some r) : xs = r := by
  rw [List.drop_of_length_le (by omega), wire_Encode.nums] at h
  exact Option.some.inj h
theorem nats_drop {k : Nat} {L : List (List Int)} {xs r : List Int} {i : Nat} (hi : i < L.length) (h : wire_Encode.nats k (L.drop i) xs = some r) : ∃ b d, nat_Bytes.f k (L.getD i []) = some b ∧ codec_Bytes.f k b = some d ∧ xs.length + d.length < 140737488355328 ∧ wire_Encode.nats k (L.drop (i + 1)) (xs ++ d) = some r := by
  rw [List.drop_eq_getElem_cons hi, wire_Encode.nats] at h
  obtain ⟨b, h1, h2⟩ := Option.bind_eq_some_iff.mp h
  obtain ⟨d, h3, h2⟩ := Option.bind_eq_some_iff.mp h2
  obtain ⟨c, h2⟩ := uT h2
  refine ⟨b, d, ?_, h3, c, h2⟩
  rw [← h1, List.getD_eq_getElem?_getD, List.getElem?_eq_getElem hi]
  rfl
theorem not_bytes {w : World} {g t base : Nat} {cs : Array Value} {ok : Nat → Prop} {v : Value} {xs : List Int} (hb : w.heap[g]? = some (.cells cs t (0, 0))) (ht : t ≠ 5) (h : Kd.R (Kd.int .u8) 5 w base ok v xs) : some g ≠ v.ownBlock := by
  intro he
  obtain ⟨_, _, _, q, hq, cells, hc⟩ := (Kd.R_bound h).1 g he.symm
  rw [hb] at hc
  injection hc with hc
  injection hc with _ hq2
  subst hq2
  rcases List.mem_cons.1 hq with h | h
  · exact ht h
  · exact absurd h (by simp [Kd.int, Kd.scalar])
set_option maxHeartbeats 16000000 in
set_option maxRecDepth 100000 in
theorem wire_Encode.good (k : Nat) (a0 a1 a2 a3 : Int) (A4 : Option Addr) (c4 : Nat) (l4 : List Int) (A5 : Option Addr) (c5 : Nat) (l5 : List Int) (A6 : Option Addr) (c6 : Nat) (l6 : List (List Int)) (x1 x2 x3 x4 r1 : List Int) (r2 : Int) (w : World) (h4 : Rd1 w A4 c4 l4) (h5 : Rd1 w A5 c5 l5) (h6 : Kd.C (Kd.slice 37 (Kd.int .u64)) w A6 l6.length l6 ∧ l6.length ≤ c6) (hr : wire_Right.f a0 a1 a2 a3 l4 l5 l6 = some true) (e1 : wire_Encode.nums k [a0, a1, a2, a3] [] = some x1) (e2 : wire_Encode.lists k [l4, l5] x1 = some x2) (e3 : wire_Encode.nums k [(l6.length : Int)] x2 = some x3) (e4 : wire_Encode.nats k l6 x3 = some x4) (hres : (if x4.length > 1048576 then (([] : List Int), (16 : Int)) else (x4, 0)) = (r1, r2)) :
    Calls Try.prog 7 #[.agg #[.int .i64 a0, .int .i64 a1, .int .i64 a2, .int .i64 a3, .slice A4 l4.length c4, .slice A5 l5.length c5, .slice A6 l6.length c6]] w fun e w' => ∃ v0_ : Value, e = .returned (.tuple #[v0_, .int .i64 r2]) ∧ Kd.R (Kd.int .u8) 5 w' w.heap.size (fun _ => True) v0_ r1 ∧ Below w.heap.size w w' := by
  have HB := Aside0.mk (Below.refl w.heap.size w)
  have H4 := Aside0.mk h4
  have H5 := Aside0.mk h5
  have H6 := Aside0.mk h6
  have HR := Aside0.mk hr
  have E1 := Aside0.mk e1
  have E2 := Aside0.mk e2
  have E3 := Aside0.mk e3
  have E4 := Aside0.mk e4
  have HRES := Aside0.mk hres
  clear h4 h5 h6 hr e1 e2 e3 e4 hres
  go_enter Try.func7, Try.ntmps7
  go_wp2_with (first
    | ((with_reducible refine gate_dst (N := 1) rfl ?_); refine box_event ?hg (N := 1) ?hd (cs := #[.int .i64 a0, .int .i64 a1, .int .i64 a2, .int .i64 a3, .slice A4 l4.length c4, .slice A5 l5.length c5, .slice A6 l6.length c6]) (t := 25) ?hr ?_; (case hd => rfl); (case hg => rfl); (case hr => first | (go_simp; done) | (go_simp; rfl)); intro gm hg w1 hbox hb; have BM := Aside0.mk hbox; have HB1 := Aside0.mk (below_step HB.out hb); have hm0 := (blk_cell hbox 0).trans rfl; have hm1 := (blk_cell hbox 1).trans rfl; have hm2 := (blk_cell hbox 2).trans rfl; have hm3 := (blk_cell hbox 3).trans rfl; have hm4 := (blk_cell hbox 4).trans rfl; have hm5 := (blk_cell hbox 5).trans rfl; have hm6 := (blk_cell hbox 6).trans rfl; clear HB hb hbox hg)
    | (go_at_call 12; ((with_reducible refine (wire_Right.call7 a0 a1 a2 a3 A4 c4 l4 A5 c5 l5 A6 c6 l6 true _ (H4.out.below uB) (H5.out.below uB) ⟨Kd.C_below H6.out.1 uB, H6.out.2⟩ HR.out).mono ?_); rintro e w2 ⟨rfl, hb⟩; have BM2 := Aside0.mk (blk_below BM.out hb); have HB2 := Aside0.mk (below_step HB1.out hb); clear hm0 hm1 hm2 hm3 hm4 hm5 hm6 BM HB1 hb))
    | ((with_reducible refine gate_dst (N := 4) rfl ?_); refine box_event ?hg (N := 4) ?hd (cs := #[.slice none 0 0]) (t := 27) ?hr ?_; (case hd => rfl); (case hg => rfl); (case hr => first | (go_simp; done) | (go_simp; rfl)); intro gb hg w3 hbox hb; have HO3 := Aside0.mk (show OutAt w3 w.heap.size gb [] from ⟨_, hbox, Kd.R_nil _ _ _ _ _⟩); have BM3 := Aside0.mk (blk_below BM2.out hb); have HB3 := Aside0.mk (below_step HB2.out hb); have HGB := Aside0.mk (show w.heap.size ≤ gb from hg ▸ below_size HB2.out); have HMB := Aside0.mk (show gm ≠ gb from by rw [hg]; exact Nat.ne_of_lt (blk_lt BM2.out)); have hm0 := (blk_cell BM3.out 0).trans rfl; have hm1 := (blk_cell BM3.out 1).trans rfl; have hm2 := (blk_cell BM3.out 2).trans rfl; have hm3 := (blk_cell BM3.out 3).trans rfl; clear HB2 BM2 hb hbox hg)
    | ((with_reducible refine gate_dst (N := 26) rfl ?_); refine slice_event ?hg (N := 26) ?hd (cs := #[.int .i64 a0, .int .i64 a1, .int .i64 a2, .int .i64 a3]) (n := 4) (t := 3) ?hr ?_; (case hd => rfl); (case hg => rfl); (case hr => first | (go_simp; done) | (go_simp; rfl)); intro gl hg w4 hbox hb; have BL := Aside0.mk (show w4.heap[gl]? = some (.cells ([a0, a1, a2, a3].map (Value.int .i64)).toArray 3 (0, 0)) from hbox); have HO4 := Aside0.mk (HO3.out.below hb); have BM4 := Aside0.mk (blk_below BM3.out hb); have HB4 := Aside0.mk (below_step HB3.out hb); have HLB := Aside0.mk (show gl ≠ gb from by rw [hg]; exact Nat.ne_of_gt HO3.out.lt); clear hm0 hm1 hm2 hm3 HB3 BM3 HO3 hb hbox hg))
  go_loopg [28] 4 (fun gg v28 wr => ∃ (i : Nat) (xs : List Int), v28 = .int .i64 (i : Int) ∧ i ≤ 4 ∧ 4 - i ≤ gg ∧ Aside0 (wire_Encode.nums k ([a0, a1, a2, a3].drop i) xs = some x1) ∧ Aside0 (OutAt wr w.heap.size gb xs) ∧ Aside0 (wr.heap[gm]? = some (.cells #[.int .i64 a0, .int .i64 a1, .int .i64 a2, .int .i64 a3, .slice A4 l4.length c4, .slice A5 l5.length c5, .slice A6 l6.length c6] 25 (0, 0))) ∧ Aside0 (wr.heap[gl]? = some (.cells ([a0, a1, a2, a3].map (Value.int .i64)).toArray 3 (0, 0))) ∧ Aside0 (Below w.heap.size w wr))
  case atStart => exact ⟨0, [], rfl, by omega, by omega, E1, HO4, BM4, BL, HB4⟩
  case round =>
    clear BL HO4 BM4 HB4
    obtain ⟨i, xs, rfl, hi, hgg, HK, HO5, BM5, BL5, HB5⟩ := hrel
    by_cases hlt : i < 4
    · have hltz : (i : Int) < 4 := by omega
      have h0z : (0 : Int) ≤ (i : Int) := by omega
      obtain ⟨d, hd, hl, hK⟩ := nums_drop (by simp; omega) HK.out
      have hcl := lit_get BL5.out i (by simp; omega)
      generalize [a0, a1, a2, a3].getD i 0 = x at hcl hd
      have HD := Aside0.mk hd
      have HL := Aside0.mk hl
      have HK6 := Aside0.mk hK
      clear hd hl hK HK
      go_wp2_with (go_at_call 13; refine (wire_number.calls k gb x xs d w _ uB HGB.out (HO5.out.below (by repeat (first | exact Below.refl _ _ | apply pw_below_drewN))) HD.out HL.out).mono ?_; rintro e w6 ⟨rfl, hO_, hb_, hk_⟩; have HO6 := Aside0.mk hO_; have HB6 := Aside0.mk hb_; have BM6 := Aside0.mk (hk_.blk BM5.out HMB.out (by decide)); have BL6 := Aside0.mk (hk_.blk BL5.out HLB.out (by decide)); clear HO5 HB5 BM5 BL5 hcl; clear hO_ hb_ hk_)
      go_roundg (4 - (i + 1))
      case measure => omega
      case rel => exact ⟨i + 1, xs ++ d, by go_num, by omega, by omega, HK6, HO6, BM6, BL6, HB6⟩
    · have hltz : ¬ (i : Int) < 4 := by omega
      obtain rfl := nums_done (by simp; omega) HK.out
      have hm4 := (blk_cell BM5.out 4).trans rfl
      have hm5 := (blk_cell BM5.out 5).trans rfl
      clear HK BL5 E1
      go_wp2_with (first
        | ((with_reducible refine gate_dst (N := 40) rfl ?_); refine slice_event ?hg (N := 40) ?hd (cs := #[.slice A4 l4.length c4, .slice A5 l5.length c5]) (n := 2) (t := 22) ?hr ?_; (case hd => rfl); (case hg => rfl); (case hr => first | (go_simp; done) | (go_simp; rfl)); intro gs hg w6 hbox hb; have BS := Aside0.mk hbox; have HO6 := Aside0.mk (HO5.out.below hb); have BM6 := Aside0.mk (blk_below BM5.out hb); have HB6 := Aside0.mk (below_step HB5.out hb); have HSB := Aside0.mk (show gs ≠ gb from by rw [hg]; exact Nat.ne_of_gt HO5.out.lt); clear hm4 hm5 HB5 BM5 HO5 hb hbox hg))
      go_loopg [42] 2 (fun gg v42 wr => ∃ (q : Nat) (xs : List Int), v42 = .int .i64 (q : Int) ∧ q ≤ 2 ∧ 2 - q ≤ gg ∧ Aside0 (wire_Encode.lists k ([l4, l5].drop q) xs = some x2) ∧ Aside0 (OutAt wr w.heap.size gb xs) ∧ Aside0 (wr.heap[gm]? = some (.cells #[.int .i64 a0, .int .i64 a1, .int .i64 a2, .int .i64 a3, .slice A4 l4.length c4, .slice A5 l5.length c5, .slice A6 l6.length c6] 25 (0, 0))) ∧ Aside0 (wr.heap[gs]? = some (.cells #[.slice A4 l4.length c4, .slice A5 l5.length c5] 22 (0, 0))) ∧ Aside0 (Below w.heap.size w wr))
      case atStart => exact ⟨0, xs, rfl, by omega, by omega, E2, HO6, BM6, BS, HB6⟩
      case round =>
        clear BS HO6 BM6 HB6
        obtain ⟨q, ys, rfl, hq, hgq, HK, HO7, BM7, BS7, HB7⟩ := hrel
        by_cases hlq : q < 2
        · have hlqz : (q : Int) < 2 := by omega
          have h0q : (0 : Int) ≤ (q : Int) := by omega
          obtain ⟨Aq, cq, lq, hcq, hrq, hdq⟩ : ∃ (Aq : Option Addr) (cq : Nat) (lq : List Int), (#[Value.slice A4 l4.length c4, .slice A5 l5.length c5] : Array Value)[q]? = some (.slice Aq lq.length cq) ∧ Rd1 w Aq cq lq ∧ [l4, l5].drop q = lq :: [l4, l5].drop (q + 1) := by
            match q, hlq with
            | 0, _ => exact ⟨A4, c4, l4, rfl, H4.out, rfl⟩
            | 1, _ => exact ⟨A5, c5, l5, rfl, H5.out, rfl⟩
          have hcl := (blk_cell BS7.out q).trans hcq
          have hK := HK.out
          rw [hdq, wire_Encode.lists] at hK
          obtain ⟨zs, hz, hK⟩ := Option.bind_eq_some_iff.mp hK
          obtain ⟨d, hd, hl, hz⟩ := nums_drop (L := (lq.length : Int) :: lq) (i := 0) (by simp) hz
          have hd : codec_Number.f k (IntKind.u64.wrap (lq.length : Int)) = some d := hd
          have HD := Aside0.mk hd
          have HL := Aside0.mk hl
          have HZ := Aside0.mk (show wire_Encode.nums k (lq.drop 0) (ys ++ d) = some zs from hz)
          have HRQ := Aside0.mk hrq
          have HK8 := Aside0.mk hK
          clear hd hl hK HK hz hrq hcq hdq
          go_wp2_with (go_at_call 13; refine (wire_number.calls k gb (lq.length : Int) ys d w _ uB HGB.out (HO7.out.below (by repeat (first | exact Below.refl _ _ | apply pw_below_drewN))) HD.out HL.out).mono ?_; rintro e w8 ⟨rfl, hO_, hb_, hk_⟩; have HO8 := Aside0.mk hO_; have HB8 := Aside0.mk hb_; have BM8 := Aside0.mk (hk_.blk BM7.out HMB.out (by decide)); have BS8 := Aside0.mk (hk_.blk BS7.out HSB.out (by decide)); clear HO7 HB7 BM7 BS7 hcl; clear hO_ hb_ hk_)
          go_loopg [52] lq.length (fun gg v52 wr => ∃ (j : Nat) (xs : List Int), v52 = .int .i64 (j : Int) ∧ j ≤ lq.length ∧ lq.length - j ≤ gg ∧ Aside0 (wire_Encode.nums k (lq.drop j) xs = some zs) ∧ Aside0 (OutAt wr w.heap.size gb xs) ∧ Aside0 (wr.heap[gm]? = some (.cells #[.int .i64 a0, .int .i64 a1, .int .i64 a2, .int .i64 a3, .slice A4 l4.length c4, .slice A5 l5.length c5, .slice A6 l6.length c6] 25 (0, 0))) ∧ Aside0 (wr.heap[gs]? = some (.cells #[.slice A4 l4.length c4, .slice A5 l5.length c5] 22 (0, 0))) ∧ Aside0 (Below w.heap.size w wr))
          case atStart => exact ⟨0, ys ++ d, rfl, by omega, by omega, HZ, HO8, BM8, BS8, HB8⟩
          case round =>
            clear BS8 HO8 BM8 HB8 HZ
            obtain ⟨j, us, rfl, hj, hgj, HK, HO9, BM9, BS9, HB9⟩ := hrel
            by_cases hlj : j < lq.length
            · have hljz : (j : Int) < (lq.length : Int) := by omega
              have h0j : (0 : Int) ≤ (j : Int) := by omega
              have hbig : lq.length ≤ 9223372036854775807 := HRQ.out.C.2.1
              obtain ⟨d2, hd, hl, hK⟩ := nums_drop hlj HK.out
              obtain ⟨ad, hA, hcl⟩ := Kd.at_int (HRQ.out.below HB9.out).C (j : Int) h0j hljz
              subst hA
              simp only [Go.IntWalk.toNatUp] at hcl
              rw [show rd lq (j : Int) = lq.getD j 0 from rfl] at hcl
              generalize lq.getD j 0 = x at hcl hd
              have HD2 := Aside0.mk hd
              have HL2 := Aside0.mk hl
              have HK10 := Aside0.mk hK
              clear hd hl hK HK
              go_wp2_with (go_at_call 13; refine (wire_number.calls k gb x us d2 w _ uB HGB.out (HO9.out.below (by repeat (first | exact Below.refl _ _ | apply pw_below_drewN))) HD2.out HL2.out).mono ?_; rintro e w10 ⟨rfl, hO_, hb_, hk_⟩; have HO10 := Aside0.mk hO_; have HB10 := Aside0.mk hb_; have BM10 := Aside0.mk (hk_.blk BM9.out HMB.out (by decide)); have BS10 := Aside0.mk (hk_.blk BS9.out HSB.out (by decide)); clear HO9 HB9 BM9 BS9 hcl; clear hO_ hb_ hk_)
              go_roundg (lq.length - (j + 1))
              case measure => omega
              case rel => exact ⟨j + 1, us ++ d2, by go_num, by omega, by omega, HK10, HO10, BM10, BS10, HB10⟩
            · have hljz : ¬ (j : Int) < (lq.length : Int) := by omega
              obtain rfl := nums_done hlj HK.out
              clear HK
              go_wp2
              go_roundg (2 - (q + 1))
              case measure => omega
              case rel => exact ⟨q + 1, us, by go_num, by omega, by omega, HK8, HO9, BM9, BS9, HB9⟩
        · have hlqz : ¬ (q : Int) < 2 := by omega
          obtain rfl : ys = x2 := by
            have hK := HK.out
            rw [List.drop_of_length_le (by simp; omega), wire_Encode.lists] at hK
            exact Option.some.inj hK
          obtain ⟨d, hd, hl, hz⟩ := nums_drop (L := [(l6.length : Int)]) (i := 0) (by simp) E3.out
          have hd : codec_Number.f k (IntKind.u64.wrap (l6.length : Int)) = some d := hd
          obtain rfl : ys ++ d = x3 := Option.some.inj hz
          have HD := Aside0.mk hd
          have HL := Aside0.mk hl
          have hm6 := (blk_cell BM7.out 6).trans rfl
          clear HK hd hl hz E2 E3 BS7
          go_wp2_with (go_at_call 13; refine (wire_number.calls k gb (l6.length : Int) ys d w _ uB HGB.out (HO7.out.below (by repeat (first | exact Below.refl _ _ | apply pw_below_drewN))) HD.out HL.out).mono ?_; rintro e w8 ⟨rfl, hO_, hb_, hk_⟩; have HO8 := Aside0.mk hO_; have HB8 := Aside0.mk hb_; have BM8 := Aside0.mk (hk_.blk BM7.out HMB.out (by decide)); clear HO7 HB7 BM7 hm6; have hm6 := (blk_cell BM8.out 6).trans rfl; clear hO_ hb_ hk_)
          go_loopg [69] l6.length (fun gg v69 wr => ∃ (i : Nat) (xs : List Int), v69 = .int .i64 (i : Int) ∧ i ≤ l6.length ∧ l6.length - i ≤ gg ∧ Aside0 (wire_Encode.nats k (l6.drop i) xs = some x4) ∧ Aside0 (OutAt wr w.heap.size gb xs) ∧ Aside0 (Below w.heap.size w wr))
          case atStart => exact ⟨0, ys ++ d, rfl, by omega, by omega, E4, HO8, HB8⟩
          case round =>
            clear HO8 BM8 HB8 E4 hm6
            obtain ⟨i, xs, rfl, hi, hgg, HK, HO9, HB9⟩ := hrel
            by_cases hlt : i < l6.length
            · have hltz : (i : Int) < (l6.length : Int) := by omega
              have h0z : (0 : Int) ≤ (i : Int) := by omega
              have hbig : l6.length ≤ 9223372036854775807 := H6.out.1.2.1
              obtain ⟨b, d2, hb, hd, hl, hK⟩ := nats_drop hlt HK.out
              obtain ⟨ad, c, hA, _, hKK, hc⟩ := Kd.C_get (Kd.C_below H6.out.1 HB9.out) ([] : List Int) (i : Int) h0z hltz
              obtain ⟨Ae, ce, rfl, hle, hie⟩ := hKK
              subst hA
              have hcl := hc 0 _ rfl
              rw [Nat.add_zero, show (Kd.slice 37 (Kd.int .u64)).sz = 1 from rfl, Nat.mul_one] at hcl
              simp only [Go.IntWalk.toNatUp] at hcl hle hie
              generalize l6.getD i [] = x at hcl hle hie hb
              have HE := Aside0.mk (And.intro hie hle)
              have HBB := Aside0.mk hb
              have HD2 := Aside0.mk hd
              have HL2 := Aside0.mk hl
              have HK10 := Aside0.mk hK
              obtain ⟨v, hb1, hb2⟩ := HO9.out
              have hs : wr.cell? ⟨gb, 0, none⟩ = some v := (blk_cell hb1 0).trans rfl
              have BG := Aside0.mk (blk_drew hb1)
              have HV := Aside0.mk (Kd.R_drew hb2)
              have HBd := Aside0.mk (below_drew1 HB9.out)
              have HLT := Aside0.mk (Kd.R_lt HV.out)
              replace HE := Aside0.mk (And.intro (Kd.C_below HE.out.1 (below_drew1 (Below.refl wr.heap.size wr))) HE.out.2)
              clear hb hd hl hK HK hie hle hc hb1 hb2 HO9
              go_wp2
              refine start_ (n := 6) (S := fun w' => w'.cell? ⟨gb, 0, none⟩ = some v) (ds := [5]) (.replicate 6 false) (by kernel_rfl) rfl rfl hs (fun hHeld => ?_)
              clear hs hcl
              generalize wr.drew = w9 at BG HV HBd HE HLT hHeld ⊢
              refine pure_ (i := 1) (N := some 74) (v := ?_) (a' := ?_) (uA 6 2) rfl rfl (by kernel_rfl) (fun _ _ _ h => h) (Or.inl ⟨by rfl, ?_⟩) ?_ ?_
              rotate_left
              · intro w'
                go_simp
                with_reducible rfl
              rotate_left
              · exact uQ
              refine take_ (i := 0) (N := some 73) (v := ?_) (a' := ?_) (uA 6 3) rfl rfl (by kernel_rfl) (fun _ _ _ h => h) (Or.inl ⟨by rfl, ?_⟩) hHeld ?_ ?_
              rotate_left
              · rintro w' s0
                go_simp
                with_reducible rfl
              rotate_left
              · exact uQ
              refine one_ (i := 2) (N := some 75) (uA 6 7) rfl rfl (by kernel_rfl) (by decide) (fun K hK => ?_)
              refine goes_ Try.func16 (by kernel_rfl) rfl #[.slice Ae x.length ce] (by rfl) rfl rfl uM ?_
              refine (nat_Bytes.calls k Ae ce x b _ HE.out.1 HE.out.2 HBB.out).mono ?_
              rintro e w10 ⟨v2, rfl, ho, hb⟩
              refine ⟨_, rfl, ?_⟩
              obtain ⟨A2, c2, e2⟩ := Kd.R_slice ho
              subst e2
              have HO2 := Aside0.mk ho
              have HB10 := Aside0.mk (below_step HBd.out hb)
              have BG10 := Aside0.mk (blk_below BG.out hb)
              have HV10 := Aside0.mk (Kd.R_below HV.out hb)
              have HLE := Aside0.mk (below_size hb)
              clear ho hb HBd BG HV
              refine hK.out _ _ ((blk_cell BG10.out 0).trans rfl) (fun hHeld => ?_)
              clear hK K
              refine norm_ (a' := ?_) ?_ ?_; rotate_left
              · exact uQ
              refine one_ (i := 3) (N := some 76) (uA 6 15) rfl rfl (by kernel_rfl) (by decide) (fun K hK => ?_)
              refine goes_ Try.func15 (by kernel_rfl) rfl #[.slice A2 b.length c2] (by rfl) rfl rfl uM ?_
              refine (codec_Bytes.calls k A2 c2 b d2 _ (Kd.R_reads' HO2.out).2.2 (Kd.R_reads' HO2.out).2.1 HD2.out).mono ?_
              rintro e w11 ⟨v3, rfl, ho, hb⟩
              refine ⟨_, rfl, ?_⟩
              obtain ⟨A3, c3, e3⟩ := Kd.R_slice ho
              subst e3
              have HO3 := Aside0.mk ho
              have HB11 := Aside0.mk (below_step HB10.out hb)
              have BG11 := Aside0.mk (blk_below BG10.out hb)
              have HV11 := Aside0.mk (Kd.R_below HV10.out hb)
              clear ho hb HB10 BG10 HV10 HO2
              refine hK.out _ _ ((blk_cell BG11.out 0).trans rfl) (fun hHeld => ?_)
              clear hK K
              refine norm_ (a' := ?_) ?_ ?_; rotate_left
              · exact uQ
              refine one_ (i := 4) (N := some 77) (uA 6 31) rfl rfl (by kernel_rfl) (by decide) (fun K hK => ?_)
              refine Kd.R_append_rows_step (Kd.int .u8) (w0 := w) w.heap.size (by rfl) (.tmp 73) (.tmp 76) 27 5 (.int .u8 0) 1 rfl Try.underlying27 info5 rfl (by decide) (by omega) v xs d2 A3 d2.length c3 (fun k_ => some k_ ≠ (.slice A3 d2.length c3 : Value).ownBlock) (fun _ => False) rfl rfl ?aO ?aR (fun _ _ h => h) (fun _ h => h.elim) ?aF ?aB ?aS ?aL ?_
              case aR => exact (Kd.R_reads' HO3.out).2.2
              case aB => exact HB11.out
              case aF => exact fun k_ hk he => by have := Kd.R_lt HO3.out k_ he.symm; omega
              case aO => exact Kd.R_mono (Kd.R_tight rfl HV11.out) (fun k_ hk he => by have h1 := HLT.out k_ hk.symm; have h2 := Kd.R_base HO3.out k_ he.symm; have h3 := HLE.out; omega)
              case aS => exact below_size HB11.out
              case aL => have := HL2.out; omega
              intro v4 w12 ho hb hg hat
              obtain ⟨A4', c4', e4⟩ := Kd.R_slice ho
              subst e4
              have HO4 := Aside0.mk ho
              have BG12 := Aside0.mk (blk_grown BG11.out hg (not_bytes BG11.out (by decide) HV11.out))
              have HB12 := Aside0.mk hb
              clear ho hb hg hat HB11 HV11 BG11 HO3 HLT HLE
              refine hK.out _ _ ((blk_cell BG12.out 0).trans rfl) (fun hHeld => ?_)
              clear hK K
              refine norm_ (a' := ?_) ?_ ?_; rotate_left
              · exact uQ
              have hs3 : w12.cell? ⟨gb, 0, none⟩ = some v := (blk_cell BG12.out 0).trans rfl
              have hf3 := blk_frozen BG12.out 0
              refine last_ (i := 5) (N := none) (uA 6 63) rfl rfl (by kernel_rfl) (by decide) (fun K hK => ?_)
              refine skip_ (w1 := ?_) (by rfl) rfl ?_ ?_
              rotate_left
              · go_simp
                rfl
              refine hK.out _ _ ?_; clear hK K
              refine done_ (by kernel_rfl) ?_
              clear hs3 hf3
              go_wp2
              go_roundg (l6.length - (i + 1))
              case measure => omega
              case rel =>
                have HO5 := HO4.out
                rw [List.length_append] at HO5
                exact ⟨i + 1, xs ++ d2, by go_num, by omega, by omega, HK10, ⟨_, blk_put (cs := #[v]) BG12.out 0 _ rfl, Kd.R_mono (R_off1 HO5 BG12.out (by decide)) (fun _ _ => trivial)⟩, ⟨HB12.out.setCell (p := ⟨gb, 0, none⟩) HGB.out _⟩⟩
            · have hltz : ¬ (i : Int) < (l6.length : Int) := by omega
              obtain rfl : xs = x4 := by
                have hK := HK.out
                rw [List.drop_of_length_le (by omega), wire_Encode.nats] at hK
                exact Option.some.inj hK
              obtain ⟨v, hb1, hb2⟩ := HO9.out
              obtain ⟨Av, cv, ev⟩ := Kd.R_slice hb2
              subst ev
              have hs : wr.cell? ⟨gb, 0, none⟩ = some (.slice Av xs.length cv) := (blk_cell hb1 0).trans rfl
              have HV := Aside0.mk hb2
              clear HK hb1 hb2 HO9
              by_cases hbg : xs.length > 1048576
              · have hbz : decide ((1048576 : Int) < (xs.length : Int)) = true := decide_eq_true (by omega)
                have hres := HRES.out
                rw [if_pos hbg] at hres
                obtain ⟨rfl, rfl⟩ := Prod.mk.inj hres
                clear hbg hres HRES
                go_wp2
                go_ret2
                exact ⟨_, rfl, Kd.R_nil _ _ _ _ _, HB9.out⟩
              · have hbz : decide ((1048576 : Int) < (xs.length : Int)) = false := decide_eq_false (by omega)
                have hres := HRES.out
                rw [if_neg hbg] at hres
                obtain ⟨rfl, rfl⟩ := Prod.mk.inj hres
                clear hbg hres HRES
                go_wp2
                go_ret2
                exact ⟨_, rfl, HV.out, HB9.out⟩
set_option maxHeartbeats 8000000 in
set_option maxRecDepth 100000 in
theorem wire_Encode.bad (a0 a1 a2 a3 : Int) (A4 : Option Addr) (c4 : Nat) (l4 : List Int) (A5 : Option Addr) (c5 : Nat) (l5 : List Int) (A6 : Option Addr) (c6 : Nat) (l6 : List (List Int)) (w : World) (h4 : Rd1 w A4 c4 l4) (h5 : Rd1 w A5 c5 l5) (h6 : Kd.C (Kd.slice 37 (Kd.int .u64)) w A6 l6.length l6 ∧ l6.length ≤ c6) (hr : wire_Right.f a0 a1 a2 a3 l4 l5 l6 = some false) :
    Calls Try.prog 7 #[.agg #[.int .i64 a0, .int .i64 a1, .int .i64 a2, .int .i64 a3, .slice A4 l4.length c4, .slice A5 l5.length c5, .slice A6 l6.length c6]] w fun e w' => e = .returned (.tuple #[.slice none 0 0, .int .i64 16]) ∧ Below w.heap.size w w' := by
  have HB := Aside0.mk (Below.refl w.heap.size w)
  have H4 := Aside0.mk h4
  have H5 := Aside0.mk h5
  have H6 := Aside0.mk h6
  have HR := Aside0.mk hr
  clear h4 h5 h6 hr
  go_enter Try.func7, Try.ntmps7
  go_wp2_with (first
    | ((with_reducible refine gate_dst (N := 1) rfl ?_); refine box_event ?hg (N := 1) ?hd (cs := #[.int .i64 a0, .int .i64 a1, .int .i64 a2, .int .i64 a3, .slice A4 l4.length c4, .slice A5 l5.length c5, .slice A6 l6.length c6]) (t := 25) ?hr ?_; (case hd => rfl); (case hg => rfl); (case hr => first | (go_simp; done) | (go_simp; rfl)); intro gm hg w1 hbox hb; have BM := Aside0.mk hbox; have HB1 := Aside0.mk (below_step HB.out hb); have hm0 := (blk_cell hbox 0).trans rfl; have hm1 := (blk_cell hbox 1).trans rfl; have hm2 := (blk_cell hbox 2).trans rfl; have hm3 := (blk_cell hbox 3).trans rfl; have hm4 := (blk_cell hbox 4).trans rfl; have hm5 := (blk_cell hbox 5).trans rfl; have hm6 := (blk_cell hbox 6).trans rfl; clear HB hb hbox hg)
    | (go_at_call 12; ((with_reducible refine (wire_Right.call7 a0 a1 a2 a3 A4 c4 l4 A5 c5 l5 A6 c6 l6 false _ (H4.out.below uB) (H5.out.below uB) ⟨Kd.C_below H6.out.1 uB, H6.out.2⟩ HR.out).mono ?_); rintro e w2 ⟨rfl, hb⟩; have BM2 := Aside0.mk (blk_below BM.out hb); have HB2 := Aside0.mk (below_step HB1.out hb); clear hm0 hm1 hm2 hm3 hm4 hm5 hm6 BM HB1 hb)))
  go_ret2
  exact ⟨rfl, uB⟩
theorem wire_Encode.call7 (k : Nat) (a0 a1 a2 a3 : Int) (A4 : Option Addr) (c4 : Nat) (l4 : List Int) (A5 : Option Addr) (c5 : Nat) (l5 : List Int) (A6 : Option Addr) (c6 : Nat) (l6 : List (List Int)) (r1 : List Int) (r2 : Int) (w : World) (h4 : Rd1 w A4 c4 l4) (h5 : Rd1 w A5 c5 l5) (h6 : Kd.C (Kd.slice 37 (Kd.int .u64)) w A6 l6.length l6 ∧ l6.length ≤ c6) (h : wire_Encode.f k a0 a1 a2 a3 l4 l5 l6 = some (r1, r2)) :
    Calls Try.prog 7 #[.agg #[.int .i64 a0, .int .i64 a1, .int .i64 a2, .int .i64 a3, .slice A4 l4.length c4, .slice A5 l5.length c5, .slice A6 l6.length c6]] w fun e w' => ∃ v0_ : Value, e = .returned (.tuple #[v0_, .int .i64 r2]) ∧ Kd.R (Kd.int .u8) 5 w' w.heap.size (fun _ => True) v0_ r1 ∧ Below w.heap.size w w' := by
  unfold wire_Encode.f at h
  obtain ⟨r, hr, h⟩ := Option.bind_eq_some_iff.mp h
  cases r with
  | true =>
    rw [if_pos rfl] at h
    obtain ⟨x1, e1, h⟩ := Option.bind_eq_some_iff.mp h
    obtain ⟨x2, e2, h⟩ := Option.bind_eq_some_iff.mp h
    obtain ⟨x3, e3, h⟩ := Option.bind_eq_some_iff.mp h
    obtain ⟨x4, e4, h⟩ := Option.bind_eq_some_iff.mp h
    exact wire_Encode.good k a0 a1 a2 a3 A4 c4 l4 A5 c5 l5 A6 c6 l6 x1 x2 x3 x4 r1 r2 w h4 h5 h6 hr e1 e2 e3 e4 (Option.some.inj h)
  | false =>
    rw [if_neg (by decide)] at h
    obtain ⟨rfl, rfl⟩ := Prod.mk.inj (Option.some.inj h)
    refine (wire_Encode.bad a0 a1 a2 a3 A4 c4 l4 A5 c5 l5 A6 c6 l6 w h4 h5 h6 hr).mono ?_
    rintro e w' ⟨rfl, hb⟩
    exact ⟨_, rfl, Kd.R_nil _ _ _ _ _, hb⟩
theorem wire_Encode.calls (k : Nat) (a0 a1 a2 a3 : Int) (A4 : Option Addr) (c4 : Nat) (l4 : List Int) (A5 : Option Addr) (c5 : Nat) (l5 : List Int) (A6 : Option Addr) (c6 : Nat) (l6 : List (List Int)) (r1 : List Int) (r2 : Int) (w : World) (hr4 : Kd.C (Kd.int .i64) w A4 l4.length l4) (hc4 : l4.length ≤ c4) (hr5 : Kd.C (Kd.int .i64) w A5 l5.length l5) (hc5 : l5.length ≤ c5) (hr6 : Kd.C (Kd.slice 37 (Kd.int .u64)) w A6 l6.length l6) (hc6 : l6.length ≤ c6) (h : wire_Encode.f k a0 a1 a2 a3 l4 l5 l6 = some (r1, r2)) :
    Calls Try.prog 7 #[.agg #[.int .i64 a0, .int .i64 a1, .int .i64 a2, .int .i64 a3, .slice A4 l4.length c4, .slice A5 l5.length c5, .slice A6 l6.length c6]] w fun e w' => ∃ v0_ : Value, e = .returned (.tuple #[v0_, .int .i64 r2]) ∧ Kd.R (Kd.int .u8) 5 w' w.heap.size (fun _ => True) v0_ r1 ∧ Below w.heap.size w w' :=
  wire_Encode.call7 k a0 a1 a2 a3 A4 c4 l4 A5 c5 l5 A6 c6 l6 r1 r2 w ⟨hr4, hc4⟩ ⟨hr5, hc5⟩ ⟨hr6, hc6⟩ h
end Go.Proofs.Ytanmfddlncdncab.F
end
section
namespace Go.Proofs.Ytanmfddlncdncab.F
open Go.RowKit Go.Proofs.YtanmfddlncdncabW.PrintWords Go.Proofs.YtanmfddlncdncabW.PrintLast Go.Proofs.YtanmfddlncdncabW.PrintMore
attribute [local go_sem] max2_int min2_int max_two min_two max_three min_three max_four min_four
set_option linter.unusedVariables false
set_option linter.unusedSimpArgs false
def nat_Read.l0 : Nat → List Int → List Int → Int → Int → Option (List Int × Int)
 | 0, _, _, _, _ => none
 | k + 1, x0, x5, x23, x24 => if x24 < x23 then (if 0 ≤ (wrap64 (Int.tdiv x24 8)) then (if (wrap64 (Int.tdiv x24 8)) < (x5.length : Int) then (if 0 ≤ (wrap64 ((wrap64 ((x0.length : Int) - 1)) - x24)) then (if (wrap64 ((wrap64 ((x0.length : Int) - 1)) - x24)) < (x0.length : Int) then (if 0 ≤ (wrap64 (8 * (Int.tmod x24 8))) then (nat_Read.l0 k x0 (x5.set ((wrap64 (Int.tdiv x24 8)) : Int).toNat (Go.bits .or .u64 (rd x5 (wrap64 (Int.tdiv x24 8))) (shl .u64 (IntKind.u64.wrap (rd x0 (wrap64 ((wrap64 ((x0.length : Int) - 1)) - x24)))) (wrap64 (8 * (Int.tmod x24 8)))))) x23 (wrap64 (x24 + 1))) else (none)) else (none)) else (none)) else (none)) else (none)) else ((nat_told.f k x5).bind fun bt271 => (some (bt271.1, bt271.2)))
def nat_Read.f (k : Nat) (l0 : List Int) : Option (List Int × Int) := (nat_Read_ix.f l0).bind fun t263 => (if t263 < 0 then (some (([] : List Int), 0)) else (if 0 ≤ t263 then (if t263 ≤ (l0.length : Int) then (if ((l0.drop (t263 : Int).toNat).length : Int) > 512 then (some (([] : List Int), 4)) else (if 0 ≤ (wrap64 (Int.tdiv (wrap64 (((l0.drop (t263 : Int).toNat).length : Int) + 7)) 8)) then (if (wrap64 (Int.tdiv (wrap64 (((l0.drop (t263 : Int).toNat).length : Int) + 7)) 8) : Int).toNat ≤ 35184372088832 then (nat_Read.l0 k (l0.drop (t263 : Int).toNat) (List.replicate (wrap64 (Int.tdiv (wrap64 (((l0.drop (t263 : Int).toNat).length : Int) + 7)) 8) : Int).toNat 0) ((l0.drop (t263 : Int).toNat).length : Int) 0) else (none)) else (none))) else (none)) else (none)))
def nat_Read.T11 : Bool × List (List Nat × List Nat) := (true, [([], []), ([], []), ([1], [1]), ([0, 2], [0, 2]), ([3], [3]), ([], []), ([], []), ([6], [6]), ([7], [7]), ([], []), ([8, 9], [8, 9]), ([5, 10], [5, 10]), ([11], [11]), ([12], [12]), ([], []), ([14], [14]), ([15], [15]), ([13, 16], [13, 16]), ([4, 17], [4, 17]), ([0, 2, 0, 1, 2, 3, 4, 5, 6, 7, 8, 9, 10, 11, 12, 13, 14, 15, 16, 17, 18], [0, 2]), ([19, 18, 0, 1, 2, 3, 4, 5, 6, 7, 8, 9, 10, 11, 12, 13, 14, 15, 16, 17, 18], [18, 19])])
def nat_Read.B11 : List Nat := [0, 0, 2, 7, 15, 0, 0, 64, 192, 0, 960, 2016, 4064, 8160, 0, 16384, 49152, 131040, 262143, 524287, 1048575]
theorem nat_Read.tab11 : rtab .any (opsOf Try.f27 11) = nat_Read.T11 := by kernel_rfl
theorem nat_Read.bits11 : waitsOk nat_Read.T11.2 nat_Read.B11 = true := by kernel_rfl
set_option maxHeartbeats 8000000 in
set_option maxRecDepth 100000 in
theorem nat_Read.calls (k : Nat) (A0 : Option Addr) (c0 : Nat) (l0 : List Int) (r1 : List Int) (r2 : Int) (w : World) (hr0 : Kd.C (Kd.int .u8) w A0 l0.length l0) (hc0 : l0.length ≤ c0) (h : nat_Read.f k l0 = some (r1, r2)) :
  Calls Try.prog 27 #[.slice A0 l0.length c0] w fun e w' => ∃ v0_ : Value, e = .returned (.tuple #[v0_, .int .i64 r2]) ∧ Kd.R (Kd.int .u64) 37 w' w.heap.size (fun _ => True) v0_ r1 ∧ Below w.heap.size w w' := by
 have HR0 := Aside0.mk hr0; have HC0 := Aside0.mk hc0; clear hr0 hc0
 have HB := Aside0.mk (Below.refl w.heap.size w)
 have H : ((nat_Read_ix.f l0).bind fun t263 => (if t263 < 0 then (some (([] : List Int), 0)) else (if 0 ≤ t263 then (if t263 ≤ (l0.length : Int) then (if ((l0.drop (t263 : Int).toNat).length : Int) > 512 then (some (([] : List Int), 4)) else (if 0 ≤ (wrap64 (Int.tdiv (wrap64 (((l0.drop (t263 : Int).toNat).length : Int) + 7)) 8)) then (if (wrap64 (Int.tdiv (wrap64 (((l0.drop (t263 : Int).toNat).length : Int) + 7)) 8) : Int).toNat ≤ 35184372088832 then (nat_Read.l0 k (l0.drop (t263 : Int).toNat) (List.replicate (wrap64 (Int.tdiv (wrap64 (((l0.drop (t263 : Int).toNat).length : Int) + 7)) 8) : Int).toNat 0) ((l0.drop (t263 : Int).toNat).length : Int) 0) else (none)) else (none))) else (none)) else (none)))) = some (r1, r2) := h
 clear h
 replace H := ub H; obtain ⟨t263, A2, H⟩ := H
 by_cases c3 : t263 < 0
 ·
  rw [if_pos c3] at H
  have c3b0 : decide (t263 < 0) = true := decide_eq_true c3
  clear c3
  simp only [Option.some.injEq, Prod.mk.injEq] at H
  obtain ⟨rfl, rfl⟩ := H
  go_enter Try.func27, Try.ntmps27
  go_wp2_with (first | ((with_reducible refine gate_callee (f := 49) rfl ?_); refine goesL_ (some 8) rfl rfl Try.func49 (by kernel_rfl) rfl #[.slice A0 l0.length c0, .func (.func 50) #[] #[]] rfl uM ?_; (with_reducible refine (nat_Read_ix.calls _ _ l0 t263 _ ?side1 ?side2 A2.out).mono ?_); (case side1 => exact uC HR0.out); (case side2 => exact HC0.out); rintro e w' ⟨rfl, ⟨nd, rfl⟩⟩; refine ⟨_, rfl, ?_⟩))
  go_ret2
  exact ⟨_, by first | rfl | (simp [errW_none, errW_some] <;> rfl) | (simp [*, errW_none, errW_some] <;> rfl), by first | exact Kd.R_nil _ _ _ _ _ | exact Kd.N_nil _ _ _ _ _ | exact Kd.V_nil _ _ _ _ _ | exact Kd.Q_nil _ _ _ _ _ | exact Kd.S_nil _ _ _ _ _, uB⟩
 rw [if_neg c3] at H
 have c3b0 : decide (t263 < 0) = false := decide_eq_false c3
 clear c3
 replace H := uT H; obtain ⟨c4, H⟩ := H
 have c4b0 := eq_true c4
 have c4b1 : decide (0 ≤ t263) = true := decide_eq_true c4
 clear c4
 replace H := uT H; obtain ⟨c5, H⟩ := H
 have c5b0 := eq_true c5
 have c5b1 : decide (t263 ≤ (l0.length : Int)) = true := decide_eq_true c5
 clear c5
 by_cases c6 : ((l0.drop (t263 : Int).toNat).length : Int) > 512
 ·
  rw [if_pos c6] at H
  have c6b0 : decide (512 < ((l0.drop (t263 : Int).toNat).length : Int)) = true := decide_eq_true c6
  (try (have c6b0z := c6b0; simp only [List.length_drop, List.length_take] at c6b0z))
  have c6b1 : decide (512 < (l0.drop (t263 : Int).toNat).length) = true := decide_eq_true (by omega)
  (try (have c6b1z := c6b1; simp only [List.length_drop, List.length_take] at c6b1z))
  clear c6
  simp only [Option.some.injEq, Prod.mk.injEq] at H
  obtain ⟨rfl, rfl⟩ := H
  go_enter Try.func27, Try.ntmps27
  go_wp2_with (first | ((with_reducible refine gate_callee (f := 49) rfl ?_); refine goesL_ (some 8) rfl rfl Try.func49 (by kernel_rfl) rfl #[.slice A0 l0.length c0, .func (.func 50) #[] #[]] rfl uM ?_; (with_reducible refine (nat_Read_ix.calls _ _ l0 t263 _ ?side1 ?side2 A2.out).mono ?_); (case side1 => exact uC HR0.out); (case side2 => exact HC0.out); rintro e w' ⟨rfl, ⟨nd, rfl⟩⟩; refine ⟨_, rfl, ?_⟩; obtain ⟨i07, hi07, _, hsz7, _⟩ := info_parts info5; obtain ⟨A7, hcut7, hA7, hC7⟩ := print_drop_of (P := Try.prog) (Value.int .u8) 0 27 5 .i64 Try.underlying27 hi07 hsz7 A0 c0 l0 t263 uO uO HC0.out; have HR264 := Aside0.mk (Kd.C_of_reads (h1 := fun _ => rfl) (hA7 _ (Kd.reads_of_C HR0.out))); have HC264 := Aside0.mk hC7; clear hA7 hC7 hi07 hsz7))
  go_ret2
  exact ⟨_, by first | rfl | (simp [errW_none, errW_some] <;> rfl) | (simp [*, errW_none, errW_some] <;> rfl), by first | exact Kd.R_nil _ _ _ _ _ | exact Kd.N_nil _ _ _ _ _ | exact Kd.V_nil _ _ _ _ _ | exact Kd.Q_nil _ _ _ _ _ | exact Kd.S_nil _ _ _ _ _, uB⟩
 rw [if_neg c6] at H
 have c6b0 : decide (512 < ((l0.drop (t263 : Int).toNat).length : Int)) = false := decide_eq_false c6
 (try (have c6b0z := c6b0; simp only [List.length_drop, List.length_take] at c6b0z))
 have c6b1 : decide (512 < (l0.drop (t263 : Int).toNat).length) = false := decide_eq_false (by omega)
 (try (have c6b1z := c6b1; simp only [List.length_drop, List.length_take] at c6b1z))
 clear c6
 obtain ⟨ji8, hji8⟩ : ∃ j_ : Int, (wrap64 (Int.tdiv (wrap64 (((l0.drop (t263 : Int).toNat).length : Int) + 7)) 8)) = j_ := ⟨_, rfl⟩
 first | rw [hji8] at H | simp only [hji8] at H
 (try rw [hji8] at A2)
 have hji8w : (IntKind.i64.wrap (Int.tdiv (wrap64 (((l0.drop (t263 : Int).toNat).length : Int) + 7)) 8)) = ji8 := (i64_w _).trans hji8
 (try (have hji8z_ := hji8; simp only [List.length_drop, List.length_take] at hji8z_))
 (try (have hji8wz_ := hji8w; simp only [List.length_drop, List.length_take] at hji8wz_))
 replace H := uT H; obtain ⟨c9, H⟩ := H
 have c9b0 := eq_true c9
 have c9b1 : decide (0 ≤ (ji8)) = true := decide_eq_true c9
 clear c9
 replace H := uT H; obtain ⟨c10, H⟩ := H
 have c10b0 := eq_true c10
 have c10b1 : decide ((ji8 : Int).toNat ≤ 35184372088832) = true := decide_eq_true c10
 clear c10
 obtain ⟨y265, hy265⟩ : ∃ y_ : List Int, y_ = (List.replicate (ji8 : Int).toNat 0) := ⟨_, rfl⟩
 replace H : (nat_Read.l0 k (l0.drop (t263 : Int).toNat) y265 ((l0.drop (t263 : Int).toNat).length : Int) 0) = some (r1, r2) := by first | (rw [hy265]; with_reducible exact H) | (have H2_ := (Option.bind_some _ _).symm.trans H; rw [hy265]; with_reducible exact H2_) | (have H2_ := (Option.bind_some _ _).symm.trans H; with_reducible exact H2_) | with_reducible exact H | (rw [hy265]; exact H) | exact H
 have Ny265 := Aside0.mk hy265; clear hy265
 have H' := Aside0.mk H
 clear H
 go_enter Try.func27, Try.ntmps27
 go_wp2_with (first | ((with_reducible refine gate_callee (f := 49) rfl ?_); refine goesL_ (some 8) rfl rfl Try.func49 (by kernel_rfl) rfl #[.slice A0 l0.length c0, .func (.func 50) #[] #[]] rfl uM ?_; (with_reducible refine (nat_Read_ix.calls _ _ l0 t263 _ ?side1 ?side2 A2.out).mono ?_); (case side1 => exact uC HR0.out); (case side2 => exact HC0.out); rintro e w' ⟨rfl, ⟨nd, rfl⟩⟩; refine ⟨_, rfl, ?_⟩; obtain ⟨i011, hi011, _, hsz11, _⟩ := info_parts info5; obtain ⟨A11, hcut11, hA11, hC11⟩ := print_drop_of (P := Try.prog) (Value.int .u8) 0 27 5 .i64 Try.underlying27 hi011 hsz11 A0 c0 l0 t263 uO uO HC0.out; have HR264 := Aside0.mk (Kd.C_of_reads (h1 := fun _ => rfl) (hA11 _ (Kd.reads_of_C HR0.out))); have HC264 := Aside0.mk hC11; clear hA11 hC11 hi011 hsz11) | ((with_reducible refine gate_dst (N := 21) rfl ?_); refine Kd.R_make (Kd.int .u64) _ 37 rfl (N := 21) rfl 41 _ _ rfl ji8 rfl rfl Try.underlying41 (.int .u64 0) 8 info37 rfl (by decide) (by omega) 0 (ok := fun _ => True) (okp := fun _ => True) rfl (fun _ hk => hk) trivial uO (Nat.le_trans (Nat.mul_le_mul_right _ (uO : ji8.toNat ≤ 35184372088832)) (by omega)) (Below.refl _ _) (Nat.le_refl _) ?_; intro v266 w12 ho13 hb hg_ hnew_; clear hg_ hnew_; (first | rw [← Ny265.out] at ho13 | (simp only [Int.reduceToNat] at ho13; rw [← Ny265.out] at ho13)); have HO267 := Aside0.mk (Kd.R_lower ho13 (below_size uB)); replace HB := uy hb; clear hb ho13))
 go_loopg [24] k (fun kq v24 w' => ∃ (x5_1 : List Int) (x24_1 : Int), v24 = .int .i64 x24_1 ∧ Aside0 (nat_Read.l0 kq (l0.drop (t263 : Int).toNat) x5_1 ((l0.drop (t263 : Int).toNat).length : Int) x24_1 = some (r1, r2)) ∧ Aside0 (kq ≤ k) ∧ Aside0 (Kd.R (Kd.int .u64) 37 w' w.heap.size (fun _ => True) v266 x5_1) ∧ Aside0 (Below w.heap.size w w'))
 case atStart => exact ⟨(y265), (0), uG, H', ⟨Nat.le_refl _⟩, ⟨uR HO267.out⟩, ⟨uB⟩⟩
 case round =>
  clear H'
  (try clear c1); (try clear c2); (try clear p2); (try clear c3); (try clear c3b0); (try clear c4); (try clear c4b0); (try clear c4b1); (try clear c5); (try clear c5b0); (try clear c5b1); (try clear c6); (try clear c6b0); (try clear c6b1); (try clear p6); (try clear c9); (try clear c9b0); (try clear c9b1); (try clear c10); (try clear c10b0); (try clear c10b1)
  obtain ⟨x5_1, x24_1, rfl, HA, HK1, HO_5, HB⟩ := hrel
  cases gk with
  | zero => exact absurd HA.out (by simp [nat_Read.l0])
  | succ k1 =>
   have H := HA.out
   clear HA
   simp only [nat_Read.l0] at H
   by_cases c14 : x24_1 < ((l0.drop (t263 : Int).toNat).length : Int)
   ·
    rw [if_pos c14] at H
    have c14b0 : decide (x24_1 < ((l0.drop (t263 : Int).toNat).length : Int)) = true := decide_eq_true c14
    (try (have c14b0z := c14b0; simp only [List.length_drop, List.length_take] at c14b0z))
    clear c14
    obtain ⟨ji15, hji15⟩ : ∃ j_ : Int, (wrap64 (Int.tdiv x24_1 8)) = j_ := ⟨_, rfl⟩
    first | rw [hji15] at H | simp only [hji15] at H
    have hji15w : (IntKind.i64.wrap (Int.tdiv x24_1 8)) = ji15 := (i64_w _).trans hji15
    replace H := uT H; obtain ⟨c16, H⟩ := H
    have c16b0 : decide (0 ≤ (ji15)) = true := decide_eq_true c16
    clear c16
    replace H := uT H; obtain ⟨c17, H⟩ := H
    have c17b0 : decide ((ji15) < (x5_1.length : Int)) = true := decide_eq_true c17
    clear c17
    obtain ⟨ji18, hji18⟩ : ∃ j_ : Int, (wrap64 ((wrap64 (((l0.drop (t263 : Int).toNat).length : Int) - 1)) - x24_1)) = j_ := ⟨_, rfl⟩
    first | rw [hji18] at H | simp only [hji18] at H
    have hji18w : (IntKind.i64.wrap ((wrap64 (((l0.drop (t263 : Int).toNat).length : Int) - 1)) - x24_1)) = ji18 := (i64_w _).trans hji18
    (try (have hji18z_ := hji18; simp only [List.length_drop, List.length_take] at hji18z_))
    (try (have hji18wz_ := hji18w; simp only [List.length_drop, List.length_take] at hji18wz_))
    replace H := uT H; obtain ⟨c19, H⟩ := H
    have c19b0 : decide (0 ≤ (ji18)) = true := decide_eq_true c19
    clear c19
    replace H := uT H; obtain ⟨c20, H⟩ := H
    have c20b0 : decide ((ji18) < ((l0.drop (t263 : Int).toNat).length : Int)) = true := decide_eq_true c20
    (try (have c20b0z := c20b0; simp only [List.length_drop, List.length_take] at c20b0z))
    clear c20
    obtain ⟨ji21, hji21⟩ : ∃ j_ : Int, (wrap64 (8 * (Int.tmod x24_1 8))) = j_ := ⟨_, rfl⟩
    first | rw [hji21] at H | simp only [hji21] at H
    have hji21w : (IntKind.i64.wrap (8 * (Int.tmod x24_1 8))) = ji21 := (i64_w _).trans hji21
    replace H := uT H; obtain ⟨c22, H⟩ := H
    have c22b0 := eq_true c22
    have c22b1 : decide (0 ≤ (ji21)) = true := decide_eq_true c22
    clear c22
    obtain ⟨ji23, hji23⟩ : ∃ j_ : Int, (shl .u64 (IntKind.u64.wrap (rd (l0.drop (t263 : Int).toNat) (ji18))) (ji21)) = j_ := ⟨_, rfl⟩
    first | rw [hji23] at H | simp only [hji23] at H
    have hji23_ : (IntKind.u64.wrap ((IntKind.u64.wrap (rd (l0.drop (t263 : Int).toNat) (ji18))) * 2 ^ min (ji21).toNat 64)) = ji23 := hji23
    have hji23z : (ji21) ≤ 64 → (IntKind.u64.wrap ((IntKind.u64.wrap (rd (l0.drop (t263 : Int).toNat) (ji18))) * 2 ^ (ji21).toNat)) = ji23 := shl_small hji23
    obtain ⟨y270, hy270⟩ : ∃ y_ : List Int, y_ = (x5_1.set ((ji15) : Int).toNat (Go.bits .or .u64 (rd x5_1 (ji15)) (ji23))) := ⟨_, rfl⟩
    replace H : (nat_Read.l0 k1 (l0.drop (t263 : Int).toNat) y270 ((l0.drop (t263 : Int).toNat).length : Int) (wrap64 (x24_1 + 1))) = some (r1, r2) := by first | (rw [hy270]; with_reducible exact H) | (have H2_ := (Option.bind_some _ _).symm.trans H; rw [hy270]; with_reducible exact H2_) | (have H2_ := (Option.bind_some _ _).symm.trans H; with_reducible exact H2_) | with_reducible exact H | (rw [hy270]; exact H) | exact H
    have Ny270 := Aside0.mk hy270; clear hy270
    have H' := Aside0.mk H
    clear H
    try go_wp2
    replace HO_5 := Aside0.mk (Kd.R_drew HO_5.out); replace HB := Aside0.mk (below_drew1 HB.out)
    obtain ⟨Ao26, co26, eo26⟩ := Kd.R_slice HO_5.out
    (first | subst eo26 | (injection eo26 with f1_ f2_ f3_; have f4_ := f1_.symm; have f5_ := f3_.symm; clear f1_ f2_ f3_; subst f4_; subst f5_))
    have p268 : 0 ≤ ((ji15) : Int) := uO
    have q268 : (ji15) < (x5_1.length : Int) := uO
    obtain ⟨ad268, e268, hx268_0⟩ := Kd.at_int (Kd.R_reads' HO_5.out).2.2 (ji15) p268 q268
    cases e268
    replace p268 := eq_true p268
    replace q268 := eq_true q268
    have p269 : 0 ≤ ((ji18) : Int) := uO
    have q269 : (ji18) < ((l0.drop (t263 : Int).toNat).length : Int) := uO
    obtain ⟨ad269, e269, hx269_0⟩ := Kd.at_int HR264.out (ji18) p269 q269
    have hw269_0 := hx269_0
    cases e269
    replace hx269_0 := (HB.out.cell (World.block_lt_of_cell? w _ hx269_0)).trans hx269_0
    replace p269 := eq_true p269
    replace q269 := eq_true q269
    (try (have q269z := q269; simp only [List.length_drop, List.length_take] at q269z))
    have p24 : 0 ≤ ((ji15) : Int) := uO
    have q24 : ((ji15) : Int) < ((x5_1.length : Int) : Int) := uO
    obtain ⟨go24, co24, eo24, gb24, gl24, cl24, HG24⟩ := Kd.R_form HO_5.out (by omega)
    (first | cases eo24 | (injection eo24 with ea_ en_ ec_; (first | subst ea_ | (injection ea_ with ea_; subst ea_)); subst ec_; clear en_))
    have GB24 := Aside0.mk gb24; have GG24 := Aside0.mk HG24; clear gb24 gl24 HG24
    (first | simp only [add_plain] at hx268_0 | skip)
    obtain ⟨hx24_0, hf24_0⟩ := Kd.R_celln 0 HO_5.out ((ji15) : Int) p24 q24
    replace p24 := eq_true p24
    replace q24 := eq_true q24
    have HP27 := Kd.R_putn HO_5.out ((ji15) : Int) (Go.bits .or .u64 (rd x5_1 (ji15)) (ji23))
    rw [← Ny270.out] at HP27
    have HQ27 := Aside0.mk HP27; clear HP27
    refine start_ (n := 21) (S := fun w' => w'.cell? ⟨go24, ((ji15)).toNat, none⟩ = some (.int .u64 (rd x5_1 (ji15))) ∧ w'.cell? (ad269.add ((ji18)).toNat) = some (.int .u8 (rd (l0.drop (t263 : Int).toNat) (ji18)))) (ds := [20]) (.replicate 21 false) (by kernel_rfl) rfl rfl ⟨hx268_0, ((HB.out.cell (World.block_lt_of_cell? w _ hw269_0)).trans hw269_0)⟩ (fun hHeld => ?_); refine with_tabW nat_Read.tab11 nat_Read.bits11 (fun HT_ HW_ => ?_)
    generalize wr.drew = w25 at HO_5 HB GG24 HQ27 hf24_0 hx24_0 hx268_0 hx269_0 hHeld ⊢
    refine pure_ (i := 0) (N := some 27) (v := ?_) (a' := ?_) (uA 21 1) rfl rfl (any_of HT_.out (by kernel_rfl)) (fun _ _ _ h => h) (Or.inl ⟨by rfl, ?_⟩) ?_ ?_
    rotate_left
    ·
     intro w'
     go_simp
     with_reducible rfl
    rotate_left
    · exact uQ
    refine pure_ (i := 1) (N := some 28) (v := ?_) (a' := ?_) (uA 21 3) rfl rfl (any_of HT_.out (by kernel_rfl)) (fun _ _ _ h => h) (Or.inl ⟨by rfl, ?_⟩) ?_ ?_
    rotate_left
    ·
     intro w'
     go_simp
     with_reducible rfl
    rotate_left
    · exact uQ
    refine pure_ (i := 2) (N := some 29) (v := ?_) (a' := ?_) (uA 21 7) rfl rfl (any_of HT_.out (by kernel_rfl)) (fun _ _ _ h => h) (Or.inl ⟨by rfl, ?_⟩) ?_ ?_
    rotate_left
    ·
     intro w'
     go_simp
     with_reducible rfl
    rotate_left
    · exact uQ
    refine pure_ (i := 3) (N := some 30) (v := ?_) (a' := ?_) (uA 21 15) rfl rfl (any_of HT_.out (by kernel_rfl)) (fun _ _ _ h => h) (Or.inl ⟨by rfl, ?_⟩) ?_ ?_
    rotate_left
    ·
     intro w'
     go_simp
     with_reducible rfl
    rotate_left
    · exact uQ
    refine pure_ (i := 5) (N := some 32) (v := ?_) (a' := ?_) (uA 21 47) rfl rfl (any_of HT_.out (by kernel_rfl)) (fun _ _ _ h => h) (Or.inl ⟨by rfl, ?_⟩) ?_ ?_
    rotate_left
    ·
     intro w'
     go_simp
     with_reducible rfl
    rotate_left
    · exact uQ
    refine pure_ (i := 6) (N := some 33) (v := ?_) (a' := ?_) (uA 21 111) rfl rfl (any_of HT_.out (by kernel_rfl)) (fun _ _ _ h => h) (Or.inl ⟨by rfl, ?_⟩) ?_ ?_
    rotate_left
    ·
     intro w'
     go_simp
     with_reducible rfl
    rotate_left
    · exact uQ
    refine pure_ (i := 7) (N := some 34) (v := ?_) (a' := ?_) (uA 21 239) rfl rfl (any_of HT_.out (by kernel_rfl)) (fun _ _ _ h => h) (Or.inl ⟨by rfl, ?_⟩) ?_ ?_
    rotate_left
    ·
     intro w'
     go_simp
     with_reducible rfl
    rotate_left
    · exact uQ
    refine pure_ (i := 8) (N := some 35) (v := ?_) (a' := ?_) (uA 21 495) rfl rfl (any_of HT_.out (by kernel_rfl)) (fun _ _ _ h => h) (Or.inl ⟨by rfl, ?_⟩) ?_ ?_
    rotate_left
    ·
     intro w'
     go_simp
     with_reducible rfl
    rotate_left
    · exact uQ
    refine pure_ (i := 9) (N := some 36) (v := ?_) (a' := ?_) (uA 21 1007) rfl rfl (any_of HT_.out (by kernel_rfl)) (fun _ _ _ h => h) (Or.inl ⟨by rfl, ?_⟩) ?_ ?_
    rotate_left
    ·
     intro w'
     go_simp
     with_reducible rfl
    rotate_left
    · exact uQ
    refine pure_ (i := 10) (N := some 37) (v := ?_) (a' := ?_) (uA 21 2031) rfl rfl (any_of HT_.out (by kernel_rfl)) (fun _ _ _ h => h) (Or.inl ⟨by rfl, ?_⟩) ?_ ?_
    rotate_left
    ·
     intro w'
     go_simp
     with_reducible rfl
    rotate_left
    · exact uQ
    refine pure_ (i := 11) (N := some 38) (v := ?_) (a' := ?_) (uA 21 4079) rfl rfl (any_of HT_.out (by kernel_rfl)) (fun _ _ _ h => h) (Or.inl ⟨by rfl, ?_⟩) ?_ ?_
    rotate_left
    ·
     intro w'
     go_simp
     with_reducible rfl
    rotate_left
    · exact uQ
    refine pure_ (i := 14) (N := some 41) (v := ?_) (a' := ?_) (uA 21 20463) rfl rfl (any_of HT_.out (by kernel_rfl)) (fun _ _ _ h => h) (Or.inl ⟨by rfl, ?_⟩) ?_ ?_
    rotate_left
    ·
     intro w'
     go_simp
     with_reducible rfl
    rotate_left
    · exact uQ
    refine pure_ (i := 15) (N := some 42) (v := ?_) (a' := ?_) (uA 21 53231) rfl rfl (any_of HT_.out (by kernel_rfl)) (fun _ _ _ h => h) (Or.inl ⟨by rfl, ?_⟩) ?_ ?_
    rotate_left
    ·
     intro w'
     go_simp
     with_reducible rfl
    rotate_left
    · exact uQ
    refine pure_ (i := 16) (N := some 43) (v := ?_) (a' := ?_) (uA 21 118767) rfl rfl (any_of HT_.out (by kernel_rfl)) (fun _ _ _ h => h) (Or.inl ⟨by rfl, ?_⟩) ?_ ?_
    rotate_left
    ·
     intro w'
     go_simp
     with_reducible rfl
    rotate_left
    · exact uQ
    refine take_ (i := 4) (N := some 31) (v := ?_) (a' := ?_) (uA 21 118783) rfl rfl (take_ofW HT_.out HW_.out (by kernel_rfl)) (fun _ _ _ h => h) (Or.inl ⟨by rfl, ?_⟩) hHeld ?_ ?_
    rotate_left
    ·
     rintro w' ⟨s0, s1⟩
     go_simp
     with_reducible rfl
    rotate_left
    · exact uQ
    refine take_ (i := 12) (N := some 39) (v := ?_) (a' := ?_) (uA 21 122879) rfl rfl (take_ofW HT_.out HW_.out (by kernel_rfl)) (fun _ _ _ h => h) (Or.inl ⟨by rfl, ?_⟩) hHeld ?_ ?_
    rotate_left
    ·
     rintro w' ⟨s0, s1⟩
     go_simp
     with_reducible rfl
    rotate_left
    · exact uQ
    refine pure_ (i := 13) (N := some 40) (v := ?_) (a' := ?_) (uA 21 131071) rfl rfl (any_of HT_.out (by kernel_rfl)) (fun _ _ _ h => h) (Or.inl ⟨by rfl, ?_⟩) ?_ ?_
    rotate_left
    ·
     intro w'
     go_simp
     with_reducible rfl
    rotate_left
    · exact uQ
    refine pure_ (i := 17) (N := some 44) (v := ?_) (a' := ?_) (uA 21 262143) rfl rfl (any_of HT_.out (by kernel_rfl)) (fun _ _ _ h => h) (Or.inl ⟨by rfl, ?_⟩) ?_ ?_
    rotate_left
    ·
     intro w'
     go_simp
     with_reducible rfl
    rotate_left
    · exact uQ
    refine pure_ (i := 18) (N := some 45) (v := ?_) (a' := ?_) (uA 21 524287) rfl rfl (any_of HT_.out (by kernel_rfl)) (fun _ _ _ h => h) (Or.inl ⟨by rfl, ?_⟩) ?_ ?_
    rotate_left
    ·
     intro w'
     go_simp
     with_reducible rfl
    rotate_left
    · exact uQ
    refine pure_ (i := 19) (N := some 46) (v := ?_) (a' := ?_) (uA 21 1048575) rfl rfl (any_of HT_.out (by kernel_rfl)) (fun _ _ _ h => h) (Or.inl ⟨by rfl, ?_⟩) ?_ ?_
    rotate_left
    ·
     intro w'
     go_simp
     with_reducible rfl
    rotate_left
    · exact uQ
    refine last_ (i := 20) (N := none) (uA 21 2097151) rfl rfl (one_of HT_.out (by kernel_rfl)) (by decide) (fun K hK => ?_)
    refine skip_ (w1 := ?_) (by rfl) rfl ?_ ?_
    rotate_left
    ·
     go_simp
     rfl
    refine hK.out _ _ ?_; clear hK K
    refine done_ (done_of HT_.out (by kernel_rfl)) ?_
    try go_wp2
    first | go_roundg k1 | ((try simp only [← hji23] at H'); simp only [← hji23]; go_roundg k1) | ((try simp only [← hji21] at H'); simp only [← hji21]; go_roundg k1) | ((try simp only [← hji18] at H'); simp only [← hji18]; go_roundg k1) | ((try simp only [← hji15] at H'); simp only [← hji15]; go_roundg k1) | ((try simp only [← hji8] at H'); simp only [← hji8]; go_roundg k1)
    case measure => have := HK1.out; omega
    case rel => first | exact ⟨(y270), (wrap64 (x24_1 + 1)), uG, H', ⟨by have := HK1.out; omega⟩, ⟨uR HQ27.out⟩, ⟨uB⟩⟩ | (simp only [← hji23] at H'; exact ⟨(y270), (wrap64 (x24_1 + 1)), uG, H', ⟨by have := HK1.out; omega⟩, ⟨uR HQ27.out⟩, ⟨uB⟩⟩) | (simp only [← hji21] at H'; exact ⟨(y270), (wrap64 (x24_1 + 1)), uG, H', ⟨by have := HK1.out; omega⟩, ⟨uR HQ27.out⟩, ⟨uB⟩⟩) | (simp only [← hji18] at H'; exact ⟨(y270), (wrap64 (x24_1 + 1)), uG, H', ⟨by have := HK1.out; omega⟩, ⟨uR HQ27.out⟩, ⟨uB⟩⟩) | (simp only [← hji15] at H'; exact ⟨(y270), (wrap64 (x24_1 + 1)), uG, H', ⟨by have := HK1.out; omega⟩, ⟨uR HQ27.out⟩, ⟨uB⟩⟩) | (simp only [← hji8] at H'; exact ⟨(y270), (wrap64 (x24_1 + 1)), uG, H', ⟨by have := HK1.out; omega⟩, ⟨uR HQ27.out⟩, ⟨uB⟩⟩)
   rw [if_neg c14] at H
   have c14b0 : decide (x24_1 < ((l0.drop (t263 : Int).toNat).length : Int)) = false := decide_eq_false c14
   (try (have c14b0z := c14b0; simp only [List.length_drop, List.length_take] at c14b0z))
   clear c14
   replace H := ub H; obtain ⟨⟨t271, t274⟩, A28, H⟩ := H
   (try dsimp only at H)
   simp only [Option.some.injEq, Prod.mk.injEq] at H
   obtain ⟨rfl, rfl⟩ := H
   obtain ⟨Ao29, co29, eo29⟩ := Kd.R_slice HO_5.out
   subst eo29
   go_wp2_with (first | ((with_reducible refine gate_callee (f := 51) rfl ?_); refine goesL_ (some 49) rfl rfl Try.func51 (by kernel_rfl) rfl #[.slice Ao29 x5_1.length co29] rfl uM ?_; (with_reducible refine (nat_told.calls k1 (fun k_ => some k_ = (.slice Ao29 x5_1.length co29 : Value).ownBlock) (.slice Ao29 x5_1.length co29) x5_1 t271 t274 w _ ?side1 ?side2 A28.out).mono ?_); (case side1 => repeat (first | (with_reducible first | exact HB.out | apply below_alloc | apply pw_below_drewN | apply below_drew1) | exact HB.out)); (case side2 => exact Kd.R_tight rfl HO_5.out); rintro e w30 ⟨v272, rfl, ho0, hb, hkp⟩; refine ⟨_, rfl, ?_⟩; have HO273 := Aside0.mk (Kd.R_mono (ok' := fun k_ => True) ho0 (fun k_ hk_ => trivial)); replace HB := Aside0.mk (hb); clear HO_5; (try clear hb); (try clear hkp); (try clear ho0)))
   go_ret2
   exact ⟨_, by first | rfl | (simp [errW_none, errW_some] <;> rfl) | (simp only [← hji8]; first | rfl | (simp [errW_none, errW_some] <;> rfl)) | (simp [*, errW_none, errW_some] <;> rfl), uR HO273.out, uB⟩
def windbreaklaw12_awake.f (k : Nat)  : Option (Bool) := (wire_Encode.f k 2 4 2 0 ([] : List Int) ([] : List Int) ([] : List (List Int))).bind fun bt124 => (if bt124.2 = 0 then (some ((strOfNums bt124.1).toList == (strOfNums (([2, 4, 2, 0, 0, 0, 0] : List Int))).toList)) else (some false))
set_option maxHeartbeats 8000000 in
set_option maxRecDepth 100000 in
theorem windbreaklaw12_awake.calls (k : Nat)  (r : Bool) (w : World) (h : windbreaklaw12_awake.f k  = some r) :
  Calls Try.prog 6 #[] w fun e w' => e = .returned (.bool r) ∧ Below w.heap.size w w' := by
 have hu25 := Try.underlying25
 have HB := Aside0.mk (Below.refl w.heap.size w)
 have H : ((wire_Encode.f k 2 4 2 0 ([] : List Int) ([] : List Int) ([] : List (List Int))).bind fun bt124 => (if bt124.2 = 0 then (some ((strOfNums bt124.1).toList == (strOfNums (([2, 4, 2, 0, 0, 0, 0] : List Int))).toList)) else (some false))) = some r := h
 clear h
 replace H := ub H; obtain ⟨⟨t124, t127⟩, A1, H⟩ := H
 (try dsimp only at H)
 by_cases c2 : t127 = 0
 ·
  rw [if_pos c2] at H
  have c2b0 : (t127 == 0) = true := beq_iff_eq.mpr c2
  have c2b1 : (t127 != 0) = false := bne_eq_false_iff_eq.mpr c2
  clear c2
  obtain ⟨y128, hy128⟩ : ∃ y_ : List Int, y_ = (([2, 4, 2, 0, 0, 0, 0] : List Int)) := ⟨_, rfl⟩
  replace H : (some ((strOfNums t124).toList == (strOfNums y128).toList)) = some r := by first | (rw [hy128]; with_reducible exact H) | (have H2_ := (Option.bind_some _ _).symm.trans H; rw [hy128]; with_reducible exact H2_) | (have H2_ := (Option.bind_some _ _).symm.trans H; with_reducible exact H2_) | with_reducible exact H | (rw [hy128]; exact H) | exact H
  have Ny128 := Aside0.mk hy128; clear hy128
  obtain rfl := Option.some.inj H
  go_enter Try.func6, Try.ntmps6
  go_wp2_with (first | ((with_reducible refine gate_callee (f := 7) rfl ?_); refine goesL_ (some 5) rfl rfl Try.func7 (by kernel_rfl) rfl #[.agg #[.int .i64 2, .int .i64 4, .int .i64 2, .int .i64 0, .slice none 0 0, .slice none 0 0, .slice none 0 0]] rfl uM ?_; (refine (wire_Encode.calls k 2 4 2 0 _ _ ([] : List Int) _ _ ([] : List Int) _ _ ([] : List (List Int)) t124 t127 _ ?side1 ?side2 ?side3 ?side4 ?side5 ?side6 A1.out).mono ?_); (case side1 => exact Kd.C_nil _ _); (case side2 => exact Nat.le_refl _); (case side3 => exact Kd.C_nil _ _); (case side4 => exact Nat.le_refl _); (case side5 => exact Kd.C_nil _ _); (case side6 => exact Nat.le_refl _); rintro e w3 ⟨v125, rfl, ho0, hb⟩; refine ⟨_, rfl, ?_⟩; have HO126 := Aside0.mk (Kd.R_lower ho0 (below_size uB)); replace HB := uy hb; (try clear hb ho0); have hcv4 := own_string (P := Try.prog) Try.underlying27 Try.underlying5 Try.underlying9 (Kd.own_of_R HO126.out)) | ((with_reducible refine gate_dst (N := 13) rfl ?_); (try (refine gate_guard (by rfl) ?_; dsimp only)); refine Kd.R_lit (Kd.int .u8) _ 5 ?hg (N := 13) ?hd (xs := ([2, 4, 2, 0, 0, 0, 0] : List Int)) (inner := [.int .u8 2, .int .u8 4, .int .u8 2, .int .u8 0, .int .u8 0, .int .u8 0, .int .u8 0]) (ok := fun _ => True) (okp := fun _ => True) ?hr ?hp (fun _ hk => hk) trivial (Below.refl _ _) (Nat.le_refl _) (by simp) ?_; (case hd => rfl); (case hg => rfl); (case hr => first | (go_simp; done) | (go_simp; rfl) | (go_simp; simp only [u64_u8]; done) | (go_simp; simp only [u64_u8]; rfl)); (case hp => exact (Reps.one (show Kd.M (Kd.int .u8) _ _ _ 2 [.int .u8 2] from rfl) (Reps.one (show Kd.M (Kd.int .u8) _ _ _ 4 [.int .u8 4] from rfl) (Reps.one (show Kd.M (Kd.int .u8) _ _ _ 2 [.int .u8 2] from rfl) (Reps.one (show Kd.M (Kd.int .u8) _ _ _ 0 [.int .u8 0] from rfl) (Reps.one (show Kd.M (Kd.int .u8) _ _ _ 0 [.int .u8 0] from rfl) (Reps.one (show Kd.M (Kd.int .u8) _ _ _ 0 [.int .u8 0] from rfl) (Reps.one (show Kd.M (Kd.int .u8) _ _ _ 0 [.int .u8 0] from rfl) (Reps.none _ _))))))))); intro v129 w5 ho6 hb hg_ hnew_; clear hg_ hnew_; (first | rw [← Ny128.out] at ho6 | (simp only [Int.reduceToNat] at ho6; rw [← Ny128.out] at ho6)); have HO130 := Aside0.mk (Kd.R_lower (Kd.R_new' ho6 (Kd.R_lt (uR HO126.out))) (below_size uB)); replace HO126 := ueR HO126 ho6 hb; replace HB := uy hb; clear hb ho6; have hcv7 := own_string (P := Try.prog) Try.underlying27 Try.underlying5 Try.underlying9 (Kd.own_of_R HO130.out)))
  go_ret
  exact ⟨uF, uB⟩
 rw [if_neg c2] at H
 have c2b0 : (t127 == 0) = false := beq_eq_false_iff_ne.mpr c2
 have c2b1 : (t127 != 0) = true := bne_iff_ne.mpr c2
 obtain rfl := Option.some.inj H
 go_enter Try.func6, Try.ntmps6
 go_wp2_with (first | ((with_reducible refine gate_callee (f := 7) rfl ?_); refine goesL_ (some 5) rfl rfl Try.func7 (by kernel_rfl) rfl #[.agg #[.int .i64 2, .int .i64 4, .int .i64 2, .int .i64 0, .slice none 0 0, .slice none 0 0, .slice none 0 0]] rfl uM ?_; (refine (wire_Encode.calls k 2 4 2 0 _ _ ([] : List Int) _ _ ([] : List Int) _ _ ([] : List (List Int)) t124 t127 _ ?side1 ?side2 ?side3 ?side4 ?side5 ?side6 A1.out).mono ?_); (case side1 => exact Kd.C_nil _ _); (case side2 => exact Nat.le_refl _); (case side3 => exact Kd.C_nil _ _); (case side4 => exact Nat.le_refl _); (case side5 => exact Kd.C_nil _ _); (case side6 => exact Nat.le_refl _); rintro e w8 ⟨v125, rfl, ho0, hb⟩; refine ⟨_, rfl, ?_⟩; have HO126 := Aside0.mk (Kd.R_lower ho0 (below_size uB)); replace HB := uy hb; (try clear hb ho0)))
 go_ret
 exact ⟨uF, uB⟩
end Go.Proofs.Ytanmfddlncdncab.F
end
section
namespace Go.Proofs.Ytanmfddlncdncab.F
open Go.RowKit Go.Proofs.YtanmfddlncdncabW.PrintWords Go.Proofs.YtanmfddlncdncabW.PrintLast Go.Proofs.YtanmfddlncdncabW.PrintMore
open Go.Proofs.Ytanmfddlncdncab.Z (nxt encN Dig)
set_option linter.unusedVariables false
set_option linter.unusedSimpArgs false
def RBox (w : World) (gr g : Nat) : Prop := w.heap[gr]? = some (.cells #[.pointer (some ⟨g, 0, none⟩)] 45 (0, 0))
theorem numV_le {most : Nat} {l : List Int} : (numV most l).1 ≤ most := by
  unfold numV
  cases nxt 0 l with
  | none => exact Nat.zero_le _
  | some r =>
    by_cases h : most < r.1
    · simp only [if_pos h]; exact Nat.zero_le _
    · simp only [if_neg h]; omega
set_option maxHeartbeats 8000000 in
set_option maxRecDepth 100000 in
theorem wire_decnum.calls (gr g : Nat) (l : List Int) (ok : Nat → Prop) (w : World) (hC : RBox w gr g) (hR : Rdr w g ok l) (hk : ∀ k, ok k → k ≠ g) (hd : Dig 256 l) :
    Calls Try.prog 23 #[.pointer (some ⟨gr, 0, none⟩)] w fun e w' => e = .returned (.tuple #[.int .i64 ((numV 1073741824 l).1 : Int), .bool ((numV 1073741824 l).2.1 == 0)]) ∧ Rdr w' g ok (numV 1073741824 l).2.2 ∧ KG w w' g := by
  have HR := Aside0.mk hR
  have HD := Aside0.mk hd
  have HK := Aside0.mk hk
  have hcg : w.cell? ⟨gr, 0, none⟩ = some (.pointer (some ⟨g, 0, none⟩)) := (blk_cell hC 0).trans rfl
  have hle := numV_le (most := 1073741824) (l := l)
  have hnum : ∀ w, Rdr w g ok l → (∀ k, ok k → k ≠ g) → Dig 256 l → Calls Try.prog 24 #[.pointer (some ⟨g, 0, none⟩), .int .u64 1073741824] w fun e w' => e = .returned (.tuple #[.int .u64 ((numV 1073741824 l).1 : Int), .int .i64 (numV 1073741824 l).2.1]) ∧ Rdr w' g ok (numV 1073741824 l).2.2 ∧ KG w w' g := fun w => codec_read.calls g 1073741824 l ok w
  clear hC hR hk hd
  generalize numV 1073741824 l = v at hle hnum ⊢
  obtain ⟨n, er, l'⟩ := v
  simp only at hle hnum ⊢
  have hn1 : (n : Int) ≤ 1073741824 := by omega
  have hn0 : (0 : Int) ≤ (n : Int) := by omega
  have HN := Aside0.mk hnum
  clear hnum hle
  go_enter Try.func23, Try.ntmps23
  go_wp2_with (go_at_call 24; (with_reducible refine (HN.out _ HR.out HK.out HD.out).mono ?_); rintro e w1 ⟨rfl, hr, hk⟩; have HR1 := Aside0.mk hr; have HK1 := Aside0.mk hk; clear hr hk hcg)
  go_ret2
  exact ⟨rfl, HR1.out, HK1.out⟩
def natRd (er : Int) (c r1 : List Int) (r2 : Int) : List Int × Bool := if er = 0 ∧ ¬ (0 < c.length ∧ c.getD 0 0 = 0) then (r1, r2 == 0) else ([], false)
theorem at0 {w : World} {A : Option Addr} {l : List Int} (h : Kd.C (Kd.int .u8) w A l.length l) (h0 : 0 < l.length) : ∃ ad, A = some ad ∧ w.cell? ad = some (.int .u8 (l.getD 0 0)) := by
  obtain ⟨ad, hA, hcl⟩ := Kd.at_int h 0 (by omega) (by omega)
  refine ⟨ad, hA, ?_⟩
  rw [show rd l (0 : Int) = l.getD 0 0 from rfl] at hcl
  rw [← hcl]
  simp [Addr.add]
set_option maxHeartbeats 8000000 in
set_option maxRecDepth 100000 in
theorem wire_decnat.calls (k gr g : Nat) (l : List Int) (ok : Nat → Prop) (w : World) (hC : RBox w gr g) (hR : Rdr w g ok l) (hk : ∀ k, ok k → k ≠ g) (hd : Dig 256 l) (hll : l.length < 9223372036854775808) (r1 : List Int) (r2 : Int) (h : nat_Read.f k (bytV 32 l).1 = some (r1, r2)) :
    Calls Try.prog 25 #[.pointer (some ⟨gr, 0, none⟩)] w fun e w' => ∃ v : Value, e = .returned (.tuple #[v, .bool (natRd (bytV 32 l).2.1 (bytV 32 l).1 r1 r2).2]) ∧ Kd.R (Kd.int .u64) 37 w' w.heap.size (fun _ => True) v (natRd (bytV 32 l).2.1 (bytV 32 l).1 r1 r2).1 ∧ Rdr w' g ok (bytV 32 l).2.2 ∧ KG w w' g := by
  have HR := Aside0.mk hR
  have HD := Aside0.mk hd
  have HK := Aside0.mk hk
  have HLL := Aside0.mk hll
  have hcg : w.cell? ⟨gr, 0, none⟩ = some (.pointer (some ⟨g, 0, none⟩)) := (blk_cell hC 0).trans rfl
  have hbyt : ∀ w, Rdr w g ok l → (∀ k, ok k → k ≠ g) → Dig 256 l → l.length < 9223372036854775808 → Calls Try.prog 26 #[.pointer (some ⟨g, 0, none⟩), .int .i64 32] w fun e w' => ∃ v : Value, e = .returned (.tuple #[v, .int .i64 (bytV 32 l).2.1]) ∧ Kd.R (Kd.int .u8) 5 w' w.heap.size (fun _ => True) v (bytV 32 l).1 ∧ Rdr w' g ok (bytV 32 l).2.2 ∧ KG w w' g := fun w h1 h2 h3 h4 => codec_readB.calls g 32 l ok w h1 h2 h3 (by decide) h4
  have HH := Aside0.mk h
  clear hC hR hk hd hll h
  generalize bytV 32 l = v at hbyt HH ⊢
  obtain ⟨c, er, l'⟩ := v
  simp only at hbyt HH ⊢
  have HN := Aside0.mk hbyt
  clear hbyt
  obtain ⟨rv, hrv⟩ : ∃ rv, natRd er c r1 r2 = rv := ⟨_, rfl⟩
  rw [hrv]
  unfold natRd at hrv
  by_cases he : er = 0
  · subst he
    by_cases h0 : 0 < c.length
    · have h0z : decide ((0 : Int) < (c.length : Int)) = true := decide_eq_true (by omega)
      have h0y : (0 : Int) < (c.length : Int) := by omega
      by_cases hx : c.getD 0 0 = 0
      · rw [if_neg (fun h => h.2 ⟨h0, hx⟩)] at hrv; subst hrv
        go_enter Try.func25, Try.ntmps25
        go_wp2_with (go_at_call 26; (with_reducible refine (HN.out _ HR.out HK.out HD.out HLL.out).mono ?_); rintro e w1 ⟨v1, rfl, ho, hr, hk⟩; obtain ⟨A5, c5, e5⟩ := Kd.R_slice ho; subst e5; obtain ⟨ad, hA, hcl⟩ := at0 (Kd.R_reads' ho).2.2 h0; subst hA; rw [hx] at hcl; have HO := Aside0.mk ho; have HR1 := Aside0.mk hr; have HK1 := Aside0.mk hk; clear ho hr hk hcg)
        all_goals (try go_ret2)
        all_goals exact ⟨_, rfl, Kd.R_nil _ _ _ _ _, HR1.out, HK1.out⟩
      · rw [if_pos ⟨rfl, fun h => hx h.2⟩] at hrv; subst hrv
        obtain ⟨x, hxe⟩ : ∃ x, x = c.getD 0 0 := ⟨_, rfl⟩
        rw [← hxe] at hx
        have HX := Aside0.mk hxe
        have hxz : (x == 0) = false := beq_eq_false_iff_ne.mpr hx
        clear hxe
        go_enter Try.func25, Try.ntmps25
        go_wp2_with (first | (go_at_call 26; (with_reducible refine (HN.out _ HR.out HK.out HD.out HLL.out).mono ?_); rintro e w1 ⟨v1, rfl, ho, hr, hk⟩; obtain ⟨A5, c5, e5⟩ := Kd.R_slice ho; subst e5; obtain ⟨ad, hA, hcl⟩ := at0 (Kd.R_reads' ho).2.2 h0; subst hA; rw [← HX.out] at hcl; have HO := Aside0.mk ho; have HR1 := Aside0.mk hr; have HK1 := Aside0.mk hk; clear ho hr hk hcg) | (go_at_call 27; (with_reducible refine (nat_Read.calls k _ _ c r1 r2 _ (Kd.R_reads' HO.out).2.2 (Kd.R_reads' HO.out).2.1 HH.out).mono ?_); rintro e w2 ⟨v2, rfl, ho, hb⟩; have HO2 := Aside0.mk ho; have HB2 := Aside0.mk hb; have HS := Aside0.mk HK1.out.kept.1; clear ho hb))
        go_ret2
        exact ⟨_, rfl, Kd.R_mono (Kd.R_lower HO2.out HS.out) (fun _ _ => trivial), HR1.out.below HB2.out, HK1.out.below HB2.out⟩
    · rw [if_pos ⟨rfl, fun h => h0 h.1⟩] at hrv; subst hrv
      have h0z : decide ((0 : Int) < (c.length : Int)) = false := decide_eq_false (by omega)
      have h0y : ¬ (0 : Int) < (c.length : Int) := by omega
      go_enter Try.func25, Try.ntmps25
      go_wp2_with (first | (go_at_call 26; (with_reducible refine (HN.out _ HR.out HK.out HD.out HLL.out).mono ?_); rintro e w1 ⟨v1, rfl, ho, hr, hk⟩; obtain ⟨A5, c5, e5⟩ := Kd.R_slice ho; subst e5; have HO := Aside0.mk ho; have HR1 := Aside0.mk hr; have HK1 := Aside0.mk hk; clear ho hr hk hcg) | (go_at_call 27; (with_reducible refine (nat_Read.calls k _ _ c r1 r2 _ (Kd.R_reads' HO.out).2.2 (Kd.R_reads' HO.out).2.1 HH.out).mono ?_); rintro e w2 ⟨v2, rfl, ho, hb⟩; have HO2 := Aside0.mk ho; have HB2 := Aside0.mk hb; have HS := Aside0.mk HK1.out.kept.1; clear ho hb))
      go_ret2
      exact ⟨_, rfl, Kd.R_mono (Kd.R_lower HO2.out HS.out) (fun _ _ => trivial), HR1.out.below HB2.out, HK1.out.below HB2.out⟩
  · rw [if_neg (fun h => he h.1)] at hrv; subst hrv
    have hez : (er != 0) = true := bne_iff_ne.mpr he
    go_enter Try.func25, Try.ntmps25
    go_wp2_with (go_at_call 26; (with_reducible refine (HN.out _ HR.out HK.out HD.out HLL.out).mono ?_); rintro e w1 ⟨v1, rfl, ho, hr, hk⟩; obtain ⟨A5, c5, e5⟩ := Kd.R_slice ho; subst e5; have HO := Aside0.mk ho; have HR1 := Aside0.mk hr; have HK1 := Aside0.mk hk; clear ho hr hk hcg)
    all_goals (try go_ret2)
    all_goals exact ⟨_, rfl, Kd.R_nil _ _ _ _ _, HR1.out, HK1.out⟩
end Go.Proofs.Ytanmfddlncdncab.F
end
section
namespace Go.Proofs.Ytanmfddlncdncab.Z
open Go.RowKit Go.Proofs.Ytanmfddlncdncab.F Go.Proofs.YtanmfddlncdncabW.PrintWords
set_option linter.unusedSimpArgs false
set_option linter.unusedVariables false
theorem len8 : ∀ n : Fin 256, bt (⟨#[0, 1, 2, 2, 3, 3, 3, 3, 4, 4, 4, 4, 4, 4, 4, 4, 5, 5, 5, 5, 5, 5, 5, 5, 5, 5, 5, 5, 5, 5, 5, 5, 6, 6, 6, 6, 6, 6, 6, 6, 6, 6, 6, 6, 6, 6, 6, 6, 6, 6, 6, 6, 6, 6, 6, 6, 6, 6, 6, 6, 6, 6, 6, 6, 7, 7, 7, 7, 7, 7, 7, 7, 7, 7, 7, 7, 7, 7, 7, 7, 7, 7, 7, 7, 7, 7, 7, 7, 7, 7, 7, 7, 7, 7, 7, 7, 7, 7, 7, 7, 7, 7, 7, 7, 7, 7, 7, 7, 7, 7, 7, 7, 7, 7, 7, 7, 7, 7, 7, 7, 7, 7, 7, 7, 7, 7, 7, 7, 8, 8, 8, 8, 8, 8, 8, 8, 8, 8, 8, 8, 8, 8, 8, 8, 8, 8, 8, 8, 8, 8, 8, 8, 8, 8, 8, 8, 8, 8, 8, 8, 8, 8, 8, 8, 8, 8, 8, 8, 8, 8, 8, 8, 8, 8, 8, 8, 8, 8, 8, 8, 8, 8, 8, 8, 8, 8, 8, 8, 8, 8, 8, 8, 8, 8, 8, 8, 8, 8, 8, 8, 8, 8, 8, 8, 8, 8, 8, 8, 8, 8, 8, 8, 8, 8, 8, 8, 8, 8, 8, 8, 8, 8, 8, 8, 8, 8, 8, 8, 8, 8, 8, 8, 8, 8, 8, 8, 8, 8, 8, 8, 8, 8, 8, 8, 8, 8, 8, 8, 8, 8, 8, 8, 8, 8, 8, 8]⟩ : ByteArray) ((n.val : Nat) : Int) = ((bl n.val : Nat) : Int) := by decide +kernel
theorem len8_at {x : Int} (h0 : 0 ≤ x) (h1 : x < 256) : bt (⟨#[0, 1, 2, 2, 3, 3, 3, 3, 4, 4, 4, 4, 4, 4, 4, 4, 5, 5, 5, 5, 5, 5, 5, 5, 5, 5, 5, 5, 5, 5, 5, 5, 6, 6, 6, 6, 6, 6, 6, 6, 6, 6, 6, 6, 6, 6, 6, 6, 6, 6, 6, 6, 6, 6, 6, 6, 6, 6, 6, 6, 6, 6, 6, 6, 7, 7, 7, 7, 7, 7, 7, 7, 7, 7, 7, 7, 7, 7, 7, 7, 7, 7, 7, 7, 7, 7, 7, 7, 7, 7, 7, 7, 7, 7, 7, 7, 7, 7, 7, 7, 7, 7, 7, 7, 7, 7, 7, 7, 7, 7, 7, 7, 7, 7, 7, 7, 7, 7, 7, 7, 7, 7, 7, 7, 7, 7, 7, 7, 8, 8, 8, 8, 8, 8, 8, 8, 8, 8, 8, 8, 8, 8, 8, 8, 8, 8, 8, 8, 8, 8, 8, 8, 8, 8, 8, 8, 8, 8, 8, 8, 8, 8, 8, 8, 8, 8, 8, 8, 8, 8, 8, 8, 8, 8, 8, 8, 8, 8, 8, 8, 8, 8, 8, 8, 8, 8, 8, 8, 8, 8, 8, 8, 8, 8, 8, 8, 8, 8, 8, 8, 8, 8, 8, 8, 8, 8, 8, 8, 8, 8, 8, 8, 8, 8, 8, 8, 8, 8, 8, 8, 8, 8, 8, 8, 8, 8, 8, 8, 8, 8, 8, 8, 8, 8, 8, 8, 8, 8, 8, 8, 8, 8, 8, 8, 8, 8, 8, 8, 8, 8, 8, 8, 8, 8, 8, 8]⟩ : ByteArray) x = ((bl x.toNat : Nat) : Int) := by
  obtain ⟨n, rfl⟩ := Int.eq_ofNat_of_zero_le h0
  exact len8 ⟨n, by omega⟩
set_option maxRecDepth 100000 in
theorem len64_j {x : Int} (h0 : 0 ≤ x) (h1 : x < 4294967296) (c : Int) (hc : 0 ≤ c ∧ c ≤ 1000) : Evt (fun k => bits_Len64.j0 k x c) (c + ((bl x.toNat : Nat) : Int)) := by
  have key : ∀ (s : Nat) (y : Int), 0 ≤ y → y < 256 → (s ≤ 24) → (y = 0 → s = 0) → y = x / 2 ^ s → ((bl x.toNat : Nat) : Int) = (s : Int) + ((bl y.toNat : Nat) : Int) := by
    intro s y hy0 hy1 hs hz he
    have : bl x.toNat = s + bl y.toNat := by
      by_cases h : y = 0
      · have hs0 := hz h
        subst hs0
        simp at he
        rw [he, Nat.zero_add]
      · have e : y.toNat = x.toNat / 2 ^ s := by
          rw [he]
          have h2 : x = ((x.toNat : Nat) : Int) := by omega
          rw [h2]
          have h3 : ((2 : Int) ^ s) = ((2 ^ s : Nat) : Int) := by simp
          rw [h3, ← Int.natCast_ediv, Int.toNat_natCast, Int.toNat_natCast]
        rw [e]
        exact bl_shift x.toNat s (by rw [← e]; omega)
    omega
  refine Evt.succ ?_
  simp only [bits_Len64.j0]
  by_cases c1 : x ≥ 65536
  · refine Evt.ite_pos c1 ?_
    by_cases c2 : x / 65536 ≥ 256
    · refine Evt.ite_pos c2 (Evt.ite_pos (by omega) (Evt.ite_pos (by omega) ?_))
      have e : x / 65536 / 256 % 256 = x / 65536 / 256 := by omega
      rw [e, len8_at (by omega) (by omega)]
      have k1 := key 24 (x / 65536 / 256) (by omega) (by omega) (by omega) (by omega) (by rw [Int.ediv_ediv_of_nonneg (by omega)]; rfl)
      have k2 := bl_le8 (x := (x / 65536 / 256).toNat) (by omega)
      rw [w64 (show -9223372036854775808 ≤ c + 16 by omega) (by omega), w64 (show -9223372036854775808 ≤ c + 16 + 8 by omega) (by omega), w64 (show -9223372036854775808 ≤ ((bl (x / 65536 / 256).toNat : Nat) : Int) by omega) (by omega), w64 (by omega) (by omega), k1]
      refine (Evt.pure _).congr (fun k => rfl) (by omega)
    · refine Evt.ite_neg c2 (Evt.ite_pos (by omega) (Evt.ite_pos (by omega) ?_))
      have e : x / 65536 % 256 = x / 65536 := by omega
      rw [e, len8_at (by omega) (by omega)]
      have k1 := key 16 (x / 65536) (by omega) (by omega) (by omega) (by omega) rfl
      have k2 := bl_le8 (x := (x / 65536).toNat) (by omega)
      rw [w64 (show -9223372036854775808 ≤ c + 16 by omega) (by omega), w64 (show -9223372036854775808 ≤ ((bl (x / 65536).toNat : Nat) : Int) by omega) (by omega), w64 (by omega) (by omega), k1]
      refine (Evt.pure _).congr (fun k => rfl) (by omega)
  · refine Evt.ite_neg c1 ?_
    by_cases c2 : x ≥ 256
    · refine Evt.ite_pos c2 (Evt.ite_pos (by omega) (Evt.ite_pos (by omega) ?_))
      have e : x / 256 % 256 = x / 256 := by omega
      rw [e, len8_at (by omega) (by omega)]
      have k1 := key 8 (x / 256) (by omega) (by omega) (by omega) (by omega) rfl
      have k2 := bl_le8 (x := (x / 256).toNat) (by omega)
      rw [w64 (show -9223372036854775808 ≤ c + 8 by omega) (by omega), w64 (show -9223372036854775808 ≤ ((bl (x / 256).toNat : Nat) : Int) by omega) (by omega), w64 (by omega) (by omega), k1]
      refine (Evt.pure _).congr (fun k => rfl) (by omega)
    · refine Evt.ite_neg c2 (Evt.ite_pos (by omega) (Evt.ite_pos (by omega) ?_))
      have e : x % 256 = x := by omega
      rw [e, len8_at (by omega) (by omega)]
      have k2 := bl_le8 (x := x.toNat) (by omega)
      rw [w64 (show -9223372036854775808 ≤ ((bl x.toNat : Nat) : Int) by omega) (by omega), w64 (by omega) (by omega)]
      exact Evt.pure _
theorem bits_Len64_ev {x : Int} (h0 : 0 ≤ x) (h1 : x < 18446744073709551616) : Evt (fun k => bits_Len64.f k x) ((bl x.toNat : Nat) : Int) := by
  unfold bits_Len64.f
  by_cases c1 : x ≥ 4294967296
  · refine Evt.ite_pos c1 ?_
    refine (len64_j (x := x / 4294967296) (by omega) (by omega) 32 (by omega)).congr (fun k => rfl) ?_
    have e : (x / 4294967296).toNat = x.toNat / 2 ^ 32 := by omega
    have := bl_shift x.toNat 32 (by omega)
    rw [e]
    omega
  · refine Evt.ite_neg c1 ?_
    exact (len64_j (x := x) (by omega) (by omega) 0 (by omega)).congr (fun k => rfl) (by omega)
theorem nat_Bits_ev (a : List Int) (ha : a.length ≤ maxLen) (da : Dig (b64 : Int) a) : Evt (fun k => nat_Bits.f k a) (bitsV a) := by
  unfold nat_Bits.f bitsV
  rw [nat_Right_eq ha]
  simp only [Option.bind_some]
  cases hA : rightB a with
  | true =>
    obtain ⟨h1, c1⟩ := (rightB_iff a).1 hA
    refine Evt.ite_pos rfl ?_
    by_cases h0 : a.length = 0
    · rw [if_neg (fun h => h.2 h0)]
      exact Evt.ite_pos (by omega) (Evt.pure _)
    · rw [if_pos (show true = true ∧ a.length ≠ 0 from ⟨rfl, h0⟩)]
      rw [w64 (show -9223372036854775808 ≤ (a.length : Int) - 1 by omega) (by omega)]
      refine Evt.ite_neg (by omega) (Evt.ite_pos (by omega) (Evt.ite_pos (by omega) ?_))
      rw [rd_getD, show ((a.length : Int) - 1).toNat = a.length - 1 from by omega]
      have hr := da.getD b64_pos (a.length - 1)
      simp only [b64] at hr
      refine Evt.bind (bits_Len64_ev hr.1 hr.2) ?_
      have hb := bl_le (x := (a.getD (a.length - 1) 0).toNat) (m := 64) (by omega)
      rw [w64 (show -9223372036854775808 ≤ 64 * ((a.length : Int) - 1) by omega) (by omega), w64 (by omega) (by omega)]
      exact Evt.pure _
  | false =>
    rw [if_neg (by simp)]
    exact Evt.ite_neg (by simp) (Evt.pure _)
end Go.Proofs.Ytanmfddlncdncab.Z
end
section
namespace Go.Proofs.Ytanmfddlncdncab.Z
open Go.RowKit Go.Proofs.YtanmfddlncdncabW.PrintWords
set_option linter.unusedSimpArgs false
set_option linter.unusedVariables false
def b8 : Nat := 256
theorem b8_two : 2 ≤ b8 := by decide
theorem b8_pos : (0 : Int) < (b8 : Int) := by decide
abbrev byts (v : Nat) : List Int := toD b8 v
theorem b8_pow2 (m : Nat) : b8 ^ m = 2 ^ (8 * m) := by
  have h : b8 = 2 ^ 8 := by decide
  rw [h, ← Nat.pow_mul]
theorem toD_getD {B : Nat} (hB : 2 ≤ B) (i : Nat) : ∀ v : Nat, (toD B v).getD i 0 = ((v / B ^ i % B : Nat) : Int) := by
  induction i with
  | zero =>
    intro v
    by_cases hv : v = 0
    · subst hv; rw [toD_zero]; simp
    · rw [toD_pos hB (by omega)]; simp
  | succ i ih =>
    intro v
    by_cases hv : v = 0
    · subst hv; rw [toD_zero]; simp
    · rw [toD_pos hB (by omega), List.getD_cons_succ, ih, Nat.div_div_eq_div_mul, Nat.pow_succ, Nat.mul_comm (B ^ i)]
theorem byts_len_iff (v m : Nat) : (byts v).length ≤ m ↔ bl v ≤ 8 * m := by
  rw [toD_len_iff b8_two, b8_pow2]
  exact ⟨bl_le, fun h => Nat.lt_of_lt_of_le (bl_lt v) (Nat.pow_le_pow_right (by decide) h)⟩
theorem byts_len (v : Nat) : (byts v).length = (bl v + 7) / 8 := by
  have h1 := (byts_len_iff v ((bl v + 7) / 8)).2 (by omega)
  have h2 := (byts_len_iff v (byts v).length).1 (Nat.le_refl _)
  omega
theorem limb_at {a : List Int} (da : Dig (b64 : Int) a) (ca : Can a) (i : Nat) : a.getD i 0 = ((num a / b64 ^ i % b64 : Nat) : Int) := by
  have h := toD_getD b64_two i (num a)
  rw [show toD b64 (num a) = a from limbs_num da ca] at h
  exact h
theorem can_last {a : List Int} (ca : Can a) (h0 : a.length ≠ 0) : a.getD (a.length - 1) 0 ≠ 0 := by
  have h : a ≠ [] := fun e => h0 (by rw [e]; rfl)
  have h2 := ca h
  rw [List.getLast_eq_getElem] at h2
  rw [List.getD_eq_getElem?_getD, List.getElem?_eq_getElem (show a.length - 1 < a.length by omega)]
  exact h2
theorem bitsV_bl {a : List Int} (da : Dig (b64 : Int) a) (hA : rightB a = true) : bitsV a = ((bl (num a) : Nat) : Int) := by
  obtain ⟨h1, ca⟩ := (rightB_iff a).1 hA
  unfold bitsV
  by_cases h0 : a.length = 0
  · rw [if_neg (fun h => h.2 h0)]
    have e : a = [] := List.length_eq_zero_iff.1 h0
    subst e
    rfl
  · rw [if_pos ⟨hA, h0⟩]
    have e := limb_at da ca (a.length - 1)
    have hlt := num_lt da
    have hne := can_last ca h0
    have hl : num a / b64 ^ (a.length - 1) < b64 := by
      apply Nat.div_lt_of_lt_mul
      rw [← Nat.pow_succ, show (a.length - 1).succ = a.length from by omega]
      exact hlt
    rw [Nat.mod_eq_of_lt hl] at e
    rw [e] at hne ⊢
    rw [b64_pow2] at hne ⊢
    have h2 := bl_shift (num a) (64 * (a.length - 1)) (fun hh => hne (by rw [hh]; rfl))
    rw [h2, Int.toNat_natCast]
    omega
theorem byte_of (v q r : Nat) (hr : r < 8) : v / b64 ^ q % b64 / 2 ^ (8 * r) % 256 = v / b8 ^ (8 * q + r) % b8 := by
  have h : b64 = 2 ^ (8 * r) * 2 ^ (64 - 8 * r) := by
    rw [← Nat.pow_add, show 8 * r + (64 - 8 * r) = 64 from by omega]; decide
  have hd : (256 : Nat) ∣ 2 ^ (64 - 8 * r) := Nat.pow_dvd_pow 2 (show 8 ≤ 64 - 8 * r by omega)
  have e1 : v / b64 ^ q % b64 / 2 ^ (8 * r) = v / b64 ^ q / 2 ^ (8 * r) % 2 ^ (64 - 8 * r) := by
    generalize v / b64 ^ q = x
    rw [h, Nat.mod_mul_right_div_self]
  rw [e1, Nat.mod_mod_of_dvd _ hd, Nat.div_div_eq_div_mul, b64_pow2, b8_pow2, ← Nat.pow_add, show 64 * q + 8 * r = 8 * (8 * q + r) from by omega]
  rfl
theorem byts_num_len {a : List Int} (da : Dig (b64 : Int) a) : (byts (num a)).length ≤ 8 * a.length := by
  rw [byts_len_iff]
  apply bl_le
  have := num_lt da
  rw [b64_pow2] at this
  rw [show 8 * (8 * a.length) = 64 * a.length from by omega]
  exact this
theorem tdiv_nat (i : Nat) (c : Nat) : Int.tdiv (i : Int) (c : Int) = ((i / c : Nat) : Int) := by
  rw [Int.tdiv_eq_ediv_of_nonneg (by omega)]; simp
theorem tmod_nat (i : Nat) (c : Nat) : Int.tmod (i : Int) (c : Int) = ((i % c : Nat) : Int) := by
  rw [Int.tmod_eq_emod_of_nonneg (by omega)]; simp
def bytesV (a : List Int) : List Int := if rightB a = true then (byts (num a)).reverse else []
def readV (b : List Int) : List Int × Int := if b.length > 512 then ([], 4) else (limbs (val (b8 : Int) b.reverse).toNat, 0)
theorem val_b8_lt {b : List Int} (h : Dig (b8 : Int) b) (hl : b.length ≤ 512) : (val (b8 : Int) b.reverse).toNat < b64 ^ 64 := by
  have h1 : Dig (b8 : Int) b.reverse := fun x hx => h x (List.mem_reverse.1 hx)
  have h2 := val_lt b8_pos h1
  have h3 := val_nonneg b8_pos h1
  rw [pow_cast, List.length_reverse] at h2
  have h4 : b8 ^ b.length ≤ b64 ^ 64 := by
    rw [b8_pow2]
    exact pow2_le_b64 (by omega)
  omega
end Go.Proofs.Ytanmfddlncdncab.Z
end
section
namespace Go.Proofs.Ytanmfddlncdncab.Z
open Go.RowKit Go.Proofs.Ytanmfddlncdncab.F Go.Proofs.YtanmfddlncdncabW.PrintWords
set_option linter.unusedSimpArgs false
set_option linter.unusedVariables false
theorem set_back (n i : Nat) (h : i < n) (T : List Int) (x : Int) : (List.replicate (n - i) (0 : Int) ++ T).set (n - 1 - i) x = List.replicate (n - (i + 1)) 0 ++ (x :: T) := by
  obtain ⟨m, hm⟩ : ∃ m, n - i = m + 1 := ⟨n - i - 1, by omega⟩
  rw [hm, show n - 1 - i = m from by omega, show n - (i + 1) = m from by omega, List.replicate_succ', List.append_assoc, List.set_append_right _ _ (by simp)]
  simp
theorem nat_Bytes_loop (a : List Int) (da : Dig (b64 : Int) a) (ca : Can a) (ha : a.length ≤ 64) (m : Nat) : ∀ i : Nat, i ≤ (byts (num a)).length → (byts (num a)).length - i = m →
    Evt (fun k => nat_Bytes.l0 k a ((byts (num a)).length : Int) (List.replicate ((byts (num a)).length - i) 0 ++ ((byts (num a)).take i).reverse) ((byts (num a)).length : Int) (i : Int)) (byts (num a)).reverse := by
  have hn := byts_num_len da
  induction m with
  | zero =>
    intro i hi hm
    refine Evt.succ ?_
    simp only [nat_Bytes.l0]
    refine Evt.ite_neg (by omega) ?_
    rw [show (byts (num a)).length - i = 0 from hm, List.take_of_length_le (by omega)]
    exact Evt.pure _
  | succ m ih =>
    intro i hi hm
    have hlt : i < (byts (num a)).length := by omega
    refine Evt.succ ?_
    simp only [nat_Bytes.l0]
    have e1 : wrap64 (Int.tdiv (i : Int) 8) = ((i / 8 : Nat) : Int) := by
      rw [show (8 : Int) = ((8 : Nat) : Int) from rfl, tdiv_nat]
      exact w64 (by omega) (by omega)
    have e2 : wrap64 (8 * Int.tmod (i : Int) 8) = ((8 * (i % 8) : Nat) : Int) := by
      rw [show Int.tmod (i : Int) 8 = Int.tmod (i : Int) ((8 : Nat) : Int) from rfl, tmod_nat, w64 (by omega) (by omega)]
      omega
    have e3 : wrap64 (wrap64 (((byts (num a)).length : Int) - 1) - (i : Int)) = (((byts (num a)).length - 1 - i : Nat) : Int) := by
      rw [w64 (show -9223372036854775808 ≤ ((byts (num a)).length : Int) - 1 by omega) (by omega), w64 (by omega) (by omega)]
      omega
    rw [e1, e2, e3, w64 (show -9223372036854775808 ≤ (i : Int) + 1 by omega) (by omega)]
    refine Evt.ite_pos (by omega) (Evt.ite_pos (by omega) (Evt.ite_pos (by omega) (Evt.ite_pos (by omega) (Evt.ite_pos (by omega) (Evt.ite_pos (by simp; omega) ?_)))))
    rw [Int.toNat_natCast, set_back _ _ hlt, rd_nat, shr_u64 _ _ (by omega), limb_at da ca]
    have h := ih (i + 1) hlt (by omega)
    refine h.congr (fun k => ?_) rfl
    have hv : ((num a / b64 ^ (i / 8) % b64 : Nat) : Int) / 2 ^ (8 * (i % 8)) % 256 = (byts (num a))[i] := by
      have g := toD_getD b8_two i (num a)
      rw [List.getD_eq_getElem?_getD, List.getElem?_eq_getElem hlt] at g
      rw [show (byts (num a))[i] = ((num a / b8 ^ i % b8 : Nat) : Int) from g]
      have hb := byte_of (num a) (i / 8) (i % 8) (by omega)
      rw [show 8 * (i / 8) + i % 8 = i from by omega] at hb
      rw [← hb]
      simp
    rw [hv, List.take_succ_eq_append_getElem hlt, List.reverse_append]
    rfl
theorem nat_Bytes_ev (a : List Int) (ha : a.length ≤ maxLen) (da : Dig (b64 : Int) a) : Evt (fun k => nat_Bytes.f k a) (bytesV a) := by
  unfold nat_Bytes.f bytesV
  rw [nat_Right_eq ha]
  simp only [Option.bind_some]
  cases hA : rightB a with
  | true =>
    obtain ⟨h1, c1⟩ := (rightB_iff a).1 hA
    rw [if_pos rfl]
    refine Evt.ite_pos rfl ?_
    refine Evt.bind (nat_Bits_ev a ha da) ?_
    rw [bitsV_bl da hA]
    have hl := byts_len (num a)
    have hn := byts_num_len da
    have hb := (byts_len_iff (num a) (byts (num a)).length).1 (Nat.le_refl _)
    have e : wrap64 (Int.tdiv (wrap64 (((bl (num a) : Nat) : Int) + 7)) 8) = ((byts (num a)).length : Int) := by
      rw [w64 (show -9223372036854775808 ≤ ((bl (num a) : Nat) : Int) + 7 by omega) (by omega), show ((bl (num a) : Nat) : Int) + 7 = ((bl (num a) + 7 : Nat) : Int) from by omega, show (8 : Int) = ((8 : Nat) : Int) from rfl, tdiv_nat, w64 (by omega) (by omega), hl]
    rw [e]
    refine Evt.ite_pos (by omega) (Evt.ite_pos (by omega) ?_)
    have h := nat_Bytes_loop a da c1 h1 (byts (num a)).length 0 (Nat.zero_le _) (by omega)
    refine h.congr (fun k => ?_) rfl
    simp
  | false =>
    rw [if_neg (by simp)]
    exact Evt.ite_neg (by simp) (Evt.pure _)
theorem or128 : ∀ a : Fin 256, Go.bits .or .u8 ((a.val : Nat) : Int) 128 = ((a.val % 128 + 128 : Nat) : Int) := by decide +kernel
theorem codec_Number_loop (n : Nat) : ∀ xs : List Int, n < 2 ^ 64 → xs.length + (encN n).length < 140737488355328 → Evt (fun k => codec_Number.l0 k (n : Int) xs) (xs ++ encN n) := by
  induction n using Nat.strongRecOn with
  | ind n ih =>
    intro xs hn hl
    refine Evt.succ ?_
    simp only [codec_Number.l0]
    have hp := encN_pos n
    by_cases h : n < 128
    · rw [encN_small h] at hl ⊢
      refine Evt.ite_neg (by omega) (Evt.ite_pos (by simp at hl; omega) ((Evt.pure _).congr (fun k => rfl) ?_))
      rw [show (n : Int) % 256 = (n : Int) from by omega]
    · rw [encN_big h] at hl ⊢
      refine Evt.ite_pos (by omega) (Evt.ite_pos (by simp at hl; omega) ?_)
      have e := or128 ⟨n % 256, Nat.mod_lt _ (by omega)⟩
      simp only [] at e
      rw [show (n : Int) % 256 = ((n % 256 : Nat) : Int) from by omega, e, show (n : Int) / 128 = ((n / 128 : Nat) : Int) from by omega, show n % 256 % 128 = n % 128 from by omega]
      have h2 := ih (n / 128) (by omega) (xs ++ [((n % 128 + 128 : Nat) : Int)]) (by omega) (by simp at hl ⊢; omega)
      rw [List.append_assoc] at h2
      exact h2
theorem encN_ten {n : Nat} (h : n < 2 ^ 64) : (encN n).length ≤ 10 := encN_len n 9 (Nat.lt_of_lt_of_le h (by decide))
theorem codec_Number_ev (n : Nat) (h : n < 2 ^ 64) : Evt (fun k => codec_Number.f k (n : Int)) (encN n) := codec_Number_loop n [] h (by have := encN_ten h; simp; omega)
theorem ref_Number_loop (n : Nat) : ∀ xs : List Int, n < 2 ^ 64 → xs.length + (encN n).length < 140737488355328 → Evt (fun k => windbreakref09_Number.l0 k (n : Int) xs) (xs ++ encN n) := by
  induction n using Nat.strongRecOn with
  | ind n ih =>
    intro xs hn hl
    refine Evt.succ ?_
    simp only [windbreakref09_Number.l0]
    have hp := encN_pos n
    by_cases h : n < 128
    · rw [encN_small h] at hl ⊢
      refine Evt.ite_neg (by omega) (Evt.ite_pos (by simp at hl; omega) ((Evt.pure _).congr (fun k => rfl) ?_))
      rw [show (n : Int) % 256 = (n : Int) from by omega]
    · rw [encN_big h] at hl ⊢
      refine Evt.ite_pos (by omega) (Evt.ite_pos (by simp at hl; omega) ?_)
      have e1 : IntKind.u64.wrap (Int.tmod (n : Int) 128 + 128) % 256 = ((n % 128 + 128 : Nat) : Int) := by
        rw [show (128 : Int) = ((128 : Nat) : Int) from rfl, tmod_nat, wu64_of (by omega) (by omega)]
        omega
      have e2 : IntKind.u64.wrap (Int.tdiv (n : Int) 128) = ((n / 128 : Nat) : Int) := by
        rw [show (128 : Int) = ((128 : Nat) : Int) from rfl, tdiv_nat, wu64_of (by omega) (by omega)]
      rw [e1, e2]
      have h2 := ih (n / 128) (by omega) (xs ++ [((n % 128 + 128 : Nat) : Int)]) (by omega) (by simp at hl ⊢; omega)
      rw [List.append_assoc] at h2
      exact h2
theorem ref_Number_ev (n : Nat) (h : n < 2 ^ 64) : Evt (fun k => windbreakref09_Number.f k (n : Int)) (encN n) := ref_Number_loop n [] h (by have := encN_ten h; simp; omega)
def encY (b : List Int) : List Int := encN b.length ++ b
theorem codec_Bytes_ev (b : List Int) (h : b.length < 1000000) : Evt (fun k => codec_Bytes.f k b) (encY b) := by
  unfold codec_Bytes.f
  rw [wu64_of (by omega) (by omega)]
  refine Evt.bind (codec_Number_ev b.length (by omega)) ?_
  have := encN_ten (n := b.length) (by omega)
  exact Evt.ite_pos (by omega) (Evt.pure _)
theorem ref_Bytes9_ev (b : List Int) (h : b.length < 1000000) : Evt (fun k => windbreakref09_Bytes.f k b) (encY b) := by
  unfold windbreakref09_Bytes.f
  rw [wu64_of (by omega) (by omega)]
  refine Evt.bind (ref_Number_ev b.length (by omega)) ?_
  have := encN_ten (n := b.length) (by omega)
  exact Evt.ite_pos (by omega) (Evt.pure _)
def natB (a : List Int) : Bool := rightB a && decide (a.length ≤ 4)
def rightV (a0 a1 a2 a3 : Int) (l4 l5 : List Int) (l6 : List (List Int)) : Bool :=
  decide (1 ≤ a0 ∧ a0 < 12 ∧ wire_ok a1 = true ∧ wire_ok a2 = true ∧ wire_ok a3 = true) && (wire_noughts (wire_kindOf a0.toNat).1 a1 a2 a3 && (wire_may l4.length (wire_kindOf a0.toNat).2.1 (wire_ints.f l4) && (wire_may l5.length (wire_kindOf a0.toNat).2.2.1 (wire_ints.f l5) && (wire_may l6.length (wire_kindOf a0.toNat).2.2.2 (l6.all natB) && (wire_incr l5 && wire_last a0 a3 l4 l6)))))
theorem nats_one {a : List Int} (h : a.length ≤ maxLen) : wire_nats.one a = some (natB a) := by
  unfold wire_nats.one natB
  rw [nat_Right_eq h, Option.bind_some, show decide ((a.length : Int) ≤ 4) = decide (a.length ≤ 4) from by rw [Bool.eq_iff_iff]; simp; omega]
theorem nats_f {l : List (List Int)} (h : ∀ a ∈ l, a.length ≤ maxLen) : wire_nats.f l = some (l.all natB) := by
  induction l with
  | nil => rfl
  | cons a l ih =>
    rw [wire_nats.f, nats_one (h a (by simp)), Option.bind_some, List.all_cons]
    cases hb : natB a with
    | true => rw [if_pos rfl, ih (fun x hx => h x (by simp [hx]))]; rfl
    | false => rfl
theorem wire_Right_eq (a0 a1 a2 a3 : Int) (l4 l5 : List Int) (l6 : List (List Int)) (h : ∀ a ∈ l6, a.length ≤ maxLen) : wire_Right.f a0 a1 a2 a3 l4 l5 l6 = some (rightV a0 a1 a2 a3 l4 l5 l6) := by
  unfold wire_Right.f rightV
  by_cases c0 : 1 ≤ a0 ∧ a0 < 12 ∧ wire_ok a1 = true ∧ wire_ok a2 = true ∧ wire_ok a3 = true
  · rw [if_pos c0, decide_eq_true c0, Bool.true_and]
    unfold wire_Right.g
    generalize wire_noughts (wire_kindOf a0.toNat).1 a1 a2 a3 = b1
    generalize wire_may l4.length (wire_kindOf a0.toNat).2.1 (wire_ints.f l4) = b2
    generalize wire_may l5.length (wire_kindOf a0.toNat).2.2.1 (wire_ints.f l5) = b3
    rw [nats_f h, Option.bind_some]
    generalize wire_may l6.length (wire_kindOf a0.toNat).2.2.2 (l6.all natB) = b4
    cases b1 <;> cases b2 <;> cases b3 <;> cases b4 <;> rfl
  · rw [if_neg c0, decide_eq_false c0]
    rfl
theorem right_parts {a0 a1 a2 a3 : Int} {l4 l5 : List Int} {l6 : List (List Int)} (h : rightV a0 a1 a2 a3 l4 l5 l6 = true) :
    (0 ≤ a0 ∧ a0 ≤ 1073741824) ∧ (0 ≤ a1 ∧ a1 ≤ 1073741824) ∧ (0 ≤ a2 ∧ a2 ≤ 1073741824) ∧ (0 ≤ a3 ∧ a3 ≤ 1073741824) ∧ l4.length ≤ 16384 ∧ l5.length ≤ 16384 ∧ l6.length ≤ 16384 ∧ (∀ x ∈ l4, 0 ≤ x ∧ x ≤ 1073741824) ∧ (∀ x ∈ l5, 0 ≤ x ∧ x ≤ 1073741824) ∧ (∀ a ∈ l6, rightB a = true ∧ a.length ≤ 4) := by
  unfold rightV at h
  simp only [Bool.and_eq_true, decide_eq_true_eq] at h
  obtain ⟨⟨k1, k2, o1, o2, o3⟩, h1, h2, h3, h4, h5⟩ := h
  unfold wire_may at h2 h3 h4
  unfold wire_ok at o1 o2 o3
  unfold wire_ints.f at h2 h3
  simp only [Bool.and_eq_true, decide_eq_true_eq, List.all_eq_true] at h2 h3 h4 o1 o2 o3
  refine ⟨⟨by omega, by omega⟩, o1, o2, o3, h2.1.1, h3.1.1, h4.1.1, h2.2, h3.2, fun a ha => ?_⟩
  have := h4.2 a ha
  unfold natB at this
  simpa [Bool.and_eq_true] using this
def encB (l : List (List Int)) : List Int := l.flatMap fun a => encY (bytesV a)
theorem encB_cons (a : List Int) (l : List (List Int)) : encB (a :: l) = encY (bytesV a) ++ encB l := by simp [encB]
def encM (a0 a1 a2 a3 : Int) (l4 l5 : List Int) (l6 : List (List Int)) : List Int :=
  encL [a0, a1, a2, a3] ++ (encN l4.length ++ encL l4) ++ (encN l5.length ++ encL l5) ++ encN l6.length ++ encB l6
def encodeV (a0 a1 a2 a3 : Int) (l4 l5 : List Int) (l6 : List (List Int)) : List Int × Int :=
  if rightV a0 a1 a2 a3 l4 l5 l6 = true then (if (encM a0 a1 a2 a3 l4 l5 l6).length > 1048576 then ([], 16) else (encM a0 a1 a2 a3 l4 l5 l6, 0)) else ([], 16)
theorem encL_len {l : List Int} (h : ∀ x ∈ l, 0 ≤ x ∧ x ≤ 1073741824) : (encL l).length ≤ 10 * l.length := by
  induction l with
  | nil => simp [encL]
  | cons x l ih =>
    have hx := h x (by simp)
    have := encN_ten (n := x.toNat) (by omega)
    have := ih (fun y hy => h y (by simp [hy]))
    rw [encL_cons]
    simp
    omega
theorem bytesV_len {a : List Int} (da : Dig (b64 : Int) a) (hr : rightB a = true) (h4 : a.length ≤ 4) : (bytesV a).length ≤ 32 := by
  unfold bytesV
  rw [if_pos hr, List.length_reverse]
  have := byts_num_len da
  omega
theorem wire_nums_ev (l : List Int) : ∀ xs : List Int, (∀ x ∈ l, 0 ≤ x ∧ x ≤ 1073741824) → xs.length + 10 * l.length < 100000000 → Evt (fun k => wire_Encode.nums k l xs) (xs ++ encL l) := by
  induction l with
  | nil => intro xs _ _; exact (Evt.pure _).congr (fun k => rfl) (by simp [encL])
  | cons n l ih =>
    intro xs h hl
    obtain ⟨h0, h1⟩ := h n (by simp)
    obtain ⟨m, rfl⟩ := Int.eq_ofNat_of_zero_le h0
    simp only [wire_Encode.nums]
    rw [wu64_of (by omega) (by omega)]
    refine Evt.bind (codec_Number_ev m (by omega)) ?_
    have h2 := encN_ten (n := m) (by omega)
    simp at hl
    refine Evt.ite_pos (by omega) ?_
    have h3 := ih (xs ++ encN m) (fun x hx => h x (by simp [hx])) (by simp; omega)
    rw [encL_cons, Int.toNat_natCast]
    rw [List.append_assoc] at h3
    exact h3
theorem wire_nats_ev (l : List (List Int)) : ∀ xs : List Int, (∀ a ∈ l, a.length ≤ maxLen ∧ Dig (b64 : Int) a ∧ rightB a = true ∧ a.length ≤ 4) → xs.length + 42 * l.length < 100000000 → Evt (fun k => wire_Encode.nats k l xs) (xs ++ encB l) := by
  induction l with
  | nil => intro xs _ _; exact (Evt.pure _).congr (fun k => rfl) (by simp [encB])
  | cons a l ih =>
    intro xs h hl
    obtain ⟨h0, h1, h2, h3⟩ := h a (by simp)
    have h4 := bytesV_len h1 h2 h3
    have h5 := encN_ten (n := (bytesV a).length) (by omega)
    have h6 : (encY (bytesV a)).length ≤ 42 := by unfold encY; simp; omega
    simp at hl
    simp only [wire_Encode.nats]
    refine Evt.bind (nat_Bytes_ev a h0 h1) (Evt.bind (codec_Bytes_ev _ (by omega)) (Evt.ite_pos (by omega) ?_))
    have h7 := ih (xs ++ encY (bytesV a)) (fun x hx => h x (by simp [hx])) (by simp; omega)
    rw [encB_cons]
    rw [List.append_assoc] at h7
    exact h7
theorem wire_Encode_ev (a0 a1 a2 a3 : Int) (l4 l5 : List Int) (l6 : List (List Int)) (h : ∀ a ∈ l6, a.length ≤ maxLen ∧ Dig (b64 : Int) a) : Evt (fun k => wire_Encode.f k a0 a1 a2 a3 l4 l5 l6) (encodeV a0 a1 a2 a3 l4 l5 l6) := by
  unfold wire_Encode.f encodeV
  rw [wire_Right_eq _ _ _ _ _ _ _ (fun a ha => (h a ha).1)]
  simp only [Option.bind_some]
  cases hR : rightV a0 a1 a2 a3 l4 l5 l6 with
  | false => rw [if_neg (by decide)]; exact Evt.ite_neg (by decide) (Evt.pure _)
  | true =>
    rw [if_pos rfl]
    obtain ⟨o0, o1, o2, o3, n4, n5, n6, h4, h5, h6⟩ := right_parts hR
    have b4 := encL_len h4
    have b5 := encL_len h5
    have b0 := encL_len (l := [a0, a1, a2, a3]) (by intro x hx; simp at hx; rcases hx with rfl | rfl | rfl | rfl <;> assumption)
    have t4 := encN_ten (n := l4.length) (by omega)
    have t5 := encN_ten (n := l5.length) (by omega)
    have t6 := encN_ten (n := l6.length) (by omega)
    simp only [List.length_cons, List.length_nil] at b0
    refine Evt.ite_pos rfl ?_
    have s1 := wire_nums_ev [a0, a1, a2, a3] [] (by intro x hx; simp at hx; rcases hx with rfl | rfl | rfl | rfl <;> assumption) (by simp)
    rw [List.nil_append] at s1
    refine Evt.bind s1 ?_
    have s2 : Evt (fun k => wire_Encode.lists k [l4, l5] (encL [a0, a1, a2, a3])) (encL [a0, a1, a2, a3] ++ (encN l4.length ++ encL l4) ++ (encN l5.length ++ encL l5)) := by
      simp only [wire_Encode.lists]
      have e4 := wire_nums_ev ((l4.length : Int) :: l4) (encL [a0, a1, a2, a3]) (by intro x hx; rcases List.mem_cons.1 hx with rfl | hx; exact ⟨by omega, by omega⟩; exact h4 x hx) (by simp; omega)
      rw [encL_cons (l4.length : Int) l4, Int.toNat_natCast] at e4
      refine Evt.bind e4 ?_
      have e5 := wire_nums_ev ((l5.length : Int) :: l5) (encL [a0, a1, a2, a3] ++ (encN l4.length ++ encL l4)) (by intro x hx; rcases List.mem_cons.1 hx with rfl | hx; exact ⟨by omega, by omega⟩; exact h5 x hx) (by simp; omega)
      rw [encL_cons (l5.length : Int) l5, Int.toNat_natCast] at e5
      exact Evt.bind e5 (Evt.pure _)
    refine Evt.bind s2 ?_
    have s3 := wire_nums_ev [(l6.length : Int)] (encL [a0, a1, a2, a3] ++ (encN l4.length ++ encL l4) ++ (encN l5.length ++ encL l5)) (by intro x hx; simp at hx; subst hx; exact ⟨by omega, by omega⟩) (by simp; omega)
    rw [encL_cons (l6.length : Int) [], encL_nil, List.append_nil, Int.toNat_natCast] at s3
    refine Evt.bind s3 ?_
    have s4 := wire_nats_ev l6 (encL [a0, a1, a2, a3] ++ (encN l4.length ++ encL l4) ++ (encN l5.length ++ encL l5) ++ encN l6.length) (fun a ha => ⟨(h a ha).1, (h a ha).2, h6 a ha⟩) (by simp; omega)
    refine Evt.bind s4 ?_
    exact Evt.pure _
def readN : Nat → List Int → Option (List Int × List Int)
  | 0, l => some ([], l)
  | n + 1, l => if (numV 1073741824 l).2.1 = 0 then (readN n (numV 1073741824 l).2.2).map fun r => (((numV 1073741824 l).1 : Int) :: r.1, r.2) else none
theorem numV_enc {n most : Nat} {x : List Int} (hm : n ≤ most) (h : n < 2 ^ 64) : numV most (encN n ++ x) = (n, 0, x) := by
  unfold numV
  rw [nxt_encN n 0 x (by simpa using h) (by omega) (by omega)]
  simp only
  rw [if_neg (by omega), List.drop_left]
theorem readN_enc : ∀ (l x : List Int), (∀ a ∈ l, 0 ≤ a ∧ a ≤ 1073741824) → readN l.length (encL l ++ x) = some (l, x) := by
  intro l
  induction l with
  | nil => intro x _; rfl
  | cons a l ih =>
    intro x h
    obtain ⟨h0, h1⟩ := h a (by simp)
    obtain ⟨n, rfl⟩ := Int.eq_ofNat_of_zero_le h0
    rw [List.length_cons, readN, encL_cons, List.append_assoc, Int.toNat_natCast, numV_enc (by omega) (by omega)]
    simp only [if_true]
    rw [ih x (fun b hb => h b (by simp [hb]))]
    rfl
theorem numV_ok {most : Nat} {l : List Int} (hd : Dig 256 l) (h : (numV most l).2.1 = 0) : l = encN (numV most l).1 ++ (numV most l).2.2 ∧ (numV most l).1 ≤ most ∧ (numV most l).1 < 2 ^ 64 := by
  unfold numV at h ⊢
  rcases hn : nxt 0 l with _ | ⟨n, k⟩
  · rw [hn] at h; simp at h
  · rw [hn] at h
    simp only at h ⊢
    by_cases hm : most < n
    · rw [if_pos hm] at h; simp at h
    · rw [if_neg hm]
      obtain ⟨a1, a2, a3, _⟩ := nxt_of l 0 n k hd (by omega) hn
      refine ⟨?_, by omega, by simpa using a3⟩
      rw [← a2]
      exact (List.take_append_drop k l).symm
theorem bytV_enc {b x : List Int} {most : Nat} (hm : b.length ≤ most) (h : b.length < 2 ^ 64) : bytV most (encY b ++ x) = (b, 0, x) := by
  unfold bytV encY
  rw [List.append_assoc, nxt_encN b.length 0 (b ++ x) (by simpa using h) (by omega) (by omega)]
  simp only
  rw [if_neg (by simp; omega), List.drop_left, List.take_left, ← List.drop_drop, List.drop_left, List.drop_left]
theorem bytV_ok {most : Nat} {l : List Int} (hd : Dig 256 l) (h : (bytV most l).2.1 = 0) : l = encY (bytV most l).1 ++ (bytV most l).2.2 ∧ (bytV most l).1.length ≤ most := by
  unfold bytV at h ⊢
  rcases hn : nxt 0 l with _ | ⟨n, k⟩
  · rw [hn] at h; simp at h
  · rw [hn] at h
    simp only at h ⊢
    by_cases hm : most < n ∨ l.length - k < n
    · rw [if_pos hm] at h; simp at h
    · rw [if_neg hm]
      obtain ⟨a1, a2, a3, _⟩ := nxt_of l 0 n k hd (by omega) hn
      have hl : ((l.drop k).take n).length = n := by rw [List.length_take, List.length_drop]; omega
      unfold encY
      simp only
      rw [hl, ← a2, List.append_assoc, ← List.drop_drop, List.take_append_drop, List.take_append_drop]
      exact ⟨rfl, by omega⟩
theorem toList_loop (bs : ByteArray) (n : Nat) : ∀ i r, bs.size - i = n → ByteArray.toList.loop bs i r = r.reverse ++ bs.data.toList.drop i := by
  induction n with
  | zero =>
    intro i r h
    unfold ByteArray.toList.loop
    rw [if_neg (by omega), List.drop_of_length_le (by simp; omega), List.append_nil]
  | succ n ih =>
    intro i r h
    have hi : i < bs.size := by omega
    unfold ByteArray.toList.loop
    rw [if_pos hi, ih (i + 1) _ (by omega), List.reverse_cons, List.append_assoc]
    congr 1
    have hl : i < bs.data.toList.length := by simpa using hi
    rw [List.drop_eq_getElem_cons hl]
    have : bs.get! i = bs.data.toList[i] := by
      show bs.data[i]! = _
      rw [getElem!_pos bs.data i (by simpa using hi)]
      simp
    rw [this]
    rfl
theorem toList_data (bs : ByteArray) : bs.toList = bs.data.toList := by
  unfold ByteArray.toList
  rw [toList_loop bs bs.size 0 [] (by omega)]
  rfl
theorem str_inj {l m : List Int} (hl : ∀ x ∈ l, 0 ≤ x ∧ x < 256) (hm : ∀ x ∈ m, 0 ≤ x ∧ x < 256) : ((strOfNums l).toList == (strOfNums m).toList) = decide (l = m) := by
  rw [toList_data, toList_data, strOfNums_data, strOfNums_data, Bool.eq_iff_iff, beq_iff_eq, decide_eq_true_eq]
  constructor
  · intro h
    have h2 := congrArg (List.map fun c : UInt8 => ((c.toNat : Nat) : Int)) h
    rw [List.map_map, List.map_map] at h2
    have e : ∀ {l : List Int}, (∀ x ∈ l, 0 ≤ x ∧ x < 256) → l.map ((fun c : UInt8 => ((c.toNat : Nat) : Int)) ∘ fun n : Int => UInt8.ofNat n.toNat) = l := by
      intro l hl
      conv => rhs; rw [← List.map_id l]
      refine List.map_congr_left (fun x hx => ?_)
      have := hl x hx
      simp only [Function.comp, UInt8.toNat_ofNat', id]
      omega
    rwa [e hl, e hm] at h2
  · intro h
    rw [h]
theorem sameInts_loop (l m : List Int) (h : l.length ≤ maxLen) (hlm : l.length = m.length) (d : Nat) : ∀ i : Nat, i ≤ l.length → l.length - i = d → Evt (fun k => windbreakref12_SameInts.l0 k l m (i : Int)) (decide (l.drop i = m.drop i)) := by
  unfold maxLen at h
  induction d with
  | zero =>
    intro i hi hd
    refine Evt.succ ?_
    simp only [windbreakref12_SameInts.l0]
    refine Evt.ite_neg (by omega) ?_
    rw [List.drop_of_length_le (by omega), List.drop_of_length_le (by omega)]
    exact Evt.pure _
  | succ d ih =>
    intro i hi hd
    have hl : i < l.length := by omega
    have hm : i < m.length := by omega
    refine Evt.succ ?_
    simp only [windbreakref12_SameInts.l0]
    refine Evt.ite_pos (by omega) (Evt.ite_pos (by omega) (Evt.ite_pos (by omega) ?_))
    have e1 : rd l (i : Int) = l[i] := by simp [rd_nat, hl]
    have e2 : rd m (i : Int) = m[i] := by simp [rd_nat, hm]
    rw [e1, e2, w64 (by omega) (by omega), List.drop_eq_getElem_cons hl, List.drop_eq_getElem_cons hm]
    by_cases he : l[i] = m[i]
    · refine Evt.ite_pos he ?_
      refine (ih (i + 1) (by omega) (by omega)).congr (fun k => rfl) ?_
      rw [he]
      simp only [List.cons.injEq, true_and]
    · refine Evt.ite_neg he ?_
      have : decide (l[i] :: l.drop (i + 1) = m[i] :: m.drop (i + 1)) = false := by
        simp only [List.cons.injEq, decide_eq_false_iff_not]
        exact fun hh => he hh.1
      rw [this]
      exact Evt.pure _
theorem sameInts_ev (l m : List Int) (h : l.length ≤ maxLen) : Evt (fun k => windbreakref12_SameInts.f k l m) (decide (l = m)) := by
  unfold windbreakref12_SameInts.f
  by_cases hlm : l.length = m.length
  · refine Evt.ite_pos (by omega) ?_
    exact (sameInts_loop l m h hlm l.length 0 (Nat.zero_le _) (by omega)).congr (fun k => rfl) (by simp)
  · refine Evt.ite_neg (by omega) ?_
    have : decide (l = m) = false := by
      simp only [decide_eq_false_iff_not]
      intro e
      exact hlm (by rw [e])
    rw [this]
    exact Evt.pure _
theorem sameNats_loop (l m : List (List Int)) (h : l.length ≤ maxLen) (hn : ∀ a ∈ l, a.length ≤ maxLen) (hlm : l.length = m.length) (d : Nat) : ∀ i : Nat, i ≤ l.length → l.length - i = d → Evt (fun k => windbreakref12_SameNats.l0 k l m (i : Int)) (decide (l.drop i = m.drop i)) := by
  unfold maxLen at h
  induction d with
  | zero =>
    intro i hi hd
    refine Evt.succ ?_
    simp only [windbreakref12_SameNats.l0]
    refine Evt.ite_neg (by omega) ?_
    rw [List.drop_of_length_le (by omega), List.drop_of_length_le (by omega)]
    exact Evt.pure _
  | succ d ih =>
    intro i hi hd
    have hl : i < l.length := by omega
    have hm : i < m.length := by omega
    refine Evt.succ ?_
    simp only [windbreakref12_SameNats.l0]
    refine Evt.ite_pos (by omega) (Evt.ite_pos (by omega) (Evt.ite_pos (by omega) ?_))
    have e1 : rd_L3 l (i : Int) = l[i] := by
      show l.getD i [] = _
      rw [List.getD_eq_getElem?_getD, List.getElem?_eq_getElem hl]
      rfl
    have e2 : rd_L3 m (i : Int) = m[i] := by
      show m.getD i [] = _
      rw [List.getD_eq_getElem?_getD, List.getElem?_eq_getElem hm]
      rfl
    rw [e1, e2, w64 (by omega) (by omega), List.drop_eq_getElem_cons hl, List.drop_eq_getElem_cons hm]
    refine Evt.bind (same_ev _ _ (hn _ (List.getElem_mem hl))) ?_
    by_cases he : l[i] = m[i]
    · refine Evt.ite_pos (decide_eq_true he) ?_
      refine (ih (i + 1) (by omega) (by omega)).congr (fun k => rfl) ?_
      rw [he]
      simp only [List.cons.injEq, true_and]
    · refine Evt.ite_neg (by rw [decide_eq_false he]; decide) ?_
      have : decide (l[i] :: l.drop (i + 1) = m[i] :: m.drop (i + 1)) = false := by
        simp only [List.cons.injEq, decide_eq_false_iff_not]
        exact fun hh => he hh.1
      rw [this]
      exact Evt.pure _
theorem sameNats_ev (l m : List (List Int)) (h : l.length ≤ maxLen) (hn : ∀ a ∈ l, a.length ≤ maxLen) : Evt (fun k => windbreakref12_SameNats.f k l m) (decide (l = m)) := by
  unfold windbreakref12_SameNats.f
  by_cases hlm : l.length = m.length
  · refine Evt.ite_pos (by omega) ?_
    exact (sameNats_loop l m h hn hlm l.length 0 (Nat.zero_le _) (by omega)).congr (fun k => rfl) (by simp)
  · refine Evt.ite_neg (by omega) ?_
    have : decide (l = m) = false := by
      simp only [decide_eq_false_iff_not]
      intro e
      exact hlm (by rw [e])
    rw [this]
    exact Evt.pure _
theorem Same_ev (a0 a1 a2 a3 : Int) (l4 l5 : List Int) (l6 : List (List Int)) (b0 b1 b2 b3 : Int) (m4 m5 : List Int) (m6 : List (List Int)) (h4 : l4.length ≤ maxLen) (h5 : l5.length ≤ maxLen) (h6 : l6.length ≤ maxLen) (hn : ∀ a ∈ l6, a.length ≤ maxLen) :
    Evt (fun k => windbreakref12_Same.f k a0 a1 a2 a3 l4 l5 l6 b0 b1 b2 b3 m4 m5 m6) (decide (a0 = b0 ∧ a1 = b1 ∧ a2 = b2 ∧ a3 = b3 ∧ l4 = m4 ∧ l5 = m5 ∧ l6 = m6)) := by
  unfold windbreakref12_Same.f
  refine Evt.bind (sameInts_ev l4 m4 h4) (Evt.bind (sameInts_ev l5 m5 h5) (Evt.bind (sameNats_ev l6 m6 h6 hn) ?_))
  by_cases c0 : a0 = b0
  · refine Evt.ite_pos c0 ?_
    by_cases c1 : a1 = b1
    · refine Evt.ite_pos c1 ?_
      by_cases c2 : a2 = b2
      · refine Evt.ite_pos c2 ?_
        by_cases c3 : a3 = b3
        · refine Evt.ite_pos c3 ?_
          by_cases c4 : l4 = m4
          · refine Evt.ite_pos (decide_eq_true c4) ?_
            by_cases c5 : l5 = m5
            · refine Evt.ite_pos (decide_eq_true c5) ((Evt.pure _).congr (fun k => rfl) ?_)
              simp [c0, c1, c2, c3, c4, c5]
            · exact Evt.ite_neg (by simp [c5]) ((Evt.pure _).congr (fun k => rfl) (by simp [c5]))
          · exact Evt.ite_neg (by simp [c4]) ((Evt.pure _).congr (fun k => rfl) (by simp [c4]))
        · exact Evt.ite_neg c3 ((Evt.pure _).congr (fun k => rfl) (by simp [c3]))
      · exact Evt.ite_neg c2 ((Evt.pure _).congr (fun k => rfl) (by simp [c2]))
    · exact Evt.ite_neg c1 ((Evt.pure _).congr (fun k => rfl) (by simp [c1]))
  · exact Evt.ite_neg c0 ((Evt.pure _).congr (fun k => rfl) (by simp [c0]))
theorem encB_dig {l : List (List Int)} : Dig 256 (encB l) := by
  intro x hx
  unfold encB at hx
  obtain ⟨a, ha, hx⟩ := List.mem_flatMap.1 hx
  unfold encY at hx
  rcases List.mem_append.1 hx with hx | hx
  · exact encN_dig _ x hx
  · unfold bytesV at hx
    split at hx
    · exact toD_dig b8_two (num a) x (List.mem_reverse.1 hx)
    · simp at hx
theorem encL_dig {l : List Int} : Dig 256 (encL l) := by
  intro x hx
  obtain ⟨a, ha, hx⟩ := List.mem_flatMap.1 hx
  exact encN_dig _ x hx
theorem encM_dig {a0 a1 a2 a3 : Int} {l4 l5 : List Int} {l6 : List (List Int)} : Dig 256 (encM a0 a1 a2 a3 l4 l5 l6) := by
  unfold encM
  exact Dig.append.2 ⟨Dig.append.2 ⟨Dig.append.2 ⟨Dig.append.2 ⟨encL_dig, Dig.append.2 ⟨encN_dig _, encL_dig⟩⟩, Dig.append.2 ⟨encN_dig _, encL_dig⟩⟩, encN_dig _⟩, encB_dig⟩
theorem pow_b64_b8 (q r : Nat) : (b64 : Int) ^ q * 2 ^ (8 * r) = (b8 : Int) ^ (8 * q + r) := by
  rw [pow_cast, pow_cast, show (2 : Int) ^ (8 * r) = ((2 ^ (8 * r) : Nat) : Int) from by simp, ← Int.natCast_mul]
  congr 1
  rw [b64_pow2, b8_pow2, ← Nat.pow_add]
  congr 1
  omega
def room (i j : Nat) : Int := 2 ^ (8 * min 8 (i - 8 * j))
theorem room_mono (i j : Nat) : room i j ≤ room (i + 1) j := pow_mono (by omega) (by omega)
theorem room_max (i j : Nat) : room i j ≤ 18446744073709551616 := by
  have h : (2 : Int) ^ (8 * min 8 (i - 8 * j)) ≤ 2 ^ 64 := pow_mono (by omega) (by omega)
  exact h
theorem nat_Read_loop (b : List Int) (hb : b.length ≤ 512) (db : Dig (b8 : Int) b) {r : List Int × Int} (n : Nat) : ∀ (i : Nat) (out : List Int), i ≤ b.length → b.length - i = n → out.length = (b.length + 7) / 8 →
    (∀ j : Nat, 0 ≤ out.getD j 0 ∧ out.getD j 0 < room i j) → val (b64 : Int) out = val (b8 : Int) (b.reverse.take i) →
    (∀ o : List Int, o.length = (b.length + 7) / 8 → Dig (b64 : Int) o → val (b64 : Int) o = val (b8 : Int) b.reverse → Evt (fun k => (nat_told.f k o).bind fun t => some (t.1, t.2)) r) →
    Evt (fun k => nat_Read.l0 k b out (b.length : Int) (i : Int)) r := by
  induction n with
  | zero =>
    intro i out hi hn hl hj hv fin
    refine Evt.succ ?_
    simp only [nat_Read.l0]
    refine Evt.ite_neg (by omega) ?_
    rw [List.take_of_length_le (by simp; omega)] at hv
    refine fin out hl (fun x hx => ?_) hv
    obtain ⟨j, hj1, rfl⟩ := List.getElem_of_mem hx
    have h1 := hj j
    have h2 := room_max i j
    rw [List.getD_eq_getElem?_getD, List.getElem?_eq_getElem hj1] at h1
    simp only [Option.getD_some] at h1
    simp only [b64]
    omega
  | succ n ih =>
    intro i out hi hn hl hj hv fin
    have hlt : i < b.length := by omega
    refine Evt.succ ?_
    simp only [nat_Read.l0]
    have e1 : wrap64 (Int.tdiv (i : Int) 8) = ((i / 8 : Nat) : Int) := by
      rw [show (8 : Int) = ((8 : Nat) : Int) from rfl, tdiv_nat]
      exact w64 (by omega) (by omega)
    have e2 : wrap64 (8 * Int.tmod (i : Int) 8) = ((8 * (i % 8) : Nat) : Int) := by
      rw [show Int.tmod (i : Int) 8 = Int.tmod (i : Int) ((8 : Nat) : Int) from rfl, tmod_nat, w64 (by omega) (by omega)]
      omega
    have e3 : wrap64 (wrap64 ((b.length : Int) - 1) - (i : Int)) = ((b.length - 1 - i : Nat) : Int) := by
      rw [w64 (show -9223372036854775808 ≤ (b.length : Int) - 1 by omega) (by omega), w64 (by omega) (by omega)]
      omega
    rw [e1, e2, e3, w64 (show -9223372036854775808 ≤ (i : Int) + 1 by omega) (by omega)]
    refine Evt.ite_pos (by omega) (Evt.ite_pos (by omega) (Evt.ite_pos (by omega) (Evt.ite_pos (by omega) (Evt.ite_pos (by omega) ?_))))
    have hx := db.getD b8_pos (b.length - 1 - i)
    have hR : b.reverse[i]'(by simp; omega) = b.getD (b.length - 1 - i) 0 := by
      rw [List.getElem_reverse, List.getD_eq_getElem?_getD, List.getElem?_eq_getElem (show b.length - 1 - i < b.length by omega)]
      rfl
    have ho := hj (i / 8)
    rw [rd_nat, rd_nat, Int.toNat_natCast]
    generalize hxx : b.getD (b.length - 1 - i) 0 = x at *
    simp only [b8] at hx
    have hs : (2 : Int) ^ (8 * (i % 8)) * 256 ≤ 18446744073709551616 := by
      have h : (2 : Int) ^ (8 * (i % 8) + 8) ≤ 2 ^ 64 := pow_mono (by omega) (by omega)
      rw [Int.pow_add] at h
      exact h
    have hp := pow2_pos (8 * (i % 8))
    have hr0 : room i (i / 8) = 2 ^ (8 * (i % 8)) := by
      unfold room
      rw [show min 8 (i - 8 * (i / 8)) = i % 8 from by omega]
    have hr1 : room (i + 1) (i / 8) = 2 ^ (8 * (i % 8)) * 256 := by
      unfold room
      rw [show 8 * min 8 (i + 1 - 8 * (i / 8)) = 8 * (i % 8) + 8 from by omega, Int.pow_add]
      rfl
    rw [hr0] at ho
    have hxm : x * 2 ^ (8 * (i % 8)) ≤ 255 * 2 ^ (8 * (i % 8)) := Int.mul_le_mul_of_nonneg_right (by omega) (by omega)
    have hx0 : 0 ≤ x * 2 ^ (8 * (i % 8)) := Int.mul_nonneg hx.1 (by omega)
    have hmod : (x * 2 ^ (8 * (i % 8))) % 2 ^ (8 * (i % 8)) = 0 := Int.mul_emod_left _ _
    rw [wu64_of hx.1 (by omega), shl_u64 _ _ (by omega), Int.emod_eq_of_lt hx0 (by omega)]
    have hor : Go.bits .or .u64 (out.getD (i / 8) 0) (x * 2 ^ (8 * (i % 8))) = out.getD (i / 8) 0 + x * 2 ^ (8 * (i % 8)) := by
      rw [or_comm_u64 ho.1 (by omega) hx0 (by omega), or_u64 (8 * (i % 8)) (by omega) hx0 hmod (by omega) ho.1 ho.2, Int.add_comm]
    rw [hor]
    refine ih (i + 1) (out.set (i / 8) (out.getD (i / 8) 0 + x * 2 ^ (8 * (i % 8)))) hlt (by omega) (by simp; exact hl) (fun j => ?_) ?_ fin
    · by_cases hji : j = i / 8
      · subst hji
        rw [List.getD_eq_getElem?_getD, List.getElem?_set_self (by omega)]
        simp only [Option.getD_some]
        rw [hr1]
        omega
      · have h1 := hj j
        have h2 := room_mono i j
        rw [List.getD_eq_getElem?_getD] at h1 ⊢
        rw [List.getElem?_set_ne (by omega)]
        omega
    · rw [val_set _ _ _ _ (by omega), hv, val_take_step _ _ _ (by simp; omega), hR]
      have h3 := pow_b64_b8 (i / 8) (i % 8)
      rw [show 8 * (i / 8) + i % 8 = i from by omega] at h3
      rw [← h3]
      generalize out.getD (i / 8) 0 = o
      generalize (b64 : Int) ^ (i / 8) = P
      generalize (2 : Int) ^ (8 * (i % 8)) = Q
      grind
theorem nat_Read_ev (b : List Int) (hb : b.length ≤ maxLen) (db : Dig (b8 : Int) b) (k : Nat) (hk : k ≤ b.length) (hz : ∀ j, j < k → b.getD j 0 = 0) (hn : k < b.length → b.getD k 0 ≠ 0) : Evt (fun m => nat_Read.f m b) (readV (b.drop k)) := by
  have hbl : b.length ≤ 9223372036854775807 := by simp only [maxLen] at hb; omega
  unfold nat_Read.f readV
  simp only [nat_Read_ix.f, Option.bind_some]
  have hg : nat_Read_ix.g b 0 = (if k < b.length then (k : Int) else -1) := by
    rcases nat_Read_ix.g_of b 0 with ⟨h1, h2⟩ | ⟨q, h1, h2, h3, h4⟩
    · by_cases h : k < b.length
      · exact absurd (h2 k h) (hn h)
      · rw [if_neg h, h1]
    · by_cases h : k < b.length
      · rw [if_pos h, h2]
        have a1 : ¬ q < k := fun hq => h3 (hz q hq)
        have a2 : ¬ k < q := fun hq => hn h (h4 k hq)
        omega
      · exact absurd (hz q (by omega)) h3
  rw [hg]
  by_cases h : k < b.length
  · rw [if_pos h]
    refine Evt.ite_neg (by omega) (Evt.ite_pos (by omega) (Evt.ite_pos (by omega) ?_))
    rw [Int.toNat_natCast]
    have dc : Dig (b8 : Int) (b.drop k) := db.drop k
    generalize b.drop k = c at *
    by_cases hc : c.length > 512
    · rw [if_pos hc]
      exact Evt.ite_pos (by omega) (Evt.pure _)
    · rw [if_neg hc]
      have e : wrap64 (Int.tdiv (wrap64 ((c.length : Int) + 7)) 8) = (((c.length + 7) / 8 : Nat) : Int) := by
        rw [w64 (show -9223372036854775808 ≤ (c.length : Int) + 7 by omega) (by omega), show (c.length : Int) + 7 = ((c.length + 7 : Nat) : Int) from by omega, show (8 : Int) = ((8 : Nat) : Int) from rfl, tdiv_nat, w64 (by omega) (by omega)]
      rw [e]
      refine Evt.ite_neg (by omega) (Evt.ite_pos (by omega) (Evt.ite_pos (by omega) ?_))
      rw [Int.toNat_natCast]
      refine nat_Read_loop c (by omega) dc c.length 0 _ (Nat.zero_le _) (by omega) (by simp) (fun j => ?_) ?_ ?_
      · have e0 : (List.replicate ((c.length + 7) / 8) (0 : Int)).getD j 0 = 0 := by
          rw [List.getD_eq_getElem?_getD, List.getElem?_replicate]
          split <;> rfl
        rw [e0]
        exact ⟨Int.le_refl _, Int.pow_pos (by omega)⟩
      · rw [val_replicate]; rfl
      · intro o ho do_ hv
        have ht := nat_told_ev o (by omega) do_
        have hnum : num o = (val (b8 : Int) c.reverse).toNat := by unfold num; rw [hv]
        rw [hnum] at ht
        have hlt := val_b8_lt dc (by omega)
        unfold toldV at ht
        rw [if_pos hlt] at ht
        exact Evt.bind ht (h := fun t _ => some (t.1, t.2)) (Evt.pure _)
  · rw [if_neg h, show b.drop k = [] from List.drop_of_length_le (by omega)]
    refine Evt.ite_pos (by omega) ?_
    rw [if_neg (by simp)]
    have e : limbs (val (b8 : Int) ([] : List Int).reverse).toNat = [] := toD_zero b64
    rw [e]
    exact Evt.pure _
theorem awake12_enc : encodeV 2 4 2 0 [] [] [] = ([2, 4, 2, 0, 0, 0, 0], 0) := by
  have e : encM 2 4 2 0 [] [] [] = [2, 4, 2, 0, 0, 0, 0] := by
    simp [encM, encL, encN_small, encB]
  have hR : rightV 2 4 2 0 [] [] [] = true := by decide
  unfold encodeV
  rw [e, if_pos hR]
  rfl
theorem awake12_ev : Evt (fun k => windbreaklaw12_awake.f k) true := by
  unfold windbreaklaw12_awake.f
  have h := wire_Encode_ev 2 4 2 0 [] [] [] (fun a ha => by simp at ha)
  rw [awake12_enc] at h
  refine Evt.bind h (Evt.ite_pos rfl ((Evt.pure _).congr (fun k => rfl) ?_))
  simp
end Go.Proofs.Ytanmfddlncdncab.Z
end
section
namespace Go.Proofs.Ytanmfddlncdncab.F
open Go.RowKit Go.Proofs.YtanmfddlncdncabW.PrintWords Go.Proofs.YtanmfddlncdncabW.PrintLast Go.Proofs.YtanmfddlncdncabW.PrintMore
open Go.Proofs.Ytanmfddlncdncab.Z (nxt encN Dig readN)
set_option linter.unusedVariables false
set_option linter.unusedSimpArgs false
def readI (l : List Int) : List Int × Bool × List Int := if (numV 16384 l).2.1 = 0 then (match readN (numV 16384 l).1 (numV 16384 l).2.2 with | some r => (r.1, true, r.2) | none => ([], false, [])) else ([], false, [])
theorem numV_dig {most : Nat} {l : List Int} (hd : Dig 256 l) : Dig 256 (numV most l).2.2 := by
  unfold numV
  rcases nxt 0 l with _ | r
  · exact hd
  · by_cases h : most < r.1
    · simp only [if_pos h]; exact hd
    · simp only [if_neg h]; exact hd.drop r.2
theorem Rdr.grown {w w1 : World} {g : Nat} {ok : Nat → Prop} {l : List Int} {row : Option Nat} (h : Rdr w g ok l) (hg : w.grownBy w1 row) (hr : ∀ k, row = some k → g < k) (hkl : ∀ k, ok k → k < g) : Rdr w1 g ok l := by
  obtain ⟨A, c, h1, h2, h3⟩ := h
  exact ⟨A, c, (hg.block g (blk_lt h1) (fun e => Nat.lt_irrefl g (hr g e.symm))).trans h1, h2, Kd.F_grown h3 hg (fun k hk e => by have := hr k e.symm; have := hkl k hk; omega)⟩
set_option maxHeartbeats 8000000 in
set_option maxRecDepth 100000 in
theorem wire_readints.calls (gr g : Nat) (l : List Int) (ok : Nat → Prop) (w : World) (hC : RBox w gr g) (hR : Rdr w g ok l) (hk : ∀ k, ok k → k ≠ g) (hd : Dig 256 l) (hg : gr ≠ g) (hkl : ∀ k, ok k → k < g) :
    Calls Try.prog 28 #[.pointer (some ⟨g, 0, none⟩), .func (.func 23) #[] #[.pointer (some ⟨gr, 0, none⟩)]] w fun e w' => ∃ v : Value, e = .returned (.tuple #[v, .bool (readI l).2.1]) ∧ Kd.R (Kd.int .i64) 3 w' w.heap.size (fun _ => True) v (readI l).1 ∧ (∃ l', Rdr w' g ok l' ∧ ((readI l).2.1 = true → l' = (readI l).2.2)) ∧ KG w w' g := by
  have HR := Aside0.mk hR
  have HD := Aside0.mk hd
  have HD1 := Aside0.mk (numV_dig (most := 16384) hd)
  have HK := Aside0.mk hk
  have HC := Aside0.mk hC
  have HKL := Aside0.mk hkl
  have hnum : ∀ w, Rdr w g ok l → (∀ k, ok k → k ≠ g) → Dig 256 l → Calls Try.prog 24 #[.pointer (some ⟨g, 0, none⟩), .int .u64 16384] w fun e w' => e = .returned (.tuple #[.int .u64 ((numV 16384 l).1 : Int), .int .i64 (numV 16384 l).2.1]) ∧ Rdr w' g ok (numV 16384 l).2.2 ∧ KG w w' g := fun w => codec_read.calls g 16384 l ok w
  have hle := numV_le (most := 16384) (l := l)
  obtain ⟨rv, hrv⟩ : ∃ rv, readI l = rv := ⟨_, rfl⟩
  rw [hrv]
  unfold readI at hrv
  clear hR hk hd hC hkl
  generalize numV 16384 l = v at hle hnum hrv HD1
  obtain ⟨n, er, l1⟩ := v
  simp only at hle hnum hrv HD1
  have HN := Aside0.mk hnum
  clear hnum
  by_cases he : er = 0
  · subst he
    rw [if_pos rfl] at hrv
    have HRV := Aside0.mk hrv
    clear hrv
    go_enter Try.func28, Try.ntmps28
    go_wp2_with (go_at_call 24; (with_reducible refine (HN.out _ HR.out HK.out HD.out).mono ?_); rintro e w1 ⟨rfl, hr, hk⟩; have HR1 := Aside0.mk hr; have HK1 := Aside0.mk hk; clear hr hk)
    go_loopg [8, 19] n (fun gg v8 v19 wr => ∃ (i : Nat) (ys li : List Int), v19 = .int .u64 (i : Int) ∧ i ≤ n ∧ n - i ≤ gg ∧ Aside0 (Kd.R (Kd.int .i64) 3 wr w.heap.size (fun _ => True) v8 ys) ∧ Aside0 (Rdr wr g ok li) ∧ Aside0 (Dig 256 li) ∧ Aside0 (KG w wr g) ∧ Aside0 ((match (readN (n - i) li).map (fun r => (ys ++ r.1, r.2)) with | some r => (r.1, true, r.2) | none => ([], false, [])) = rv) ∧ Aside0 (ys.length = i))
    case atStart => exact ⟨0, [], l1, rfl, by omega, by omega, ⟨Kd.R_nil _ _ _ _ _⟩, HR1, HD1, HK1, ⟨by rw [← HRV.out, Nat.sub_zero]; cases readN n l1 <;> rfl⟩, ⟨rfl⟩⟩
    case round =>
      obtain ⟨i, ys, li, rfl, hi, hgg, HO, HRi, HDi, HKi, HT, HL⟩ := hrel
      by_cases hin : i < n
      · have hinz : (i : Int) < (n : Int) := by omega
        obtain ⟨m, hm⟩ : ∃ m, n - i = m + 1 := ⟨n - i - 1, by omega⟩
        have hT := HT.out
        rw [hm, readN] at hT
        have hdec := wire_decnum.calls gr g li ok
        have hdx := numV_dig (most := 1073741824) HDi.out
        have hlx := numV_le (most := 1073741824) (l := li)
        have HBX := Aside0.mk (show RBox wr gr g from (HKi.out.kept.2 gr (blk_lt HC.out) hg).trans HC.out)
        generalize numV 1073741824 li = u at hT hdec hdx hlx
        obtain ⟨x, ex, l2⟩ := u
        simp only at hT hdec hdx hlx
        have HDC := Aside0.mk hdec
        have HDX := Aside0.mk hdx
        clear hdec hdx HT
        by_cases hex : ex = 0
        · subst hex
          rw [if_pos rfl] at hT
          have HT := Aside0.mk hT
          clear hT
          go_wp2_with (first | (go_at_call 23; (with_reducible refine (HDC.out _ HBX.out HRi.out HK.out HDi.out).mono ?_); rintro e w2 ⟨rfl, hr, hk⟩; have HR2 := Aside0.mk hr; have HO2 := Aside0.mk (Kd.R_mono (Kd.R_step (Kd.R_bound HO.out) (fun k hk2 hlt => hk.kept.2 k hlt (fun e => by have := hk2.2.1; have := HR.out.lt; omega))) (fun _ _ => trivial) : Kd.R (Kd.int .i64) 3 w2 w.heap.size (fun _ => True) u8 ys); have HK2 := Aside0.mk (HKi.out.then_ hk); clear hr hk) | ((with_reducible refine gate_builtin (b := .append) (xs := #[.tmp 28, .tmp 30]) rfl ?_); at_builtin; refine Kd.R_append (Kd.int .i64) w.heap.size rfl (.tmp 28) (.tmp 30) 22 3 (.int .i64 0) 8 rfl Try.underlying22 info3 rfl (by decide) (by omega) u8 ys (x : Int) [.int .i64 (x : Int)] (fun _ => True) (fun _ => False) rfl rfl ?aP (fun _ hk => hk.elim) ?aF ?aO (Below.refl _ _) ?aS ?aL ?_; (case aP => exact rfl); (case aF => exact (fun _ _ => trivial)); (case aO => exact (uR HO2.out)); (case aS => exact HK2.out.kept.1); (case aL => have := HL.out; omega); intro v3 w3 ho hb hg3 hat; have HO3 := Aside0.mk ho; have HG3 := Aside0.mk hg3; have HB3 := Aside0.mk hb; clear ho hb hg3 hat))
          go_roundg (n - (i + 1))
          case measure => omega
          case rel =>
            have hbase : ∀ k, (u8 : Value).ownBlock = some k → w.heap.size ≤ k := fun k e => Kd.R_base HO2.out k e
            refine ⟨i + 1, ys ++ [(x : Int)], l2, by go_num, by omega, by omega, ⟨HO3.out⟩, ⟨HR2.out.grown HG3.out (fun k e => by have := hbase k e; have := HR.out.lt; omega) HKL.out⟩, HDX, ⟨KG.of_grown HG3.out HK2.out hbase⟩, ⟨?_⟩, ⟨by rw [List.length_append, HL.out]; rfl⟩⟩
            rw [show n - (i + 1) = m from by omega, ← HT.out]
            cases readN m l2 <;> simp
        · rw [if_neg hex] at hT
          have hrv : rv = ([], false, []) := hT.symm
          subst hrv
          have hexz : (ex == 0) = false := beq_eq_false_iff_ne.mpr hex
          go_wp2_with (first | (go_at_call 23; (with_reducible refine (HDC.out _ HBX.out HRi.out HK.out HDi.out).mono ?_); rintro e w2 ⟨rfl, hr, hk⟩; have HR2 := Aside0.mk hr; have HK2 := Aside0.mk hk; clear hr hk))
          go_ret2
          first | exact ⟨_, rfl, Kd.R_nil _ _ _ _ _, ⟨_, HR2.out, fun h => absurd h (by simp)⟩, HKi.out.then_ HK2.out⟩ | exact ⟨_, rfl, Kd.R_nil _ _ _ _ _, ⟨_, HR2.out⟩, HKi.out.then_ HK2.out⟩
      · have hinz : (n : Int) ≤ (i : Int) := by omega
        go_wp2
        go_ret2
        have hT := HT.out
        rw [show n - i = 0 from by omega, readN] at hT
        simp only [Option.map_some, List.append_nil] at hT
        subst hT
        obtain ⟨A8, c8, e8⟩ := Kd.R_slice HO.out
        exact ⟨_, rfl, HO.out, ⟨_, HRi.out, fun _ => rfl⟩, HKi.out⟩
  · rw [if_neg he] at hrv; subst hrv
    have hez : (er != 0) = true := bne_iff_ne.mpr he
    go_enter Try.func28, Try.ntmps28
    go_wp2_with (go_at_call 24; (with_reducible refine (HN.out _ HR.out HK.out HD.out).mono ?_); rintro e w1 ⟨rfl, hr, hk⟩; have HR1 := Aside0.mk hr; have HK1 := Aside0.mk hk; clear hr hk)
    go_ret2
    exact ⟨_, rfl, Kd.R_nil _ _ _ _ _, ⟨_, HR1.out, fun h => absurd h (by simp)⟩, HK1.out⟩
def natOne (rd : List Int → List Int × Int) (l : List Int) : List Int × Bool × List Int := ((natRd (bytV 32 l).2.1 (bytV 32 l).1 (rd (bytV 32 l).1).1 (rd (bytV 32 l).1).2).1, (natRd (bytV 32 l).2.1 (bytV 32 l).1 (rd (bytV 32 l).1).1 (rd (bytV 32 l).1).2).2, (bytV 32 l).2.2)
def readNs (rd : List Int → List Int × Int) : Nat → List Int → Option (List (List Int) × List Int)
  | 0, l => some ([], l)
  | n + 1, l => if (natOne rd l).2.1 = true then (readNs rd n (natOne rd l).2.2).map fun r => ((natOne rd l).1 :: r.1, r.2) else none
def readNats (rd : List Int → List Int × Int) (l : List Int) : List (List Int) × Bool × List Int := if (numV 16384 l).2.1 = 0 then (match readNs rd (numV 16384 l).1 (numV 16384 l).2.2 with | some r => (r.1, true, r.2) | none => ([], false, [])) else ([], false, [])
theorem bytV_dig {most : Nat} {l : List Int} (hd : Dig 256 l) : Dig 256 (bytV most l).2.2 ∧ Dig 256 (bytV most l).1 ∧ (bytV most l).2.2.length ≤ l.length := by
  unfold bytV
  rcases nxt 0 l with _ | r
  · exact ⟨hd, Z.Dig.nil, Nat.le_refl _⟩
  · by_cases h : most < r.1 ∨ l.length - r.2 < r.1
    · simp only [if_pos h]; exact ⟨hd, Z.Dig.nil, Nat.le_refl _⟩
    · simp only [if_neg h]; exact ⟨hd.drop _, (hd.drop _).take _, by simp⟩
theorem bytV_short {most : Nat} {l : List Int} : (bytV most l).1.length ≤ most := by
  unfold bytV
  rcases nxt 0 l with _ | r
  · exact Nat.zero_le _
  · by_cases h : most < r.1 ∨ l.length - r.2 < r.1
    · simp only [if_pos h]; exact Nat.zero_le _
    · simp only [if_neg h, List.length_take]; omega
theorem numV_len {most : Nat} {l : List Int} : (numV most l).2.2.length ≤ l.length := by
  unfold numV
  rcases nxt 0 l with _ | r
  · exact Nat.le_refl _
  · by_cases h : most < r.1
    · simp only [if_pos h]; exact Nat.le_refl _
    · simp only [if_neg h]; simp
set_option maxHeartbeats 8000000 in
set_option maxRecDepth 100000 in
theorem wire_readnats.calls (rd : List Int → List Int × Int) (hrd : ∀ c, Dig 256 c → c.length ≤ 32 → ∃ k, nat_Read.f k c = some (rd c)) (gr g : Nat) (l : List Int) (ok : Nat → Prop) (w : World) (hC : RBox w gr g) (hR : Rdr w g ok l) (hk : ∀ k, ok k → k ≠ g) (hd : Dig 256 l) (hll : l.length < 9223372036854775808) (hg : gr ≠ g) (hkl : ∀ k, ok k → k < g) :
    Calls Try.prog 29 #[.pointer (some ⟨g, 0, none⟩), .func (.func 25) #[] #[.pointer (some ⟨gr, 0, none⟩)]] w fun e w' => ∃ v : Value, e = .returned (.tuple #[v, .bool (readNats rd l).2.1]) ∧ Kd.R (Kd.slice 37 (Kd.int .u64)) 41 w' w.heap.size (fun _ => True) v (readNats rd l).1 ∧ (∃ l', Rdr w' g ok l' ∧ ((readNats rd l).2.1 = true → l' = (readNats rd l).2.2)) ∧ KG w w' g := by
  have HR := Aside0.mk hR
  have HD := Aside0.mk hd
  have HD1 := Aside0.mk (show Dig 256 (numV 16384 l).2.2 ∧ (numV 16384 l).2.2.length < 9223372036854775808 from ⟨numV_dig (most := 16384) hd, Nat.lt_of_le_of_lt numV_len hll⟩)
  have HRD := Aside0.mk hrd
  have HK := Aside0.mk hk
  have HC := Aside0.mk hC
  have HKL := Aside0.mk hkl
  have hnum : ∀ w, Rdr w g ok l → (∀ k, ok k → k ≠ g) → Dig 256 l → Calls Try.prog 24 #[.pointer (some ⟨g, 0, none⟩), .int .u64 16384] w fun e w' => e = .returned (.tuple #[.int .u64 ((numV 16384 l).1 : Int), .int .i64 (numV 16384 l).2.1]) ∧ Rdr w' g ok (numV 16384 l).2.2 ∧ KG w w' g := fun w => codec_read.calls g 16384 l ok w
  have hle := numV_le (most := 16384) (l := l)
  obtain ⟨rv, hrv⟩ : ∃ rv, readNats rd l = rv := ⟨_, rfl⟩
  rw [hrv]
  unfold readNats at hrv
  clear hR hk hd hC hkl hrd hll
  generalize numV 16384 l = v at hle hnum hrv HD1
  obtain ⟨n, er, l1⟩ := v
  simp only at hle hnum hrv HD1
  have HN := Aside0.mk hnum
  clear hnum
  by_cases he : er = 0
  · subst he
    rw [if_pos rfl] at hrv
    have HRV := Aside0.mk hrv
    clear hrv
    go_enter Try.func29, Try.ntmps29
    go_wp2_with (go_at_call 24; (with_reducible refine (HN.out _ HR.out HK.out HD.out).mono ?_); rintro e w1 ⟨rfl, hr, hk⟩; have HR1 := Aside0.mk hr; have HK1 := Aside0.mk hk; clear hr hk)
    go_loopg [8, 19] n (fun gg v8 v19 wr => ∃ (i : Nat) (ys : List (List Int)) (li : List Int), v19 = .int .u64 (i : Int) ∧ i ≤ n ∧ n - i ≤ gg ∧ Aside0 (Kd.R (Kd.slice 37 (Kd.int .u64)) 41 wr w.heap.size (fun _ => True) v8 ys) ∧ Aside0 (Rdr wr g ok li) ∧ Aside0 (Dig 256 li ∧ li.length < 9223372036854775808) ∧ Aside0 (KG w wr g) ∧ Aside0 ((match (readNs rd (n - i) li).map (fun r => (ys ++ r.1, r.2)) with | some r => (r.1, true, r.2) | none => ([], false, [])) = rv) ∧ Aside0 (ys.length = i))
    case atStart => exact ⟨0, [], l1, rfl, by omega, by omega, ⟨Kd.R_nil _ _ _ _ _⟩, HR1, HD1, HK1, ⟨by rw [← HRV.out, Nat.sub_zero]; cases readNs rd n l1 <;> rfl⟩, ⟨rfl⟩⟩
    case round =>
      obtain ⟨i, ys, li, rfl, hi, hgg, HO, HRi, HDi, HKi, HT, HL⟩ := hrel
      by_cases hin : i < n
      · have hinz : (i : Int) < (n : Int) := by omega
        obtain ⟨m, hm⟩ : ∃ m, n - i = m + 1 := ⟨n - i - 1, by omega⟩
        have hT := HT.out
        rw [hm, readNs] at hT
        obtain ⟨kr, hkr⟩ := HRD.out _ (bytV_dig (most := 32) HDi.out.1).2.1 bytV_short
        have hdec : ∀ w, RBox w gr g → Rdr w g ok li → (∀ k, ok k → k ≠ g) → Dig 256 li → li.length < 9223372036854775808 → Calls Try.prog 25 #[.pointer (some ⟨gr, 0, none⟩)] w fun e w' => ∃ v : Value, e = .returned (.tuple #[v, .bool (natOne rd li).2.1]) ∧ Kd.R (Kd.int .u64) 37 w' w.heap.size (fun _ => True) v (natOne rd li).1 ∧ Rdr w' g ok (natOne rd li).2.2 ∧ KG w w' g := fun w h1 h2 h3 h4 h5 => wire_decnat.calls kr gr g li ok w h1 h2 h3 h4 h5 _ _ hkr
        have hdx : Dig 256 (natOne rd li).2.2 ∧ (natOne rd li).2.2.length < 9223372036854775808 := ⟨(bytV_dig HDi.out.1).1, Nat.lt_of_le_of_lt (bytV_dig HDi.out.1).2.2 HDi.out.2⟩
        have HBX := Aside0.mk (show RBox wr gr g from (HKi.out.kept.2 gr (blk_lt HC.out) hg).trans HC.out)
        generalize natOne rd li = u at hT hdec hdx
        obtain ⟨x, ex, l2⟩ := u
        simp only at hT hdec hdx
        have HDC := Aside0.mk hdec
        have HDX := Aside0.mk hdx
        clear hdec hdx HT
        by_cases hex : ex = true
        · subst hex
          rw [if_pos rfl] at hT
          have HT := Aside0.mk hT
          clear hT
          go_wp2_with (first | (go_at_call 25; (with_reducible refine (HDC.out _ HBX.out HRi.out HK.out HDi.out.1 HDi.out.2).mono ?_); rintro e w2 ⟨vx, rfl, hox, hr, hk⟩; obtain ⟨Ax, cx, evx⟩ := Kd.R_slice hox; subst evx; have HOX := Aside0.mk hox; clear hox; have HR2 := Aside0.mk hr; have HS2 := Aside0.mk HKi.out.kept.1; have HO2 := Aside0.mk (Kd.R_mono (Kd.R_step (Kd.R_bound HO.out) (fun k hk2 hlt => hk.kept.2 k hlt (fun e => by have := hk2.2.1; have := HR.out.lt; omega))) (fun _ _ => trivial) : Kd.R (Kd.slice 37 (Kd.int .u64)) 41 w2 w.heap.size (fun _ => True) u8 ys); have HK2 := Aside0.mk (HKi.out.then_ hk); clear hr hk) | ((with_reducible refine gate_builtin (b := .append) (xs := #[.tmp 28, .tmp 30]) rfl ?_); at_builtin; refine Kd.R_append (Kd.slice 37 (Kd.int .u64)) w.heap.size rfl (.tmp 28) (.tmp 30) 23 41 (.slice none 0 0) 24 rfl Try.underlying23 (by kernel_rfl) rfl (by decide) (by omega) u8 ys x [.slice Ax x.length cx] (fun _ => True) (fun k => some k ≠ (u8 : Value).ownBlock) rfl rfl ?aP (fun _ hk => ⟨trivial, hk⟩) ?aF ?aO (Below.refl _ _) ?aS ?aL ?_; (case aP => exact ⟨_, rfl, Kd.R_mono (Kd.R_lower (Kd.R_bound HOX.out) HS2.out) (fun k hk he => by have h1 := Kd.R_lt HO.out k he.symm; have h2 := hk.2.1; omega)⟩); (case aF => exact (fun _ _ => trivial)); (case aO => exact (uR HO2.out)); (case aS => exact HK2.out.kept.1); (case aL => have := HL.out; omega); intro v3 w3 ho hb hg3 hat; have HO3 := Aside0.mk ho; have HG3 := Aside0.mk hg3; have HB3 := Aside0.mk hb; clear ho hb hg3 hat))
          go_roundg (n - (i + 1))
          case measure => omega
          case rel =>
            have hbase : ∀ k, (u8 : Value).ownBlock = some k → w.heap.size ≤ k := fun k e => Kd.R_base HO2.out k e
            refine ⟨i + 1, ys ++ [x], l2, by go_num, by omega, by omega, ⟨HO3.out⟩, ⟨HR2.out.grown HG3.out (fun k e => by have := hbase k e; have := HR.out.lt; omega) HKL.out⟩, HDX, ⟨KG.of_grown HG3.out HK2.out hbase⟩, ⟨?_⟩, ⟨by rw [List.length_append, HL.out]; rfl⟩⟩
            rw [show n - (i + 1) = m from by omega, ← HT.out]
            cases readNs rd m l2 <;> simp
        · rw [if_neg hex] at hT
          have hrv : rv = ([], false, []) := hT.symm
          subst hrv
          have hexz : ex = false := Bool.eq_false_iff.mpr hex
          subst hexz
          go_wp2_with (first | (go_at_call 25; (with_reducible refine (HDC.out _ HBX.out HRi.out HK.out HDi.out.1 HDi.out.2).mono ?_); rintro e w2 ⟨vx, rfl, hox, hr, hk⟩; obtain ⟨Ax, cx, evx⟩ := Kd.R_slice hox; subst evx; have HOX := Aside0.mk hox; clear hox; have HR2 := Aside0.mk hr; have HK2 := Aside0.mk hk; clear hr hk))
          go_ret2
          first | exact ⟨_, rfl, Kd.R_nil _ _ _ _ _, ⟨_, HR2.out, fun h => absurd h (by simp)⟩, HKi.out.then_ HK2.out⟩ | exact ⟨_, rfl, Kd.R_nil _ _ _ _ _, ⟨_, HR2.out⟩, HKi.out.then_ HK2.out⟩
      · have hinz : (n : Int) ≤ (i : Int) := by omega
        go_wp2
        go_ret2
        have hT := HT.out
        rw [show n - i = 0 from by omega, readNs] at hT
        simp only [Option.map_some, List.append_nil] at hT
        subst hT
        obtain ⟨A8, c8, e8⟩ := Kd.R_slice HO.out
        exact ⟨_, rfl, HO.out, ⟨_, HRi.out, fun _ => rfl⟩, HKi.out⟩
  · rw [if_neg he] at hrv; subst hrv
    have hez : (er != 0) = true := bne_iff_ne.mpr he
    go_enter Try.func29, Try.ntmps29
    go_wp2_with (go_at_call 24; (with_reducible refine (HN.out _ HR.out HK.out HD.out).mono ?_); rintro e w1 ⟨rfl, hr, hk⟩; have HR1 := Aside0.mk hr; have HK1 := Aside0.mk hk; clear hr hk)
    go_ret2
    exact ⟨_, rfl, Kd.R_nil _ _ _ _ _, ⟨_, HR1.out, fun h => absurd h (by simp)⟩, HK1.out⟩
end Go.Proofs.Ytanmfddlncdncab.F
end
