/- Proved: the law NatTexts of layer 1: any number in base ten is told as the document tells it; for every input, without a condition. -/
import Derived.Test.YtikfgeieaadeiadMNatTextsa
import Derived.Laws.BitsLemmas
import Derived.Test.YtikfgeieaadeiadRows
import Derived.WalkKit
import Derived.ProofKit
import Derived.OpenShut
import Derived.ShutString
import Derived.ChangeOld
import Derived.Below
import Derived.SizedLaws
import Derived.Test.YtikfgeieaadeiadWSized

namespace Go.Proofs.Ytikfgeieaadeiad.F
open Go.RowKit Go.Proofs.YtikfgeieaadeiadW.PrintWords Go.Proofs.YtikfgeieaadeiadW.PrintLast Go.Proofs.YtikfgeieaadeiadW.PrintMore
attribute [local go_sem] max2_int min2_int max_two min_two max_three min_three max_four min_four   -- for this text's walks alone
set_option linter.unusedVariables false
set_option linter.unusedSimpArgs false

/-! ### windbreakref01_sub: function 44 -/
def windbreakref01_sub.l0 : Nat → List Int → List Int → List Int → Int → Int → Option (List Int)
  | 0, _, _, _, _, _ => none
  | k + 1, x0, x1, x5, x6, x7 => if x7 < (x0.length : Int) then (if 0 ≤ x7 then ((windbreakref01_digit.f x1 x7).bind fun t170 => (if x5.length < 17592186044416 then (windbreakref01_sub.l0 k x0 x1 (x5 ++ [Int.tmod (IntKind.u64.wrap ((IntKind.u64.wrap ((IntKind.u64.wrap (65536 + (rd x0 x7))) - t170)) - x6)) 65536]) (IntKind.u64.wrap (1 - (IntKind.u64.wrap (Int.tdiv (IntKind.u64.wrap ((IntKind.u64.wrap ((IntKind.u64.wrap (65536 + (rd x0 x7))) - t170)) - x6)) 65536)))) (wrap64 (x7 + 1))) else (none))) else (none)) else ((windbreakref01_cut.f k x5).bind fun t174 => (some t174))
def windbreakref01_sub.f (k : Nat) (l0 : List Int) (l1 : List Int) : Option (List Int) := windbreakref01_sub.l0 k l0 l1 ([] : List Int) 0 0
theorem windbreakref01_sub.mono_l : ∀ k, (∀ y0 y1 y2 y3 y4, LeO (windbreakref01_sub.l0 k y0 y1 y2 y3 y4) (windbreakref01_sub.l0 (k + 1) y0 y1 y2 y3 y4))
  | 0 => fun _ _ _ _ _ r h => by simp [windbreakref01_sub.l0] at h
  | k + 1 => by
    have ih0 := windbreakref01_sub.mono_l k
    · intro y0 y1 y2 y3 y4
      unfold windbreakref01_sub.l0
      repeat' first
      | (with_reducible exact ih0 _ _ _ _ _)
      | (with_reducible exact windbreakref01_cut.mono _ _)
      | (with_reducible exact LeO.refl _)
      | (with_reducible exact LeO.none _)
      | (with_reducible refine LeO.ite ?_ ?_)
      | (with_reducible refine LeO.bind ?_ (fun _ => ?_))
      | exact ih0 _ _ _ _ _
      | exact windbreakref01_cut.mono _ _
      | exact LeO.none _
      | refine LeO.ite ?_ ?_
      | refine LeO.bind ?_ (fun _ => ?_)
theorem windbreakref01_sub.mono : ∀ a0 a1 k, LeO (windbreakref01_sub.f k a0 a1) (windbreakref01_sub.f (k + 1) a0 a1) := by
  intro a0 a1 k
  have ih0 := windbreakref01_sub.mono_l k
  unfold windbreakref01_sub.f
  repeat' first
      | (with_reducible exact ih0 _ _ _ _ _)
      | (with_reducible exact windbreakref01_cut.mono _ _)
      | (with_reducible exact LeO.refl _)
      | (with_reducible exact LeO.none _)
      | (with_reducible refine LeO.ite ?_ ?_)
      | (with_reducible refine LeO.bind ?_ (fun _ => ?_))
      | exact ih0 _ _ _ _ _
      | exact windbreakref01_cut.mono _ _
      | exact LeO.none _
      | refine LeO.ite ?_ ?_
      | refine LeO.bind ?_ (fun _ => ?_)
set_option maxHeartbeats 8000000 in
set_option maxRecDepth 100000 in
theorem windbreakref01_sub.calls (k : Nat) (A0 : Option Addr) (c0 : Nat) (l0 : List Int) (A1 : Option Addr) (c1 : Nat) (l1 : List Int) (r : List Int) (w : World) (hr0 : Kd.C (Kd.int .u64) w A0 l0.length l0) (hc0 : l0.length ≤ c0) (hr1 : Kd.C (Kd.int .u64) w A1 l1.length l1) (hc1 : l1.length ≤ c1) (h : windbreakref01_sub.f k l0 l1 = some r) :
    Calls Try.prog 44 #[.slice A0 l0.length c0, .slice A1 l1.length c1] w fun e w' => ∃ v0_ : Value, e = .returned (v0_) ∧ Kd.R (Kd.int .u64) 26 w' w.heap.size (fun _ => True) v0_ r ∧ Below w.heap.size w w' := by
  have HR0 := Aside0.mk hr0
  have HC0 := Aside0.mk hc0
  clear hr0 hc0
  have HR1 := Aside0.mk hr1
  have HC1 := Aside0.mk hc1
  clear hr1 hc1
  have HB := Aside0.mk (Below.refl w.heap.size w)
  have H : (windbreakref01_sub.l0 k l0 l1 ([] : List Int) 0 0) = some r := h
  clear h
  have H' := Aside0.mk H
  clear H
  go_enter Try.func44, Try.ntmps44
  go_wp2
  repeat (go_quiet (fail); try go_wp2)
  go_loopg [5, 6, 7] k (fun kq v5 v6 v7 w' => ∃ (x5_1 : List Int) (x6_1 : Int) (x7_1 : Int), v6 = .int .u64 x6_1 ∧ v7 = .int .i64 x7_1 ∧ Aside0 (windbreakref01_sub.l0 kq l0 l1 x5_1 x6_1 x7_1 = some r) ∧ Aside0 (kq ≤ k) ∧ Aside0 (Kd.R (Kd.int .u64) 26 w' w.heap.size (fun _ => True) v5 x5_1) ∧ Aside0 (Below w.heap.size w w'))
  case atStart => exact ⟨(([] : List Int)), (0), (0), (by first | rfl | (simp; done) | (simp [*]; done)), (by first | rfl | (simp; done) | (simp [*]; done)), H', ⟨Nat.le_refl _⟩, ⟨by first | exact Kd.R_nil _ _ _ _ _ | exact Kd.N_nil _ _ _ _ _ | exact Kd.V_nil _ _ _ _ _ | exact Kd.Q_nil _ _ _ _ _ | exact Kd.S_nil _ _ _ _ _⟩, ⟨by repeat (first | (with_reducible first | exact HB.out | apply below_alloc | apply pw_below_drewN | apply below_drew1) | exact HB.out)⟩⟩
  case round =>
    clear H'
    try clear c1
    try clear p2
    obtain ⟨x5_1, x6_1, x7_1, rfl, rfl, HA, HK1, HO_5, HB⟩ := hrel
    cases gk with
    | zero => exact absurd HA.out (by simp [windbreakref01_sub.l0])
    | succ k1 =>
      have H := HA.out
      clear HA
      simp only [windbreakref01_sub.l0] at H
      by_cases c3 : x7_1 < (l0.length : Int)
      · rw [if_pos c3] at H
        have c3b0 : decide (x7_1 < (l0.length : Int)) = true := decide_eq_true c3
        clear c3
        by_cases c4 : 0 ≤ x7_1
        · rw [if_pos c4] at H
          have c4b0 : decide (0 ≤ x7_1) = true := decide_eq_true c4
          clear c4
          replace H := Option.bind_eq_some_iff.mp H
          obtain ⟨t170, A50, H⟩ := H
          replace H : (if x5_1.length < 17592186044416 then (windbreakref01_sub.l0 k1 l0 l1 (x5_1 ++ [Int.tmod (IntKind.u64.wrap ((IntKind.u64.wrap ((IntKind.u64.wrap (65536 + (rd l0 x7_1))) - t170)) - x6_1)) 65536]) (IntKind.u64.wrap (1 - (IntKind.u64.wrap (Int.tdiv (IntKind.u64.wrap ((IntKind.u64.wrap ((IntKind.u64.wrap (65536 + (rd l0 x7_1))) - t170)) - x6_1)) 65536)))) (wrap64 (x7_1 + 1))) else (none)) = some r := H
          have A5 := Aside0.mk A50
          clear A50
          by_cases c6 : x5_1.length < 17592186044416
          · rw [if_pos c6] at H
            have LMc6 := Aside0.mk c6
            clear c6
            obtain ⟨y171, hy171⟩ : ∃ y_ : List Int, y_ = (x5_1 ++ [Int.tmod (IntKind.u64.wrap ((IntKind.u64.wrap ((IntKind.u64.wrap (65536 + (rd l0 x7_1))) - t170)) - x6_1)) 65536]) := ⟨_, rfl⟩
            replace H : (windbreakref01_sub.l0 k1 l0 l1 y171 (IntKind.u64.wrap (1 - (IntKind.u64.wrap (Int.tdiv (IntKind.u64.wrap ((IntKind.u64.wrap ((IntKind.u64.wrap (65536 + (rd l0 x7_1))) - t170)) - x6_1)) 65536)))) (wrap64 (x7_1 + 1))) = some r := by first | (rw [hy171]; with_reducible exact H) | (have H2_ := (Option.bind_some _ _).symm.trans H; rw [hy171]; with_reducible exact H2_) | (have H2_ := (Option.bind_some _ _).symm.trans H; with_reducible exact H2_) | with_reducible exact H | (rw [hy171]; exact H) | exact H
            have Ny171 := Aside0.mk hy171
            clear hy171
            have H' := Aside0.mk H
            clear H
            have p169 : 0 ≤ (x7_1 : Int) := of_decide_eq_true (by first | (with_reducible assumption) | assumption)
            have q169 : x7_1 < (l0.length : Int) := of_decide_eq_true (by first | (with_reducible assumption) | assumption)
            obtain ⟨ad169, e169, hx169_0⟩ := Kd.at_int HR0.out x7_1 p169 q169
            cases e169
            replace hx169_0 := (HB.out.cell (World.block_lt_of_cell? w _ hx169_0)).trans hx169_0
            replace p169 := eq_true p169
            replace q169 := eq_true q169
            go_wp2_with (first | (go_at_call 22; (with_reducible refine (windbreakref01_digit.calls _ _ l1 x7_1 t170 _ ?side1 ?side2 A5.out).mono ?_); (case side1 => repeat (first | exact (Kd.C_below HR1.out HB.out) | (with_reducible refine Kd.C_alloc ?_ _) | (with_reducible refine Kd.C_drewN ?_ _) | (with_reducible refine Kd.C_drew ?_))); (case side2 => exact HC1.out); rintro e w' ⟨rfl, ⟨nd, rfl⟩⟩; (try first | exact ⟨rfl, _, World.drewN_drewN _ _ _⟩ | exact ⟨rfl, _, Eq.trans (World.drewN_drewN _ _ _) (congrArg (World.drewN _) (Nat.add_assoc _ _ _))⟩)) | ((with_reducible refine gate_builtin (b := .append) (xs := #[.tmp 26, .tmp 29]) rfl ?_); at_builtin; refine Kd.R_append (Kd.int .u64) (w0 := w) w.heap.size rfl (.tmp 26) (.tmp 29) 42 26 (.int .u64 0) 8 rfl Try.underlying42 info26 rfl (by decide) (by omega) u5 x5_1 (Int.tmod (IntKind.u64.wrap ((IntKind.u64.wrap ((IntKind.u64.wrap (65536 + (rd l0 x7_1))) - t170)) - x6_1)) 65536) [.int .u64 (Int.tmod (IntKind.u64.wrap ((IntKind.u64.wrap ((IntKind.u64.wrap (65536 + (rd l0 x7_1))) - t170)) - x6_1)) 65536)] (fun _ => True) (fun _ => False) rfl rfl ?aP (fun _ hk => hk.elim) ?aF ?aO ?aB ?aS ?aL ?_; (case aP => exact rfl); (case aB => exact (by repeat (first | (with_reducible first | exact HB.out | apply below_alloc | apply pw_below_drewN | apply below_drew1) | exact HB.out))); (case aF => exact (fun _ _ => trivial)); (case aO => exact (by (with_reducible repeat (first | apply Kd.R_alloc | apply Kd.R_drewN | apply Kd.R_drew)); exact HO_5.out)); (case aS => exact (below_size (by repeat (first | (with_reducible first | exact HB.out | apply below_alloc | apply pw_below_drewN | apply below_drew1) | exact HB.out)))); (case aL => have := LMc6.out; omega); intro v172 w7 ho hb hg hat; rw [← Ny171.out] at ho; have n0_ := Aside0.mk (hb); have n1_ := Aside0.mk (ho); clear HB; clear HO_5; have HB := n0_; have HO173 := n1_; clear n0_ n1_; clear ho hb hg hat))
            repeat (go_quiet (first | (go_at_call 22; (with_reducible refine (windbreakref01_digit.calls _ _ l1 x7_1 t170 _ ?side1 ?side2 A5.out).mono ?_); (case side1 => repeat (first | exact (Kd.C_below HR1.out HB.out) | (with_reducible refine Kd.C_alloc ?_ _) | (with_reducible refine Kd.C_drewN ?_ _) | (with_reducible refine Kd.C_drew ?_))); (case side2 => exact HC1.out); rintro e w' ⟨rfl, ⟨nd, rfl⟩⟩; (try first | exact ⟨rfl, _, World.drewN_drewN _ _ _⟩ | exact ⟨rfl, _, Eq.trans (World.drewN_drewN _ _ _) (congrArg (World.drewN _) (Nat.add_assoc _ _ _))⟩)) | ((with_reducible refine gate_builtin (b := .append) (xs := #[.tmp 26, .tmp 29]) rfl ?_); at_builtin; refine Kd.R_append (Kd.int .u64) (w0 := w) w.heap.size rfl (.tmp 26) (.tmp 29) 42 26 (.int .u64 0) 8 rfl Try.underlying42 info26 rfl (by decide) (by omega) u5 x5_1 (Int.tmod (IntKind.u64.wrap ((IntKind.u64.wrap ((IntKind.u64.wrap (65536 + (rd l0 x7_1))) - t170)) - x6_1)) 65536) [.int .u64 (Int.tmod (IntKind.u64.wrap ((IntKind.u64.wrap ((IntKind.u64.wrap (65536 + (rd l0 x7_1))) - t170)) - x6_1)) 65536)] (fun _ => True) (fun _ => False) rfl rfl ?aP (fun _ hk => hk.elim) ?aF ?aO ?aB ?aS ?aL ?_; (case aP => exact rfl); (case aB => exact (by repeat (first | (with_reducible first | exact HB.out | apply below_alloc | apply pw_below_drewN | apply below_drew1) | exact HB.out))); (case aF => exact (fun _ _ => trivial)); (case aO => exact (by (with_reducible repeat (first | apply Kd.R_alloc | apply Kd.R_drewN | apply Kd.R_drew)); exact HO_5.out)); (case aS => exact (below_size (by repeat (first | (with_reducible first | exact HB.out | apply below_alloc | apply pw_below_drewN | apply below_drew1) | exact HB.out)))); (case aL => have := LMc6.out; omega); intro v172 w7 ho hb hg hat; rw [← Ny171.out] at ho; have n0_ := Aside0.mk (hb); have n1_ := Aside0.mk (ho); clear HB; clear HO_5; have HB := n0_; have HO173 := n1_; clear n0_ n1_; clear ho hb hg hat)); try go_wp2_with (first | (go_at_call 22; (with_reducible refine (windbreakref01_digit.calls _ _ l1 x7_1 t170 _ ?side1 ?side2 A5.out).mono ?_); (case side1 => repeat (first | exact (Kd.C_below HR1.out HB.out) | (with_reducible refine Kd.C_alloc ?_ _) | (with_reducible refine Kd.C_drewN ?_ _) | (with_reducible refine Kd.C_drew ?_))); (case side2 => exact HC1.out); rintro e w' ⟨rfl, ⟨nd, rfl⟩⟩; (try first | exact ⟨rfl, _, World.drewN_drewN _ _ _⟩ | exact ⟨rfl, _, Eq.trans (World.drewN_drewN _ _ _) (congrArg (World.drewN _) (Nat.add_assoc _ _ _))⟩)) | ((with_reducible refine gate_builtin (b := .append) (xs := #[.tmp 26, .tmp 29]) rfl ?_); at_builtin; refine Kd.R_append (Kd.int .u64) (w0 := w) w.heap.size rfl (.tmp 26) (.tmp 29) 42 26 (.int .u64 0) 8 rfl Try.underlying42 info26 rfl (by decide) (by omega) u5 x5_1 (Int.tmod (IntKind.u64.wrap ((IntKind.u64.wrap ((IntKind.u64.wrap (65536 + (rd l0 x7_1))) - t170)) - x6_1)) 65536) [.int .u64 (Int.tmod (IntKind.u64.wrap ((IntKind.u64.wrap ((IntKind.u64.wrap (65536 + (rd l0 x7_1))) - t170)) - x6_1)) 65536)] (fun _ => True) (fun _ => False) rfl rfl ?aP (fun _ hk => hk.elim) ?aF ?aO ?aB ?aS ?aL ?_; (case aP => exact rfl); (case aB => exact (by repeat (first | (with_reducible first | exact HB.out | apply below_alloc | apply pw_below_drewN | apply below_drew1) | exact HB.out))); (case aF => exact (fun _ _ => trivial)); (case aO => exact (by (with_reducible repeat (first | apply Kd.R_alloc | apply Kd.R_drewN | apply Kd.R_drew)); exact HO_5.out)); (case aS => exact (below_size (by repeat (first | (with_reducible first | exact HB.out | apply below_alloc | apply pw_below_drewN | apply below_drew1) | exact HB.out)))); (case aL => have := LMc6.out; omega); intro v172 w7 ho hb hg hat; rw [← Ny171.out] at ho; have n0_ := Aside0.mk (hb); have n1_ := Aside0.mk (ho); clear HB; clear HO_5; have HB := n0_; have HO173 := n1_; clear n0_ n1_; clear ho hb hg hat)))
            go_roundg k1
            case measure => have := HK1.out; omega
            case rel => exact ⟨(y171), (IntKind.u64.wrap (1 - (IntKind.u64.wrap (Int.tdiv (IntKind.u64.wrap ((IntKind.u64.wrap ((IntKind.u64.wrap (65536 + (rd l0 x7_1))) - t170)) - x6_1)) 65536)))), (wrap64 (x7_1 + 1)), (by first | rfl | (simp; done) | (simp [*]; done)), (by first | rfl | (simp; done) | (simp [*]; done)), H', ⟨by have := HK1.out; omega⟩, ⟨by (with_reducible repeat (first | apply Kd.R_alloc | apply Kd.R_drewN | apply Kd.R_drew)); exact HO173.out⟩, ⟨by repeat (first | (with_reducible first | exact HB.out | apply below_alloc | apply pw_below_drewN | apply below_drew1) | exact HB.out)⟩⟩
          · rw [if_neg c6] at H
            exact absurd H (by simp)
        · rw [if_neg c4] at H
          exact absurd H (by simp)
      · rw [if_neg c3] at H
        have c3b0 : decide (x7_1 < (l0.length : Int)) = false := decide_eq_false c3
        clear c3
        replace H := Option.bind_eq_some_iff.mp H
        obtain ⟨t174, A80, H⟩ := H
        replace H : (some t174) = some r := H
        have A8 := Aside0.mk A80
        clear A80
        obtain rfl := Option.some.inj H
        obtain ⟨Ao9, co9, eo9⟩ := Kd.R_slice HO_5.out
        subst eo9
        go_wp2_with (first | (go_at_call 41; (with_reducible refine (windbreakref01_cut.calls k1 (fun k_ => some k_ = (.slice Ao9 x5_1.length co9 : Value).ownBlock) (.slice Ao9 x5_1.length co9) x5_1 t174 w _ ?side1 ?side2 A8.out).mono ?_); (case side1 => repeat (first | (with_reducible first | exact HB.out | apply below_alloc | apply pw_below_drewN | apply below_drew1) | exact HB.out)); (case side2 => exact Kd.R_tight rfl HO_5.out); rintro e w10 ⟨v175, rfl, ho0, hb, hkp⟩; have n0_ := Aside0.mk (Kd.R_mono (ok' := fun k_ => True) ho0 (fun k_ hk_ => trivial)); have n1_ := Aside0.mk (hb); clear HB; clear HO_5; have HO176 := n0_; have HB := n1_; clear n0_ n1_; (try clear hb); (try clear hkp); (try clear ho0)))
        repeat (go_quiet (first | (go_at_call 41; (with_reducible refine (windbreakref01_cut.calls k1 (fun k_ => some k_ = (.slice Ao9 x5_1.length co9 : Value).ownBlock) (.slice Ao9 x5_1.length co9) x5_1 t174 w _ ?side1 ?side2 A8.out).mono ?_); (case side1 => repeat (first | (with_reducible first | exact HB.out | apply below_alloc | apply pw_below_drewN | apply below_drew1) | exact HB.out)); (case side2 => exact Kd.R_tight rfl HO_5.out); rintro e w10 ⟨v175, rfl, ho0, hb, hkp⟩; have n0_ := Aside0.mk (Kd.R_mono (ok' := fun k_ => True) ho0 (fun k_ hk_ => trivial)); have n1_ := Aside0.mk (hb); clear HB; clear HO_5; have HO176 := n0_; have HB := n1_; clear n0_ n1_; (try clear hb); (try clear hkp); (try clear ho0))); try go_wp2_with (first | (go_at_call 41; (with_reducible refine (windbreakref01_cut.calls k1 (fun k_ => some k_ = (.slice Ao9 x5_1.length co9 : Value).ownBlock) (.slice Ao9 x5_1.length co9) x5_1 t174 w _ ?side1 ?side2 A8.out).mono ?_); (case side1 => repeat (first | (with_reducible first | exact HB.out | apply below_alloc | apply pw_below_drewN | apply below_drew1) | exact HB.out)); (case side2 => exact Kd.R_tight rfl HO_5.out); rintro e w10 ⟨v175, rfl, ho0, hb, hkp⟩; have n0_ := Aside0.mk (Kd.R_mono (ok' := fun k_ => True) ho0 (fun k_ hk_ => trivial)); have n1_ := Aside0.mk (hb); clear HB; clear HO_5; have HO176 := n0_; have HB := n1_; clear n0_ n1_; (try clear hb); (try clear hkp); (try clear ho0))))
        go_ret
        exact ⟨_, by first | rfl | (simp [errW_none, errW_some] <;> rfl) | (simp [*, errW_none, errW_some] <;> rfl), by (with_reducible repeat (first | apply Kd.R_alloc | apply Kd.R_drewN | apply Kd.R_drew)); exact HO176.out, by repeat (first | (with_reducible first | exact HB.out | apply below_alloc | apply pw_below_drewN | apply below_drew1) | exact HB.out)⟩

end Go.Proofs.Ytikfgeieaadeiad.F

namespace Go.Proofs.Ytikfgeieaadeiad.F
open Go.RowKit Go.Proofs.YtikfgeieaadeiadW.PrintWords Go.Proofs.YtikfgeieaadeiadW.PrintLast Go.Proofs.YtikfgeieaadeiadW.PrintMore
attribute [local go_sem] max2_int min2_int max_two min_two max_three min_three max_four min_four   -- for this text's walks alone
set_option linter.unusedVariables false
set_option linter.unusedSimpArgs false

/-! ### windbreakref01_div: function 21 -/
mutual
def windbreakref01_div.l0 : Nat → List Int → List Int → List Int → List Int → Int → Option (List Int × List Int)
  | 0, _, _, _, _, _ => none
  | k + 1, x0, x1, x6, x7, x8 => if x8 ≥ 0 then (if 0 ≤ x8 then (if x8 < (x0.length : Int) then ((some (([rd x0 x8] : List Int) : List Int)).bind fun y184 => (if y184.length + x7.length < 17592186044416 then ((windbreakref01_cut.f k (y184 ++ x7)).bind fun t190 => (windbreakref01_div.l1 k x0 x1 x6 t190 x8 0 65535)) else (none))) else (none)) else (none)) else ((windbreakref01_cut.f k x6).bind fun t180 => (some (t180, x7)))
def windbreakref01_div.l1 : Nat → List Int → List Int → List Int → List Int → Int → Int → Int → Option (List Int × List Int)
  | 0, _, _, _, _, _, _, _ => none
  | k + 1, x0, x1, x6, x7, x8, x9, x10 => if x9 < x10 then ((windbreakref01_mul.f k x1 (([IntKind.u64.wrap (Int.tdiv (IntKind.u64.wrap ((IntKind.u64.wrap (x9 + x10)) + 1)) 2)] : List Int))).bind fun t206 => ((windbreakref01_compare.f k t206 x7).bind fun t209 => (if t209 ≤ 0 then (windbreakref01_div.l1 k x0 x1 x6 x7 x8 (IntKind.u64.wrap (Int.tdiv (IntKind.u64.wrap ((IntKind.u64.wrap (x9 + x10)) + 1)) 2)) x10) else (windbreakref01_div.l1 k x0 x1 x6 x7 x8 x9 (IntKind.u64.wrap ((IntKind.u64.wrap (Int.tdiv (IntKind.u64.wrap ((IntKind.u64.wrap (x9 + x10)) + 1)) 2)) - 1)))))) else (if 0 ≤ x8 then (if x8 < (x6.length : Int) then ((windbreakref01_mul.f k x1 (([x9] : List Int))).bind fun t197 => ((windbreakref01_sub.f k x7 t197).bind fun t200 => (windbreakref01_div.l0 k x0 x1 (x6.set (x8 : Int).toNat x9) t200 (wrap64 (x8 - 1))))) else (none)) else (none))
end
def windbreakref01_div.f (k : Nat) (l0 : List Int) (l1 : List Int) : Option (List Int × List Int) := if 0 ≤ (l0.length : Int) then (if ((l0.length : Int) : Int).toNat ≤ 35184372088832 then (windbreakref01_div.l0 k l0 l1 (List.replicate ((l0.length : Int) : Int).toNat 0) ([] : List Int) (wrap64 ((l0.length : Int) - 1))) else (none)) else (none)
theorem windbreakref01_div.mono_l : ∀ k, (∀ y0 y1 y2 y3 y4, LeO (windbreakref01_div.l0 k y0 y1 y2 y3 y4) (windbreakref01_div.l0 (k + 1) y0 y1 y2 y3 y4)) ∧ (∀ y0 y1 y2 y3 y4 y5 y6, LeO (windbreakref01_div.l1 k y0 y1 y2 y3 y4 y5 y6) (windbreakref01_div.l1 (k + 1) y0 y1 y2 y3 y4 y5 y6))
  | 0 => ⟨fun _ _ _ _ _ r h => by simp [windbreakref01_div.l0] at h, fun _ _ _ _ _ _ _ r h => by simp [windbreakref01_div.l1] at h⟩
  | k + 1 => by
    obtain ⟨ih0, ih1⟩ := windbreakref01_div.mono_l k
    refine ⟨?_, ?_⟩
    · intro y0 y1 y2 y3 y4
      unfold windbreakref01_div.l0
      repeat' first
      | (with_reducible exact ih0 _ _ _ _ _)
      | (with_reducible exact ih1 _ _ _ _ _ _ _)
      | (with_reducible exact windbreakref01_compare.mono _ _ _)
      | (with_reducible exact windbreakref01_cut.mono _ _)
      | (with_reducible exact windbreakref01_mul.mono _ _ _)
      | (with_reducible exact windbreakref01_sub.mono _ _ _)
      | (with_reducible exact LeO.refl _)
      | (with_reducible exact LeO.none _)
      | (with_reducible refine LeO.ite ?_ ?_)
      | (with_reducible refine LeO.bind ?_ (fun _ => ?_))
      | exact ih0 _ _ _ _ _
      | exact ih1 _ _ _ _ _ _ _
      | exact windbreakref01_compare.mono _ _ _
      | exact windbreakref01_cut.mono _ _
      | exact windbreakref01_mul.mono _ _ _
      | exact windbreakref01_sub.mono _ _ _
      | exact LeO.none _
      | refine LeO.ite ?_ ?_
      | refine LeO.bind ?_ (fun _ => ?_)
    · intro y0 y1 y2 y3 y4 y5 y6
      unfold windbreakref01_div.l1
      repeat' first
      | (with_reducible exact ih0 _ _ _ _ _)
      | (with_reducible exact ih1 _ _ _ _ _ _ _)
      | (with_reducible exact windbreakref01_compare.mono _ _ _)
      | (with_reducible exact windbreakref01_cut.mono _ _)
      | (with_reducible exact windbreakref01_mul.mono _ _ _)
      | (with_reducible exact windbreakref01_sub.mono _ _ _)
      | (with_reducible exact LeO.refl _)
      | (with_reducible exact LeO.none _)
      | (with_reducible refine LeO.ite ?_ ?_)
      | (with_reducible refine LeO.bind ?_ (fun _ => ?_))
      | exact ih0 _ _ _ _ _
      | exact ih1 _ _ _ _ _ _ _
      | exact windbreakref01_compare.mono _ _ _
      | exact windbreakref01_cut.mono _ _
      | exact windbreakref01_mul.mono _ _ _
      | exact windbreakref01_sub.mono _ _ _
      | exact LeO.none _
      | refine LeO.ite ?_ ?_
      | refine LeO.bind ?_ (fun _ => ?_)
theorem windbreakref01_div.mono : ∀ a0 a1 k, LeO (windbreakref01_div.f k a0 a1) (windbreakref01_div.f (k + 1) a0 a1) := by
  intro a0 a1 k
  obtain ⟨ih0, ih1⟩ := windbreakref01_div.mono_l k
  unfold windbreakref01_div.f
  repeat' first
      | (with_reducible exact ih0 _ _ _ _ _)
      | (with_reducible exact ih1 _ _ _ _ _ _ _)
      | (with_reducible exact windbreakref01_compare.mono _ _ _)
      | (with_reducible exact windbreakref01_cut.mono _ _)
      | (with_reducible exact windbreakref01_mul.mono _ _ _)
      | (with_reducible exact windbreakref01_sub.mono _ _ _)
      | (with_reducible exact LeO.refl _)
      | (with_reducible exact LeO.none _)
      | (with_reducible refine LeO.ite ?_ ?_)
      | (with_reducible refine LeO.bind ?_ (fun _ => ?_))
      | exact ih0 _ _ _ _ _
      | exact ih1 _ _ _ _ _ _ _
      | exact windbreakref01_compare.mono _ _ _
      | exact windbreakref01_cut.mono _ _
      | exact windbreakref01_mul.mono _ _ _
      | exact windbreakref01_sub.mono _ _ _
      | exact LeO.none _
      | refine LeO.ite ?_ ?_
      | refine LeO.bind ?_ (fun _ => ?_)
set_option maxHeartbeats 8000000 in
set_option maxRecDepth 100000 in
theorem windbreakref01_div.calls (k : Nat) (A0 : Option Addr) (c0 : Nat) (l0 : List Int) (A1 : Option Addr) (c1 : Nat) (l1 : List Int) (r1 : List Int) (r2 : List Int) (w : World) (hr0 : Kd.C (Kd.int .u64) w A0 l0.length l0) (hc0 : l0.length ≤ c0) (hr1 : Kd.C (Kd.int .u64) w A1 l1.length l1) (hc1 : l1.length ≤ c1) (h : windbreakref01_div.f k l0 l1 = some (r1, r2)) :
    Calls Try.prog 21 #[.slice A0 l0.length c0, .slice A1 l1.length c1] w fun e w' => ∃ v0_ v1_ : Value, e = .returned (.tuple #[v0_, v1_]) ∧ Kd.R (Kd.int .u64) 26 w' w.heap.size (fun k_ => some k_ ≠ (v1_ : Value).ownBlock) v0_ r1 ∧ Kd.R (Kd.int .u64) 26 w' w.heap.size (fun k_ => some k_ ≠ (v0_ : Value).ownBlock) v1_ r2 ∧ Below w.heap.size w w' := by
  have HR0 := Aside0.mk hr0
  have HC0 := Aside0.mk hc0
  clear hr0 hc0
  have HR1 := Aside0.mk hr1
  have HC1 := Aside0.mk hc1
  clear hr1 hc1
  have HB := Aside0.mk (Below.refl w.heap.size w)
  have H : (if 0 ≤ (l0.length : Int) then (if ((l0.length : Int) : Int).toNat ≤ 35184372088832 then (windbreakref01_div.l0 k l0 l1 (List.replicate ((l0.length : Int) : Int).toNat 0) ([] : List Int) (wrap64 ((l0.length : Int) - 1))) else (none)) else (none)) = some (r1, r2) := h
  clear h
  by_cases c3 : 0 ≤ (l0.length : Int)
  · rw [if_pos c3] at H
    have c3b0 := eq_true c3
    have c3b1 : decide (0 ≤ (l0.length : Int)) = true := decide_eq_true c3
    clear c3
    by_cases c4 : ((l0.length : Int) : Int).toNat ≤ 35184372088832
    · rw [if_pos c4] at H
      have c4b0 := eq_true c4
      have c4b1 : decide (((l0.length : Int) : Int).toNat ≤ 35184372088832) = true := decide_eq_true c4
      clear c4
      obtain ⟨y177, hy177⟩ : ∃ y_ : List Int, y_ = (List.replicate ((l0.length : Int) : Int).toNat 0) := ⟨_, rfl⟩
      replace H : (windbreakref01_div.l0 k l0 l1 y177 ([] : List Int) (wrap64 ((l0.length : Int) - 1))) = some (r1, r2) := by first | (rw [hy177]; with_reducible exact H) | (have H2_ := (Option.bind_some _ _).symm.trans H; rw [hy177]; with_reducible exact H2_) | (have H2_ := (Option.bind_some _ _).symm.trans H; with_reducible exact H2_) | with_reducible exact H | (rw [hy177]; exact H) | exact H
      have Ny177 := Aside0.mk hy177
      clear hy177
      have H' := Aside0.mk H
      clear H
      go_enter Try.func21, Try.ntmps21
      go_wp2_with (first | ((with_reducible refine gate_dst (N := 14) rfl ?_); refine Kd.R_make (Kd.int .u64) _ 26 rfl (N := 14) rfl 42 _ _ rfl (l0.length : Int) rfl rfl Try.underlying42 (.int .u64 0) 8 info26 rfl (by decide) (by omega) 0 (ok := fun _ => True) (okp := fun _ => True) rfl (fun _ hk => hk) trivial (of_decide_eq_true (by first | (with_reducible assumption) | assumption)) (Nat.le_trans (Nat.mul_le_mul_right _ (of_decide_eq_true (by first | (with_reducible assumption) | assumption) : (l0.length : Int).toNat ≤ 35184372088832)) (by omega)) (Below.refl _ _) (Nat.le_refl _) ?_; intro v178 w5 ho6 hb hg_ hnew_; clear hg_ hnew_; (first | rw [← Ny177.out] at ho6 | (simp only [Int.reduceToNat] at ho6; rw [← Ny177.out] at ho6)); have n0_ := Aside0.mk (Kd.R_lower ho6 (below_size (by repeat (first | (with_reducible first | exact HB.out | apply below_alloc | apply pw_below_drewN | apply below_drew1) | exact HB.out)))); have n1_ := Aside0.mk (below_step (by repeat (first | (with_reducible first | exact HB.out | apply below_alloc | apply pw_below_drewN | apply below_drew1) | exact HB.out)) hb); clear HB; have HO179 := n0_; have HB := n1_; clear n0_ n1_; clear hb ho6))
      go_loopg [7, 8] k (fun kq v7 v8 w' => ∃ (x6_1 : List Int) (x7_1 : List Int) (x8_1 : Int), v8 = .int .i64 x8_1 ∧ Aside0 (windbreakref01_div.l0 kq l0 l1 x6_1 x7_1 x8_1 = some (r1, r2)) ∧ Aside0 (kq ≤ k) ∧ Aside0 (Kd.R (Kd.int .u64) 26 w' w.heap.size (fun k_ => some k_ ≠ (v7 : Value).ownBlock) v178 x6_1) ∧ Aside0 (Kd.R (Kd.int .u64) 26 w' w.heap.size (fun k_ => some k_ ≠ (v178 : Value).ownBlock) v7 x7_1) ∧ Aside0 (Below w.heap.size w w'))
      case atStart => exact ⟨(y177), (([] : List Int)), (wrap64 ((l0.length : Int) - 1)), (by first | rfl | (simp; done) | (simp [*]; done)), H', ⟨Nat.le_refl _⟩, ⟨by (with_reducible repeat (first | apply Kd.R_alloc | apply Kd.R_drewN | apply Kd.R_drew)); exact Kd.R_mono HO179.out (fun _ hk => (by simp [Value.ownBlock]))⟩, ⟨by first | exact Kd.R_nil _ _ _ _ _ | exact Kd.N_nil _ _ _ _ _ | exact Kd.V_nil _ _ _ _ _ | exact Kd.Q_nil _ _ _ _ _ | exact Kd.S_nil _ _ _ _ _⟩, ⟨by repeat (first | (with_reducible first | exact HB.out | apply below_alloc | apply pw_below_drewN | apply below_drew1) | exact HB.out)⟩⟩
      case round =>
        clear H'
        try clear c1
        try clear c2
        try clear p2
        try clear c3
        try clear c3b0
        try clear c3b1
        try clear c4
        try clear c4b0
        try clear c4b1
        try clear p6
        obtain ⟨x6_1, x7_1, x8_1, rfl, HA, HK1, HO_6, HO_7, HB⟩ := hrel
        cases gk with
        | zero => exact absurd HA.out (by simp [windbreakref01_div.l0])
        | succ k1 =>
          have H := HA.out
          clear HA
          simp only [windbreakref01_div.l0] at H
          by_cases c7 : x8_1 ≥ 0
          · rw [if_pos c7] at H
            have c7b0 : decide (0 ≤ x8_1) = true := decide_eq_true c7
            clear c7
            by_cases c8 : 0 ≤ x8_1
            · rw [if_pos c8] at H
              have c8b0 : decide (0 ≤ x8_1) = true := decide_eq_true c8
              clear c8
              by_cases c9 : x8_1 < (l0.length : Int)
              · rw [if_pos c9] at H
                have c9b0 : decide (x8_1 < (l0.length : Int)) = true := decide_eq_true c9
                clear c9
                obtain ⟨y184, hy184⟩ : ∃ y_ : List Int, y_ = (([rd l0 x8_1] : List Int)) := ⟨_, rfl⟩
                replace H : (if y184.length + x7_1.length < 17592186044416 then ((windbreakref01_cut.f k1 (y184 ++ x7_1)).bind fun t190 => (windbreakref01_div.l1 k1 l0 l1 x6_1 t190 x8_1 0 65535)) else (none)) = some (r1, r2) := by first | (rw [hy184]; with_reducible exact H) | (have H2_ := (Option.bind_some _ _).symm.trans H; rw [hy184]; with_reducible exact H2_) | (have H2_ := (Option.bind_some _ _).symm.trans H; with_reducible exact H2_) | with_reducible exact H | (rw [hy184]; exact H) | exact H
                have Ny184 := Aside0.mk hy184
                clear hy184
                by_cases c10 : y184.length + x7_1.length < 17592186044416
                · rw [if_pos c10] at H
                  have LMc10 := Aside0.mk c10
                  clear c10
                  obtain ⟨y187, hy187⟩ : ∃ y_ : List Int, y_ = (y184 ++ x7_1) := ⟨_, rfl⟩
                  replace H : ((windbreakref01_cut.f k1 y187).bind fun t190 => (windbreakref01_div.l1 k1 l0 l1 x6_1 t190 x8_1 0 65535)) = some (r1, r2) := by first | (rw [hy187]; with_reducible exact H) | (have H2_ := (Option.bind_some _ _).symm.trans H; rw [hy187]; with_reducible exact H2_) | (have H2_ := (Option.bind_some _ _).symm.trans H; with_reducible exact H2_) | with_reducible exact H | (rw [hy187]; exact H) | exact H
                  have Ny187 := Aside0.mk hy187
                  clear hy187
                  replace H := Option.bind_eq_some_iff.mp H
                  obtain ⟨t190, A110, H⟩ := H
                  replace H : (windbreakref01_div.l1 k1 l0 l1 x6_1 t190 x8_1 0 65535) = some (r1, r2) := H
                  have A11 := Aside0.mk A110
                  clear A110
                  have H' := Aside0.mk H
                  clear H
                  have p183 : 0 ≤ (x8_1 : Int) := of_decide_eq_true (by first | (with_reducible assumption) | assumption)
                  have q183 : x8_1 < (l0.length : Int) := of_decide_eq_true (by first | (with_reducible assumption) | assumption)
                  obtain ⟨ad183, e183, hx183_0⟩ := Kd.at_int HR0.out x8_1 p183 q183
                  cases e183
                  replace hx183_0 := (HB.out.cell (World.block_lt_of_cell? w _ hx183_0)).trans hx183_0
                  replace p183 := eq_true p183
                  replace q183 := eq_true q183
                  go_wp2_with (first | ((with_reducible refine gate_dst (N := 26) rfl ?_); refine Kd.R_lit (Kd.int .u64) _ 26 ?hg (N := 26) ?hd (xs := ([rd l0 x8_1] : List Int)) (inner := [.int .u64 (rd l0 x8_1)]) (ok := fun _ => True) (okp := fun _ => True) ?hr ?hp (fun _ hk => hk) trivial (Below.refl _ _) (Nat.le_refl _) (by simp) ?_; (case hd => rfl); (case hg => rfl); (case hr => first | (go_simp; done) | (go_simp; rfl)); (case hp => exact (Reps.one (show Kd.M (Kd.int .u64) _ _ _ (rd l0 x8_1) [.int .u64 (rd l0 x8_1)] from rfl) (Reps.none _ _))); intro v185 w12 ho13 hb hg_ hnew_; clear hg_ hnew_; (first | rw [← Ny184.out] at ho13 | (simp only [Int.reduceToNat] at ho13; rw [← Ny184.out] at ho13)); have n0_ := Aside0.mk (Kd.R_elder' (by (with_reducible repeat (first | apply Kd.R_alloc | apply Kd.R_drewN | apply Kd.R_drew)); exact HO_6.out) (Kd.R_base ho13) hb); have n1_ := Aside0.mk (Kd.R_elder' (by (with_reducible repeat (first | apply Kd.R_alloc | apply Kd.R_drewN | apply Kd.R_drew)); exact HO_7.out) (Kd.R_base ho13) hb); have n2_ := Aside0.mk (Kd.R_lower (Kd.R_new' (Kd.R_new' ho13 (Kd.R_lt (by (with_reducible repeat (first | apply Kd.R_alloc | apply Kd.R_drewN | apply Kd.R_drew)); exact HO_6.out))) (Kd.R_lt (by (with_reducible repeat (first | apply Kd.R_alloc | apply Kd.R_drewN | apply Kd.R_drew)); exact HO_7.out))) (below_size (by repeat (first | (with_reducible first | exact HB.out | apply below_alloc | apply pw_below_drewN | apply below_drew1) | exact HB.out)))); have n3_ := Aside0.mk (below_step (by repeat (first | (with_reducible first | exact HB.out | apply below_alloc | apply pw_below_drewN | apply below_drew1) | exact HB.out)) hb); clear HO_6; clear HO_7; clear HB; have HO_6 := n0_; have HO_7 := n1_; have HO186 := n2_; have HB := n3_; clear n0_ n1_ n2_ n3_; clear hb ho13; obtain ⟨Ao15, co15, eo15⟩ := Kd.R_slice HO_7.out; subst eo15) | ((with_reducible refine gate_builtin (b := .append) (xs := #[.tmp 26, .tmp 27]) rfl ?_); at_builtin; refine Kd.R_append_rows (Kd.int .u64) (w0 := w) w.heap.size rfl (.tmp 26) (.tmp 27) 42 26 (.int .u64 0) 8 rfl Try.underlying42 info26 rfl (by decide) (by omega) v185 y184 x7_1 _ _ _ (fun k_ => some k_ ≠ (v178 : Value).ownBlock ∧ some k_ ≠ (.slice Ao15 x7_1.length co15 : Value).ownBlock) (fun _ => False) rfl rfl ?aO ?aR (fun _ _ h => h) (fun _ h => h.elim) ?aF ?aB ?aS ?aL ?_; (case aR => repeat (first | exact (Kd.R_reads' HO_7.out).2.2 | (with_reducible refine Kd.C_alloc ?_ _) | (with_reducible refine Kd.C_drewN ?_ _) | (with_reducible refine Kd.C_drew ?_))); (case aB => exact (by repeat (first | (with_reducible first | exact HB.out | apply below_alloc | apply pw_below_drewN | apply below_drew1) | exact HB.out))); (case aF => exact (fun k_ hk => ⟨Kd.fresh' (Kd.R_lt (by (with_reducible repeat (first | apply Kd.R_alloc | apply Kd.R_drewN | apply Kd.R_drew)); exact HO_6.out)) k_ hk, Kd.fresh' (Kd.R_lt (by (with_reducible repeat (first | apply Kd.R_alloc | apply Kd.R_drewN | apply Kd.R_drew)); exact HO_7.out)) k_ hk⟩)); (case aO => exact (by (with_reducible repeat (first | apply Kd.R_alloc | apply Kd.R_drewN | apply Kd.R_drew)); exact Kd.R_mono HO186.out (fun _ hk => ⟨hk.1.2, hk.2⟩))); (case aS => exact (below_size (by repeat (first | (with_reducible first | exact HB.out | apply below_alloc | apply pw_below_drewN | apply below_drew1) | exact HB.out)))); (case aL => have := LMc10.out; omega); intro v188 w14 ho hb hg hat; rw [← Ny187.out] at ho; have n0_ := Aside0.mk (Kd.R_after (ok := (fun k_ => some k_ ≠ (.slice Ao15 x7_1.length co15 : Value).ownBlock)) (by (with_reducible repeat (first | apply Kd.R_alloc | apply Kd.R_drewN | apply Kd.R_drew)); exact HO_6.out) hg hat); have n1_ := Aside0.mk (Kd.R_after (ok := (fun k_ => some k_ ≠ (v178 : Value).ownBlock)) (by (with_reducible repeat (first | apply Kd.R_alloc | apply Kd.R_drewN | apply Kd.R_drew)); exact HO_7.out) hg hat); have n2_ := Aside0.mk (hb); have n3_ := Aside0.mk (ho); clear HO_6; clear HO_7; clear HB; clear HO186; have HO_6 := n0_; have HO_7 := n1_; have HB := n2_; have HO189 := n3_; clear n0_ n1_ n2_ n3_; clear ho hb hg hat; obtain ⟨Ao16, co16, eo16⟩ := Kd.R_slice HO189.out; subst eo16) | ((with_reducible refine gate_callee (f := 41) rfl ?_); refine goesL_ (some 29) rfl rfl Try.func41 (by kernel_rfl) rfl #[.slice Ao16 y187.length co16] rfl (by (try simp only [List.map_toArray, List.map_cons, List.map_nil]); first | done | rfl | (simp only [List.length_drop, List.length_take]; rfl)) ?_; (with_reducible refine (windbreakref01_cut.calls k1 (fun k_ => some k_ = (.slice Ao16 y187.length co16 : Value).ownBlock) (.slice Ao16 y187.length co16) y187 t190 w _ ?side1 ?side2 A11.out).mono ?_); (case side1 => repeat (first | (with_reducible first | exact HB.out | apply below_alloc | apply pw_below_drewN | apply below_drew1) | exact HB.out)); (case side2 => exact Kd.R_tight rfl HO189.out); rintro e w17 ⟨v191, rfl, ho0, hb, hkp⟩; refine ⟨_, rfl, ?_⟩; have n0_ := Aside0.mk (Kd.R_mono (ok' := fun k_ => some k_ ≠ (.slice Ao15 x7_1.length co15 : Value).ownBlock ∧ some k_ ≠ (v191 : Value).ownBlock) (Kd.R_keptB (HO_6.out) hkp (fun k_ hk_ hs_ => (hk_.2) hs_)) (fun k_ hk_ => ⟨hk_.1.1, fun e_ => Or.elim (ho0.1 k_ e_.symm) (fun hs_ => hk_.2.1 hs_) (fun hn_ => Nat.not_le.2 hk_.2.2 hn_)⟩)); have n1_ := Aside0.mk (Kd.R_mono (ok' := fun k_ => some k_ ≠ (v178 : Value).ownBlock ∧ some k_ ≠ (v191 : Value).ownBlock) (Kd.R_keptB (HO_7.out) hkp (fun k_ hk_ hs_ => (hk_.2) hs_)) (fun k_ hk_ => ⟨hk_.1.1, fun e_ => Or.elim (ho0.1 k_ e_.symm) (fun hs_ => hk_.2.1 hs_) (fun hn_ => Nat.not_le.2 hk_.2.2 hn_)⟩)); have n2_ := Aside0.mk (Kd.R_mono (ok' := fun k_ => some k_ ≠ (v178 : Value).ownBlock ∧ some k_ ≠ (.slice Ao15 x7_1.length co15 : Value).ownBlock) ho0 (fun k_ hk_ => ⟨Or.elim hk_ (fun hs_ => fun e_ => (((HO_6.out).1 k_ e_.symm).2) hs_) (fun hn_ => (Kd.fresh' (Kd.R_lt (by (with_reducible repeat (first | apply Kd.R_alloc | apply Kd.R_drewN | apply Kd.R_drew)); exact HO_6.out)) k_ hn_)), Or.elim hk_ (fun hs_ => fun e_ => (((HO_7.out).1 k_ e_.symm).2) hs_) (fun hn_ => (Kd.fresh' (Kd.R_lt (by (with_reducible repeat (first | apply Kd.R_alloc | apply Kd.R_drewN | apply Kd.R_drew)); exact HO_7.out)) k_ hn_))⟩)); have n3_ := Aside0.mk (hb); clear HO_6; clear HO_7; clear HB; clear HO189; have HO_6 := n0_; have HO_7 := n1_; have HO192 := n2_; have HB := n3_; clear n0_ n1_ n2_ n3_; (try clear hb); (try clear hkp); (try clear ho0)))
                  go_loopg [9, 10] k1 (fun kq v9 v10 w' => ∃ (x9_2 : Int) (x10_2 : Int), v9 = .int .u64 x9_2 ∧ v10 = .int .u64 x10_2 ∧ Aside0 (windbreakref01_div.l1 kq l0 l1 x6_1 t190 x8_1 x9_2 x10_2 = some (r1, r2)) ∧ Aside0 (kq ≤ k1) ∧ Aside0 (Kd.R (Kd.int .u64) 26 w' w.heap.size (fun k_ => some k_ ≠ (v191 : Value).ownBlock) v178 x6_1) ∧ Aside0 (Kd.R (Kd.int .u64) 26 w' w.heap.size (fun k_ => some k_ ≠ (v178 : Value).ownBlock) v191 t190) ∧ Aside0 (Below w.heap.size w w'))
                  case atStart => exact ⟨(0), (65535), (by first | rfl | (simp; done) | (simp [*]; done)), (by first | rfl | (simp; done) | (simp [*]; done)), H', ⟨Nat.le_refl _⟩, ⟨by (with_reducible repeat (first | apply Kd.R_alloc | apply Kd.R_drewN | apply Kd.R_drew)); exact Kd.R_mono HO_6.out (fun _ hk => hk.2)⟩, ⟨by (with_reducible repeat (first | apply Kd.R_alloc | apply Kd.R_drewN | apply Kd.R_drew)); exact Kd.R_mono HO192.out (fun _ hk => hk.1)⟩, ⟨by repeat (first | (with_reducible first | exact HB.out | apply below_alloc | apply pw_below_drewN | apply below_drew1) | exact HB.out)⟩⟩
                  case round =>
                    clear H'
                    try clear c1
                    try clear p1
                    try clear q1
                    try clear hx1
                    try clear c2
                    try clear p2
                    try clear c3
                    try clear c3b0
                    try clear c3b1
                    try clear c4
                    try clear c4b0
                    try clear c4b1
                    try clear p6
                    try clear c7
                    try clear c7b0
                    try clear c8
                    try clear c8b0
                    try clear c9
                    try clear c9b0
                    try clear c10
                    try clear hx183_0
                    try clear p183
                    try clear p2
                    try clear p6
                    try clear q183
                    obtain ⟨x9_2, x10_2, rfl, rfl, HA, HK2, HO_6, HO_7, HB⟩ := hrel
                    cases gk with
                    | zero => exact absurd HA.out (by simp [windbreakref01_div.l1])
                    | succ k2 =>
                      have H := HA.out
                      clear HA
                      simp only [windbreakref01_div.l1] at H
                      by_cases c18 : x9_2 < x10_2
                      · rw [if_pos c18] at H
                        have c18b0 : decide (x9_2 < x10_2) = true := decide_eq_true c18
                        clear c18
                        obtain ⟨y203, hy203⟩ : ∃ y_ : List Int, y_ = (([IntKind.u64.wrap (Int.tdiv (IntKind.u64.wrap ((IntKind.u64.wrap (x9_2 + x10_2)) + 1)) 2)] : List Int)) := ⟨_, rfl⟩
                        replace H : ((windbreakref01_mul.f k2 l1 y203).bind fun t206 => ((windbreakref01_compare.f k2 t206 t190).bind fun t209 => (if t209 ≤ 0 then (windbreakref01_div.l1 k2 l0 l1 x6_1 t190 x8_1 (IntKind.u64.wrap (Int.tdiv (IntKind.u64.wrap ((IntKind.u64.wrap (x9_2 + x10_2)) + 1)) 2)) x10_2) else (windbreakref01_div.l1 k2 l0 l1 x6_1 t190 x8_1 x9_2 (IntKind.u64.wrap ((IntKind.u64.wrap (Int.tdiv (IntKind.u64.wrap ((IntKind.u64.wrap (x9_2 + x10_2)) + 1)) 2)) - 1)))))) = some (r1, r2) := by first | (rw [hy203]; with_reducible exact H) | (have H2_ := (Option.bind_some _ _).symm.trans H; rw [hy203]; with_reducible exact H2_) | (have H2_ := (Option.bind_some _ _).symm.trans H; with_reducible exact H2_) | with_reducible exact H | (rw [hy203]; exact H) | exact H
                        have Ny203 := Aside0.mk hy203
                        clear hy203
                        replace H := Option.bind_eq_some_iff.mp H
                        obtain ⟨t206, A190, H⟩ := H
                        replace H : ((windbreakref01_compare.f k2 t206 t190).bind fun t209 => (if t209 ≤ 0 then (windbreakref01_div.l1 k2 l0 l1 x6_1 t190 x8_1 (IntKind.u64.wrap (Int.tdiv (IntKind.u64.wrap ((IntKind.u64.wrap (x9_2 + x10_2)) + 1)) 2)) x10_2) else (windbreakref01_div.l1 k2 l0 l1 x6_1 t190 x8_1 x9_2 (IntKind.u64.wrap ((IntKind.u64.wrap (Int.tdiv (IntKind.u64.wrap ((IntKind.u64.wrap (x9_2 + x10_2)) + 1)) 2)) - 1))))) = some (r1, r2) := H
                        have A19 := Aside0.mk A190
                        clear A190
                        replace H := Option.bind_eq_some_iff.mp H
                        obtain ⟨t209, A200, H⟩ := H
                        replace H : (if t209 ≤ 0 then (windbreakref01_div.l1 k2 l0 l1 x6_1 t190 x8_1 (IntKind.u64.wrap (Int.tdiv (IntKind.u64.wrap ((IntKind.u64.wrap (x9_2 + x10_2)) + 1)) 2)) x10_2) else (windbreakref01_div.l1 k2 l0 l1 x6_1 t190 x8_1 x9_2 (IntKind.u64.wrap ((IntKind.u64.wrap (Int.tdiv (IntKind.u64.wrap ((IntKind.u64.wrap (x9_2 + x10_2)) + 1)) 2)) - 1)))) = some (r1, r2) := H
                        have A20 := Aside0.mk A200
                        clear A200
                        by_cases c21 : t209 ≤ 0
                        · rw [if_pos c21] at H
                          have c21b0 : decide (t209 ≤ 0) = true := decide_eq_true c21
                          clear c21
                          have H' := Aside0.mk H
                          clear H
                          go_wp2_with (first | ((with_reducible refine gate_dst (N := 40) rfl ?_); refine Kd.R_lit (Kd.int .u64) _ 26 ?hg (N := 40) ?hd (xs := ([IntKind.u64.wrap (Int.tdiv (IntKind.u64.wrap ((IntKind.u64.wrap (x9_2 + x10_2)) + 1)) 2)] : List Int)) (inner := [.int .u64 (IntKind.u64.wrap (Int.tdiv (IntKind.u64.wrap ((IntKind.u64.wrap (x9_2 + x10_2)) + 1)) 2))]) (ok := fun _ => True) (okp := fun _ => True) ?hr ?hp (fun _ hk => hk) trivial (Below.refl _ _) (Nat.le_refl _) (by simp) ?_; (case hd => rfl); (case hg => rfl); (case hr => first | (go_simp; done) | (go_simp; rfl)); (case hp => exact (Reps.one (show Kd.M (Kd.int .u64) _ _ _ (IntKind.u64.wrap (Int.tdiv (IntKind.u64.wrap ((IntKind.u64.wrap (x9_2 + x10_2)) + 1)) 2)) [.int .u64 (IntKind.u64.wrap (Int.tdiv (IntKind.u64.wrap ((IntKind.u64.wrap (x9_2 + x10_2)) + 1)) 2))] from rfl) (Reps.none _ _))); intro v204 w22 ho23 hb hg_ hnew_; clear hg_ hnew_; (first | rw [← Ny203.out] at ho23 | (simp only [Int.reduceToNat] at ho23; rw [← Ny203.out] at ho23)); have n0_ := Aside0.mk (Kd.R_elder' (by (with_reducible repeat (first | apply Kd.R_alloc | apply Kd.R_drewN | apply Kd.R_drew)); exact HO_6.out) (Kd.R_base ho23) hb); have n1_ := Aside0.mk (Kd.R_elder' (by (with_reducible repeat (first | apply Kd.R_alloc | apply Kd.R_drewN | apply Kd.R_drew)); exact HO_7.out) (Kd.R_base ho23) hb); have n2_ := Aside0.mk (Kd.R_lower (Kd.R_new' (Kd.R_new' ho23 (Kd.R_lt (by (with_reducible repeat (first | apply Kd.R_alloc | apply Kd.R_drewN | apply Kd.R_drew)); exact HO_6.out))) (Kd.R_lt (by (with_reducible repeat (first | apply Kd.R_alloc | apply Kd.R_drewN | apply Kd.R_drew)); exact HO_7.out))) (below_size (by repeat (first | (with_reducible first | exact HB.out | apply below_alloc | apply pw_below_drewN | apply below_drew1) | exact HB.out)))); have n3_ := Aside0.mk (below_step (by repeat (first | (with_reducible first | exact HB.out | apply below_alloc | apply pw_below_drewN | apply below_drew1) | exact HB.out)) hb); clear HO_6; clear HO_7; clear HB; have HO_6 := n0_; have HO_7 := n1_; have HO205 := n2_; have HB := n3_; clear n0_ n1_ n2_ n3_; clear hb ho23; obtain ⟨Ao24, co24, eo24⟩ := Kd.R_slice HO205.out; subst eo24) | ((with_reducible refine gate_callee (f := 43) rfl ?_); refine goesL_ (some 41) rfl rfl Try.func43 (by kernel_rfl) rfl #[.slice A1 l1.length c1, .slice Ao24 y203.length co24] rfl (by (try simp only [List.map_toArray, List.map_cons, List.map_nil]); first | done | rfl | (simp only [List.length_drop, List.length_take]; rfl)) ?_; (with_reducible refine (windbreakref01_mul.calls k2 _ _ l1 _ _ y203 t206 _ ?side1 ?side2 ?side3 ?side4 A19.out).mono ?_); (case side1 => repeat (first | exact (Kd.C_below HR1.out HB.out) | (with_reducible refine Kd.C_alloc ?_ _) | (with_reducible refine Kd.C_drewN ?_ _) | (with_reducible refine Kd.C_drew ?_))); (case side2 => exact HC1.out); (case side3 => repeat (first | exact (Kd.R_reads' HO205.out).2.2 | (with_reducible refine Kd.C_alloc ?_ _) | (with_reducible refine Kd.C_drewN ?_ _) | (with_reducible refine Kd.C_drew ?_))); (case side4 => exact (Kd.R_reads' HO205.out).2.1); rintro e w25 ⟨v207, rfl, ho0, hb⟩; refine ⟨_, rfl, ?_⟩; have n0_ := Aside0.mk (Kd.R_elder' (by (with_reducible repeat (first | apply Kd.R_alloc | apply Kd.R_drewN | apply Kd.R_drew)); exact HO_6.out) (Kd.R_base ho0) hb); have n1_ := Aside0.mk (Kd.R_elder' (by (with_reducible repeat (first | apply Kd.R_alloc | apply Kd.R_drewN | apply Kd.R_drew)); exact HO_7.out) (Kd.R_base ho0) hb); have n2_ := Aside0.mk (Kd.R_elder' (by (with_reducible repeat (first | apply Kd.R_alloc | apply Kd.R_drewN | apply Kd.R_drew)); exact HO205.out) (Kd.R_base ho0) hb); have n3_ := Aside0.mk (Kd.R_lower (Kd.R_new' (Kd.R_new' (Kd.R_new' ho0 (Kd.R_lt (by (with_reducible repeat (first | apply Kd.R_alloc | apply Kd.R_drewN | apply Kd.R_drew)); exact HO_6.out))) (Kd.R_lt (by (with_reducible repeat (first | apply Kd.R_alloc | apply Kd.R_drewN | apply Kd.R_drew)); exact HO_7.out))) (Kd.R_lt (by (with_reducible repeat (first | apply Kd.R_alloc | apply Kd.R_drewN | apply Kd.R_drew)); exact HO205.out))) (below_size (by repeat (first | (with_reducible first | exact HB.out | apply below_alloc | apply pw_below_drewN | apply below_drew1) | exact HB.out)))); have n4_ := Aside0.mk (below_step (by repeat (first | (with_reducible first | exact HB.out | apply below_alloc | apply pw_below_drewN | apply below_drew1) | exact HB.out)) hb); clear HO_6; clear HO_7; clear HO205; clear HB; have HO_6 := n0_; have HO_7 := n1_; have HO205 := n2_; have HO208 := n3_; have HB := n4_; clear n0_ n1_ n2_ n3_ n4_; (try clear hb); (try clear hb2); (try clear hk); (try clear hi); (try clear ho0); obtain ⟨Ao26, co26, eo26⟩ := Kd.R_slice HO208.out; subst eo26; obtain ⟨Ao27, co27, eo27⟩ := Kd.R_slice HO_7.out; subst eo27) | ((with_reducible refine gate_callee (f := 42) rfl ?_); refine goesL_ (some 43) rfl rfl Try.func42 (by kernel_rfl) rfl #[.slice Ao26 t206.length co26, .slice Ao27 t190.length co27] rfl (by (try simp only [List.map_toArray, List.map_cons, List.map_nil]); first | done | rfl | (simp only [List.length_drop, List.length_take]; rfl)) ?_; (with_reducible refine (windbreakref01_compare.calls k2 _ _ t206 _ _ t190 t209 _ ?side1 ?side2 ?side3 ?side4 A20.out).mono ?_); (case side1 => repeat (first | exact (Kd.R_reads' HO208.out).2.2 | (with_reducible refine Kd.C_alloc ?_ _) | (with_reducible refine Kd.C_drewN ?_ _) | (with_reducible refine Kd.C_drew ?_))); (case side2 => exact (Kd.R_reads' HO208.out).2.1); (case side3 => repeat (first | exact (Kd.R_reads' HO_7.out).2.2 | (with_reducible refine Kd.C_alloc ?_ _) | (with_reducible refine Kd.C_drewN ?_ _) | (with_reducible refine Kd.C_drew ?_))); (case side4 => exact (Kd.R_reads' HO_7.out).2.1); rintro e w' ⟨rfl, ⟨nd, rfl⟩⟩; refine ⟨_, rfl, ?_⟩))
                          go_roundg k2
                          case measure => have := HK1.out; have := HK2.out; omega
                          case rel => exact ⟨(IntKind.u64.wrap (Int.tdiv (IntKind.u64.wrap ((IntKind.u64.wrap (x9_2 + x10_2)) + 1)) 2)), (x10_2), (by first | rfl | (simp; done) | (simp [*]; done)), (by first | rfl | (simp; done) | (simp [*]; done)), H', ⟨by have := HK1.out; have := HK2.out; omega⟩, ⟨by (with_reducible repeat (first | apply Kd.R_alloc | apply Kd.R_drewN | apply Kd.R_drew)); exact Kd.R_mono HO_6.out (fun _ hk => hk.1.1)⟩, ⟨by (with_reducible repeat (first | apply Kd.R_alloc | apply Kd.R_drewN | apply Kd.R_drew)); exact Kd.R_mono HO_7.out (fun _ hk => hk.1.1)⟩, ⟨by repeat (first | (with_reducible first | exact HB.out | apply below_alloc | apply pw_below_drewN | apply below_drew1) | exact HB.out)⟩⟩
                        · rw [if_neg c21] at H
                          have c21b0 : decide (t209 ≤ 0) = false := decide_eq_false c21
                          clear c21
                          have H' := Aside0.mk H
                          clear H
                          go_wp2_with (first | ((with_reducible refine gate_dst (N := 40) rfl ?_); refine Kd.R_lit (Kd.int .u64) _ 26 ?hg (N := 40) ?hd (xs := ([IntKind.u64.wrap (Int.tdiv (IntKind.u64.wrap ((IntKind.u64.wrap (x9_2 + x10_2)) + 1)) 2)] : List Int)) (inner := [.int .u64 (IntKind.u64.wrap (Int.tdiv (IntKind.u64.wrap ((IntKind.u64.wrap (x9_2 + x10_2)) + 1)) 2))]) (ok := fun _ => True) (okp := fun _ => True) ?hr ?hp (fun _ hk => hk) trivial (Below.refl _ _) (Nat.le_refl _) (by simp) ?_; (case hd => rfl); (case hg => rfl); (case hr => first | (go_simp; done) | (go_simp; rfl)); (case hp => exact (Reps.one (show Kd.M (Kd.int .u64) _ _ _ (IntKind.u64.wrap (Int.tdiv (IntKind.u64.wrap ((IntKind.u64.wrap (x9_2 + x10_2)) + 1)) 2)) [.int .u64 (IntKind.u64.wrap (Int.tdiv (IntKind.u64.wrap ((IntKind.u64.wrap (x9_2 + x10_2)) + 1)) 2))] from rfl) (Reps.none _ _))); intro v204 w28 ho29 hb hg_ hnew_; clear hg_ hnew_; (first | rw [← Ny203.out] at ho29 | (simp only [Int.reduceToNat] at ho29; rw [← Ny203.out] at ho29)); have n0_ := Aside0.mk (Kd.R_elder' (by (with_reducible repeat (first | apply Kd.R_alloc | apply Kd.R_drewN | apply Kd.R_drew)); exact HO_6.out) (Kd.R_base ho29) hb); have n1_ := Aside0.mk (Kd.R_elder' (by (with_reducible repeat (first | apply Kd.R_alloc | apply Kd.R_drewN | apply Kd.R_drew)); exact HO_7.out) (Kd.R_base ho29) hb); have n2_ := Aside0.mk (Kd.R_lower (Kd.R_new' (Kd.R_new' ho29 (Kd.R_lt (by (with_reducible repeat (first | apply Kd.R_alloc | apply Kd.R_drewN | apply Kd.R_drew)); exact HO_6.out))) (Kd.R_lt (by (with_reducible repeat (first | apply Kd.R_alloc | apply Kd.R_drewN | apply Kd.R_drew)); exact HO_7.out))) (below_size (by repeat (first | (with_reducible first | exact HB.out | apply below_alloc | apply pw_below_drewN | apply below_drew1) | exact HB.out)))); have n3_ := Aside0.mk (below_step (by repeat (first | (with_reducible first | exact HB.out | apply below_alloc | apply pw_below_drewN | apply below_drew1) | exact HB.out)) hb); clear HO_6; clear HO_7; clear HB; have HO_6 := n0_; have HO_7 := n1_; have HO205 := n2_; have HB := n3_; clear n0_ n1_ n2_ n3_; clear hb ho29; obtain ⟨Ao30, co30, eo30⟩ := Kd.R_slice HO205.out; subst eo30) | ((with_reducible refine gate_callee (f := 43) rfl ?_); refine goesL_ (some 41) rfl rfl Try.func43 (by kernel_rfl) rfl #[.slice A1 l1.length c1, .slice Ao30 y203.length co30] rfl (by (try simp only [List.map_toArray, List.map_cons, List.map_nil]); first | done | rfl | (simp only [List.length_drop, List.length_take]; rfl)) ?_; (with_reducible refine (windbreakref01_mul.calls k2 _ _ l1 _ _ y203 t206 _ ?side1 ?side2 ?side3 ?side4 A19.out).mono ?_); (case side1 => repeat (first | exact (Kd.C_below HR1.out HB.out) | (with_reducible refine Kd.C_alloc ?_ _) | (with_reducible refine Kd.C_drewN ?_ _) | (with_reducible refine Kd.C_drew ?_))); (case side2 => exact HC1.out); (case side3 => repeat (first | exact (Kd.R_reads' HO205.out).2.2 | (with_reducible refine Kd.C_alloc ?_ _) | (with_reducible refine Kd.C_drewN ?_ _) | (with_reducible refine Kd.C_drew ?_))); (case side4 => exact (Kd.R_reads' HO205.out).2.1); rintro e w31 ⟨v207, rfl, ho0, hb⟩; refine ⟨_, rfl, ?_⟩; have n0_ := Aside0.mk (Kd.R_elder' (by (with_reducible repeat (first | apply Kd.R_alloc | apply Kd.R_drewN | apply Kd.R_drew)); exact HO_6.out) (Kd.R_base ho0) hb); have n1_ := Aside0.mk (Kd.R_elder' (by (with_reducible repeat (first | apply Kd.R_alloc | apply Kd.R_drewN | apply Kd.R_drew)); exact HO_7.out) (Kd.R_base ho0) hb); have n2_ := Aside0.mk (Kd.R_elder' (by (with_reducible repeat (first | apply Kd.R_alloc | apply Kd.R_drewN | apply Kd.R_drew)); exact HO205.out) (Kd.R_base ho0) hb); have n3_ := Aside0.mk (Kd.R_lower (Kd.R_new' (Kd.R_new' (Kd.R_new' ho0 (Kd.R_lt (by (with_reducible repeat (first | apply Kd.R_alloc | apply Kd.R_drewN | apply Kd.R_drew)); exact HO_6.out))) (Kd.R_lt (by (with_reducible repeat (first | apply Kd.R_alloc | apply Kd.R_drewN | apply Kd.R_drew)); exact HO_7.out))) (Kd.R_lt (by (with_reducible repeat (first | apply Kd.R_alloc | apply Kd.R_drewN | apply Kd.R_drew)); exact HO205.out))) (below_size (by repeat (first | (with_reducible first | exact HB.out | apply below_alloc | apply pw_below_drewN | apply below_drew1) | exact HB.out)))); have n4_ := Aside0.mk (below_step (by repeat (first | (with_reducible first | exact HB.out | apply below_alloc | apply pw_below_drewN | apply below_drew1) | exact HB.out)) hb); clear HO_6; clear HO_7; clear HO205; clear HB; have HO_6 := n0_; have HO_7 := n1_; have HO205 := n2_; have HO208 := n3_; have HB := n4_; clear n0_ n1_ n2_ n3_ n4_; (try clear hb); (try clear hb2); (try clear hk); (try clear hi); (try clear ho0); obtain ⟨Ao32, co32, eo32⟩ := Kd.R_slice HO208.out; subst eo32; obtain ⟨Ao33, co33, eo33⟩ := Kd.R_slice HO_7.out; subst eo33) | ((with_reducible refine gate_callee (f := 42) rfl ?_); refine goesL_ (some 43) rfl rfl Try.func42 (by kernel_rfl) rfl #[.slice Ao32 t206.length co32, .slice Ao33 t190.length co33] rfl (by (try simp only [List.map_toArray, List.map_cons, List.map_nil]); first | done | rfl | (simp only [List.length_drop, List.length_take]; rfl)) ?_; (with_reducible refine (windbreakref01_compare.calls k2 _ _ t206 _ _ t190 t209 _ ?side1 ?side2 ?side3 ?side4 A20.out).mono ?_); (case side1 => repeat (first | exact (Kd.R_reads' HO208.out).2.2 | (with_reducible refine Kd.C_alloc ?_ _) | (with_reducible refine Kd.C_drewN ?_ _) | (with_reducible refine Kd.C_drew ?_))); (case side2 => exact (Kd.R_reads' HO208.out).2.1); (case side3 => repeat (first | exact (Kd.R_reads' HO_7.out).2.2 | (with_reducible refine Kd.C_alloc ?_ _) | (with_reducible refine Kd.C_drewN ?_ _) | (with_reducible refine Kd.C_drew ?_))); (case side4 => exact (Kd.R_reads' HO_7.out).2.1); rintro e w' ⟨rfl, ⟨nd, rfl⟩⟩; refine ⟨_, rfl, ?_⟩))
                          go_roundg k2
                          case measure => have := HK1.out; have := HK2.out; omega
                          case rel => exact ⟨(x9_2), (IntKind.u64.wrap ((IntKind.u64.wrap (Int.tdiv (IntKind.u64.wrap ((IntKind.u64.wrap (x9_2 + x10_2)) + 1)) 2)) - 1)), (by first | rfl | (simp; done) | (simp [*]; done)), (by first | rfl | (simp; done) | (simp [*]; done)), H', ⟨by have := HK1.out; have := HK2.out; omega⟩, ⟨by (with_reducible repeat (first | apply Kd.R_alloc | apply Kd.R_drewN | apply Kd.R_drew)); exact Kd.R_mono HO_6.out (fun _ hk => hk.1.1)⟩, ⟨by (with_reducible repeat (first | apply Kd.R_alloc | apply Kd.R_drewN | apply Kd.R_drew)); exact Kd.R_mono HO_7.out (fun _ hk => hk.1.1)⟩, ⟨by repeat (first | (with_reducible first | exact HB.out | apply below_alloc | apply pw_below_drewN | apply below_drew1) | exact HB.out)⟩⟩
                      · rw [if_neg c18] at H
                        have c18b0 : decide (x9_2 < x10_2) = false := decide_eq_false c18
                        clear c18
                        by_cases c34 : 0 ≤ x8_1
                        · rw [if_pos c34] at H
                          have c34b0 : decide (0 ≤ x8_1) = true := decide_eq_true c34
                          clear c34
                          by_cases c35 : x8_1 < (x6_1.length : Int)
                          · rw [if_pos c35] at H
                            have c35b0 : decide (x8_1 < (x6_1.length : Int)) = true := decide_eq_true c35
                            clear c35
                            obtain ⟨y193, hy193⟩ : ∃ y_ : List Int, y_ = (x6_1.set (x8_1 : Int).toNat x9_2) := ⟨_, rfl⟩
                            replace H : ((windbreakref01_mul.f k2 l1 (([x9_2] : List Int))).bind fun t197 => ((windbreakref01_sub.f k2 t190 t197).bind fun t200 => (windbreakref01_div.l0 k2 l0 l1 y193 t200 (wrap64 (x8_1 - 1))))) = some (r1, r2) := by first | (rw [hy193]; with_reducible exact H) | (have H2_ := (Option.bind_some _ _).symm.trans H; rw [hy193]; with_reducible exact H2_) | (have H2_ := (Option.bind_some _ _).symm.trans H; with_reducible exact H2_) | with_reducible exact H | (rw [hy193]; exact H) | exact H
                            have Ny193 := Aside0.mk hy193
                            clear hy193
                            obtain ⟨y194, hy194⟩ : ∃ y_ : List Int, y_ = (([x9_2] : List Int)) := ⟨_, rfl⟩
                            replace H : ((windbreakref01_mul.f k2 l1 y194).bind fun t197 => ((windbreakref01_sub.f k2 t190 t197).bind fun t200 => (windbreakref01_div.l0 k2 l0 l1 y193 t200 (wrap64 (x8_1 - 1))))) = some (r1, r2) := by first | (rw [hy194]; with_reducible exact H) | (have H2_ := (Option.bind_some _ _).symm.trans H; rw [hy194]; with_reducible exact H2_) | (have H2_ := (Option.bind_some _ _).symm.trans H; with_reducible exact H2_) | with_reducible exact H | (rw [hy194]; exact H) | exact H
                            have Ny194 := Aside0.mk hy194
                            clear hy194
                            replace H := Option.bind_eq_some_iff.mp H
                            obtain ⟨t197, A370, H⟩ := H
                            replace H : ((windbreakref01_sub.f k2 t190 t197).bind fun t200 => (windbreakref01_div.l0 k2 l0 l1 y193 t200 (wrap64 (x8_1 - 1)))) = some (r1, r2) := H
                            have A37 := Aside0.mk A370
                            clear A370
                            replace H := Option.bind_eq_some_iff.mp H
                            obtain ⟨t200, A380, H⟩ := H
                            replace H : (windbreakref01_div.l0 k2 l0 l1 y193 t200 (wrap64 (x8_1 - 1))) = some (r1, r2) := H
                            have A38 := Aside0.mk A380
                            clear A380
                            have H' := Aside0.mk H
                            clear H
                            have p36 : 0 ≤ (x8_1 : Int) := of_decide_eq_true (by first | (with_reducible assumption) | assumption)
                            have q36 : (x8_1 : Int) < ((x6_1.length : Int) : Int) := of_decide_eq_true (by first | (with_reducible assumption) | assumption)
                            obtain ⟨go36, co36, eo36, gb36, gl36, cl36, HG36⟩ := Kd.R_form HO_6.out (by omega)
                            (first | cases eo36 | (injection eo36 with ea_ en_ ec_; (first | subst ea_ | (injection ea_ with ea_; subst ea_)); subst ec_; clear en_))
                            have GB36 := Aside0.mk gb36
                            have GG36 := Aside0.mk HG36
                            clear gb36 gl36 HG36
                            obtain ⟨hx36_0, hf36_0⟩ := Kd.R_celln 0 HO_6.out (x8_1 : Int) p36 q36
                            replace p36 := eq_true p36
                            replace q36 := eq_true q36
                            have HP39 := Kd.R_putg HO_6.out (x8_1 : Int) x9_2
                            go_wp2_with (first | ((with_reducible refine gate_store (t := 26) (p := 51) rfl ?_); refine store_event (t := 26) (p := 51) (v := ?vo_w40) (w1 := (wr.setCell ⟨go36, (x8_1 : Int).toNat, none⟩ (.int .u64 x9_2))) ?hg ?ho ?hn ?hr ?_; (case ho => rfl); (case hg => rfl); (case hn => rfl); (case hr => first | (go_simp; done) | (go_simp; rfl) | (obtain ⟨hy_, hz_⟩ := Kd.R_celln 0 HO_6.out (x8_1 : Int) (of_decide_eq_true (by first | (with_reducible assumption) | assumption)) (of_decide_eq_true (by first | (with_reducible assumption) | assumption)); (try simp only [Go.IntWalk.toNatUp] at hy_ hz_); (try simp only [Int.reduceToNat, Int.toNat_zero, Int.toNat_ofNat] at hy_ hz_); first | (go_simp; done) | (go_simp; rfl))); intro w40 hw; have hg : wr.grownBy w40 (some go36) := (by rw [hw]; exact HP39.2); have hp_ : Kd.R (Kd.int .u64) 26 w40 w.heap.size (fun k_ => some k_ ≠ (v191 : Value).ownBlock) (.slice (some ⟨go36, 0, none⟩) x6_1.length co36) y193 := (by rw [hw, Ny193.out]; exact HP39.1); clear HP39; have n0_ := Aside0.mk (hp_); have n1_ := Aside0.mk (Kd.R_after (v := (.slice (some ⟨go36, 0, none⟩) x6_1.length co36)) (v1 := (.slice (some ⟨go36, 0, none⟩) x6_1.length co36)) (ok := (fun _ => True)) (by (with_reducible repeat (first | apply Kd.R_alloc | apply Kd.R_drewN | apply Kd.R_drew)); exact Kd.R_mono HO_7.out (fun _ hk => ⟨trivial, hk⟩)) hg (.inl rfl)); have n2_ := Aside0.mk ((by rw [hw]; exact below_set (HB.out) GB36.out : Below w.heap.size w w40)); clear HO_6; clear HO_7; clear HB; have HO_6 := n0_; have HO_7 := n1_; have HB := n2_; clear n0_ n1_ n2_; clear hg hw hp_) | ((with_reducible refine gate_dst (N := 55) rfl ?_); refine Kd.R_lit (Kd.int .u64) _ 26 ?hg (N := 55) ?hd (xs := ([x9_2] : List Int)) (inner := [.int .u64 x9_2]) (ok := fun _ => True) (okp := fun _ => True) ?hr ?hp (fun _ hk => hk) trivial (Below.refl _ _) (Nat.le_refl _) (by simp) ?_; (case hd => rfl); (case hg => rfl); (case hr => first | (go_simp; done) | (go_simp; rfl)); (case hp => exact (Reps.one (show Kd.M (Kd.int .u64) _ _ _ x9_2 [.int .u64 x9_2] from rfl) (Reps.none _ _))); intro v195 w41 ho42 hb hg_ hnew_; clear hg_ hnew_; (first | rw [← Ny194.out] at ho42 | (simp only [Int.reduceToNat] at ho42; rw [← Ny194.out] at ho42)); have n0_ := Aside0.mk (Kd.R_elder' (by (with_reducible repeat (first | apply Kd.R_alloc | apply Kd.R_drewN | apply Kd.R_drew)); exact HO_6.out) (Kd.R_base ho42) hb); have n1_ := Aside0.mk (Kd.R_elder' (by (with_reducible repeat (first | apply Kd.R_alloc | apply Kd.R_drewN | apply Kd.R_drew)); exact HO_7.out) (Kd.R_base ho42) hb); have n2_ := Aside0.mk (Kd.R_lower (Kd.R_new' (Kd.R_new' ho42 (Kd.R_lt (by (with_reducible repeat (first | apply Kd.R_alloc | apply Kd.R_drewN | apply Kd.R_drew)); exact HO_6.out))) (Kd.R_lt (by (with_reducible repeat (first | apply Kd.R_alloc | apply Kd.R_drewN | apply Kd.R_drew)); exact HO_7.out))) (below_size (by repeat (first | (with_reducible first | exact HB.out | apply below_alloc | apply pw_below_drewN | apply below_drew1) | exact HB.out)))); have n3_ := Aside0.mk (below_step (by repeat (first | (with_reducible first | exact HB.out | apply below_alloc | apply pw_below_drewN | apply below_drew1) | exact HB.out)) hb); clear HO_6; clear HO_7; clear HB; have HO_6 := n0_; have HO_7 := n1_; have HO196 := n2_; have HB := n3_; clear n0_ n1_ n2_ n3_; clear hb ho42; obtain ⟨Ao43, co43, eo43⟩ := Kd.R_slice HO196.out; subst eo43) | ((with_reducible refine gate_callee (f := 43) rfl ?_); refine goesL_ (some 56) rfl rfl Try.func43 (by kernel_rfl) rfl #[.slice A1 l1.length c1, .slice Ao43 y194.length co43] rfl (by (try simp only [List.map_toArray, List.map_cons, List.map_nil]); first | done | rfl | (simp only [List.length_drop, List.length_take]; rfl)) ?_; (with_reducible refine (windbreakref01_mul.calls k2 _ _ l1 _ _ y194 t197 _ ?side1 ?side2 ?side3 ?side4 A37.out).mono ?_); (case side1 => repeat (first | exact (Kd.C_below HR1.out HB.out) | (with_reducible refine Kd.C_alloc ?_ _) | (with_reducible refine Kd.C_drewN ?_ _) | (with_reducible refine Kd.C_drew ?_))); (case side2 => exact HC1.out); (case side3 => repeat (first | exact (Kd.R_reads' HO196.out).2.2 | (with_reducible refine Kd.C_alloc ?_ _) | (with_reducible refine Kd.C_drewN ?_ _) | (with_reducible refine Kd.C_drew ?_))); (case side4 => exact (Kd.R_reads' HO196.out).2.1); rintro e w44 ⟨v198, rfl, ho0, hb⟩; refine ⟨_, rfl, ?_⟩; have n0_ := Aside0.mk (Kd.R_elder' (by (with_reducible repeat (first | apply Kd.R_alloc | apply Kd.R_drewN | apply Kd.R_drew)); exact HO_6.out) (Kd.R_base ho0) hb); have n1_ := Aside0.mk (Kd.R_elder' (by (with_reducible repeat (first | apply Kd.R_alloc | apply Kd.R_drewN | apply Kd.R_drew)); exact HO_7.out) (Kd.R_base ho0) hb); have n2_ := Aside0.mk (Kd.R_elder' (by (with_reducible repeat (first | apply Kd.R_alloc | apply Kd.R_drewN | apply Kd.R_drew)); exact HO196.out) (Kd.R_base ho0) hb); have n3_ := Aside0.mk (Kd.R_lower (Kd.R_new' (Kd.R_new' (Kd.R_new' ho0 (Kd.R_lt (by (with_reducible repeat (first | apply Kd.R_alloc | apply Kd.R_drewN | apply Kd.R_drew)); exact HO_6.out))) (Kd.R_lt (by (with_reducible repeat (first | apply Kd.R_alloc | apply Kd.R_drewN | apply Kd.R_drew)); exact HO_7.out))) (Kd.R_lt (by (with_reducible repeat (first | apply Kd.R_alloc | apply Kd.R_drewN | apply Kd.R_drew)); exact HO196.out))) (below_size (by repeat (first | (with_reducible first | exact HB.out | apply below_alloc | apply pw_below_drewN | apply below_drew1) | exact HB.out)))); have n4_ := Aside0.mk (below_step (by repeat (first | (with_reducible first | exact HB.out | apply below_alloc | apply pw_below_drewN | apply below_drew1) | exact HB.out)) hb); clear HO_6; clear HO_7; clear HO196; clear HB; have HO_6 := n0_; have HO_7 := n1_; have HO196 := n2_; have HO199 := n3_; have HB := n4_; clear n0_ n1_ n2_ n3_ n4_; (try clear hb); (try clear hb2); (try clear hk); (try clear hi); (try clear ho0); obtain ⟨Ao45, co45, eo45⟩ := Kd.R_slice HO_7.out; subst eo45; obtain ⟨Ao46, co46, eo46⟩ := Kd.R_slice HO199.out; subst eo46) | ((with_reducible refine gate_callee (f := 44) rfl ?_); refine goesL_ (some 57) rfl rfl Try.func44 (by kernel_rfl) rfl #[.slice Ao45 t190.length co45, .slice Ao46 t197.length co46] rfl (by (try simp only [List.map_toArray, List.map_cons, List.map_nil]); first | done | rfl | (simp only [List.length_drop, List.length_take]; rfl)) ?_; (with_reducible refine (windbreakref01_sub.calls k2 _ _ t190 _ _ t197 t200 _ ?side1 ?side2 ?side3 ?side4 A38.out).mono ?_); (case side1 => repeat (first | exact (Kd.R_reads' HO_7.out).2.2 | (with_reducible refine Kd.C_alloc ?_ _) | (with_reducible refine Kd.C_drewN ?_ _) | (with_reducible refine Kd.C_drew ?_))); (case side2 => exact (Kd.R_reads' HO_7.out).2.1); (case side3 => repeat (first | exact (Kd.R_reads' HO199.out).2.2 | (with_reducible refine Kd.C_alloc ?_ _) | (with_reducible refine Kd.C_drewN ?_ _) | (with_reducible refine Kd.C_drew ?_))); (case side4 => exact (Kd.R_reads' HO199.out).2.1); rintro e w47 ⟨v201, rfl, ho0, hb⟩; refine ⟨_, rfl, ?_⟩; have n0_ := Aside0.mk (Kd.R_elder' (by (with_reducible repeat (first | apply Kd.R_alloc | apply Kd.R_drewN | apply Kd.R_drew)); exact HO_6.out) (Kd.R_base ho0) hb); have n1_ := Aside0.mk (Kd.R_elder' (by (with_reducible repeat (first | apply Kd.R_alloc | apply Kd.R_drewN | apply Kd.R_drew)); exact HO_7.out) (Kd.R_base ho0) hb); have n2_ := Aside0.mk (Kd.R_elder' (by (with_reducible repeat (first | apply Kd.R_alloc | apply Kd.R_drewN | apply Kd.R_drew)); exact HO196.out) (Kd.R_base ho0) hb); have n3_ := Aside0.mk (Kd.R_elder' (by (with_reducible repeat (first | apply Kd.R_alloc | apply Kd.R_drewN | apply Kd.R_drew)); exact HO199.out) (Kd.R_base ho0) hb); have n4_ := Aside0.mk (Kd.R_lower (Kd.R_new' (Kd.R_new' (Kd.R_new' (Kd.R_new' ho0 (Kd.R_lt (by (with_reducible repeat (first | apply Kd.R_alloc | apply Kd.R_drewN | apply Kd.R_drew)); exact HO_6.out))) (Kd.R_lt (by (with_reducible repeat (first | apply Kd.R_alloc | apply Kd.R_drewN | apply Kd.R_drew)); exact HO_7.out))) (Kd.R_lt (by (with_reducible repeat (first | apply Kd.R_alloc | apply Kd.R_drewN | apply Kd.R_drew)); exact HO196.out))) (Kd.R_lt (by (with_reducible repeat (first | apply Kd.R_alloc | apply Kd.R_drewN | apply Kd.R_drew)); exact HO199.out))) (below_size (by repeat (first | (with_reducible first | exact HB.out | apply below_alloc | apply pw_below_drewN | apply below_drew1) | exact HB.out)))); have n5_ := Aside0.mk (below_step (by repeat (first | (with_reducible first | exact HB.out | apply below_alloc | apply pw_below_drewN | apply below_drew1) | exact HB.out)) hb); clear HO_6; clear HO_7; clear HO196; clear HO199; clear HB; have HO_6 := n0_; have HO_7 := n1_; have HO196 := n2_; have HO199 := n3_; have HO202 := n4_; have HB := n5_; clear n0_ n1_ n2_ n3_ n4_ n5_; (try clear hb); (try clear hb2); (try clear hk); (try clear hi); (try clear ho0)))
                            go_roundg k2
                            case measure => have := HK1.out; have := HK2.out; omega
                            case rel => exact ⟨(y193), (t200), (wrap64 (x8_1 - 1)), (by first | rfl | (simp; done) | (simp [*]; done)), H', ⟨by have := HK1.out; have := HK2.out; omega⟩, ⟨by (with_reducible repeat (first | apply Kd.R_alloc | apply Kd.R_drewN | apply Kd.R_drew)); exact Kd.R_mono HO_6.out (fun _ hk => hk.2)⟩, ⟨by (with_reducible repeat (first | apply Kd.R_alloc | apply Kd.R_drewN | apply Kd.R_drew)); exact Kd.R_mono HO202.out (fun _ hk => hk.1.1.1.2)⟩, ⟨by repeat (first | (with_reducible first | exact HB.out | apply below_alloc | apply pw_below_drewN | apply below_drew1) | exact HB.out)⟩⟩
                          · rw [if_neg c35] at H
                            exact absurd H (by simp)
                        · rw [if_neg c34] at H
                          exact absurd H (by simp)
                · rw [if_neg c10] at H
                  exact absurd H (by simp)
              · rw [if_neg c9] at H
                exact absurd H (by simp)
            · rw [if_neg c8] at H
              exact absurd H (by simp)
          · rw [if_neg c7] at H
            have c7b0 : decide (0 ≤ x8_1) = false := decide_eq_false c7
            clear c7
            replace H := Option.bind_eq_some_iff.mp H
            obtain ⟨t180, A480, H⟩ := H
            replace H : (some (t180, x7_1)) = some (r1, r2) := H
            have A48 := Aside0.mk A480
            clear A480
            simp only [Option.some.injEq, Prod.mk.injEq] at H
            obtain ⟨rfl, rfl⟩ := H
            obtain ⟨Ao49, co49, eo49⟩ := Kd.R_slice HO_6.out
            subst eo49
            go_wp2_with (first | ((with_reducible refine gate_callee (f := 41) rfl ?_); refine goesL_ (some 59) rfl rfl Try.func41 (by kernel_rfl) rfl #[.slice Ao49 x6_1.length co49] rfl (by (try simp only [List.map_toArray, List.map_cons, List.map_nil]); first | done | rfl | (simp only [List.length_drop, List.length_take]; rfl)) ?_; (with_reducible refine (windbreakref01_cut.calls k1 (fun k_ => some k_ = (.slice Ao49 x6_1.length co49 : Value).ownBlock) (.slice Ao49 x6_1.length co49) x6_1 t180 w _ ?side1 ?side2 A48.out).mono ?_); (case side1 => repeat (first | (with_reducible first | exact HB.out | apply below_alloc | apply pw_below_drewN | apply below_drew1) | exact HB.out)); (case side2 => exact Kd.R_tight rfl HO_6.out); rintro e w50 ⟨v181, rfl, ho0, hb, hkp⟩; refine ⟨_, rfl, ?_⟩; have n0_ := Aside0.mk (Kd.R_mono (ok' := fun k_ => some k_ ≠ (v181 : Value).ownBlock) (Kd.R_keptB (HO_7.out) hkp (fun k_ hk_ hs_ => (hk_) hs_)) (fun k_ hk_ => fun e_ => Or.elim (ho0.1 k_ e_.symm) (fun hs_ => hk_.2.1 hs_) (fun hn_ => Nat.not_le.2 hk_.2.2 hn_))); have n1_ := Aside0.mk (Kd.R_mono (ok' := fun k_ => some k_ ≠ (u7 : Value).ownBlock) ho0 (fun k_ hk_ => Or.elim hk_ (fun hs_ => fun e_ => (((HO_7.out).1 k_ e_.symm)) hs_) (fun hn_ => (Kd.fresh' (Kd.R_lt (by (with_reducible repeat (first | apply Kd.R_alloc | apply Kd.R_drewN | apply Kd.R_drew)); exact HO_7.out)) k_ hn_)))); have n2_ := Aside0.mk (hb); clear HO_7; clear HB; clear HO_6; have HO_7 := n0_; have HO182 := n1_; have HB := n2_; clear n0_ n1_ n2_; (try clear hb); (try clear hkp); (try clear ho0)))
            go_ret2
            exact ⟨_, _, by first | rfl | (simp [errW_none, errW_some] <;> rfl) | (simp [*, errW_none, errW_some] <;> rfl), by (with_reducible repeat (first | apply Kd.R_alloc | apply Kd.R_drewN | apply Kd.R_drew)); exact HO182.out, by (with_reducible repeat (first | apply Kd.R_alloc | apply Kd.R_drewN | apply Kd.R_drew)); exact HO_7.out, by repeat (first | (with_reducible first | exact HB.out | apply below_alloc | apply pw_below_drewN | apply below_drew1) | exact HB.out)⟩
    · rw [if_neg c4] at H
      exact absurd H (by simp)
  · rw [if_neg c3] at H
    exact absurd H (by simp)

end Go.Proofs.Ytikfgeieaadeiad.F

namespace Go.Proofs.Ytikfgeieaadeiad.F
open Go.RowKit Go.Proofs.YtikfgeieaadeiadW.PrintWords Go.Proofs.YtikfgeieaadeiadW.PrintLast Go.Proofs.YtikfgeieaadeiadW.PrintMore
attribute [local go_sem] max2_int min2_int max_two min_two max_three min_three max_four min_four   -- for this text's walks alone
set_option linter.unusedVariables false
set_option linter.unusedSimpArgs false

/-! ### windbreakref01_Text: function 9 -/
mutual
def windbreakref01_Text.l0 : Nat → List Int → List Int → Option (ByteArray)
  | 0, _, _ => none
  | k + 1, x4, x5 => if (x4.length : Int) > 0 then ((windbreakref01_div.f k x4 (([10] : List Int))).bind fun bt217 => ((windbreakref01_digit.f bt217.2 0).bind fun t223 => (if x5.length < 140737488355328 then (windbreakref01_Text.l0 k bt217.1 (x5 ++ [(IntKind.u64.wrap (48 + t223)) % 256])) else (none)))) else (windbreakref01_Text.l1 k x5 0)
def windbreakref01_Text.l1 : Nat → List Int → Int → Option (ByteArray)
  | 0, _, _ => none
  | k + 1, x5, x8 => if x8 < (wrap64 ((x5.length : Int) / 2)) then (if 0 ≤ x8 then (if x8 < (x5.length : Int) then (if 0 ≤ (wrap64 ((wrap64 ((x5.length : Int) - 1)) - x8)) then (if (wrap64 ((wrap64 ((x5.length : Int) - 1)) - x8)) < (x5.length : Int) then (windbreakref01_Text.l1 k ((x5.set (x8 : Int).toNat (rd x5 (wrap64 ((wrap64 ((x5.length : Int) - 1)) - x8)))).set ((wrap64 ((wrap64 ((x5.length : Int) - 1)) - x8)) : Int).toNat (rd x5 x8)) (wrap64 (x8 + 1))) else (none)) else (none)) else (none)) else (none)) else (some (strOfNums x5))
end
def windbreakref01_Text.f (k : Nat) (l0 : List Int) : Option (ByteArray) := (windbreakref01_Right.f l0).bind fun t210 => (if t210 = true then (if (l0.length : Int) = 0 then (some (⟨#[48]⟩ : ByteArray)) else ((windbreakref01_In.f k l0).bind fun t211 => (windbreakref01_Text.l0 k t211 ([] : List Int)))) else (some (⟨#[]⟩ : ByteArray)))
theorem windbreakref01_Text.mono_l : ∀ k, (∀ y0 y1, LeO (windbreakref01_Text.l0 k y0 y1) (windbreakref01_Text.l0 (k + 1) y0 y1)) ∧ (∀ y0 y1, LeO (windbreakref01_Text.l1 k y0 y1) (windbreakref01_Text.l1 (k + 1) y0 y1))
  | 0 => ⟨fun _ _ r h => by simp [windbreakref01_Text.l0] at h, fun _ _ r h => by simp [windbreakref01_Text.l1] at h⟩
  | k + 1 => by
    obtain ⟨ih0, ih1⟩ := windbreakref01_Text.mono_l k
    refine ⟨?_, ?_⟩
    · intro y0 y1
      unfold windbreakref01_Text.l0
      repeat' first
      | (with_reducible exact ih0 _ _)
      | (with_reducible exact ih1 _ _)
      | (with_reducible exact windbreakref01_In.mono _ _)
      | (with_reducible exact windbreakref01_div.mono _ _ _)
      | (with_reducible exact LeO.refl _)
      | (with_reducible exact LeO.none _)
      | (with_reducible refine LeO.ite ?_ ?_)
      | (with_reducible refine LeO.bind ?_ (fun _ => ?_))
      | exact ih0 _ _
      | exact ih1 _ _
      | exact windbreakref01_In.mono _ _
      | exact windbreakref01_div.mono _ _ _
      | exact LeO.none _
      | refine LeO.ite ?_ ?_
      | refine LeO.bind ?_ (fun _ => ?_)
    · intro y0 y1
      unfold windbreakref01_Text.l1
      repeat' first
      | (with_reducible exact ih0 _ _)
      | (with_reducible exact ih1 _ _)
      | (with_reducible exact windbreakref01_In.mono _ _)
      | (with_reducible exact windbreakref01_div.mono _ _ _)
      | (with_reducible exact LeO.refl _)
      | (with_reducible exact LeO.none _)
      | (with_reducible refine LeO.ite ?_ ?_)
      | (with_reducible refine LeO.bind ?_ (fun _ => ?_))
      | exact ih0 _ _
      | exact ih1 _ _
      | exact windbreakref01_In.mono _ _
      | exact windbreakref01_div.mono _ _ _
      | exact LeO.none _
      | refine LeO.ite ?_ ?_
      | refine LeO.bind ?_ (fun _ => ?_)
theorem windbreakref01_Text.mono : ∀ a0 k, LeO (windbreakref01_Text.f k a0) (windbreakref01_Text.f (k + 1) a0) := by
  intro a0 k
  obtain ⟨ih0, ih1⟩ := windbreakref01_Text.mono_l k
  unfold windbreakref01_Text.f
  repeat' first
      | (with_reducible exact ih0 _ _)
      | (with_reducible exact ih1 _ _)
      | (with_reducible exact windbreakref01_In.mono _ _)
      | (with_reducible exact windbreakref01_div.mono _ _ _)
      | (with_reducible exact LeO.refl _)
      | (with_reducible exact LeO.none _)
      | (with_reducible refine LeO.ite ?_ ?_)
      | (with_reducible refine LeO.bind ?_ (fun _ => ?_))
      | exact ih0 _ _
      | exact ih1 _ _
      | exact windbreakref01_In.mono _ _
      | exact windbreakref01_div.mono _ _ _
      | exact LeO.none _
      | refine LeO.ite ?_ ?_
      | refine LeO.bind ?_ (fun _ => ?_)
set_option maxHeartbeats 8000000 in
set_option maxRecDepth 100000 in
theorem windbreakref01_Text.calls (k : Nat) (A0 : Option Addr) (c0 : Nat) (l0 : List Int) (r : ByteArray) (w : World) (hr0 : Kd.C (Kd.int .u64) w A0 l0.length l0) (hc0 : l0.length ≤ c0) (h : windbreakref01_Text.f k l0 = some r) :
    Calls Try.prog 9 #[.slice A0 l0.length c0] w fun e w' => e = .returned (.string r) ∧ Below w.heap.size w w' := by
  have HR0 := Aside0.mk hr0
  have HC0 := Aside0.mk hc0
  clear hr0 hc0
  have HB := Aside0.mk (Below.refl w.heap.size w)
  have H : ((windbreakref01_Right.f l0).bind fun t210 => (if t210 = true then (if (l0.length : Int) = 0 then (some (⟨#[48]⟩ : ByteArray)) else ((windbreakref01_In.f k l0).bind fun t211 => (windbreakref01_Text.l0 k t211 ([] : List Int)))) else (some (⟨#[]⟩ : ByteArray)))) = some r := h
  clear h
  replace H := Option.bind_eq_some_iff.mp H
  obtain ⟨t210, A20, H⟩ := H
  replace H : (if t210 = true then (if (l0.length : Int) = 0 then (some (⟨#[48]⟩ : ByteArray)) else ((windbreakref01_In.f k l0).bind fun t211 => (windbreakref01_Text.l0 k t211 ([] : List Int)))) else (some (⟨#[]⟩ : ByteArray))) = some r := H
  have A2 := Aside0.mk A20
  clear A20
  by_cases c3 : t210 = true
  · subst c3
    have H1 : (if (l0.length : Int) = 0 then (some (⟨#[48]⟩ : ByteArray)) else ((windbreakref01_In.f k l0).bind fun t211 => (windbreakref01_Text.l0 k t211 ([] : List Int)))) = some r := by rw [if_pos rfl] at H; exact H
    clear H
    have H := H1
    clear H1
    by_cases c4 : (l0.length : Int) = 0
    · rw [if_pos c4] at H
      have c4b0 : ((l0.length : Int) == 0) = true := beq_iff_eq.mpr c4
      have c4b1 : ((l0.length : Int) != 0) = false := bne_eq_false_iff_eq.mpr c4
      clear c4
      obtain rfl := Option.some.inj H
      go_enter Try.func9, Try.ntmps9
      go_wp2_with (first | ((with_reducible refine gate_callee (f := 19) rfl ?_); refine goesL_ (some 11) rfl rfl Try.func19 (by kernel_rfl) rfl #[.slice A0 l0.length c0] rfl (by (try simp only [List.map_toArray, List.map_cons, List.map_nil]); first | done | rfl | (simp only [List.length_drop, List.length_take]; rfl)) ?_; (with_reducible refine (windbreakref01_Right.calls _ _ l0 true _ ?side1 ?side2 A2.out).mono ?_); (case side1 => repeat (first | exact HR0.out | (with_reducible refine Kd.C_alloc ?_ _) | (with_reducible refine Kd.C_drewN ?_ _) | (with_reducible refine Kd.C_drew ?_))); (case side2 => exact HC0.out); rintro e w' ⟨rfl, ⟨nd, rfl⟩⟩; refine ⟨_, rfl, ?_⟩))
      go_ret
      exact ⟨by first | rfl | (simp [errW_none, errW_some] <;> rfl) | (simp [*, errW_none, errW_some] <;> rfl), by repeat (first | (with_reducible first | exact HB.out | apply below_alloc | apply pw_below_drewN | apply below_drew1) | exact HB.out)⟩
    · rw [if_neg c4] at H
      have c4b0 : ((l0.length : Int) == 0) = false := beq_eq_false_iff_ne.mpr c4
      have c4b1 : ((l0.length : Int) != 0) = true := bne_iff_ne.mpr c4
      have c4b2 : ¬ (l0 = []) := fun h_ => c4 (by rw [h_]; rfl)
      replace H := Option.bind_eq_some_iff.mp H
      obtain ⟨t211, A50, H⟩ := H
      replace H : (windbreakref01_Text.l0 k t211 ([] : List Int)) = some r := H
      have A5 := Aside0.mk A50
      clear A50
      have H' := Aside0.mk H
      clear H
      go_enter Try.func9, Try.ntmps9
      go_wp2_with (first | ((with_reducible refine gate_callee (f := 19) rfl ?_); refine goesL_ (some 11) rfl rfl Try.func19 (by kernel_rfl) rfl #[.slice A0 l0.length c0] rfl (by (try simp only [List.map_toArray, List.map_cons, List.map_nil]); first | done | rfl | (simp only [List.length_drop, List.length_take]; rfl)) ?_; (with_reducible refine (windbreakref01_Right.calls _ _ l0 true _ ?side1 ?side2 A2.out).mono ?_); (case side1 => repeat (first | exact HR0.out | (with_reducible refine Kd.C_alloc ?_ _) | (with_reducible refine Kd.C_drewN ?_ _) | (with_reducible refine Kd.C_drew ?_))); (case side2 => exact HC0.out); rintro e w' ⟨rfl, ⟨nd, rfl⟩⟩; refine ⟨_, rfl, ?_⟩) | ((with_reducible refine gate_callee (f := 20) rfl ?_); refine goesL_ (some 18) rfl rfl Try.func20 (by kernel_rfl) rfl #[.slice A0 l0.length c0] rfl (by (try simp only [List.map_toArray, List.map_cons, List.map_nil]); first | done | rfl | (simp only [List.length_drop, List.length_take]; rfl)) ?_; (with_reducible refine (windbreakref01_In.calls k _ _ l0 t211 _ ?side1 ?side2 A5.out).mono ?_); (case side1 => repeat (first | exact HR0.out | (with_reducible refine Kd.C_alloc ?_ _) | (with_reducible refine Kd.C_drewN ?_ _) | (with_reducible refine Kd.C_drew ?_))); (case side2 => exact HC0.out); rintro e w6 ⟨v212, rfl, ho0, hb⟩; refine ⟨_, rfl, ?_⟩; have n0_ := Aside0.mk (Kd.R_lower ho0 (below_size (by repeat (first | (with_reducible first | exact HB.out | apply below_alloc | apply pw_below_drewN | apply below_drew1) | exact HB.out)))); have n1_ := Aside0.mk (below_step (by repeat (first | (with_reducible first | exact HB.out | apply below_alloc | apply pw_below_drewN | apply below_drew1) | exact HB.out)) hb); clear HB; have HO213 := n0_; have HB := n1_; clear n0_ n1_; (try clear hb); (try clear hb2); (try clear hk); (try clear hi); (try clear ho0)))
      go_loopg [4, 5] k (fun kq v4 v5 w' => ∃ (x4_1 : List Int) (x5_1 : List Int), Aside0 (windbreakref01_Text.l0 kq x4_1 x5_1 = some r) ∧ Aside0 (kq ≤ k) ∧ Aside0 (Kd.R (Kd.int .u64) 26 w' w.heap.size (fun _ => True) v4 x4_1) ∧ Aside0 (Kd.R (Kd.int .u8) 5 w' w.heap.size (fun _ => True) v5 x5_1) ∧ Aside0 (Below w.heap.size w w'))
      case atStart => exact ⟨(t211), (([] : List Int)), H', ⟨Nat.le_refl _⟩, ⟨by (with_reducible repeat (first | apply Kd.R_alloc | apply Kd.R_drewN | apply Kd.R_drew)); exact HO213.out⟩, ⟨by first | exact Kd.R_nil _ _ _ _ _ | exact Kd.N_nil _ _ _ _ _ | exact Kd.V_nil _ _ _ _ _ | exact Kd.Q_nil _ _ _ _ _ | exact Kd.S_nil _ _ _ _ _⟩, ⟨by repeat (first | (with_reducible first | exact HB.out | apply below_alloc | apply pw_below_drewN | apply below_drew1) | exact HB.out)⟩⟩
      case round =>
        clear H'
        try clear c1
        try clear c2
        try clear p2
        try clear c3
        try clear c4
        try clear c4b0
        try clear c4b1
        try clear c4b2
        obtain ⟨x4_1, x5_1, HA, HK1, HO_4, HO_5, HB⟩ := hrel
        cases gk with
        | zero => exact absurd HA.out (by simp [windbreakref01_Text.l0])
        | succ k1 =>
          have H := HA.out
          clear HA
          simp only [windbreakref01_Text.l0] at H
          by_cases c7 : (x4_1.length : Int) > 0
          · rw [if_pos c7] at H
            have c7b0 : decide (0 < (x4_1.length : Int)) = true := decide_eq_true c7
            have c7b1 : decide (0 < x4_1.length) = true := decide_eq_true (by omega)
            clear c7
            obtain ⟨y214, hy214⟩ : ∃ y_ : List Int, y_ = (([10] : List Int)) := ⟨_, rfl⟩
            replace H : ((windbreakref01_div.f k1 x4_1 y214).bind fun bt217 => ((windbreakref01_digit.f bt217.2 0).bind fun t223 => (if x5_1.length < 140737488355328 then (windbreakref01_Text.l0 k1 bt217.1 (x5_1 ++ [(IntKind.u64.wrap (48 + t223)) % 256])) else (none)))) = some r := by first | (rw [hy214]; with_reducible exact H) | (have H2_ := (Option.bind_some _ _).symm.trans H; rw [hy214]; with_reducible exact H2_) | (have H2_ := (Option.bind_some _ _).symm.trans H; with_reducible exact H2_) | with_reducible exact H | (rw [hy214]; exact H) | exact H
            have Ny214 := Aside0.mk hy214
            clear hy214
            replace H := Option.bind_eq_some_iff.mp H
            obtain ⟨⟨t217, t218⟩, A80, H⟩ := H
            replace H : ((windbreakref01_digit.f t218 0).bind fun t223 => (if x5_1.length < 140737488355328 then (windbreakref01_Text.l0 k1 t217 (x5_1 ++ [(IntKind.u64.wrap (48 + t223)) % 256])) else (none))) = some r := H
            have A8 := Aside0.mk A80
            clear A80
            replace H := Option.bind_eq_some_iff.mp H
            obtain ⟨t223, A90, H⟩ := H
            replace H : (if x5_1.length < 140737488355328 then (windbreakref01_Text.l0 k1 t217 (x5_1 ++ [(IntKind.u64.wrap (48 + t223)) % 256])) else (none)) = some r := H
            have A9 := Aside0.mk A90
            clear A90
            by_cases c10 : x5_1.length < 140737488355328
            · rw [if_pos c10] at H
              have LMc10 := Aside0.mk c10
              clear c10
              obtain ⟨y224, hy224⟩ : ∃ y_ : List Int, y_ = (x5_1 ++ [(IntKind.u64.wrap (48 + t223)) % 256]) := ⟨_, rfl⟩
              replace H : (windbreakref01_Text.l0 k1 t217 y224) = some r := by first | (rw [hy224]; with_reducible exact H) | (have H2_ := (Option.bind_some _ _).symm.trans H; rw [hy224]; with_reducible exact H2_) | (have H2_ := (Option.bind_some _ _).symm.trans H; with_reducible exact H2_) | with_reducible exact H | (rw [hy224]; exact H) | exact H
              have Ny224 := Aside0.mk hy224
              clear hy224
              have H' := Aside0.mk H
              clear H
              obtain ⟨Ao11, co11, eo11⟩ := Kd.R_slice HO_4.out
              subst eo11
              go_wp2_with (first | ((with_reducible refine gate_dst (N := 24) rfl ?_); refine Kd.R_lit (Kd.int .u64) _ 26 ?hg (N := 24) ?hd (xs := ([10] : List Int)) (inner := [.int .u64 10]) (ok := fun _ => True) (okp := fun _ => True) ?hr ?hp (fun _ hk => hk) trivial (Below.refl _ _) (Nat.le_refl _) (by simp) ?_; (case hd => rfl); (case hg => rfl); (case hr => first | (go_simp; done) | (go_simp; rfl)); (case hp => exact (Reps.one (show Kd.M (Kd.int .u64) _ _ _ 10 [.int .u64 10] from rfl) (Reps.none _ _))); intro v215 w12 ho13 hb hg_ hnew_; clear hg_ hnew_; (first | rw [← Ny214.out] at ho13 | (simp only [Int.reduceToNat] at ho13; rw [← Ny214.out] at ho13)); have n0_ := Aside0.mk (Kd.R_elder' (by (with_reducible repeat (first | apply Kd.R_alloc | apply Kd.R_drewN | apply Kd.R_drew)); exact HO_4.out) (Kd.R_base ho13) hb); have n1_ := Aside0.mk (Kd.R_below (by (with_reducible repeat (first | apply Kd.R_alloc | apply Kd.R_drewN | apply Kd.R_drew)); exact HO_5.out) hb); have n2_ := Aside0.mk (Kd.R_lower (Kd.R_new' ho13 (Kd.R_lt (by (with_reducible repeat (first | apply Kd.R_alloc | apply Kd.R_drewN | apply Kd.R_drew)); exact HO_4.out))) (below_size (by repeat (first | (with_reducible first | exact HB.out | apply below_alloc | apply pw_below_drewN | apply below_drew1) | exact HB.out)))); have n3_ := Aside0.mk (below_step (by repeat (first | (with_reducible first | exact HB.out | apply below_alloc | apply pw_below_drewN | apply below_drew1) | exact HB.out)) hb); clear HO_4; clear HO_5; clear HB; have HO_4 := n0_; have HO_5 := n1_; have HO216 := n2_; have HB := n3_; clear n0_ n1_ n2_ n3_; clear hb ho13; obtain ⟨Ao14, co14, eo14⟩ := Kd.R_slice HO216.out; subst eo14) | ((with_reducible refine gate_callee (f := 21) rfl ?_); refine goesL_ (some 25) rfl rfl Try.func21 (by kernel_rfl) rfl #[.slice Ao11 x4_1.length co11, .slice Ao14 y214.length co14] rfl (by (try simp only [List.map_toArray, List.map_cons, List.map_nil]); first | done | rfl | (simp only [List.length_drop, List.length_take]; rfl)) ?_; (with_reducible refine (windbreakref01_div.calls k1 _ _ x4_1 _ _ y214 t217 t218 _ ?side1 ?side2 ?side3 ?side4 A8.out).mono ?_); (case side1 => repeat (first | exact (Kd.R_reads' HO_4.out).2.2 | (with_reducible refine Kd.C_alloc ?_ _) | (with_reducible refine Kd.C_drewN ?_ _) | (with_reducible refine Kd.C_drew ?_))); (case side2 => exact (Kd.R_reads' HO_4.out).2.1); (case side3 => repeat (first | exact (Kd.R_reads' HO216.out).2.2 | (with_reducible refine Kd.C_alloc ?_ _) | (with_reducible refine Kd.C_drewN ?_ _) | (with_reducible refine Kd.C_drew ?_))); (case side4 => exact (Kd.R_reads' HO216.out).2.1); rintro e w15 ⟨v219, v221, rfl, ho0, ho1, hb⟩; refine ⟨_, rfl, ?_⟩; have n0_ := Aside0.mk (Kd.R_mono (Kd.R_told (Kd.R_told (Kd.R_old (by (with_reducible repeat (first | apply Kd.R_alloc | apply Kd.R_drewN | apply Kd.R_drew)); exact HO_4.out) hb) (Kd.R_base ho0)) (Kd.R_base ho1)) (fun _ h_ => h_.1)); have n1_ := Aside0.mk (Kd.R_below (by (with_reducible repeat (first | apply Kd.R_alloc | apply Kd.R_drewN | apply Kd.R_drew)); exact HO_5.out) hb); have n2_ := Aside0.mk (Kd.R_mono (Kd.R_told (Kd.R_told (Kd.R_old (by (with_reducible repeat (first | apply Kd.R_alloc | apply Kd.R_drewN | apply Kd.R_drew)); exact HO216.out) hb) (Kd.R_base ho0)) (Kd.R_base ho1)) (fun _ h_ => h_.1)); have n3_ := Aside0.mk (Kd.R_lower (Kd.R_new' (Kd.R_new' ho0 (Kd.R_lt (by (with_reducible repeat (first | apply Kd.R_alloc | apply Kd.R_drewN | apply Kd.R_drew)); exact HO_4.out))) (Kd.R_lt (by (with_reducible repeat (first | apply Kd.R_alloc | apply Kd.R_drewN | apply Kd.R_drew)); exact HO216.out))) (below_size (by repeat (first | (with_reducible first | exact HB.out | apply below_alloc | apply pw_below_drewN | apply below_drew1) | exact HB.out)))); have n4_ := Aside0.mk (Kd.R_lower (Kd.R_new' (Kd.R_new' ho1 (Kd.R_lt (by (with_reducible repeat (first | apply Kd.R_alloc | apply Kd.R_drewN | apply Kd.R_drew)); exact HO_4.out))) (Kd.R_lt (by (with_reducible repeat (first | apply Kd.R_alloc | apply Kd.R_drewN | apply Kd.R_drew)); exact HO216.out))) (below_size (by repeat (first | (with_reducible first | exact HB.out | apply below_alloc | apply pw_below_drewN | apply below_drew1) | exact HB.out)))); have n5_ := Aside0.mk (below_step (by repeat (first | (with_reducible first | exact HB.out | apply below_alloc | apply pw_below_drewN | apply below_drew1) | exact HB.out)) hb); clear HO_4; clear HO_5; clear HO216; clear HB; have HO_4 := n0_; have HO_5 := n1_; have HO216 := n2_; have HO220 := n3_; have HO222 := n4_; have HB := n5_; clear n0_ n1_ n2_ n3_ n4_ n5_; (try clear hb); (try clear hb2); (try clear hk); (try clear hi); (try clear ho0); (try clear ho1); obtain ⟨Ao16, co16, eo16⟩ := Kd.R_slice HO222.out; subst eo16) | ((with_reducible refine gate_callee (f := 22) rfl ?_); refine goesL_ (some 30) rfl rfl Try.func22 (by kernel_rfl) rfl #[.slice Ao16 t218.length co16, .int .i64 0] rfl (by (try simp only [List.map_toArray, List.map_cons, List.map_nil]); first | done | rfl | (simp only [List.length_drop, List.length_take]; rfl)) ?_; (with_reducible refine (windbreakref01_digit.calls _ _ t218 0 t223 _ ?side1 ?side2 A9.out).mono ?_); (case side1 => repeat (first | exact (Kd.R_reads' HO222.out).2.2 | (with_reducible refine Kd.C_alloc ?_ _) | (with_reducible refine Kd.C_drewN ?_ _) | (with_reducible refine Kd.C_drew ?_))); (case side2 => exact (Kd.R_reads' HO222.out).2.1); rintro e w' ⟨rfl, ⟨nd, rfl⟩⟩; refine ⟨_, rfl, ?_⟩) | ((with_reducible refine gate_builtin (b := .append) (xs := #[.tmp 28, .tmp 33]) rfl ?_); at_builtin; refine Kd.R_append (Kd.int .u8) (w0 := w) w.heap.size rfl (.tmp 28) (.tmp 33) 34 5 (.int .u8 0) 1 rfl Try.underlying34 info5 rfl (by decide) (by omega) u5 x5_1 ((IntKind.u64.wrap (48 + t223)) % 256) [.int .u8 ((IntKind.u64.wrap (48 + t223)) % 256)] (fun _ => True) (fun _ => False) rfl rfl ?aP (fun _ hk => hk.elim) ?aF ?aO ?aB ?aS ?aL ?_; (case aP => exact rfl); (case aB => exact (by repeat (first | (with_reducible first | exact HB.out | apply below_alloc | apply pw_below_drewN | apply below_drew1) | exact HB.out))); (case aF => exact (fun _ _ => trivial)); (case aO => exact (by (with_reducible repeat (first | apply Kd.R_alloc | apply Kd.R_drewN | apply Kd.R_drew)); exact HO_5.out)); (case aS => exact (below_size (by repeat (first | (with_reducible first | exact HB.out | apply below_alloc | apply pw_below_drewN | apply below_drew1) | exact HB.out)))); (case aL => have := LMc10.out; omega); intro v225 w17 ho hb hg hat; rw [← Ny224.out] at ho; have n0_ := Aside0.mk (Kd.R_over' (by (with_reducible repeat (first | apply Kd.R_alloc | apply Kd.R_drewN | apply Kd.R_drew)); exact HO_4.out) (Kd.R_typed (by (with_reducible repeat (first | apply Kd.R_alloc | apply Kd.R_drewN | apply Kd.R_drew)); exact HO_5.out)) (by decide) hg); have n1_ := Aside0.mk (Kd.R_over' (by (with_reducible repeat (first | apply Kd.R_alloc | apply Kd.R_drewN | apply Kd.R_drew)); exact HO216.out) (Kd.R_typed (by (with_reducible repeat (first | apply Kd.R_alloc | apply Kd.R_drewN | apply Kd.R_drew)); exact HO_5.out)) (by decide) hg); have n2_ := Aside0.mk (Kd.R_over' (by (with_reducible repeat (first | apply Kd.R_alloc | apply Kd.R_drewN | apply Kd.R_drew)); exact HO220.out) (Kd.R_typed (by (with_reducible repeat (first | apply Kd.R_alloc | apply Kd.R_drewN | apply Kd.R_drew)); exact HO_5.out)) (by decide) hg); have n3_ := Aside0.mk (Kd.R_over' (by (with_reducible repeat (first | apply Kd.R_alloc | apply Kd.R_drewN | apply Kd.R_drew)); exact HO222.out) (Kd.R_typed (by (with_reducible repeat (first | apply Kd.R_alloc | apply Kd.R_drewN | apply Kd.R_drew)); exact HO_5.out)) (by decide) hg); have n4_ := Aside0.mk (hb); have n5_ := Aside0.mk (ho); clear HO_4; clear HO216; clear HO220; clear HO222; clear HB; clear HO_5; have HO_4 := n0_; have HO216 := n1_; have HO220 := n2_; have HO222 := n3_; have HB := n4_; have HO226 := n5_; clear n0_ n1_ n2_ n3_ n4_ n5_; clear ho hb hg hat))
              go_roundg k1
              case measure => have := HK1.out; omega
              case rel => exact ⟨(t217), (y224), H', ⟨by have := HK1.out; omega⟩, ⟨by (with_reducible repeat (first | apply Kd.R_alloc | apply Kd.R_drewN | apply Kd.R_drew)); exact Kd.R_mono HO220.out (fun _ hk => trivial)⟩, ⟨by (with_reducible repeat (first | apply Kd.R_alloc | apply Kd.R_drewN | apply Kd.R_drew)); exact HO226.out⟩, ⟨by repeat (first | (with_reducible first | exact HB.out | apply below_alloc | apply pw_below_drewN | apply below_drew1) | exact HB.out)⟩⟩
            · rw [if_neg c10] at H
              exact absurd H (by simp)
          · rw [if_neg c7] at H
            have c7b0 : decide (0 < (x4_1.length : Int)) = false := decide_eq_false c7
            have c7b1 : decide (0 < x4_1.length) = false := decide_eq_false (by omega)
            clear c7
            have H' := Aside0.mk H
            clear H
            obtain ⟨Ao18, co18, eo18⟩ := Kd.R_slice HO_4.out
            subst eo18
            go_wp2
            go_loopg [8] k1 (fun kq v8 w' => ∃ (x5_2 : List Int) (x8_2 : Int), v8 = .int .i64 x8_2 ∧ Aside0 (windbreakref01_Text.l1 kq x5_2 x8_2 = some r) ∧ Aside0 (kq ≤ k1) ∧ Aside0 (Kd.R (Kd.int .u8) 5 w' w.heap.size (fun _ => True) u5 x5_2) ∧ Aside0 (Below w.heap.size w w'))
            case atStart => exact ⟨(x5_1), (0), (by first | rfl | (simp; done) | (simp [*]; done)), H', ⟨Nat.le_refl _⟩, ⟨by (with_reducible repeat (first | apply Kd.R_alloc | apply Kd.R_drewN | apply Kd.R_drew)); exact HO_5.out⟩, ⟨by repeat (first | (with_reducible first | exact HB.out | apply below_alloc | apply pw_below_drewN | apply below_drew1) | exact HB.out)⟩⟩
            case round =>
              clear H'
              try clear c1
              try clear c2
              try clear p2
              try clear c3
              try clear c4
              try clear c4b0
              try clear c4b1
              try clear c4b2
              try clear c7
              try clear c7b0
              try clear c7b1
              try clear c9
              try clear c10
              try clear p2
              obtain ⟨x5_2, x8_2, rfl, HA, HK2, HO_5, HB⟩ := hrel
              cases gk with
              | zero => exact absurd HA.out (by simp [windbreakref01_Text.l1])
              | succ k2 =>
                have H := HA.out
                clear HA
                simp only [windbreakref01_Text.l1] at H
                by_cases c19 : x8_2 < (wrap64 ((x5_2.length : Int) / 2))
                · rw [if_pos c19] at H
                  have c19b0 : decide (x8_2 < (wrap64 ((x5_2.length : Int) / 2))) = true := decide_eq_true c19
                  clear c19
                  by_cases c20 : 0 ≤ x8_2
                  · rw [if_pos c20] at H
                    have c20b0 : decide (0 ≤ x8_2) = true := decide_eq_true c20
                    clear c20
                    by_cases c21 : x8_2 < (x5_2.length : Int)
                    · rw [if_pos c21] at H
                      have c21b0 : decide (x8_2 < (x5_2.length : Int)) = true := decide_eq_true c21
                      clear c21
                      obtain ⟨ji22, hji22⟩ : ∃ j_ : Int, (wrap64 ((wrap64 ((x5_2.length : Int) - 1)) - x8_2)) = j_ := ⟨_, rfl⟩
                      replace H : (if 0 ≤ (ji22) then (if (ji22) < (x5_2.length : Int) then (windbreakref01_Text.l1 k2 ((x5_2.set (x8_2 : Int).toNat (rd x5_2 (ji22))).set ((ji22) : Int).toNat (rd x5_2 x8_2)) (wrap64 (x8_2 + 1))) else (none)) else (none)) = some r := by first | (rw [hji22] at H; exact H) | (simp only [hji22] at H ⊢; exact H)
                      have hji22w : (IntKind.i64.wrap ((wrap64 ((x5_2.length : Int) - 1)) - x8_2)) = ji22 := (i64_w _).trans hji22
                      by_cases c23 : 0 ≤ (ji22)
                      · rw [if_pos c23] at H
                        have c23b0 : decide (0 ≤ (ji22)) = true := decide_eq_true c23
                        clear c23
                        by_cases c24 : (ji22) < (x5_2.length : Int)
                        · rw [if_pos c24] at H
                          have c24b0 : decide ((ji22) < (x5_2.length : Int)) = true := decide_eq_true c24
                          clear c24
                          obtain ⟨y229, hy229⟩ : ∃ y_ : List Int, y_ = (x5_2.set (x8_2 : Int).toNat (rd x5_2 (ji22))) := ⟨_, rfl⟩
                          replace H : (windbreakref01_Text.l1 k2 (y229.set ((ji22) : Int).toNat (rd x5_2 x8_2)) (wrap64 (x8_2 + 1))) = some r := by first | (rw [hy229]; with_reducible exact H) | (have H2_ := (Option.bind_some _ _).symm.trans H; rw [hy229]; with_reducible exact H2_) | (have H2_ := (Option.bind_some _ _).symm.trans H; with_reducible exact H2_) | with_reducible exact H | (rw [hy229]; exact H) | exact H
                          have Ny229 := Aside0.mk hy229
                          clear hy229
                          obtain ⟨y230, hy230⟩ : ∃ y_ : List Int, y_ = (y229.set ((ji22) : Int).toNat (rd x5_2 x8_2)) := ⟨_, rfl⟩
                          replace H : (windbreakref01_Text.l1 k2 y230 (wrap64 (x8_2 + 1))) = some r := by first | (rw [hy230]; with_reducible exact H) | (have H2_ := (Option.bind_some _ _).symm.trans H; rw [hy230]; with_reducible exact H2_) | (have H2_ := (Option.bind_some _ _).symm.trans H; with_reducible exact H2_) | with_reducible exact H | (rw [hy230]; exact H) | exact H
                          have Ny230 := Aside0.mk hy230
                          clear hy230
                          have H' := Aside0.mk H
                          clear H
                          obtain ⟨Ao27, co27, eo27⟩ := Kd.R_slice HO_5.out
                          subst eo27
                          have p227 : 0 ≤ (x8_2 : Int) := of_decide_eq_true (by first | (with_reducible assumption) | assumption)
                          have q227 : x8_2 < (x5_2.length : Int) := of_decide_eq_true (by first | (with_reducible assumption) | assumption)
                          obtain ⟨ad227, e227, hx227_0⟩ := Kd.at_int (Kd.R_reads' HO_5.out).2.2 x8_2 p227 q227
                          cases e227
                          replace p227 := eq_true p227
                          replace q227 := eq_true q227
                          have p228 : 0 ≤ ((ji22) : Int) := of_decide_eq_true (by first | (with_reducible assumption) | assumption)
                          have q228 : (ji22) < (x5_2.length : Int) := of_decide_eq_true (by first | (with_reducible assumption) | assumption)
                          obtain ⟨ad228, e228, hx228_0⟩ := Kd.at_int (Kd.R_reads' HO_5.out).2.2 (ji22) p228 q228
                          obtain rfl : ad227 = ad228 := (by injection e228)
                          replace p228 := eq_true p228
                          replace q228 := eq_true q228
                          have p25 : 0 ≤ (x8_2 : Int) := of_decide_eq_true (by first | (with_reducible assumption) | assumption)
                          have q25 : (x8_2 : Int) < ((x5_2.length : Int) : Int) := of_decide_eq_true (by first | (with_reducible assumption) | assumption)
                          obtain ⟨go25, co25, eo25, gb25, gl25, cl25, HG25⟩ := Kd.R_form HO_5.out (by omega)
                          (first | cases eo25 | (injection eo25 with ea_ en_ ec_; (first | subst ea_ | (injection ea_ with ea_; subst ea_)); subst ec_; clear en_))
                          have GB25 := Aside0.mk gb25
                          have GG25 := Aside0.mk HG25
                          clear gb25 gl25 HG25
                          (first | simp only [add_plain] at hx227_0 | skip)
                          (first | simp only [add_plain] at hx228_0 | skip)
                          obtain ⟨hx25_0, hf25_0⟩ := Kd.R_celln 0 HO_5.out (x8_2 : Int) p25 q25
                          replace p25 := eq_true p25
                          replace q25 := eq_true q25
                          have HP28 := Kd.R_putg HO_5.out (x8_2 : Int) (rd x5_2 (ji22))
                          go_wp2_with (first | ((with_reducible refine gate_store (t := 5) (p := 57) rfl ?_); refine store_event (t := 5) (p := 57) (v := ?vo_w29) (w1 := (wr.setCell ⟨go25, (x8_2 : Int).toNat, none⟩ (.int .u8 (rd x5_2 (ji22))))) ?hg ?ho ?hn ?hr ?_; (case ho => rfl); (case hg => rfl); (case hn => rfl); (case hr => first | (go_simp; done) | (go_simp; rfl) | (obtain ⟨hy_, hz_⟩ := Kd.R_celln 0 HO_5.out (x8_2 : Int) (of_decide_eq_true (by first | (with_reducible assumption) | assumption)) (of_decide_eq_true (by first | (with_reducible assumption) | assumption)); (try simp only [Go.IntWalk.toNatUp] at hy_ hz_); (try simp only [Int.reduceToNat, Int.toNat_zero, Int.toNat_ofNat] at hy_ hz_); first | (go_simp; done) | (go_simp; rfl))); intro w29 hw; have hg : wr.grownBy w29 (some go25) := (by rw [hw]; exact HP28.2); have hp_ : Kd.R (Kd.int .u8) 5 w29 w.heap.size (fun _ => True) (.slice (some ⟨go25, 0, none⟩) x5_2.length co27) y229 := (by rw [hw, Ny229.out]; exact HP28.1); clear HP28; have n0_ := Aside0.mk (hp_); have n1_ := Aside0.mk ((by rw [hw]; exact below_set (HB.out) GB25.out : Below w.heap.size w w29)); clear HO_5; clear HB; have HO_5 := n0_; have HB := n1_; clear n0_ n1_; clear hg hw hp_; have p26 : 0 ≤ ((ji22) : Int) := of_decide_eq_true (by first | (with_reducible assumption) | assumption); have q26 : ((ji22) : Int) < ((x5_2.length : Int) : Int) := of_decide_eq_true (by first | (with_reducible assumption) | assumption); obtain ⟨hx26_0, hf26_0⟩ := Kd.R_celln 0 HO_5.out ((ji22) : Int) p26 q26; replace p26 := eq_true p26; replace q26 := eq_true q26; obtain ⟨hy30_, hz30_⟩ := Kd.R_celln 0 HO_5.out ((ji22) : Int) (of_decide_eq_true (by first | (with_reducible assumption) | assumption)) (of_decide_eq_true (by first | (with_reducible assumption) | assumption)); have HP30 := Kd.R_putg HO_5.out ((ji22) : Int) (rd x5_2 x8_2)) | ((with_reducible refine gate_store (t := 5) (p := 65) rfl ?_); refine store_event (t := 5) (p := 65) (v := ?vo_w31) (w1 := (w29.setCell ⟨go25, ((ji22) : Int).toNat, none⟩ (.int .u8 (rd x5_2 x8_2)))) ?hg ?ho ?hn ?hr ?_; (case ho => rfl); (case hg => rfl); (case hn => rfl); (case hr => first | (go_simp; done) | (go_simp; rfl) | (obtain ⟨hy_, hz_⟩ := Kd.R_celln 0 HO_5.out ((ji22) : Int) (of_decide_eq_true (by first | (with_reducible assumption) | assumption)) (of_decide_eq_true (by first | (with_reducible assumption) | assumption)); (try simp only [Go.IntWalk.toNatUp] at hy_ hz_); (try simp only [Int.reduceToNat, Int.toNat_zero, Int.toNat_ofNat] at hy_ hz_); first | (go_simp; done) | (go_simp; rfl))); intro w31 hw; have hg : w29.grownBy w31 (some go25) := (by rw [hw]; exact HP30.2); have hp_ : Kd.R (Kd.int .u8) 5 w31 w.heap.size (fun _ => True) (.slice (some ⟨go25, 0, none⟩) x5_2.length co27) y230 := (by rw [hw, Ny230.out]; exact HP30.1); clear HP30; have n0_ := Aside0.mk (hp_); have n1_ := Aside0.mk ((by rw [hw]; exact below_set (HB.out) GB25.out : Below w.heap.size w w31)); clear HO_5; clear HB; have HO_5 := n0_; have HB := n1_; clear n0_ n1_; clear hg hw hp_))
                          first | go_roundg k2 | ((try simp only [← hji22] at H'); simp only [← hji22]; go_roundg k2)
                          case measure => have := HK1.out; have := HK2.out; omega
                          case rel => first | exact ⟨(y230), (wrap64 (x8_2 + 1)), (by first | rfl | (simp; done) | (simp [*]; done)), H', ⟨by have := HK1.out; have := HK2.out; omega⟩, ⟨by (with_reducible repeat (first | apply Kd.R_alloc | apply Kd.R_drewN | apply Kd.R_drew)); exact HO_5.out⟩, ⟨by repeat (first | (with_reducible first | exact HB.out | apply below_alloc | apply pw_below_drewN | apply below_drew1) | exact HB.out)⟩⟩ | (simp only [← hji22] at H'; exact ⟨(y230), (wrap64 (x8_2 + 1)), (by first | rfl | (simp; done) | (simp [*]; done)), H', ⟨by have := HK1.out; have := HK2.out; omega⟩, ⟨by (with_reducible repeat (first | apply Kd.R_alloc | apply Kd.R_drewN | apply Kd.R_drew)); exact HO_5.out⟩, ⟨by repeat (first | (with_reducible first | exact HB.out | apply below_alloc | apply pw_below_drewN | apply below_drew1) | exact HB.out)⟩⟩)
                        · rw [if_neg c24] at H
                          exact absurd H (by simp)
                      · rw [if_neg c23] at H
                        exact absurd H (by simp)
                    · rw [if_neg c21] at H
                      exact absurd H (by simp)
                  · rw [if_neg c20] at H
                    exact absurd H (by simp)
                · rw [if_neg c19] at H
                  have c19b0 : decide (x8_2 < (wrap64 ((x5_2.length : Int) / 2))) = false := decide_eq_false c19
                  clear c19
                  obtain rfl := Option.some.inj H
                  obtain ⟨Ao32, co32, eo32⟩ := Kd.R_slice HO_5.out
                  subst eo32
                  have hcv33 := own_string (P := Try.prog) Try.underlying34 Try.underlying5 Try.underlying9 (Kd.own_of_R HO_5.out)
                  go_wp2
                  go_ret
                  exact ⟨by first | rfl | (simp [errW_none, errW_some] <;> rfl) | (simp [*, errW_none, errW_some] <;> rfl), by repeat (first | (with_reducible first | exact HB.out | apply below_alloc | apply pw_below_drewN | apply below_drew1) | exact HB.out)⟩
  · replace c3 := Bool.eq_false_iff.mpr c3
    subst c3
    have H1 : (some (⟨#[]⟩ : ByteArray)) = some r := by rw [if_neg (show ¬ (false = true) by decide)] at H; exact H
    clear H
    have H := H1
    clear H1
    obtain rfl := Option.some.inj H
    go_enter Try.func9, Try.ntmps9
    go_wp2_with (first | ((with_reducible refine gate_callee (f := 19) rfl ?_); refine goesL_ (some 11) rfl rfl Try.func19 (by kernel_rfl) rfl #[.slice A0 l0.length c0] rfl (by (try simp only [List.map_toArray, List.map_cons, List.map_nil]); first | done | rfl | (simp only [List.length_drop, List.length_take]; rfl)) ?_; (with_reducible refine (windbreakref01_Right.calls _ _ l0 false _ ?side1 ?side2 A2.out).mono ?_); (case side1 => repeat (first | exact HR0.out | (with_reducible refine Kd.C_alloc ?_ _) | (with_reducible refine Kd.C_drewN ?_ _) | (with_reducible refine Kd.C_drew ?_))); (case side2 => exact HC0.out); rintro e w' ⟨rfl, ⟨nd, rfl⟩⟩; refine ⟨_, rfl, ?_⟩))
    go_ret
    exact ⟨by first | rfl | (simp [errW_none, errW_some] <;> rfl) | (simp [*, errW_none, errW_some] <;> rfl), by repeat (first | (with_reducible first | exact HB.out | apply below_alloc | apply pw_below_drewN | apply below_drew1) | exact HB.out)⟩

end Go.Proofs.Ytikfgeieaadeiad.F

namespace Go.Proofs.Ytikfgeieaadeiad.F
open Go.RowKit Go.Proofs.YtikfgeieaadeiadW.PrintWords Go.Proofs.YtikfgeieaadeiadW.PrintLast Go.Proofs.YtikfgeieaadeiadW.PrintMore
attribute [local go_sem] max2_int min2_int max_two min_two max_three min_three max_four min_four   -- for this text's walks alone
set_option linter.unusedVariables false
set_option linter.unusedSimpArgs false

/-! ### windbreaklaw01_NatTexts: function 3 -/
def windbreaklaw01_NatTexts.f (k : Nat) (l0 : List Int) : Option (Bool) := (windbreaklaw01_few.f k (([l0] : List (List Int)))).bind fun t234 => (if t234 = true then ((nat_Text.f k (([1] : List Int))).bind fun t238 => ((nat_Text.f k l0).bind fun t239 => (if t238.toList = ([49] : List UInt8) then ((windbreakref01_Text.f k l0).bind fun t240 => (some (t239.toList == t240.toList))) else (some false)))) else (some true))
theorem windbreaklaw01_NatTexts.mono : ∀ a0 k, LeO (windbreaklaw01_NatTexts.f k a0) (windbreaklaw01_NatTexts.f (k + 1) a0) := by
  intro a0 k
  unfold windbreaklaw01_NatTexts.f
  repeat' first
      | (with_reducible exact nat_Text.mono _ _)
      | (with_reducible exact windbreaklaw01_few.mono _ _)
      | (with_reducible exact windbreakref01_Text.mono _ _)
      | (with_reducible exact LeO.refl _)
      | (with_reducible exact LeO.none _)
      | (with_reducible refine LeO.ite ?_ ?_)
      | (with_reducible refine LeO.bind ?_ (fun _ => ?_))
      | exact nat_Text.mono _ _
      | exact windbreaklaw01_few.mono _ _
      | exact windbreakref01_Text.mono _ _
      | exact LeO.none _
      | refine LeO.ite ?_ ?_
      | refine LeO.bind ?_ (fun _ => ?_)
set_option maxHeartbeats 8000000 in
set_option maxRecDepth 100000 in
theorem windbreaklaw01_NatTexts.calls (k : Nat) (P0_ : Nat → Prop) (A0 : Option Addr) (c0 : Nat) (l0 : List Int) (r : Bool) (w : World) (hs0 : Kd.V (Kd.int .u64) 26 w w.heap.size (fun k_ => P0_ k_) (.slice A0 l0.length c0) l0) (h : windbreaklaw01_NatTexts.f k l0 = some r) :
    Calls Try.prog 3 #[.slice A0 l0.length c0] w fun e w' => e = .returned (.bool r) ∧ Below w.heap.size w w' := by
  have HO0 := Aside0.mk (show Kd.V (Kd.int .u64) 26 w w.heap.size (fun k_ => (P0_ k_ ∨ w.heap.size ≤ k_)) (.slice A0 l0.length c0) l0 from Kd.V_mono hs0 (fun k_ hk => .inl hk))
  have HB := Aside0.mk (Below.refl w.heap.size w)
  have H : ((windbreaklaw01_few.f k (([l0] : List (List Int)))).bind fun t234 => (if t234 = true then ((nat_Text.f k (([1] : List Int))).bind fun t238 => ((nat_Text.f k l0).bind fun t239 => (if t238.toList = ([49] : List UInt8) then ((windbreakref01_Text.f k l0).bind fun t240 => (some (t239.toList == t240.toList))) else (some false)))) else (some true))) = some r := h
  clear h
  obtain ⟨y231, hy231⟩ : ∃ y_ : List (List Int), y_ = (([l0] : List (List Int))) := ⟨_, rfl⟩
  replace H : ((windbreaklaw01_few.f k y231).bind fun t234 => (if t234 = true then ((nat_Text.f k (([1] : List Int))).bind fun t238 => ((nat_Text.f k l0).bind fun t239 => (if t238.toList = ([49] : List UInt8) then ((windbreakref01_Text.f k l0).bind fun t240 => (some (t239.toList == t240.toList))) else (some false)))) else (some true))) = some r := by first | (rw [hy231]; with_reducible exact H) | (have H2_ := (Option.bind_some _ _).symm.trans H; rw [hy231]; with_reducible exact H2_) | (have H2_ := (Option.bind_some _ _).symm.trans H; with_reducible exact H2_) | with_reducible exact H | (rw [hy231]; exact H) | exact H
  have Ny231 := Aside0.mk hy231
  clear hy231
  replace H := Option.bind_eq_some_iff.mp H
  obtain ⟨t234, A20, H⟩ := H
  replace H : (if t234 = true then ((nat_Text.f k (([1] : List Int))).bind fun t238 => ((nat_Text.f k l0).bind fun t239 => (if t238.toList = ([49] : List UInt8) then ((windbreakref01_Text.f k l0).bind fun t240 => (some (t239.toList == t240.toList))) else (some false)))) else (some true)) = some r := H
  have A2 := Aside0.mk A20
  clear A20
  by_cases c3 : t234 = true
  · subst c3
    have H1 : ((nat_Text.f k (([1] : List Int))).bind fun t238 => ((nat_Text.f k l0).bind fun t239 => (if t238.toList = ([49] : List UInt8) then ((windbreakref01_Text.f k l0).bind fun t240 => (some (t239.toList == t240.toList))) else (some false)))) = some r := by rw [if_pos rfl] at H; exact H
    clear H
    have H := H1
    clear H1
    obtain ⟨y235, hy235⟩ : ∃ y_ : List Int, y_ = (([1] : List Int)) := ⟨_, rfl⟩
    replace H : ((nat_Text.f k y235).bind fun t238 => ((nat_Text.f k l0).bind fun t239 => (if t238.toList = ([49] : List UInt8) then ((windbreakref01_Text.f k l0).bind fun t240 => (some (t239.toList == t240.toList))) else (some false)))) = some r := by first | (rw [hy235]; with_reducible exact H) | (have H2_ := (Option.bind_some _ _).symm.trans H; rw [hy235]; with_reducible exact H2_) | (have H2_ := (Option.bind_some _ _).symm.trans H; with_reducible exact H2_) | with_reducible exact H | (rw [hy235]; exact H) | exact H
    have Ny235 := Aside0.mk hy235
    clear hy235
    replace H := Option.bind_eq_some_iff.mp H
    obtain ⟨t238, A40, H⟩ := H
    replace H : ((nat_Text.f k l0).bind fun t239 => (if t238.toList = ([49] : List UInt8) then ((windbreakref01_Text.f k l0).bind fun t240 => (some (t239.toList == t240.toList))) else (some false))) = some r := H
    have A4 := Aside0.mk A40
    clear A40
    replace H := Option.bind_eq_some_iff.mp H
    obtain ⟨t239, A50, H⟩ := H
    replace H : (if t238.toList = ([49] : List UInt8) then ((windbreakref01_Text.f k l0).bind fun t240 => (some (t239.toList == t240.toList))) else (some false)) = some r := H
    have A5 := Aside0.mk A50
    clear A50
    by_cases c6 : t238.toList = ([49] : List UInt8)
    · rw [if_pos c6] at H
      have c6b0 : (t238.toList == ([49] : List UInt8)) = true := beq_iff_eq.mpr c6
      have c6b1 : (t238.toList != ([49] : List UInt8)) = false := bne_eq_false_iff_eq.mpr c6
      clear c6
      replace H := Option.bind_eq_some_iff.mp H
      obtain ⟨t240, A70, H⟩ := H
      replace H : (some (t239.toList == t240.toList)) = some r := H
      have A7 := Aside0.mk A70
      clear A70
      obtain rfl := Option.some.inj H
      go_enter Try.func3, Try.ntmps3
      go_wp2_with (first | ((with_reducible refine gate_dst (N := 6) rfl ?_); refine Kd.N_lit (Kd.slice 26 (Kd.int .u64)) _ 23 ?hg (N' := 6) ?hd (xs := ([l0] : List (List Int))) (inner := [.slice A0 l0.length c0]) (ok := (fun k_ => (P0_ k_ ∨ w.heap.size ≤ k_))) (okp := (fun k_ => (P0_ k_ ∨ w.heap.size ≤ k_))) ?hr ?hp (fun _ hk => hk) ((show ∀ k_, w.heap.size ≤ k_ → (fun k_ => (P0_ k_ ∨ w.heap.size ≤ k_)) k_ from fun k_ hk => (.inr (Nat.le_trans (below_size (by repeat (first | (with_reducible first | exact HB.out | apply below_alloc | apply pw_below_drewN | apply below_drew1) | exact HB.out))) hk))) _ (Nat.le_refl _)) (Below.refl _ _) (Nat.le_refl _) (by simp) ?_; (case hd => rfl); (case hg => rfl); (case hr => first | (go_simp; done) | (go_simp; rfl)); (case hp => exact (Reps.one (show Kd.FK (Kd.slice 26 (Kd.int .u64)) _ _ l0 [.slice A0 l0.length c0] from (Kd.FK_slice_mk (Kd.V_reads' (Kd.V_mono (ok' := (fun k_ => (P0_ k_ ∨ w.heap.size ≤ k_))) (HO0.out) (fun k_ hk => hk))).2.1 (Kd.V_F (Kd.V_mono (ok' := (fun k_ => (P0_ k_ ∨ w.heap.size ≤ k_))) (HO0.out) (fun k_ hk => hk))))) (Reps.none _ _))); intro v232 w8 ho9 hb hg_ hnew_; clear hg_ hnew_; (first | rw [← Ny231.out] at ho9 | (simp only [Int.reduceToNat] at ho9; rw [← Ny231.out] at ho9)); have n0_ := Aside0.mk (Kd.V_elder' (by (with_reducible repeat (first | apply Kd.V_alloc | apply Kd.V_drewN | apply Kd.V_drew)); exact HO0.out) (Kd.N_base ho9) hb); have n1_ := Aside0.mk (Kd.N_lower ho9 (below_size (by repeat (first | (with_reducible first | exact HB.out | apply below_alloc | apply pw_below_drewN | apply below_drew1) | exact HB.out)))); have n2_ := Aside0.mk (below_step (by repeat (first | (with_reducible first | exact HB.out | apply below_alloc | apply pw_below_drewN | apply below_drew1) | exact HB.out)) hb); clear HO0; clear HB; have HO0 := n0_; have HO233 := n1_; have HB := n2_; clear n0_ n1_ n2_; clear hb ho9; obtain ⟨Ao10, co10, eo10⟩ := Kd.N_slice HO233.out; subst eo10) | ((with_reducible refine gate_callee (f := 7) rfl ?_); refine goesL_ (some 7) rfl rfl Try.func7 (by kernel_rfl) rfl #[.slice Ao10 y231.length co10] rfl (by (try simp only [List.map_toArray, List.map_cons, List.map_nil]); first | done | rfl | (simp only [List.length_drop, List.length_take]; rfl)) ?_; (with_reducible refine (windbreaklaw01_few.calls k _ _ y231 true _ ?side1 ?side2 A2.out).mono ?_); (case side1 => repeat (first | exact (Kd.N_reads' HO233.out).2.2 | (with_reducible refine Kd.C_alloc ?_ _) | (with_reducible refine Kd.C_drewN ?_ _) | (with_reducible refine Kd.C_drew ?_))); (case side2 => exact (Kd.N_reads' HO233.out).2.1); rintro e w' ⟨rfl, ⟨nd, rfl⟩⟩; refine ⟨_, rfl, ?_⟩) | ((with_reducible refine gate_dst (N := 9) rfl ?_); refine Kd.R_lit (Kd.int .u64) _ 26 ?hg (N := 9) ?hd (xs := ([1] : List Int)) (inner := [.int .u64 1]) (ok := fun _ => True) (okp := fun _ => True) ?hr ?hp (fun _ hk => hk) trivial (Below.refl _ _) (Nat.le_refl _) (by simp) ?_; (case hd => rfl); (case hg => rfl); (case hr => first | (go_simp; done) | (go_simp; rfl)); (case hp => exact (Reps.one (show Kd.M (Kd.int .u64) _ _ _ 1 [.int .u64 1] from rfl) (Reps.none _ _))); intro v236 w11 ho12 hb hg_ hnew_; clear hg_ hnew_; (first | rw [← Ny235.out] at ho12 | (simp only [Int.reduceToNat] at ho12; rw [← Ny235.out] at ho12)); have n0_ := Aside0.mk (Kd.V_elder' (by (with_reducible repeat (first | apply Kd.V_alloc | apply Kd.V_drewN | apply Kd.V_drew)); exact HO0.out) (Kd.R_base ho12) hb); have n1_ := Aside0.mk (Kd.N_elder' (by (with_reducible repeat (first | apply Kd.N_alloc | apply Kd.N_drewN | apply Kd.N_drew)); exact HO233.out) (Kd.R_base ho12) hb); have n2_ := Aside0.mk (Kd.R_lower (Kd.R_newM (M := fun k_ => (w.heap.size ≤ k_)) ho12 (below_size (by repeat (first | (with_reducible first | exact HB.out | apply below_alloc | apply pw_below_drewN | apply below_drew1) | exact HB.out))) (fun k_ h_ => h_)) (below_size (by repeat (first | (with_reducible first | exact HB.out | apply below_alloc | apply pw_below_drewN | apply below_drew1) | exact HB.out)))); have n3_ := Aside0.mk (below_step (by repeat (first | (with_reducible first | exact HB.out | apply below_alloc | apply pw_below_drewN | apply below_drew1) | exact HB.out)) hb); clear HO0; clear HO233; clear HB; have HO0 := n0_; have HO233 := n1_; have HO237 := n2_; have HB := n3_; clear n0_ n1_ n2_ n3_; clear hb ho12; obtain ⟨Ao13, co13, eo13⟩ := Kd.R_slice HO237.out; subst eo13) | ((with_reducible refine gate_callee (f := 8) rfl ?_); refine goesL_ (some 10) rfl rfl Try.func8 (by kernel_rfl) rfl #[.slice Ao13 y235.length co13] rfl (by (try simp only [List.map_toArray, List.map_cons, List.map_nil]); first | done | rfl | (simp only [List.length_drop, List.length_take]; rfl)) ?_; (with_reducible refine (nat_Text.calls k (fun k_ => some k_ = (.slice Ao13 y235.length co13 : Value).ownBlock) _ _ y235 t238 _ ?side1 A4.out).mono ?_); (case side1 => exact Kd.R_V (Kd.R_tight rfl (Kd.R_apart' (HO237.out) (Kd.N_typed HO233.out) (by decide)))); rintro e w14 ⟨rfl, hb⟩; refine ⟨_, rfl, ?_⟩; have n0_ := Aside0.mk (Kd.V_below (by (with_reducible repeat (first | apply Kd.V_alloc | apply Kd.V_drewN | apply Kd.V_drew)); exact HO0.out) hb); have n1_ := Aside0.mk (Kd.N_below (by (with_reducible repeat (first | apply Kd.N_alloc | apply Kd.N_drewN | apply Kd.N_drew)); exact HO233.out) hb); have n2_ := Aside0.mk (Kd.R_below (by (with_reducible repeat (first | apply Kd.R_alloc | apply Kd.R_drewN | apply Kd.R_drew)); exact HO237.out) hb); have n3_ := Aside0.mk (below_step (by repeat (first | (with_reducible first | exact HB.out | apply below_alloc | apply pw_below_drewN | apply below_drew1) | exact HB.out)) hb); clear HO0; clear HO233; clear HO237; clear HB; have HO0 := n0_; have HO233 := n1_; have HO237 := n2_; have HB := n3_; clear n0_ n1_ n2_ n3_; (try clear hb); (try clear hb2); (try clear hk); (try clear hi)) | ((with_reducible refine gate_callee (f := 8) rfl ?_); refine goesL_ (some 12) rfl rfl Try.func8 (by kernel_rfl) rfl #[.slice A0 l0.length c0] rfl (by (try simp only [List.map_toArray, List.map_cons, List.map_nil]); first | done | rfl | (simp only [List.length_drop, List.length_take]; rfl)) ?_; (with_reducible refine (nat_Text.calls k (fun k_ => (((P0_ k_ ∨ w.heap.size ≤ k_) ∧ some k_ ≠ (.slice Ao10 y231.length co10 : Value).ownBlock) ∧ some k_ ≠ (.slice Ao13 y235.length co13 : Value).ownBlock)) _ _ l0 t239 _ ?side1 A5.out).mono ?_); (case side1 => exact HO0.out); rintro e w15 ⟨rfl, hb⟩; refine ⟨_, rfl, ?_⟩; have n0_ := Aside0.mk (Kd.V_below (by (with_reducible repeat (first | apply Kd.V_alloc | apply Kd.V_drewN | apply Kd.V_drew)); exact HO0.out) hb); have n1_ := Aside0.mk (Kd.N_below (by (with_reducible repeat (first | apply Kd.N_alloc | apply Kd.N_drewN | apply Kd.N_drew)); exact HO233.out) hb); have n2_ := Aside0.mk (Kd.R_below (by (with_reducible repeat (first | apply Kd.R_alloc | apply Kd.R_drewN | apply Kd.R_drew)); exact HO237.out) hb); have n3_ := Aside0.mk (below_step (by repeat (first | (with_reducible first | exact HB.out | apply below_alloc | apply pw_below_drewN | apply below_drew1) | exact HB.out)) hb); clear HO0; clear HO233; clear HO237; clear HB; have HO0 := n0_; have HO233 := n1_; have HO237 := n2_; have HB := n3_; clear n0_ n1_ n2_ n3_; (try clear hb); (try clear hb2); (try clear hk); (try clear hi)) | (go_at_call 9; (with_reducible refine (windbreakref01_Text.calls k _ _ l0 t240 _ ?side1 ?side2 A7.out).mono ?_); (case side1 => repeat (first | exact (Kd.V_reads' HO0.out).2.2 | (with_reducible refine Kd.C_alloc ?_ _) | (with_reducible refine Kd.C_drewN ?_ _) | (with_reducible refine Kd.C_drew ?_))); (case side2 => exact (Kd.V_reads' HO0.out).2.1); rintro e w16 ⟨rfl, hb⟩; have n0_ := Aside0.mk (Kd.V_below (by (with_reducible repeat (first | apply Kd.V_alloc | apply Kd.V_drewN | apply Kd.V_drew)); exact HO0.out) hb); have n1_ := Aside0.mk (Kd.N_below (by (with_reducible repeat (first | apply Kd.N_alloc | apply Kd.N_drewN | apply Kd.N_drew)); exact HO233.out) hb); have n2_ := Aside0.mk (Kd.R_below (by (with_reducible repeat (first | apply Kd.R_alloc | apply Kd.R_drewN | apply Kd.R_drew)); exact HO237.out) hb); have n3_ := Aside0.mk (below_step (by repeat (first | (with_reducible first | exact HB.out | apply below_alloc | apply pw_below_drewN | apply below_drew1) | exact HB.out)) hb); clear HO0; clear HO233; clear HO237; clear HB; have HO0 := n0_; have HO233 := n1_; have HO237 := n2_; have HB := n3_; clear n0_ n1_ n2_ n3_; (try clear hb); (try clear hb2); (try clear hk); (try clear hi)))
      go_ret
      exact ⟨by first | rfl | (simp [errW_none, errW_some] <;> rfl) | (simp [*, errW_none, errW_some] <;> rfl), by repeat (first | (with_reducible first | exact HB.out | apply below_alloc | apply pw_below_drewN | apply below_drew1) | exact HB.out)⟩
    · rw [if_neg c6] at H
      have c6b0 : (t238.toList == ([49] : List UInt8)) = false := beq_eq_false_iff_ne.mpr c6
      have c6b1 : (t238.toList != ([49] : List UInt8)) = true := bne_iff_ne.mpr c6
      obtain rfl := Option.some.inj H
      go_enter Try.func3, Try.ntmps3
      go_wp2_with (first | ((with_reducible refine gate_dst (N := 6) rfl ?_); refine Kd.N_lit (Kd.slice 26 (Kd.int .u64)) _ 23 ?hg (N' := 6) ?hd (xs := ([l0] : List (List Int))) (inner := [.slice A0 l0.length c0]) (ok := (fun k_ => (P0_ k_ ∨ w.heap.size ≤ k_))) (okp := (fun k_ => (P0_ k_ ∨ w.heap.size ≤ k_))) ?hr ?hp (fun _ hk => hk) ((show ∀ k_, w.heap.size ≤ k_ → (fun k_ => (P0_ k_ ∨ w.heap.size ≤ k_)) k_ from fun k_ hk => (.inr (Nat.le_trans (below_size (by repeat (first | (with_reducible first | exact HB.out | apply below_alloc | apply pw_below_drewN | apply below_drew1) | exact HB.out))) hk))) _ (Nat.le_refl _)) (Below.refl _ _) (Nat.le_refl _) (by simp) ?_; (case hd => rfl); (case hg => rfl); (case hr => first | (go_simp; done) | (go_simp; rfl)); (case hp => exact (Reps.one (show Kd.FK (Kd.slice 26 (Kd.int .u64)) _ _ l0 [.slice A0 l0.length c0] from (Kd.FK_slice_mk (Kd.V_reads' (Kd.V_mono (ok' := (fun k_ => (P0_ k_ ∨ w.heap.size ≤ k_))) (HO0.out) (fun k_ hk => hk))).2.1 (Kd.V_F (Kd.V_mono (ok' := (fun k_ => (P0_ k_ ∨ w.heap.size ≤ k_))) (HO0.out) (fun k_ hk => hk))))) (Reps.none _ _))); intro v232 w17 ho18 hb hg_ hnew_; clear hg_ hnew_; (first | rw [← Ny231.out] at ho18 | (simp only [Int.reduceToNat] at ho18; rw [← Ny231.out] at ho18)); have n0_ := Aside0.mk (Kd.V_elder' (by (with_reducible repeat (first | apply Kd.V_alloc | apply Kd.V_drewN | apply Kd.V_drew)); exact HO0.out) (Kd.N_base ho18) hb); have n1_ := Aside0.mk (Kd.N_lower ho18 (below_size (by repeat (first | (with_reducible first | exact HB.out | apply below_alloc | apply pw_below_drewN | apply below_drew1) | exact HB.out)))); have n2_ := Aside0.mk (below_step (by repeat (first | (with_reducible first | exact HB.out | apply below_alloc | apply pw_below_drewN | apply below_drew1) | exact HB.out)) hb); clear HO0; clear HB; have HO0 := n0_; have HO233 := n1_; have HB := n2_; clear n0_ n1_ n2_; clear hb ho18; obtain ⟨Ao19, co19, eo19⟩ := Kd.N_slice HO233.out; subst eo19) | ((with_reducible refine gate_callee (f := 7) rfl ?_); refine goesL_ (some 7) rfl rfl Try.func7 (by kernel_rfl) rfl #[.slice Ao19 y231.length co19] rfl (by (try simp only [List.map_toArray, List.map_cons, List.map_nil]); first | done | rfl | (simp only [List.length_drop, List.length_take]; rfl)) ?_; (with_reducible refine (windbreaklaw01_few.calls k _ _ y231 true _ ?side1 ?side2 A2.out).mono ?_); (case side1 => repeat (first | exact (Kd.N_reads' HO233.out).2.2 | (with_reducible refine Kd.C_alloc ?_ _) | (with_reducible refine Kd.C_drewN ?_ _) | (with_reducible refine Kd.C_drew ?_))); (case side2 => exact (Kd.N_reads' HO233.out).2.1); rintro e w' ⟨rfl, ⟨nd, rfl⟩⟩; refine ⟨_, rfl, ?_⟩) | ((with_reducible refine gate_dst (N := 9) rfl ?_); refine Kd.R_lit (Kd.int .u64) _ 26 ?hg (N := 9) ?hd (xs := ([1] : List Int)) (inner := [.int .u64 1]) (ok := fun _ => True) (okp := fun _ => True) ?hr ?hp (fun _ hk => hk) trivial (Below.refl _ _) (Nat.le_refl _) (by simp) ?_; (case hd => rfl); (case hg => rfl); (case hr => first | (go_simp; done) | (go_simp; rfl)); (case hp => exact (Reps.one (show Kd.M (Kd.int .u64) _ _ _ 1 [.int .u64 1] from rfl) (Reps.none _ _))); intro v236 w20 ho21 hb hg_ hnew_; clear hg_ hnew_; (first | rw [← Ny235.out] at ho21 | (simp only [Int.reduceToNat] at ho21; rw [← Ny235.out] at ho21)); have n0_ := Aside0.mk (Kd.V_elder' (by (with_reducible repeat (first | apply Kd.V_alloc | apply Kd.V_drewN | apply Kd.V_drew)); exact HO0.out) (Kd.R_base ho21) hb); have n1_ := Aside0.mk (Kd.N_elder' (by (with_reducible repeat (first | apply Kd.N_alloc | apply Kd.N_drewN | apply Kd.N_drew)); exact HO233.out) (Kd.R_base ho21) hb); have n2_ := Aside0.mk (Kd.R_lower (Kd.R_newM (M := fun k_ => (w.heap.size ≤ k_)) ho21 (below_size (by repeat (first | (with_reducible first | exact HB.out | apply below_alloc | apply pw_below_drewN | apply below_drew1) | exact HB.out))) (fun k_ h_ => h_)) (below_size (by repeat (first | (with_reducible first | exact HB.out | apply below_alloc | apply pw_below_drewN | apply below_drew1) | exact HB.out)))); have n3_ := Aside0.mk (below_step (by repeat (first | (with_reducible first | exact HB.out | apply below_alloc | apply pw_below_drewN | apply below_drew1) | exact HB.out)) hb); clear HO0; clear HO233; clear HB; have HO0 := n0_; have HO233 := n1_; have HO237 := n2_; have HB := n3_; clear n0_ n1_ n2_ n3_; clear hb ho21; obtain ⟨Ao22, co22, eo22⟩ := Kd.R_slice HO237.out; subst eo22) | ((with_reducible refine gate_callee (f := 8) rfl ?_); refine goesL_ (some 10) rfl rfl Try.func8 (by kernel_rfl) rfl #[.slice Ao22 y235.length co22] rfl (by (try simp only [List.map_toArray, List.map_cons, List.map_nil]); first | done | rfl | (simp only [List.length_drop, List.length_take]; rfl)) ?_; (with_reducible refine (nat_Text.calls k (fun k_ => some k_ = (.slice Ao22 y235.length co22 : Value).ownBlock) _ _ y235 t238 _ ?side1 A4.out).mono ?_); (case side1 => exact Kd.R_V (Kd.R_tight rfl (Kd.R_apart' (HO237.out) (Kd.N_typed HO233.out) (by decide)))); rintro e w23 ⟨rfl, hb⟩; refine ⟨_, rfl, ?_⟩; have n0_ := Aside0.mk (Kd.V_below (by (with_reducible repeat (first | apply Kd.V_alloc | apply Kd.V_drewN | apply Kd.V_drew)); exact HO0.out) hb); have n1_ := Aside0.mk (Kd.N_below (by (with_reducible repeat (first | apply Kd.N_alloc | apply Kd.N_drewN | apply Kd.N_drew)); exact HO233.out) hb); have n2_ := Aside0.mk (Kd.R_below (by (with_reducible repeat (first | apply Kd.R_alloc | apply Kd.R_drewN | apply Kd.R_drew)); exact HO237.out) hb); have n3_ := Aside0.mk (below_step (by repeat (first | (with_reducible first | exact HB.out | apply below_alloc | apply pw_below_drewN | apply below_drew1) | exact HB.out)) hb); clear HO0; clear HO233; clear HO237; clear HB; have HO0 := n0_; have HO233 := n1_; have HO237 := n2_; have HB := n3_; clear n0_ n1_ n2_ n3_; (try clear hb); (try clear hb2); (try clear hk); (try clear hi)) | ((with_reducible refine gate_callee (f := 8) rfl ?_); refine goesL_ (some 12) rfl rfl Try.func8 (by kernel_rfl) rfl #[.slice A0 l0.length c0] rfl (by (try simp only [List.map_toArray, List.map_cons, List.map_nil]); first | done | rfl | (simp only [List.length_drop, List.length_take]; rfl)) ?_; (with_reducible refine (nat_Text.calls k (fun k_ => (((P0_ k_ ∨ w.heap.size ≤ k_) ∧ some k_ ≠ (.slice Ao19 y231.length co19 : Value).ownBlock) ∧ some k_ ≠ (.slice Ao22 y235.length co22 : Value).ownBlock)) _ _ l0 t239 _ ?side1 A5.out).mono ?_); (case side1 => exact HO0.out); rintro e w24 ⟨rfl, hb⟩; refine ⟨_, rfl, ?_⟩; have n0_ := Aside0.mk (Kd.V_below (by (with_reducible repeat (first | apply Kd.V_alloc | apply Kd.V_drewN | apply Kd.V_drew)); exact HO0.out) hb); have n1_ := Aside0.mk (Kd.N_below (by (with_reducible repeat (first | apply Kd.N_alloc | apply Kd.N_drewN | apply Kd.N_drew)); exact HO233.out) hb); have n2_ := Aside0.mk (Kd.R_below (by (with_reducible repeat (first | apply Kd.R_alloc | apply Kd.R_drewN | apply Kd.R_drew)); exact HO237.out) hb); have n3_ := Aside0.mk (below_step (by repeat (first | (with_reducible first | exact HB.out | apply below_alloc | apply pw_below_drewN | apply below_drew1) | exact HB.out)) hb); clear HO0; clear HO233; clear HO237; clear HB; have HO0 := n0_; have HO233 := n1_; have HO237 := n2_; have HB := n3_; clear n0_ n1_ n2_ n3_; (try clear hb); (try clear hb2); (try clear hk); (try clear hi)))
      go_ret
      exact ⟨by first | rfl | (simp [errW_none, errW_some] <;> rfl) | (simp [*, errW_none, errW_some] <;> rfl), by repeat (first | (with_reducible first | exact HB.out | apply below_alloc | apply pw_below_drewN | apply below_drew1) | exact HB.out)⟩
  · replace c3 := Bool.eq_false_iff.mpr c3
    subst c3
    have H1 : (some true) = some r := by rw [if_neg (show ¬ (false = true) by decide)] at H; exact H
    clear H
    have H := H1
    clear H1
    obtain rfl := Option.some.inj H
    go_enter Try.func3, Try.ntmps3
    go_wp2_with (first | ((with_reducible refine gate_dst (N := 6) rfl ?_); refine Kd.N_lit (Kd.slice 26 (Kd.int .u64)) _ 23 ?hg (N' := 6) ?hd (xs := ([l0] : List (List Int))) (inner := [.slice A0 l0.length c0]) (ok := (fun k_ => (P0_ k_ ∨ w.heap.size ≤ k_))) (okp := (fun k_ => (P0_ k_ ∨ w.heap.size ≤ k_))) ?hr ?hp (fun _ hk => hk) ((show ∀ k_, w.heap.size ≤ k_ → (fun k_ => (P0_ k_ ∨ w.heap.size ≤ k_)) k_ from fun k_ hk => (.inr (Nat.le_trans (below_size (by repeat (first | (with_reducible first | exact HB.out | apply below_alloc | apply pw_below_drewN | apply below_drew1) | exact HB.out))) hk))) _ (Nat.le_refl _)) (Below.refl _ _) (Nat.le_refl _) (by simp) ?_; (case hd => rfl); (case hg => rfl); (case hr => first | (go_simp; done) | (go_simp; rfl)); (case hp => exact (Reps.one (show Kd.FK (Kd.slice 26 (Kd.int .u64)) _ _ l0 [.slice A0 l0.length c0] from (Kd.FK_slice_mk (Kd.V_reads' (Kd.V_mono (ok' := (fun k_ => (P0_ k_ ∨ w.heap.size ≤ k_))) (HO0.out) (fun k_ hk => hk))).2.1 (Kd.V_F (Kd.V_mono (ok' := (fun k_ => (P0_ k_ ∨ w.heap.size ≤ k_))) (HO0.out) (fun k_ hk => hk))))) (Reps.none _ _))); intro v232 w25 ho26 hb hg_ hnew_; clear hg_ hnew_; (first | rw [← Ny231.out] at ho26 | (simp only [Int.reduceToNat] at ho26; rw [← Ny231.out] at ho26)); have n0_ := Aside0.mk (Kd.V_elder' (by (with_reducible repeat (first | apply Kd.V_alloc | apply Kd.V_drewN | apply Kd.V_drew)); exact HO0.out) (Kd.N_base ho26) hb); have n1_ := Aside0.mk (Kd.N_lower ho26 (below_size (by repeat (first | (with_reducible first | exact HB.out | apply below_alloc | apply pw_below_drewN | apply below_drew1) | exact HB.out)))); have n2_ := Aside0.mk (below_step (by repeat (first | (with_reducible first | exact HB.out | apply below_alloc | apply pw_below_drewN | apply below_drew1) | exact HB.out)) hb); clear HO0; clear HB; have HO0 := n0_; have HO233 := n1_; have HB := n2_; clear n0_ n1_ n2_; clear hb ho26; obtain ⟨Ao27, co27, eo27⟩ := Kd.N_slice HO233.out; subst eo27) | ((with_reducible refine gate_callee (f := 7) rfl ?_); refine goesL_ (some 7) rfl rfl Try.func7 (by kernel_rfl) rfl #[.slice Ao27 y231.length co27] rfl (by (try simp only [List.map_toArray, List.map_cons, List.map_nil]); first | done | rfl | (simp only [List.length_drop, List.length_take]; rfl)) ?_; (with_reducible refine (windbreaklaw01_few.calls k _ _ y231 false _ ?side1 ?side2 A2.out).mono ?_); (case side1 => repeat (first | exact (Kd.N_reads' HO233.out).2.2 | (with_reducible refine Kd.C_alloc ?_ _) | (with_reducible refine Kd.C_drewN ?_ _) | (with_reducible refine Kd.C_drew ?_))); (case side2 => exact (Kd.N_reads' HO233.out).2.1); rintro e w' ⟨rfl, ⟨nd, rfl⟩⟩; refine ⟨_, rfl, ?_⟩))
    go_ret
    exact ⟨by first | rfl | (simp [errW_none, errW_some] <;> rfl) | (simp [*, errW_none, errW_some] <;> rfl), by repeat (first | (with_reducible first | exact HB.out | apply below_alloc | apply pw_below_drewN | apply below_drew1) | exact HB.out)⟩

/-- THE ONE PURE STATEMENT of windbreaklaw01_NatTexts: yours. -/
def windbreaklaw01_NatTexts.Pure : Prop := ∀ (l0 : List Int), l0.length ≤ maxLen → l0.length * 8 ≤ 140737488351232 → (∀ x ∈ l0, (Lit.int .u64 x).wf = true) → ∃ k, windbreaklaw01_NatTexts.f k l0 = some true
theorem windbreaklaw01_NatTexts.walk (P : windbreaklaw01_NatTexts.Pure) (a0 : Option Addr) (len0 cap0 : Nat) (z0 : List Int) (w : World) (w0 : (a0 = none ∧ len0 = 0 ∧ cap0 = 0 ∧ z0 = []) ∨ ∃ x, a0 = some x ∧ len0 ≤ cap0 ∧ cap0 ≤ maxLen ∧ z0.length = cap0 ∧ (∀ i, i < z0.length → w.cell? (x.add i) = some (.int .u64 (z0.getD i 0))) ∧ ∀ n ∈ z0, (Lit.int .u64 n).wf = true) (y0 : len0 * 8 ≤ 140737488351232) :
    Calls Try.prog 3 #[.slice a0 len0 cap0] w fun e w' => e = .returned (.bool true) ∧ Below w.heap.size w w' := by
  obtain ⟨l0, rfl, hr0, hm0, hw0, hc0⟩ := ReadsInt.ofRowC w0
  obtain ⟨k, h⟩ := P l0 hm0 y0 hw0
  refine (windbreaklaw01_NatTexts.calls k (fun k_ => k_ < w.heap.size) _ _ l0 true w (Kd.V_mk hc0 (Kd.C_F (Kd.heap_int .u64) (Kd.C_of_reads (d := (0 : Int)) (h1 := fun _ => rfl) hr0))) h).mono ?_
  rintro e w' ⟨rfl, hd⟩
  exact ⟨rfl, hd⟩

end Go.Proofs.Ytikfgeieaadeiad.F

namespace Go.Proofs.Ytikfgeieaadeiad.Z
open Go.RowKit Go.Proofs.YtikfgeieaadeiadW.PrintWords
set_option linter.unusedSimpArgs false
set_option linter.unusedVariables false

/-! ### Rounds: from some number on the answer is r -/
def Evt {α : Type} (g : Nat → Option α) (r : α) : Prop := ∃ n, ∀ k, n ≤ k → g k = some r
theorem Evt.of {α : Type} {g : Nat → Option α} {r : α} (h : ∀ k, g k = some r) : Evt g r := ⟨0, fun k _ => h k⟩
theorem Evt.pure {α : Type} (r : α) : Evt (fun _ => some r) r := ⟨0, fun _ _ => rfl⟩
theorem Evt.bind {α β : Type} {g : Nat → Option α} {h : α → Nat → Option β} {a : α} {b : β} (h1 : Evt g a) (h2 : Evt (h a) b) : Evt (fun k => (g k).bind fun x => h x k) b := by
  obtain ⟨n, hn⟩ := h1
  obtain ⟨m, hm⟩ := h2
  exact ⟨n + m, fun k hk => by simp only [hn k (by omega), Option.bind_some]; exact hm k (by omega)⟩
theorem Evt.succ {α : Type} {g : Nat → Option α} {r : α} (h : Evt (fun k => g (k + 1)) r) : Evt g r := by
  obtain ⟨n, hn⟩ := h
  refine ⟨n + 1, fun k hk => ?_⟩
  obtain ⟨m, rfl⟩ : ∃ m, k = m + 1 := ⟨k - 1, by omega⟩
  exact hn m (by omega)
theorem Evt.get {α : Type} {g : Nat → Option α} {r : α} (h : Evt g r) : ∃ k, g k = some r := by
  obtain ⟨n, hn⟩ := h
  exact ⟨n, hn n (Nat.le_refl _)⟩
theorem Evt.congr {α : Type} {g g' : Nat → Option α} {r r' : α} (h : Evt g r) (hg : ∀ k, g' k = g k) (hr : r = r') : Evt g' r' := by
  subst hr
  obtain ⟨n, hn⟩ := h
  exact ⟨n, fun k hk => (hg k).trans (hn k hk)⟩
theorem Evt.ite_pos {α : Type} {c : Prop} [Decidable c] {g h : Nat → Option α} {r : α} (hc : c) (hg : Evt g r) : Evt (fun k => if c then g k else h k) r := by
  obtain ⟨n, hn⟩ := hg
  exact ⟨n, fun k hk => (if_pos hc).trans (hn k hk)⟩
theorem Evt.ite_neg {α : Type} {c : Prop} [Decidable c] {g h : Nat → Option α} {r : α} (hc : ¬ c) (hg : Evt h r) : Evt (fun k => if c then g k else h k) r := by
  obtain ⟨n, hn⟩ := hg
  exact ⟨n, fun k hk => (if_neg hc).trans (hn k hk)⟩
theorem Evt.cond {α : Type} {c : Prop} [Decidable c] {g h : Nat → Option α} {r s : α} (hg : c → Evt g r) (hh : ¬ c → Evt h s) : Evt (fun k => if c then g k else h k) (if c then r else s) := by
  by_cases hc : c
  · rw [if_pos hc]; exact Evt.ite_pos hc (hg hc)
  · rw [if_neg hc]; exact Evt.ite_neg hc (hh hc)

theorem Evt.cond' {α : Type} {c : Prop} [Decidable c] {g h : Nat → Option α} {r : α} (hg : c → Evt g r) (hh : ¬ c → Evt h r) : Evt (fun k => if c then g k else h k) r := by
  by_cases hc : c
  · exact Evt.ite_pos hc (hg hc)
  · exact Evt.ite_neg hc (hh hc)

/-! ### Numbers of a machine -/
theorem w64 {x : Int} (h0 : -9223372036854775808 ≤ x) (h1 : x < 9223372036854775808) : wrap64 x = x := by unfold wrap64; omega
theorem wu64 (x : Int) : IntKind.u64.wrap x = x % 18446744073709551616 := by simp [IntKind.wrap, IntKind.bits, IntKind.signed]
theorem wu64_of {x : Int} (h0 : 0 ≤ x) (h1 : x < 18446744073709551616) : IntKind.u64.wrap x = x := by rw [wu64]; omega
theorem wf_u64 {x : Int} (h : (Lit.int .u64 x).wf = true) : 0 ≤ x ∧ x < 18446744073709551616 := by
  simp [Lit.wf, IntKind.min, IntKind.max, IntKind.bits, IntKind.signed] at h
  omega
theorem wf_i64 {x : Int} (h : (Lit.int .i64 x).wf = true) : -9223372036854775808 ≤ x ∧ x < 9223372036854775808 := by
  simp [Lit.wf, IntKind.min, IntKind.max, IntKind.bits, IntKind.signed] at h
  omega
theorem rd_getD (l : List Int) (i : Int) : rd l i = l.getD i.toNat 0 := rfl
theorem rd_nat (l : List Int) (i : Nat) : rd l (i : Int) = l.getD i 0 := rfl

/-! ### Digits -/
/-- The number of digits, the lowest first. -/
def val (B : Int) : List Int → Int
  | [] => 0
  | d :: l => d + B * val B l
/-- All are digits. -/
def Dig (B : Int) (l : List Int) : Prop := ∀ x, x ∈ l → 0 ≤ x ∧ x < B
/-- The last digit is not 0. -/
def Can (l : List Int) : Prop := ∀ h : l ≠ [], l.getLast h ≠ 0
/-- Without noughts behind. -/
def strip : List Int → List Int
  | [] => []
  | d :: l => if strip l = [] then (if d = 0 then [] else [d]) else d :: strip l

theorem Dig.nil {B : Int} : Dig B [] := fun _ h => by simp at h
theorem Dig.cons {B d : Int} {l : List Int} : Dig B (d :: l) ↔ (0 ≤ d ∧ d < B) ∧ Dig B l := by
  unfold Dig
  simp
theorem Dig.append {B : Int} {l m : List Int} : Dig B (l ++ m) ↔ Dig B l ∧ Dig B m := by
  unfold Dig
  constructor
  · intro h
    exact ⟨fun x hx => h x (by simp [hx]), fun x hx => h x (by simp [hx])⟩
  · intro h x hx
    rcases List.mem_append.1 hx with hx | hx
    · exact h.1 x hx
    · exact h.2 x hx
theorem Dig.take {B : Int} {l : List Int} (h : Dig B l) (n : Nat) : Dig B (l.take n) := fun x hx => h x (List.mem_of_mem_take hx)
theorem Dig.drop {B : Int} {l : List Int} (h : Dig B l) (n : Nat) : Dig B (l.drop n) := fun x hx => h x (List.mem_of_mem_drop hx)
theorem Dig.getD {B : Int} {l : List Int} (h : Dig B l) (hB : 0 < B) (i : Nat) : 0 ≤ l.getD i 0 ∧ l.getD i 0 < B := by
  rw [List.getD_eq_getElem?_getD]
  cases he : l[i]? with
  | none => simp; omega
  | some x => simpa using h x (List.mem_of_getElem? he)
theorem Dig.set {B : Int} {l : List Int} (h : Dig B l) (i : Nat) {v : Int} (hv : 0 ≤ v ∧ v < B) : Dig B (l.set i v) := by
  intro x hx
  rcases List.mem_or_eq_of_mem_set hx with hx | rfl
  · exact h x hx
  · exact hv
theorem Dig.replicate {B : Int} (hB : 0 < B) (n : Nat) : Dig B (List.replicate n 0) := by
  intro x hx
  have := List.eq_of_mem_replicate hx
  omega

theorem val_append (B : Int) (l m : List Int) : val B (l ++ m) = val B l + B ^ l.length * val B m := by
  induction l with
  | nil => simp [val]
  | cons d l ih => simp only [List.cons_append, val, ih, List.length_cons, Int.pow_succ]; grind
theorem val_replicate (B : Int) (n : Nat) : val B (List.replicate n 0) = 0 := by
  induction n with
  | zero => rfl
  | succ n ih => simp [List.replicate_succ, val, ih]
theorem val_nonneg {B : Int} (hB : 0 < B) {l : List Int} (h : Dig B l) : 0 ≤ val B l := by
  induction l with
  | nil => simp [val]
  | cons d l ih =>
    have h' := Dig.cons.1 h
    have h1 := ih h'.2
    have : 0 ≤ B * val B l := Int.mul_nonneg (by omega) h1
    simp only [val]
    omega
theorem val_lt {B : Int} (hB : 0 < B) {l : List Int} (h : Dig B l) : val B l < B ^ l.length := by
  induction l with
  | nil => simp [val]
  | cons d l ih =>
    have h' := Dig.cons.1 h
    have h1 := ih h'.2
    have h2 : B * val B l ≤ B * (B ^ l.length - 1) := Int.mul_le_mul_of_nonneg_left (by omega) (by omega)
    have h3 : B * (B ^ l.length - 1) = B * B ^ l.length - B := by grind
    simp only [val, List.length_cons, Int.pow_succ]
    have h4 : B ^ l.length * B = B * B ^ l.length := Int.mul_comm _ _
    omega
theorem Can.nil : Can [] := fun h => absurd rfl h
theorem Can.tail {d : Int} {l : List Int} (h : Can (d :: l)) : Can l := by
  intro hl
  have := h (by simp)
  rwa [List.getLast_cons hl] at this
theorem Can.one {d : Int} (h : d ≠ 0) : Can [d] := fun _ => by simpa using h
theorem Can.cons {d : Int} {l : List Int} (h : Can l) (hl : l ≠ []) : Can (d :: l) := by
  intro _
  rw [List.getLast_cons hl]
  exact h hl
theorem val_pos {B : Int} (hB : 0 < B) {l : List Int} (h : Dig B l) (hc : Can l) (hl : l ≠ []) : B ^ (l.length - 1) ≤ val B l := by
  induction l with
  | nil => exact absurd rfl hl
  | cons d l ih =>
    have h' := Dig.cons.1 h
    by_cases e : l = []
    · subst e
      have := hc (by simp)
      simp [val] at this ⊢
      omega
    · have h1 := ih h'.2 hc.tail e
      have h2 : l.length - 1 + 1 = l.length := by have := List.length_pos_iff.2 e; omega
      simp only [val, List.length_cons, Nat.add_sub_cancel]
      rw [← h2, Int.pow_succ, Int.mul_comm]
      have : B * B ^ (l.length - 1) ≤ B * val B l := Int.mul_le_mul_of_nonneg_left h1 (by omega)
      omega
theorem val_zero {B : Int} (hB : 0 < B) {l : List Int} (h : Dig B l) (hc : Can l) (h0 : val B l = 0) : l = [] := by
  by_cases e : l = []
  · exact e
  · have := val_pos hB h hc e
    have h2 : 0 < B ^ (l.length - 1) := Int.pow_pos hB
    omega
theorem val_inj {B : Int} (hB : 0 < B) {l m : List Int} (hl : Dig B l) (hm : Dig B m) (cl : Can l) (cm : Can m) (h : val B l = val B m) : l = m := by
  induction l generalizing m with
  | nil => exact (val_zero hB hm cm h.symm).symm
  | cons d l ih =>
    cases m with
    | nil => exact val_zero hB hl cl h
    | cons e m =>
      have h1 := Dig.cons.1 hl
      have h2 := Dig.cons.1 hm
      simp only [val] at h
      have h3 : d = e := by
        have a1 : (d + B * val B l) % B = d := by rw [Int.add_mul_emod_self_left]; exact Int.emod_eq_of_lt h1.1.1 h1.1.2
        have a2 : (e + B * val B m) % B = e := by rw [Int.add_mul_emod_self_left]; exact Int.emod_eq_of_lt h2.1.1 h2.1.2
        rw [← a1, ← a2, h]
      subst h3
      have h4 : val B l = val B m := by
        have : B * val B l = B * val B m := by omega
        exact Int.eq_of_mul_eq_mul_left (by omega) this
      rw [ih h1.2 h2.2 cl.tail cm.tail h4]
theorem strip_val (B : Int) (l : List Int) : val B (strip l) = val B l := by
  induction l with
  | nil => rfl
  | cons d l ih =>
    simp only [strip]
    split
    · rename_i h
      rw [h] at ih
      simp only [val] at ih
      split
      · rename_i h0; simp [val, ← ih, h0]
      · simp [val, ← ih]
    · simp [val, ih]
theorem strip_can (l : List Int) : Can (strip l) := by
  induction l with
  | nil => exact Can.nil
  | cons d l ih =>
    simp only [strip]
    split
    · split
      · exact Can.nil
      · rename_i h; exact Can.one h
    · rename_i h; exact ih.cons h
theorem strip_dig {B : Int} {l : List Int} (h : Dig B l) : Dig B (strip l) := by
  induction l with
  | nil => exact Dig.nil
  | cons d l ih =>
    have h' := Dig.cons.1 h
    simp only [strip]
    split
    · split
      · exact Dig.nil
      · exact Dig.cons.2 ⟨h'.1, Dig.nil⟩
    · exact Dig.cons.2 ⟨h'.1, ih h'.2⟩
theorem strip_length (l : List Int) : (strip l).length ≤ l.length := by
  induction l with
  | nil => simp [strip]
  | cons d l ih =>
    simp only [strip]
    split
    · split <;> simp
    · simp; omega
theorem strip_of_can {l : List Int} (h : Can l) : strip l = l := by
  induction l with
  | nil => rfl
  | cons d l ih =>
    simp only [strip]
    rw [ih h.tail]
    split
    · rename_i e
      subst e
      have := h (by simp)
      simp at this
      simp [this]
    · rfl
theorem strip_snoc_zero (l : List Int) : strip (l ++ [0]) = strip l := by
  induction l with
  | nil => simp [strip]
  | cons d l ih => simp only [List.cons_append, strip, ih]
theorem strip_snoc {l : List Int} {d : Int} (h : d ≠ 0) : strip (l ++ [d]) = l ++ [d] := by
  apply strip_of_can
  intro hl
  simpa using h
/-- The number of stripped digits tells them. -/
theorem strip_unique {B : Int} (hB : 0 < B) {l m : List Int} (hl : Dig B l) (hm : Dig B m) (h : val B l = val B m) : strip l = strip m :=
  val_inj hB (strip_dig hl) (strip_dig hm) (strip_can l) (strip_can m) (by rw [strip_val, strip_val, h])
theorem pow_mono {B : Int} (hB : 0 < B) {m n : Nat} (h : m ≤ n) : B ^ m ≤ B ^ n := by
  induction n with
  | zero => have : m = 0 := by omega
            subst this
            exact Int.le_refl _
  | succ n ih =>
    by_cases e : m = n + 1
    · subst e
      exact Int.le_refl _
    · have h1 := ih (by omega)
      have h2 : 0 < B ^ n := Int.pow_pos hB
      have h3 : 1 * B ^ n ≤ B * B ^ n := Int.mul_le_mul_of_nonneg_right (by omega) (by omega)
      rw [Int.pow_succ, Int.mul_comm]
      omega
/-- Longer numbers are greater. -/
theorem val_lt_of_length {B : Int} (hB : 0 < B) {l m : List Int} (hl : Dig B l) (hm : Dig B m) (cm : Can m) (h : l.length < m.length) : val B l < val B m := by
  have h1 := val_lt hB hl
  have h2 := val_pos hB hm cm (by intro e; subst e; simp at h)
  have h3 : B ^ l.length ≤ B ^ (m.length - 1) := pow_mono hB (by omega)
  omega
/-- Are limbs a number's? -/
def rightB (l : List Int) : Bool := decide (l.length ≤ 64) && ((l.length == 0) || (l.getD (l.length - 1) 0 != 0))
theorem can_iff (l : List Int) : Can l ↔ ((l.length == 0) || (l.getD (l.length - 1) 0 != 0)) = true := by
  cases l with
  | nil => simp [Can]
  | cons d l =>
    have h : (d :: l).getLast (by simp) = (d :: l).getD ((d :: l).length - 1) 0 := by
      rw [List.getLast_eq_getElem]
      simp
    unfold Can
    simp only [List.length_cons, Nat.add_one_ne_zero, beq_iff_eq, Bool.or_eq_true, bne_iff_ne, false_or]
    constructor
    · intro hc
      have := hc (by simp)
      rw [h] at this
      exact this
    · intro hc _
      rw [h]
      exact hc
theorem rightB_iff (l : List Int) : rightB l = true ↔ l.length ≤ 64 ∧ Can l := by
  unfold rightB
  rw [Bool.and_eq_true, decide_eq_true_iff, ← can_iff]
/-- A number as a small one. -/
def smallV (l : List Int) : Int × Bool := if rightB l = true ∧ l.length ≤ 1 then (l.getD 0 0, true) else (0, false)
end Go.Proofs.Ytikfgeieaadeiad.Z

namespace Go.Proofs.Ytikfgeieaadeiad.Z
open Go.RowKit Go.Proofs.Ytikfgeieaadeiad.F Go.Proofs.YtikfgeieaadeiadW.PrintWords
set_option linter.unusedSimpArgs false
set_option linter.unusedVariables false
theorem few_loop (ls : List (List Int)) (h : ls.length ≤ maxLen) (d : Nat) : ∀ i : Nat, i ≤ ls.length → ls.length - i = d → Evt (fun k => windbreaklaw01_few.l0 k ls (i : Int)) ((ls.drop i).all fun a => decide (a.length ≤ 70)) := by
  unfold maxLen at h
  induction d with
  | zero =>
    intro i hi hd
    refine Evt.succ ?_
    simp only [windbreaklaw01_few.l0]
    refine Evt.ite_neg (by omega) ?_
    rw [show ls.drop i = [] from List.drop_of_length_le (by omega)]
    exact Evt.pure _
  | succ d ih =>
    intro i hi hd
    have hlt : i < ls.length := by omega
    refine Evt.succ ?_
    simp only [windbreaklaw01_few.l0]
    refine Evt.ite_pos (by omega) (Evt.ite_pos (by omega) ?_)
    have hx : rd_L1 ls (i : Int) = ls[i] := by simp [rd_L1, hlt]
    rw [hx, List.drop_eq_getElem_cons hlt, List.all_cons]
    by_cases h70 : ls[i].length ≤ 70
    · refine Evt.ite_neg (by omega) ?_
      rw [w64 (by omega) (by omega)]
      have := ih (i + 1) (by omega) (by omega)
      refine this.congr (fun k => rfl) ?_
      rw [decide_eq_true h70, Bool.true_and]
    · refine Evt.ite_pos (by omega) ?_
      rw [decide_eq_false h70, Bool.false_and]
      exact Evt.pure _
theorem few_ev (ls : List (List Int)) (h : ls.length ≤ maxLen) : Evt (fun k => windbreaklaw01_few.f k ls) (ls.all fun a => decide (a.length ≤ 70)) := by
  have := few_loop ls h ls.length 0 (Nat.zero_le _) (by omega)
  exact this.congr (fun k => rfl) (by simp)
end Go.Proofs.Ytikfgeieaadeiad.Z

namespace Go.Proofs.Ytikfgeieaadeiad.Z
open Go.RowKit Go.Proofs.YtikfgeieaadeiadW.PrintWords
set_option linter.unusedSimpArgs false
set_option linter.unusedVariables false

/-! ### The digits of a number -/
def toD (B : Nat) (v : Nat) : List Int := if h : 2 ≤ B ∧ 0 < v then ((v % B : Nat) : Int) :: toD B (v / B) else []
termination_by v
decreasing_by exact Nat.div_lt_self h.2 (by omega)
theorem toD_zero (B : Nat) : toD B 0 = [] := by rw [toD]; simp
theorem toD_pos {B v : Nat} (hB : 2 ≤ B) (hv : 0 < v) : toD B v = ((v % B : Nat) : Int) :: toD B (v / B) := by rw [toD]; simp [hB, hv]
theorem toD_dig {B : Nat} (hB : 2 ≤ B) (v : Nat) : Dig (B : Int) (toD B v) := by
  induction v using Nat.strongRecOn with
  | _ v ih =>
    by_cases hv : v = 0
    · subst hv; rw [toD_zero]; exact Dig.nil
    · rw [toD_pos hB (by omega)]
      have := Nat.mod_lt v (show B > 0 by omega)
      exact Dig.cons.2 ⟨by omega, ih _ (Nat.div_lt_self (by omega) (by omega))⟩
theorem toD_eq_nil {B v : Nat} (hB : 2 ≤ B) : toD B v = [] ↔ v = 0 := by
  constructor
  · intro h
    by_cases hv : v = 0
    · exact hv
    · rw [toD_pos hB (by omega)] at h; cases h
  · rintro rfl; exact toD_zero B
theorem toD_can {B : Nat} (hB : 2 ≤ B) (v : Nat) : Can (toD B v) := by
  induction v using Nat.strongRecOn with
  | _ v ih =>
    by_cases hv : v = 0
    · subst hv; rw [toD_zero]; exact Can.nil
    · rw [toD_pos hB (by omega)]
      by_cases hq : v / B = 0
      · rw [hq, toD_zero]
        have hlt : v < B := (Nat.div_eq_zero_iff_lt (by omega)).1 hq
        rw [Nat.mod_eq_of_lt hlt]
        exact Can.one (by omega)
      · exact (ih _ (Nat.div_lt_self (by omega) (by omega))).cons (fun e => hq ((toD_eq_nil hB).1 e))
theorem val_toD {B : Nat} (hB : 2 ≤ B) (v : Nat) : val (B : Int) (toD B v) = (v : Int) := by
  induction v using Nat.strongRecOn with
  | _ v ih =>
    by_cases hv : v = 0
    · subst hv; rw [toD_zero]; rfl
    · rw [toD_pos hB (by omega)]
      simp only [val]
      rw [ih _ (Nat.div_lt_self (by omega) (by omega))]
      have h2 := Nat.mod_add_div v B
      have h3 : ((v % B + B * (v / B) : Nat) : Int) = (v : Int) := by rw [h2]
      simpa using h3
/-- What all noughts are taken off is the digits of the number. -/
theorem strip_toD {B : Nat} (hB : 2 ≤ B) {l : List Int} (h : Dig (B : Int) l) : strip l = toD B (val (B : Int) l).toNat := by
  have h0 : (0 : Int) < (B : Int) := by omega
  refine val_inj h0 (strip_dig h) (toD_dig hB _) (strip_can l) (toD_can hB _) ?_
  rw [strip_val, val_toD hB]
  have := val_nonneg h0 h
  omega
theorem can_toD {B : Nat} (hB : 2 ≤ B) {l : List Int} (h : Dig (B : Int) l) (hc : Can l) : l = toD B (val (B : Int) l).toNat := by
  rw [← strip_toD hB h, strip_of_can hc]
theorem pow_cast (B n : Nat) : ((B : Int)) ^ n = ((B ^ n : Nat) : Int) := by simp
theorem toD_len_le {B : Nat} (hB : 2 ≤ B) {v n : Nat} (h : v < B ^ n) : (toD B v).length ≤ n := by
  by_cases hv : v = 0
  · subst hv; rw [toD_zero]; simp
  · have h1 := val_pos (show (0 : Int) < (B : Int) by omega) (toD_dig hB v) (toD_can hB v) (fun e => hv ((toD_eq_nil hB).1 e))
    rw [val_toD hB, pow_cast] at h1
    have h2 : B ^ ((toD B v).length - 1) ≤ v := by omega
    have h3 : B ^ ((toD B v).length - 1) < B ^ n := by omega
    have h4 := (Nat.pow_lt_pow_iff_right (show 1 < B by omega)).1 h3
    omega
theorem toD_lt_pow {B : Nat} (hB : 2 ≤ B) (v : Nat) : v < B ^ (toD B v).length := by
  have h1 := val_lt (show (0 : Int) < (B : Int) by omega) (toD_dig hB v)
  rw [val_toD hB, pow_cast] at h1
  omega
theorem toD_len_iff {B : Nat} (hB : 2 ≤ B) (v n : Nat) : (toD B v).length ≤ n ↔ v < B ^ n :=
  ⟨fun h => Nat.lt_of_lt_of_le (toD_lt_pow hB v) (Nat.pow_le_pow_right (by omega) h), toD_len_le hB⟩

/-! ### Two bases: limbs of 64 bits, digits of 16 -/
def b64 : Nat := 18446744073709551616
def b16 : Nat := 65536
theorem b64_two : 2 ≤ b64 := by decide
theorem b16_two : 2 ≤ b16 := by decide
theorem b64_pow : b64 = b16 ^ 4 := by decide
/-- The number of limbs. -/
def num (l : List Int) : Nat := (val (b64 : Int) l).toNat
def num16 (l : List Int) : Nat := (val (b16 : Int) l).toNat
abbrev limbs (v : Nat) : List Int := toD b64 v
abbrev digs (v : Nat) : List Int := toD b16 v
theorem b64_pos : (0 : Int) < (b64 : Int) := by decide
theorem b16_pos : (0 : Int) < (b16 : Int) := by decide
theorem num_val {l : List Int} (h : Dig (b64 : Int) l) : (num l : Int) = val (b64 : Int) l := by
  have := val_nonneg b64_pos h
  unfold num; omega
theorem num16_val {l : List Int} (h : Dig (b16 : Int) l) : (num16 l : Int) = val (b16 : Int) l := by
  have := val_nonneg b16_pos h
  unfold num16; omega
theorem num_limbs (v : Nat) : num (limbs v) = v := by unfold num limbs; rw [val_toD b64_two]; omega
theorem num16_digs (v : Nat) : num16 (digs v) = v := by unfold num16 digs; rw [val_toD b16_two]; omega
theorem limbs_num {l : List Int} (h : Dig (b64 : Int) l) (hc : Can l) : limbs (num l) = l := (can_toD b64_two h hc).symm
theorem digs_num {l : List Int} (h : Dig (b16 : Int) l) (hc : Can l) : digs (num16 l) = l := (can_toD b16_two h hc).symm
theorem strip_limbs {l : List Int} (h : Dig (b64 : Int) l) : strip l = limbs (num l) := strip_toD b64_two h
theorem strip_digs {l : List Int} (h : Dig (b16 : Int) l) : strip l = digs (num16 l) := strip_toD b16_two h
theorem limbs_inj {v w : Nat} (h : limbs v = limbs w) : v = w := by rw [← num_limbs v, h, num_limbs]
theorem dig_of_wf {l : List Int} (h : ∀ x ∈ l, (Lit.int .u64 x).wf = true) : Dig (b64 : Int) l := fun x hx => wf_u64 (h x hx)
theorem num_lt {l : List Int} (h : Dig (b64 : Int) l) : num l < b64 ^ l.length := by
  have h1 := val_lt b64_pos h
  rw [← num_val h, pow_cast] at h1
  omega
theorem num16_lt {l : List Int} (h : Dig (b16 : Int) l) : num16 l < b16 ^ l.length := by
  have h1 := val_lt b16_pos h
  rw [← num16_val h, pow_cast] at h1
  omega
theorem num_nil : num [] = 0 := rfl
theorem num_one {x : Int} (h : 0 ≤ x) : num [x] = x.toNat := by simp [num, val]
theorem num16_nil : num16 [] = 0 := rfl
theorem num_cons {d : Int} {l : List Int} (h : Dig (b64 : Int) (d :: l)) : num (d :: l) = d.toNat + b64 * num l := by
  have h1 := Dig.cons.1 h
  have h2 := num_val h
  have h3 := num_val h1.2
  have h4 : ((d.toNat + b64 * num l : Nat) : Int) = d + (b64 : Int) * val (b64 : Int) l := by
    rw [← h3]; simp; omega
  have h5 : val (b64 : Int) (d :: l) = d + (b64 : Int) * val (b64 : Int) l := rfl
  omega
/-- No number of ours comes to that. -/
def thousand : Nat := 1000
def lim : Nat := b64 ^ thousand
theorem lim_pow {n : Nat} (h : n ≤ 1000) : b64 ^ n ≤ lim := Nat.pow_le_pow_right (by decide) (show n ≤ thousand from h)
theorem pow_lt_lim {n : Nat} (h : n < 1000) : b64 ^ n + b64 ^ n ≤ lim := by
  have h1 : b64 ^ (n + 1) ≤ lim := lim_pow h
  have h2 : b64 ^ n * 2 ≤ b64 ^ n * b64 := Nat.mul_le_mul_left _ b64_two
  rw [Nat.pow_succ] at h1
  omega
theorem num_lt_lim {l : List Int} (h : Dig (b64 : Int) l) (hl : l.length ≤ 1000) : num l < lim := Nat.lt_of_lt_of_le (num_lt h) (lim_pow hl)
theorem digs_len {v : Nat} (hv : v < lim) : (digs v).length ≤ 4000 := by
  have h : lim = b16 ^ (4 * thousand) := by
    unfold lim
    rw [b64_pow, ← Nat.pow_mul]
  rw [h] at hv
  have h2 := toD_len_le b16_two hv
  exact Nat.le_trans h2 (by decide)
theorem b64_pow2 (m : Nat) : b64 ^ m = 2 ^ (64 * m) := by
  have h : b64 = 2 ^ 64 := by decide
  rw [h, ← Nat.pow_mul]
theorem pow2_le_b64 {n m : Nat} (h : n ≤ 64 * m) : 2 ^ n ≤ b64 ^ m := by
  rw [b64_pow2]
  exact Nat.pow_le_pow_right (by decide) h
theorem b64_le_pow2 {n m : Nat} (h : 64 * m ≤ n) : b64 ^ m ≤ 2 ^ n := by
  rw [b64_pow2]
  exact Nat.pow_le_pow_right (by decide) h
theorem num_lt_p {a : List Int} (da : Dig (b64 : Int) a) (ha : a.length ≤ 64) : num a < b64 ^ 64 := Nat.lt_of_lt_of_le (num_lt da) (Nat.pow_le_pow_right (show b64 > 0 by decide) ha)
/-- Three ways. -/
def cmpN (x y : Nat) : Int := if x < y then -1 else if x = y then 0 else 1
/-- Too long an answer. -/
def toldV (v : Nat) : List Int × Int := if v < b64 ^ 64 then (limbs v, 0) else ([], 4)
theorem limbs_long (v : Nat) : (limbs v).length ≤ 64 ↔ v < b64 ^ 64 := toD_len_iff b64_two v 64
/-- The number of what a number's digits are, limb by limb. -/
theorem val_base (l : List Int) (hl : Dig (b64 : Int) l) : ∃ m, Dig (b16 : Int) m ∧ m.length = 4 * l.length ∧ val (b16 : Int) m = val (b64 : Int) l ∧ m = l.flatMap (fun x => [x % 65536, x / 65536 % 65536, x / 65536 / 65536 % 65536, x / 65536 / 65536 / 65536 % 65536]) := by
  induction l with
  | nil => exact ⟨[], Dig.nil, rfl, rfl, rfl⟩
  | cons d l ih =>
    have h1 := Dig.cons.1 hl
    obtain ⟨m, hm, hlen, hv, he⟩ := ih h1.2
    refine ⟨[d % 65536, d / 65536 % 65536, d / 65536 / 65536 % 65536, d / 65536 / 65536 / 65536 % 65536] ++ m, ?_, ?_, ?_, ?_⟩
    · refine Dig.append.2 ⟨?_, hm⟩
      intro x hx
      simp only [List.mem_cons, List.not_mem_nil, or_false] at hx
      simp only [b16]
      omega
    · simp only [List.length_append, List.length_cons, List.length_nil, hlen]; omega
    · rw [val_append, hv]
      have h2 := h1.1
      simp only [b64] at h2 ⊢
      simp only [val, b16, List.length_cons, List.length_nil]
      omega
    · simp only [List.flatMap_cons, ← he]
end Go.Proofs.Ytikfgeieaadeiad.Z

namespace Go.Proofs.Ytikfgeieaadeiad.Z
open Go.RowKit Go.Proofs.Ytikfgeieaadeiad.F Go.Proofs.YtikfgeieaadeiadW.PrintWords
set_option linter.unusedSimpArgs false
set_option linter.unusedVariables false
theorem set_at {α : Type} (p : List α) (x v : α) (r : List α) : (p ++ x :: r).set p.length v = p ++ v :: r := by simp
end Go.Proofs.Ytikfgeieaadeiad.Z

namespace Go.Proofs.Ytikfgeieaadeiad.Z
open Go.RowKit Go.Proofs.Ytikfgeieaadeiad.F Go.Proofs.YtikfgeieaadeiadW.PrintWords Go.Proofs.YtikfgeieaadeiadW.PrintMore
set_option linter.unusedSimpArgs false
set_option linter.unusedVariables false
theorem val_set (B : Int) (l : List Int) : ∀ (i : Nat) (v : Int), i < l.length → val B (l.set i v) = val B l + B ^ i * (v - l.getD i 0) := by
  induction l with
  | nil => intro i v h; simp at h
  | cons d l ih =>
    intro i v h
    cases i with
    | zero => simp [val]; omega
    | succ i =>
      have h2 := ih i v (by simpa using h)
      simp only [List.set_cons_succ, val, h2, Int.pow_succ, List.getD_cons_succ]
      generalize l.getD i 0 = y
      generalize B ^ i = P
      generalize val B l = V
      grind
theorem dig_append_zero {B : Int} (hB : 0 < B) {l : List Int} (h : Dig B l) (n : Nat) : Dig B (l ++ List.replicate n 0) := Dig.append.2 ⟨h, Dig.replicate hB n⟩
theorem val_append_zero (B : Int) (l : List Int) (n : Nat) : val B (l ++ List.replicate n 0) = val B l := by rw [val_append, val_replicate, Int.mul_zero, Int.add_zero]
theorem getD_append_left {l m : List Int} {i : Nat} (h : i < l.length) : (l ++ m).getD i 0 = l.getD i 0 := by
  simp [List.getD_eq_getElem?_getD, List.getElem?_append_left h]
theorem set_append_left {l m : List Int} {i : Nat} {v : Int} (h : i < l.length) : (l ++ m).set i v = l.set i v ++ m := by
  rw [List.set_append, if_pos h]
theorem val_take_step (B : Int) (l : List Int) (i : Nat) (h : i < l.length) : val B (l.take (i + 1)) = val B (l.take i) + B ^ i * l[i] := by
  rw [List.take_succ_eq_append_getElem h, val_append]
  simp only [val, List.length_take]
  rw [show min i l.length = i from by omega, Int.mul_zero, Int.add_zero]
/-! ### Bits -/
theorem wraps_u64 (n : Int) (h0 : 0 ≤ n) (h1 : n < 2 ^ 64) : IntKind.u64.wrap n = n := wu64_of h0 (by omega)
theorem or_u64 {x y : Int} (s : Nat) (hs : s ≤ 64) (hx0 : 0 ≤ x) (hx : x % 2 ^ s = 0) (hx1 : x < 18446744073709551616) (hy0 : 0 ≤ y) (hy : y < 2 ^ s) : Go.bits .or .u64 x y = x + y := by
  have h2 : (2 : Int) ^ s ≤ 2 ^ 64 := pow_mono (by omega) hs
  exact bits_join .u64 64 (by decide) wraps_u64 s x y hx0 hx (by omega) hy0 hy (by omega)
theorem or_comm_u64 {x y : Int} (hx0 : 0 ≤ x) (hx1 : x < 18446744073709551616) (hy0 : 0 ≤ y) (hy1 : y < 18446744073709551616) : Go.bits .or .u64 x y = Go.bits .or .u64 y x := by
  obtain ⟨a, rfl⟩ := Int.eq_ofNat_of_zero_le hx0
  obtain ⟨b, rfl⟩ := Int.eq_ofNat_of_zero_le hy0
  rw [(bits_nat .u64 64 (by decide) wraps_u64 a b (by omega) (by omega)).2, (bits_nat .u64 64 (by decide) wraps_u64 b a (by omega) (by omega)).2, Nat.or_comm]
theorem shl_u64 (x : Int) (s : Nat) (hs : s ≤ 64) : shl .u64 x (s : Int) = (x * 2 ^ s) % 18446744073709551616 := by
  unfold shl
  rw [wu64]
  simp only [IntKind.bits, Int.toNat_natCast]
  rw [show min s 64 = s from by omega]
theorem shr_u64 (x : Int) (s : Nat) (hs : s ≤ 64) : shr .u64 x (s : Int) = x / 2 ^ s := by
  unfold shr
  simp only [IntKind.bits, Int.toNat_natCast]
  rw [show min s 64 = s from by omega]
theorem pow64_split {s : Nat} (hs : s ≤ 64) : (2 : Int) ^ s * 2 ^ (64 - s) = 18446744073709551616 := by
  rw [← Int.pow_add, show s + (64 - s) = 64 from by omega]
  decide
theorem pow2_pos (s : Nat) : (0 : Int) < 2 ^ s := Int.pow_pos (by omega)
/-- What a limb's bits, moved up, leave in the limb. -/
theorem shl_facts {x : Int} (hx : 0 ≤ x ∧ x < 18446744073709551616) {s : Nat} (hs : s ≤ 64) :
    (x * 2 ^ s) % 18446744073709551616 + 18446744073709551616 * (x / 2 ^ (64 - s)) = x * 2 ^ s ∧ ((x * 2 ^ s) % 18446744073709551616) % 2 ^ s = 0 ∧ 0 ≤ x / 2 ^ (64 - s) ∧ x / 2 ^ (64 - s) < 2 ^ s := by
  have hp := pow64_split hs
  have h1 := pow2_pos s
  have h2 := pow2_pos (64 - s)
  generalize (2 : Int) ^ s = P at *
  generalize (2 : Int) ^ (64 - s) = Q at *
  have h3 : (x * P) / 18446744073709551616 = x / Q := by
    rw [← hp, Int.mul_comm x P, Int.mul_ediv_mul_of_pos _ _ h1]
  refine ⟨?_, ?_, Int.ediv_nonneg hx.1 (by omega), ?_⟩
  · have := Int.emod_add_mul_ediv (x * P) 18446744073709551616
    rw [h3] at this
    exact this
  · rw [← hp]
    have := Int.mul_emod_mul_of_pos (a := P) x Q h1
    rw [Int.mul_comm x P, this]
    exact Int.mul_emod_right P _
  · apply Int.ediv_lt_of_lt_mul h2
    rw [hp]
    exact hx.2
end Go.Proofs.Ytikfgeieaadeiad.Z

namespace Go.Proofs.Ytikfgeieaadeiad.Z
open Go.RowKit Go.Proofs.YtikfgeieaadeiadW.PrintWords
set_option linter.unusedSimpArgs false
set_option linter.unusedVariables false
/-- How many bits. -/
def bl (n : Nat) : Nat := if n = 0 then 0 else n.log2 + 1
theorem bl_zero : bl 0 = 0 := rfl
theorem bl_lt (n : Nat) : n < 2 ^ bl n := by
  unfold bl
  by_cases h : n = 0
  · subst h; decide
  · rw [if_neg h]; exact Nat.lt_log2_self
theorem bl_ge {n : Nat} (h : n ≠ 0) : 2 ^ (bl n - 1) ≤ n := by
  unfold bl
  rw [if_neg h, Nat.add_sub_cancel]
  exact Nat.log2_self_le h
theorem bl_pos {n : Nat} (h : n ≠ 0) : 0 < bl n := by unfold bl; rw [if_neg h]; omega
theorem bl_unique {n m : Nat} (h1 : n < 2 ^ m) (h2 : m = 0 ∨ 2 ^ (m - 1) ≤ n) : bl n = m := by
  by_cases h : n = 0
  · subst h
    rcases h2 with h2 | h2
    · rw [h2]; rfl
    · have := Nat.pow_pos (a := 2) (n := m - 1) (by decide)
      omega
  · have a1 := bl_lt n
    have a2 := bl_ge h
    have a3 := bl_pos h
    have hm : 0 < m := by
      by_cases e : m = 0
      · subst e; simp at h1; omega
      · omega
    have b1 : bl n - 1 < m := (Nat.pow_lt_pow_iff_right (a := 2) (by decide)).1 (by omega)
    have b2 : m - 1 < bl n := by
      rcases h2 with h2 | h2
      · omega
      · exact (Nat.pow_lt_pow_iff_right (a := 2) (by decide)).1 (by omega)
    omega
theorem bl_shift (n s : Nat) (h : n / 2 ^ s ≠ 0) : bl n = s + bl (n / 2 ^ s) := by
  have a1 := bl_lt (n / 2 ^ s)
  have a2 := bl_ge h
  have a3 := bl_pos h
  have hp : 0 < 2 ^ s := Nat.pow_pos (by decide)
  refine bl_unique ?_ (Or.inr ?_)
  · rw [Nat.pow_add]
    have := Nat.lt_mul_of_div_lt a1 hp
    rw [Nat.mul_comm]
    exact this
  · rw [show s + bl (n / 2 ^ s) - 1 = s + (bl (n / 2 ^ s) - 1) from by omega, Nat.pow_add]
    have := Nat.mul_le_mul_left (2 ^ s) a2
    exact Nat.le_trans this (Nat.mul_div_le n (2 ^ s))
theorem bl_half {n : Nat} (h : n ≠ 0) : bl n = bl (n / 2) + 1 := by
  by_cases h1 : n / 2 = 0
  · have : n = 1 := by omega
    subst this
    decide
  · have := bl_shift n 1 (by simpa using h1)
    simp only [Nat.pow_one] at this
    omega
theorem bl_le {x m : Nat} (h : x < 2 ^ m) : bl x ≤ m := by
  by_cases hx : x = 0
  · subst hx; exact Nat.zero_le _
  · have a2 := bl_ge hx
    have a3 := bl_pos hx
    have : bl x - 1 < m := (Nat.pow_lt_pow_iff_right (a := 2) (by decide)).1 (by omega)
    omega
theorem bl_le8 {x : Nat} (h : x < 256) : bl x ≤ 8 := bl_le h
/-- The bits of a number. -/
def bitsV (a : List Int) : Int := if rightB a = true ∧ a.length ≠ 0 then 64 * ((a.length : Int) - 1) + ((bl (a.getD (a.length - 1) 0).toNat : Nat) : Int) else 0
end Go.Proofs.Ytikfgeieaadeiad.Z

namespace Go.Proofs.Ytikfgeieaadeiad.Z
open Go.RowKit Go.Proofs.Ytikfgeieaadeiad.F Go.Proofs.YtikfgeieaadeiadW.PrintWords
set_option linter.unusedSimpArgs false
set_option linter.unusedVariables false
theorem len8 : ∀ n : Fin 256, bt (⟨#[0, 1, 2, 2, 3, 3, 3, 3, 4, 4, 4, 4, 4, 4, 4, 4, 5, 5, 5, 5, 5, 5, 5, 5, 5, 5, 5, 5, 5, 5, 5, 5, 6, 6, 6, 6, 6, 6, 6, 6, 6, 6, 6, 6, 6, 6, 6, 6, 6, 6, 6, 6, 6, 6, 6, 6, 6, 6, 6, 6, 6, 6, 6, 6, 7, 7, 7, 7, 7, 7, 7, 7, 7, 7, 7, 7, 7, 7, 7, 7, 7, 7, 7, 7, 7, 7, 7, 7, 7, 7, 7, 7, 7, 7, 7, 7, 7, 7, 7, 7, 7, 7, 7, 7, 7, 7, 7, 7, 7, 7, 7, 7, 7, 7, 7, 7, 7, 7, 7, 7, 7, 7, 7, 7, 7, 7, 7, 7, 8, 8, 8, 8, 8, 8, 8, 8, 8, 8, 8, 8, 8, 8, 8, 8, 8, 8, 8, 8, 8, 8, 8, 8, 8, 8, 8, 8, 8, 8, 8, 8, 8, 8, 8, 8, 8, 8, 8, 8, 8, 8, 8, 8, 8, 8, 8, 8, 8, 8, 8, 8, 8, 8, 8, 8, 8, 8, 8, 8, 8, 8, 8, 8, 8, 8, 8, 8, 8, 8, 8, 8, 8, 8, 8, 8, 8, 8, 8, 8, 8, 8, 8, 8, 8, 8, 8, 8, 8, 8, 8, 8, 8, 8, 8, 8, 8, 8, 8, 8, 8, 8, 8, 8, 8, 8, 8, 8, 8, 8, 8, 8, 8, 8, 8, 8, 8, 8, 8, 8, 8, 8, 8, 8, 8, 8, 8, 8]⟩ : ByteArray) ((n.val : Nat) : Int) = ((bl n.val : Nat) : Int) := by decide +kernel
theorem len8_at {x : Int} (h0 : 0 ≤ x) (h1 : x < 256) : bt (⟨#[0, 1, 2, 2, 3, 3, 3, 3, 4, 4, 4, 4, 4, 4, 4, 4, 5, 5, 5, 5, 5, 5, 5, 5, 5, 5, 5, 5, 5, 5, 5, 5, 6, 6, 6, 6, 6, 6, 6, 6, 6, 6, 6, 6, 6, 6, 6, 6, 6, 6, 6, 6, 6, 6, 6, 6, 6, 6, 6, 6, 6, 6, 6, 6, 7, 7, 7, 7, 7, 7, 7, 7, 7, 7, 7, 7, 7, 7, 7, 7, 7, 7, 7, 7, 7, 7, 7, 7, 7, 7, 7, 7, 7, 7, 7, 7, 7, 7, 7, 7, 7, 7, 7, 7, 7, 7, 7, 7, 7, 7, 7, 7, 7, 7, 7, 7, 7, 7, 7, 7, 7, 7, 7, 7, 7, 7, 7, 7, 8, 8, 8, 8, 8, 8, 8, 8, 8, 8, 8, 8, 8, 8, 8, 8, 8, 8, 8, 8, 8, 8, 8, 8, 8, 8, 8, 8, 8, 8, 8, 8, 8, 8, 8, 8, 8, 8, 8, 8, 8, 8, 8, 8, 8, 8, 8, 8, 8, 8, 8, 8, 8, 8, 8, 8, 8, 8, 8, 8, 8, 8, 8, 8, 8, 8, 8, 8, 8, 8, 8, 8, 8, 8, 8, 8, 8, 8, 8, 8, 8, 8, 8, 8, 8, 8, 8, 8, 8, 8, 8, 8, 8, 8, 8, 8, 8, 8, 8, 8, 8, 8, 8, 8, 8, 8, 8, 8, 8, 8, 8, 8, 8, 8, 8, 8, 8, 8, 8, 8, 8, 8, 8, 8, 8, 8, 8, 8]⟩ : ByteArray) x = ((bl x.toNat : Nat) : Int) := by
  obtain ⟨n, rfl⟩ := Int.eq_ofNat_of_zero_le h0
  exact len8 ⟨n, by omega⟩
set_option maxRecDepth 100000 in
theorem len64_j {x : Int} (h0 : 0 ≤ x) (h1 : x < 4294967296) (c : Int) (hc : 0 ≤ c ∧ c ≤ 1000) : Evt (fun k => bits_Len64.j0 k x c) (c + ((bl x.toNat : Nat) : Int)) := by
  have key : ∀ (s : Nat) (y : Int), 0 ≤ y → y < 256 → (s ≤ 24) → (y = 0 → s = 0) → y = x / 2 ^ s → ((bl x.toNat : Nat) : Int) = (s : Int) + ((bl y.toNat : Nat) : Int) := by
    intro s y hy0 hy1 hs hz he
    have : bl x.toNat = s + bl y.toNat := by
      by_cases h : y = 0
      · have hs0 := hz h
        subst hs0
        simp at he
        rw [he, Nat.zero_add]
      · have e : y.toNat = x.toNat / 2 ^ s := by
          rw [he]
          have h2 : x = ((x.toNat : Nat) : Int) := by omega
          rw [h2]
          have h3 : ((2 : Int) ^ s) = ((2 ^ s : Nat) : Int) := by simp
          rw [h3, ← Int.natCast_ediv, Int.toNat_natCast, Int.toNat_natCast]
        rw [e]
        exact bl_shift x.toNat s (by rw [← e]; omega)
    omega
  refine Evt.succ ?_
  simp only [bits_Len64.j0]
  by_cases c1 : x ≥ 65536
  · refine Evt.ite_pos c1 ?_
    by_cases c2 : x / 65536 ≥ 256
    · refine Evt.ite_pos c2 (Evt.ite_pos (by omega) (Evt.ite_pos (by omega) ?_))
      have e : x / 65536 / 256 % 256 = x / 65536 / 256 := by omega
      rw [e, len8_at (by omega) (by omega)]
      have k1 := key 24 (x / 65536 / 256) (by omega) (by omega) (by omega) (by omega) (by rw [Int.ediv_ediv_of_nonneg (by omega)]; rfl)
      have k2 := bl_le8 (x := (x / 65536 / 256).toNat) (by omega)
      rw [w64 (show -9223372036854775808 ≤ c + 16 by omega) (by omega), w64 (show -9223372036854775808 ≤ c + 16 + 8 by omega) (by omega), w64 (show -9223372036854775808 ≤ ((bl (x / 65536 / 256).toNat : Nat) : Int) by omega) (by omega), w64 (by omega) (by omega), k1]
      refine (Evt.pure _).congr (fun k => rfl) (by omega)
    · refine Evt.ite_neg c2 (Evt.ite_pos (by omega) (Evt.ite_pos (by omega) ?_))
      have e : x / 65536 % 256 = x / 65536 := by omega
      rw [e, len8_at (by omega) (by omega)]
      have k1 := key 16 (x / 65536) (by omega) (by omega) (by omega) (by omega) rfl
      have k2 := bl_le8 (x := (x / 65536).toNat) (by omega)
      rw [w64 (show -9223372036854775808 ≤ c + 16 by omega) (by omega), w64 (show -9223372036854775808 ≤ ((bl (x / 65536).toNat : Nat) : Int) by omega) (by omega), w64 (by omega) (by omega), k1]
      refine (Evt.pure _).congr (fun k => rfl) (by omega)
  · refine Evt.ite_neg c1 ?_
    by_cases c2 : x ≥ 256
    · refine Evt.ite_pos c2 (Evt.ite_pos (by omega) (Evt.ite_pos (by omega) ?_))
      have e : x / 256 % 256 = x / 256 := by omega
      rw [e, len8_at (by omega) (by omega)]
      have k1 := key 8 (x / 256) (by omega) (by omega) (by omega) (by omega) rfl
      have k2 := bl_le8 (x := (x / 256).toNat) (by omega)
      rw [w64 (show -9223372036854775808 ≤ c + 8 by omega) (by omega), w64 (show -9223372036854775808 ≤ ((bl (x / 256).toNat : Nat) : Int) by omega) (by omega), w64 (by omega) (by omega), k1]
      refine (Evt.pure _).congr (fun k => rfl) (by omega)
    · refine Evt.ite_neg c2 (Evt.ite_pos (by omega) (Evt.ite_pos (by omega) ?_))
      have e : x % 256 = x := by omega
      rw [e, len8_at (by omega) (by omega)]
      have k2 := bl_le8 (x := x.toNat) (by omega)
      rw [w64 (show -9223372036854775808 ≤ ((bl x.toNat : Nat) : Int) by omega) (by omega), w64 (by omega) (by omega)]
      exact Evt.pure _
theorem bits_Len64_ev {x : Int} (h0 : 0 ≤ x) (h1 : x < 18446744073709551616) : Evt (fun k => bits_Len64.f k x) ((bl x.toNat : Nat) : Int) := by
  unfold bits_Len64.f
  by_cases c1 : x ≥ 4294967296
  · refine Evt.ite_pos c1 ?_
    refine (len64_j (x := x / 4294967296) (by omega) (by omega) 32 (by omega)).congr (fun k => rfl) ?_
    have e : (x / 4294967296).toNat = x.toNat / 2 ^ 32 := by omega
    have := bl_shift x.toNat 32 (by omega)
    rw [e]
    omega
  · refine Evt.ite_neg c1 ?_
    exact (len64_j (x := x) (by omega) (by omega) 0 (by omega)).congr (fun k => rfl) (by omega)
end Go.Proofs.Ytikfgeieaadeiad.Z

namespace Go.Proofs.Ytikfgeieaadeiad.Z
open Go.RowKit Go.Proofs.Ytikfgeieaadeiad.F Go.Proofs.YtikfgeieaadeiadW.PrintWords
set_option linter.unusedSimpArgs false
set_option linter.unusedVariables false
/-- One digit of a quotient: what the test of the loop tells. -/
theorem div_corr {Y a b u c q r : Int} (hY : Y = a * 4294967296 + b) (ha : 2147483648 ≤ a ∧ a < 4294967296) (hb : 0 ≤ b ∧ b < 4294967296) (hu : 0 ≤ u ∧ u < Y) (hc : 0 ≤ c ∧ c < 4294967296)
    (hq : (u * 4294967296 + c) / Y ≤ q) (hq2 : q ≤ 4294967297) (hr : r = u - q * a) (hr0 : 0 ≤ r ∧ r < 4294967296) :
    ((q ≥ 4294967296 ∨ q * b > 4294967296 * r + c) → (u * 4294967296 + c) / Y ≤ q - 1) ∧ (¬ (q ≥ 4294967296 ∨ q * b > 4294967296 * r + c) → (u * 4294967296 + c) / Y = q) ∧
    ((q ≥ 4294967296 ∨ q * b > 4294967296 * r + c) → r + a ≥ 4294967296 → (u * 4294967296 + c) / Y = q - 1) := by
  have hY0 : 0 < Y := by omega
  have e1 : q * Y = q * a * 4294967296 + q * b := by rw [hY]; grind
  have e2 : (q - 1) * Y = q * Y - Y := by grind
  have lt : (u * 4294967296 + c) / Y < 4294967296 := by
    apply Int.ediv_lt_of_lt_mul hY0
    omega
  have up : (q ≥ 4294967296 ∨ q * b > 4294967296 * r + c) → (u * 4294967296 + c) / Y ≤ q - 1 := by
    intro h
    rcases h with h | h
    · omega
    · have : (u * 4294967296 + c) / Y < q := by
        apply Int.ediv_lt_of_lt_mul hY0
        rw [e1]; omega
      omega
  refine ⟨up, fun h => ?_, fun h h2 => ?_⟩
  · have : q ≤ (u * 4294967296 + c) / Y := by
      rw [Int.le_ediv_iff_mul_le hY0, e1]
      omega
    omega
  · have h3 := up h
    have h4 : (q - 1) * b ≤ 4294967296 * 4294967295 := by
      by_cases h5 : q - 1 ≤ 0
      · have : (q - 1) * b ≤ 0 := Int.mul_nonpos_of_nonpos_of_nonneg h5 hb.1
        omega
      · exact Int.mul_le_mul (by omega) (by omega) hb.1 (by omega)
    have h6 : (q - 1) * b = q * b - b := by grind
    have : q - 1 ≤ (u * 4294967296 + c) / Y := by
      rw [Int.le_ediv_iff_mul_le hY0, e2, e1]
      omega
    omega
theorem mul_u64 {x y : Int} (hx : 0 ≤ x ∧ x < 4294967296) (hy : 0 ≤ y ∧ y < 4294967296) : 0 ≤ x * y ∧ x * y < 18446744073709551616 := by
  refine ⟨Int.mul_nonneg hx.1 hy.1, ?_⟩
  have : x * y ≤ 4294967295 * 4294967295 := Int.mul_le_mul (by omega) (by omega) hy.1 (by omega)
  omega
theorem div_l0 {Y a b u c c0 s : Int} (hY : Y = a * 4294967296 + b) (ha : 2147483648 ≤ a ∧ a < 4294967296) (hb : 0 ≤ b ∧ b < 4294967296) (hu : 0 ≤ u ∧ u < Y) (hc : 0 ≤ c ∧ c < 4294967296) {res : Int × Int}
    (fin : Evt (fun k => bits_Div64.j2 k Y s a b u c c0 ((u * 4294967296 + c) / Y)) res) (n : Nat) : ∀ q r : Int, (u * 4294967296 + c) / Y ≤ q → q ≤ 4294967297 → r = u - q * a → 0 ≤ r ∧ r < 4294967296 → q - (u * 4294967296 + c) / Y ≤ n →
    Evt (fun k => bits_Div64.l0 k Y s a b u c c0 q r) res := by
  have hQ0 : 0 ≤ (u * 4294967296 + c) / Y := Int.ediv_nonneg (by omega) (by omega)
  induction n with
  | zero =>
    intro q r hq hq2 hr hr0 hn
    obtain ⟨g1, g2, g3⟩ := div_corr hY ha hb hu hc hq hq2 hr hr0
    have hno : ¬ (q ≥ 4294967296 ∨ q * b > 4294967296 * r + c) := fun h => by have := g1 h; omega
    refine Evt.succ ?_
    simp only [bits_Div64.l0]
    refine Evt.ite_neg (fun h => hno (Or.inl h)) ?_
    have hm := mul_u64 (x := q) (y := b) ⟨by omega, by omega⟩ hb
    rw [wu64_of hm.1 hm.2, wu64_of (x := 4294967296 * r) (by omega) (by omega), wu64_of (x := 4294967296 * r + c) (by omega) (by omega)]
    refine Evt.succ ?_
    simp only [bits_Div64.j1]
    refine Evt.ite_neg (by simp only [decide_eq_true_eq]; exact fun h => hno (Or.inr h)) ?_
    rw [← g2 hno]
    exact fin
  | succ n ih =>
    intro q r hq hq2 hr hr0 hn
    obtain ⟨g1, g2, g3⟩ := div_corr hY ha hb hu hc hq hq2 hr hr0
    have key : ∀ t : Bool, (t = true ↔ (q ≥ 4294967296 ∨ q * b > 4294967296 * r + c)) → Evt (fun k => bits_Div64.j1 k Y s a b u c c0 q r t) res := by
      intro t ht
      refine Evt.succ ?_
      simp only [bits_Div64.j1]
      by_cases h : t = true
      · have h' := ht.1 h
        have hq1 := g1 h'
        refine Evt.ite_pos h ?_
        rw [wu64_of (x := r + a) (by omega) (by omega), wu64_of (x := q - 1) (by omega) (by omega)]
        by_cases h2 : r + a ≥ 4294967296
        · refine Evt.ite_pos h2 ?_
          rw [← g3 h' h2]
          exact fin
        · refine Evt.ite_neg h2 (ih (q - 1) (r + a) hq1 (by omega) ?_ (by omega) (by omega))
          rw [hr]; grind
      · refine Evt.ite_neg h ?_
        rw [← g2 (fun h' => h (ht.2 h'))]
        exact fin
    refine Evt.succ ?_
    simp only [bits_Div64.l0]
    by_cases h : q ≥ 4294967296
    · exact Evt.ite_pos h (key true ⟨fun _ => Or.inl h, fun _ => rfl⟩)
    · refine Evt.ite_neg h (key _ ?_)
      have hm := mul_u64 (x := q) (y := b) ⟨by omega, by omega⟩ hb
      rw [wu64_of hm.1 hm.2, wu64_of (x := 4294967296 * r) (by omega) (by omega), wu64_of (x := 4294967296 * r + c) (by omega) (by omega), decide_eq_true_eq]
      exact ⟨fun h => Or.inr h, fun h' => by rcases h' with h' | h'; exact absurd h' h; exact h'⟩
/-- What is left behind one digit. -/
theorem div_left {Y u c : Int} (hY : 0 < Y ∧ Y < 18446744073709551616) (hu : 0 ≤ u ∧ u < Y) (hc : 0 ≤ c ∧ c < 4294967296) :
    IntKind.u64.wrap ((IntKind.u64.wrap ((IntKind.u64.wrap (u * 4294967296)) + c)) - (IntKind.u64.wrap ((u * 4294967296 + c) / Y * Y))) = (u * 4294967296 + c) % Y := by
  have h1 : (u * 4294967296 + c) % Y + (u * 4294967296 + c) / Y * Y = u * 4294967296 + c := by rw [Int.mul_comm (_ / Y)]; exact Int.emod_add_mul_ediv _ _
  have h2 := Int.emod_nonneg (u * 4294967296 + c) (show Y ≠ 0 by omega)
  have h3 := Int.emod_lt_of_pos (u * 4294967296 + c) hY.1
  generalize (u * 4294967296 + c) % Y = m at *
  generalize (u * 4294967296 + c) / Y * Y = p at *
  simp only [wu64]
  omega
theorem div_first {Y a b u : Int} (c : Int) (hY : Y = a * 4294967296 + b) (ha : 2147483648 ≤ a ∧ a < 4294967296) (hb : 0 ≤ b ∧ b < 4294967296) (hu : 0 ≤ u ∧ u < Y) (hc : 0 ≤ c ∧ c < 4294967296) :
    IntKind.u64.wrap (Int.tdiv u a) = u / a ∧ IntKind.u64.wrap (u - IntKind.u64.wrap (u / a * a)) = u - u / a * a ∧ (u * 4294967296 + c) / Y ≤ u / a ∧ u / a ≤ 4294967297 ∧ 0 ≤ u - u / a * a ∧ u - u / a * a < 4294967296 := by
  have h1 : u % a + u / a * a = u := by rw [Int.mul_comm (u / a)]; exact Int.emod_add_mul_ediv _ _
  have h2 := Int.emod_nonneg u (show a ≠ 0 by omega)
  have h3 := Int.emod_lt_of_pos u (show 0 < a by omega)
  have h4 := Int.ediv_nonneg hu.1 (show 0 ≤ a by omega)
  have h5 : u / a < 4294967298 := by
    apply Int.ediv_lt_of_lt_mul (by omega)
    omega
  have h6 : (u * 4294967296 + c) / Y ≤ u / a := by
    have hY0 : 0 < Y := by omega
    have : (u * 4294967296 + c) / Y < u / a + 1 := by
      apply Int.ediv_lt_of_lt_mul hY0
      have e : (u / a + 1) * Y = (u / a * a + a) * 4294967296 + (u / a) * b + b := by rw [hY]; grind
      have h7 := Int.mul_nonneg h4 hb.1
      rw [e]
      omega
    omega
  rw [Int.tdiv_eq_ediv_of_nonneg hu.1, wu64_of h4 (by omega)]
  have h8 := Int.mul_nonneg h4 (show 0 ≤ a by omega)
  refine ⟨rfl, ?_, h6, by omega, by omega, by omega⟩
  rw [wu64_of (x := u / a * a) (by omega) (by omega), wu64_of (by omega) (by omega)]
theorem div_l1 {Y a b u c q1 : Int} (s : Nat) (hs : s < 64) (hY : Y = a * 4294967296 + b) (ha : 2147483648 ≤ a ∧ a < 4294967296) (hb : 0 ≤ b ∧ b < 4294967296) (hu : 0 ≤ u ∧ u < Y) (hc : 0 ≤ c ∧ c < 4294967296)
    (hq1 : 0 ≤ q1 ∧ q1 < 4294967296) (n : Nat) : ∀ q r : Int, (u * 4294967296 + c) / Y ≤ q → q ≤ 4294967297 → r = u - q * a → 0 ≤ r ∧ r < 4294967296 → q - (u * 4294967296 + c) / Y ≤ n →
    Evt (fun k => bits_Div64.l1 k Y (s : Int) a b c q1 r u q) (q1 * 4294967296 + (u * 4294967296 + c) / Y, (u * 4294967296 + c) % Y / 2 ^ s) := by
  have hQ0 : 0 ≤ (u * 4294967296 + c) / Y := Int.ediv_nonneg (by omega) (by omega)
  have hQ1 : (u * 4294967296 + c) / Y < 4294967296 := by
    apply Int.ediv_lt_of_lt_mul (by omega)
    omega
  have hl := div_left (Y := Y) (u := u) (c := c) ⟨by omega, by omega⟩ hu hc
  induction n with
  | zero =>
    intro q r hq hq2 hr hr0 hn
    obtain ⟨g1, g2, g3⟩ := div_corr hY ha hb hu hc hq hq2 hr hr0
    have hno : ¬ (q ≥ 4294967296 ∨ q * b > 4294967296 * r + c) := fun h => by have := g1 h; omega
    refine Evt.succ ?_
    simp only [bits_Div64.l1]
    refine Evt.ite_neg (fun h => hno (Or.inl h)) ?_
    have hm := mul_u64 (x := q) (y := b) ⟨by omega, by omega⟩ hb
    rw [wu64_of hm.1 hm.2, wu64_of (x := 4294967296 * r) (by omega) (by omega), wu64_of (x := 4294967296 * r + c) (by omega) (by omega)]
    refine Evt.succ ?_
    simp only [bits_Div64.j4]
    refine Evt.ite_neg (by simp only [decide_eq_true_eq]; exact fun h => hno (Or.inr h)) (Evt.ite_pos (by omega) ?_)
    rw [← g2 hno, hl, shr_u64 _ _ (by omega), wu64_of (x := q1 * 4294967296) (by omega) (by omega), wu64_of (by omega) (by omega)]
    exact Evt.pure _
  | succ n ih =>
    intro q r hq hq2 hr hr0 hn
    obtain ⟨g1, g2, g3⟩ := div_corr hY ha hb hu hc hq hq2 hr hr0
    have key : ∀ t : Bool, (t = true ↔ (q ≥ 4294967296 ∨ q * b > 4294967296 * r + c)) → Evt (fun k => bits_Div64.j4 k Y (s : Int) a b c q1 r u q t) (q1 * 4294967296 + (u * 4294967296 + c) / Y, (u * 4294967296 + c) % Y / 2 ^ s) := by
      intro t ht
      refine Evt.succ ?_
      simp only [bits_Div64.j4]
      by_cases h : t = true
      · have h' := ht.1 h
        have hq1 := g1 h'
        refine Evt.ite_pos h ?_
        rw [wu64_of (x := r + a) (by omega) (by omega), wu64_of (x := q - 1) (by omega) (by omega)]
        by_cases h2 : r + a ≥ 4294967296
        · refine Evt.ite_pos h2 (Evt.ite_pos (by omega) ?_)
          rw [← g3 h' h2, hl, shr_u64 _ _ (by omega), wu64_of (x := q1 * 4294967296) (by omega) (by omega), wu64_of (by omega) (by omega)]
          exact Evt.pure _
        · refine Evt.ite_neg h2 (ih (q - 1) (r + a) hq1 (by omega) ?_ (by omega) (by omega))
          rw [hr]; grind
      · refine Evt.ite_neg h (Evt.ite_pos (by omega) ?_)
        rw [← g2 (fun h' => h (ht.2 h')), hl, shr_u64 _ _ (by omega), wu64_of (x := q1 * 4294967296) (by omega) (by omega), wu64_of (by omega) (by omega)]
        exact Evt.pure _
    refine Evt.succ ?_
    simp only [bits_Div64.l1]
    by_cases h : q ≥ 4294967296
    · exact Evt.ite_pos h (key true ⟨fun _ => Or.inl h, fun _ => rfl⟩)
    · refine Evt.ite_neg h (key _ ?_)
      have hm := mul_u64 (x := q) (y := b) ⟨by omega, by omega⟩ hb
      rw [wu64_of hm.1 hm.2, wu64_of (x := 4294967296 * r) (by omega) (by omega), wu64_of (x := 4294967296 * r + c) (by omega) (by omega), decide_eq_true_eq]
      exact ⟨fun h => Or.inr h, fun h' => by rcases h' with h' | h'; exact absurd h' h; exact h'⟩
theorem mask32 {x : Int} (h0 : 0 ≤ x) (h1 : x < 18446744073709551616) : Go.bits .and .u64 x 4294967295 = x % 4294967296 := by
  have h := bits_mask .u64 64 (by decide) wraps_u64 32 (by decide) x h0 (by omega)
  rw [show (2 : Int) ^ 32 = 4294967296 from by decide] at h
  exact h
/-- Two limbs by one. -/
theorem bits_Div64_ev {hi lo y : Int} (h1 : 0 ≤ hi ∧ hi < y) (h2 : 0 ≤ lo ∧ lo < 18446744073709551616) (h3 : y < 18446744073709551616) :
    Evt (fun k => bits_Div64.f k hi lo y) ((hi * 18446744073709551616 + lo) / y, (hi * 18446744073709551616 + lo) % y) := by
  unfold bits_Div64.f
  refine Evt.ite_neg (by omega) (Evt.ite_neg (by omega) ?_)
  by_cases h0 : hi = 0
  · subst h0
    have h4 := Int.ediv_nonneg h2.1 (show 0 ≤ y by omega)
    have h5 := Int.ediv_le_self y h2.1
    refine Evt.ite_pos rfl ?_
    rw [Int.zero_mul, Int.zero_add, Int.tdiv_eq_ediv_of_nonneg h2.1, Int.tmod_eq_emod_of_nonneg h2.1, wu64_of h4 (by omega)]
    exact Evt.pure _
  · refine Evt.ite_neg h0 ?_
    have hbl := bl_le (x := y.toNat) (m := 64) (by omega)
    have hbp := bl_pos (n := y.toNat) (by omega)
    have hb1 := bl_lt y.toNat
    have hb2 := bl_ge (n := y.toNat) (by omega)
    obtain ⟨s, hs⟩ : ∃ s, s = 64 - bl y.toNat := ⟨_, rfl⟩
    have hs64 : s < 64 := by omega
    refine Evt.bind (Evt.bind (h := fun t _ => some (wrap64 (64 - t))) (bits_Len64_ev (x := y) (by omega) h3) (Evt.pure _)) ?_
    rw [show wrap64 (64 - ((bl y.toNat : Nat) : Int)) = (s : Int) from by rw [w64 (by omega) (by omega)]; omega]
    rw [wu64_of (x := (s : Int)) (by omega) (by omega), wu64_of (x := 64 - (s : Int)) (by omega) (by omega), show 64 - (s : Int) = ((64 - s : Nat) : Int) from by omega]
    rw [shl_u64 y s (by omega), shl_u64 hi s (by omega), shl_u64 lo s (by omega), shr_u64 lo (64 - s) (by omega)]
    have hp := pow2_pos s
    have hY1 : y * 2 ^ s < 18446744073709551616 := by
      have h4 : y.toNat * 2 ^ s < 2 ^ bl y.toNat * 2 ^ s := Nat.mul_lt_mul_of_pos_right hb1 (Nat.pow_pos (by decide))
      rw [← Nat.pow_add, show bl y.toNat + s = 64 from by omega] at h4
      have h5 : ((y.toNat * 2 ^ s : Nat) : Int) = y * 2 ^ s := by rw [Int.natCast_mul, Int.toNat_of_nonneg (by omega)]; simp
      omega
    have hY2 : 9223372036854775808 ≤ y * 2 ^ s := by
      have h4 : 2 ^ (bl y.toNat - 1) * 2 ^ s ≤ y.toNat * 2 ^ s := Nat.mul_le_mul_right _ hb2
      rw [← Nat.pow_add, show bl y.toNat - 1 + s = 63 from by omega] at h4
      have h5 : ((y.toNat * 2 ^ s : Nat) : Int) = y * 2 ^ s := by rw [Int.natCast_mul, Int.toNat_of_nonneg (by omega)]; simp
      omega
    have hh0 : 0 ≤ hi * 2 ^ s := Int.mul_nonneg h1.1 (by omega)
    have hh1 : hi * 2 ^ s + 2 ^ s ≤ y * 2 ^ s := by
      have := Int.mul_le_mul_of_nonneg_right (show hi + 1 ≤ y by omega) (show 0 ≤ (2 : Int) ^ s by omega)
      rw [Int.add_mul, Int.one_mul] at this
      exact this
    obtain ⟨f1, f2, f3, f4⟩ := shl_facts h2 (s := s) (by omega)
    have f5 := Int.emod_nonneg (lo * 2 ^ s) (show (18446744073709551616 : Int) ≠ 0 by omega)
    have f6 := Int.emod_lt_of_pos (lo * 2 ^ s) (show (0 : Int) < 18446744073709551616 by omega)
    rw [Int.emod_eq_of_lt (show 0 ≤ y * 2 ^ s by omega) hY1, Int.emod_eq_of_lt hh0 (by omega)]
    rw [or_u64 s (by omega) hh0 (Int.mul_emod_left _ _) (by omega) f3 f4]
    rw [mask32 (by omega) hY1, mask32 f5 f6]
    have hres : ((hi * 18446744073709551616 + lo) * 2 ^ s) / (y * 2 ^ s) = (hi * 18446744073709551616 + lo) / y := Int.mul_ediv_mul_of_pos_left _ _ hp
    have hrem : ((hi * 18446744073709551616 + lo) * 2 ^ s) % (y * 2 ^ s) = (hi * 18446744073709551616 + lo) % y * 2 ^ s := by
      rw [Int.mul_comm _ (2 ^ s), Int.mul_comm y, Int.mul_emod_mul_of_pos _ _ hp, Int.mul_comm]
    have hV : (hi * 18446744073709551616 + lo) * 2 ^ s = (hi * 2 ^ s + lo / 2 ^ (64 - s)) * 18446744073709551616 + (lo * 2 ^ s) % 18446744073709551616 := by
      have e : (hi * 18446744073709551616 + lo) * 2 ^ s = hi * 2 ^ s * 18446744073709551616 + lo * 2 ^ s := by grind
      rw [e]
      omega
    have hu : 0 ≤ hi * 2 ^ s + lo / 2 ^ (64 - s) ∧ hi * 2 ^ s + lo / 2 ^ (64 - s) < y * 2 ^ s := by omega
    generalize (hi * 18446744073709551616 + lo) / y = RQ at *
    generalize (hi * 18446744073709551616 + lo) % y = RM at *
    generalize hi * 2 ^ s + lo / 2 ^ (64 - s) = u at *
    generalize (lo * 2 ^ s) % 18446744073709551616 = v at *
    generalize y * 2 ^ s = Y at *
    rw [hV] at hres hrem
    have ha : 2147483648 ≤ Y / 4294967296 ∧ Y / 4294967296 < 4294967296 := by omega
    have hb : 0 ≤ Y % 4294967296 ∧ Y % 4294967296 < 4294967296 := by omega
    have hYY : Y = Y / 4294967296 * 4294967296 + Y % 4294967296 := by omega
    have hc : 0 ≤ v / 4294967296 ∧ v / 4294967296 < 4294967296 := by omega
    have hc0 : 0 ≤ v % 4294967296 ∧ v % 4294967296 < 4294967296 := by omega
    have hvv : v = v / 4294967296 * 4294967296 + v % 4294967296 := by omega
    generalize Y / 4294967296 = a at *
    generalize Y % 4294967296 = b at *
    generalize v / 4294967296 = c at *
    generalize v % 4294967296 = c0 at *
    refine Evt.ite_pos (by omega) (Evt.ite_pos (by omega) (Evt.ite_neg (by omega) ?_))
    obtain ⟨g1, g2, g3, g4, g5, g6⟩ := div_first c hYY ha hb hu hc
    rw [g1, g2]
    have hY0 : 0 < Y := by omega
    have m1 := Int.emod_nonneg (u * 4294967296 + c) (show Y ≠ 0 by omega)
    have m2 := Int.emod_lt_of_pos (u * 4294967296 + c) hY0
    have m3 := Int.emod_add_mul_ediv (u * 4294967296 + c) Y
    have q0 : 0 ≤ (u * 4294967296 + c) / Y := Int.ediv_nonneg (by omega) (by omega)
    have q1 : (u * 4294967296 + c) / Y < 4294967296 := by
      apply Int.ediv_lt_of_lt_mul hY0
      omega
    have hl := div_left (Y := Y) (u := u) (c := c) ⟨hY0, hY1⟩ hu hc
    refine div_l0 hYY ha hb hu hc ?_ 4294967300 (u / a) (u - u / a * a) g3 g4 rfl ⟨g5, g6⟩ (by omega)
    refine Evt.succ ?_
    simp only [bits_Div64.j2]
    refine Evt.ite_neg (by omega) ?_
    rw [hl]
    generalize (u * 4294967296 + c) % Y = u2 at *
    generalize (u * 4294967296 + c) / Y = Q1 at *
    obtain ⟨k1, k2, k3, k4, k5, k6⟩ := div_first c0 hYY ha hb ⟨m1, m2⟩ hc0
    rw [k1, k2]
    have n1 := Int.emod_nonneg (u2 * 4294967296 + c0) (show Y ≠ 0 by omega)
    have n2 := Int.emod_lt_of_pos (u2 * 4294967296 + c0) hY0
    have n3 := Int.emod_add_mul_ediv (u2 * 4294967296 + c0) Y
    have r0 : 0 ≤ (u2 * 4294967296 + c0) / Y := Int.ediv_nonneg (by omega) (by omega)
    have hend := div_l1 (q1 := Q1) s hs64 hYY ha hb ⟨m1, m2⟩ hc0 ⟨q0, q1⟩ 4294967300 (u2 / a) (u2 - u2 / a * a) k3 k4 rfl ⟨k5, k6⟩ (by omega)
    refine hend.congr (fun k => rfl) ?_
    generalize (u2 * 4294967296 + c0) % Y = M at *
    generalize (u2 * 4294967296 + c0) / Y = Q0 at *
    have ef : u * 18446744073709551616 + v = M + Y * (Q1 * 4294967296 + Q0) := by
      have e : Y * (Q1 * 4294967296 + Q0) = Y * Q1 * 4294967296 + Y * Q0 := by grind
      rw [e]
      omega
    rw [ef, Int.add_mul_ediv_left _ _ (show Y ≠ 0 by omega), Int.ediv_eq_zero_of_lt n1 n2, Int.zero_add] at hres
    rw [ef, Int.add_mul_emod_self_left, Int.emod_eq_of_lt n1 n2] at hrem
    rw [hres, hrem, Int.mul_ediv_cancel _ (by omega)]
end Go.Proofs.Ytikfgeieaadeiad.Z

namespace Go.Proofs.Ytikfgeieaadeiad.Z
open Go.RowKit Go.Proofs.Ytikfgeieaadeiad.F Go.Proofs.YtikfgeieaadeiadW.PrintWords
set_option linter.unusedSimpArgs false
set_option linter.unusedVariables false
theorem nat_trim_loop (l : List Int) (h : l.length ≤ maxLen) : ∀ n : Nat, n ≤ l.length → Evt (fun k => nat_trim.l0 k l (n : Int)) (strip (l.take n)) := by
  unfold maxLen at h
  intro n
  induction n with
  | zero =>
    intro _
    refine Evt.succ ?_
    simp only [nat_trim.l0]
    refine Evt.ite_neg (by omega) (Evt.ite_pos (by omega) (Evt.ite_pos (by omega) ?_))
    simp [strip]
    exact Evt.pure _
  | succ n ih =>
    intro hn
    refine Evt.succ ?_
    simp only [nat_trim.l0]
    rw [w64 (by omega) (by omega), show ((n + 1 : Nat) : Int) - 1 = (n : Int) from by omega]
    refine Evt.ite_pos (by omega) (Evt.ite_pos (by omega) (Evt.ite_pos (by omega) ?_))
    rw [rd_nat, List.take_succ_eq_append_getElem (show n < l.length by omega)]
    have hg : l.getD n 0 = l[n] := by simp [show n < l.length by omega]
    rw [hg]
    by_cases h0 : l[n] = 0
    · rw [h0, strip_snoc_zero]
      exact Evt.ite_pos rfl (ih (by omega))
    · rw [strip_snoc h0]
      refine Evt.ite_neg h0 (Evt.ite_pos (by omega) (Evt.ite_pos (by omega) ?_))
      rw [← List.take_succ_eq_append_getElem (show n < l.length by omega)]
      exact Evt.pure _
theorem nat_trim_ev (l : List Int) (h : l.length ≤ maxLen) : Evt (fun k => nat_trim.f k l) (strip l) := by
  have := nat_trim_loop l h l.length (Nat.le_refl _)
  exact this.congr (fun k => rfl) (by rw [List.take_length])
end Go.Proofs.Ytikfgeieaadeiad.Z

namespace Go.Proofs.Ytikfgeieaadeiad.Z
open Go.RowKit Go.Proofs.Ytikfgeieaadeiad.F Go.Proofs.YtikfgeieaadeiadW.PrintWords
set_option linter.unusedSimpArgs false
set_option linter.unusedVariables false
theorem drop_set_self (l : List Int) (i : Nat) (x : Int) (h : i < l.length) : (l.set i x).drop i = x :: l.drop (i + 1) := by
  rw [List.drop_eq_getElem_cons (by simpa using h), List.drop_set, if_pos (Nat.lt_succ_self i)]
  simp
theorem nat_short_loop (a : List Int) (d : Int) (da : Dig (b64 : Int) a) (ha : a.length ≤ 100000) (h0 : 0 < d) (h1 : d < 18446744073709551616) (n : Nat) :
    ∀ (out : List Int) (rest : Int), n ≤ a.length → out.length = a.length → Dig (b64 : Int) out → 0 ≤ rest ∧ rest < d → val (b64 : Int) (out.drop n) * d + rest = val (b64 : Int) (a.drop n) →
    Evt (fun k => nat_short.l0 k a d out rest ((n : Int) - 1)) (limbs (num a / d.toNat), ((num a % d.toNat : Nat) : Int)) := by
  induction n with
  | zero =>
    intro out rest hn ho do_ hr hv
    refine Evt.succ ?_
    simp only [nat_short.l0]
    refine Evt.ite_neg (by omega) ?_
    refine Evt.bind (nat_trim_ev out (by simp [maxLen]; omega)) ?_
    rw [strip_limbs do_]
    rw [List.drop_zero, List.drop_zero] at hv
    have e1 := num_val do_
    have e2 := num_val da
    have e3 : num a = num out * d.toNat + rest.toNat := by
      have : (num a : Int) = ((num out * d.toNat + rest.toNat : Nat) : Int) := by
        rw [Int.natCast_add, Int.natCast_mul, e1, e2, Int.toNat_of_nonneg (by omega), Int.toNat_of_nonneg hr.1]
        exact hv.symm
      omega
    have e4 : num a / d.toNat = num out := by
      rw [e3, Nat.mul_comm, Nat.mul_add_div (by omega), Nat.div_eq_of_lt (by omega), Nat.add_zero]
    have e5 : num a % d.toNat = rest.toNat := by
      rw [e3, Nat.mul_comm, Nat.mul_add_mod, Nat.mod_eq_of_lt (by omega)]
    rw [e4, e5, Int.toNat_of_nonneg hr.1]
    exact Evt.pure _
  | succ n ih =>
    intro out rest hn ho do_ hr hv
    refine Evt.succ ?_
    simp only [nat_short.l0]
    rw [show ((n + 1 : Nat) : Int) - 1 = (n : Int) from by omega, rd_nat, w64 (by omega) (by omega)]
    have hx := da.getD b64_pos n
    have hg : a.getD n 0 = a[n] := by simp [show n < a.length by omega]
    simp only [b64] at hx
    have hq0 : 0 ≤ (rest * 18446744073709551616 + a.getD n 0) / d := Int.ediv_nonneg (by omega) (by omega)
    have hq1 : (rest * 18446744073709551616 + a.getD n 0) / d < 18446744073709551616 := by
      apply Int.ediv_lt_of_lt_mul h0
      omega
    have hm0 := Int.emod_nonneg (rest * 18446744073709551616 + a.getD n 0) (show d ≠ 0 by omega)
    have hm1 := Int.emod_lt_of_pos (rest * 18446744073709551616 + a.getD n 0) h0
    have hm : (rest * 18446744073709551616 + a.getD n 0) % d + (rest * 18446744073709551616 + a.getD n 0) / d * d = rest * 18446744073709551616 + a.getD n 0 := by rw [Int.mul_comm (_ / d)]; exact Int.emod_add_mul_ediv _ _
    refine Evt.ite_pos (by omega) (Evt.ite_pos (by omega) (Evt.ite_pos (by omega) ?_))
    refine Evt.bind (bits_Div64_ev hr hx h1) ?_
    refine Evt.ite_pos (by omega) ?_
    rw [Int.toNat_natCast]
    refine ih _ _ (by omega) (by simpa using ho) (do_.set n ⟨hq0, hq1⟩) ⟨hm0, hm1⟩ ?_
    rw [drop_set_self _ _ _ (by omega), List.drop_eq_getElem_cons (show n < a.length by omega), ← hg]
    simp only [val, b64] at hv ⊢
    generalize (rest * 18446744073709551616 + a.getD n 0) / d = Q at *
    generalize (rest * 18446744073709551616 + a.getD n 0) % d = M at *
    generalize a.getD n 0 = x at *
    rw [← hv]
    generalize val _ (out.drop (n + 1)) = V at *
    have e : (Q + ((18446744073709551616 : Nat) : Int) * V) * d = Q * d + 18446744073709551616 * (V * d) := by
      rw [Int.add_mul, Int.mul_assoc]; rfl
    rw [e, Int.mul_add]
    omega
theorem nat_short_ev (a : List Int) (d : Int) (da : Dig (b64 : Int) a) (ha : a.length ≤ 100000) (h0 : 0 < d) (h1 : d < 18446744073709551616) :
    Evt (fun k => nat_short.f k a d) (limbs (num a / d.toNat), ((num a % d.toNat : Nat) : Int)) := by
  unfold nat_short.f
  refine Evt.ite_pos (by omega) (Evt.ite_pos (by omega) ?_)
  rw [Int.toNat_natCast, w64 (by omega) (by omega)]
  refine nat_short_loop a d da ha h0 h1 a.length _ 0 (Nat.le_refl _) (by simp) (Dig.replicate b64_pos _) ⟨by omega, h0⟩ ?_
  rw [List.drop_of_length_le (by simp), List.drop_of_length_le (by simp)]
  simp [val]
end Go.Proofs.Ytikfgeieaadeiad.Z

namespace Go.Proofs.Ytikfgeieaadeiad.Z
open Go.RowKit Go.Proofs.Ytikfgeieaadeiad.F Go.Proofs.YtikfgeieaadeiadW.PrintWords
set_option linter.unusedSimpArgs false
set_option linter.unusedVariables false
theorem nat_Right_eq {l : List Int} (h : l.length ≤ maxLen) : nat_Right.f l = some (rightB l) := by
  unfold maxLen at h
  unfold nat_Right.f rightB
  by_cases h1 : l.length ≤ 64
  · rw [if_pos (by omega)]
    by_cases h2 : l.length = 0
    · rw [if_pos (by omega)]
      simp [h1, h2]
    · rw [if_neg (by omega), w64 (by omega) (by omega), if_pos (by omega), if_pos (by omega), rd_getD]
      rw [show ((l.length : Int) - 1).toNat = l.length - 1 from by omega]
      have h3 : (l.length == 0) = false := by simpa using h2
      rw [h3]
      simp [h1]
  · rw [if_neg (by omega)]
    simp [h1]
end Go.Proofs.Ytikfgeieaadeiad.Z

namespace Go.Proofs.Ytikfgeieaadeiad.Z
open Go.RowKit Go.Proofs.YtikfgeieaadeiadW.PrintWords
set_option linter.unusedSimpArgs false
set_option linter.unusedVariables false
/-! ### The bytes of a number -/
def b8 : Nat := 256
theorem b8_two : 2 ≤ b8 := by decide
theorem b8_pos : (0 : Int) < (b8 : Int) := by decide
abbrev byts (v : Nat) : List Int := toD b8 v
theorem b8_pow2 (m : Nat) : b8 ^ m = 2 ^ (8 * m) := by
  have h : b8 = 2 ^ 8 := by decide
  rw [h, ← Nat.pow_mul]
theorem toD_getD {B : Nat} (hB : 2 ≤ B) (i : Nat) : ∀ v : Nat, (toD B v).getD i 0 = ((v / B ^ i % B : Nat) : Int) := by
  induction i with
  | zero =>
    intro v
    by_cases hv : v = 0
    · subst hv; rw [toD_zero]; simp
    · rw [toD_pos hB (by omega)]; simp
  | succ i ih =>
    intro v
    by_cases hv : v = 0
    · subst hv; rw [toD_zero]; simp
    · rw [toD_pos hB (by omega), List.getD_cons_succ, ih, Nat.div_div_eq_div_mul, Nat.pow_succ, Nat.mul_comm (B ^ i)]
theorem byts_len_iff (v m : Nat) : (byts v).length ≤ m ↔ bl v ≤ 8 * m := by
  rw [toD_len_iff b8_two, b8_pow2]
  exact ⟨bl_le, fun h => Nat.lt_of_lt_of_le (bl_lt v) (Nat.pow_le_pow_right (by decide) h)⟩
theorem byts_len (v : Nat) : (byts v).length = (bl v + 7) / 8 := by
  have h1 := (byts_len_iff v ((bl v + 7) / 8)).2 (by omega)
  have h2 := (byts_len_iff v (byts v).length).1 (Nat.le_refl _)
  omega
theorem limb_at {a : List Int} (da : Dig (b64 : Int) a) (ca : Can a) (i : Nat) : a.getD i 0 = ((num a / b64 ^ i % b64 : Nat) : Int) := by
  have h := toD_getD b64_two i (num a)
  rw [show toD b64 (num a) = a from limbs_num da ca] at h
  exact h
theorem can_last {a : List Int} (ca : Can a) (h0 : a.length ≠ 0) : a.getD (a.length - 1) 0 ≠ 0 := by
  have h : a ≠ [] := fun e => h0 (by rw [e]; rfl)
  have h2 := ca h
  rw [List.getLast_eq_getElem] at h2
  rw [List.getD_eq_getElem?_getD, List.getElem?_eq_getElem (show a.length - 1 < a.length by omega)]
  exact h2
theorem bitsV_bl {a : List Int} (da : Dig (b64 : Int) a) (hA : rightB a = true) : bitsV a = ((bl (num a) : Nat) : Int) := by
  obtain ⟨h1, ca⟩ := (rightB_iff a).1 hA
  unfold bitsV
  by_cases h0 : a.length = 0
  · rw [if_neg (fun h => h.2 h0)]
    have e : a = [] := List.length_eq_zero_iff.1 h0
    subst e
    rfl
  · rw [if_pos ⟨hA, h0⟩]
    have e := limb_at da ca (a.length - 1)
    have hlt := num_lt da
    have hne := can_last ca h0
    have hl : num a / b64 ^ (a.length - 1) < b64 := by
      apply Nat.div_lt_of_lt_mul
      rw [← Nat.pow_succ, show (a.length - 1).succ = a.length from by omega]
      exact hlt
    rw [Nat.mod_eq_of_lt hl] at e
    rw [e] at hne ⊢
    rw [b64_pow2] at hne ⊢
    have h2 := bl_shift (num a) (64 * (a.length - 1)) (fun hh => hne (by rw [hh]; rfl))
    rw [h2, Int.toNat_natCast]
    omega
theorem byte_of (v q r : Nat) (hr : r < 8) : v / b64 ^ q % b64 / 2 ^ (8 * r) % 256 = v / b8 ^ (8 * q + r) % b8 := by
  have h : b64 = 2 ^ (8 * r) * 2 ^ (64 - 8 * r) := by
    rw [← Nat.pow_add, show 8 * r + (64 - 8 * r) = 64 from by omega]; decide
  have hd : (256 : Nat) ∣ 2 ^ (64 - 8 * r) := Nat.pow_dvd_pow 2 (show 8 ≤ 64 - 8 * r by omega)
  have e1 : v / b64 ^ q % b64 / 2 ^ (8 * r) = v / b64 ^ q / 2 ^ (8 * r) % 2 ^ (64 - 8 * r) := by
    generalize v / b64 ^ q = x
    rw [h, Nat.mod_mul_right_div_self]
  rw [e1, Nat.mod_mod_of_dvd _ hd, Nat.div_div_eq_div_mul, b64_pow2, b8_pow2, ← Nat.pow_add, show 64 * q + 8 * r = 8 * (8 * q + r) from by omega]
  rfl
theorem byts_num_len {a : List Int} (da : Dig (b64 : Int) a) : (byts (num a)).length ≤ 8 * a.length := by
  rw [byts_len_iff]
  apply bl_le
  have := num_lt da
  rw [b64_pow2] at this
  rw [show 8 * (8 * a.length) = 64 * a.length from by omega]
  exact this
theorem tdiv_nat (i : Nat) (c : Nat) : Int.tdiv (i : Int) (c : Int) = ((i / c : Nat) : Int) := by
  rw [Int.tdiv_eq_ediv_of_nonneg (by omega)]; simp
theorem tmod_nat (i : Nat) (c : Nat) : Int.tmod (i : Int) (c : Int) = ((i % c : Nat) : Int) := by
  rw [Int.tmod_eq_emod_of_nonneg (by omega)]; simp
/-- A number's bytes, the highest first. -/
def bytesV (a : List Int) : List Int := if rightB a = true then (byts (num a)).reverse else []
/-- The number of bytes, the highest first, without noughts ahead. -/
def readV (b : List Int) : List Int × Int := if b.length > 512 then ([], 4) else (limbs (val (b8 : Int) b.reverse).toNat, 0)
theorem val_b8_lt {b : List Int} (h : Dig (b8 : Int) b) (hl : b.length ≤ 512) : (val (b8 : Int) b.reverse).toNat < b64 ^ 64 := by
  have h1 : Dig (b8 : Int) b.reverse := fun x hx => h x (List.mem_reverse.1 hx)
  have h2 := val_lt b8_pos h1
  have h3 := val_nonneg b8_pos h1
  rw [pow_cast, List.length_reverse] at h2
  have h4 : b8 ^ b.length ≤ b64 ^ 64 := by
    rw [b8_pow2]
    exact pow2_le_b64 (by omega)
  omega
end Go.Proofs.Ytikfgeieaadeiad.Z

namespace Go.Proofs.Ytikfgeieaadeiad.Z
open Go.RowKit Go.Proofs.YtikfgeieaadeiadW.PrintWords
set_option linter.unusedSimpArgs false
set_option linter.unusedVariables false
/-! ### Texts in base ten -/
def ten : Nat := 10
theorem ten_two : 2 ≤ ten := by decide
/-- The letters of a number, the lowest first. -/
def letters (v : Nat) : List Int := (toD ten v).map fun x => 48 + x
/-- What letters, the lowest first, are told as. -/
def textL (l : List Int) : ByteArray := if l = [] then ⟨#[48]⟩ else strOfNums l.reverse
/-- A number in base ten. -/
def textV (a : List Int) : ByteArray := if rightB a = true then textL (letters (num a)) else ⟨#[]⟩
theorem letters_zero : letters 0 = [] := by unfold letters; rw [toD_zero]; rfl
theorem letters_pos {v : Nat} (h : 0 < v) : letters v = (48 + ((v % 10 : Nat) : Int)) :: letters (v / 10) := by
  unfold letters
  rw [toD_pos ten_two h]
  rfl
theorem letters_len {v m : Nat} (h : v < b64 ^ m) : (letters v).length ≤ 20 * m := by
  unfold letters
  rw [List.length_map]
  refine toD_len_le ten_two (Nat.lt_of_lt_of_le h ?_)
  rw [Nat.pow_mul]
  exact Nat.pow_le_pow_left (by decide) m
/-- A row of which the first and the last i are changed about. -/
def Rv (L x : List Int) (i : Nat) : Prop := x.length = L.length ∧ ∀ p, p < L.length → x.getD p 0 = if p < i ∨ L.length - 1 - p < i then L.getD (L.length - 1 - p) 0 else L.getD p 0
theorem Rv.zero (L : List Int) : Rv L L 0 := ⟨rfl, fun p _ => by rw [if_neg (by omega)]⟩
theorem Rv.step {L x : List Int} {i : Nat} (h : Rv L x i) (hi : i < L.length - 1 - i) : Rv L ((x.set i (x.getD (L.length - 1 - i) 0)).set (L.length - 1 - i) (x.getD i 0)) (i + 1) := by
  obtain ⟨h1, h2⟩ := h
  refine ⟨by simpa using h1, fun p hp => ?_⟩
  have a1 := h2 i (by omega)
  have a2 := h2 (L.length - 1 - i) (by omega)
  rw [if_neg (by omega)] at a1 a2
  rw [a1, a2]
  rw [List.getD_eq_getElem?_getD]
  by_cases e1 : p = L.length - 1 - i
  · subst e1
    rw [List.getElem?_set_self (by simp; omega), if_pos (by omega), show L.length - 1 - (L.length - 1 - i) = i from by omega]
    rfl
  · rw [List.getElem?_set_ne (by omega)]
    by_cases e2 : p = i
    · subst e2
      rw [List.getElem?_set_self (by omega), if_pos (by omega)]
      rfl
    · rw [List.getElem?_set_ne (by omega), ← List.getD_eq_getElem?_getD, h2 p hp]
      by_cases e3 : p < i ∨ L.length - 1 - p < i
      · rw [if_pos e3, if_pos (by omega)]
      · rw [if_neg e3, if_neg (by omega)]
theorem Rv.done {L x : List Int} {i : Nat} (h : Rv L x i) (hi : L.length ≤ 2 * i + 1) : x = L.reverse := by
  obtain ⟨h1, h2⟩ := h
  apply List.ext_getElem (by simpa using h1)
  intro p hp hp2
  have hpL : p < L.length := by omega
  have h3 := h2 p hpL
  rw [List.getD_eq_getElem?_getD, List.getElem?_eq_getElem hp] at h3
  rw [List.getElem_reverse]
  have e : L[L.length - 1 - p] = L.getD (L.length - 1 - p) 0 := by
    rw [List.getD_eq_getElem?_getD, List.getElem?_eq_getElem (by omega)]
    rfl
  rw [e]
  by_cases e3 : p < i ∨ L.length - 1 - p < i
  · rw [if_pos e3] at h3; exact h3
  · rw [if_neg e3] at h3
    rw [show L.length - 1 - p = p from by omega]
    exact h3
end Go.Proofs.Ytikfgeieaadeiad.Z

namespace Go.Proofs.Ytikfgeieaadeiad.Z
open Go.RowKit Go.Proofs.Ytikfgeieaadeiad.F Go.Proofs.YtikfgeieaadeiadW.PrintWords
set_option linter.unusedSimpArgs false
set_option linter.unusedVariables false
theorem slices_Reverse_loop (L : List Int) (hL : L.length ≤ 1000000) (n : Nat) : ∀ (x : List Int) (i : Nat), L.length - i = n → i ≤ L.length → Rv L x i →
    Evt (fun k => slices_Reverse_byte_byte.l0 k x (i : Int) ((L.length : Int) - 1 - (i : Int))) L.reverse := by
  induction n with
  | zero =>
    intro x i hn hi h
    refine Evt.succ ?_
    simp only [slices_Reverse_byte_byte.l0]
    refine Evt.ite_neg (by omega) ?_
    rw [h.done (by omega)]
    exact Evt.pure _
  | succ n ih =>
    intro x i hn hi h
    have hl := h.1
    refine Evt.succ ?_
    simp only [slices_Reverse_byte_byte.l0]
    by_cases hc : (i : Int) < (L.length : Int) - 1 - (i : Int)
    · refine Evt.ite_pos hc (Evt.ite_pos (by omega) (Evt.ite_pos (by omega) (Evt.ite_pos (by omega) (Evt.ite_pos (by omega) ?_))))
      rw [w64 (by omega) (by omega), w64 (by omega) (by omega), rd_nat, rd_getD, Int.toNat_natCast, show ((L.length : Int) - 1 - (i : Int)).toNat = L.length - 1 - i from by omega]
      refine (ih _ (i + 1) (by omega) (by omega) (h.step (by omega))).congr (fun k => ?_) rfl
      congr 1
      omega
    · refine Evt.ite_neg hc ?_
      rw [h.done (by omega)]
      exact Evt.pure _
theorem slices_Reverse_ev (L : List Int) (hL : L.length ≤ 1000000) : Evt (fun k => slices_Reverse_byte_byte.f k L) L.reverse := by
  unfold slices_Reverse_byte_byte.f
  rw [w64 (by omega) (by omega)]
  refine (slices_Reverse_loop L hL L.length L 0 (by omega) (Nat.zero_le _) (Rv.zero L)).congr (fun k => ?_) rfl
  congr 1
  omega
end Go.Proofs.Ytikfgeieaadeiad.Z

namespace Go.Proofs.Ytikfgeieaadeiad.Z
open Go.RowKit Go.Proofs.Ytikfgeieaadeiad.F Go.Proofs.YtikfgeieaadeiadW.PrintWords
set_option linter.unusedSimpArgs false
set_option linter.unusedVariables false
theorem nat_Text_l1 (u : Nat) (hu : (limbs u).length ≤ 100000) (h0 : ∀ out : List Int, out.length + (letters u).length ≤ 1000000 → Evt (fun k => nat_Text.l0 k (limbs u) out) (textL (out ++ letters u))) (n : Nat) :
    ∀ (out : List Int) (r i : Nat), i + n = 19 → r < 10 ^ n → out.length + (letters (u * 10 ^ n + r)).length ≤ 1000000 → Evt (fun k => nat_Text.l1 k (limbs u) out (r : Int) (i : Int)) (textL (out ++ letters (u * 10 ^ n + r))) := by
  induction n with
  | zero =>
    intro out r i hi hr hl
    have e : u * 10 ^ 0 + r = u := by simp at hr ⊢; omega
    rw [e] at hl ⊢
    refine Evt.succ ?_
    simp only [nat_Text.l1]
    exact Evt.ite_neg (by omega) (h0 out hl)
  | succ n ih =>
    intro out r i hi hr hl
    refine Evt.succ ?_
    simp only [nat_Text.l1]
    refine Evt.ite_pos (by omega) ?_
    have hr19 : r < 10 ^ 19 := Nat.lt_of_lt_of_le hr (Nat.pow_le_pow_right (by decide) (by omega))
    have e2 : IntKind.u64.wrap (Int.tdiv (r : Int) 10) = ((r / 10 : Nat) : Int) := by
      rw [show (10 : Int) = ((10 : Nat) : Int) from rfl, tdiv_nat, wu64_of (by omega) (by omega)]
    have e3 : (48 + Int.tmod (r : Int) 10) % 256 = 48 + ((r % 10 : Nat) : Int) := by
      rw [show (10 : Int) = ((10 : Nat) : Int) from rfl, tmod_nat]
      omega
    rw [e2, e3, w64 (by omega) (by omega)]
    have ew : (u * 10 ^ (n + 1) + r) / 10 = u * 10 ^ n + r / 10 := by
      rw [Nat.pow_succ, ← Nat.mul_assoc]
      generalize u * 10 ^ n = z
      omega
    have em : (u * 10 ^ (n + 1) + r) % 10 = r % 10 := by
      rw [Nat.pow_succ, ← Nat.mul_assoc]
      generalize u * 10 ^ n = z
      omega
    have hr2 : r / 10 < 10 ^ n := by
      rw [Nat.pow_succ] at hr
      omega
    by_cases hw : 0 < u * 10 ^ (n + 1) + r
    · rw [letters_pos hw, ew, em] at hl ⊢
      have hgo := ih (out ++ [48 + ((r % 10 : Nat) : Int)]) (r / 10) (i + 1) (by omega) hr2 (by simp at hl ⊢; omega)
      rw [List.append_assoc, List.singleton_append] at hgo
      have hlen : out.length < 140737488355328 := by omega
      by_cases h : (r : Int) > 0
      · exact Evt.ite_pos h (Evt.ite_pos hlen (hgo.congr (fun k => rfl) rfl))
      · refine Evt.ite_neg h (Evt.ite_pos ?_ (Evt.ite_pos hlen (hgo.congr (fun k => rfl) rfl)))
        have hu0 : u ≠ 0 := by
          intro e
          subst e
          rw [Nat.zero_mul] at hw
          omega
        have : limbs u ≠ [] := fun e => hu0 ((toD_eq_nil b64_two).1 e)
        have := List.length_pos_iff.2 this
        omega
    · have hz : u * 10 ^ (n + 1) + r = 0 := by omega
      have hr0 : r = 0 := by omega
      have hu0 : u = 0 := by
        have h1 : u * 10 ^ (n + 1) = 0 := by omega
        rcases Nat.mul_eq_zero.1 h1 with h2 | h2
        · exact h2
        · exact absurd h2 (Nat.ne_of_gt (Nat.pow_pos (by decide)))
      rw [hz] at hl ⊢
      subst hr0
      subst hu0
      refine Evt.ite_neg (by omega) (Evt.ite_neg ?_ (h0 out hl))
      rw [show limbs 0 = [] from toD_zero b64]
      simp
theorem nat_Text_l0 (v : Nat) : ∀ out : List Int, (limbs v).length ≤ 100000 → out.length + (letters v).length ≤ 1000000 → Evt (fun k => nat_Text.l0 k (limbs v) out) (textL (out ++ letters v)) := by
  induction v using Nat.strongRecOn with
  | _ v ih =>
    intro out hl ho
    refine Evt.succ ?_
    simp only [nat_Text.l0]
    by_cases hv : v = 0
    · subst hv
      rw [letters_zero, List.append_nil]
      rw [show limbs 0 = [] from toD_zero b64]
      refine Evt.ite_neg (by simp) ?_
      unfold textL
      by_cases h : out = []
      · rw [if_pos h]
        exact Evt.ite_pos (by rw [h]; rfl) (Evt.pure _)
      · rw [if_neg h]
        refine Evt.ite_neg (fun e => h (List.length_eq_zero_iff.1 (by omega))) ?_
        exact Evt.bind (slices_Reverse_ev out (by omega)) (Evt.pure _)
    · have hne : limbs v ≠ [] := fun e => hv ((toD_eq_nil b64_two).1 e)
      have hp := List.length_pos_iff.2 hne
      refine Evt.ite_pos (by omega) ?_
      have hs := nat_short_ev (limbs v) 10000000000000000000 (toD_dig b64_two v) hl (by omega) (by omega)
      rw [num_limbs, show (10000000000000000000 : Int).toNat = 10 ^ 19 from rfl] at hs
      refine Evt.bind hs ?_
      have hlt : v / 10 ^ 19 < v := Nat.div_lt_self (by omega) (by decide)
      have hle : (limbs (v / 10 ^ 19)).length ≤ (limbs v).length := by
        refine toD_len_le b64_two (Nat.lt_of_lt_of_le (Nat.lt_of_lt_of_le hlt (Nat.le_refl _)) (Nat.le_of_lt (toD_lt_pow b64_two v)))
      have e : v / 10 ^ 19 * 10 ^ 19 + v % 10 ^ 19 = v := by rw [Nat.mul_comm]; exact Nat.div_add_mod _ _
      have hgo := nat_Text_l1 (v / 10 ^ 19) (by omega) (fun o h2 => ih _ hlt o (by omega) h2) 19 out (v % 10 ^ 19) 0 rfl (Nat.mod_lt _ (by decide))
      rw [e] at hgo
      exact hgo ho
theorem nat_Text_ev (a : List Int) (ha : a.length ≤ maxLen) (da : Dig (b64 : Int) a) : Evt (fun k => nat_Text.f k a) (textV a) := by
  unfold nat_Text.f textV
  rw [nat_Right_eq ha]
  simp only [Option.bind_some]
  cases hA : rightB a with
  | true =>
    obtain ⟨h1, c1⟩ := (rightB_iff a).1 hA
    rw [if_pos rfl]
    refine Evt.ite_pos rfl ?_
    have h2 := letters_len (num_lt da)
    have h := nat_Text_l0 (num a) [] (by rw [limbs_num da c1]; omega) (by simp; omega)
    rw [limbs_num da c1, List.nil_append] at h
    exact h
  | false =>
    rw [if_neg (by simp)]
    exact Evt.ite_neg (by simp) (Evt.pure _)
end Go.Proofs.Ytikfgeieaadeiad.Z

namespace Go.Proofs.Ytikfgeieaadeiad.Z
open Go.RowKit Go.Proofs.Ytikfgeieaadeiad.F Go.Proofs.YtikfgeieaadeiadW.PrintWords
set_option linter.unusedSimpArgs false
set_option linter.unusedVariables false
theorem windbreakref01_cut_loop (l : List Int) (h : l.length ≤ maxLen) : ∀ n : Nat, n ≤ l.length → Evt (fun k => windbreakref01_cut.l0 k l (n : Int)) (strip (l.take n)) := by
  unfold maxLen at h
  intro n
  induction n with
  | zero =>
    intro _
    refine Evt.succ ?_
    simp only [windbreakref01_cut.l0]
    refine Evt.ite_neg (by omega) (Evt.ite_pos (by omega) (Evt.ite_pos (by omega) ?_))
    simp [strip]
    exact Evt.pure _
  | succ n ih =>
    intro hn
    refine Evt.succ ?_
    simp only [windbreakref01_cut.l0]
    rw [w64 (by omega) (by omega), show ((n + 1 : Nat) : Int) - 1 = (n : Int) from by omega]
    refine Evt.ite_pos (by omega) (Evt.ite_pos (by omega) (Evt.ite_pos (by omega) ?_))
    rw [rd_nat, List.take_succ_eq_append_getElem (show n < l.length by omega)]
    have hg : l.getD n 0 = l[n] := by simp [show n < l.length by omega]
    rw [hg]
    by_cases h0 : l[n] = 0
    · rw [h0, strip_snoc_zero]
      exact Evt.ite_pos rfl (ih (by omega))
    · rw [strip_snoc h0]
      refine Evt.ite_neg h0 (Evt.ite_pos (by omega) (Evt.ite_pos (by omega) ?_))
      rw [← List.take_succ_eq_append_getElem (show n < l.length by omega)]
      exact Evt.pure _
theorem windbreakref01_cut_ev (l : List Int) (h : l.length ≤ maxLen) : Evt (fun k => windbreakref01_cut.f k l) (strip l) := by
  have := windbreakref01_cut_loop l h l.length (Nat.le_refl _)
  exact this.congr (fun k => rfl) (by rw [List.take_length])
end Go.Proofs.Ytikfgeieaadeiad.Z

namespace Go.Proofs.Ytikfgeieaadeiad.Z
open Go.RowKit Go.Proofs.Ytikfgeieaadeiad.F Go.Proofs.YtikfgeieaadeiadW.PrintWords
set_option linter.unusedSimpArgs false
set_option linter.unusedVariables false
theorem mul_lt {x y : Int} (hx : 0 ≤ x ∧ x ≤ 65535) (hy : 0 ≤ y ∧ y ≤ 65535) : 0 ≤ x * y ∧ x * y ≤ 4294836225 := by
  have h1 := Int.mul_nonneg hx.1 hy.1
  have h2 : x * y ≤ 65535 * y := Int.mul_le_mul_of_nonneg_right hx.2 hy.1
  omega
theorem ref_mul_inner (a b : List Int) (da : Dig (b16 : Int) a) (db : Dig (b16 : Int) b) (ha : a.length ≤ 100000) (hb : b.length ≤ 100000) (i n : Nat) (hi : i < a.length) (hn : a.length - (i + 1) = n) {r : List Int}
    (next : ∀ p : List Int, p.length = i + 1 + b.length → Dig (b16 : Int) p → val (b16 : Int) p = val (b16 : Int) (a.take (i + 1)) * val (b16 : Int) b → Evt (fun k => windbreakref01_mul.l0 k a b (p ++ List.replicate n 0) ((i + 1 : Nat) : Int)) r) (m : Nat) :
    ∀ (j : Nat) (p : List Int) (c : Int), b.length - j = m → j ≤ b.length → p.length = i + b.length → Dig (b16 : Int) p → 0 ≤ c ∧ c < (b16 : Int) →
      val (b16 : Int) p + c * (b16 : Int) ^ (i + j) = val (b16 : Int) (a.take i) * val (b16 : Int) b + (b16 : Int) ^ i * a[i] * val (b16 : Int) (b.take j) →
      Evt (fun k => windbreakref01_mul.l1 k a b (p ++ List.replicate (n + 1) 0) (i : Int) c (j : Int)) r := by
  induction m with
  | zero =>
    intro j p c hj hjl hp dp hc hv
    refine Evt.succ ?_
    simp only [windbreakref01_mul.l1]
    refine Evt.ite_neg (by omega) ?_
    rw [w64 (show -9223372036854775808 ≤ (i : Int) + (b.length : Int) by omega) (by omega)]
    refine Evt.ite_pos (by omega) (Evt.ite_pos (by simp; omega) ?_)
    rw [w64 (by omega) (by omega), show ((i : Int) + (b.length : Int)).toNat = p.length from by omega, List.replicate_succ, set_at]
    have hj2 : j = b.length := by omega
    subst hj2
    rw [List.take_length] at hv
    refine (next (p ++ [c]) (by simp; omega) (Dig.append.2 ⟨dp, Dig.cons.2 ⟨hc, Dig.nil⟩⟩) ?_).congr (fun k => by rw [List.append_assoc]; rfl) rfl
    rw [val_append, hp, val_take_step (b16 : Int) a i hi]
    simp only [val, Int.mul_zero, Int.add_zero]
    generalize val (b16 : Int) (a.take i) = va at *
    generalize val (b16 : Int) b = vb at *
    generalize (b16 : Int) ^ (i + b.length) = P at *
    generalize (b16 : Int) ^ i = Q at *
    have : (va + Q * a[i]) * vb = va * vb + Q * a[i] * vb := by grind
    rw [this, ← hv, Int.mul_comm P c]
  | succ m ih =>
    intro j p c hj hjl hp dp hc hv
    have hjlt : j < b.length := by omega
    refine Evt.succ ?_
    simp only [windbreakref01_mul.l1]
    refine Evt.ite_pos (by omega) ?_
    rw [w64 (show -9223372036854775808 ≤ (i : Int) + (j : Int) by omega) (by omega)]
    refine Evt.ite_pos (by omega) (Evt.ite_pos (by simp; omega) (Evt.ite_pos (by omega) (Evt.ite_pos (by omega) (Evt.ite_pos (by omega) ?_))))
    have hx : rd a (i : Int) = a[i] := by simp [rd_nat, hi]
    have hy : rd b (j : Int) = b[j] := by simp [rd_nat, hjlt]
    have hz : rd (p ++ List.replicate (n + 1) 0) ((i : Int) + (j : Int)) = p.getD (i + j) 0 := by
      rw [rd_getD, show ((i : Int) + (j : Int)).toNat = i + j from by omega, getD_append_left (by omega)]
    have rx := da a[i] (List.getElem_mem hi)
    have ry := db b[j] (List.getElem_mem hjlt)
    have rz := dp.getD b16_pos (i + j)
    rw [hx, hy, hz, show ((i : Int) + (j : Int)).toNat = i + j from by omega, set_append_left (by omega)]
    have hB : (b16 : Int) = 65536 := rfl
    rw [hB] at rx ry rz hc
    obtain ⟨m1, m2⟩ := mul_lt (show 0 ≤ a[i] ∧ a[i] ≤ 65535 by omega) (show 0 ≤ b[j] ∧ b[j] ≤ 65535 by omega)
    have hv2 := val_set (b16 : Int) p (i + j) ((p.getD (i + j) 0 + a[i] * b[j] + c) % 65536) (by omega)
    have hvt := val_take_step (b16 : Int) b j hjlt
    generalize hxy : a[i] * b[j] = z at *
    rw [wu64_of m1 (by omega), wu64_of (show 0 ≤ p.getD (i + j) 0 + z by omega) (by omega), wu64_of (show 0 ≤ p.getD (i + j) 0 + z + c by omega) (by omega), Int.tmod_eq_emod_of_nonneg (by omega), Int.tdiv_eq_ediv_of_nonneg (by omega), wu64_of (by omega) (by omega), w64 (by omega) (by omega)]
    refine (ih (j + 1) (p.set (i + j) ((p.getD (i + j) 0 + z + c) % 65536)) ((p.getD (i + j) 0 + z + c) / 65536) (by omega) (by omega) (by simp; omega) (dp.set _ (by rw [hB]; omega)) (by rw [hB]; omega) ?_).congr (fun k => rfl) rfl
    rw [hv2, hvt]
    have hdm := Int.emod_add_mul_ediv (p.getD (i + j) 0 + z + c) 65536
    have hP : (b16 : Int) ^ (i + (j + 1)) = (b16 : Int) ^ (i + j) * 65536 := by rw [← Nat.add_assoc, Int.pow_succ]; rfl
    have hQ : (b16 : Int) ^ (i + j) = (b16 : Int) ^ i * (b16 : Int) ^ j := Int.pow_add ..
    rw [hP]
    generalize (p.getD (i + j) 0 + z + c) % 65536 = u at *
    generalize (p.getD (i + j) 0 + z + c) / 65536 = q at *
    generalize p.getD (i + j) 0 = y0 at *
    generalize val (b16 : Int) (a.take i) = va at *
    generalize val (b16 : Int) (b.take j) = vt at *
    generalize val (b16 : Int) b = vb at *
    generalize val (b16 : Int) p = vp at *
    generalize (b16 : Int) ^ (i + j) = P at *
    generalize (b16 : Int) ^ i = Q at *
    generalize (b16 : Int) ^ j = R at *
    subst hQ
    generalize a[i] = ai at *
    generalize b[j] = bj at *
    subst hxy
    have e1 : u = y0 + ai * bj + c - 65536 * q := by omega
    rw [e1]
    have e2 : vp = va * vb + Q * ai * vt - c * (Q * R) := by omega
    rw [e2]
    grind
theorem ref_mul_loop (a b : List Int) (da : Dig (b16 : Int) a) (db : Dig (b16 : Int) b) (ha : a.length ≤ 100000) (hb : b.length ≤ 100000) (n : Nat) :
    ∀ (i : Nat) (p : List Int), a.length - i = n → i ≤ a.length → p.length = i + b.length → Dig (b16 : Int) p → val (b16 : Int) p = val (b16 : Int) (a.take i) * val (b16 : Int) b →
      Evt (fun k => windbreakref01_mul.l0 k a b (p ++ List.replicate n 0) (i : Int)) (digs (num16 a * num16 b)) := by
  induction n with
  | zero =>
    intro i p hn hi hp dp hv
    refine Evt.succ ?_
    simp only [windbreakref01_mul.l0]
    refine Evt.ite_neg (by omega) ?_
    have h := windbreakref01_cut_ev (p ++ List.replicate 0 0) (by simp [maxLen]; omega)
    rw [List.replicate_zero, List.append_nil, strip_digs dp] at h
    have e : num16 p = num16 a * num16 b := by
      rw [List.take_of_length_le (by omega)] at hv
      have h1 := num16_val dp
      have h2 := num16_val da
      have h3 := num16_val db
      have : ((num16 p : Nat) : Int) = ((num16 a * num16 b : Nat) : Int) := by rw [h1, hv, Int.natCast_mul, h2, h3]
      omega
    rw [e] at h
    refine (Evt.bind h (h := fun t _ => some t) (Evt.pure _)).congr (fun k => by simp) rfl
  | succ n ih =>
    intro i p hn hi hp dp hv
    refine Evt.succ ?_
    simp only [windbreakref01_mul.l0]
    refine Evt.ite_pos (by omega) ?_
    refine ref_mul_inner a b da db ha hb i n (by omega) (by omega) (fun q h1 h2 h3 => ih (i + 1) q (by omega) (by omega) h1 h2 h3) b.length 0 p 0 (by omega) (by omega) hp dp (by decide) ?_
    simp [hv, val]
theorem ref_mul_ev (a b : List Int) (da : Dig (b16 : Int) a) (db : Dig (b16 : Int) b) (ha : a.length ≤ 100000) (hb : b.length ≤ 100000) : Evt (fun k => windbreakref01_mul.f k a b) (digs (num16 a * num16 b)) := by
  unfold windbreakref01_mul.f
  rw [w64 (show -9223372036854775808 ≤ (a.length : Int) + (b.length : Int) by omega) (by omega)]
  refine Evt.ite_pos (by omega) (Evt.ite_pos (by omega) ?_)
  refine (ref_mul_loop a b da db ha hb a.length 0 (List.replicate b.length 0) (by omega) (by omega) (by simp) (Dig.replicate b16_pos _) (by simp [val_replicate, val])).congr (fun k => ?_) rfl
  rw [show ((a.length : Int) + (b.length : Int)).toNat = b.length + a.length from by omega, List.replicate_append_replicate]
  rfl
end Go.Proofs.Ytikfgeieaadeiad.Z

namespace Go.Proofs.Ytikfgeieaadeiad.Z
open Go.RowKit Go.Proofs.Ytikfgeieaadeiad.F Go.Proofs.YtikfgeieaadeiadW.PrintWords
set_option linter.unusedSimpArgs false
set_option linter.unusedVariables false
/-- The first i digits, the highest compared first. -/
def cmpL (B : Int) (l m : List Int) : Int := if val B l < val B m then -1 else if val B l = val B m then 0 else 1
theorem val_take_succ (B : Int) (l : List Int) (i : Nat) (h : i < l.length) : val B (l.take (i + 1)) = val B (l.take i) + B ^ i * l[i] := by
  rw [List.take_succ_eq_append_getElem h, val_append]
  simp only [val, List.length_take]
  rw [show min i l.length = i from by omega, Int.mul_zero, Int.add_zero]
theorem cmp_step {B : Int} (hB : 0 < B) {l m : List Int} (hl : Dig B l) (hm : Dig B m) (i : Nat) (h1 : i < l.length) (h2 : i < m.length) :
    (l[i] < m[i] → cmpL B (l.take (i + 1)) (m.take (i + 1)) = -1) ∧ (m[i] < l[i] → cmpL B (l.take (i + 1)) (m.take (i + 1)) = 1) ∧ (l[i] = m[i] → cmpL B (l.take (i + 1)) (m.take (i + 1)) = cmpL B (l.take i) (m.take i)) := by
  have a1 := val_nonneg hB (hl.take i)
  have a2 := val_nonneg hB (hm.take i)
  have b1 := val_lt hB (hl.take i)
  have b2 := val_lt hB (hm.take i)
  rw [List.length_take, show min i l.length = i from by omega] at b1
  rw [List.length_take, show min i m.length = i from by omega] at b2
  have hp : 0 < B ^ i := Int.pow_pos hB
  unfold cmpL
  rw [val_take_succ B l i h1, val_take_succ B m i h2]
  refine ⟨fun h => ?_, fun h => ?_, fun h => ?_⟩
  · have h3 : B ^ i * (l[i] + 1) ≤ B ^ i * m[i] := Int.mul_le_mul_of_nonneg_left (by omega) (by omega)
    rw [Int.mul_add, Int.mul_one] at h3
    rw [if_pos (by omega)]
  · have h3 : B ^ i * (m[i] + 1) ≤ B ^ i * l[i] := Int.mul_le_mul_of_nonneg_left (by omega) (by omega)
    rw [Int.mul_add, Int.mul_one] at h3
    rw [if_neg (by omega), if_neg (by omega)]
  · rw [h]
    by_cases c1 : val B (l.take i) < val B (m.take i)
    · rw [if_pos c1, if_pos (by omega)]
    · by_cases c2 : val B (l.take i) = val B (m.take i)
      · rw [if_neg c1, if_pos c2, if_neg (by omega), if_pos (by omega)]
      · rw [if_neg c1, if_neg c2, if_neg (by omega), if_neg (by omega)]
theorem ref_compare_loop {B : Int} (hB : 0 < B) (l m : List Int) (hl : Dig B l) (hm : Dig B m) (hlen : l.length = m.length) (hb : l.length ≤ 1000000) : ∀ i : Nat, i ≤ l.length → Evt (fun k => windbreakref01_compare.l0 k l m ((i : Int) - 1)) (cmpL B (l.take i) (m.take i)) := by
  intro i
  induction i with
  | zero =>
    intro _
    refine Evt.succ ?_
    simp only [windbreakref01_compare.l0]
    refine Evt.ite_neg (by omega) ?_
    exact Evt.pure _
  | succ i ih =>
    intro hi
    have h1 : i < l.length := by omega
    have h2 : i < m.length := by omega
    obtain ⟨s1, s2, s3⟩ := cmp_step hB hl hm i h1 h2
    rw [show (((i + 1 : Nat) : Int) - 1) = (i : Int) from by omega]
    refine Evt.succ ?_
    simp only [windbreakref01_compare.l0]
    refine Evt.ite_pos (by omega) (Evt.ite_pos (by omega) (Evt.ite_pos (by omega) (Evt.ite_pos (by omega) ?_)))
    have e1 : rd l (i : Int) = l[i] := by simp [rd_nat, h1]
    have e2 : rd m (i : Int) = m[i] := by simp [rd_nat, h2]
    rw [e1, e2]
    by_cases c1 : l[i] < m[i]
    · rw [s1 c1]; exact Evt.ite_pos c1 (Evt.pure _)
    · by_cases c2 : m[i] < l[i]
      · rw [s2 c2]; exact Evt.ite_neg c1 (Evt.ite_pos c2 (Evt.pure _))
      · rw [s3 (by omega)]
        refine Evt.ite_neg c1 (Evt.ite_neg c2 ?_)
        rw [w64 (by omega) (by omega)]
        exact ih (by omega)
theorem ref_compare_any {B : Int} (hB : 0 < B) (l m : List Int) (hl : Dig B l) (hm : Dig B m) (cl : Can l) (cm : Can m) (hb : l.length ≤ 1000000) : Evt (fun k => windbreakref01_compare.f k l m) (cmpL B l m) := by
  unfold windbreakref01_compare.f
  by_cases hlen : l.length = m.length
  · refine Evt.ite_pos (by omega) ?_
    rw [w64 (by omega) (by omega)]
    have := ref_compare_loop hB l m hl hm hlen hb l.length (Nat.le_refl _)
    refine this.congr (fun k => rfl) ?_
    rw [List.take_length, hlen, List.take_length]
  · refine Evt.ite_neg (by omega) ?_
    by_cases h2 : l.length < m.length
    · have := val_lt_of_length hB hl hm cm h2
      have e : cmpL B l m = -1 := if_pos this
      rw [e]
      exact Evt.ite_pos (by omega) (Evt.pure _)
    · have := val_lt_of_length hB hm hl cl (by omega)
      have e : cmpL B l m = 1 := by unfold cmpL; rw [if_neg (by omega), if_neg (by omega)]
      rw [e]
      exact Evt.ite_neg (by omega) (Evt.pure _)
theorem ref_compare_ev (v w : Nat) (hv : v < lim) : Evt (fun k => windbreakref01_compare.f k (digs v) (digs w)) (cmpN v w) := by
  have hlen : (digs v).length ≤ 1000000 := Nat.le_trans (digs_len hv) (by omega)
  refine (ref_compare_any b16_pos _ _ (toD_dig b16_two v) (toD_dig b16_two w) (toD_can b16_two v) (toD_can b16_two w) hlen).congr (fun k => rfl) ?_
  unfold cmpL cmpN
  rw [val_toD b16_two, val_toD b16_two]
  simp only [Int.ofNat_lt, Int.natCast_inj]
end Go.Proofs.Ytikfgeieaadeiad.Z

namespace Go.Proofs.Ytikfgeieaadeiad.Z
open Go.RowKit Go.Proofs.Ytikfgeieaadeiad.F Go.Proofs.YtikfgeieaadeiadW.PrintWords
set_option linter.unusedSimpArgs false
set_option linter.unusedVariables false
theorem ref_digit_eq (l : List Int) (i : Nat) : windbreakref01_digit.f l (i : Int) = some (l.getD i 0) := by
  unfold windbreakref01_digit.f
  by_cases h : i < l.length
  · rw [if_pos (by omega), if_pos (by omega), rd_nat]
  · rw [if_neg (by omega)]
    simp [List.getD_eq_getElem?_getD, List.getElem?_eq_none (by omega : l.length ≤ i)]
end Go.Proofs.Ytikfgeieaadeiad.Z

namespace Go.Proofs.Ytikfgeieaadeiad.Z
open Go.RowKit Go.Proofs.Ytikfgeieaadeiad.F Go.Proofs.YtikfgeieaadeiadW.PrintWords
set_option linter.unusedSimpArgs false
set_option linter.unusedVariables false
def subL : Nat → List Int → List Int → Int → List Int
  | 0, _, _, _ => []
  | n + 1, a, b, c => (65536 + a.getD 0 0 - b.getD 0 0 - c) % 65536 :: subL n (a.drop 1) (b.drop 1) (1 - (65536 + a.getD 0 0 - b.getD 0 0 - c) / 65536)
theorem val_headS (B : Int) (b : List Int) : val B b = b.getD 0 0 + B * val B (b.drop 1) := by
  cases b with
  | nil => simp [val]
  | cons y b => simp [val]
theorem subL_len (n : Nat) : ∀ (a b : List Int) (c : Int), (subL n a b c).length = n := by
  induction n with
  | zero => intro a b c; rfl
  | succ n ih => intro a b c; simp only [subL, List.length_cons, ih]
theorem subL_facts (n : Nat) : ∀ (a b : List Int) (c : Int), Dig (b16 : Int) a → Dig (b16 : Int) b → a.length ≤ n → b.length ≤ n → (c = 0 ∨ c = 1) →
    Dig (b16 : Int) (subL n a b c) ∧ ∃ t, 0 ≤ t ∧ val (b16 : Int) (subL n a b c) = val (b16 : Int) a - val (b16 : Int) b - c + (b16 : Int) ^ n * t := by
  induction n with
  | zero =>
    intro a b c _ _ ha hb hc
    have e1 : a = [] := List.length_eq_zero_iff.1 (by omega)
    have e2 : b = [] := List.length_eq_zero_iff.1 (by omega)
    subst e1 e2
    exact ⟨Dig.nil, c, by omega, by simp [subL, val]; omega⟩
  | succ n ih =>
    intro a b c da db ha hb hc
    have h1 := da.getD b16_pos 0
    have h2 := db.getD b16_pos 0
    simp only [b16] at h1 h2
    obtain ⟨i1, t, ht, i2⟩ := ih (a.drop 1) (b.drop 1) (1 - (65536 + a.getD 0 0 - b.getD 0 0 - c) / 65536) (da.drop 1) (db.drop 1) (by simp; omega) (by simp; omega) (by omega)
    refine ⟨Dig.cons.2 ⟨by simp only [b16]; omega, i1⟩, t, ht, ?_⟩
    rw [val_headS (b16 : Int) a, val_headS (b16 : Int) b]
    simp only [subL, val]
    rw [i2, Int.pow_succ]
    generalize (b16 : Int) ^ n = P at *
    simp only [b16]
    generalize val ((65536 : Nat) : Int) (a.drop 1) = va at *
    generalize val ((65536 : Nat) : Int) (b.drop 1) = vb at *
    have h3 : ((65536 : Nat) : Int) * (va - vb - (1 - (65536 + a.getD 0 0 - b.getD 0 0 - c) / 65536) + P * t) = 65536 * va - 65536 * vb - 65536 * (1 - (65536 + a.getD 0 0 - b.getD 0 0 - c) / 65536) + P * ((65536 : Nat) : Int) * t := by grind
    rw [h3]
    omega
theorem ref_sub_loop (a b : List Int) (da : Dig (b16 : Int) a) (db : Dig (b16 : Int) b) (ha : a.length ≤ 1000000) (n : Nat) : ∀ (i : Nat) (p : List Int) (c : Int), p.length = i → i ≤ a.length → a.length - i = n → (c = 0 ∨ c = 1) →
    Evt (fun k => windbreakref01_sub.l0 k a b p c (i : Int)) (strip (p ++ subL n (a.drop i) (b.drop i) c)) := by
  induction n with
  | zero =>
    intro i p c hp hi hn hc
    refine Evt.succ ?_
    simp only [windbreakref01_sub.l0]
    refine Evt.ite_neg (by omega) ?_
    simp only [subL, List.append_nil]
    exact Evt.bind (windbreakref01_cut_ev p (by simp [maxLen]; omega)) (h := fun t _ => some t) (Evt.pure _)
  | succ n ih =>
    intro i p c hp hi hn hc
    have hlt : i < a.length := by omega
    refine Evt.succ ?_
    simp only [windbreakref01_sub.l0]
    refine Evt.ite_pos (by omega) (Evt.ite_pos (by omega) ?_)
    rw [ref_digit_eq, rd_nat]
    simp only [Option.bind_some]
    refine Evt.ite_pos (by omega) ?_
    have h1 := da.getD b16_pos i
    have h2 := db.getD b16_pos i
    simp only [b16] at h1 h2
    rw [wu64_of (show 0 ≤ 65536 + a.getD i 0 by omega) (by omega), wu64_of (show 0 ≤ 65536 + a.getD i 0 - b.getD i 0 by omega) (by omega), wu64_of (show 0 ≤ 65536 + a.getD i 0 - b.getD i 0 - c by omega) (by omega)]
    rw [Int.tmod_eq_emod_of_nonneg (by omega), Int.tdiv_eq_ediv_of_nonneg (by omega), wu64_of (show 0 ≤ (65536 + a.getD i 0 - b.getD i 0 - c) / 65536 by omega) (by omega), wu64_of (by omega) (by omega), w64 (by omega) (by omega)]
    have e1 : (a.drop i).getD 0 0 = a.getD i 0 := by simp [List.getD_eq_getElem?_getD]
    have e2 : (b.drop i).getD 0 0 = b.getD i 0 := by simp [List.getD_eq_getElem?_getD]
    refine (ih (i + 1) (p ++ [(65536 + a.getD i 0 - b.getD i 0 - c) % 65536]) (1 - (65536 + a.getD i 0 - b.getD i 0 - c) / 65536) (by simp [hp]) (by omega) (by omega) (by omega)).congr (fun k => rfl) ?_
    simp only [subL, e1, e2, List.drop_drop, List.append_assoc, List.singleton_append]
theorem ref_sub_ev (v w : Nat) (hv : v < lim) (hle : w ≤ v) : Evt (fun k => windbreakref01_sub.f k (digs v) (digs w)) (digs (v - w)) := by
  have h1 := digs_len hv
  have d1 := toD_dig b16_two v
  have d2 := toD_dig b16_two w
  have hlen : (digs w).length ≤ (digs v).length := by
    rw [toD_len_iff b16_two]
    exact Nat.lt_of_le_of_lt hle (toD_lt_pow b16_two v)
  have h := ref_sub_loop (digs v) (digs w) d1 d2 (by omega) (digs v).length 0 [] 0 rfl (Nat.zero_le _) (by omega) (Or.inl rfl)
  refine h.congr (fun k => rfl) ?_
  obtain ⟨f1, t, ht, f2⟩ := subL_facts (digs v).length (digs v) (digs w) 0 d1 d2 (Nat.le_refl _) hlen (Or.inl rfl)
  rw [List.nil_append, List.drop_zero, List.drop_zero, strip_digs f1]
  rw [val_toD b16_two, val_toD b16_two, pow_cast] at f2
  have h4 := val_lt b16_pos f1
  rw [subL_len, pow_cast] at h4
  have ht0 : t = 0 := by
    by_cases e : t = 0
    · exact e
    · have h5 : ((b16 ^ (digs v).length : Nat) : Int) * 1 ≤ ((b16 ^ (digs v).length : Nat) : Int) * t := Int.mul_le_mul_of_nonneg_left (by omega) (by omega)
      omega
  subst ht0
  rw [Int.mul_zero] at f2
  unfold num16
  rw [f2]
  congr 1
  omega
end Go.Proofs.Ytikfgeieaadeiad.Z

namespace Go.Proofs.Ytikfgeieaadeiad.Z
open Go.RowKit Go.Proofs.Ytikfgeieaadeiad.F Go.Proofs.YtikfgeieaadeiadW.PrintWords
set_option linter.unusedSimpArgs false
set_option linter.unusedVariables false
theorem dig_one16 {x : Int} (h : 0 ≤ x ∧ x < 65536) : Dig (b16 : Int) [x] := Dig.cons.2 ⟨h, Dig.nil⟩
theorem num16_one {x : Int} (h : 0 ≤ x) : num16 [x] = x.toNat := by simp [num16, val]
/-- The halving: the greatest digit whose product is not above X. -/
theorem ref_div_halve (a : List Int) (w X : Nat) (q : List Int) (i : Nat) (hw : 0 < w) (hwl : w * 65536 < lim) (hX : X < lim) {r : List Int × List Int} (hq : q.length = a.length) (hi : i < a.length)
    (next : ∀ d : Nat, d < 65536 → d * w ≤ X → X < (d + 1) * w → Evt (fun k => windbreakref01_div.l0 k a (digs w) (q.set i (d : Int)) (digs (X - d * w)) ((i : Int) - 1)) r) (ha : a.length ≤ 100000) (n : Nat) :
    ∀ lo hi_ : Nat, hi_ - lo = n → lo ≤ hi_ → hi_ ≤ 65535 → lo * w ≤ X → X < (hi_ + 1) * w →
      Evt (fun k => windbreakref01_div.l1 k a (digs w) q (digs X) (i : Int) (lo : Int) (hi_ : Int)) r := by
  have hwlim : w < lim := by omega
  have hwd := digs_len hwlim
  have mulm : ∀ m : Nat, m < 65536 → Evt (fun k => windbreakref01_mul.f k (digs w) [(m : Int)]) (digs (m * w)) := by
    intro m hm
    refine (ref_mul_ev (digs w) [(m : Int)] (toD_dig b16_two w) (dig_one16 (by omega)) (by omega) (by simp)).congr (fun k => rfl) ?_
    rw [num16_digs, num16_one (by omega), Int.toNat_natCast, Nat.mul_comm]
  induction n using Nat.strongRecOn with
  | _ n ih =>
    intro lo hi_ hn hle h5 hlo hhi
    refine Evt.succ ?_
    simp only [windbreakref01_div.l1]
    by_cases hlt : lo < hi_
    · refine Evt.ite_pos (by omega) ?_
      have em : IntKind.u64.wrap (Int.tdiv (IntKind.u64.wrap (IntKind.u64.wrap ((lo : Int) + (hi_ : Int)) + 1)) 2) = (((lo + hi_ + 1) / 2 : Nat) : Int) := by
        rw [wu64_of (show 0 ≤ (lo : Int) + (hi_ : Int) by omega) (by omega), wu64_of (show 0 ≤ (lo : Int) + (hi_ : Int) + 1 by omega) (by omega), Int.tdiv_eq_ediv_of_nonneg (by omega), wu64_of (by omega) (by omega)]
        omega
      rw [em]
      generalize hm : (lo + hi_ + 1) / 2 = m
      have hm1 : lo < m ∧ m ≤ hi_ := by omega
      refine Evt.bind (mulm m (by omega)) ?_
      have hmw : m * w < lim := by
        have : m * w ≤ 65536 * w := Nat.mul_le_mul_right w (by omega)
        rw [Nat.mul_comm] at hwl
        omega
      refine Evt.bind (ref_compare_ev (m * w) X hmw) ?_
      by_cases hc : m * w ≤ X
      · refine Evt.ite_pos ?_ ?_
        · unfold cmpN
          by_cases h1 : m * w < X
          · rw [if_pos h1]; omega
          · rw [if_neg h1, if_pos (by omega)]; omega
        · exact ih (hi_ - m) (by omega) m hi_ rfl (by omega) h5 hc hhi
      · refine Evt.ite_neg ?_ ?_
        · unfold cmpN
          rw [if_neg (by omega), if_neg (by omega)]; omega
        · have e : IntKind.u64.wrap ((m : Int) - 1) = ((m - 1 : Nat) : Int) := by rw [wu64_of (by omega) (by omega)]; omega
          rw [e]
          refine ih (m - 1 - lo) (by omega) lo (m - 1) rfl (by omega) (by omega) hlo ?_
          rw [show m - 1 + 1 = m from by omega]
          omega
    · refine Evt.ite_neg (by omega) (Evt.ite_pos (by omega) (Evt.ite_pos (by omega) ?_))
      have e : lo = hi_ := by omega
      subst e
      refine Evt.bind (mulm lo (by omega)) ?_
      refine Evt.bind (ref_sub_ev X (lo * w) hX hlo) ?_
      rw [w64 (by omega) (by omega)]
      refine (next lo (by omega) hlo hhi).congr (fun k => rfl) rfl
theorem ref_div_loop (a : List Int) (da : Dig (b16 : Int) a) (w : Nat) (hw : 0 < w) (hwl : w * 65536 < lim) (ha : a.length ≤ 100000) (hb : b16 ^ a.length ≤ lim) (n : Nat) :
    ∀ (Q : List Int) (R : Nat), Dig (b16 : Int) Q → Q.length = a.length - n → n ≤ a.length → R < w → num16 (a.drop n) = num16 Q * w + R →
      Evt (fun k => windbreakref01_div.l0 k a (digs w) (List.replicate n 0 ++ Q) (digs R) ((n : Int) - 1)) (digs (num16 a / w), digs (num16 a % w)) := by
  induction n with
  | zero =>
    intro Q R dQ hQ hn hR hv
    refine Evt.succ ?_
    simp only [windbreakref01_div.l0]
    refine Evt.ite_neg (by omega) ?_
    rw [List.replicate_zero, List.nil_append]
    rw [List.drop_zero] at hv
    have h := windbreakref01_cut_ev Q (by simp [maxLen]; omega)
    rw [strip_digs dQ] at h
    have e1 : num16 Q = num16 a / w := by
      rw [hv, Nat.mul_comm, Nat.mul_add_div hw, Nat.div_eq_of_lt hR, Nat.add_zero]
    have e2 : R = num16 a % w := by
      rw [hv, Nat.mul_comm, Nat.mul_add_mod, Nat.mod_eq_of_lt hR]
    rw [← e1, ← e2]
    exact Evt.bind h (h := fun t _ => some (t, digs R)) (Evt.pure _)
  | succ n ih =>
    intro Q R dQ hQ hn hR hv
    have hlt : n < a.length := by omega
    refine Evt.succ ?_
    simp only [windbreakref01_div.l0]
    rw [show ((n + 1 : Nat) : Int) - 1 = (n : Int) from by omega]
    refine Evt.ite_pos (by omega) (Evt.ite_pos (by omega) (Evt.ite_pos (by omega) ?_))
    simp only [Option.bind_some]
    have hx : rd a (n : Int) = a[n] := by simp [rd_nat, hlt]
    rw [hx]
    have rx := da a[n] (List.getElem_mem hlt)
    have hRl : R < lim := by omega
    have hRd := digs_len hRl
    refine Evt.ite_pos (by simp; omega) ?_
    have dX : Dig (b16 : Int) ([a[n]] ++ digs R) := Dig.cons.2 ⟨rx, toD_dig b16_two R⟩
    have hXn : num16 ([a[n]] ++ digs R) = a[n].toNat + 65536 * R := by
      have h1 := num16_val dX
      have h2 : val (b16 : Int) ([a[n]] ++ digs R) = a[n] + (b16 : Int) * val (b16 : Int) (digs R) := rfl
      rw [h2, val_toD b16_two] at h1
      simp only [b16] at h1 rx
      omega
    have h := windbreakref01_cut_ev ([a[n]] ++ digs R) (by simp [maxLen]; omega)
    rw [strip_digs dX, hXn] at h
    refine Evt.bind h ?_
    generalize hX : a[n].toNat + 65536 * R = X
    have hXw : X < 65536 * w := by
      simp only [b16] at rx
      have : 65536 * (R + 1) ≤ 65536 * w := Nat.mul_le_mul_left _ hR
      omega
    have hq1 : List.replicate (n + 1) (0 : Int) ++ Q = List.replicate n 0 ++ (0 :: Q) := by rw [List.replicate_succ', List.append_assoc]; rfl
    rw [hq1]
    refine ref_div_halve a w X _ n hw hwl (by rw [Nat.mul_comm] at hwl; omega) (by simp; omega) hlt ?_ ha 65535 0 65535 rfl (by omega) (by omega) (by omega) (by omega)
    intro d hd h1 h2
    have hs : (List.replicate n (0 : Int) ++ 0 :: Q).set n (d : Int) = List.replicate n 0 ++ ((d : Int) :: Q) := by
      have := set_at (List.replicate n (0 : Int)) 0 (d : Int) Q
      rw [List.length_replicate] at this
      exact this
    rw [hs]
    have dQ2 : Dig (b16 : Int) ((d : Int) :: Q) := Dig.cons.2 ⟨by simp only [b16]; omega, dQ⟩
    refine ih ((d : Int) :: Q) (X - d * w) dQ2 (by simp; omega) (by omega) ?_ ?_
    · rw [Nat.add_mul, Nat.one_mul] at h2
      omega
    · have dA : Dig (b16 : Int) (a.drop n) := da.drop n
      have g1 := num16_val dA
      have g2 := num16_val (da.drop (n + 1))
      have g3 := num16_val dQ2
      have g4 := num16_val dQ
      rw [List.drop_eq_getElem_cons hlt] at g1 ⊢
      simp only [val] at g1 g3
      rw [← g2] at g1
      rw [← g4] at g3
      rw [hv] at g1
      simp only [b16] at g1 g3 rx
      have g5 : num16 ((d : Int) :: Q) = d + 65536 * num16 Q := by omega
      rw [g5]
      generalize num16 Q = Qn at *
      have g6 : (d + 65536 * Qn) * w = d * w + 65536 * (Qn * w) := by rw [Nat.add_mul, Nat.mul_assoc]
      rw [g6]
      generalize Qn * w = z at *
      generalize d * w = y at *
      omega
theorem ref_div_ev (v w : Nat) (hv : v < lim) (hw : 0 < w) (hwl : w * 65536 < lim) : Evt (fun k => windbreakref01_div.f k (digs v) (digs w)) (digs (v / w), digs (v % w)) := by
  have hd := digs_len hv
  unfold windbreakref01_div.f
  refine Evt.ite_pos (by omega) (Evt.ite_pos (by omega) ?_)
  rw [w64 (by omega) (by omega)]
  have hb : b16 ^ (digs v).length ≤ lim := by
    have h : lim = b16 ^ (4 * thousand) := by
      unfold lim
      rw [b64_pow, ← Nat.pow_mul]
    rw [h]
    exact Nat.pow_le_pow_right (by decide) hd
  have h := ref_div_loop (digs v) (toD_dig b16_two v) w hw hwl (by omega) hb (digs v).length [] 0 Dig.nil (by simp) (Nat.le_refl _) hw (by rw [List.drop_length]; simp [num16_nil])
  rw [num16_digs] at h
  refine h.congr (fun k => ?_) rfl
  rw [List.append_nil, Int.toNat_natCast, show digs 0 = [] from toD_zero b16]
end Go.Proofs.Ytikfgeieaadeiad.Z

namespace Go.Proofs.Ytikfgeieaadeiad.Z
open Go.RowKit Go.Proofs.Ytikfgeieaadeiad.F Go.Proofs.YtikfgeieaadeiadW.PrintWords
set_option linter.unusedSimpArgs false
set_option linter.unusedVariables false
def dg (x : Int) : List Int := [x % 65536, x / 65536 % 65536, x / 65536 / 65536 % 65536, x / 65536 / 65536 / 65536 % 65536]
theorem wdiv {x : Int} (h0 : 0 ≤ x) (h1 : x < 18446744073709551616) (c : Int) (hc : 0 < c) : IntKind.u64.wrap (Int.tdiv x c) = x / c := by
  rw [Int.tdiv_eq_ediv_of_nonneg h0]
  have h2 := Int.ediv_nonneg h0 (Int.le_of_lt hc)
  have h3 := Int.ediv_le_self c h0
  exact wu64_of h2 (by omega)
theorem in_step (a d : List Int) (i : Nat) (x : Int) (hx : 0 ≤ x ∧ x < 18446744073709551616) (hd : d.length ≤ 1000000) (hi : i ≤ 1000000) {r : List Int}
    (h : Evt (fun k => windbreakref01_In.l0 k a (d ++ dg x) ((i + 1 : Nat) : Int)) r) : Evt (fun k => windbreakref01_In.l1 k a d (i : Int) x 0) r := by
  refine Evt.succ ?_
  simp only [windbreakref01_In.l1]
  refine Evt.ite_pos (by omega) (Evt.ite_pos (by omega) ?_)
  rw [Int.tmod_eq_emod_of_nonneg hx.1, wdiv hx.1 hx.2 65536 (by omega), w64 (by omega) (by omega)]
  refine Evt.succ ?_
  simp only [windbreakref01_In.l1]
  refine Evt.ite_pos (by omega) (Evt.ite_pos (by simp; omega) ?_)
  rw [Int.tmod_eq_emod_of_nonneg (show 0 ≤ x / 65536 by omega), wdiv (show 0 ≤ x / 65536 by omega) (by omega) 65536 (by omega), w64 (by omega) (by omega)]
  refine Evt.succ ?_
  simp only [windbreakref01_In.l1]
  refine Evt.ite_pos (by omega) (Evt.ite_pos (by simp; omega) ?_)
  rw [Int.tmod_eq_emod_of_nonneg (show 0 ≤ x / 65536 / 65536 by omega), wdiv (show 0 ≤ x / 65536 / 65536 by omega) (by omega) 65536 (by omega), w64 (by omega) (by omega)]
  refine Evt.succ ?_
  simp only [windbreakref01_In.l1]
  refine Evt.ite_pos (by omega) (Evt.ite_pos (by simp; omega) ?_)
  rw [Int.tmod_eq_emod_of_nonneg (show 0 ≤ x / 65536 / 65536 / 65536 by omega), wdiv (show 0 ≤ x / 65536 / 65536 / 65536 by omega) (by omega) 65536 (by omega), w64 (by omega) (by omega)]
  refine Evt.succ ?_
  simp only [windbreakref01_In.l1]
  refine Evt.ite_neg (by omega) ?_
  rw [w64 (by omega) (by omega)]
  refine h.congr (fun k => ?_) rfl
  simp [dg]
theorem in_loop (a : List Int) (ha : a.length ≤ 1000) (hd : Dig (b64 : Int) a) (n : Nat) : ∀ i : Nat, i ≤ a.length → a.length - i = n → Evt (fun k => windbreakref01_In.l0 k a ((a.take i).flatMap dg) (i : Int)) (strip (a.flatMap dg)) := by
  have hlen : ∀ l : List Int, (l.flatMap dg).length = 4 * l.length := by
    intro l
    induction l with
    | nil => rfl
    | cons x l ih => simp only [List.flatMap_cons, List.length_append, ih, dg, List.length_cons, List.length_nil]; omega
  induction n with
  | zero =>
    intro i hi hn
    refine Evt.succ ?_
    simp only [windbreakref01_In.l0]
    refine Evt.ite_neg (by omega) ?_
    rw [List.take_of_length_le (by omega)]
    refine Evt.bind (windbreakref01_cut_ev _ (by rw [hlen]; simp [maxLen]; omega)) (h := fun t _ => some t) (Evt.pure _)
  | succ n ih =>
    intro i hi hn
    have hlt : i < a.length := by omega
    refine Evt.succ ?_
    simp only [windbreakref01_In.l0]
    refine Evt.ite_pos (by omega) (Evt.ite_pos (by omega) ?_)
    have hx : rd a (i : Int) = a[i] := by simp [rd_nat, hlt]
    have hr := hd a[i] (List.getElem_mem hlt)
    rw [hx]
    refine in_step a _ i _ hr (by rw [hlen, List.length_take]; omega) (by omega) ?_
    have := ih (i + 1) (by omega) (by omega)
    rw [List.take_succ_eq_append_getElem hlt, List.flatMap_append] at this
    refine this.congr (fun k => ?_) rfl
    simp
theorem ref_In_ev (a : List Int) (ha : a.length ≤ 1000) (hd : Dig (b64 : Int) a) : Evt (fun k => windbreakref01_In.f k a) (digs (num a)) := by
  have h := in_loop a ha hd a.length 0 (Nat.zero_le _) (by omega)
  obtain ⟨m, hm, _, hv, he⟩ := val_base a hd
  refine h.congr (fun k => rfl) ?_
  have e2 : a.flatMap dg = m := he.symm
  rw [e2, strip_digs hm]
  unfold num16 num
  rw [hv]
end Go.Proofs.Ytikfgeieaadeiad.Z

namespace Go.Proofs.Ytikfgeieaadeiad.Z
open Go.RowKit Go.Proofs.Ytikfgeieaadeiad.F Go.Proofs.YtikfgeieaadeiadW.PrintWords
set_option linter.unusedSimpArgs false
set_option linter.unusedVariables false
theorem windbreakref01_Right_eq {l : List Int} (h : l.length ≤ maxLen) : windbreakref01_Right.f l = some (rightB l) := by
  unfold maxLen at h
  unfold windbreakref01_Right.f rightB
  by_cases h1 : l.length ≤ 64
  · rw [if_pos (by omega)]
    by_cases h2 : l.length = 0
    · rw [if_pos (by omega)]
      simp [h1, h2]
    · rw [if_neg (by omega), w64 (by omega) (by omega), if_pos (by omega), if_pos (by omega), rd_getD]
      rw [show ((l.length : Int) - 1).toNat = l.length - 1 from by omega]
      have h3 : (l.length == 0) = false := by simpa using h2
      rw [h3]
      simp [h1]
  · rw [if_neg (by omega)]
    simp [h1]
end Go.Proofs.Ytikfgeieaadeiad.Z

namespace Go.Proofs.Ytikfgeieaadeiad.Z
open Go.RowKit Go.Proofs.Ytikfgeieaadeiad.F Go.Proofs.YtikfgeieaadeiadW.PrintWords
set_option linter.unusedSimpArgs false
set_option linter.unusedVariables false
theorem ref_Text_l1 (L : List Int) (hL : L.length ≤ 1000000) (n : Nat) : ∀ (x : List Int) (i : Nat), L.length - i = n → i ≤ L.length → Rv L x i →
    Evt (fun k => windbreakref01_Text.l1 k x (i : Int)) (strOfNums L.reverse) := by
  induction n with
  | zero =>
    intro x i hn hi h
    have hl := h.1
    refine Evt.succ ?_
    simp only [windbreakref01_Text.l1]
    rw [hl, w64 (x := (L.length : Int) / 2) (by omega) (by omega)]
    refine Evt.ite_neg (by omega) ?_
    rw [h.done (by omega)]
    exact Evt.pure _
  | succ n ih =>
    intro x i hn hi h
    have hl := h.1
    refine Evt.succ ?_
    simp only [windbreakref01_Text.l1]
    rw [hl, w64 (x := (L.length : Int) / 2) (by omega) (by omega), w64 (x := (L.length : Int) - 1) (by omega) (by omega), w64 (x := (L.length : Int) - 1 - (i : Int)) (by omega) (by omega)]
    by_cases hc : (i : Int) < (L.length : Int) / 2
    · refine Evt.ite_pos hc (Evt.ite_pos (by omega) (Evt.ite_pos (by omega) (Evt.ite_pos (by omega) (Evt.ite_pos (by omega) ?_))))
      rw [w64 (by omega) (by omega), rd_nat, rd_getD, Int.toNat_natCast, show ((L.length : Int) - 1 - (i : Int)).toNat = L.length - 1 - i from by omega]
      exact (ih _ (i + 1) (by omega) (by omega) (h.step (by omega))).congr (fun k => rfl) rfl
    · refine Evt.ite_neg hc ?_
      rw [h.done (by omega)]
      exact Evt.pure _
theorem digs_ten : digs 10 = [10] := by
  rw [show digs 10 = (((10 % b16 : Nat) : Nat) : Int) :: toD b16 (10 / b16) from toD_pos b16_two (by decide), show 10 / b16 = 0 from by decide, toD_zero]
  rfl
theorem ref_Text_l0 (v : Nat) : ∀ out : List Int, v < lim → out.length + (letters v).length ≤ 1000000 → Evt (fun k => windbreakref01_Text.l0 k (digs v) out) (strOfNums (out ++ letters v).reverse) := by
  induction v using Nat.strongRecOn with
  | _ v ih =>
    intro out hv ho
    refine Evt.succ ?_
    simp only [windbreakref01_Text.l0]
    by_cases h0 : v = 0
    · subst h0
      rw [letters_zero, List.append_nil]
      rw [show digs 0 = [] from toD_zero b16]
      refine Evt.ite_neg (by simp) ?_
      exact ref_Text_l1 out (by omega) out.length out 0 (by omega) (Nat.zero_le _) (Rv.zero out)
    · have hne : digs v ≠ [] := fun e => h0 ((toD_eq_nil b16_two).1 e)
      have hp := List.length_pos_iff.2 hne
      refine Evt.ite_pos (by omega) ?_
      have hd := ref_div_ev v 10 hv (by omega) (Nat.lt_of_lt_of_le (by decide : 10 * 65536 < b64 ^ 1) (lim_pow (by omega)))
      rw [digs_ten] at hd
      refine Evt.bind hd ?_
      have hdg : (digs (v % 10)).getD 0 0 = ((v % 10 : Nat) : Int) := by
        have := toD_getD b16_two 0 (v % 10)
        rw [show digs (v % 10) = toD b16 (v % 10) from rfl, this, Nat.pow_zero, Nat.div_one, Nat.mod_eq_of_lt]
        simp only [b16]; omega
      have hg : windbreakref01_digit.f (digs (v % 10)) 0 = some ((v % 10 : Nat) : Int) := by rw [← hdg]; exact ref_digit_eq (digs (v % 10)) 0
      simp only [hg]
      refine Evt.bind (Evt.pure ((v % 10 : Nat) : Int)) ?_
      · rw [letters_pos (by omega)] at ho ⊢
        have hlen : out.length < 140737488355328 := by omega
        refine Evt.ite_pos hlen ?_
        rw [show IntKind.u64.wrap (48 + ((v % 10 : Nat) : Int)) % 256 = 48 + ((v % 10 : Nat) : Int) from by rw [wu64_of (by omega) (by omega)]; omega]
        have h := ih (v / 10) (by omega) (out ++ [48 + ((v % 10 : Nat) : Int)]) (by omega) (by simp at ho ⊢; omega)
        rw [List.append_assoc, List.singleton_append] at h
        exact h
theorem ref_Text_ev (a : List Int) (ha : a.length ≤ maxLen) (da : Dig (b64 : Int) a) : Evt (fun k => windbreakref01_Text.f k a) (textV a) := by
  unfold windbreakref01_Text.f textV
  rw [windbreakref01_Right_eq ha]
  simp only [Option.bind_some]
  cases hA : rightB a with
  | true =>
    obtain ⟨h1, c1⟩ := (rightB_iff a).1 hA
    rw [if_pos rfl]
    refine Evt.ite_pos rfl ?_
    by_cases h0 : a.length = 0
    · obtain rfl : a = [] := List.length_eq_zero_iff.1 h0
      rw [num_nil, letters_zero]
      exact Evt.ite_pos rfl (Evt.pure _)
    · refine Evt.ite_neg (by omega) ?_
      refine Evt.bind (ref_In_ev a (by omega) da) ?_
      have h2 := letters_len (num_lt da)
      have hne : letters (num a) ≠ [] := by
        have hn0 : num a ≠ 0 := by
          intro e
          have h3 := limbs_num da c1
          rw [e, show limbs 0 = [] from toD_zero b64] at h3
          rw [← h3] at h0
          exact h0 rfl
        rw [letters_pos (by omega)]
        simp
      have h := ref_Text_l0 (num a) [] (num_lt_lim da (by omega)) (by simp; omega)
      rw [List.nil_append] at h
      unfold textL
      rw [if_neg hne]
      exact h
  | false =>
    rw [if_neg (by simp)]
    exact Evt.ite_neg (by simp) (Evt.pure _)
end Go.Proofs.Ytikfgeieaadeiad.Z

namespace Go.Proofs.Ytikfgeieaadeiad.Pure
open Go.RowKit Go.Proofs.Ytikfgeieaadeiad.F Go.Proofs.Ytikfgeieaadeiad.Z
set_option linter.unusedSimpArgs false
set_option linter.unusedVariables false
theorem text_one : (textV [1]).toList = [49] := by
  have e : textV [1] = strOfNums [49] := by
    unfold textV
    rw [if_pos (by decide), num_one (by omega), show (1 : Int).toNat = 1 from rfl, letters_pos (by omega), show 1 / 10 = 0 from rfl, letters_zero]
    rfl
  rw [e]
  first | decide +kernel | (simp [strOfNums, ByteArray.toList, ByteArray.toList.loop]; done) | rfl
theorem NatTexts : windbreaklaw01_NatTexts.Pure := by
  intro a ha _ wa
  apply Evt.get
  have da := dig_of_wf wa
  have d1 : Dig (b64 : Int) [1] := by intro x hx; simp at hx; subst hx; decide
  unfold windbreaklaw01_NatTexts.f
  refine Evt.bind (few_ev [a] (by simp [maxLen])) ?_
  refine Evt.cond' (fun _ => ?_) (fun _ => Evt.pure _)
  refine Evt.bind (nat_Text_ev [1] (by simp [maxLen]) d1) ?_
  refine Evt.bind (nat_Text_ev a ha da) ?_
  refine Evt.ite_pos text_one ?_
  refine Evt.bind (ref_Text_ev a ha da) ?_
  have e : ((textV a).toList == (textV a).toList) = true := beq_iff_eq.mpr rfl
  rw [e]
  exact Evt.pure _
end Go.Proofs.Ytikfgeieaadeiad.Pure

namespace Go.Proofs.Ytikfgeieaadeiad.natTexts
open Go.ChangeShapes Go.WideShapes Go.ChangeAt Go.RowKit
open Go.ChangeMaps (open_string shut_string)
set_option linter.unusedVariables false
theorem own : ownKnob Try.prog.godebug = none := by kernel_rfl
theorem laidOut : laidOutB Try.prog = true := by kernel_rfl
def IsRow (k : IntKind) (w : World) (a : Option Addr) (len cap : Nat) (zs : List Int) : Prop :=
  (a = none ∧ len = 0 ∧ cap = 0 ∧ zs = []) ∨
  ∃ x, a = some x ∧ len ≤ cap ∧ cap ≤ maxLen ∧ zs.length = cap ∧ (∀ i, i < zs.length → w.cell? (x.add i) = some (.int k (zs.getD i 0))) ∧ ∀ n ∈ zs, (Lit.int k n).wf = true
set_option maxRecDepth 100000 in
theorem lifted (os : Os) (started : os.Started) (H : Type) (enc : TypeId × Value → H) :
    ReturnsInHanded {} Try.checked os 3 .any (Rows.natTextsSpec.pre6 enc Try.prog Try.f3 Rows.natTextsRow.domain false) (Rows.natTextsSpec.post enc Try.prog Try.f3 false true false false) := by
  refine returnsInHanded_of_change_sized (C := Try.checked) own started (by kernel_rfl) Try.func3
    (ChangeSpec.witness6 (enc := enc) (C := Try.checked) false ⟨#[], #[.slice none 0 0], []⟩ 8 (by kernel_rfl) (by kernel_rfl) (by kernel_rfl) (by kernel_rfl)) ?_
  intro W base args ds gs before hval0 hW hcnd hsz0 _
  have hsz : (DataW.weightsEach Try.prog (Try.f3.params.toList ++ Rows.natTextsSpec.plain.varTypes Try.prog) (ds ++ gs)).all (· ≤ reachBytes) = true := hsz0
  have hval : ∀ (j : Nat) t v, Try.f3.params[j]? = some t → args[j]? = some v → Value.okWide Try.prog W .any base t v := hval0
  have hW' := hW
  obtain ⟨p, q, hA0, hV, rfl, hfz, hnd⟩ := hW
  have hA : DataW.TrodAll enc Try.prog W 0 (fun _ => true) true Try.f3.params.toList args.toList ds p := hA0
  rw [Try.params3] at hA hval hsz
  obtain ⟨v0, vs0, d0, ds0, p0, q0, hargs, rfl, rfl, h0, r0⟩ := trodAll_cons hA
  obtain ⟨rfl, rfl, rfl⟩ := trodAll_nil r0
  obtain rfl : args = #[v0] := by cases args; simp_all
  obtain ⟨rfl, rfl⟩ := trodVars_none hV
  obtain ⟨a0, len0, cap0, rfl⟩ := okWide_slice Try.underlying23 (hval 0 23 v0 rfl rfl)
  have k0 := h0
  have lt0 : ∀ x ∈ p0, x.block < W.heap.size := by obtain ⟨m, hm⟩ := k0; exact DataW.trod_lt m _ _ _ hm
  obtain ⟨z0, w0⟩ : ∃ zs, IsRow .u64 W a0 len0 cap0 zs := by
    obtain ⟨fuel, hf⟩ := h0
    rcases open_ints Try.underlying23 Try.underlying26 (by kernel_rfl) hf with ⟨hcs, _⟩ | ⟨x, l, c, zs, hcs, _, hl, hm, hz, _, hcell, hwz⟩
    · simp [Value.cells] at hcs
      obtain ⟨rfl, rfl, rfl⟩ := hcs
      exact ⟨[], .inl ⟨rfl, rfl, rfl, rfl⟩⟩
    · simp [Value.cells] at hcs
      obtain ⟨rfl, rfl, rfl⟩ := hcs
      exact ⟨zs, .inr ⟨_, rfl, hl, hm, by simpa using hz, hcell, hwz⟩⟩
  have y0 : len0 * 8 ≤ 140737488351232 := Go.Proofs.YtikfgeieaadeiadW.PrintWords.sized_ints hsz (j := 0) (t := 23) rfl rfl Try.underlying23 Try.underlying26 (by kernel_rfl) (by kernel_rfl) h0
  clear hA0 hval0 hsz0 hsz
  refine (F.windbreaklaw01_NatTexts.walk Pure.NatTexts a0 len0 cap0 z0 W w0 y0).mono fun e W' ⟨he, bel⟩ => ?_
  subst he
  exact ⟨_, rfl, _, _, _, [], _, [], hW', trodAll_mk1 (shut_bool Try.underlying4 _), (trodAll_cons_mk (Below.trod laidOut (by kernel_rfl) (of_decide_eq_true (by kernel_rfl)) k0 bel lt0) trodAll_mk0), rfl, bel.frame _, fun h => by cases h⟩
theorem over : Rows.natTextsRow.holds Try.pinned (OpenSpec.ofChange Rows.natTextsSpec) :=
  OpenClaim.holds_of_wide 3 Try.f3 rfl rfl rfl rfl rfl rfl rfl ⟨rfl, rfl, rfl, rfl, rfl⟩ rfl rfl rfl rfl rfl (by kernel_rfl) Try.func3 (by kernel_rfl)
    (of_decide_eq_true (by kernel_rfl)) (by unfold Func.isWrapper; first | (rw [if_pos (by decide +kernel)]; kernel_rfl) | (rw [if_neg (by decide +kernel)]; exact ⟨rfl, rfl⟩))
    (fun os started H enc _ => lifted os started H enc)
theorem proved : Rows.NatTextsSaid := over
#print axioms proved
end Go.Proofs.Ytikfgeieaadeiad.natTexts
namespace Go.Proofs.Ytikfgeieaadeiad
/-- The row, under a short name, for the claim. -/
theorem natTexts_holds : Rows.NatTextsSaid := natTexts.proved
end Go.Proofs.Ytikfgeieaadeiad
