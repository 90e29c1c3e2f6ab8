/- Proved: the law FixencBack of layer 7, the stage's theorem: what was encoded, or packed, is told again; for every input, without a condition. -/
import Derived.Test.YtgeanpnkllnipabMFixencBacke
import Derived.Test.YtgeanpnkllnipabRows
import Derived.WalkKit
import Derived.ProofKit
import Derived.OpenShut
import Derived.ShutString
import Derived.ChangeOld
import Derived.Below
import Derived.SizedLaws
import Derived.Lib.SmallJoins
import Derived.ChangeArms
section
namespace Go.Proofs.Ytgeanpnkllnipab.fixencBack
open Go.ChangeShapes Go.WideShapes Go.ChangeAt Go.RowKit
open Go.ChangeMaps (open_string shut_string)
set_option linter.unusedVariables false
theorem own : ownKnob Try.prog.godebug = none := by kernel_rfl
theorem laidOut : laidOutB Try.prog = true := by kernel_rfl
def IsRow (k : IntKind) (w : World) (a : Option Addr) (len cap : Nat) (zs : List Int) : Prop :=
  (a = none ∧ len = 0 ∧ cap = 0 ∧ zs = []) ∨
  ∃ x, a = some x ∧ len ≤ cap ∧ cap ≤ maxLen ∧ zs.length = cap ∧ (∀ i, i < zs.length → w.cell? (x.add i) = some (.int k (zs.getD i 0))) ∧ ∀ n ∈ zs, (Lit.int k n).wf = true
set_option maxRecDepth 100000 in
theorem lifted (os : Os) (started : os.Started) (H : Type) (enc : TypeId × Value → H) :
    ReturnsInHanded {} Try.checked os 13 .any (Rows.fixencBackSpec.pre6 enc Try.prog Try.f13 Rows.fixencBackRow.domain false) (Rows.fixencBackSpec.post enc Try.prog Try.f13 false true false false) := by
  refine returnsInHanded_of_change_sized (C := Try.checked) own started (by kernel_rfl) Try.func13
    (ChangeSpec.witness6 (enc := enc) (C := Try.checked) false ⟨#[], #[.slice none 0 0, .agg #[.bool false, .slice none 0 0], .agg #[.int .i64 0, .int .i64 0, .int .i64 0]], []⟩ 8 (by kernel_rfl) (by kernel_rfl) (by kernel_rfl) (by kernel_rfl)) ?_
  intro W base args ds gs before hval0 hW hcnd hsz0 _
  have hsz : (DataW.weightsEach Try.prog (Try.f13.params.toList ++ Rows.fixencBackSpec.plain.varTypes Try.prog) (ds ++ gs)).all (· ≤ reachBytes) = true := hsz0
  have hval : ∀ (j : Nat) t v, Try.f13.params[j]? = some t → args[j]? = some v → Value.okWide Try.prog W .any base t v := hval0
  have hW' := hW
  obtain ⟨p, q, hA0, hV, rfl, hfz, hnd⟩ := hW
  have hA : DataW.TrodAll enc Try.prog W 0 (fun _ => true) true Try.f13.params.toList args.toList ds p := hA0
  rw [Try.params13] at hA hval hsz
  obtain ⟨v0, vs0, d0, ds0, p0, q0, hargs, rfl, rfl, h0, r0⟩ := trodAll_cons hA
  obtain ⟨v1, vs1, d1, ds1, p1, q1, rfl, rfl, rfl, h1, r1⟩ := trodAll_cons r0
  obtain ⟨v2, vs2, d2, ds2, p2, q2, rfl, rfl, rfl, h2, r2⟩ := trodAll_cons r1
  obtain ⟨rfl, rfl, rfl⟩ := trodAll_nil r2
  obtain rfl : args = #[v0, v1, v2] := by cases args; simp_all
  obtain ⟨rfl, rfl⟩ := trodVars_none hV
  obtain ⟨a0, len0, cap0, rfl⟩ := okWide_slice Try.underlying23 (hval 0 23 v0 rfl rfl)
  have k0 := h0
  have lt0 : ∀ x ∈ p0, x.block < W.heap.size := by obtain ⟨m, hm⟩ := k0; exact DataW.trod_lt m _ _ _ hm
  obtain ⟨z0, w0⟩ : ∃ zs, IsRow .u64 W a0 len0 cap0 zs := by
    obtain ⟨fuel, hf⟩ := h0
    rcases open_ints Try.underlying23 Try.underlying27 (by kernel_rfl) hf with ⟨hcs, _⟩ | ⟨x, l, c, zs, hcs, _, hl, hm, hz, _, hcell, hwz⟩
    · simp [Value.cells] at hcs
      obtain ⟨rfl, rfl, rfl⟩ := hcs
      exact ⟨[], .inl ⟨rfl, rfl, rfl, rfl⟩⟩
    · simp [Value.cells] at hcs
      obtain ⟨rfl, rfl, rfl⟩ := hcs
      exact ⟨zs, .inr ⟨_, rfl, hl, hm, by simpa using hz, hcell, hwz⟩⟩
  have y0 : len0 * 8 ≤ 140737488351232 := Go.Proofs.YtgeanpnkllnipabW.PrintWords.sized_ints hsz (j := 0) (t := 23) rfl rfl Try.underlying23 Try.underlying27 (by kernel_rfl) (by kernel_rfl) h0
  have k1 := h1
  have lt1 : ∀ x ∈ p1, x.block < W.heap.size := by obtain ⟨m, hm⟩ := k1; exact DataW.trod_lt m _ _ _ hm
  obtain ⟨v1_0, v1_1, e1_0, e1_1, n1, rfl, rfl, rfl, h1_0, h1_1⟩ := Go.Joins.open_agg2 Try.underlying52 (by kernel_rfl) (by kernel_rfl) (hval 1 52 v1 rfl rfl) h1
  obtain ⟨a1_0, hv_, rfl⟩ := DataW.trod_bool Try.underlying4 h1_0
  obtain rfl := (List.cons.inj hv_).1
  clear hv_
  obtain ⟨a1_1, len1_1, cap1_1, hv_⟩ := Go.Joins.slice_form Try.underlying23 h1_1
  obtain rfl := (List.cons.inj hv_).1
  clear hv_
  have k1_1 : DataW.Trod enc Try.prog W 0 (fun _ => true) true 23 (.slice a1_1 len1_1 cap1_1) e1_1.1 e1_1.2 := ⟨_, h1_1⟩
  have lt1_1 : ∀ x ∈ e1_1.2, x.block < W.heap.size := by obtain ⟨m, hm⟩ := k1_1; exact DataW.trod_lt m _ _ _ hm
  obtain ⟨z1_1, w1_1⟩ : ∃ zs, IsRow .u64 W a1_1 len1_1 cap1_1 zs := by
    rcases open_ints Try.underlying23 Try.underlying27 (by kernel_rfl) h1_1 with ⟨hcs, _⟩ | ⟨x, l, c, zs, hcs, _, hl, hm, hz, _, hcell, hwz⟩
    · simp at hcs
      obtain ⟨rfl, rfl, rfl⟩ := hcs
      exact ⟨[], .inl ⟨rfl, rfl, rfl, rfl⟩⟩
    · simp at hcs
      obtain ⟨rfl, rfl, rfl⟩ := hcs
      exact ⟨zs, .inr ⟨_, rfl, hl, hm, by simpa using hz, hcell, hwz⟩⟩
  have k2 := h2
  have lt2 : ∀ x ∈ p2, x.block < W.heap.size := by obtain ⟨m, hm⟩ := k2; exact DataW.trod_lt m _ _ _ hm
  obtain ⟨v2_0, v2_1, v2_2, e2_0, e2_1, e2_2, n2, rfl, rfl, rfl, h2_0, h2_1, h2_2⟩ := F.open_arr3 Try.underlying44 (by kernel_rfl) (by kernel_rfl) (hval 2 44 v2 rfl rfl) h2
  obtain ⟨a2_0, hv_, rfl, w2_0⟩ := DataW.trod_int Try.underlying2 h2_0
  obtain rfl := (List.cons.inj hv_).1
  clear hv_
  obtain ⟨a2_1, hv_, rfl, w2_1⟩ := DataW.trod_int Try.underlying2 h2_1
  obtain rfl := (List.cons.inj hv_).1
  clear hv_
  obtain ⟨a2_2, hv_, rfl, w2_2⟩ := DataW.trod_int Try.underlying2 h2_2
  obtain rfl := (List.cons.inj hv_).1
  clear hv_
  clear hA0 hval0 hsz0 hsz
  refine (F.windbreaklaw07_FixencBack.walk Pure.FixencBack a0 len0 cap0 z0 a1_0 a1_1 len1_1 cap1_1 z1_1 a2_0 a2_1 a2_2 W w0 y0 w1_1 w2_0 w2_1 w2_2).mono fun e W' ⟨he, bel⟩ => ?_
  subst he
  exact ⟨_, rfl, _, _, _, [], _, [], hW', trodAll_mk1 (shut_bool Try.underlying4 _), (trodAll_cons_mk (Below.trod laidOut (by kernel_rfl) (of_decide_eq_true (by kernel_rfl)) k0 bel lt0) (trodAll_cons_mk (Below.trod laidOut (by kernel_rfl) (of_decide_eq_true (by kernel_rfl)) k1 bel lt1) (trodAll_cons_mk (Below.trod laidOut (by kernel_rfl) (of_decide_eq_true (by kernel_rfl)) k2 bel lt2) trodAll_mk0))), rfl, bel.frame _, fun h => by cases h⟩
theorem over : Rows.fixencBackRow.holds Try.pinned (OpenSpec.ofChange Rows.fixencBackSpec) :=
  OpenClaim.holds_of_wide 13 Try.f13 rfl rfl rfl rfl rfl rfl rfl ⟨rfl, rfl, rfl, rfl, rfl⟩ rfl rfl rfl rfl rfl (by kernel_rfl) Try.func13 (by kernel_rfl)
    (of_decide_eq_true (by kernel_rfl)) (by unfold Func.isWrapper; first | (rw [if_pos (by decide +kernel)]; kernel_rfl) | (rw [if_neg (by decide +kernel)]; exact ⟨rfl, rfl⟩))
    (fun os started H enc _ => lifted os started H enc)
theorem proved : Rows.FixencBackSaid := over
#print axioms proved
end Go.Proofs.Ytgeanpnkllnipab.fixencBack
namespace Go.Proofs.Ytgeanpnkllnipab
theorem fixencBack_holds : Rows.FixencBackSaid := fixencBack.proved
end Go.Proofs.Ytgeanpnkllnipab
end
