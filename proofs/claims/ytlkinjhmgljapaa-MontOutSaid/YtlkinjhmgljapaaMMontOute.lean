/- Proved: the law MontOut of layer 2: any number out of the form of any ring is the document's; for every input, without a condition. -/
import Derived.Test.YtlkinjhmgljapaaMMontOutd
import Derived.SizedLaws
import Derived.ChangeSlices
import Derived.Test.YtlkinjhmgljapaaRows
import Derived.WalkKit
import Derived.ProofKit
import Derived.OpenShut
import Derived.ShutString
import Derived.ChangeOld
import Derived.Below
section
namespace Go.Proofs.Ytlkinjhmgljapaa.Z
open Go.RowKit Go.Proofs.Ytlkinjhmgljapaa.F Go.Proofs.YtlkinjhmgljapaaW.PrintWords
set_option linter.unusedSimpArgs false
set_option linter.unusedVariables false
theorem ref2_out_loop {n : List Int} (h : mayM n = true) (hn : n.length ≤ maxLen) (dn : Dig (b64 : Int) n) (d : Nat) : ∀ (i A : Nat), i + d = 64 * n.length → A < num n →
    Evt (fun k => windbreakref02_Out.l0 k (limbs A) n (i : Int)) (limbs (montOutN (num n) d A), 0) := by
  obtain ⟨h1, h2, h3, h4, h5⟩ := mayM_parts dn h
  obtain ⟨n1, n2, n3⟩ := mayM_big dn h
  have n5 := pow8_two
  induction d with
  | zero =>
    intro i A hi hA
    refine Evt.succ ?_
    simp only [windbreakref02_Out.l0]
    rw [w64 (by omega) (by omega)]
    refine Evt.ite_neg (by omega) ?_
    exact Evt.pure _
  | succ d ih =>
    intro i A hi hA
    refine Evt.succ ?_
    simp only [windbreakref02_Out.l0]
    rw [w64 (by omega) (by omega)]
    refine Evt.ite_pos (by omega) ?_
    refine Evt.bind (ref2_half_ev h1 hn dn (by omega) (by omega)) ?_
    rw [w64 (by omega) (by omega)]
    exact ih (i + 1) _ (by omega) (halfN_lt hA)
theorem ref2_Out_ev {n x : List Int} (h : mayM n = true) (hn : n.length ≤ maxLen) (dn : Dig (b64 : Int) n) (hx : x.length ≤ maxLen) (dx : Dig (b64 : Int) x) :
    Evt (fun k => windbreakref02_Out.f k x n) (if belowB n x = true then (limbs (montOutN (num n) (64 * n.length) (num x)), 0) else ([], 1)) := by
  obtain ⟨h1, h2, h3, h4, h5⟩ := mayM_parts dn h
  unfold windbreakref02_Out.f
  refine Evt.bind (ref2_Below_ev h1 hn dn hx dx) ?_
  by_cases hb : belowB n x = true
  · rw [if_pos hb]
    obtain ⟨b1, b2, b3⟩ := below_parts dx hb
    refine Evt.ite_pos hb ?_
    have l := ref2_out_loop h hn dn (64 * n.length) 0 (num x) (by omega) b2
    rw [← b3] at l
    exact l
  · rw [if_neg hb]
    exact Evt.ite_neg hb (Evt.pure _)
end Go.Proofs.Ytlkinjhmgljapaa.Z
end
section
namespace Go.Proofs.Ytlkinjhmgljapaa.Pure
open Go.RowKit Go.Proofs.Ytlkinjhmgljapaa.F Go.Proofs.Ytlkinjhmgljapaa.Z
set_option linter.unusedSimpArgs false
set_option linter.unusedVariables false
theorem MontOut : windbreaklaw02_MontOut.Pure := by
  intro n a hl _ hw ha _ hwa
  apply Evt.get
  unfold windbreaklaw02_MontOut.f
  have dn := dig_of_wf hw
  have da := dig_of_wf hwa
  refine Evt.bind (fresh_ev hl dn) ?_
  by_cases h : mayM n = true
  · rw [if_pos h]
    refine Evt.bind (mont_out_ev h dn ha da) ?_
    refine Evt.bind (ref2_Out_ev h hl dn ha da) ?_
    have hlen : (if belowB n a = true then (limbs (montOutN (num n) (64 * n.length) (num a)), (0 : Int)) else ([], 1)).1.length ≤ maxLen := by
      obtain ⟨n1, n2, n3⟩ := mayM_big dn h
      split
      · exact lmax (Nat.lt_of_lt_of_le (Nat.lt_trans (montOutN_lt _ (below_parts da (by assumption)).2.1) n2) (pow64_mono (by omega)))
      · exact Nat.zero_le _
    refine Evt.bind (same_ev _ _ hlen) ?_
    exact (Evt.pure _).congr (fun k => rfl) (by simp)
  · rw [if_neg h]
    exact Evt.pure _
end Go.Proofs.Ytlkinjhmgljapaa.Pure
end
section
namespace Go.Proofs.YtlkinjhmgljapaaW.PrintWords
open Go.ChangeShapes Go.WideShapes
theorem sized_ints {H : Type} {enc : TypeId × Value → H} {P : Program} {W : World} {base : Nat} {spare : Nat → Bool} {held : Bool} {t e : TypeId} {k : IntKind} {a : Option Addr} {len cap : Nat} {d : DataW H} {ps : List MemPlace} {ts : List TypeId} {ds : List (DataW H)} {j : Nat}
    (hsz : (DataW.weightsEach P ts ds).all (· ≤ reachBytes) = true) (ht : ts[j]? = some t) (hd : ds[j]? = some d) (hu : P.underlying t = some (.slice e)) (he : P.underlying e = some (.int k)) (hc : P.cellsOf e = 1) {B : Nat} (hB : P.bytesOf e = B)
    (h : DataW.Trod enc P W base spare held t (.slice a len cap) d ps) : len * B ≤ 140737488351232 := by
  obtain ⟨fuel, hf⟩ := h
  rcases open_ints hu he hc hf with ⟨hcs, _⟩ | ⟨x, l, c, zs, hcs, _, hl, _, hz, hx, _, _⟩
  · simp [Value.cells] at hcs
    obtain ⟨rfl, rfl, rfl⟩ := hcs
    simp
  · simp [Value.cells] at hcs
    obtain ⟨rfl, rfl, rfl⟩ := hcs
    obtain ⟨hx, _⟩ := Prod.mk.inj hx
    subst hx
    have z := sized_slice hsz ht hd hu
    rw [hB] at z
    have hl2 : len ≤ zs.length := by
      rw [hz]
      split
      · exact hl
      · exact Nat.le_refl _
    have h1 : (lits (H := H) k (zs.take len)).length + (lits (H := H) k (zs.drop len)).length = zs.length := by
      simp [lits]
      omega
    rw [h1] at z
    exact Nat.le_trans (Nat.mul_le_mul_right _ hl2) z
end Go.Proofs.YtlkinjhmgljapaaW.PrintWords
end
section
namespace Go.Proofs.Ytlkinjhmgljapaa.montOut
open Go.ChangeShapes Go.WideShapes Go.ChangeAt Go.RowKit
open Go.ChangeMaps (open_string shut_string)
set_option linter.unusedVariables false
theorem own : ownKnob Try.prog.godebug = none := by kernel_rfl
theorem laidOut : laidOutB Try.prog = true := by kernel_rfl
def IsRow (k : IntKind) (w : World) (a : Option Addr) (len cap : Nat) (zs : List Int) : Prop :=
  (a = none ∧ len = 0 ∧ cap = 0 ∧ zs = []) ∨
  ∃ x, a = some x ∧ len ≤ cap ∧ cap ≤ maxLen ∧ zs.length = cap ∧ (∀ i, i < zs.length → w.cell? (x.add i) = some (.int k (zs.getD i 0))) ∧ ∀ n ∈ zs, (Lit.int k n).wf = true
set_option maxRecDepth 100000 in
theorem lifted (os : Os) (started : os.Started) (H : Type) (enc : TypeId × Value → H) :
    ReturnsInHanded {} Try.checked os 5 .any (Rows.montOutSpec.pre6 enc Try.prog Try.f5 Rows.montOutRow.domain false) (Rows.montOutSpec.post enc Try.prog Try.f5 false true false false) := by
  refine returnsInHanded_of_change_sized (C := Try.checked) own started (by kernel_rfl) Try.func5
    (ChangeSpec.witness6 (enc := enc) (C := Try.checked) false ⟨#[], #[.slice none 0 0, .slice none 0 0], []⟩ 8 (by kernel_rfl) (by kernel_rfl) (by kernel_rfl) (by kernel_rfl)) ?_
  intro W base args ds gs before hval0 hW hcnd hsz0 _
  have hsz : (DataW.weightsEach Try.prog (Try.f5.params.toList ++ Rows.montOutSpec.plain.varTypes Try.prog) (ds ++ gs)).all (· ≤ reachBytes) = true := hsz0
  have hval : ∀ (j : Nat) t v, Try.f5.params[j]? = some t → args[j]? = some v → Value.okWide Try.prog W .any base t v := hval0
  have hW' := hW
  obtain ⟨p, q, hA0, hV, rfl, hfz, hnd⟩ := hW
  have hA : DataW.TrodAll enc Try.prog W 0 (fun _ => true) true Try.f5.params.toList args.toList ds p := hA0
  rw [Try.params5] at hA hval hsz
  obtain ⟨v0, vs0, d0, ds0, p0, q0, hargs, rfl, rfl, h0, r0⟩ := trodAll_cons hA
  obtain ⟨v1, vs1, d1, ds1, p1, q1, rfl, rfl, rfl, h1, r1⟩ := trodAll_cons r0
  obtain ⟨rfl, rfl, rfl⟩ := trodAll_nil r1
  obtain rfl : args = #[v0, v1] := by cases args; simp_all
  obtain ⟨rfl, rfl⟩ := trodVars_none hV
  obtain ⟨a0, len0, cap0, rfl⟩ := okWide_slice Try.underlying23 (hval 0 23 v0 rfl rfl)
  have k0 := h0
  have lt0 : ∀ x ∈ p0, x.block < W.heap.size := by obtain ⟨m, hm⟩ := k0; exact DataW.trod_lt m _ _ _ hm
  obtain ⟨z0, w0⟩ : ∃ zs, IsRow .u64 W a0 len0 cap0 zs := by
    obtain ⟨fuel, hf⟩ := h0
    rcases open_ints Try.underlying23 Try.underlying50 (by kernel_rfl) hf with ⟨hcs, _⟩ | ⟨x, l, c, zs, hcs, _, hl, hm, hz, _, hcell, hwz⟩
    · simp [Value.cells] at hcs
      obtain ⟨rfl, rfl, rfl⟩ := hcs
      exact ⟨[], .inl ⟨rfl, rfl, rfl, rfl⟩⟩
    · simp [Value.cells] at hcs
      obtain ⟨rfl, rfl, rfl⟩ := hcs
      exact ⟨zs, .inr ⟨_, rfl, hl, hm, by simpa using hz, hcell, hwz⟩⟩
  have y0 : len0 * 8 ≤ 140737488351232 := Go.Proofs.YtlkinjhmgljapaaW.PrintWords.sized_ints hsz (j := 0) (t := 23) rfl rfl Try.underlying23 Try.underlying50 (by kernel_rfl) (by kernel_rfl) h0
  obtain ⟨a1, len1, cap1, rfl⟩ := okWide_slice Try.underlying23 (hval 1 23 v1 rfl rfl)
  have k1 := h1
  have lt1 : ∀ x ∈ p1, x.block < W.heap.size := by obtain ⟨m, hm⟩ := k1; exact DataW.trod_lt m _ _ _ hm
  obtain ⟨z1, w1⟩ : ∃ zs, IsRow .u64 W a1 len1 cap1 zs := by
    obtain ⟨fuel, hf⟩ := h1
    rcases open_ints Try.underlying23 Try.underlying50 (by kernel_rfl) hf with ⟨hcs, _⟩ | ⟨x, l, c, zs, hcs, _, hl, hm, hz, _, hcell, hwz⟩
    · simp [Value.cells] at hcs
      obtain ⟨rfl, rfl, rfl⟩ := hcs
      exact ⟨[], .inl ⟨rfl, rfl, rfl, rfl⟩⟩
    · simp [Value.cells] at hcs
      obtain ⟨rfl, rfl, rfl⟩ := hcs
      exact ⟨zs, .inr ⟨_, rfl, hl, hm, by simpa using hz, hcell, hwz⟩⟩
  have y1 : len1 * 8 ≤ 140737488351232 := Go.Proofs.YtlkinjhmgljapaaW.PrintWords.sized_ints hsz (j := 1) (t := 23) rfl rfl Try.underlying23 Try.underlying50 (by kernel_rfl) (by kernel_rfl) h1
  clear hA0 hval0 hsz0 hsz
  refine (F.windbreaklaw02_MontOut.walk Pure.MontOut a0 len0 cap0 z0 a1 len1 cap1 z1 W w0 y0 w1 y1).mono fun e W' ⟨he, bel⟩ => ?_
  subst he
  exact ⟨_, rfl, _, _, _, [], _, [], hW', trodAll_mk1 (shut_bool Try.underlying4 _), (trodAll_cons_mk (Below.trod laidOut (by kernel_rfl) (of_decide_eq_true (by kernel_rfl)) k0 bel lt0) (trodAll_cons_mk (Below.trod laidOut (by kernel_rfl) (of_decide_eq_true (by kernel_rfl)) k1 bel lt1) trodAll_mk0)), rfl, bel.frame _, fun h => by cases h⟩
theorem over : Rows.montOutRow.holds Try.pinned (OpenSpec.ofChange Rows.montOutSpec) :=
  OpenClaim.holds_of_wide 5 Try.f5 rfl rfl rfl rfl rfl rfl rfl ⟨rfl, rfl, rfl, rfl, rfl⟩ rfl rfl rfl rfl rfl (by kernel_rfl) Try.func5 (by kernel_rfl)
    (of_decide_eq_true (by kernel_rfl)) (by unfold Func.isWrapper; first | (rw [if_pos (by decide +kernel)]; kernel_rfl) | (rw [if_neg (by decide +kernel)]; exact ⟨rfl, rfl⟩))
    (fun os started H enc _ => lifted os started H enc)
theorem proved : Rows.MontOutSaid := over
#print axioms proved
end Go.Proofs.Ytlkinjhmgljapaa.montOut
namespace Go.Proofs.Ytlkinjhmgljapaa
theorem montOut_holds : Rows.MontOutSaid := montOut.proved
end Go.Proofs.Ytlkinjhmgljapaa
end
