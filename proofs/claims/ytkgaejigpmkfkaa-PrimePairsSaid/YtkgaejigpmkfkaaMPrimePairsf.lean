/- Proved: the law PrimePairs of layer 5: any key drawn from any tape is the document's, and has as many bits as asked for; for every input, without a condition. -/
import Derived.Test.YtkgaejigpmkfkaaMPrimePairse
import Derived.Deep.Slices
import Derived.Lib.SmallJoins
import Derived.OpenShut
import Derived.SizedLaws
import Derived.ChangeSlices
import Derived.Test.YtkgaejigpmkfkaaRows
import Derived.WalkKit
import Derived.ProofKit
import Derived.ShutString
import Derived.ChangeOld
import Derived.Below
section
namespace Go.Proofs.Ytkgaejigpmkfkaa.F
open Go.RowKit Go.Deep Go.ChangeShapes Go.Proofs.YtkgaejigpmkfkaaW.PrintWords
set_option linter.unusedSimpArgs false
set_option linter.unusedVariables false
def Opens {α : Type} (P : Program) (t : TypeId) (d : Kd α) (ok : α → Prop) : Prop :=
  ∀ {H : Type} (enc : TypeId × Value → H) (w : World) (held : Bool) (fuel : Nat) (cs : List Value) (x : DataW H × List MemPlace), DataW.trod enc P w 0 (fun _ => true) held fuel t cs = some x → ∃ a : α, d.K w a cs ∧ ok a
theorem Opens.int {P : Program} {t : TypeId} {k : IntKind} (ht : P.underlying t = some (.int k)) : Opens P t (Kd.int k) (fun n => (Lit.int k n).wf = true) := by
  intro H enc w held fuel cs x h
  obtain ⟨n, rfl, _, hw⟩ := DataW.trod_int ht h
  exact ⟨n, rfl, hw⟩
theorem choose_list {α : Type} {n : Nat} {p : Nat → α → Prop} (h : ∀ i, i < n → ∃ x, p i x) : ∃ l : List α, l.length = n ∧ ∀ i x, l[i]? = some x → p i x := by
  induction n with
  | zero => exact ⟨[], rfl, fun i x hx => by simp at hx⟩
  | succ n ih =>
    obtain ⟨l, hl, hp⟩ := ih (fun i hi => h i (by omega))
    obtain ⟨x, hx⟩ := h n (by omega)
    refine ⟨l ++ [x], by simp [hl], fun i y hy => ?_⟩
    rcases Nat.lt_or_ge i l.length with hi | hi
    · rw [List.getElem?_append_left hi] at hy
      exact hp i y hy
    · rw [List.getElem?_append_right hi] at hy
      have h0 : i - l.length = 0 := by
        rcases Nat.eq_zero_or_pos (i - l.length) with h0 | h0
        · exact h0
        · rw [List.getElem?_eq_none (by simp; omega)] at hy; cases hy
      rw [h0] at hy
      obtain rfl : x = y := by simpa using hy
      obtain rfl : i = n := by omega
      exact hx
theorem Opens.slice {α : Type} {P : Program} {t e : TypeId} {d : Kd α} {ok : α → Prop} (ht : P.underlying t = some (.slice e)) (hs : P.cellsOf e = d.sz) (hd : Opens P e d ok) : Opens P t (Kd.slice e d) (fun xs => xs.length ≤ maxLen ∧ ∀ x ∈ xs, ok x) := by
  intro H enc w held fuel cs x h
  rcases open_slice ht h with ⟨rfl, _⟩ | ⟨a, len, cap, m, n, D, Pl, rfl, _, hlc, hcm, hm, _, hel⟩
  · exact ⟨[], ⟨none, 0, rfl, Nat.le_refl _, Kd.C_nil d w⟩, Nat.zero_le _, fun x hx => by cases hx⟩
  · have hlm : len ≤ m := by simp at hm; omega
    have h1 : ∀ i, i < len → ∃ y : α, (∃ c, c.length = d.sz ∧ d.K w y c ∧ ∀ j u, c[j]? = some u → w.cell? (a.add (i * d.sz + j)) = some u) ∧ ok y := by
      intro i hi
      obtain ⟨cs', hc, htr⟩ := hel i (by omega)
      obtain ⟨y, hK, hok⟩ := hd enc w held n cs' _ htr
      obtain ⟨_, hl, hcell⟩ := World.cells?_some hc
      refine ⟨y, ⟨cs', by rw [hl, hs], hK, fun j u hu => ?_⟩, hok⟩
      have hj : j < P.cellsOf e := by have := (List.getElem?_eq_some_iff.1 hu).1; omega
      have := hcell j hj
      rw [Go.Deep.add_add, hs, hu] at this
      exact this
    obtain ⟨xs, hxl, hxp⟩ := choose_list h1
    have hml : len ≤ maxLen := Nat.le_trans hlc hcm
    refine ⟨xs, ⟨some a, cap, by rw [hxl], by omega, ⟨rfl, ?_, fun hp => ⟨a, rfl, fun j p hj => (hxp j p hj).1⟩⟩⟩, by omega, fun x hx => ?_⟩
    · unfold maxLen at hml; omega
    · obtain ⟨i, hi⟩ := List.getElem?_of_mem hx
      exact (hxp i x hi).2
theorem Opens.elem {α : Type} {H : Type} {enc : TypeId × Value → H} {P : Program} {w : World} {held : Bool} {fuel : Nat} {t e : TypeId} {cs : List Value} {x : DataW H × List MemPlace} {n : Nat} (ht : P.underlying t = some (.array n e)) (h : DataW.trod enc P w 0 (fun _ => true) held fuel t cs = some x) {d : Kd α} {ok : α → Prop} (i : Nat) (hi : i < n) (hd : Opens P e d ok) :
    ∃ a : α, d.K w a ((cs.drop (i * P.cellsOf e)).take (P.cellsOf e)) ∧ ok a := by
  obtain ⟨xs, m, _, _, _, hl, hx⟩ := DataW.trod_array ht h
  have h1 := hx i hi
  rw [List.getElem?_eq_getElem (by omega)] at h1
  exact hd enc w held m _ _ h1
end Go.Proofs.Ytkgaejigpmkfkaa.F
end
section
namespace Go.Proofs.Ytkgaejigpmkfkaa.Z
open Go.RowKit Go.Proofs.YtkgaejigpmkfkaaW.PrintWords
set_option linter.unusedSimpArgs false
set_option linter.unusedVariables false
def b8 : Nat := 256
theorem b8_pos : (0 : Int) < (b8 : Int) := by decide
theorem b8_pow2 (m : Nat) : b8 ^ m = 2 ^ (8 * m) := by
  have h : b8 = 2 ^ 8 := by decide
  rw [h, ← Nat.pow_mul]
theorem can_last {a : List Int} (ca : Can a) (h0 : a.length ≠ 0) : a.getD (a.length - 1) 0 ≠ 0 := by
  have h : a ≠ [] := fun e => h0 (by rw [e]; rfl)
  have h2 := ca h
  rw [List.getLast_eq_getElem] at h2
  rw [List.getD_eq_getElem?_getD, List.getElem?_eq_getElem (show a.length - 1 < a.length by omega)]
  exact h2
theorem tdiv_nat (i : Nat) (c : Nat) : Int.tdiv (i : Int) (c : Int) = ((i / c : Nat) : Int) := by
  rw [Int.tdiv_eq_ediv_of_nonneg (by omega)]; simp
theorem tmod_nat (i : Nat) (c : Nat) : Int.tmod (i : Int) (c : Int) = ((i % c : Nat) : Int) := by
  rw [Int.tmod_eq_emod_of_nonneg (by omega)]; simp
theorem dig_one {x : Int} (h0 : 0 ≤ x) (h1 : x < 18446744073709551616) : Dig (b64 : Int) [x] := Dig.cons.2 ⟨⟨h0, h1⟩, Dig.nil⟩
theorem right_one {x : Int} (h : x ≠ 0) : rightB [x] = true := (rightB_iff _).2 ⟨by simp, Can.one h⟩
theorem right_limbs' {v : Nat} (h : v < b64 ^ 64) : rightB (limbs v) = true := (rightB_iff _).2 ⟨(limbs_long v).2 h, toD_can b64_two v⟩
theorem dig_limbs' (v : Nat) : Dig (b64 : Int) (limbs v) := toD_dig b64_two v
theorem limbs_le64 {v : Nat} (h : v < b64 ^ 64) : (limbs v).length ≤ 64 := (limbs_long v).2 h
def divV (a b : List Int) : List Int × List Int × Int :=
  if rightB a = true ∧ rightB b = true then (if num b = 0 then ([], [], 3) else (limbs (num a / num b), limbs (num a % num b), 0)) else ([], [], 1)
theorem num_zero_iff {b : List Int} (db : Dig (b64 : Int) b) (cb : Can b) : num b = 0 ↔ b.length = 0 := by
  constructor
  · intro h
    have := limbs_num db cb
    rw [h] at this
    rw [← this, show limbs 0 = [] from toD_zero b64]
    rfl
  · intro h
    rw [List.eq_nil_of_length_eq_zero h]
    rfl
theorem num_len_le {a b : List Int} (da : Dig (b64 : Int) a) (ca : Can a) (db : Dig (b64 : Int) b) (h : num a ≤ num b) : a.length ≤ b.length := by
  have h1 := limbs_num da ca
  rw [← h1]
  exact toD_len_le b64_two (Nat.lt_of_le_of_lt h (num_lt db))
def gcdV (a b : List Int) : List Int × Int := if rightB a = true ∧ rightB b = true then (limbs (Nat.gcd (num a) (num b)), 0) else ([], 1)
theorem gcd_step (m n : Nat) : Nat.gcd m n = Nat.gcd n (m % n) := by
  rw [Nat.gcd_comm m n, Nat.gcd_rec n m, Nat.gcd_comm]
theorem lz : limbs 0 = [] := toD_zero b64
theorem lz_iff (m : Nat) : (limbs m).length = 0 ↔ m = 0 := by
  constructor
  · intro h
    have h1 := num_limbs m
    rw [List.eq_nil_of_length_eq_zero h] at h1
    rw [← h1]; rfl
  · rintro rfl
    rw [lz]; rfl
theorem lmax {m : Nat} (h : m < b64 ^ 64) : (limbs m).length ≤ maxLen := by
  have := limbs_le64 h
  simp only [maxLen]
  omega
theorem small_lb {m : Nat} (hm : m < b64 ^ 64) : smallV (limbs m) = if m < b64 then ((m : Int), true) else (0, false) := by
  unfold smallV
  by_cases h : m < b64
  · have h1 : (limbs m).length ≤ 1 := toD_len_le b64_two (by rw [Nat.pow_one]; exact h)
    rw [if_pos ⟨right_limbs' hm, h1⟩, if_pos h]
    by_cases h0 : m = 0
    · subst h0
      rw [lz]; rfl
    · have e : limbs m = [(m : Int)] := by
        unfold limbs
        rw [toD_pos b64_two (by omega), Nat.mod_eq_of_lt h, Nat.div_eq_of_lt h, toD_zero]
      rw [e]; rfl
  · rw [if_neg h, if_neg (fun e => h (by have := (toD_len_iff b64_two m 1).1 e.2; rwa [Nat.pow_one] at this))]
end Go.Proofs.Ytkgaejigpmkfkaa.Z
end
section
namespace Go.Proofs.Ytkgaejigpmkfkaa.Z
open Go.RowKit Go.Proofs.Ytkgaejigpmkfkaa.F Go.Proofs.YtkgaejigpmkfkaaW.PrintWords
set_option linter.unusedSimpArgs false
set_option linter.unusedVariables false
theorem div_corr {Y a b u c q r : Int} (hY : Y = a * 4294967296 + b) (ha : 2147483648 ≤ a ∧ a < 4294967296) (hb : 0 ≤ b ∧ b < 4294967296) (hu : 0 ≤ u ∧ u < Y) (hc : 0 ≤ c ∧ c < 4294967296)
    (hq : (u * 4294967296 + c) / Y ≤ q) (hq2 : q ≤ 4294967297) (hr : r = u - q * a) (hr0 : 0 ≤ r ∧ r < 4294967296) :
    ((q ≥ 4294967296 ∨ q * b > 4294967296 * r + c) → (u * 4294967296 + c) / Y ≤ q - 1) ∧ (¬ (q ≥ 4294967296 ∨ q * b > 4294967296 * r + c) → (u * 4294967296 + c) / Y = q) ∧
    ((q ≥ 4294967296 ∨ q * b > 4294967296 * r + c) → r + a ≥ 4294967296 → (u * 4294967296 + c) / Y = q - 1) := by
  have hY0 : 0 < Y := by omega
  have e1 : q * Y = q * a * 4294967296 + q * b := by rw [hY]; grind
  have e2 : (q - 1) * Y = q * Y - Y := by grind
  have lt : (u * 4294967296 + c) / Y < 4294967296 := by
    apply Int.ediv_lt_of_lt_mul hY0
    omega
  have up : (q ≥ 4294967296 ∨ q * b > 4294967296 * r + c) → (u * 4294967296 + c) / Y ≤ q - 1 := by
    intro h
    rcases h with h | h
    · omega
    · have : (u * 4294967296 + c) / Y < q := by
        apply Int.ediv_lt_of_lt_mul hY0
        rw [e1]; omega
      omega
  refine ⟨up, fun h => ?_, fun h h2 => ?_⟩
  · have : q ≤ (u * 4294967296 + c) / Y := by
      rw [Int.le_ediv_iff_mul_le hY0, e1]
      omega
    omega
  · have h3 := up h
    have h4 : (q - 1) * b ≤ 4294967296 * 4294967295 := by
      by_cases h5 : q - 1 ≤ 0
      · have : (q - 1) * b ≤ 0 := Int.mul_nonpos_of_nonpos_of_nonneg h5 hb.1
        omega
      · exact Int.mul_le_mul (by omega) (by omega) hb.1 (by omega)
    have h6 : (q - 1) * b = q * b - b := by grind
    have : q - 1 ≤ (u * 4294967296 + c) / Y := by
      rw [Int.le_ediv_iff_mul_le hY0, e2, e1]
      omega
    omega
theorem mul_u64 {x y : Int} (hx : 0 ≤ x ∧ x < 4294967296) (hy : 0 ≤ y ∧ y < 4294967296) : 0 ≤ x * y ∧ x * y < 18446744073709551616 := by
  refine ⟨Int.mul_nonneg hx.1 hy.1, ?_⟩
  have : x * y ≤ 4294967295 * 4294967295 := Int.mul_le_mul (by omega) (by omega) hy.1 (by omega)
  omega
theorem div_l0 {Y a b u c c0 s : Int} (hY : Y = a * 4294967296 + b) (ha : 2147483648 ≤ a ∧ a < 4294967296) (hb : 0 ≤ b ∧ b < 4294967296) (hu : 0 ≤ u ∧ u < Y) (hc : 0 ≤ c ∧ c < 4294967296) {res : Int × Int}
    (fin : Evt (fun k => bits_Div64.j2 k Y s a b u c c0 ((u * 4294967296 + c) / Y)) res) (n : Nat) : ∀ q r : Int, (u * 4294967296 + c) / Y ≤ q → q ≤ 4294967297 → r = u - q * a → 0 ≤ r ∧ r < 4294967296 → q - (u * 4294967296 + c) / Y ≤ n →
    Evt (fun k => bits_Div64.l0 k Y s a b u c c0 q r) res := by
  have hQ0 : 0 ≤ (u * 4294967296 + c) / Y := Int.ediv_nonneg (by omega) (by omega)
  induction n with
  | zero =>
    intro q r hq hq2 hr hr0 hn
    obtain ⟨g1, g2, g3⟩ := div_corr hY ha hb hu hc hq hq2 hr hr0
    have hno : ¬ (q ≥ 4294967296 ∨ q * b > 4294967296 * r + c) := fun h => by have := g1 h; omega
    refine Evt.succ ?_
    simp only [bits_Div64.l0]
    refine Evt.ite_neg (fun h => hno (Or.inl h)) ?_
    have hm := mul_u64 (x := q) (y := b) ⟨by omega, by omega⟩ hb
    rw [wu64_of hm.1 hm.2, wu64_of (x := 4294967296 * r) (by omega) (by omega), wu64_of (x := 4294967296 * r + c) (by omega) (by omega)]
    refine Evt.succ ?_
    simp only [bits_Div64.j1]
    refine Evt.ite_neg (by simp only [decide_eq_true_eq]; exact fun h => hno (Or.inr h)) ?_
    rw [← g2 hno]
    exact fin
  | succ n ih =>
    intro q r hq hq2 hr hr0 hn
    obtain ⟨g1, g2, g3⟩ := div_corr hY ha hb hu hc hq hq2 hr hr0
    have key : ∀ t : Bool, (t = true ↔ (q ≥ 4294967296 ∨ q * b > 4294967296 * r + c)) → Evt (fun k => bits_Div64.j1 k Y s a b u c c0 q r t) res := by
      intro t ht
      refine Evt.succ ?_
      simp only [bits_Div64.j1]
      by_cases h : t = true
      · have h' := ht.1 h
        have hq1 := g1 h'
        refine Evt.ite_pos h ?_
        rw [wu64_of (x := r + a) (by omega) (by omega), wu64_of (x := q - 1) (by omega) (by omega)]
        by_cases h2 : r + a ≥ 4294967296
        · refine Evt.ite_pos h2 ?_
          rw [← g3 h' h2]
          exact fin
        · refine Evt.ite_neg h2 (ih (q - 1) (r + a) hq1 (by omega) ?_ (by omega) (by omega))
          rw [hr]; grind
      · refine Evt.ite_neg h ?_
        rw [← g2 (fun h' => h (ht.2 h'))]
        exact fin
    refine Evt.succ ?_
    simp only [bits_Div64.l0]
    by_cases h : q ≥ 4294967296
    · exact Evt.ite_pos h (key true ⟨fun _ => Or.inl h, fun _ => rfl⟩)
    · refine Evt.ite_neg h (key _ ?_)
      have hm := mul_u64 (x := q) (y := b) ⟨by omega, by omega⟩ hb
      rw [wu64_of hm.1 hm.2, wu64_of (x := 4294967296 * r) (by omega) (by omega), wu64_of (x := 4294967296 * r + c) (by omega) (by omega), decide_eq_true_eq]
      exact ⟨fun h => Or.inr h, fun h' => by rcases h' with h' | h'; exact absurd h' h; exact h'⟩
theorem div_left {Y u c : Int} (hY : 0 < Y ∧ Y < 18446744073709551616) (hu : 0 ≤ u ∧ u < Y) (hc : 0 ≤ c ∧ c < 4294967296) :
    IntKind.u64.wrap ((IntKind.u64.wrap ((IntKind.u64.wrap (u * 4294967296)) + c)) - (IntKind.u64.wrap ((u * 4294967296 + c) / Y * Y))) = (u * 4294967296 + c) % Y := by
  have h1 : (u * 4294967296 + c) % Y + (u * 4294967296 + c) / Y * Y = u * 4294967296 + c := by rw [Int.mul_comm (_ / Y)]; exact Int.emod_add_mul_ediv _ _
  have h2 := Int.emod_nonneg (u * 4294967296 + c) (show Y ≠ 0 by omega)
  have h3 := Int.emod_lt_of_pos (u * 4294967296 + c) hY.1
  generalize (u * 4294967296 + c) % Y = m at *
  generalize (u * 4294967296 + c) / Y * Y = p at *
  simp only [wu64]
  omega
theorem div_first {Y a b u : Int} (c : Int) (hY : Y = a * 4294967296 + b) (ha : 2147483648 ≤ a ∧ a < 4294967296) (hb : 0 ≤ b ∧ b < 4294967296) (hu : 0 ≤ u ∧ u < Y) (hc : 0 ≤ c ∧ c < 4294967296) :
    IntKind.u64.wrap (Int.tdiv u a) = u / a ∧ IntKind.u64.wrap (u - IntKind.u64.wrap (u / a * a)) = u - u / a * a ∧ (u * 4294967296 + c) / Y ≤ u / a ∧ u / a ≤ 4294967297 ∧ 0 ≤ u - u / a * a ∧ u - u / a * a < 4294967296 := by
  have h1 : u % a + u / a * a = u := by rw [Int.mul_comm (u / a)]; exact Int.emod_add_mul_ediv _ _
  have h2 := Int.emod_nonneg u (show a ≠ 0 by omega)
  have h3 := Int.emod_lt_of_pos u (show 0 < a by omega)
  have h4 := Int.ediv_nonneg hu.1 (show 0 ≤ a by omega)
  have h5 : u / a < 4294967298 := by
    apply Int.ediv_lt_of_lt_mul (by omega)
    omega
  have h6 : (u * 4294967296 + c) / Y ≤ u / a := by
    have hY0 : 0 < Y := by omega
    have : (u * 4294967296 + c) / Y < u / a + 1 := by
      apply Int.ediv_lt_of_lt_mul hY0
      have e : (u / a + 1) * Y = (u / a * a + a) * 4294967296 + (u / a) * b + b := by rw [hY]; grind
      have h7 := Int.mul_nonneg h4 hb.1
      rw [e]
      omega
    omega
  rw [Int.tdiv_eq_ediv_of_nonneg hu.1, wu64_of h4 (by omega)]
  have h8 := Int.mul_nonneg h4 (show 0 ≤ a by omega)
  refine ⟨rfl, ?_, h6, by omega, by omega, by omega⟩
  rw [wu64_of (x := u / a * a) (by omega) (by omega), wu64_of (by omega) (by omega)]
theorem div_l1 {Y a b u c q1 : Int} (s : Nat) (hs : s < 64) (hY : Y = a * 4294967296 + b) (ha : 2147483648 ≤ a ∧ a < 4294967296) (hb : 0 ≤ b ∧ b < 4294967296) (hu : 0 ≤ u ∧ u < Y) (hc : 0 ≤ c ∧ c < 4294967296)
    (hq1 : 0 ≤ q1 ∧ q1 < 4294967296) (n : Nat) : ∀ q r : Int, (u * 4294967296 + c) / Y ≤ q → q ≤ 4294967297 → r = u - q * a → 0 ≤ r ∧ r < 4294967296 → q - (u * 4294967296 + c) / Y ≤ n →
    Evt (fun k => bits_Div64.l1 k Y (s : Int) a b c q1 r u q) (q1 * 4294967296 + (u * 4294967296 + c) / Y, (u * 4294967296 + c) % Y / 2 ^ s) := by
  have hQ0 : 0 ≤ (u * 4294967296 + c) / Y := Int.ediv_nonneg (by omega) (by omega)
  have hQ1 : (u * 4294967296 + c) / Y < 4294967296 := by
    apply Int.ediv_lt_of_lt_mul (by omega)
    omega
  have hl := div_left (Y := Y) (u := u) (c := c) ⟨by omega, by omega⟩ hu hc
  induction n with
  | zero =>
    intro q r hq hq2 hr hr0 hn
    obtain ⟨g1, g2, g3⟩ := div_corr hY ha hb hu hc hq hq2 hr hr0
    have hno : ¬ (q ≥ 4294967296 ∨ q * b > 4294967296 * r + c) := fun h => by have := g1 h; omega
    refine Evt.succ ?_
    simp only [bits_Div64.l1]
    refine Evt.ite_neg (fun h => hno (Or.inl h)) ?_
    have hm := mul_u64 (x := q) (y := b) ⟨by omega, by omega⟩ hb
    rw [wu64_of hm.1 hm.2, wu64_of (x := 4294967296 * r) (by omega) (by omega), wu64_of (x := 4294967296 * r + c) (by omega) (by omega)]
    refine Evt.succ ?_
    simp only [bits_Div64.j4]
    refine Evt.ite_neg (by simp only [decide_eq_true_eq]; exact fun h => hno (Or.inr h)) (Evt.ite_pos (by omega) ?_)
    rw [← g2 hno, hl, shr_u64 _ _ (by omega), wu64_of (x := q1 * 4294967296) (by omega) (by omega), wu64_of (by omega) (by omega)]
    exact Evt.pure _
  | succ n ih =>
    intro q r hq hq2 hr hr0 hn
    obtain ⟨g1, g2, g3⟩ := div_corr hY ha hb hu hc hq hq2 hr hr0
    have key : ∀ t : Bool, (t = true ↔ (q ≥ 4294967296 ∨ q * b > 4294967296 * r + c)) → Evt (fun k => bits_Div64.j4 k Y (s : Int) a b c q1 r u q t) (q1 * 4294967296 + (u * 4294967296 + c) / Y, (u * 4294967296 + c) % Y / 2 ^ s) := by
      intro t ht
      refine Evt.succ ?_
      simp only [bits_Div64.j4]
      by_cases h : t = true
      · have h' := ht.1 h
        have hq1 := g1 h'
        refine Evt.ite_pos h ?_
        rw [wu64_of (x := r + a) (by omega) (by omega), wu64_of (x := q - 1) (by omega) (by omega)]
        by_cases h2 : r + a ≥ 4294967296
        · refine Evt.ite_pos h2 (Evt.ite_pos (by omega) ?_)
          rw [← g3 h' h2, hl, shr_u64 _ _ (by omega), wu64_of (x := q1 * 4294967296) (by omega) (by omega), wu64_of (by omega) (by omega)]
          exact Evt.pure _
        · refine Evt.ite_neg h2 (ih (q - 1) (r + a) hq1 (by omega) ?_ (by omega) (by omega))
          rw [hr]; grind
      · refine Evt.ite_neg h (Evt.ite_pos (by omega) ?_)
        rw [← g2 (fun h' => h (ht.2 h')), hl, shr_u64 _ _ (by omega), wu64_of (x := q1 * 4294967296) (by omega) (by omega), wu64_of (by omega) (by omega)]
        exact Evt.pure _
    refine Evt.succ ?_
    simp only [bits_Div64.l1]
    by_cases h : q ≥ 4294967296
    · exact Evt.ite_pos h (key true ⟨fun _ => Or.inl h, fun _ => rfl⟩)
    · refine Evt.ite_neg h (key _ ?_)
      have hm := mul_u64 (x := q) (y := b) ⟨by omega, by omega⟩ hb
      rw [wu64_of hm.1 hm.2, wu64_of (x := 4294967296 * r) (by omega) (by omega), wu64_of (x := 4294967296 * r + c) (by omega) (by omega), decide_eq_true_eq]
      exact ⟨fun h => Or.inr h, fun h' => by rcases h' with h' | h'; exact absurd h' h; exact h'⟩
theorem mask32 {x : Int} (h0 : 0 ≤ x) (h1 : x < 18446744073709551616) : Go.bits .and .u64 x 4294967295 = x % 4294967296 := by
  have h := bits_mask .u64 64 (by decide) wraps_u64 32 (by decide) x h0 (by omega)
  rw [show (2 : Int) ^ 32 = 4294967296 from by decide] at h
  exact h
theorem bits_Div64_ev {hi lo y : Int} (h1 : 0 ≤ hi ∧ hi < y) (h2 : 0 ≤ lo ∧ lo < 18446744073709551616) (h3 : y < 18446744073709551616) :
    Evt (fun k => bits_Div64.f k hi lo y) ((hi * 18446744073709551616 + lo) / y, (hi * 18446744073709551616 + lo) % y) := by
  unfold bits_Div64.f
  refine Evt.ite_neg (by omega) (Evt.ite_neg (by omega) ?_)
  by_cases h0 : hi = 0
  · subst h0
    have h4 := Int.ediv_nonneg h2.1 (show 0 ≤ y by omega)
    have h5 := Int.ediv_le_self y h2.1
    refine Evt.ite_pos rfl ?_
    rw [Int.zero_mul, Int.zero_add, Int.tdiv_eq_ediv_of_nonneg h2.1, Int.tmod_eq_emod_of_nonneg h2.1, wu64_of h4 (by omega)]
    exact Evt.pure _
  · refine Evt.ite_neg h0 ?_
    have hbl := bl_le (x := y.toNat) (m := 64) (by omega)
    have hbp := bl_pos (n := y.toNat) (by omega)
    have hb1 := bl_lt y.toNat
    have hb2 := bl_ge (n := y.toNat) (by omega)
    obtain ⟨s, hs⟩ : ∃ s, s = 64 - bl y.toNat := ⟨_, rfl⟩
    have hs64 : s < 64 := by omega
    refine Evt.bind (Evt.bind (h := fun t _ => some (wrap64 (64 - t))) (bits_Len64_ev (x := y) (by omega) h3) (Evt.pure _)) ?_
    rw [show wrap64 (64 - ((bl y.toNat : Nat) : Int)) = (s : Int) from by rw [w64 (by omega) (by omega)]; omega]
    rw [wu64_of (x := (s : Int)) (by omega) (by omega), wu64_of (x := 64 - (s : Int)) (by omega) (by omega), show 64 - (s : Int) = ((64 - s : Nat) : Int) from by omega]
    rw [shl_u64 y s (by omega), shl_u64 hi s (by omega), shl_u64 lo s (by omega), shr_u64 lo (64 - s) (by omega)]
    have hp := pow2_pos s
    have hY1 : y * 2 ^ s < 18446744073709551616 := by
      have h4 : y.toNat * 2 ^ s < 2 ^ bl y.toNat * 2 ^ s := Nat.mul_lt_mul_of_pos_right hb1 (Nat.pow_pos (by decide))
      rw [← Nat.pow_add, show bl y.toNat + s = 64 from by omega] at h4
      have h5 : ((y.toNat * 2 ^ s : Nat) : Int) = y * 2 ^ s := by rw [Int.natCast_mul, Int.toNat_of_nonneg (by omega)]; simp
      omega
    have hY2 : 9223372036854775808 ≤ y * 2 ^ s := by
      have h4 : 2 ^ (bl y.toNat - 1) * 2 ^ s ≤ y.toNat * 2 ^ s := Nat.mul_le_mul_right _ hb2
      rw [← Nat.pow_add, show bl y.toNat - 1 + s = 63 from by omega] at h4
      have h5 : ((y.toNat * 2 ^ s : Nat) : Int) = y * 2 ^ s := by rw [Int.natCast_mul, Int.toNat_of_nonneg (by omega)]; simp
      omega
    have hh0 : 0 ≤ hi * 2 ^ s := Int.mul_nonneg h1.1 (by omega)
    have hh1 : hi * 2 ^ s + 2 ^ s ≤ y * 2 ^ s := by
      have := Int.mul_le_mul_of_nonneg_right (show hi + 1 ≤ y by omega) (show 0 ≤ (2 : Int) ^ s by omega)
      rw [Int.add_mul, Int.one_mul] at this
      exact this
    obtain ⟨f1, f2, f3, f4⟩ := shl_facts h2 (s := s) (by omega)
    have f5 := Int.emod_nonneg (lo * 2 ^ s) (show (18446744073709551616 : Int) ≠ 0 by omega)
    have f6 := Int.emod_lt_of_pos (lo * 2 ^ s) (show (0 : Int) < 18446744073709551616 by omega)
    rw [Int.emod_eq_of_lt (show 0 ≤ y * 2 ^ s by omega) hY1, Int.emod_eq_of_lt hh0 (by omega)]
    rw [or_u64 s (by omega) hh0 (Int.mul_emod_left _ _) (by omega) f3 f4]
    rw [mask32 (by omega) hY1, mask32 f5 f6]
    have hres : ((hi * 18446744073709551616 + lo) * 2 ^ s) / (y * 2 ^ s) = (hi * 18446744073709551616 + lo) / y := Int.mul_ediv_mul_of_pos_left _ _ hp
    have hrem : ((hi * 18446744073709551616 + lo) * 2 ^ s) % (y * 2 ^ s) = (hi * 18446744073709551616 + lo) % y * 2 ^ s := by
      rw [Int.mul_comm _ (2 ^ s), Int.mul_comm y, Int.mul_emod_mul_of_pos _ _ hp, Int.mul_comm]
    have hV : (hi * 18446744073709551616 + lo) * 2 ^ s = (hi * 2 ^ s + lo / 2 ^ (64 - s)) * 18446744073709551616 + (lo * 2 ^ s) % 18446744073709551616 := by
      have e : (hi * 18446744073709551616 + lo) * 2 ^ s = hi * 2 ^ s * 18446744073709551616 + lo * 2 ^ s := by grind
      rw [e]
      omega
    have hu : 0 ≤ hi * 2 ^ s + lo / 2 ^ (64 - s) ∧ hi * 2 ^ s + lo / 2 ^ (64 - s) < y * 2 ^ s := by omega
    generalize (hi * 18446744073709551616 + lo) / y = RQ at *
    generalize (hi * 18446744073709551616 + lo) % y = RM at *
    generalize hi * 2 ^ s + lo / 2 ^ (64 - s) = u at *
    generalize (lo * 2 ^ s) % 18446744073709551616 = v at *
    generalize y * 2 ^ s = Y at *
    rw [hV] at hres hrem
    have ha : 2147483648 ≤ Y / 4294967296 ∧ Y / 4294967296 < 4294967296 := by omega
    have hb : 0 ≤ Y % 4294967296 ∧ Y % 4294967296 < 4294967296 := by omega
    have hYY : Y = Y / 4294967296 * 4294967296 + Y % 4294967296 := by omega
    have hc : 0 ≤ v / 4294967296 ∧ v / 4294967296 < 4294967296 := by omega
    have hc0 : 0 ≤ v % 4294967296 ∧ v % 4294967296 < 4294967296 := by omega
    have hvv : v = v / 4294967296 * 4294967296 + v % 4294967296 := by omega
    generalize Y / 4294967296 = a at *
    generalize Y % 4294967296 = b at *
    generalize v / 4294967296 = c at *
    generalize v % 4294967296 = c0 at *
    refine Evt.ite_pos (by omega) (Evt.ite_pos (by omega) (Evt.ite_neg (by omega) ?_))
    obtain ⟨g1, g2, g3, g4, g5, g6⟩ := div_first c hYY ha hb hu hc
    rw [g1, g2]
    have hY0 : 0 < Y := by omega
    have m1 := Int.emod_nonneg (u * 4294967296 + c) (show Y ≠ 0 by omega)
    have m2 := Int.emod_lt_of_pos (u * 4294967296 + c) hY0
    have m3 := Int.emod_add_mul_ediv (u * 4294967296 + c) Y
    have q0 : 0 ≤ (u * 4294967296 + c) / Y := Int.ediv_nonneg (by omega) (by omega)
    have q1 : (u * 4294967296 + c) / Y < 4294967296 := by
      apply Int.ediv_lt_of_lt_mul hY0
      omega
    have hl := div_left (Y := Y) (u := u) (c := c) ⟨hY0, hY1⟩ hu hc
    refine div_l0 hYY ha hb hu hc ?_ 4294967300 (u / a) (u - u / a * a) g3 g4 rfl ⟨g5, g6⟩ (by omega)
    refine Evt.succ ?_
    simp only [bits_Div64.j2]
    refine Evt.ite_neg (by omega) ?_
    rw [hl]
    generalize (u * 4294967296 + c) % Y = u2 at *
    generalize (u * 4294967296 + c) / Y = Q1 at *
    obtain ⟨k1, k2, k3, k4, k5, k6⟩ := div_first c0 hYY ha hb ⟨m1, m2⟩ hc0
    rw [k1, k2]
    have n1 := Int.emod_nonneg (u2 * 4294967296 + c0) (show Y ≠ 0 by omega)
    have n2 := Int.emod_lt_of_pos (u2 * 4294967296 + c0) hY0
    have n3 := Int.emod_add_mul_ediv (u2 * 4294967296 + c0) Y
    have r0 : 0 ≤ (u2 * 4294967296 + c0) / Y := Int.ediv_nonneg (by omega) (by omega)
    have hend := div_l1 (q1 := Q1) s hs64 hYY ha hb ⟨m1, m2⟩ hc0 ⟨q0, q1⟩ 4294967300 (u2 / a) (u2 - u2 / a * a) k3 k4 rfl ⟨k5, k6⟩ (by omega)
    refine hend.congr (fun k => rfl) ?_
    generalize (u2 * 4294967296 + c0) % Y = M at *
    generalize (u2 * 4294967296 + c0) / Y = Q0 at *
    have ef : u * 18446744073709551616 + v = M + Y * (Q1 * 4294967296 + Q0) := by
      have e : Y * (Q1 * 4294967296 + Q0) = Y * Q1 * 4294967296 + Y * Q0 := by grind
      rw [e]
      omega
    rw [ef, Int.add_mul_ediv_left _ _ (show Y ≠ 0 by omega), Int.ediv_eq_zero_of_lt n1 n2, Int.zero_add] at hres
    rw [ef, Int.add_mul_emod_self_left, Int.emod_eq_of_lt n1 n2] at hrem
    rw [hres, hrem, Int.mul_ediv_cancel _ (by omega)]
theorem guess_l0 {r2 r1 r0 d1 d0 : Int} (h0 : 0 ≤ r0 ∧ r0 < 18446744073709551616) (k1 : 0 < d1 ∧ d1 < 18446744073709551616) (k0 : 0 ≤ d0 ∧ d0 < 18446744073709551616) (n : Nat) :
    ∀ q rest : Int, 0 ≤ q ∧ q < 18446744073709551616 → 0 ≤ rest ∧ rest < 18446744073709551616 → q * d1 + rest = r2 * 18446744073709551616 + r1 → q ≤ n → (∀ h, h < 18446744073709551616 → h * (d1 * 18446744073709551616 + d0) ≤ (r2 * 18446744073709551616 + r1) * 18446744073709551616 + r0 → h ≤ q) →
    ∃ g, Evt (fun k => nat_guess.l0 k r0 d1 d0 q rest) g ∧ (0 ≤ g ∧ g < 18446744073709551616) ∧ ∀ h, h < 18446744073709551616 → h * (d1 * 18446744073709551616 + d0) ≤ (r2 * 18446744073709551616 + r1) * 18446744073709551616 + r0 → h ≤ g := by
  induction n with
  | zero =>
    intro q rest hq hr he hn hall
    obtain rfl : q = 0 := by omega
    obtain ⟨hi, lo, e, e2, e3, e4⟩ := bits_Mul64_eq (x := 0) (y := d0) (by omega) k0
    refine ⟨0, ?_, by omega, hall⟩
    refine Evt.succ ?_
    simp only [nat_guess.l0]
    refine Evt.bind (Evt.of (fun _ => e)) ?_
    refine Evt.cond' (fun _ => ?_) (fun c => ?_)
    · refine Evt.succ ?_
      simp only [nat_guess.j1]
      exact Evt.ite_pos (by simp) (Evt.pure _)
    · rw [Int.zero_mul] at e2
      refine Evt.ite_pos (by omega) ?_
      refine Evt.succ ?_
      simp only [nat_guess.j1]
      exact Evt.ite_pos (by simp; omega) (Evt.pure _)
  | succ n ih =>
    intro q rest hq hr he hn hall
    obtain ⟨hi, lo, e, e2, e3, e4⟩ := bits_Mul64_eq (x := q) (y := d0) hq k0
    by_cases hp : hi < rest ∨ (hi = rest ∧ lo ≤ r0)
    · refine ⟨q, ?_, hq, hall⟩
      refine Evt.succ ?_
      simp only [nat_guess.l0]
      refine Evt.bind (Evt.of (fun _ => e)) ?_
      refine Evt.cond' (fun _ => ?_) (fun c => ?_)
      · refine Evt.succ ?_
        simp only [nat_guess.j1]
        exact Evt.ite_pos (by simp) (Evt.pure _)
      · refine Evt.ite_pos (by omega) ?_
        refine Evt.succ ?_
        simp only [nat_guess.j1]
        exact Evt.ite_pos (by simp; omega) (Evt.pure _)
    · have hno : ∀ h, h < 18446744073709551616 → h * (d1 * 18446744073709551616 + d0) ≤ (r2 * 18446744073709551616 + r1) * 18446744073709551616 + r0 → h ≤ q - 1 := by
        intro h h1 h2
        have h3 := hall h h1 h2
        by_cases h4 : h = q
        · subst h4
          have e5 : h * (d1 * 18446744073709551616 + d0) = h * d1 * 18446744073709551616 + h * d0 := by grind
          rw [e5, ← e2] at h2
          omega
        · omega
      have hq0 : q ≠ 0 := by
        intro h
        subst h
        rw [Int.zero_mul] at e2
        omega
      have step : ∀ {g : Int}, Evt (fun k => if IntKind.u64.wrap (rest + d1) < rest then (some (IntKind.u64.wrap (q - 1))) else (nat_guess.l0 k r0 d1 d0 (IntKind.u64.wrap (q - 1)) (IntKind.u64.wrap (rest + d1)))) g → Evt (fun k => nat_guess.l0 k r0 d1 d0 q rest) g := by
        intro g hg
        refine Evt.succ ?_
        simp only [nat_guess.l0]
        refine Evt.bind (Evt.of (fun _ => e)) ?_
        refine Evt.ite_neg (by omega) ?_
        refine Evt.cond' (fun _ => ?_) (fun c => ?_)
        · refine Evt.succ ?_
          simp only [nat_guess.j1]
          exact Evt.ite_neg (by simp; omega) hg
        · refine Evt.succ ?_
          simp only [nat_guess.j1]
          exact Evt.ite_neg (by simp) hg
      rw [wu64_of (x := q - 1) (by omega) (by omega), wu64] at step
      by_cases hov : rest + d1 < 18446744073709551616
      · obtain ⟨g, g1, g2, g3⟩ := ih (q - 1) (rest + d1) (by omega) (by omega) (by rw [Int.sub_mul]; omega) (by omega) hno
        refine ⟨g, step ?_, g2, g3⟩
        rw [Int.emod_eq_of_lt (by omega) hov]
        exact Evt.ite_neg (by omega) g1
      · refine ⟨q - 1, step ?_, by omega, hno⟩
        exact Evt.ite_pos (by omega) (Evt.pure _)
theorem nat_guess_ev {r2 r1 r0 d1 d0 : Int} (h2 : 0 ≤ r2) (h1 : 0 ≤ r1 ∧ r1 < 18446744073709551616) (h0 : 0 ≤ r0 ∧ r0 < 18446744073709551616) (k1 : 0 < d1 ∧ d1 < 18446744073709551616) (k0 : 0 ≤ d0 ∧ d0 < 18446744073709551616) :
    ∃ g, Evt (fun k => nat_guess.f k r2 r1 r0 d1 d0) g ∧ (0 ≤ g ∧ g < 18446744073709551616) ∧ ∀ h, h < 18446744073709551616 → h * (d1 * 18446744073709551616 + d0) ≤ (r2 * 18446744073709551616 + r1) * 18446744073709551616 + r0 → h ≤ g := by
  by_cases hc : r2 ≥ d1
  · refine ⟨18446744073709551615, ?_, by omega, fun h h3 _ => by omega⟩
    unfold nat_guess.f
    exact Evt.ite_pos hc (Evt.pure _)
  · have hq0 : 0 ≤ (r2 * 18446744073709551616 + r1) / d1 := Int.ediv_nonneg (by omega) (by omega)
    have hq1 : (r2 * 18446744073709551616 + r1) / d1 < 18446744073709551616 := by
      apply Int.ediv_lt_of_lt_mul k1.1
      omega
    have hm0 := Int.emod_nonneg (r2 * 18446744073709551616 + r1) (show d1 ≠ 0 by omega)
    have hm1 := Int.emod_lt_of_pos (r2 * 18446744073709551616 + r1) k1.1
    have hm : (r2 * 18446744073709551616 + r1) / d1 * d1 + (r2 * 18446744073709551616 + r1) % d1 = r2 * 18446744073709551616 + r1 := by rw [Int.mul_comm]; exact Int.mul_ediv_add_emod _ _
    obtain ⟨g, g1, g2, g3⟩ := guess_l0 (r2 := r2) (r1 := r1) h0 k1 k0 ((r2 * 18446744073709551616 + r1) / d1).toNat ((r2 * 18446744073709551616 + r1) / d1) ((r2 * 18446744073709551616 + r1) % d1) ⟨hq0, hq1⟩ ⟨hm0, by omega⟩ hm (by omega) (by
      intro h h3 h4
      rw [Int.le_ediv_iff_mul_le k1.1]
      have e : h * (d1 * 18446744073709551616 + d0) = h * d1 * 18446744073709551616 + h * d0 := by grind
      rw [e] at h4
      by_cases h5 : 0 ≤ h
      · have : 0 ≤ h * d0 := Int.mul_nonneg h5 k0.1
        omega
      · have : h * d1 ≤ 0 := Int.mul_nonpos_of_nonpos_of_nonneg (by omega) (by omega)
        omega)
    refine ⟨g, ?_, g2, g3⟩
    unfold nat_guess.f
    refine Evt.ite_neg hc ?_
    exact Evt.bind (bits_Div64_ev (by omega) h1 k1.2) g1
theorem drop_set_self (l : List Int) (i : Nat) (x : Int) (h : i < l.length) : (l.set i x).drop i = x :: l.drop (i + 1) := by
  rw [List.drop_eq_getElem_cons (by simpa using h), List.drop_set, if_pos (Nat.lt_succ_self i)]
  simp
theorem nat_short_loop (a : List Int) (d : Int) (da : Dig (b64 : Int) a) (ha : a.length ≤ 100000) (h0 : 0 < d) (h1 : d < 18446744073709551616) (n : Nat) :
    ∀ (out : List Int) (rest : Int), n ≤ a.length → out.length = a.length → Dig (b64 : Int) out → 0 ≤ rest ∧ rest < d → val (b64 : Int) (out.drop n) * d + rest = val (b64 : Int) (a.drop n) →
    Evt (fun k => nat_short.l0 k a d out rest ((n : Int) - 1)) (limbs (num a / d.toNat), ((num a % d.toNat : Nat) : Int)) := by
  induction n with
  | zero =>
    intro out rest hn ho do_ hr hv
    refine Evt.succ ?_
    simp only [nat_short.l0]
    refine Evt.ite_neg (by omega) ?_
    refine Evt.bind (nat_trim_ev out (by simp [maxLen]; omega)) ?_
    rw [strip_limbs do_]
    rw [List.drop_zero, List.drop_zero] at hv
    have e1 := num_val do_
    have e2 := num_val da
    have e3 : num a = num out * d.toNat + rest.toNat := by
      have : (num a : Int) = ((num out * d.toNat + rest.toNat : Nat) : Int) := by
        rw [Int.natCast_add, Int.natCast_mul, e1, e2, Int.toNat_of_nonneg (by omega), Int.toNat_of_nonneg hr.1]
        exact hv.symm
      omega
    have e4 : num a / d.toNat = num out := by
      rw [e3, Nat.mul_comm, Nat.mul_add_div (by omega), Nat.div_eq_of_lt (by omega), Nat.add_zero]
    have e5 : num a % d.toNat = rest.toNat := by
      rw [e3, Nat.mul_comm, Nat.mul_add_mod, Nat.mod_eq_of_lt (by omega)]
    rw [e4, e5, Int.toNat_of_nonneg hr.1]
    exact Evt.pure _
  | succ n ih =>
    intro out rest hn ho do_ hr hv
    refine Evt.succ ?_
    simp only [nat_short.l0]
    rw [show ((n + 1 : Nat) : Int) - 1 = (n : Int) from by omega, rd_nat, w64 (by omega) (by omega)]
    have hx := da.getD b64_pos n
    have hg : a.getD n 0 = a[n] := by simp [show n < a.length by omega]
    simp only [b64] at hx
    have hq0 : 0 ≤ (rest * 18446744073709551616 + a.getD n 0) / d := Int.ediv_nonneg (by omega) (by omega)
    have hq1 : (rest * 18446744073709551616 + a.getD n 0) / d < 18446744073709551616 := by
      apply Int.ediv_lt_of_lt_mul h0
      omega
    have hm0 := Int.emod_nonneg (rest * 18446744073709551616 + a.getD n 0) (show d ≠ 0 by omega)
    have hm1 := Int.emod_lt_of_pos (rest * 18446744073709551616 + a.getD n 0) h0
    have hm : (rest * 18446744073709551616 + a.getD n 0) % d + (rest * 18446744073709551616 + a.getD n 0) / d * d = rest * 18446744073709551616 + a.getD n 0 := by rw [Int.mul_comm (_ / d)]; exact Int.emod_add_mul_ediv _ _
    refine Evt.ite_pos (by omega) (Evt.ite_pos (by omega) (Evt.ite_pos (by omega) ?_))
    refine Evt.bind (bits_Div64_ev hr hx h1) ?_
    refine Evt.ite_pos (by omega) ?_
    rw [Int.toNat_natCast]
    refine ih _ _ (by omega) (by simpa using ho) (do_.set n ⟨hq0, hq1⟩) ⟨hm0, hm1⟩ ?_
    rw [drop_set_self _ _ _ (by omega), List.drop_eq_getElem_cons (show n < a.length by omega), ← hg]
    simp only [val, b64] at hv ⊢
    generalize (rest * 18446744073709551616 + a.getD n 0) / d = Q at *
    generalize (rest * 18446744073709551616 + a.getD n 0) % d = M at *
    generalize a.getD n 0 = x at *
    rw [← hv]
    generalize val _ (out.drop (n + 1)) = V at *
    have e : (Q + ((18446744073709551616 : Nat) : Int) * V) * d = Q * d + 18446744073709551616 * (V * d) := by
      rw [Int.add_mul, Int.mul_assoc]; rfl
    rw [e, Int.mul_add]
    omega
theorem nat_short_ev (a : List Int) (d : Int) (da : Dig (b64 : Int) a) (ha : a.length ≤ 100000) (h0 : 0 < d) (h1 : d < 18446744073709551616) :
    Evt (fun k => nat_short.f k a d) (limbs (num a / d.toNat), ((num a % d.toNat : Nat) : Int)) := by
  unfold nat_short.f
  refine Evt.ite_pos (by omega) (Evt.ite_pos (by omega) ?_)
  rw [Int.toNat_natCast, w64 (by omega) (by omega)]
  refine nat_short_loop a d da ha h0 h1 a.length _ 0 (Nat.le_refl _) (by simp) (Dig.replicate b64_pos _) ⟨by omega, h0⟩ ?_
  rw [List.drop_of_length_le (by simp), List.drop_of_length_le (by simp)]
  simp [val]
def mulV (a b : List Int) : List Int × Int := if rightB a = true ∧ rightB b = true then toldV (num a * num b) else ([], 1)
theorem nat_Mul_ev (a b : List Int) (ha : a.length ≤ maxLen) (hb : b.length ≤ maxLen) (da : Dig (b64 : Int) a) (db : Dig (b64 : Int) b) : Evt (fun k => nat_Mul.f k a b) (mulV a b) := by
  unfold nat_Mul.f mulV
  rw [nat_right_eq _ (by intro l hl; simp at hl; rcases hl with rfl | rfl <;> assumption)]
  simp only [Option.bind_some, List.all_cons, List.all_nil, Bool.and_true, Bool.and_eq_true]
  by_cases h : rightB a = true ∧ rightB b = true
  · rw [if_pos h]
    refine Evt.ite_pos h ?_
    obtain ⟨h1, c1⟩ := (rightB_iff a).1 h.1
    obtain ⟨h2, c2⟩ := (rightB_iff b).1 h.2
    have e : nat_product.f a b = some (limbs (num a * num b)) := by
      unfold nat_product.f
      rw [if_pos (by simp only [dig_limbB da, dig_limbB db, Bool.and_true, Bool.and_eq_true, decide_eq_true_eq]; omega)]
    refine Evt.bind (Evt.of fun _ => e) ?_
    have hl : (limbs (num a * num b)).length ≤ 128 := by
      refine toD_len_le b64_two ?_
      have g1 := num_lt_p da h1
      have g2 := num_lt_p db h2
      have g3 := Nat.mul_lt_mul'' g1 g2
      rw [← Nat.pow_add] at g3
      exact g3
    have ht := nat_told_ev (limbs (num a * num b)) (by omega) (toD_dig b64_two _)
    rw [num_limbs] at ht
    exact Evt.bind ht (h := fun t _ => some (t.1, t.2)) (Evt.pure _)
  · rw [if_neg h]
    exact Evt.ite_neg h (Evt.pure _)
def okP (p : Int) : Bool := decide (128 ≤ p) && decide (p < 1099511627776) && (((leastV p.toNat : Nat) : Int) == p)
def checkV (p q : Int) : Int :=
  if okP p = true ∧ okP q = true ∧ p ≠ q ∧ bl p.toNat = bl q.toNat then (if 1 = Nat.gcd (p.toNat * q.toNat) ((p - 1).toNat * (q - 1).toNat) then 0 else 9) else 9
theorem okP_parts {p : Int} (h : okP p = true) : 128 ≤ p ∧ p < 1099511627776 ∧ ((leastV p.toNat : Nat) : Int) = p := by
  unfold okP at h
  simp only [Bool.and_eq_true, decide_eq_true_eq, beq_iff_eq] at h
  exact ⟨h.1.1, h.1.2, h.2⟩
theorem prod_lim {m n : Nat} (h : m < b64) (k : n < b64) : m * n < b64 ^ 64 := by
  have h1 := Nat.mul_lt_mul'' h k
  have h2 : b64 * b64 ≤ b64 ^ 64 := by
    rw [show b64 * b64 = b64 ^ 2 from (Nat.pow_two _).symm]
    exact Nat.pow_le_pow_right (by decide) (by decide)
  omega
theorem ref_Div_ev (a b : List Int) (ha : a.length ≤ maxLen) (hb : b.length ≤ maxLen) (da : Dig (b64 : Int) a) (db : Dig (b64 : Int) b) : Evt (fun k => windbreakref01_Div.f k a b) (divV a b) := by
  unfold windbreakref01_Div.f divV
  rw [windbreakref01_Right_eq ha, windbreakref01_Right_eq hb]
  simp only [Option.bind_some]
  have J : ∀ x : Bool, (x = false → rightB a = true ∧ rightB b = true) → Evt (fun k => windbreakref01_Div.j0 k a b x) (if x = true then ([], [], 1) else (if num b = 0 then ([], [], 3) else (limbs (num a / num b), limbs (num a % num b), 0))) := by
    intro x hx
    refine Evt.succ ?_
    simp only [windbreakref01_Div.j0]
    refine Evt.cond (fun _ => Evt.pure _) (fun hc => ?_)
    have h := hx (by simpa using hc)
    obtain ⟨h1, c1⟩ := (rightB_iff a).1 h.1
    obtain ⟨h2, c2⟩ := (rightB_iff b).1 h.2
    have hz := num_zero_iff db c2
    by_cases h0 : b.length = 0
    · rw [if_pos (hz.2 h0)]
      exact Evt.ite_pos (by omega) (Evt.pure _)
    · have hnz : num b ≠ 0 := fun e => h0 (hz.1 e)
      rw [if_neg hnz]
      refine Evt.ite_neg (by omega) ?_
      have n1 := num_lt_p da h1
      have n2 := num_lt_p db h2
      have n3 := pow_lt_lim (n := 64) (by omega)
      have e1 : num a / num b ≤ num a := Nat.div_le_self _ _
      have e2 : num a % num b ≤ num a := Nat.mod_le _ _
      have n4 : num b * 65536 < lim := by
        have g1 : num b * 65536 < b64 ^ 64 * b64 := Nat.mul_lt_mul'' n2 (by decide)
        rw [← Nat.pow_succ] at g1
        exact Nat.lt_of_lt_of_le g1 (lim_pow (by omega))
      refine Evt.bind (ref_In_ev a (by omega) da) (Evt.bind (ref_In_ev b (by omega) db) ?_)
      refine Evt.bind (ref_div_ev (num a) (num b) (by omega) (by omega) n4) ?_
      refine Evt.bind (ref_Out_ev (num a / num b) (by omega)) ?_
      exact Evt.bind (ref_Out_ev (num a % num b) (by omega)) (h := fun t _ => some (limbs (num a / num b), t.1, (0 : Int))) (Evt.pure _)
  cases hA : rightB a with
  | true =>
    refine Evt.ite_pos rfl ((J _ (fun h => ⟨hA, by simpa using h⟩)).congr (fun k => rfl) ?_)
    cases hB : rightB b <;> simp
  | false =>
    refine Evt.ite_neg (by simp) ((J _ (fun h => by simp at h)).congr (fun k => rfl) ?_)
    simp
theorem ref_Rest_ev (a b : List Int) (ha : a.length ≤ maxLen) (hb : b.length ≤ maxLen) (da : Dig (b64 : Int) a) (db : Dig (b64 : Int) b) : Evt (fun k => windbreakref01_Rest.f k a b) (divV a b).2.1 := by
  unfold windbreakref01_Rest.f
  exact Evt.bind (ref_Div_ev a b ha hb da db) (h := fun t _ => some t.2.1) (Evt.pure _)
theorem ref_gcd_loop (b : Nat) : ∀ a : Nat, a < b64 ^ 64 → b < b64 ^ 64 → Evt (fun k => windbreakref03_Gcd.l0 k (limbs a) (limbs b)) (limbs (Nat.gcd a b), 0) := by
  induction b using Nat.strongRecOn with
  | _ b ih =>
    intro a ha hb
    refine Evt.succ ?_
    simp only [windbreakref03_Gcd.l0]
    by_cases h0 : b = 0
    · subst h0
      refine Evt.ite_neg (by rw [lz]; simp) ((Evt.pure _).congr (fun k => rfl) ?_)
      rw [Nat.gcd_zero_right]
    · have h1 : (limbs b).length ≠ 0 := fun e => h0 ((lz_iff b).1 e)
      refine Evt.ite_pos (by omega) ?_
      have hd := ref_Rest_ev (limbs a) (limbs b) (lmax ha) (lmax hb) (dig_limbs' _) (dig_limbs' _)
      unfold divV at hd
      rw [if_pos ⟨right_limbs' ha, right_limbs' hb⟩, num_limbs, num_limbs, if_neg h0] at hd
      refine Evt.bind hd ?_
      have hlt := Nat.mod_lt a (show b > 0 by omega)
      rw [gcd_step]
      exact ih (a % b) hlt b hb (by omega)
theorem ref_Gcd_ev (a b : List Int) (ha : a.length ≤ maxLen) (hb : b.length ≤ maxLen) (da : Dig (b64 : Int) a) (db : Dig (b64 : Int) b) : Evt (fun k => windbreakref03_Gcd.f k a b) (gcdV a b) := by
  unfold windbreakref03_Gcd.f gcdV
  rw [windbreakref01_Right_eq ha, windbreakref01_Right_eq hb]
  simp only [Option.bind_some]
  have J : ∀ x : Bool, (x = false → rightB a = true ∧ rightB b = true) → Evt (fun k => windbreakref03_Gcd.j0 k a b x) (if x = true then ([], 1) else (limbs (Nat.gcd (num a) (num b)), 0)) := by
    intro x hx
    refine Evt.succ ?_
    simp only [windbreakref03_Gcd.j0]
    refine Evt.cond (fun _ => Evt.pure _) (fun hc => ?_)
    obtain ⟨h1, h2⟩ := hx (by simpa using hc)
    obtain ⟨l1, c1⟩ := (rightB_iff a).1 h1
    obtain ⟨l2, c2⟩ := (rightB_iff b).1 h2
    have h := ref_gcd_loop (num b) (num a) (num_lt_p da l1) (num_lt_p db l2)
    rw [limbs_num da c1, limbs_num db c2] at h
    simp only [Option.bind_some, List.nil_append, List.length_nil]
    exact Evt.ite_pos (by omega) (Evt.ite_pos (by omega) h)
  cases h1 : rightB a with
  | false => exact Evt.ite_neg (by simp) ((J true (by simp)).congr (fun k => rfl) (by simp))
  | true =>
    refine Evt.ite_pos rfl ?_
    refine (J (!rightB b) (fun e => ⟨h1, by simpa using e⟩)).congr (fun k => rfl) ?_
    cases rightB b <;> simp
theorem ref_Of_ne {x : Int} (h : x ≠ 0) : windbreakref01_Of.f x = some [x] := by
  rw [ref_Of_eq]
  simp [strip, h]
theorem ref5_bits_ev {x : Int} (h0 : 1 ≤ x) (h1 : x < 18446744073709551616) : Evt (fun k => windbreakref05_bits.f k x) ((bl x.toNat : Nat) : Int) := by
  unfold windbreakref05_bits.f
  refine Evt.bind (Evt.of (fun _ => ref_Of_ne (by omega))) ?_
  refine (Evt.bind (ref_Bits_ev [x] (by simp [maxLen]) (dig_one (by omega) h1)) (h := fun t _ => some t) (Evt.pure _)).congr (fun k => rfl) ?_
  unfold bitsV
  rw [if_pos ⟨right_one (by omega), by simp⟩]
  simp
theorem mulW_ones {x y : Int} (hx : 1 ≤ x) (hx1 : x < 18446744073709551616) (hy : 1 ≤ y) (hy1 : y < 18446744073709551616) : mulW [x] [y] = (limbs (x.toNat * y.toNat), 0) := by
  unfold mulW toldV
  have hb : b64 = 18446744073709551616 := rfl
  rw [if_pos ⟨right_one (by omega), right_one (by omega)⟩, num_one (by omega), num_one (by omega), if_pos (prod_lim (by omega) (by omega))]
theorem ref_Check_ev {p q : Int} (hp : 0 ≤ p) (hp1 : p < 18446744073709551616) (hq : 0 ≤ q) (hq1 : q < 18446744073709551616) : Evt (fun k => windbreakref05_Check.f k p q) (checkV p q) := by
  have hb : b64 = 18446744073709551616 := rfl
  unfold windbreakref05_Check.f checkV
  have J : ∀ x : Bool, (x = false → okP p = true ∧ okP q = true) → Evt (fun k => windbreakref05_Check.j0 k x p q) (if x = true then 9 else if 1 = Nat.gcd (p.toNat * q.toNat) ((p - 1).toNat * (q - 1).toNat) then 0 else 9) := by
    intro x hx
    refine Evt.succ ?_
    simp only [windbreakref05_Check.j0]
    refine Evt.cond (fun _ => Evt.pure _) (fun hc => ?_)
    obtain ⟨h1, h2⟩ := hx (by simpa using hc)
    obtain ⟨p1, p2, _⟩ := okP_parts h1
    obtain ⟨q1, q2, _⟩ := okP_parts h2
    have d : ∀ z : Int, 0 ≤ z → z < 18446744073709551616 → Dig (b64 : Int) [z] := fun z a b => dig_one a b
    refine Evt.bind (Evt.of (fun _ => ref_Of_ne (by omega))) (Evt.bind (Evt.of (fun _ => ref_Of_ne (by omega))) ?_)
    have m1 := ref_Mul_ev [p] [q] (by simp [maxLen]) (by simp [maxLen]) (d p hp hp1) (d q hq hq1)
    rw [mulW_ones (by omega) (by omega) (by omega) (by omega)] at m1
    refine Evt.bind m1 ?_
    rw [wu64_of (x := p - 1) (by omega) (by omega), wu64_of (x := q - 1) (by omega) (by omega)]
    refine Evt.bind (Evt.of (fun _ => ref_Of_ne (by omega))) (Evt.bind (Evt.of (fun _ => ref_Of_ne (by omega))) ?_)
    have m2 := ref_Mul_ev [p - 1] [q - 1] (by simp [maxLen]) (by simp [maxLen]) (d _ (by omega) (by omega)) (d _ (by omega) (by omega))
    rw [mulW_ones (by omega) (by omega) (by omega) (by omega)] at m2
    refine Evt.bind m2 ?_
    have b1 : p.toNat * q.toNat < b64 ^ 64 := prod_lim (by omega) (by omega)
    have b2 : (p - 1).toNat * (q - 1).toNat < b64 ^ 64 := prod_lim (by omega) (by omega)
    have g := ref_Gcd_ev (limbs (p.toNat * q.toNat)) (limbs ((p - 1).toNat * (q - 1).toNat)) (lmax b1) (lmax b2) (dig_limbs' _) (dig_limbs' _)
    unfold gcdV at g
    rw [if_pos ⟨right_limbs' b1, right_limbs' b2⟩, num_limbs, num_limbs] at g
    have hpq : 0 < p.toNat * q.toNat := Nat.mul_pos (by omega) (by omega)
    have b3 : Nat.gcd (p.toNat * q.toNat) ((p - 1).toNat * (q - 1).toNat) < b64 ^ 64 := Nat.lt_of_le_of_lt (Nat.gcd_le_left _ hpq) b1
    obtain ⟨G, hG0⟩ : ∃ G, G = Nat.gcd (p.toNat * q.toNat) ((p - 1).toNat * (q - 1).toNat) := ⟨_, rfl⟩
    rw [← hG0] at g b3 ⊢
    refine Evt.bind g ?_
    have c := windbreakref01_Small_ev (limbs G) (lmax b3)
    rw [small_lb b3] at c
    refine Evt.bind c ?_
    by_cases hG : 1 = G
    · rw [if_pos hG]
      exact Evt.ite_pos (by rw [if_pos (by omega)]; simp [← hG]) (Evt.pure _)
    · rw [if_neg hG]
      refine Evt.ite_neg (fun e => ?_) (Evt.pure _)
      by_cases hs : G < b64
      · rw [if_pos hs] at e
        exact hG (by have e' : ((G : Nat) : Int) = 1 := e; omega)
      · rw [if_neg hs] at e
        cases e
  have T9 : Evt (fun k => windbreakref05_Check.j0 k true p q) 9 := (J true (by simp)).congr (fun k => rfl) (by simp)
  have hno : ∀ c : Prop, ¬ c → ∀ [Decidable c], (if c then (if 1 = Nat.gcd (p.toNat * q.toNat) ((p - 1).toNat * (q - 1).toNat) then (0 : Int) else 9) else 9) = 9 := fun c h _ => if_neg h
  by_cases h1 : p < 128
  · refine Evt.ite_pos h1 (T9.congr (fun k => rfl) (hno _ (fun e => ?_)).symm)
    have := (okP_parts e.1).1; omega
  · refine Evt.ite_neg h1 ?_
    by_cases h2 : q < 128
    · refine Evt.ite_pos h2 (T9.congr (fun k => rfl) (hno _ (fun e => ?_)).symm)
      have := (okP_parts e.2.1).1; omega
    · refine Evt.ite_neg h2 ?_
      by_cases h3 : p ≥ 1099511627776
      · refine Evt.ite_pos h3 (T9.congr (fun k => rfl) (hno _ (fun e => ?_)).symm)
        have := (okP_parts e.1).2.1; omega
      · refine Evt.ite_neg h3 ?_
        by_cases h4 : q ≥ 1099511627776
        · refine Evt.ite_pos h4 (T9.congr (fun k => rfl) (hno _ (fun e => ?_)).symm)
          have := (okP_parts e.2.1).2.1; omega
        · refine Evt.ite_neg h4 ?_
          have l1 := ref5_least_ev p.toNat (by omega)
          rw [Int.toNat_of_nonneg hp] at l1
          have l2 := ref5_least_ev q.toNat (by omega)
          rw [Int.toNat_of_nonneg hq] at l2
          refine Evt.bind l1 ?_
          by_cases h5 : ((leastV p.toNat : Nat) : Int) = p
          · refine Evt.ite_pos h5 (Evt.bind l2 ?_)
            by_cases h6 : ((leastV q.toNat : Nat) : Int) = q
            · refine Evt.ite_pos h6 ?_
              have kp : okP p = true := by
                unfold okP
                rw [decide_eq_true (show 128 ≤ p by omega), decide_eq_true (show p < 1099511627776 by omega), h5]
                simp
              have kq : okP q = true := by
                unfold okP
                rw [decide_eq_true (show 128 ≤ q by omega), decide_eq_true (show q < 1099511627776 by omega), h6]
                simp
              by_cases h7 : p = q
              · exact Evt.ite_pos h7 (T9.congr (fun k => rfl) (hno _ (fun e => e.2.2.1 h7)).symm)
              · refine Evt.ite_neg h7 ?_
                refine Evt.bind (ref5_bits_ev (by omega) hp1) ?_
                refine Evt.bind (ref5_bits_ev (by omega) hq1) ?_
                refine (J _ (fun _ => ⟨kp, kq⟩)).congr (fun k => rfl) ?_
                by_cases h8 : bl p.toNat = bl q.toNat
                · simp [h7, h8, kp, kq]
                · have h9 : ¬ ((bl p.toNat : Nat) : Int) = ((bl q.toNat : Nat) : Int) := by omega
                  simp [h8, h9]
            · exact Evt.ite_neg h6 (T9.congr (fun k => rfl) (hno _ (fun e => h6 (okP_parts e.2.1).2.2)).symm)
          · exact Evt.ite_neg h5 (T9.congr (fun k => rfl) (hno _ (fun e => h5 (okP_parts e.1).2.2)).symm)
end Go.Proofs.Ytkgaejigpmkfkaa.Z
end
section
namespace Go.Proofs.Ytkgaejigpmkfkaa.Z
open Go.RowKit Go.Proofs.Ytkgaejigpmkfkaa.F Go.Proofs.YtkgaejigpmkfkaaW.PrintWords Go.Proofs.YtkgaejigpmkfkaaW.PrintMore
set_option linter.unusedSimpArgs false
set_option linter.unusedVariables false
def bv (b : List Int) : Nat := (val (b8 : Int) b.reverse).toNat
theorem bv_lt {b : List Int} (d : Dig (b8 : Int) b) : bv b < 2 ^ (8 * b.length) := by
  have h1 : Dig (b8 : Int) b.reverse := fun x hx => d x (List.mem_reverse.1 hx)
  have h2 := val_lt b8_pos h1
  rw [pow_cast, List.length_reverse] at h2
  have h3 := val_nonneg b8_pos h1
  rw [← b8_pow2]
  unfold bv
  omega
theorem bv_cons {x : Int} {b : List Int} (d : Dig (b8 : Int) (x :: b)) : bv (x :: b) = bv b + 2 ^ (8 * b.length) * x.toNat := by
  obtain ⟨dx, db⟩ := Dig.cons.1 d
  have h1 : Dig (b8 : Int) b.reverse := fun y hy => db y (List.mem_reverse.1 hy)
  have h3 := val_nonneg b8_pos h1
  unfold bv
  rw [List.reverse_cons, val_append, List.length_reverse, pow_cast, b8_pow2]
  simp only [val, Int.mul_zero, Int.add_zero]
  have h4 : (((2 ^ (8 * b.length) : Nat) : Int) * x) = ((2 ^ (8 * b.length) * x.toNat : Nat) : Int) := by
    rw [Int.natCast_mul, Int.toNat_of_nonneg dx.1]
  rw [h4]
  omega
theorem taken_facts {L : List Int} (dL : Dig (b8 : Int) L) {z : Nat} (u : Nat) (h1 : ¬ L.length - u < (z + 7) / 8) : Dig (b8 : Int) ((L.drop u).take ((z + 7) / 8)) ∧ ((L.drop u).take ((z + 7) / 8)).length = (z + 7) / 8 :=
  ⟨fun x hx => dL x (List.mem_of_mem_drop (List.mem_of_mem_take hx)), by rw [List.length_take, List.length_drop]; omega⟩
section
variable {n L : List Int} (hr : rightB n = true) (hn : n.length ≤ maxLen) (dn : Dig (b64 : Int) n) (dL : Dig (b8 : Int) L) {z : Nat} (hz : 0 < z) (hz2 : z ≤ 4096)
include hr hn dn dL hz hz2
end
end Go.Proofs.Ytkgaejigpmkfkaa.Z
end
section
namespace Go.Proofs.Ytkgaejigpmkfkaa.Z
open Go.RowKit Go.Proofs.Ytkgaejigpmkfkaa.F Go.Proofs.YtkgaejigpmkfkaaW.PrintWords Go.Proofs.YtkgaejigpmkfkaaW.PrintMore
set_option linter.unusedSimpArgs false
set_option linter.unusedVariables false
section
variable {n L : List Int} (hn : n.length ≤ maxLen) (dn : Dig (b64 : Int) n) (dL : Dig (b8 : Int) L)
include hn dn dL
end
section
variable {m : Int} (hm : m < 9223372036854775808) {L : List Int} (dL : Dig (b8 : Int) L)
include hm dL
end
end Go.Proofs.Ytkgaejigpmkfkaa.Z
end
section
namespace Go.Proofs.Ytkgaejigpmkfkaa.Z
open Go.RowKit Go.Proofs.Ytkgaejigpmkfkaa.F Go.Proofs.YtkgaejigpmkfkaaW.PrintWords Go.Proofs.YtkgaejigpmkfkaaW.PrintMore
set_option linter.unusedSimpArgs false
set_option linter.unusedVariables false
theorem bv_short {X : List Int} (d : Dig (b8 : Int) X) (h : X.length ≤ 5) : bv X < 1099511627776 := by
  have h1 := bv_lt d
  have h2 : 2 ^ (8 * X.length) ≤ 2 ^ 40 := Nat.pow_le_pow_right (by omega) (by omega)
  omega
theorem accR_bv (X : List Int) : ∀ a : Nat, Dig (b8 : Int) X → a * 2 ^ (8 * X.length) + bv X < 18446744073709551616 → accR (a : Int) X = ((a * 2 ^ (8 * X.length) + bv X : Nat) : Int) := by
  induction X with
  | nil =>
    intro a _ _
    simp [accR, bv, val]
  | cons c l ih =>
    intro a d h
    obtain ⟨dc, dl⟩ := Dig.cons.1 d
    have hb : (b8 : Int) = 256 := rfl
    rw [hb] at dc
    obtain ⟨n, rfl⟩ := Int.eq_ofNat_of_zero_le dc.1
    rw [bv_cons d] at h ⊢
    rw [Int.toNat_natCast] at h ⊢
    have e1 : 2 ^ (8 * ((n : Int) :: l).length) = 256 * 2 ^ (8 * l.length) := by
      rw [List.length_cons, show 8 * (l.length + 1) = 8 + 8 * l.length from by omega, Nat.pow_add]
    rw [e1] at h ⊢
    have hp : 0 < 2 ^ (8 * l.length) := Nat.pow_pos (by omega)
    generalize 2 ^ (8 * l.length) = P at h ih hp ⊢
    have e2 : a * (256 * P) + (bv l + P * n) = (a * 256 + n) * P + bv l := by
      rw [Nat.add_mul, Nat.mul_assoc, Nat.mul_comm P n]
      omega
    rw [e2] at h ⊢
    have h3 : (a * 256 + n) * 1 ≤ (a * 256 + n) * P := Nat.mul_le_mul_left _ hp
    rw [accR]
    have e3 : IntKind.u64.wrap (IntKind.u64.wrap ((a : Int) * 256) + IntKind.u64.wrap (n : Int)) = ((a * 256 + n : Nat) : Int) := by
      simp [IntKind.wrap, IntKind.bits, IntKind.signed]
      omega
    rw [e3]
    exact ih _ dl h
theorem accV_bv (X : List Int) : ∀ a : Nat, Dig (b8 : Int) X → a * 2 ^ (8 * X.length) + bv X < 18446744073709551616 → accV (a : Int) X = ((a * 2 ^ (8 * X.length) + bv X : Nat) : Int) := by
  induction X with
  | nil =>
    intro a _ _
    simp [accV, bv, val]
  | cons c l ih =>
    intro a d h
    obtain ⟨dc, dl⟩ := Dig.cons.1 d
    have hb : (b8 : Int) = 256 := rfl
    rw [hb] at dc
    obtain ⟨n, rfl⟩ := Int.eq_ofNat_of_zero_le dc.1
    rw [bv_cons d] at h ⊢
    rw [Int.toNat_natCast] at h ⊢
    have e1 : 2 ^ (8 * ((n : Int) :: l).length) = 256 * 2 ^ (8 * l.length) := by
      rw [List.length_cons, show 8 * (l.length + 1) = 8 + 8 * l.length from by omega, Nat.pow_add]
    rw [e1] at h ⊢
    have hp : 0 < 2 ^ (8 * l.length) := Nat.pow_pos (by omega)
    generalize 2 ^ (8 * l.length) = P at h ih hp ⊢
    have e2 : a * (256 * P) + (bv l + P * n) = (a * 256 + n) * P + bv l := by
      rw [Nat.add_mul, Nat.mul_assoc, Nat.mul_comm P n]
      omega
    rw [e2] at h ⊢
    have h3 : (a * 256 + n) * 1 ≤ (a * 256 + n) * P := Nat.mul_le_mul_left _ hp
    rw [accV]
    have e3 : IntKind.u64.wrap ((a : Int) * 256) = ((a * 256 : Nat) : Int) := by
      simp [IntKind.wrap, IntKind.bits, IntKind.signed]
      omega
    have e4 : IntKind.u64.wrap (n : Int) = (n : Int) := by
      simp [IntKind.wrap, IntKind.bits, IntKind.signed]
      omega
    rw [e3, e4, or_u64 8 (by omega) (by omega) (by omega) (by omega) (by omega) (by omega)]
    rw [show ((a * 256 : Nat) : Int) + (n : Int) = ((a * 256 + n : Nat) : Int) from by omega]
    exact ih _ dl h
def oddN (T x : Nat) : Nat := if (x % T + T) % 2 = 0 then x % T + T + 1 else x % T + T
theorem or_one {v : Nat} (h : v < 18446744073709551615) : Go.bits .or .u64 (v : Int) 1 = ((if v % 2 = 0 then v + 1 else v : Nat) : Int) := by
  by_cases hv : v % 2 = 0
  · rw [if_pos hv, or_u64 1 (by omega) (by omega) (by omega) (by omega) (by omega) (by omega)]
    omega
  · rw [if_neg hv]
    obtain ⟨a, rfl⟩ : ∃ a, v = a + 1 := ⟨v - 1, by omega⟩
    have e1 : Go.bits .or .u64 (a : Int) 1 = ((a + 1 : Nat) : Int) := by
      rw [or_u64 1 (by omega) (by omega) (by omega) (by omega) (by omega) (by omega)]
      omega
    have e2 : Go.bits .or .u64 (a : Int) ((1 : Nat) : Int) = ((a ||| 1 : Nat) : Int) := (bits_nat .u64 64 (by decide) wraps_u64 a 1 (by omega) (by omega)).2
    have e3 : a + 1 = a ||| 1 := by
      have : ((a + 1 : Nat) : Int) = ((a ||| 1 : Nat) : Int) := e1.symm.trans e2
      omega
    have e4 : Go.bits .or .u64 ((a + 1 : Nat) : Int) ((1 : Nat) : Int) = (((a + 1) ||| 1 : Nat) : Int) := (bits_nat .u64 64 (by decide) wraps_u64 (a + 1) 1 (by omega) (by omega)).2
    refine e4.trans ?_
    rw [e3, Nat.or_assoc, Nat.or_self]
theorem oddV_is {z x : Nat} (h1 : 8 ≤ z) (h2 : z ≤ 40) (hx : x < 1099511627776) : oddV (z : Int) (x : Int) = ((oddN (2 ^ (z - 1)) x : Nat) : Int) := by
  unfold oddV oddN
  rw [Int.toNat_natCast]
  have hT : 2 ^ (z - 1) ≤ 2 ^ 39 := Nat.pow_le_pow_right (by omega) (by omega)
  have hT0 : 0 < 2 ^ (z - 1) := Nat.pow_pos (by omega)
  have w1 : IntKind.u64.wrap (2 ^ (z - 1)) = ((2 ^ (z - 1) : Nat) : Int) := by
    have e : ((2 : Int) ^ (z - 1)) = ((2 ^ (z - 1) : Nat) : Int) := by simp
    rw [e, wraps_u64 _ (by omega) (by omega)]
  have w2 : IntKind.u64.wrap (IntKind.u64.wrap (2 ^ (z - 1)) - 1) = ((2 : Int) ^ (z - 1) - 1) := by
    have e : ((2 : Int) ^ (z - 1)) = ((2 ^ (z - 1) : Nat) : Int) := by simp
    rw [w1, e, wraps_u64 _ (by omega) (by omega)]
  rw [w2, w1, bits_mask .u64 64 (by decide) wraps_u64 (z - 1) (by omega) (x : Int) (by omega) (by omega)]
  have e3 : (x : Int) % 2 ^ (z - 1) = ((x % 2 ^ (z - 1) : Nat) : Int) := by simp
  rw [e3]
  have hr : x % 2 ^ (z - 1) < 2 ^ (z - 1) := Nat.mod_lt _ hT0
  have hpi : ((2 : Int) ^ (z - 1)) = ((2 ^ (z - 1) : Nat) : Int) := by simp
  have hm : ((2 ^ (z - 1) : Nat) : Int) % 2 ^ (z - 1) = 0 := by rw [hpi]; exact Int.emod_self
  have hr2 : ((x % 2 ^ (z - 1) : Nat) : Int) < 2 ^ (z - 1) := by rw [hpi]; exact Int.ofNat_lt.2 hr
  generalize hTe : 2 ^ (z - 1) = T at hr hT hT0 hm hr2 hpi ⊢
  rw [or_comm_u64 (x := ((x % T : Nat) : Int)) (y := (T : Int)) (by omega) (by omega) (by omega) (by omega), or_u64 (z - 1) (by omega) (by omega) hm (by omega) (by omega) hr2]
  rw [show (T : Int) + ((x % T : Nat) : Int) = ((x % T + T : Nat) : Int) from by omega, or_one (by omega)]
theorem oddR_is {T x : Nat} (hT : T ≤ 549755813888) (hT0 : 0 < T) : oddR (T : Int) (x : Int) = ((oddN T x : Nat) : Int) := by
  unfold oddR oddN
  have hr : x % T < T := Nat.mod_lt _ hT0
  have e1 : Int.tmod (x : Int) (T : Int) = ((x % T : Nat) : Int) := tmod_nat x T
  rw [e1]
  have e2 : IntKind.u64.wrap (((x % T : Nat) : Int) + (T : Int)) = ((x % T + T : Nat) : Int) := by
    rw [wraps_u64 _ (by omega) (by omega)]
    omega
  rw [e2]
  have e3 : Int.tmod ((x % T + T : Nat) : Int) 2 = (((x % T + T) % 2 : Nat) : Int) := tmod_nat (x % T + T) 2
  rw [e3]
  by_cases h : (x % T + T) % 2 = 0
  · rw [if_pos h, if_pos (by omega), wraps_u64 _ (by omega) (by omega)]
    omega
  · rw [if_neg h, if_neg (by omega)]
theorem oddN_lt {T x : Nat} (hT : T ≤ 549755813888) (hT0 : 0 < T) (h2 : T % 2 = 0) : oddN T x < 1099511627776 := by
  unfold oddN
  have hr : x % T < T := Nat.mod_lt _ hT0
  split <;> omega
def searchU (z : Nat) (L : List Int) : Nat → Nat → Int × Int × Nat
  | 0, u => (0, 8, u)
  | t + 1, u => if L.length - u < (z + 7) / 8 then (0, 7, u) else if leastV (oddN (2 ^ (z - 1)) (bv ((L.drop u).take ((z + 7) / 8)))) = oddN (2 ^ (z - 1)) (bv ((L.drop u).take ((z + 7) / 8))) then (((oddN (2 ^ (z - 1)) (bv ((L.drop u).take ((z + 7) / 8))) : Nat) : Int), 0, u + (z + 7) / 8) else searchU z L t (u + (z + 7) / 8)
theorem searchU_le {z : Nat} {L : List Int} (t : Nat) : ∀ u, u ≤ L.length → (searchU z L t u).2.2 ≤ L.length := by
  induction t with
  | zero => exact fun u hu => hu
  | succ t ih =>
    intro u hu
    rw [searchU]
    split
    · exact hu
    · split
      · show u + (z + 7) / 8 ≤ L.length
        omega
      · exact ih _ (by omega)
theorem pow_facts_s {z : Nat} (h1 : 8 ≤ z) (h2 : z ≤ 40) : 2 ^ (z - 1) ≤ 549755813888 ∧ 0 < 2 ^ (z - 1) ∧ 2 ^ (z - 1) % 2 = 0 := by
  have hT : 2 ^ (z - 1) ≤ 2 ^ 39 := Nat.pow_le_pow_right (by omega) (by omega)
  refine ⟨hT, Nat.pow_pos (by omega), ?_⟩
  rw [show z - 1 = (z - 2) + 1 from by omega, Nat.pow_succ]
  omega
section
variable {z : Nat} (h1 : 8 ≤ z) (h2 : z ≤ 40) {L : List Int} (dL : Dig (b8 : Int) L)
include h1 h2 dL
theorem search_is (t : Nat) : ∀ u, u ≤ L.length → search.f (z : Int) t (L.drop u) = some ((searchU z L t u).1, (searchU z L t u).2.1, L.drop (searchU z L t u).2.2) := by
  induction t with
  | zero => exact fun u hu => rfl
  | succ t ih =>
    intro u hu
    rw [search.f, searchU, show (((z : Int) + 7) / 8).toNat = (z + 7) / 8 from by omega]
    by_cases c1 : L.length - u < (z + 7) / 8
    · rw [if_pos c1, if_pos (by rw [List.length_drop]; omega)]
    · rw [if_neg c1, if_neg (by rw [List.length_drop]; omega)]
      obtain ⟨d1, l1⟩ := taken_facts dL u c1
      generalize (L.drop u).take ((z + 7) / 8) = X at d1 l1
      have hb := bv_short d1 (by omega)
      have ha := accV_bv X 0 d1 (by omega)
      rw [Nat.zero_mul, Nat.zero_add] at ha
      obtain ⟨p1, p2, p3⟩ := pow_facts_s h1 h2
      have hlt := oddN_lt (x := bv X) p1 p2 p3
      rw [show accV 0 X = ((bv X : Nat) : Int) from ha, oddV_is h1 h2 hb]
      have hl : prime_least.f ((oddN (2 ^ (z - 1)) (bv X) : Nat) : Int) = some ((leastV (oddN (2 ^ (z - 1)) (bv X)) : Nat) : Int) := by
        unfold prime_least.f
        rw [if_pos ⟨by omega, by omega⟩, Int.toNat_natCast]
      rw [hl]
      simp only [Option.bind_some]
      by_cases c2 : leastV (oddN (2 ^ (z - 1)) (bv X)) = oddN (2 ^ (z - 1)) (bv X)
      · rw [if_pos c2, if_pos (by omega), List.drop_drop, c2]
      · rw [if_neg c2, if_neg (by omega), List.drop_drop]
        exact ih _ (by omega)
theorem rsearch_ev (t : Nat) : ∀ u, u ≤ L.length → Evt (fun k => rsearch.f k (z : Int) ((2 ^ (z - 1) : Nat) : Int) L t u) (searchU z L t u) := by
  induction t with
  | zero => exact fun u hu => (Evt.pure _).congr (fun k => rfl) rfl
  | succ t ih =>
    intro u hu
    simp only [rsearch.f]
    rw [searchU, show (((z : Int) + 7) / 8).toNat = (z + 7) / 8 from by omega]
    by_cases c1 : L.length - u < (z + 7) / 8
    · rw [if_pos c1]
      exact Evt.ite_pos (by rw [List.length_drop]; omega) (Evt.pure _)
    · rw [if_neg c1]
      refine Evt.ite_neg (by rw [List.length_drop]; omega) ?_
      obtain ⟨d1, l1⟩ := taken_facts dL u c1
      generalize (L.drop u).take ((z + 7) / 8) = X at d1 l1
      have hb := bv_short d1 (by omega)
      have ha := accR_bv X 0 d1 (by omega)
      rw [Nat.zero_mul, Nat.zero_add] at ha
      obtain ⟨p1, p2, p3⟩ := pow_facts_s h1 h2
      have hlt := oddN_lt (x := bv X) p1 p2 p3
      rw [show accR 0 X = ((bv X : Nat) : Int) from ha, oddR_is p1 p2]
      refine Evt.bind (ref5_least_ev _ hlt) ?_
      by_cases c2 : leastV (oddN (2 ^ (z - 1)) (bv X)) = oddN (2 ^ (z - 1)) (bv X)
      · rw [if_pos c2]
        refine Evt.ite_pos (by omega) ?_
        rw [c2]
        exact Evt.pure _
      · rw [if_neg c2]
        exact Evt.ite_neg (by omega) (ih _ (by omega))
end
end Go.Proofs.Ytkgaejigpmkfkaa.Z
end
section
namespace Go.Proofs.Ytkgaejigpmkfkaa.Z
open Go.RowKit Go.Proofs.YtkgaejigpmkfkaaW.PrintWords Go.Proofs.YtkgaejigpmkfkaaW.PrintMore
set_option linter.unusedSimpArgs false
set_option linter.unusedVariables false
def downL (s : Nat) : List Int → List Int
  | [] => []
  | x :: l => (x / 2 ^ s + (if s = 0 then 0 else (l.getD 0 0 * 2 ^ (64 - s)) % 18446744073709551616)) :: downL s l
theorem downL_facts (s : Nat) (hs : s < 64) (l : List Int) (d : Dig (b64 : Int) l) : Dig (b64 : Int) (downL s l) ∧ (downL s l).length = l.length ∧ val (b64 : Int) (downL s l) * 2 ^ s + l.getD 0 0 % 2 ^ s = val (b64 : Int) l := by
  have hB : (b64 : Int) = 18446744073709551616 := rfl
  have hps := pow2_pos s
  induction l with
  | nil => exact ⟨Dig.nil, rfl, by simp [downL, val]⟩
  | cons x l ih =>
    have d1 := Dig.cons.1 d
    obtain ⟨i1, i2, i3⟩ := ih d1.2
    have rx := d1.1
    have ry := d1.2.getD b64_pos 0
    rw [hB] at rx ry
    by_cases h0 : s = 0
    · subst h0
      simp only [downL, Int.pow_zero, Int.ediv_one, if_true, Int.add_zero] at i3 ⊢
      refine ⟨Dig.cons.2 ⟨by rw [hB]; exact rx, i1⟩, by simp [i2], ?_⟩
      simp only [val, List.getD_cons_zero, Int.emod_one, Int.add_zero, Int.mul_one] at i3 ⊢
      rw [i3]
    · have hp64 := pow64_split (s := s) (by omega)
      have hq := pow2_pos (64 - s)
      obtain ⟨f1, f2, f3, f4⟩ := shl_facts ry (s := 64 - s) (by omega)
      rw [show 64 - (64 - s) = s from by omega] at f1 f3 f4
      simp only [downL, if_neg h0]
      have e1 := Int.emod_add_mul_ediv x (2 ^ s)
      have e2 := Int.emod_nonneg x (show (2 : Int) ^ s ≠ 0 by omega)
      have e3 := Int.emod_lt_of_pos x hps
      have e4 := Int.emod_add_mul_ediv (l.getD 0 0) (2 ^ s)
      generalize hz : (l.getD 0 0 * 2 ^ (64 - s)) % 18446744073709551616 = z at *
      generalize hxd : x / 2 ^ s = xd at *
      generalize hyd : l.getD 0 0 / 2 ^ s = yd at *
      generalize l.getD 0 0 = y at *
      have hxd1 : xd < 2 ^ (64 - s) := by
        rw [← hxd]
        apply Int.ediv_lt_of_lt_mul hps
        rw [Int.mul_comm, hp64]
        exact rx.2
      have hxd0 : 0 ≤ xd := by rw [← hxd]; exact Int.ediv_nonneg rx.1 (by omega)
      obtain ⟨t, ht⟩ := Int.dvd_of_emod_eq_zero f2
      have hz0 : 0 ≤ z := by omega
      have hz1 : z < 18446744073709551616 := by omega
      refine ⟨Dig.cons.2 ⟨?_, i1⟩, by simp [i2], ?_⟩
      · rw [hB]
        refine ⟨by omega, ?_⟩
        have ht2 : t < 2 ^ s := by
          refine Int.not_le.1 (fun hle => ?_)
          have := Int.mul_le_mul_of_nonneg_left hle (Int.le_of_lt hq)
          rw [Int.mul_comm ((2 : Int) ^ (64 - s)) (2 ^ s), hp64] at this
          omega
        have h5 : 2 ^ (64 - s) * (t + 1) ≤ (2 : Int) ^ (64 - s) * 2 ^ s := Int.mul_le_mul_of_nonneg_left (by omega) (by omega)
        rw [Int.mul_comm ((2 : Int) ^ (64 - s)) (2 ^ s), hp64, Int.mul_add] at h5
        omega
      · simp only [val, List.getD_cons_zero]
        rw [hB] at i3 ⊢
        generalize val 18446744073709551616 (downL s l) = vd at *
        generalize val 18446744073709551616 l = vl at *
        generalize x % 2 ^ s = xm at *
        generalize y % 2 ^ s = ym at *
        have hP : (2 : Int) ^ (64 - s) * 2 ^ s = 18446744073709551616 := by rw [Int.mul_comm]; exact hp64
        generalize (2 : Int) ^ s = P at *
        generalize (2 : Int) ^ (64 - s) = Q at *
        have e5 : (xd + z + 18446744073709551616 * vd) * P + xm = P * xd + xm + (z * P + 18446744073709551616 * (vd * P)) := by grind
        rw [e5]
        have e6 : z = y * Q - 18446744073709551616 * yd := by omega
        have e7 : z * P = 18446744073709551616 * ym := by
          rw [e6, ← e4, ← hP]
          grind
        rw [e7]
        omega
theorem num_down {a : List Int} (da : Dig (b64 : Int) a) (s : Nat) (hs : s < 64) : num (downL s a) = num a / 2 ^ s := by
  obtain ⟨d, _, e⟩ := downL_facts s hs a da
  have h1 := num_val d
  have h2 := num_val da
  have hp := pow2_pos s
  have hr0 := Int.emod_nonneg (a.getD 0 0) (show (2 : Int) ^ s ≠ 0 by omega)
  have hr1 := Int.emod_lt_of_pos (a.getD 0 0) hp
  rw [← h1, ← h2] at e
  generalize a.getD 0 0 % 2 ^ s = r at *
  obtain ⟨r', rfl⟩ := Int.eq_ofNat_of_zero_le hr0
  have hP : (2 : Int) ^ s = ((2 ^ s : Nat) : Int) := by simp
  rw [hP] at e hr1
  have e2 : num a = r' + 2 ^ s * num (downL s a) := by
    have : ((r' + 2 ^ s * num (downL s a) : Nat) : Int) = (r' : Int) + ((2 ^ s : Nat) : Int) * (num (downL s a) : Int) := by simp
    rw [Int.mul_comm] at e
    omega
  rw [e2, Nat.add_mul_div_left _ _ (Nat.pow_pos (by decide)), Nat.div_eq_of_lt (by omega), Nat.zero_add]
end Go.Proofs.Ytkgaejigpmkfkaa.Z
end
section
namespace Go.Proofs.Ytkgaejigpmkfkaa.Z
open Go.RowKit Go.Proofs.Ytkgaejigpmkfkaa.F Go.Proofs.YtkgaejigpmkfkaaW.PrintWords Go.Proofs.YtkgaejigpmkfkaaW.PrintMore
set_option linter.unusedSimpArgs false
set_option linter.unusedVariables false
theorem limbs_dig' (v : Nat) : Dig (b64 : Int) (limbs v) := toD_dig b64_two v
theorem limbs_can' (v : Nat) : Can (limbs v) := toD_can b64_two v
theorem limbs_len' {v n : Nat} (h : v < b64 ^ n) : (limbs v).length ≤ n := toD_len_le b64_two h
theorem pow_pos64' (n : Nat) : 0 < b64 ^ n := Nat.pow_pos (by decide)
theorem num_strip' {l : List Int} (d : Dig (b64 : Int) l) : num (strip l) = num l := by rw [strip_limbs d, num_limbs]
theorem vdrop (B : Int) (a : List Int) (j : Nat) : val B (a.drop j) = a.getD j 0 + B * val B (a.drop (j + 1)) := by
  by_cases h : j < a.length
  · rw [List.drop_eq_getElem_cons h]
    simp [val, List.getD_eq_getElem?_getD, h]
  · rw [List.drop_of_length_le (by omega), List.drop_of_length_le (by omega)]
    simp [val, List.getD_eq_getElem?_getD, Nat.le_of_not_lt h]
theorem vsplit (B : Int) (a : List Int) (j : Nat) (hj : j ≤ a.length) : val B a = val B (a.take j) + B ^ j * val B (a.drop j) := by
  have := val_append B (a.take j) (a.drop j)
  rw [List.take_append_drop, List.length_take, Nat.min_eq_left hj] at this
  exact this
theorem clone_ev (l : List Int) (h : l.length ≤ 100000) : api_Nat_uint64.f l = some l := by
  unfold api_Nat_uint64.f
  simp only [Option.bind_some, List.nil_append, List.length_nil]
  rw [if_pos (by omega)]
theorem long_l2 (a q : List Int) (da : Dig (b64 : Int) a) (ha : a.length ≤ 100000) (hq : q.length ≤ 100000) (s : Nat) (hs : s < 64) (n : Nat) :
    ∀ (i : Nat) (p : List Int), a.length - i = n → i ≤ a.length → p.length = i → p ++ downL s (a.drop i) = downL s a →
      Evt (fun k => nat_long.l2 k (s : Int) q a (p ++ List.replicate n 0) (a.length : Int) (i : Int)) (strip q, strip (downL s a)) := by
  induction n with
  | zero =>
    intro i p hn hi hp he
    refine Evt.succ ?_
    simp only [nat_long.l2]
    refine Evt.ite_neg (by omega) ?_
    rw [List.drop_of_length_le (by omega)] at he
    simp only [downL, List.append_nil] at he
    rw [List.replicate_zero, List.append_nil, he]
    have hdl := (downL_facts s hs a da).2.1
    exact Evt.bind (nat_trim_ev q (by simp [maxLen]; omega)) (Evt.bind (nat_trim_ev (downL s a) (by simp [maxLen]; omega)) (h := fun t _ => some (strip q, t)) (Evt.pure _))
  | succ n ih =>
    intro i p hn hi hp he
    have hlt : i < a.length := by omega
    have rx := da a[i] (List.getElem_mem hlt)
    have ry := (da.drop (i + 1)).getD b64_pos 0
    have hB : (b64 : Int) = 18446744073709551616 := rfl
    rw [hB] at rx ry
    rw [List.drop_eq_getElem_cons hlt] at he
    simp only [downL] at he
    have hx : rd a (i : Int) = a[i] := by simp [rd_nat, hlt]
    refine Evt.succ ?_
    simp only [nat_long.l2]
    refine Evt.ite_pos (by omega) (Evt.ite_pos (by omega) (Evt.ite_pos (by omega) (Evt.ite_pos (by omega) (Evt.ite_pos (by simp; omega) ?_))))
    refine Evt.bind (Evt.pure _) ?_
    rw [hx, shr_u64 _ s (by omega), show ((i : Int)).toNat = p.length from by omega, List.replicate_succ, set_at, w64 (show -9223372036854775808 ≤ (i : Int) + 1 by omega) (by omega)]
    have hps := pow2_pos s
    have hxd0 : 0 ≤ a[i] / 2 ^ s := Int.ediv_nonneg rx.1 (by omega)
    by_cases h0 : s = 0
    · refine Evt.ite_neg (by omega) ?_
      rw [if_pos h0, Int.add_zero] at he
      refine (ih (i + 1) (p ++ [a[i] / 2 ^ s]) (by omega) (by omega) (by simp; omega) (by rw [List.append_assoc]; exact he)).congr (fun k => ?_) rfl
      rw [List.append_assoc]; rfl
    · refine Evt.ite_pos (by omega) ?_
      rw [if_neg h0] at he
      by_cases h1 : i + 1 < a.length
      · refine Evt.ite_pos (by omega) (Evt.ite_pos (by omega) (Evt.ite_pos (by rw [wu64_of (by omega) (by omega)]; omega) ?_))
        have hy : rd a ((i : Int) + 1) = a[i + 1] := by
          rw [show (i : Int) + 1 = ((i + 1 : Nat) : Int) from by omega, rd_nat]
          simp [List.getD_eq_getElem?_getD, h1]
        have hy2 : (a.drop (i + 1)).getD 0 0 = a[i + 1] := by simp [List.getD_eq_getElem?_getD, h1]
        have hg : rd (p ++ a[i] / 2 ^ s :: List.replicate n 0) (i : Int) = a[i] / 2 ^ s := by
          rw [rd_nat]
          simp [List.getD_eq_getElem?_getD, ← hp]
        rw [hy2] at he ry
        obtain ⟨f1, f2, f3, f4⟩ := shl_facts ry (s := 64 - s) (by omega)
        have hxd1 : a[i] / 2 ^ s < 2 ^ (64 - s) := by
          apply Int.ediv_lt_of_lt_mul hps
          rw [Int.mul_comm, pow64_split (by omega)]
          exact rx.2
        have hz0 : 0 ≤ (a[i + 1] * 2 ^ (64 - s)) % 18446744073709551616 := by omega
        have hz1 : (a[i + 1] * 2 ^ (64 - s)) % 18446744073709551616 < 18446744073709551616 := by omega
        have hq64 : (2 : Int) ^ (64 - s) ≤ 2 ^ 64 := pow_mono (by omega) (by omega)
        rw [hy, hg, wu64_of (show (0 : Int) ≤ 64 - (s : Int) by omega) (by omega), show (64 : Int) - (s : Int) = ((64 - s : Nat) : Int) from by omega, shl_u64 _ (64 - s) (by omega), set_at, or_comm_u64 hxd0 (by omega) hz0 hz1, or_u64 (64 - s) (by omega) hz0 f2 hz1 hxd0 hxd1]
        refine (ih (i + 1) (p ++ [(a[i + 1] * 2 ^ (64 - s)) % 18446744073709551616 + a[i] / 2 ^ s]) (by omega) (by omega) (by simp; omega) (by rw [List.append_assoc, Int.add_comm ((a[i + 1] * 2 ^ (64 - s)) % 18446744073709551616)]; exact he)).congr (fun k => ?_) rfl
        rw [List.append_assoc]; rfl
      · refine Evt.ite_neg (by omega) ?_
        have hy2 : (a.drop (i + 1)).getD 0 0 = 0 := by rw [List.drop_of_length_le (by omega)]; rfl
        rw [hy2, Int.zero_mul, Int.zero_emod, Int.add_zero] at he
        refine (ih (i + 1) (p ++ [a[i] / 2 ^ s]) (by omega) (by omega) (by simp; omega) (by rw [List.append_assoc]; exact he)).congr (fun k => ?_) rfl
        rw [List.append_assoc]; rfl
theorem long_l1 (r d q part sN : List Int) (s dk gs : Int) (a : Nat) (hpart : part.length ≤ 1000) (hdl : d.length ≤ 1000) (dp : Dig (b64 : Int) part) (dd : Dig (b64 : Int) d) (hg0 : 0 ≤ gs)
    (hfit : ∀ g : Int, 0 ≤ g → (num d * g.toNat ≤ num part ↔ g ≤ gs)) (hs : Evt (fun k => nat_less.f k part (limbs (num d * gs.toNat))) sN) (hsl : sN.length = part.length) (haq : a < q.length) (ha : a ≤ 1000000)
    {res : List Int × List Int} (fin : Evt (fun k => nat_long.l0 k s (r.take a ++ (sN ++ r.drop (a + part.length))) d dk (q.set a gs) ((a : Int) - 1)) res) (n : Nat) :
    ∀ g : Int, gs ≤ g → g < 18446744073709551616 → g - gs ≤ n → Evt (fun k => nat_long.l1 k s r d dk q (a : Int) g part) res := by
  have step : ∀ g : Int, gs ≤ g → g < 18446744073709551616 → (gs < g → Evt (fun k => nat_long.l1 k s r d dk q (a : Int) (IntKind.u64.wrap (g - 1)) part) res) → Evt (fun k => nat_long.l1 k s r d dk q (a : Int) g part) res := by
    intro g h1 h2 hnext
    have dg : Dig (b64 : Int) [g] := Dig.cons.2 ⟨⟨by omega, h2⟩, Dig.nil⟩
    have hng : num (strip [g]) = g.toNat := by rw [num_strip' dg, num_one (by omega)]
    refine Evt.succ ?_
    simp only [nat_long.l1]
    refine Evt.bind (nat_Of_ev g) ?_
    refine Evt.bind (nat_school_ev d (strip [g]) (by omega) (by have := strip_length [g]; simp at this; omega) dd (by rw [strip_limbs dg]; exact limbs_dig' _)) ?_
    refine Evt.bind (Evt.of (fun _ => clone_ev part (by omega))) ?_
    refine Evt.bind (nat_trim_ev part (by simp [maxLen]; omega)) ?_
    rw [hng, strip_limbs dp]
    refine Evt.bind (nat_compare_ev (limbs (num part)) (limbs (num d * g.toNat)) (limbs_dig' _) (limbs_dig' _) (limbs_can' _) (limbs_can' _) (by have := limbs_len' (num_lt dp); omega)) ?_
    rw [num_limbs, num_limbs]
    by_cases hle : g ≤ gs
    · obtain rfl : g = gs := by omega
      have hf := (hfit g hg0).2 (Int.le_refl _)
      refine Evt.ite_pos (by unfold cmpN; rw [if_neg (by omega)]; split <;> omega) ?_
      refine Evt.bind hs ?_
      refine Evt.ite_pos hsl (Evt.ite_pos (by omega) (Evt.ite_pos (by omega) ?_))
      rw [Int.toNat_natCast, w64 (by omega) (by omega)]
      exact fin
    · have hf : ¬ num d * g.toNat ≤ num part := fun h => hle ((hfit g (by omega)).1 h)
      refine Evt.ite_neg (by unfold cmpN; rw [if_pos (by omega)]; omega) ?_
      exact hnext (by omega)
  induction n with
  | zero =>
    intro g h1 h2 h3
    exact step g h1 h2 (fun h => absurd h (by omega))
  | succ n ih =>
    intro g h1 h2 h3
    refine step g h1 h2 (fun h => ?_)
    rw [wu64_of (by omega) (by omega)]
    exact ih (g - 1) (by omega) (by omega) (by omega)
theorem guess_fits {X D P0 D0 W r2 r1 r0 d1 d0 g h : Int} (hX : X = P0 + W * (r0 + 18446744073709551616 * (r1 + 18446744073709551616 * r2))) (hD : D = D0 + W * (d0 + 18446744073709551616 * d1))
    (hP : P0 < W) (hD0 : 0 ≤ D0) (hW : 0 < W) (hh : 0 ≤ h) (hfit : h * D ≤ X) : h * (d1 * 18446744073709551616 + d0) ≤ (r2 * 18446744073709551616 + r1) * 18446744073709551616 + r0 := by
  refine Int.not_lt.1 (fun hlt => ?_)
  have e1 : (r2 * 18446744073709551616 + r1) * 18446744073709551616 + r0 + 1 ≤ h * (d1 * 18446744073709551616 + d0) := hlt
  have e2 := Int.mul_le_mul_of_nonneg_left e1 (Int.le_of_lt hW)
  have e3 : 0 ≤ h * D0 := Int.mul_nonneg hh hD0
  have e4 : h * D = h * D0 + W * (h * (d1 * 18446744073709551616 + d0)) := by rw [hD]; grind
  have e5 : W * ((r2 * 18446744073709551616 + r1) * 18446744073709551616 + r0 + 1) = W * (r0 + 18446744073709551616 * (r1 + 18446744073709551616 * r2)) + W := by grind
  omega
theorem long_l0 (s : Nat) (hs : s < 64) (d : List Int) (dd : Dig (b64 : Int) d) (cd : Can d) (hk : 2 ≤ d.length) (hdl : d.length ≤ 400) (A : Int) (ql : Nat) (hql : ql ≤ 400) (i : Nat) :
    ∀ r q : List Int, i ≤ ql → r.length = ql + d.length → q.length = ql → Dig (b64 : Int) r → Dig (b64 : Int) q → val (b64 : Int) (r.drop i) < val (b64 : Int) d → val (b64 : Int) (q.drop i) * (b64 : Int) ^ i * val (b64 : Int) d + val (b64 : Int) r = A →
      Evt (fun k => nat_long.l0 k (s : Int) r d (d.length : Int) q ((i : Int) - 1)) (limbs (A / val (b64 : Int) d).toNat, limbs ((A % val (b64 : Int) d).toNat / 2 ^ s)) := by
  have hB : (b64 : Int) = 18446744073709551616 := rfl
  have hDn := val_nonneg b64_pos dd
  induction i with
  | zero =>
    intro r q hi hr hq dr dq hlt hv
    rw [List.drop_zero] at hlt
    rw [List.drop_zero, Int.pow_zero, Int.mul_one] at hv
    have hrn := val_nonneg b64_pos dr
    have e1 : A / val (b64 : Int) d = val (b64 : Int) q := by
      rw [← hv, Int.mul_comm, Int.mul_add_ediv_left _ _ (by omega), Int.ediv_eq_zero_of_lt hrn hlt, Int.add_zero]
    have e2 : A % val (b64 : Int) d = val (b64 : Int) r := by
      rw [← hv, Int.mul_comm, Int.add_comm, Int.add_mul_emod_self_left, Int.emod_eq_of_lt hrn hlt]
    rw [e1, e2, show (val (b64 : Int) q).toNat = num q from rfl, show (val (b64 : Int) r).toNat = num r from rfl]
    refine Evt.succ ?_
    simp only [nat_long.l0]
    refine Evt.ite_neg (by omega) ?_
    refine Evt.bind (nat_trim_ev r (by simp [maxLen]; omega)) ?_
    have hsl := strip_length r
    refine Evt.ite_pos (by omega) (Evt.ite_pos (by omega) ?_)
    rw [Int.toNat_natCast]
    have dsr : Dig (b64 : Int) (strip r) := by rw [strip_limbs dr]; exact limbs_dig' _
    refine (long_l2 (strip r) q dsr (by omega) (by omega) s hs (strip r).length 0 [] (by omega) (by omega) rfl (by simp)).congr (fun k => by rfl) ?_
    have hdw := downL_facts s hs (strip r) dsr
    rw [strip_limbs dq, strip_limbs hdw.1, num_down dsr s hs, num_strip' dr]
  | succ a ih =>
    intro r q hi hr hq dr dq hlt hv
    rw [show ((a + 1 : Nat) : Int) - 1 = (a : Int) from by omega]
    have hDlt := val_lt b64_pos dd
    have h1 := vsplit (b64 : Int) (r.drop (a + 1)) d.length (by rw [List.length_drop]; omega)
    rw [List.drop_drop] at h1
    have h2 := val_nonneg b64_pos ((dr.drop (a + 1)).take d.length)
    have h3 := val_nonneg b64_pos (dr.drop (a + 1 + d.length))
    have hW : (0 : Int) < (b64 : Int) ^ d.length := Int.pow_pos b64_pos
    have h4 : val (b64 : Int) (r.drop (a + 1 + d.length)) = 0 := by
      refine Int.le_antisymm (Int.not_lt.1 (fun h => ?_)) h3
      have := Int.mul_le_mul_of_nonneg_left (show (1 : Int) ≤ val (b64 : Int) (r.drop (a + 1 + d.length)) from h) (Int.le_of_lt hW)
      omega
    have hX := vdrop (b64 : Int) r a
    have hra := dr.getD b64_pos a
    have hpartl : (((r.take (a + d.length + 1)).drop a)).length = d.length + 1 := by
      rw [List.length_drop, List.length_take]; omega
    have hpv : val (b64 : Int) ((r.take (a + d.length + 1)).drop a) = val (b64 : Int) (r.drop a) := by
      have h5 := vsplit (b64 : Int) (r.drop a) (d.length + 1) (by rw [List.length_drop]; omega)
      rw [List.drop_drop, show a + (d.length + 1) = a + 1 + d.length from by omega, h4, Int.mul_zero, Int.add_zero] at h5
      rw [List.drop_take, show a + d.length + 1 - a = d.length + 1 from by omega]
      exact h5.symm
    have dpart : Dig (b64 : Int) ((r.take (a + d.length + 1)).drop a) := (dr.take _).drop _
    have hXlt : val (b64 : Int) (r.drop a) < 18446744073709551616 * val (b64 : Int) d := by
      rw [hX, hB] at *
      omega
    have hX0 : 0 ≤ val (b64 : Int) (r.drop a) := val_nonneg b64_pos (dr.drop a)
    have hD0 : 0 < val (b64 : Int) d := by
      have := val_nonneg b64_pos (dr.drop (a + 1))
      omega
    obtain ⟨gs, hgs⟩ : ∃ gs, gs = val (b64 : Int) (r.drop a) / val (b64 : Int) d := ⟨_, rfl⟩
    have hgs0 : 0 ≤ gs := by rw [hgs]; exact Int.ediv_nonneg hX0 hDn
    have hgs1 : gs < 18446744073709551616 := by
      rw [hgs]
      exact Int.ediv_lt_of_lt_mul hD0 hXlt
    have hle : ∀ g : Int, g * val (b64 : Int) d ≤ val (b64 : Int) (r.drop a) ↔ g ≤ gs := fun g => by rw [hgs, Int.le_ediv_iff_mul_le hD0]
    have hnd := num_val dd
    have hnp := num_val dpart
    have hfit : ∀ g : Int, 0 ≤ g → (num d * g.toNat ≤ num ((r.take (a + d.length + 1)).drop a) ↔ g ≤ gs) := by
      intro g hg
      rw [← hle g, ← hpv, ← hnp, ← hnd]
      obtain ⟨m, rfl⟩ := Int.eq_ofNat_of_zero_le hg
      rw [Int.toNat_natCast, Nat.mul_comm]
      have : ((m : Int) * (num d : Int)) = ((m * num d : Nat) : Int) := by simp
      rw [this]
      omega
    have hsmall : num d * gs.toNat ≤ num ((r.take (a + d.length + 1)).drop a) := (hfit gs hgs0).2 (Int.le_refl _)
    obtain ⟨sN, s1, s2, s3, s4⟩ := nat_less_ev ((r.take (a + d.length + 1)).drop a) (limbs (num d * gs.toNat)) (by omega) (limbs_len' (Nat.lt_of_le_of_lt hsmall (num_lt dpart))) dpart (limbs_dig' _) (by rw [num_limbs]; exact hsmall)
    rw [num_limbs] at s3
    have hsv : val (b64 : Int) sN = val (b64 : Int) (r.drop a) - gs * val (b64 : Int) d := by
      rw [← num_val s2, s3, ← hpv, ← hnp, ← hnd]
      obtain ⟨m, hm⟩ := Int.eq_ofNat_of_zero_le hgs0
      rw [hm] at hsmall ⊢
      rw [Int.toNat_natCast] at hsmall ⊢
      have : ((m : Int) * (num d : Int)) = ((num d * m : Nat) : Int) := by rw [Nat.mul_comm]; simp
      rw [this]
      omega
    have hslt : val (b64 : Int) sN < val (b64 : Int) d := by
      have h6 := Int.emod_lt_of_pos (val (b64 : Int) (r.drop a)) hD0
      have h7 := Int.emod_add_mul_ediv (val (b64 : Int) (r.drop a)) (val (b64 : Int) d)
      rw [← hgs, Int.mul_comm] at h7
      omega
    have hnew : (r.take a ++ (sN ++ r.drop (a + sN.length))).drop a = sN ++ r.drop (a + sN.length) := by
      rw [List.drop_append, List.drop_of_length_le (by rw [List.length_take]; omega), List.length_take, Nat.min_eq_left (by omega), Nat.sub_self, List.drop_zero, List.nil_append]
    have hnv : val (b64 : Int) (sN ++ r.drop (a + sN.length)) = val (b64 : Int) sN := by
      rw [val_append, s4, hpartl, show a + (d.length + 1) = a + 1 + d.length from by omega, h4, Int.mul_zero, Int.add_zero]
    have hfin := ih (r.take a ++ (sN ++ r.drop (a + sN.length))) (q.set a gs) (by omega) (by simp only [List.length_append, List.length_take, List.length_drop, s4, hpartl]; omega) (by rw [List.length_set]; exact hq)
      (Dig.append.2 ⟨dr.take _, Dig.append.2 ⟨s2, dr.drop _⟩⟩) (dq.set _ ⟨hgs0, hgs1⟩) (by rw [hnew, hnv]; exact hslt) (by
        rw [val_append, hnv, hsv, List.length_take, Nat.min_eq_left (by omega)]
        have e1 : (q.set a gs).drop a = gs :: q.drop (a + 1) := by
          rw [List.drop_eq_getElem_cons (by rw [List.length_set]; omega), List.drop_set, if_pos (Nat.lt_succ_self a)]
          simp
        rw [e1]
        simp only [val]
        have h8 := vsplit (b64 : Int) r a (by omega)
        rw [Int.pow_succ] at hv
        rw [← hv, h8]
        generalize val (b64 : Int) (q.drop (a + 1)) = Q
        generalize (b64 : Int) ^ a = W
        generalize val (b64 : Int) d = D
        generalize (b64 : Int) = B
        grind)
    have k1 := can_last cd (by omega)
    have kd1 := dd.getD b64_pos (d.length - 1)
    have kd0 := dd.getD b64_pos (d.length - 2)
    have kr2 := dr.getD b64_pos (a + d.length)
    have kr1 := dr.getD b64_pos (a + d.length - 1)
    have kr0 := dr.getD b64_pos (a + d.length - 2)
    rw [hB] at kd1 kd0 kr2 kr1 kr0
    obtain ⟨g, g1, g2, g3⟩ := nat_guess_ev (r2 := r.getD (a + d.length) 0) (r1 := r.getD (a + d.length - 1) 0) (r0 := r.getD (a + d.length - 2) 0) (d1 := d.getD (d.length - 1) 0) (d0 := d.getD (d.length - 2) 0) kr2.1 kr1 kr0 ⟨by omega, kd1.2⟩ kd0
    have hgg : gs ≤ g := by
      refine g3 gs hgs1 ?_
      have eX : val (b64 : Int) (r.drop a) = val (b64 : Int) ((r.drop a).take (d.length - 2)) + (b64 : Int) ^ (d.length - 2) * (r.getD (a + d.length - 2) 0 + 18446744073709551616 * (r.getD (a + d.length - 1) 0 + 18446744073709551616 * r.getD (a + d.length) 0)) := by
        rw [vsplit (b64 : Int) (r.drop a) (d.length - 2) (by rw [List.length_drop]; omega), List.drop_drop, show a + (d.length - 2) = a + d.length - 2 from by omega, vdrop (b64 : Int) r (a + d.length - 2), show a + d.length - 2 + 1 = a + d.length - 1 from by omega, vdrop (b64 : Int) r (a + d.length - 1), show a + d.length - 1 + 1 = a + d.length from by omega, vdrop (b64 : Int) r (a + d.length), show a + d.length + 1 = a + 1 + d.length from by omega, h4, Int.mul_zero, Int.add_zero, hB]
      have eD : val (b64 : Int) d = val (b64 : Int) (d.take (d.length - 2)) + (b64 : Int) ^ (d.length - 2) * (d.getD (d.length - 2) 0 + 18446744073709551616 * d.getD (d.length - 1) 0) := by
        have := vsplit (b64 : Int) d (d.length - 2) (by omega)
        rw [vdrop (b64 : Int) d (d.length - 2), show d.length - 2 + 1 = d.length - 1 from by omega, vdrop (b64 : Int) d (d.length - 1), show d.length - 1 + 1 = d.length from by omega, List.drop_length] at this
        simp only [val, Int.mul_zero, Int.add_zero] at this
        rw [hB] at this ⊢
        exact this
      have hPlt := val_lt b64_pos ((dr.drop a).take (d.length - 2))
      rw [List.length_take, List.length_drop, Nat.min_eq_left (by omega)] at hPlt
      exact guess_fits (g := 0) eX eD hPlt (val_nonneg b64_pos (dd.take _)) (Int.pow_pos b64_pos) hgs0 ((hle gs).2 (Int.le_refl _))
    refine Evt.succ ?_
    simp only [nat_long.l0]
    rw [w64 (x := (a : Int) + (d.length : Int)) (by omega) (by omega), w64 (x := (a : Int) + (d.length : Int) - 1) (by omega) (by omega), w64 (x := (a : Int) + (d.length : Int) - 2) (by omega) (by omega), w64 (x := (d.length : Int) - 1) (by omega) (by omega), w64 (x := (d.length : Int) - 2) (by omega) (by omega), w64 (x := (a : Int) + (d.length : Int) + 1) (by omega) (by omega)]
    rw [show (a : Int) + (d.length : Int) - 1 = ((a + d.length - 1 : Nat) : Int) from by omega, show (a : Int) + (d.length : Int) - 2 = ((a + d.length - 2 : Nat) : Int) from by omega, show (a : Int) + (d.length : Int) = ((a + d.length : Nat) : Int) from by omega, show (d.length : Int) - 1 = ((d.length - 1 : Nat) : Int) from by omega, show (d.length : Int) - 2 = ((d.length - 2 : Nat) : Int) from by omega, show ((a + d.length : Nat) : Int) + 1 = ((a + d.length + 1 : Nat) : Int) from by omega]
    simp only [rd_nat, Int.toNat_natCast]
    refine Evt.ite_pos (by omega) (Evt.ite_pos (by omega) (Evt.ite_pos (by omega) (Evt.ite_pos (by omega) (Evt.ite_pos (by omega) (Evt.ite_pos (by omega) (Evt.ite_pos (by omega) (Evt.ite_pos (by omega) (Evt.ite_pos (by omega) (Evt.ite_pos (by omega) (Evt.ite_pos (by omega) ?_))))))))))
    refine Evt.bind g1 ?_
    refine Evt.ite_pos (by omega) (Evt.ite_pos (by omega) (Evt.ite_pos (by omega) ?_))
    refine long_l1 r d q ((r.take (a + d.length + 1)).drop a) sN (s : Int) (d.length : Int) gs a (by omega) (by omega) dpart dd hgs0 hfit s1 s4 (by omega) (by omega) ?_ (g - gs).toNat g hgg g2.2 (by omega)
    rw [← s4]
    exact hfin
theorem nat_long_ev (a b : List Int) (da : Dig (b64 : Int) a) (db : Dig (b64 : Int) b) (cb : Can b) (hb : 2 ≤ b.length) (hab : b.length ≤ a.length) (ha : a.length ≤ 390) :
    Evt (fun k => nat_long.f k a b) (limbs (num a / num b), limbs (num a % num b)) := by
  have hB : (b64 : Int) = 18446744073709551616 := rfl
  have ht := can_last cb (by omega)
  have htr := db.getD b64_pos (b.length - 1)
  rw [hB] at htr
  obtain ⟨t, htt⟩ : ∃ t, t = b.getD (b.length - 1) 0 := ⟨_, rfl⟩
  rw [← htt] at ht htr
  have hbl1 := bl_lt t.toNat
  have hbl2 : bl t.toNat ≤ 64 := bl_le (by omega)
  have hbl3 := bl_pos (n := t.toNat) (by omega)
  obtain ⟨s, hs⟩ : ∃ s, s = 64 - bl t.toNat := ⟨_, rfl⟩
  have hs64 : s < 64 := by omega
  obtain ⟨r, r1, r2, r3, r4⟩ := nat_up_ev a da (by omega) s hs64
  obtain ⟨e, e1, e2, e3, e4⟩ := nat_up_ev b db (by omega) s hs64
  have v1 := vsplit (b64 : Int) b (b.length - 1) (by omega)
  rw [vdrop (b64 : Int) b (b.length - 1), show b.length - 1 + 1 = b.length from by omega, List.drop_length, ← htt] at v1
  simp only [val, Int.mul_zero, Int.add_zero] at v1
  have v2 := val_lt b64_pos (db.take (b.length - 1))
  rw [List.length_take, Nat.min_eq_left (by omega)] at v2
  have v3 := val_nonneg b64_pos (db.take (b.length - 1))
  have hnb := num_val db
  have hWp := pow_pos64' (b.length - 1)
  have hpc := pow_cast b64 (b.length - 1)
  have nlo : b64 ^ (b.length - 1) ≤ num b := by
    have h5 : (b64 : Int) ^ (b.length - 1) * 1 ≤ (b64 : Int) ^ (b.length - 1) * t := Int.mul_le_mul_of_nonneg_left (by omega) (by rw [hpc]; omega)
    rw [Int.mul_one] at h5
    omega
  have nhi : num b < b64 ^ (b.length - 1) * 2 ^ bl t.toNat := by
    have h5 : t + 1 ≤ ((2 ^ bl t.toNat : Nat) : Int) := by omega
    have h6 : (b64 : Int) ^ (b.length - 1) * (t + 1) ≤ (b64 : Int) ^ (b.length - 1) * ((2 ^ bl t.toNat : Nat) : Int) := Int.mul_le_mul_of_nonneg_left h5 (by rw [hpc]; omega)
    rw [Int.mul_add, Int.mul_one, hpc] at h6
    rw [hpc] at v1 v2
    have h7 : ((b64 ^ (b.length - 1) * 2 ^ bl t.toNat : Nat) : Int) = ((b64 ^ (b.length - 1) : Nat) : Int) * ((2 ^ bl t.toNat : Nat) : Int) := by simp
    omega
  have hP : 0 < 2 ^ s := Nat.pow_pos (by omega)
  have p64 : 2 ^ bl t.toNat * 2 ^ s = b64 := by
    rw [← Nat.pow_add, show bl t.toNat + s = 64 from by omega]
    rfl
  have dhi : num b * 2 ^ s < b64 ^ b.length := by
    have h6 := Nat.mul_lt_mul_of_pos_right nhi hP
    rw [Nat.mul_assoc, p64, ← Nat.pow_succ, show (b.length - 1).succ = b.length from by omega] at h6
    exact h6
  have dlo : b64 ^ (b.length - 1) ≤ num b * 2 ^ s := Nat.le_trans nlo (Nat.le_mul_of_pos_right _ hP)
  have dlen : (limbs (num b * 2 ^ s)).length = b.length := by
    have h6 := limbs_len' dhi
    have h7 : ¬ (limbs (num b * 2 ^ s)).length ≤ b.length - 1 := fun h => by
      have := (toD_len_iff b64_two (num b * 2 ^ s) (b.length - 1)).1 h
      omega
    omega
  have hvd : val (b64 : Int) (limbs (num b * 2 ^ s)) = ((num b * 2 ^ s : Nat) : Int) := val_toD b64_two _
  unfold nat_long.f
  rw [w64 (x := (b.length : Int) - 1) (by omega) (by omega)]
  refine Evt.ite_pos (by omega) (Evt.ite_pos (by omega) ?_)
  rw [show (b.length : Int) - 1 = ((b.length - 1 : Nat) : Int) from by omega, rd_nat, ← htt]
  have lz : Evt (fun k => bits_LeadingZeros64.f k t) (s : Int) := by
    unfold bits_LeadingZeros64.f
    refine (Evt.bind (bits_Len64_ev (x := t) (by omega) (by omega)) (h := fun t333 _ => some (wrap64 (64 - t333))) (Evt.pure _)).congr (fun k => rfl) ?_
    rw [w64 (by omega) (by omega)]
    omega
  refine Evt.bind lz ?_
  rw [wu64_of (by omega) (by omega)]
  refine Evt.bind r1 ?_
  refine Evt.bind e1 ?_
  refine Evt.bind (nat_trim_ev e (by simp [maxLen]; omega)) ?_
  rw [strip_limbs e2, e4, dlen, r3]
  rw [w64 (x := ((a.length + 1 : Nat) : Int) - (b.length : Int)) (by omega) (by omega), show ((a.length + 1 : Nat) : Int) - (b.length : Int) = ((a.length + 1 - b.length : Nat) : Int) from by omega, Int.toNat_natCast]
  refine Evt.ite_pos (by omega) (Evt.ite_pos (by omega) ?_)
  refine Evt.bind (Evt.pure _) ?_
  rw [List.length_replicate, w64 (by omega) (by omega)]
  have hmain := long_l0 s hs64 (limbs (num b * 2 ^ s)) (limbs_dig' _) (limbs_can' _) (by omega) (by omega) (val (b64 : Int) r) (a.length + 1 - b.length) (by omega) (a.length + 1 - b.length) r (List.replicate (a.length + 1 - b.length) 0) (Nat.le_refl _) (by omega) (by simp) r2 (Dig.replicate b64_pos _) (by
    have h6 := vsplit (b64 : Int) r (a.length + 1 - b.length) (by omega)
    have h7 := val_nonneg b64_pos (r2.take (a.length + 1 - b.length))
    have h8 := num_val r2
    rw [r4] at h8
    have h9 := num_lt da
    have h10 : num a * 2 ^ s < b64 ^ a.length * 2 ^ s := Nat.mul_lt_mul_of_pos_right h9 hP
    have h11 : b64 ^ a.length * 2 ^ s ≤ b64 ^ (a.length + 1 - b.length) * (num b * 2 ^ s) := by
      have : b64 ^ a.length = b64 ^ (a.length + 1 - b.length) * b64 ^ (b.length - 1) := by
        rw [← Nat.pow_add, show a.length + 1 - b.length + (b.length - 1) = a.length from by omega]
      rw [this, Nat.mul_assoc]
      exact Nat.mul_le_mul_left _ (Nat.mul_le_mul_right _ nlo)
    rw [hvd]
    refine Int.not_le.1 (fun hge => ?_)
    have h12 := Int.mul_le_mul_of_nonneg_left hge (show (0 : Int) ≤ (b64 : Int) ^ (a.length + 1 - b.length) by rw [pow_cast]; omega)
    have h13 : (b64 : Int) ^ (a.length + 1 - b.length) * ((num b * 2 ^ s : Nat) : Int) = ((b64 ^ (a.length + 1 - b.length) * (num b * 2 ^ s) : Nat) : Int) := by rw [pow_cast, ← Int.natCast_mul]
    rw [h13] at h12
    omega) (by
    rw [List.drop_of_length_le (by simp)]
    simp [val])
  rw [dlen] at hmain
  refine hmain.congr (fun k => rfl) ?_
  have h8 := num_val r2
  rw [hvd, ← h8, r4, show ((num a * 2 ^ s : Nat) : Int) / ((num b * 2 ^ s : Nat) : Int) = ((num a * 2 ^ s / (num b * 2 ^ s) : Nat) : Int) from rfl, show ((num a * 2 ^ s : Nat) : Int) % ((num b * 2 ^ s : Nat) : Int) = ((num a * 2 ^ s % (num b * 2 ^ s) : Nat) : Int) from rfl, Int.toNat_natCast, Int.toNat_natCast, Nat.mul_div_mul_right _ _ hP, Nat.mul_mod_mul_right, Nat.mul_div_cancel _ hP]
end Go.Proofs.Ytkgaejigpmkfkaa.Z
end
section
namespace Go.Proofs.Ytkgaejigpmkfkaa.Z
open Go.RowKit Go.Proofs.Ytkgaejigpmkfkaa.F Go.Proofs.YtkgaejigpmkfkaaW.PrintWords
set_option linter.unusedSimpArgs false
set_option linter.unusedVariables false
theorem nat_Div_ev (a b : List Int) (ha : a.length ≤ maxLen) (hb : b.length ≤ maxLen) (da : Dig (b64 : Int) a) (db : Dig (b64 : Int) b) : Evt (fun k => nat_Div.f k a b) (divV a b) := by
  unfold nat_Div.f divV
  rw [nat_right_eq _ (by intro l hl; simp at hl; rcases hl with rfl | rfl <;> assumption)]
  simp only [Option.bind_some, List.all_cons, List.all_nil, Bool.and_true, Bool.and_eq_true]
  by_cases h : rightB a = true ∧ rightB b = true
  · rw [if_pos h]
    refine Evt.ite_pos h ?_
    obtain ⟨h1, c1⟩ := (rightB_iff a).1 h.1
    obtain ⟨h2, c2⟩ := (rightB_iff b).1 h.2
    have hz := num_zero_iff db c2
    by_cases h0 : b.length = 0
    · rw [if_pos (hz.2 h0)]
      exact Evt.ite_pos (by omega) (Evt.pure _)
    · have hnz : num b ≠ 0 := fun e => h0 (hz.1 e)
      rw [if_neg hnz]
      refine Evt.ite_neg (by omega) ?_
      refine Evt.bind (nat_compare_ev a b da db c1 c2 (by omega)) ?_
      by_cases hlt : num a < num b
      · refine Evt.ite_pos (by unfold cmpN; rw [if_pos hlt]; omega) ?_
        refine Evt.bind (Evt.of (fun _ => clone_ev a (by omega))) ?_
        rw [Nat.div_eq_of_lt hlt, Nat.mod_eq_of_lt hlt, limbs_num da c1]
        rw [show limbs 0 = [] from toD_zero b64]
        exact Evt.pure _
      · refine Evt.ite_neg (by unfold cmpN; rw [if_neg hlt]; split <;> omega) ?_
        by_cases h3 : b.length = 1
        · obtain ⟨x, rfl⟩ : ∃ x, b = [x] := List.length_eq_one_iff.1 h3
          have hx := (Dig.cons.1 db).1
          have hx0 : num [x] = x.toNat := num_one hx.1
          refine Evt.ite_pos (by simp) (Evt.ite_pos (by simp) ?_)
          have hr : rd [x] 0 = x := rfl
          rw [hr]
          rw [hx0] at hnz ⊢
          have hB : (b64 : Int) = 18446744073709551616 := rfl
          rw [hB] at hx
          refine Evt.bind (nat_short_ev a x da (by omega) (by omega) hx.2) ?_
          refine (Evt.bind (nat_Of_ev ((num a % x.toNat : Nat) : Int)) (h := fun t _ => some (limbs (num a / x.toNat), t, (0 : Int))) (Evt.pure _)).congr (fun k => rfl) ?_
          have hm : num a % x.toNat < x.toNat := Nat.mod_lt _ (by omega)
          have dr : Dig (b64 : Int) [((num a % x.toNat : Nat) : Int)] := Dig.cons.2 ⟨by rw [hB]; omega, Dig.nil⟩
          rw [strip_limbs dr, num_one (by omega), Int.toNat_natCast]
        · refine Evt.ite_neg (by omega) ?_
          have hab := num_len_le db c2 da (by omega)
          exact Evt.bind (nat_long_ev a b da db c2 (by omega) hab (by omega)) (h := fun t _ => some (t.1, t.2, (0 : Int))) (Evt.pure _)
  · rw [if_neg h]
    exact Evt.ite_neg h (Evt.pure _)
theorem gcd_loop (b : Nat) : ∀ a : Nat, a < b64 ^ 64 → b < b64 ^ 64 → Evt (fun k => modint_Gcd.l0 k (limbs a) (limbs b)) (limbs (Nat.gcd a b), 0) := by
  induction b using Nat.strongRecOn with
  | _ b ih =>
    intro a ha hb
    refine Evt.succ ?_
    simp only [modint_Gcd.l0]
    by_cases h0 : b = 0
    · subst h0
      refine Evt.ite_neg (by rw [lz]; simp) ((Evt.pure _).congr (fun k => rfl) ?_)
      rw [Nat.gcd_zero_right]
    · have h1 : (limbs b).length ≠ 0 := fun e => h0 ((lz_iff b).1 e)
      refine Evt.ite_pos (by omega) ?_
      have hd := nat_Div_ev (limbs a) (limbs b) (lmax ha) (lmax hb) (dig_limbs' _) (dig_limbs' _)
      unfold divV at hd
      rw [if_pos ⟨right_limbs' ha, right_limbs' hb⟩, num_limbs, num_limbs, if_neg h0] at hd
      refine Evt.bind hd ?_
      have hlt := Nat.mod_lt a (show b > 0 by omega)
      rw [gcd_step]
      exact ih (a % b) hlt b hb (by omega)
theorem clone_lim (l : List Int) (h : l.length ≤ 100000) : api_Nat_uint64.f l = some l := by
  unfold api_Nat_uint64.f
  simp only [Option.bind_some, List.nil_append, List.length_nil]
  rw [if_pos (by omega)]
theorem mi_Gcd_ev (a b : List Int) (ha : a.length ≤ maxLen) (hb : b.length ≤ maxLen) (da : Dig (b64 : Int) a) (db : Dig (b64 : Int) b) : Evt (fun k => modint_Gcd.f k a b) (gcdV a b) := by
  unfold modint_Gcd.f gcdV
  have J : ∀ x : Bool, (x = false → rightB a = true ∧ rightB b = true) → Evt (fun k => modint_Gcd.j0 k a b x) (if x = true then ([], 1) else (limbs (Nat.gcd (num a) (num b)), 0)) := by
    intro x hx
    refine Evt.succ ?_
    simp only [modint_Gcd.j0]
    refine Evt.cond (fun _ => Evt.pure _) (fun hc => ?_)
    obtain ⟨h1, h2⟩ := hx (by simpa using hc)
    obtain ⟨l1, c1⟩ := (rightB_iff a).1 h1
    obtain ⟨l2, c2⟩ := (rightB_iff b).1 h2
    refine Evt.bind (Evt.of (fun _ => clone_lim a (by omega))) ?_
    refine Evt.bind (Evt.of (fun _ => clone_lim b (by omega))) ?_
    have h := gcd_loop (num b) (num a) (num_lt_p da l1) (num_lt_p db l2)
    rw [limbs_num da c1, limbs_num db c2] at h
    exact h
  refine Evt.bind (Evt.of (fun _ => nat_Right_eq ha)) ?_
  cases h1 : rightB a with
  | false => exact Evt.ite_neg (by simp) ((J true (by simp)).congr (fun k => rfl) (by simp))
  | true =>
    refine Evt.ite_pos rfl ?_
    refine Evt.bind (Evt.of (fun _ => nat_Right_eq hb)) ?_
    refine (J (!rightB b) (fun e => ⟨h1, by simpa using e⟩)).congr (fun k => rfl) ?_
    cases rightB b <;> simp
theorem odd_eq {p : Int} (h : 0 ≤ p) : prime_Check_1.f p = some (!okP p) := by
  unfold prime_Check_1.f okP
  by_cases h1 : p < 128
  · rw [if_pos h1]
    simp
    omega
  · rw [if_neg h1]
    by_cases h2 : p ≥ 1099511627776
    · rw [if_pos h2]
      simp
      omega
    · rw [if_neg h2]
      unfold prime_least.f
      rw [if_pos ⟨h, by omega⟩]
      simp only [Option.bind_some]
      have e1 : decide (128 ≤ p) = true := decide_eq_true (by omega)
      have e2 : decide (p < 1099511627776) = true := decide_eq_true (by omega)
      rw [e1, e2]
      rfl
theorem mul_ones {x y : Int} (hx : 1 ≤ x) (hx1 : x < 18446744073709551616) (hy : 1 ≤ y) (hy1 : y < 18446744073709551616) : mulV [x] [y] = (limbs (x.toNat * y.toNat), 0) := by
  have hb : b64 = 18446744073709551616 := rfl
  unfold mulV toldV
  rw [if_pos ⟨right_one (by omega), right_one (by omega)⟩, num_one (by omega), num_one (by omega), if_pos (prod_lim (by omega) (by omega))]
theorem prime_Check_ev {p q : Int} (hp : 0 ≤ p) (hp1 : p < 18446744073709551616) (hq : 0 ≤ q) (hq1 : q < 18446744073709551616) : Evt (fun k => prime_Check.f k p q) (checkV p q) := by
  have hb : b64 = 18446744073709551616 := rfl
  unfold prime_Check.f checkV
  have J : ∀ x : Bool, (x = false → okP p = true ∧ okP q = true) → Evt (fun k => prime_Check.j0 k x p q) (if x = true then 9 else if 1 = Nat.gcd (p.toNat * q.toNat) ((p - 1).toNat * (q - 1).toNat) then 0 else 9) := by
    intro x hx
    refine Evt.succ ?_
    simp only [prime_Check.j0]
    refine Evt.cond (fun _ => Evt.pure _) (fun hc => ?_)
    obtain ⟨h1, h2⟩ := hx (by simpa using hc)
    obtain ⟨p1, p2, _⟩ := okP_parts h1
    obtain ⟨q1, q2, _⟩ := okP_parts h2
    have d : ∀ z : Int, 0 ≤ z → z < 18446744073709551616 → Dig (b64 : Int) [z] := fun z a b => dig_one a b
    have m1 := nat_Mul_ev [p] [q] (by simp [maxLen]) (by simp [maxLen]) (d p hp hp1) (d q hq hq1)
    rw [mul_ones (by omega) (by omega) (by omega) (by omega)] at m1
    refine Evt.bind m1 ?_
    rw [wu64_of (x := p - 1) (by omega) (by omega), wu64_of (x := q - 1) (by omega) (by omega)]
    have m2 := nat_Mul_ev [p - 1] [q - 1] (by simp [maxLen]) (by simp [maxLen]) (d _ (by omega) (by omega)) (d _ (by omega) (by omega))
    rw [mul_ones (by omega) (by omega) (by omega) (by omega)] at m2
    refine Evt.bind m2 ?_
    have b1 : p.toNat * q.toNat < b64 ^ 64 := prod_lim (by omega) (by omega)
    have b2 : (p - 1).toNat * (q - 1).toNat < b64 ^ 64 := prod_lim (by omega) (by omega)
    have g := mi_Gcd_ev (limbs (p.toNat * q.toNat)) (limbs ((p - 1).toNat * (q - 1).toNat)) (lmax b1) (lmax b2) (dig_limbs' _) (dig_limbs' _)
    unfold gcdV at g
    rw [if_pos ⟨right_limbs' b1, right_limbs' b2⟩, num_limbs, num_limbs] at g
    have hpq : 0 < p.toNat * q.toNat := Nat.mul_pos (by omega) (by omega)
    have b3 : Nat.gcd (p.toNat * q.toNat) ((p - 1).toNat * (q - 1).toNat) < b64 ^ 64 := Nat.lt_of_le_of_lt (Nat.gcd_le_left _ hpq) b1
    obtain ⟨G, hG0⟩ : ∃ G, G = Nat.gcd (p.toNat * q.toNat) ((p - 1).toNat * (q - 1).toNat) := ⟨_, rfl⟩
    rw [← hG0] at g b3 ⊢
    refine Evt.bind g ?_
    have c := nat_Cmp_ev (limbs G) [1] (lmax b3) (by simp [maxLen]) (dig_limbs' _) (d 1 (by omega) (by omega))
    unfold cmpV at c
    rw [if_pos ⟨right_limbs' b3, right_one (by omega)⟩, num_limbs, num_one (by omega)] at c
    refine Evt.bind c ?_
    by_cases hG : 1 = G
    · rw [if_pos hG]
      exact Evt.ite_pos (by subst hG; rfl) (Evt.pure _)
    · rw [if_neg hG]
      exact Evt.ite_neg (by unfold cmpN; split <;> (try split) <;> omega) (Evt.pure _)
  refine Evt.bind (Evt.of (fun _ => odd_eq hp)) ?_
  cases h1 : okP p with
  | false => exact Evt.ite_pos rfl ((J true (by simp)).congr (fun k => rfl) (by simp))
  | true =>
    refine Evt.ite_neg (by simp) ?_
    refine Evt.bind (Evt.of (fun _ => odd_eq hq)) ?_
    cases h2 : okP q with
    | false => exact Evt.ite_pos rfl ((J true (by simp)).congr (fun k => rfl) (by simp))
    | true =>
      refine Evt.ite_neg (by simp) ?_
      by_cases h3 : p = q
      · exact Evt.ite_pos h3 ((J true (by simp)).congr (fun k => rfl) (by simp [h3]))
      · refine Evt.ite_neg h3 ?_
        refine Evt.bind (bits_Len64_ev hp hp1) ?_
        refine Evt.bind (bits_Len64_ev hq hq1) ?_
        refine (J _ (fun _ => ⟨h1, h2⟩)).congr (fun k => rfl) ?_
        by_cases h4 : bl p.toNat = bl q.toNat
        · simp [h3, h4]
        · have h5 : ¬ ((bl p.toNat : Nat) : Int) = ((bl q.toNat : Nat) : Int) := by omega
          simp [h4, h5]
end Go.Proofs.Ytkgaejigpmkfkaa.Z
end
section
namespace Go.Proofs.Ytkgaejigpmkfkaa.Z
open Go.RowKit Go.Proofs.Ytkgaejigpmkfkaa.F Go.Proofs.YtkgaejigpmkfkaaW.PrintWords Go.Proofs.YtkgaejigpmkfkaaW.PrintMore
set_option linter.unusedSimpArgs false
set_option linter.unusedVariables false
def searchAt (z n : Int) (L : List Int) (u : Nat) : Int × Int × Nat := if z < 8 ∨ 40 < z ∨ n < 1 ∨ 10000 < n then (0, 1, u) else searchU z.toNat L n.toNat u
theorem search_at (z n : Int) {L : List Int} (dL : Dig (b8 : Int) L) (u : Nat) (hu : u ≤ L.length) : searchF z n (L.drop u) = some ((searchAt z n L u).1, (searchAt z n L u).2.1, L.drop (searchAt z n L u).2.2) ∧ Evt (fun k => rsearchF k z n L u) (searchAt z n L u) ∧ (searchAt z n L u).2.2 ≤ L.length := by
  unfold searchF rsearchF searchAt
  by_cases h : z < 8 ∨ 40 < z ∨ n < 1 ∨ 10000 < n
  · rw [if_pos h, if_pos h]
    exact ⟨rfl, Evt.ite_pos h (Evt.pure _), hu⟩
  · rw [if_neg h, if_neg h]
    obtain ⟨m, rfl⟩ := Int.eq_ofNat_of_zero_le (show 0 ≤ z by omega)
    rw [Int.toNat_natCast]
    exact ⟨search_is (z := m) (by omega) (by omega) dL n.toNat u hu, Evt.ite_neg h (rsearch_ev (z := m) (by omega) (by omega) dL n.toNat u hu), searchU_le _ u hu⟩
theorem oddN_between {T x : Nat} (hT0 : 0 < T) (h2 : T % 2 = 0) : T ≤ oddN T x ∧ oddN T x < 2 * T := by
  unfold oddN
  have hr : x % T < T := Nat.mod_lt _ hT0
  split <;> omega
theorem searchU_bits {z : Nat} (h1 : 8 ≤ z) (h2 : z ≤ 40) {L : List Int} (t : Nat) : ∀ u, (searchU z L t u).2.1 = 0 → ∃ y : Nat, (searchU z L t u).1 = (y : Int) ∧ 2 ^ (z - 1) ≤ y ∧ y < 2 * 2 ^ (z - 1) := by
  induction t with
  | zero => intro u h; simp [searchU] at h
  | succ t ih =>
    intro u h
    rw [searchU] at h ⊢
    by_cases c1 : L.length - u < (z + 7) / 8
    · rw [if_pos c1] at h
      simp at h
    · rw [if_neg c1] at h ⊢
      obtain ⟨p1, p2, p3⟩ := pow_facts_s h1 h2
      generalize bv ((L.drop u).take ((z + 7) / 8)) = x at h ⊢
      by_cases c2 : leastV (oddN (2 ^ (z - 1)) x) = oddN (2 ^ (z - 1)) x
      · rw [if_pos c2]
        exact ⟨_, rfl, oddN_between p2 p3⟩
      · rw [if_neg c2] at h ⊢
        exact ih _ h
theorem searchAt_bits {z n : Int} {L : List Int} {u : Nat} (h : (searchAt z n L u).2.1 = 0) : 8 ≤ z ∧ z ≤ 40 ∧ ∃ y : Nat, (searchAt z n L u).1 = (y : Int) ∧ 2 ^ (z.toNat - 1) ≤ y ∧ y < 2 * 2 ^ (z.toNat - 1) := by
  unfold searchAt at h ⊢
  by_cases c : z < 8 ∨ 40 < z ∨ n < 1 ∨ 10000 < n
  · rw [if_pos c] at h
    simp at h
  · rw [if_neg c] at h ⊢
    exact ⟨by omega, by omega, searchU_bits (by omega) (by omega) _ _ h⟩
theorem one_of_bits {z : Int} {y : Nat} (h1 : 2 ^ (z.toNat - 1) ≤ y) (h2 : y < 2 * 2 ^ (z.toNat - 1)) : (y : Int) / (2 : Int) ^ (z.toNat - 1) = 1 := by
  have e : ((2 : Int) ^ (z.toNat - 1)) = ((2 ^ (z.toNat - 1) : Nat) : Int) := by simp
  rw [e]
  have hp : 0 < 2 ^ (z.toNat - 1) := Nat.pow_pos (by omega)
  generalize 2 ^ (z.toNat - 1) = T at h1 h2 hp
  have : y / T = 1 := by
    rw [Nat.div_eq_iff hp]
    omega
  omega
def pairAll (z n : Int) (L : List Int) : Int × Int × Int × Nat :=
  if (searchAt z n L 0).2.1 = 0 then (if (searchAt z n L (searchAt z n L 0).2.2).2.1 = 0 then (if checkV (searchAt z n L 0).1 (searchAt z n L (searchAt z n L 0).2.2).1 = 0 then ((searchAt z n L 0).1, (searchAt z n L (searchAt z n L 0).2.2).1, 0, (searchAt z n L (searchAt z n L 0).2.2).2.2) else (0, 0, checkV (searchAt z n L 0).1 (searchAt z n L (searchAt z n L 0).2.2).1, (searchAt z n L (searchAt z n L 0).2.2).2.2)) else (0, 0, (searchAt z n L (searchAt z n L 0).2.2).2.1, (searchAt z n L (searchAt z n L 0).2.2).2.2)) else (0, 0, (searchAt z n L 0).2.1, (searchAt z n L 0).2.2)
theorem pow_small {z : Int} (h1 : 8 ≤ z) (h2 : z ≤ 40) {y : Nat} (h : y < 2 * 2 ^ (z.toNat - 1)) : (y : Int) < 18446744073709551616 := by
  have := (pow_facts_s (z := z.toNat) (by omega) (by omega)).1
  omega
theorem pair_both (z n : Int) {L : List Int} (dL : Dig (b8 : Int) L) : Evt (fun k => pair.f k z n L) ((pairAll z n L).1, (pairAll z n L).2.1, (pairAll z n L).2.2.1, L.drop (pairAll z n L).2.2.2) ∧ Evt (fun k => rpair.f k z n L 0) (pairAll z n L) ∧ (pairAll z n L).2.2.2 ≤ L.length ∧ ((pairAll z n L).2.2.1 = 0 → 8 ≤ z ∧ z ≤ 40 ∧ Evt (fun k => prime_Check.f k (pairAll z n L).1 (pairAll z n L).2.1) 0 ∧ (pairAll z n L).1 / (2 : Int) ^ (z.toNat - 1) = 1 ∧ (pairAll z n L).2.1 / (2 : Int) ^ (z.toNat - 1) = 1) := by
  obtain ⟨a1, a2, a3⟩ := search_at z n dL 0 (Nat.zero_le _)
  rw [List.drop_zero] at a1
  have a4 := @searchAt_bits z n L 0
  unfold pairAll pair.f rpair.f
  generalize searchAt z n L 0 = A at a1 a2 a3 a4
  obtain ⟨b1, b2, b3⟩ := search_at z n dL A.2.2 a3
  have b4 := @searchAt_bits z n L A.2.2
  generalize searchAt z n L A.2.2 = B at b1 b2 b3 b4
  obtain ⟨p, e, u⟩ := A
  obtain ⟨q, f, v⟩ := B
  simp only [] at a1 a2 a3 a4 b1 b2 b3 b4 ⊢
  rw [a1]
  simp only [Option.bind_some]
  by_cases c1 : e = 0
  · simp only [if_pos c1]
    obtain ⟨z1, z2, x, rfl, x1, x2⟩ := a4 c1
    simp only [b1, Option.bind_some]
    by_cases c2 : f = 0
    · simp only [if_pos c2]
      obtain ⟨_, _, y, rfl, y1, y2⟩ := b4 c2
      have hx := pow_small z1 z2 x2
      have hy := pow_small z1 z2 y2
      have k1 := prime_Check_ev (p := (x : Int)) (q := (y : Int)) (by omega) hx (by omega) hy
      have k2 := ref_Check_ev (p := (x : Int)) (q := (y : Int)) (by omega) hx (by omega) hy
      by_cases c3 : checkV (x : Int) (y : Int) = 0
      · simp only [if_pos c3]
        rw [c3] at k1 k2
        refine ⟨Evt.bind k1 ?_, Evt.bind a2 (Evt.ite_pos a3 (Evt.ite_pos c1 (Evt.bind b2 (Evt.ite_pos c2 (Evt.bind k2 ?_))))), b3, fun _ => ⟨z1, z2, k1, one_of_bits x1 x2, one_of_bits y1 y2⟩⟩
        · exact Evt.ite_pos rfl (Evt.pure _)
        · exact Evt.ite_pos rfl (Evt.pure _)
      · simp only [if_neg c3]
        refine ⟨Evt.bind k1 ?_, Evt.bind a2 (Evt.ite_pos a3 (Evt.ite_pos c1 (Evt.bind b2 (Evt.ite_pos c2 (Evt.bind k2 ?_))))), b3, fun h => absurd h c3⟩
        · exact Evt.ite_neg c3 (Evt.pure _)
        · exact Evt.ite_neg c3 (Evt.pure _)
    · simp only [if_neg c2]
      exact ⟨Evt.pure _, Evt.bind a2 (Evt.ite_pos a3 (Evt.ite_pos c1 (Evt.bind b2 (Evt.ite_neg c2 (Evt.pure _))))), b3, fun h => absurd h c2⟩
  · simp only [if_neg c1]
    exact ⟨Evt.pure _, Evt.bind a2 (Evt.ite_pos a3 (Evt.ite_neg c1 (Evt.pure _))), a3, fun h => absurd h c1⟩
end Go.Proofs.Ytkgaejigpmkfkaa.Z
end
section
namespace Go.Proofs.Ytkgaejigpmkfkaa.Pure
open Go.RowKit Go.Proofs.Ytkgaejigpmkfkaa.F Go.Proofs.Ytkgaejigpmkfkaa.Z
set_option linter.unusedSimpArgs false
set_option linter.unusedVariables false
theorem dig8p {L : List Int} (h : ∀ x ∈ L, (Lit.int .u8 x).wf = true) : Dig (b8 : Int) L := by
  intro x hx
  have h := h x hx
  simp [Lit.wf, IntKind.min, IntKind.max, IntKind.bits, IntKind.signed] at h
  exact ⟨by omega, show x < 256 by omega⟩
theorem PrimePairs : windbreaklaw05_PrimePairs.Pure := by
  intro L z n _ hw _ _
  obtain ⟨⟨k1, a⟩, ⟨k2, b⟩, c, d⟩ := pair_both z (min n 300) (dig8p hw)
  by_cases h : (pairAll z (min n 300) L).2.2.1 = 0
  · obtain ⟨z1, z2, ⟨k3, e⟩, f, g⟩ := d h
    exact ⟨k1 + k2 + k3, _, _, _, _, a _ (by omega), b _ (by omega), c, fun _ => ⟨z1, z2, e _ (by omega), f, g⟩⟩
  · exact ⟨k1 + k2, _, _, _, _, a _ (by omega), b _ (by omega), c, fun h' => absurd h' h⟩
end Go.Proofs.Ytkgaejigpmkfkaa.Pure
end
section
namespace Go.Proofs.YtkgaejigpmkfkaaW.PrintWords
open Go.ChangeShapes Go.WideShapes
end Go.Proofs.YtkgaejigpmkfkaaW.PrintWords
end
section
namespace Go.Proofs.Ytkgaejigpmkfkaa.primePairs
open Go.ChangeShapes Go.WideShapes Go.ChangeAt Go.RowKit Go.Proofs.Ytkgaejigpmkfkaa.F Go.Proofs.YtkgaejigpmkfkaaW.PrintWords
set_option linter.unusedSimpArgs false
open Go.ChangeMaps (open_string shut_string)
set_option linter.unusedVariables false
theorem own : ownKnob Try.prog.godebug = none := by kernel_rfl
theorem laidOut : laidOutB Try.prog = true := by kernel_rfl
set_option maxRecDepth 100000 in
theorem lifted (os : Os) (started : os.Started) (H : Type) (enc : TypeId × Value → H) :
    ReturnsInHanded {} Try.checked os 3 .any (Rows.primePairsSpec.pre6 enc Try.prog Try.f3 Rows.primePairsRow.domain false) (Rows.primePairsSpec.post enc Try.prog Try.f3 false true false false) := by
  refine returnsInHanded_of_change_sized (C := Try.checked) own started (by kernel_rfl) Try.func3
    (ChangeSpec.witness6 (enc := enc) (C := Try.checked) false ⟨#[], #[.slice none 0 0, .int .i64 0, .int .i64 0], []⟩ 8 (by kernel_rfl) (by kernel_rfl) (by kernel_rfl) (by kernel_rfl)) ?_
  intro W base args ds gs before hval0 hW hcnd hsz0 _
  have hsz : (DataW.weightsEach Try.prog (Try.f3.params.toList ++ Rows.primePairsSpec.plain.varTypes Try.prog) (ds ++ gs)).all (· ≤ reachBytes) = true := hsz0
  have hval : ∀ (j : Nat) t v, Try.f3.params[j]? = some t → args[j]? = some v → Value.okWide Try.prog W .any base t v := hval0
  have hW' := hW
  obtain ⟨p, q, hA0, hV, rfl, hfz, hnd⟩ := hW
  have hA : DataW.TrodAll enc Try.prog W 0 (fun _ => true) true Try.f3.params.toList args.toList ds p := hA0
  rw [Try.params3] at hA hval hsz
  obtain ⟨v0, vs0, d0, ds0, p0, q0, hargs, rfl, rfl, h0, r0⟩ := trodAll_cons hA
  obtain ⟨v1, vs1, d1, ds1, p1, q1, rfl, rfl, rfl, h1, r1⟩ := trodAll_cons r0
  obtain ⟨v2, vs2, d2, ds2, p2, q2, rfl, rfl, rfl, h2, r2⟩ := trodAll_cons r1
  obtain ⟨rfl, rfl, rfl⟩ := trodAll_nil r2
  obtain rfl : args = #[v0, v1, v2] := by cases args; simp_all
  obtain ⟨rfl, rfl⟩ := trodVars_none hV
  obtain ⟨a0, len0, cap0, rfl⟩ := okWide_slice Try.underlying22 (hval 0 22 v0 rfl rfl)
  have k0 := h0
  have lt0 : ∀ x ∈ p0, x.block < W.heap.size := by obtain ⟨m, hm⟩ := k0; exact DataW.trod_lt m _ _ _ hm
  obtain ⟨m0, hm0⟩ := h0
  obtain ⟨x0, hK0, ok0⟩ := (Opens.slice Try.underlying22 (by kernel_rfl) (Opens.int Try.underlying5)) enc W true m0 _ _ hm0
  obtain ⟨n1, rfl⟩ := okWide_int Try.underlying3 (hval 1 3 v1 rfl rfl)
  have k1 := h1
  have lt1 : ∀ x ∈ p1, x.block < W.heap.size := by obtain ⟨m, hm⟩ := k1; exact DataW.trod_lt m _ _ _ hm
  obtain ⟨m1, hm1⟩ := h1
  obtain ⟨x1, hK1, ok1⟩ := (Opens.int Try.underlying3) enc W true m1 _ _ hm1
  obtain ⟨n2, rfl⟩ := okWide_int Try.underlying3 (hval 2 3 v2 rfl rfl)
  have k2 := h2
  have lt2 : ∀ x ∈ p2, x.block < W.heap.size := by obtain ⟨m, hm⟩ := k2; exact DataW.trod_lt m _ _ _ hm
  obtain ⟨m2, hm2⟩ := h2
  obtain ⟨x2, hK2, ok2⟩ := (Opens.int Try.underlying3) enc W true m2 _ _ hm2
  clear hA0 hval0 hsz0 hsz
  refine (F.windbreaklaw05_PrimePairs.row Pure.PrimePairs W a0 len0 cap0 x0 hK0 ok0 n1 x1 hK1 ok1 n2 x2 hK2 ok2).mono fun e W' ⟨he, bel⟩ => ?_
  subst he
  exact ⟨_, rfl, _, _, _, [], _, [], hW', trodAll_mk1 (shut_bool Try.underlying4 _), (trodAll_cons_mk (Below.trod laidOut (by kernel_rfl) (of_decide_eq_true (by kernel_rfl)) k0 bel lt0) (trodAll_cons_mk (Below.trod laidOut (by kernel_rfl) (of_decide_eq_true (by kernel_rfl)) k1 bel lt1) (trodAll_cons_mk (Below.trod laidOut (by kernel_rfl) (of_decide_eq_true (by kernel_rfl)) k2 bel lt2) trodAll_mk0))), rfl, bel.frame _, fun h => by cases h⟩
theorem over : Rows.primePairsRow.holds Try.pinned (OpenSpec.ofChange Rows.primePairsSpec) :=
  OpenClaim.holds_of_wide 3 Try.f3 rfl rfl rfl rfl rfl rfl rfl ⟨rfl, rfl, rfl, rfl, rfl⟩ rfl rfl rfl rfl rfl (by kernel_rfl) Try.func3 (by kernel_rfl)
    (of_decide_eq_true (by kernel_rfl)) (by unfold Func.isWrapper; first | (rw [if_pos (by decide +kernel)]; kernel_rfl) | (rw [if_neg (by decide +kernel)]; exact ⟨rfl, rfl⟩))
    (fun os started H enc _ => lifted os started H enc)
theorem proved : Rows.PrimePairsSaid := over
#print axioms proved
end Go.Proofs.Ytkgaejigpmkfkaa.primePairs
namespace Go.Proofs.Ytkgaejigpmkfkaa
theorem primePairs_holds : Rows.PrimePairsSaid := primePairs.proved
end Go.Proofs.Ytkgaejigpmkfkaa
end
