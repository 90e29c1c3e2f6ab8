/- Proved: the law FixencCodes of layer 7: any whole number by any modulus, and back, is the document's; for every input, without a condition. -/
import Derived.Test.YtgeanpnkllnipacMFixencCodese
import Derived.Laws.BitsLemmas
import Derived.SizedLaws
import Derived.ChangeSlices
import Derived.Test.YtgeanpnkllnipacRows
import Derived.WalkKit
import Derived.ProofKit
import Derived.OpenShut
import Derived.ShutString
import Derived.ChangeOld
import Derived.Below
import Derived.Lib.SmallJoins
import Derived.ChangeArms

section
namespace Go.Proofs.Ytgeanpnkllnipac.Z
open Go.RowKit Go.Proofs.YtgeanpnkllnipacW.PrintWords
set_option linter.unusedSimpArgs false
set_option linter.unusedVariables false

/-! ### Rounds: from some number on the answer is r -/
def Evt {α : Type} (g : Nat → Option α) (r : α) : Prop := ∃ n, ∀ k, n ≤ k → g k = some r
theorem Evt.of {α : Type} {g : Nat → Option α} {r : α} (h : ∀ k, g k = some r) : Evt g r := ⟨0, fun k _ => h k⟩
theorem Evt.pure {α : Type} (r : α) : Evt (fun _ => some r) r := ⟨0, fun _ _ => rfl⟩
theorem Evt.bind {α β : Type} {g : Nat → Option α} {h : α → Nat → Option β} {a : α} {b : β} (h1 : Evt g a) (h2 : Evt (h a) b) : Evt (fun k => (g k).bind fun x => h x k) b := by
  obtain ⟨n, hn⟩ := h1
  obtain ⟨m, hm⟩ := h2
  exact ⟨n + m, fun k hk => by simp only [hn k (by omega), Option.bind_some]; exact hm k (by omega)⟩
theorem Evt.succ {α : Type} {g : Nat → Option α} {r : α} (h : Evt (fun k => g (k + 1)) r) : Evt g r := by
  obtain ⟨n, hn⟩ := h
  refine ⟨n + 1, fun k hk => ?_⟩
  obtain ⟨m, rfl⟩ : ∃ m, k = m + 1 := ⟨k - 1, by omega⟩
  exact hn m (by omega)
theorem Evt.get {α : Type} {g : Nat → Option α} {r : α} (h : Evt g r) : ∃ k, g k = some r := by
  obtain ⟨n, hn⟩ := h
  exact ⟨n, hn n (Nat.le_refl _)⟩
theorem Evt.congr {α : Type} {g g' : Nat → Option α} {r r' : α} (h : Evt g r) (hg : ∀ k, g' k = g k) (hr : r = r') : Evt g' r' := by
  subst hr
  obtain ⟨n, hn⟩ := h
  exact ⟨n, fun k hk => (hg k).trans (hn k hk)⟩
theorem Evt.ite_pos {α : Type} {c : Prop} [Decidable c] {g h : Nat → Option α} {r : α} (hc : c) (hg : Evt g r) : Evt (fun k => if c then g k else h k) r := by
  obtain ⟨n, hn⟩ := hg
  exact ⟨n, fun k hk => (if_pos hc).trans (hn k hk)⟩
theorem Evt.ite_neg {α : Type} {c : Prop} [Decidable c] {g h : Nat → Option α} {r : α} (hc : ¬ c) (hg : Evt h r) : Evt (fun k => if c then g k else h k) r := by
  obtain ⟨n, hn⟩ := hg
  exact ⟨n, fun k hk => (if_neg hc).trans (hn k hk)⟩
theorem Evt.cond {α : Type} {c : Prop} [Decidable c] {g h : Nat → Option α} {r s : α} (hg : c → Evt g r) (hh : ¬ c → Evt h s) : Evt (fun k => if c then g k else h k) (if c then r else s) := by
  by_cases hc : c
  · rw [if_pos hc]; exact Evt.ite_pos hc (hg hc)
  · rw [if_neg hc]; exact Evt.ite_neg hc (hh hc)

theorem Evt.cond' {α : Type} {c : Prop} [Decidable c] {g h : Nat → Option α} {r : α} (hg : c → Evt g r) (hh : ¬ c → Evt h r) : Evt (fun k => if c then g k else h k) r := by
  by_cases hc : c
  · exact Evt.ite_pos hc (hg hc)
  · exact Evt.ite_neg hc (hh hc)

/-! ### Numbers of a machine -/
theorem w64 {x : Int} (h0 : -9223372036854775808 ≤ x) (h1 : x < 9223372036854775808) : wrap64 x = x := by unfold wrap64; omega
theorem wu64 (x : Int) : IntKind.u64.wrap x = x % 18446744073709551616 := by simp [IntKind.wrap, IntKind.bits, IntKind.signed]
theorem wu64_of {x : Int} (h0 : 0 ≤ x) (h1 : x < 18446744073709551616) : IntKind.u64.wrap x = x := by rw [wu64]; omega
theorem wf_u64 {x : Int} (h : (Lit.int .u64 x).wf = true) : 0 ≤ x ∧ x < 18446744073709551616 := by
  simp [Lit.wf, IntKind.min, IntKind.max, IntKind.bits, IntKind.signed] at h
  omega
theorem rd_getD (l : List Int) (i : Int) : rd l i = l.getD i.toNat 0 := rfl
theorem rd_nat (l : List Int) (i : Nat) : rd l (i : Int) = l.getD i 0 := rfl

/-! ### Digits -/
/-- The number of digits, the lowest first. -/
def val (B : Int) : List Int → Int
  | [] => 0
  | d :: l => d + B * val B l
/-- All are digits. -/
def Dig (B : Int) (l : List Int) : Prop := ∀ x, x ∈ l → 0 ≤ x ∧ x < B
/-- The last digit is not 0. -/
def Can (l : List Int) : Prop := ∀ h : l ≠ [], l.getLast h ≠ 0
/-- Without noughts behind. -/
def strip : List Int → List Int
  | [] => []
  | d :: l => if strip l = [] then (if d = 0 then [] else [d]) else d :: strip l

theorem Dig.nil {B : Int} : Dig B [] := fun _ h => by simp at h
theorem Dig.cons {B d : Int} {l : List Int} : Dig B (d :: l) ↔ (0 ≤ d ∧ d < B) ∧ Dig B l := by
  unfold Dig
  simp
theorem Dig.append {B : Int} {l m : List Int} : Dig B (l ++ m) ↔ Dig B l ∧ Dig B m := by
  unfold Dig
  constructor
  · intro h
    exact ⟨fun x hx => h x (by simp [hx]), fun x hx => h x (by simp [hx])⟩
  · intro h x hx
    rcases List.mem_append.1 hx with hx | hx
    · exact h.1 x hx
    · exact h.2 x hx
theorem Dig.take {B : Int} {l : List Int} (h : Dig B l) (n : Nat) : Dig B (l.take n) := fun x hx => h x (List.mem_of_mem_take hx)
theorem Dig.drop {B : Int} {l : List Int} (h : Dig B l) (n : Nat) : Dig B (l.drop n) := fun x hx => h x (List.mem_of_mem_drop hx)
theorem Dig.getD {B : Int} {l : List Int} (h : Dig B l) (hB : 0 < B) (i : Nat) : 0 ≤ l.getD i 0 ∧ l.getD i 0 < B := by
  rw [List.getD_eq_getElem?_getD]
  cases he : l[i]? with
  | none => simp; omega
  | some x => simpa using h x (List.mem_of_getElem? he)
theorem Dig.set {B : Int} {l : List Int} (h : Dig B l) (i : Nat) {v : Int} (hv : 0 ≤ v ∧ v < B) : Dig B (l.set i v) := by
  intro x hx
  rcases List.mem_or_eq_of_mem_set hx with hx | rfl
  · exact h x hx
  · exact hv
theorem Dig.replicate {B : Int} (hB : 0 < B) (n : Nat) : Dig B (List.replicate n 0) := by
  intro x hx
  have := List.eq_of_mem_replicate hx
  omega

theorem val_append (B : Int) (l m : List Int) : val B (l ++ m) = val B l + B ^ l.length * val B m := by
  induction l with
  | nil => simp [val]
  | cons d l ih => simp only [List.cons_append, val, ih, List.length_cons, Int.pow_succ]; grind
theorem val_replicate (B : Int) (n : Nat) : val B (List.replicate n 0) = 0 := by
  induction n with
  | zero => rfl
  | succ n ih => simp [List.replicate_succ, val, ih]
theorem val_nonneg {B : Int} (hB : 0 < B) {l : List Int} (h : Dig B l) : 0 ≤ val B l := by
  induction l with
  | nil => simp [val]
  | cons d l ih =>
    have h' := Dig.cons.1 h
    have h1 := ih h'.2
    have : 0 ≤ B * val B l := Int.mul_nonneg (by omega) h1
    simp only [val]
    omega
theorem val_lt {B : Int} (hB : 0 < B) {l : List Int} (h : Dig B l) : val B l < B ^ l.length := by
  induction l with
  | nil => simp [val]
  | cons d l ih =>
    have h' := Dig.cons.1 h
    have h1 := ih h'.2
    have h2 : B * val B l ≤ B * (B ^ l.length - 1) := Int.mul_le_mul_of_nonneg_left (by omega) (by omega)
    have h3 : B * (B ^ l.length - 1) = B * B ^ l.length - B := by grind
    simp only [val, List.length_cons, Int.pow_succ]
    have h4 : B ^ l.length * B = B * B ^ l.length := Int.mul_comm _ _
    omega
theorem Can.nil : Can [] := fun h => absurd rfl h
theorem Can.tail {d : Int} {l : List Int} (h : Can (d :: l)) : Can l := by
  intro hl
  have := h (by simp)
  rwa [List.getLast_cons hl] at this
theorem Can.one {d : Int} (h : d ≠ 0) : Can [d] := fun _ => by simpa using h
theorem Can.cons {d : Int} {l : List Int} (h : Can l) (hl : l ≠ []) : Can (d :: l) := by
  intro _
  rw [List.getLast_cons hl]
  exact h hl
theorem val_pos {B : Int} (hB : 0 < B) {l : List Int} (h : Dig B l) (hc : Can l) (hl : l ≠ []) : B ^ (l.length - 1) ≤ val B l := by
  induction l with
  | nil => exact absurd rfl hl
  | cons d l ih =>
    have h' := Dig.cons.1 h
    by_cases e : l = []
    · subst e
      have := hc (by simp)
      simp [val] at this ⊢
      omega
    · have h1 := ih h'.2 hc.tail e
      have h2 : l.length - 1 + 1 = l.length := by have := List.length_pos_iff.2 e; omega
      simp only [val, List.length_cons, Nat.add_sub_cancel]
      rw [← h2, Int.pow_succ, Int.mul_comm]
      have : B * B ^ (l.length - 1) ≤ B * val B l := Int.mul_le_mul_of_nonneg_left h1 (by omega)
      omega
theorem val_zero {B : Int} (hB : 0 < B) {l : List Int} (h : Dig B l) (hc : Can l) (h0 : val B l = 0) : l = [] := by
  by_cases e : l = []
  · exact e
  · have := val_pos hB h hc e
    have h2 : 0 < B ^ (l.length - 1) := Int.pow_pos hB
    omega
theorem val_inj {B : Int} (hB : 0 < B) {l m : List Int} (hl : Dig B l) (hm : Dig B m) (cl : Can l) (cm : Can m) (h : val B l = val B m) : l = m := by
  induction l generalizing m with
  | nil => exact (val_zero hB hm cm h.symm).symm
  | cons d l ih =>
    cases m with
    | nil => exact val_zero hB hl cl h
    | cons e m =>
      have h1 := Dig.cons.1 hl
      have h2 := Dig.cons.1 hm
      simp only [val] at h
      have h3 : d = e := by
        have a1 : (d + B * val B l) % B = d := by rw [Int.add_mul_emod_self_left]; exact Int.emod_eq_of_lt h1.1.1 h1.1.2
        have a2 : (e + B * val B m) % B = e := by rw [Int.add_mul_emod_self_left]; exact Int.emod_eq_of_lt h2.1.1 h2.1.2
        rw [← a1, ← a2, h]
      subst h3
      have h4 : val B l = val B m := by
        have : B * val B l = B * val B m := by omega
        exact Int.eq_of_mul_eq_mul_left (by omega) this
      rw [ih h1.2 h2.2 cl.tail cm.tail h4]
theorem strip_val (B : Int) (l : List Int) : val B (strip l) = val B l := by
  induction l with
  | nil => rfl
  | cons d l ih =>
    simp only [strip]
    split
    · rename_i h
      rw [h] at ih
      simp only [val] at ih
      split
      · rename_i h0; simp [val, ← ih, h0]
      · simp [val, ← ih]
    · simp [val, ih]
theorem strip_can (l : List Int) : Can (strip l) := by
  induction l with
  | nil => exact Can.nil
  | cons d l ih =>
    simp only [strip]
    split
    · split
      · exact Can.nil
      · rename_i h; exact Can.one h
    · rename_i h; exact ih.cons h
theorem strip_dig {B : Int} {l : List Int} (h : Dig B l) : Dig B (strip l) := by
  induction l with
  | nil => exact Dig.nil
  | cons d l ih =>
    have h' := Dig.cons.1 h
    simp only [strip]
    split
    · split
      · exact Dig.nil
      · exact Dig.cons.2 ⟨h'.1, Dig.nil⟩
    · exact Dig.cons.2 ⟨h'.1, ih h'.2⟩
theorem strip_of_can {l : List Int} (h : Can l) : strip l = l := by
  induction l with
  | nil => rfl
  | cons d l ih =>
    simp only [strip]
    rw [ih h.tail]
    split
    · rename_i e
      subst e
      have := h (by simp)
      simp at this
      simp [this]
    · rfl
theorem strip_snoc_zero (l : List Int) : strip (l ++ [0]) = strip l := by
  induction l with
  | nil => simp [strip]
  | cons d l ih => simp only [List.cons_append, strip, ih]
theorem strip_snoc {l : List Int} {d : Int} (h : d ≠ 0) : strip (l ++ [d]) = l ++ [d] := by
  apply strip_of_can
  intro hl
  simpa using h
theorem pow_mono {B : Int} (hB : 0 < B) {m n : Nat} (h : m ≤ n) : B ^ m ≤ B ^ n := by
  induction n with
  | zero => have : m = 0 := by omega
            subst this
            exact Int.le_refl _
  | succ n ih =>
    by_cases e : m = n + 1
    · subst e
      exact Int.le_refl _
    · have h1 := ih (by omega)
      have h2 : 0 < B ^ n := Int.pow_pos hB
      have h3 : 1 * B ^ n ≤ B * B ^ n := Int.mul_le_mul_of_nonneg_right (by omega) (by omega)
      rw [Int.pow_succ, Int.mul_comm]
      omega
/-- Longer numbers are greater. -/
theorem val_lt_of_length {B : Int} (hB : 0 < B) {l m : List Int} (hl : Dig B l) (hm : Dig B m) (cm : Can m) (h : l.length < m.length) : val B l < val B m := by
  have h1 := val_lt hB hl
  have h2 := val_pos hB hm cm (by intro e; subst e; simp at h)
  have h3 : B ^ l.length ≤ B ^ (m.length - 1) := pow_mono hB (by omega)
  omega
/-- Are limbs a number's? -/
def rightB (l : List Int) : Bool := decide (l.length ≤ 64) && ((l.length == 0) || (l.getD (l.length - 1) 0 != 0))
theorem can_iff (l : List Int) : Can l ↔ ((l.length == 0) || (l.getD (l.length - 1) 0 != 0)) = true := by
  cases l with
  | nil => simp [Can]
  | cons d l =>
    have h : (d :: l).getLast (by simp) = (d :: l).getD ((d :: l).length - 1) 0 := by
      rw [List.getLast_eq_getElem]
      simp
    unfold Can
    simp only [List.length_cons, Nat.add_one_ne_zero, beq_iff_eq, Bool.or_eq_true, bne_iff_ne, false_or]
    constructor
    · intro hc
      have := hc (by simp)
      rw [h] at this
      exact this
    · intro hc _
      rw [h]
      exact hc
theorem rightB_iff (l : List Int) : rightB l = true ↔ l.length ≤ 64 ∧ Can l := by
  unfold rightB
  rw [Bool.and_eq_true, decide_eq_true_iff, ← can_iff]
end Go.Proofs.Ytgeanpnkllnipac.Z
end

section
namespace Go.Proofs.Ytgeanpnkllnipac.Z
open Go.RowKit Go.Proofs.Ytgeanpnkllnipac.F Go.Proofs.YtgeanpnkllnipacW.PrintWords
set_option linter.unusedSimpArgs false
set_option linter.unusedVariables false
theorem few7_loop (ls : List (List Int)) (h : ls.length ≤ maxLen) (d : Nat) : ∀ i : Nat, i ≤ ls.length → ls.length - i = d → Evt (fun k => windbreaklaw07_few.l0 k ls (i : Int)) ((ls.drop i).all fun a => decide (a.length ≤ 20)) := by
  unfold maxLen at h
  induction d with
  | zero =>
    intro i hi hd
    refine Evt.succ ?_
    simp only [windbreaklaw07_few.l0]
    refine Evt.ite_neg (by omega) ?_
    rw [show ls.drop i = [] from List.drop_of_length_le (by omega)]
    exact Evt.pure _
  | succ d ih =>
    intro i hi hd
    have hlt : i < ls.length := by omega
    refine Evt.succ ?_
    simp only [windbreaklaw07_few.l0]
    refine Evt.ite_pos (by omega) (Evt.ite_pos (by omega) ?_)
    have hx : rd_L2 ls (i : Int) = ls[i] := by simp [rd_L2, hlt]
    rw [hx, List.drop_eq_getElem_cons hlt, List.all_cons]
    by_cases h70 : ls[i].length ≤ 20
    · refine Evt.ite_neg (by omega) ?_
      rw [w64 (by omega) (by omega)]
      have := ih (i + 1) (by omega) (by omega)
      refine this.congr (fun k => rfl) ?_
      rw [decide_eq_true h70, Bool.true_and]
    · refine Evt.ite_pos (by omega) ?_
      rw [decide_eq_false h70, Bool.false_and]
      exact Evt.pure _
theorem few7_ev (ls : List (List Int)) (h : ls.length ≤ maxLen) : Evt (fun k => windbreaklaw07_few.f k ls) (ls.all fun a => decide (a.length ≤ 20)) := by
  have := few7_loop ls h ls.length 0 (Nat.zero_le _) (by omega)
  exact this.congr (fun k => rfl) (by simp)
end Go.Proofs.Ytgeanpnkllnipac.Z
end

section
namespace Go.Proofs.Ytgeanpnkllnipac.Z
open Go.RowKit Go.Proofs.YtgeanpnkllnipacW.PrintWords
set_option linter.unusedSimpArgs false
set_option linter.unusedVariables false

/-! ### The digits of a number -/
def toD (B : Nat) (v : Nat) : List Int := if h : 2 ≤ B ∧ 0 < v then ((v % B : Nat) : Int) :: toD B (v / B) else []
termination_by v
decreasing_by exact Nat.div_lt_self h.2 (by omega)
theorem toD_zero (B : Nat) : toD B 0 = [] := by rw [toD]; simp
theorem toD_pos {B v : Nat} (hB : 2 ≤ B) (hv : 0 < v) : toD B v = ((v % B : Nat) : Int) :: toD B (v / B) := by rw [toD]; simp [hB, hv]
theorem toD_dig {B : Nat} (hB : 2 ≤ B) (v : Nat) : Dig (B : Int) (toD B v) := by
  induction v using Nat.strongRecOn with
  | _ v ih =>
    by_cases hv : v = 0
    · subst hv; rw [toD_zero]; exact Dig.nil
    · rw [toD_pos hB (by omega)]
      have := Nat.mod_lt v (show B > 0 by omega)
      exact Dig.cons.2 ⟨by omega, ih _ (Nat.div_lt_self (by omega) (by omega))⟩
theorem toD_eq_nil {B v : Nat} (hB : 2 ≤ B) : toD B v = [] ↔ v = 0 := by
  constructor
  · intro h
    by_cases hv : v = 0
    · exact hv
    · rw [toD_pos hB (by omega)] at h; cases h
  · rintro rfl; exact toD_zero B
theorem toD_can {B : Nat} (hB : 2 ≤ B) (v : Nat) : Can (toD B v) := by
  induction v using Nat.strongRecOn with
  | _ v ih =>
    by_cases hv : v = 0
    · subst hv; rw [toD_zero]; exact Can.nil
    · rw [toD_pos hB (by omega)]
      by_cases hq : v / B = 0
      · rw [hq, toD_zero]
        have hlt : v < B := (Nat.div_eq_zero_iff_lt (by omega)).1 hq
        rw [Nat.mod_eq_of_lt hlt]
        exact Can.one (by omega)
      · exact (ih _ (Nat.div_lt_self (by omega) (by omega))).cons (fun e => hq ((toD_eq_nil hB).1 e))
theorem val_toD {B : Nat} (hB : 2 ≤ B) (v : Nat) : val (B : Int) (toD B v) = (v : Int) := by
  induction v using Nat.strongRecOn with
  | _ v ih =>
    by_cases hv : v = 0
    · subst hv; rw [toD_zero]; rfl
    · rw [toD_pos hB (by omega)]
      simp only [val]
      rw [ih _ (Nat.div_lt_self (by omega) (by omega))]
      have h2 := Nat.mod_add_div v B
      have h3 : ((v % B + B * (v / B) : Nat) : Int) = (v : Int) := by rw [h2]
      simpa using h3
/-- What all noughts are taken off is the digits of the number. -/
theorem strip_toD {B : Nat} (hB : 2 ≤ B) {l : List Int} (h : Dig (B : Int) l) : strip l = toD B (val (B : Int) l).toNat := by
  have h0 : (0 : Int) < (B : Int) := by omega
  refine val_inj h0 (strip_dig h) (toD_dig hB _) (strip_can l) (toD_can hB _) ?_
  rw [strip_val, val_toD hB]
  have := val_nonneg h0 h
  omega
theorem can_toD {B : Nat} (hB : 2 ≤ B) {l : List Int} (h : Dig (B : Int) l) (hc : Can l) : l = toD B (val (B : Int) l).toNat := by
  rw [← strip_toD hB h, strip_of_can hc]
theorem pow_cast (B n : Nat) : ((B : Int)) ^ n = ((B ^ n : Nat) : Int) := by simp
theorem toD_len_le {B : Nat} (hB : 2 ≤ B) {v n : Nat} (h : v < B ^ n) : (toD B v).length ≤ n := by
  by_cases hv : v = 0
  · subst hv; rw [toD_zero]; simp
  · have h1 := val_pos (show (0 : Int) < (B : Int) by omega) (toD_dig hB v) (toD_can hB v) (fun e => hv ((toD_eq_nil hB).1 e))
    rw [val_toD hB, pow_cast] at h1
    have h2 : B ^ ((toD B v).length - 1) ≤ v := by omega
    have h3 : B ^ ((toD B v).length - 1) < B ^ n := by omega
    have h4 := (Nat.pow_lt_pow_iff_right (show 1 < B by omega)).1 h3
    omega
theorem toD_lt_pow {B : Nat} (hB : 2 ≤ B) (v : Nat) : v < B ^ (toD B v).length := by
  have h1 := val_lt (show (0 : Int) < (B : Int) by omega) (toD_dig hB v)
  rw [val_toD hB, pow_cast] at h1
  omega
theorem toD_len_iff {B : Nat} (hB : 2 ≤ B) (v n : Nat) : (toD B v).length ≤ n ↔ v < B ^ n :=
  ⟨fun h => Nat.lt_of_lt_of_le (toD_lt_pow hB v) (Nat.pow_le_pow_right (by omega) h), toD_len_le hB⟩

/-! ### Two bases: limbs of 64 bits, digits of 16 -/
def b64 : Nat := 18446744073709551616
def b16 : Nat := 65536
theorem b64_two : 2 ≤ b64 := by decide
theorem b16_two : 2 ≤ b16 := by decide
theorem b64_pow : b64 = b16 ^ 4 := by decide
/-- The number of limbs. -/
def num (l : List Int) : Nat := (val (b64 : Int) l).toNat
def num16 (l : List Int) : Nat := (val (b16 : Int) l).toNat
abbrev limbs (v : Nat) : List Int := toD b64 v
abbrev digs (v : Nat) : List Int := toD b16 v
theorem b64_pos : (0 : Int) < (b64 : Int) := by decide
theorem b16_pos : (0 : Int) < (b16 : Int) := by decide
theorem num_val {l : List Int} (h : Dig (b64 : Int) l) : (num l : Int) = val (b64 : Int) l := by
  have := val_nonneg b64_pos h
  unfold num; omega
theorem num16_val {l : List Int} (h : Dig (b16 : Int) l) : (num16 l : Int) = val (b16 : Int) l := by
  have := val_nonneg b16_pos h
  unfold num16; omega
theorem num_limbs (v : Nat) : num (limbs v) = v := by unfold num limbs; rw [val_toD b64_two]; omega
theorem num16_digs (v : Nat) : num16 (digs v) = v := by unfold num16 digs; rw [val_toD b16_two]; omega
theorem limbs_num {l : List Int} (h : Dig (b64 : Int) l) (hc : Can l) : limbs (num l) = l := (can_toD b64_two h hc).symm
theorem digs_num {l : List Int} (h : Dig (b16 : Int) l) (hc : Can l) : digs (num16 l) = l := (can_toD b16_two h hc).symm
theorem strip_limbs {l : List Int} (h : Dig (b64 : Int) l) : strip l = limbs (num l) := strip_toD b64_two h
theorem strip_digs {l : List Int} (h : Dig (b16 : Int) l) : strip l = digs (num16 l) := strip_toD b16_two h
theorem dig_of_wf {l : List Int} (h : ∀ x ∈ l, (Lit.int .u64 x).wf = true) : Dig (b64 : Int) l := fun x hx => wf_u64 (h x hx)
theorem num_lt {l : List Int} (h : Dig (b64 : Int) l) : num l < b64 ^ l.length := by
  have h1 := val_lt b64_pos h
  rw [← num_val h, pow_cast] at h1
  omega
theorem num_nil : num [] = 0 := rfl
theorem num_one {x : Int} (h : 0 ≤ x) : num [x] = x.toNat := by simp [num, val]
theorem num16_nil : num16 [] = 0 := rfl
theorem num_cons {d : Int} {l : List Int} (h : Dig (b64 : Int) (d :: l)) : num (d :: l) = d.toNat + b64 * num l := by
  have h1 := Dig.cons.1 h
  have h2 := num_val h
  have h3 := num_val h1.2
  have h4 : ((d.toNat + b64 * num l : Nat) : Int) = d + (b64 : Int) * val (b64 : Int) l := by
    rw [← h3]; simp; omega
  have h5 : val (b64 : Int) (d :: l) = d + (b64 : Int) * val (b64 : Int) l := rfl
  omega
/-- No number of ours comes to that. -/
def thousand : Nat := 1000
def lim : Nat := b64 ^ thousand
theorem lim_pow {n : Nat} (h : n ≤ 1000) : b64 ^ n ≤ lim := Nat.pow_le_pow_right (by decide) (show n ≤ thousand from h)
theorem num_lt_lim {l : List Int} (h : Dig (b64 : Int) l) (hl : l.length ≤ 1000) : num l < lim := Nat.lt_of_lt_of_le (num_lt h) (lim_pow hl)
theorem digs_len {v : Nat} (hv : v < lim) : (digs v).length ≤ 4000 := by
  have h : lim = b16 ^ (4 * thousand) := by
    unfold lim
    rw [b64_pow, ← Nat.pow_mul]
  rw [h] at hv
  have h2 := toD_len_le b16_two hv
  exact Nat.le_trans h2 (by decide)
theorem b64_pow2 (m : Nat) : b64 ^ m = 2 ^ (64 * m) := by
  have h : b64 = 2 ^ 64 := by decide
  rw [h, ← Nat.pow_mul]
theorem pow2_le_b64 {n m : Nat} (h : n ≤ 64 * m) : 2 ^ n ≤ b64 ^ m := by
  rw [b64_pow2]
  exact Nat.pow_le_pow_right (by decide) h
theorem b64_le_pow2 {n m : Nat} (h : 64 * m ≤ n) : b64 ^ m ≤ 2 ^ n := by
  rw [b64_pow2]
  exact Nat.pow_le_pow_right (by decide) h
theorem num_lt_p {a : List Int} (da : Dig (b64 : Int) a) (ha : a.length ≤ 64) : num a < b64 ^ 64 := Nat.lt_of_lt_of_le (num_lt da) (Nat.pow_le_pow_right (show b64 > 0 by decide) ha)
/-- Three ways. -/
def cmpN (x y : Nat) : Int := if x < y then -1 else if x = y then 0 else 1
/-- Too long an answer. -/
def toldV (v : Nat) : List Int × Int := if v < b64 ^ 64 then (limbs v, 0) else ([], 4)
theorem limbs_long (v : Nat) : (limbs v).length ≤ 64 ↔ v < b64 ^ 64 := toD_len_iff b64_two v 64
/-- The number of what a number's digits are, limb by limb. -/
theorem val_base (l : List Int) (hl : Dig (b64 : Int) l) : ∃ m, Dig (b16 : Int) m ∧ m.length = 4 * l.length ∧ val (b16 : Int) m = val (b64 : Int) l ∧ m = l.flatMap (fun x => [x % 65536, x / 65536 % 65536, x / 65536 / 65536 % 65536, x / 65536 / 65536 / 65536 % 65536]) := by
  induction l with
  | nil => exact ⟨[], Dig.nil, rfl, rfl, rfl⟩
  | cons d l ih =>
    have h1 := Dig.cons.1 hl
    obtain ⟨m, hm, hlen, hv, he⟩ := ih h1.2
    refine ⟨[d % 65536, d / 65536 % 65536, d / 65536 / 65536 % 65536, d / 65536 / 65536 / 65536 % 65536] ++ m, ?_, ?_, ?_, ?_⟩
    · refine Dig.append.2 ⟨?_, hm⟩
      intro x hx
      simp only [List.mem_cons, List.not_mem_nil, or_false] at hx
      simp only [b16]
      omega
    · simp only [List.length_append, List.length_cons, List.length_nil, hlen]; omega
    · rw [val_append, hv]
      have h2 := h1.1
      simp only [b64] at h2 ⊢
      simp only [val, b16, List.length_cons, List.length_nil]
      omega
    · simp only [List.flatMap_cons, ← he]
end Go.Proofs.Ytgeanpnkllnipac.Z
end

section
namespace Go.Proofs.Ytgeanpnkllnipac.Z
open Go.RowKit Go.Proofs.Ytgeanpnkllnipac.F Go.Proofs.YtgeanpnkllnipacW.PrintWords
set_option linter.unusedSimpArgs false
set_option linter.unusedVariables false
theorem nat_trim_loop (l : List Int) (h : l.length ≤ maxLen) : ∀ n : Nat, n ≤ l.length → Evt (fun k => nat_trim.l0 k l (n : Int)) (strip (l.take n)) := by
  unfold maxLen at h
  intro n
  induction n with
  | zero =>
    intro _
    refine Evt.succ ?_
    simp only [nat_trim.l0]
    refine Evt.ite_neg (by omega) (Evt.ite_pos (by omega) (Evt.ite_pos (by omega) ?_))
    simp [strip]
    exact Evt.pure _
  | succ n ih =>
    intro hn
    refine Evt.succ ?_
    simp only [nat_trim.l0]
    rw [w64 (by omega) (by omega), show ((n + 1 : Nat) : Int) - 1 = (n : Int) from by omega]
    refine Evt.ite_pos (by omega) (Evt.ite_pos (by omega) (Evt.ite_pos (by omega) ?_))
    rw [rd_nat, List.take_succ_eq_append_getElem (show n < l.length by omega)]
    have hg : l.getD n 0 = l[n] := by simp [show n < l.length by omega]
    rw [hg]
    by_cases h0 : l[n] = 0
    · rw [h0, strip_snoc_zero]
      exact Evt.ite_pos rfl (ih (by omega))
    · rw [strip_snoc h0]
      refine Evt.ite_neg h0 (Evt.ite_pos (by omega) (Evt.ite_pos (by omega) ?_))
      rw [← List.take_succ_eq_append_getElem (show n < l.length by omega)]
      exact Evt.pure _
theorem nat_trim_ev (l : List Int) (h : l.length ≤ maxLen) : Evt (fun k => nat_trim.f k l) (strip l) := by
  have := nat_trim_loop l h l.length (Nat.le_refl _)
  exact this.congr (fun k => rfl) (by rw [List.take_length])
end Go.Proofs.Ytgeanpnkllnipac.Z
end

section
namespace Go.Proofs.Ytgeanpnkllnipac.Z
open Go.RowKit Go.Proofs.Ytgeanpnkllnipac.F Go.Proofs.YtgeanpnkllnipacW.PrintWords
set_option linter.unusedSimpArgs false
set_option linter.unusedVariables false
theorem nat_told_ev (l : List Int) (h : l.length ≤ 1000000) (d : Dig (b64 : Int) l) : Evt (fun k => nat_told.f k l) (toldV (num l)) := by
  unfold nat_told.f toldV
  refine Evt.bind (nat_trim_ev l (by simp [maxLen]; omega)) ?_
  rw [strip_limbs d]
  have hl := limbs_long (num l)
  by_cases h1 : num l < b64 ^ 64
  · rw [if_pos h1]
    have := hl.2 h1
    exact Evt.ite_neg (by omega) (Evt.pure _)
  · rw [if_neg h1]
    have : ¬ (limbs (num l)).length ≤ 64 := fun hh => h1 (hl.1 hh)
    exact Evt.ite_pos (by omega) (Evt.pure _)
end Go.Proofs.Ytgeanpnkllnipac.Z
end

section
namespace Go.Proofs.Ytgeanpnkllnipac.Z
open Go.RowKit Go.Proofs.YtgeanpnkllnipacW.PrintWords
set_option linter.unusedSimpArgs false
set_option linter.unusedVariables false
end Go.Proofs.Ytgeanpnkllnipac.Z
end

section
namespace Go.Proofs.Ytgeanpnkllnipac.Z
open Go.RowKit Go.Proofs.Ytgeanpnkllnipac.F Go.Proofs.YtgeanpnkllnipacW.PrintWords
set_option linter.unusedSimpArgs false
set_option linter.unusedVariables false
theorem set_at {α : Type} (p : List α) (x v : α) (r : List α) : (p ++ x :: r).set p.length v = p ++ v :: r := by simp
end Go.Proofs.Ytgeanpnkllnipac.Z
end

section
namespace Go.Proofs.Ytgeanpnkllnipac.Z
open Go.RowKit Go.Proofs.Ytgeanpnkllnipac.F Go.Proofs.YtgeanpnkllnipacW.PrintWords Go.Proofs.YtgeanpnkllnipacW.PrintMore
set_option linter.unusedSimpArgs false
set_option linter.unusedVariables false
theorem val_set (B : Int) (l : List Int) : ∀ (i : Nat) (v : Int), i < l.length → val B (l.set i v) = val B l + B ^ i * (v - l.getD i 0) := by
  induction l with
  | nil => intro i v h; simp at h
  | cons d l ih =>
    intro i v h
    cases i with
    | zero => simp [val]; omega
    | succ i =>
      have h2 := ih i v (by simpa using h)
      simp only [List.set_cons_succ, val, h2, Int.pow_succ, List.getD_cons_succ]
      generalize l.getD i 0 = y
      generalize B ^ i = P
      generalize val B l = V
      grind
theorem getD_append_left {l m : List Int} {i : Nat} (h : i < l.length) : (l ++ m).getD i 0 = l.getD i 0 := by
  simp [List.getD_eq_getElem?_getD, List.getElem?_append_left h]
theorem set_append_left {l m : List Int} {i : Nat} {v : Int} (h : i < l.length) : (l ++ m).set i v = l.set i v ++ m := by
  rw [List.set_append, if_pos h]
theorem val_take_step (B : Int) (l : List Int) (i : Nat) (h : i < l.length) : val B (l.take (i + 1)) = val B (l.take i) + B ^ i * l[i] := by
  rw [List.take_succ_eq_append_getElem h, val_append]
  simp only [val, List.length_take]
  rw [show min i l.length = i from by omega, Int.mul_zero, Int.add_zero]
/-! ### Bits -/
theorem wraps_u64 (n : Int) (h0 : 0 ≤ n) (h1 : n < 2 ^ 64) : IntKind.u64.wrap n = n := wu64_of h0 (by omega)
theorem or_u64 {x y : Int} (s : Nat) (hs : s ≤ 64) (hx0 : 0 ≤ x) (hx : x % 2 ^ s = 0) (hx1 : x < 18446744073709551616) (hy0 : 0 ≤ y) (hy : y < 2 ^ s) : Go.bits .or .u64 x y = x + y := by
  have h2 : (2 : Int) ^ s ≤ 2 ^ 64 := pow_mono (by omega) hs
  exact bits_join .u64 64 (by decide) wraps_u64 s x y hx0 hx (by omega) hy0 hy (by omega)
theorem or_comm_u64 {x y : Int} (hx0 : 0 ≤ x) (hx1 : x < 18446744073709551616) (hy0 : 0 ≤ y) (hy1 : y < 18446744073709551616) : Go.bits .or .u64 x y = Go.bits .or .u64 y x := by
  obtain ⟨a, rfl⟩ := Int.eq_ofNat_of_zero_le hx0
  obtain ⟨b, rfl⟩ := Int.eq_ofNat_of_zero_le hy0
  rw [(bits_nat .u64 64 (by decide) wraps_u64 a b (by omega) (by omega)).2, (bits_nat .u64 64 (by decide) wraps_u64 b a (by omega) (by omega)).2, Nat.or_comm]
theorem shl_u64 (x : Int) (s : Nat) (hs : s ≤ 64) : shl .u64 x (s : Int) = (x * 2 ^ s) % 18446744073709551616 := by
  unfold shl
  rw [wu64]
  simp only [IntKind.bits, Int.toNat_natCast]
  rw [show min s 64 = s from by omega]
theorem shr_u64 (x : Int) (s : Nat) (hs : s ≤ 64) : shr .u64 x (s : Int) = x / 2 ^ s := by
  unfold shr
  simp only [IntKind.bits, Int.toNat_natCast]
  rw [show min s 64 = s from by omega]
theorem pow64_split {s : Nat} (hs : s ≤ 64) : (2 : Int) ^ s * 2 ^ (64 - s) = 18446744073709551616 := by
  rw [← Int.pow_add, show s + (64 - s) = 64 from by omega]
  decide
theorem pow2_pos (s : Nat) : (0 : Int) < 2 ^ s := Int.pow_pos (by omega)
/-- What a limb's bits, moved up, leave in the limb. -/
theorem shl_facts {x : Int} (hx : 0 ≤ x ∧ x < 18446744073709551616) {s : Nat} (hs : s ≤ 64) :
    (x * 2 ^ s) % 18446744073709551616 + 18446744073709551616 * (x / 2 ^ (64 - s)) = x * 2 ^ s ∧ ((x * 2 ^ s) % 18446744073709551616) % 2 ^ s = 0 ∧ 0 ≤ x / 2 ^ (64 - s) ∧ x / 2 ^ (64 - s) < 2 ^ s := by
  have hp := pow64_split hs
  have h1 := pow2_pos s
  have h2 := pow2_pos (64 - s)
  generalize (2 : Int) ^ s = P at *
  generalize (2 : Int) ^ (64 - s) = Q at *
  have h3 : (x * P) / 18446744073709551616 = x / Q := by
    rw [← hp, Int.mul_comm x P, Int.mul_ediv_mul_of_pos _ _ h1]
  refine ⟨?_, ?_, Int.ediv_nonneg hx.1 (by omega), ?_⟩
  · have := Int.emod_add_mul_ediv (x * P) 18446744073709551616
    rw [h3] at this
    exact this
  · rw [← hp]
    have := Int.mul_emod_mul_of_pos (a := P) x Q h1
    rw [Int.mul_comm x P, this]
    exact Int.mul_emod_right P _
  · apply Int.ediv_lt_of_lt_mul h2
    rw [hp]
    exact hx.2
end Go.Proofs.Ytgeanpnkllnipac.Z
end

section
namespace Go.Proofs.Ytgeanpnkllnipac.Z
open Go.RowKit Go.Proofs.YtgeanpnkllnipacW.PrintWords
set_option linter.unusedSimpArgs false
set_option linter.unusedVariables false
/-! ### The bytes of a number -/
end Go.Proofs.Ytgeanpnkllnipac.Z
end

section
namespace Go.Proofs.Ytgeanpnkllnipac.Z
open Go.RowKit Go.Proofs.YtgeanpnkllnipacW.PrintWords
set_option linter.unusedSimpArgs false
set_option linter.unusedVariables false
/-- May a modulus be? -/
def mayV (n : List Int) : Bool := rightB n && decide (n.length ≤ 8) && decide (3 ≤ num n)
def halfV (n : List Int) : Nat := (num n - 1) / 2
def intR (a : Bool) (l : List Int) : Bool := rightB l && (!a || decide (0 < l.length))
def fromV (a : Bool) (l : List Int) : Bool × List Int := if rightB l = true ∧ l.length ≠ 0 then (a, l) else (false, [])
def encV (n : List Int) (a : Bool) (x : List Int) : List Int × Int :=
  if mayV n = true ∧ intR a x = true then (if num x ≤ halfV n then (if a = true then (limbs (num n - num x), 0) else (x, 0)) else ([], 12)) else ([], 1)
def decV (n v : List Int) : Bool × List Int × Int :=
  if mayV n = true then (if rightB v = true ∧ num v < num n then (if num v ≤ halfV n then ((fromV false v).1, (fromV false v).2, 0) else ((fromV true (limbs (num n - num v))).1, (fromV true (limbs (num n - num v))).2, 0)) else (false, [], 10)) else (false, [], 1)
theorem dig_one {x : Int} (h0 : 0 ≤ x) (h1 : x < 18446744073709551616) : Dig (b64 : Int) [x] := Dig.cons.2 ⟨⟨h0, h1⟩, Dig.nil⟩
theorem right_one {x : Int} (h : x ≠ 0) : rightB [x] = true := (rightB_iff _).2 ⟨by simp, Can.one h⟩
theorem right_limbs' {v : Nat} (h : v < b64 ^ 64) : rightB (limbs v) = true := (rightB_iff _).2 ⟨(limbs_long v).2 h, toD_can b64_two v⟩
theorem dig_limbs' (v : Nat) : Dig (b64 : Int) (limbs v) := toD_dig b64_two v
theorem mayV_iff (n : List Int) : mayV n = true ↔ rightB n = true ∧ n.length ≤ 8 ∧ 3 ≤ num n := by
  unfold mayV
  simp [and_assoc]
theorem may_lt {n : List Int} (dn : Dig (b64 : Int) n) (h : mayV n = true) : num n < b64 ^ 64 := by
  obtain ⟨h1, h2, _⟩ := (mayV_iff n).1 h
  exact num_lt_p dn (by omega)
theorem limbs_le64 {v : Nat} (h : v < b64 ^ 64) : (limbs v).length ≤ 64 := (limbs_long v).2 h
theorem cmpN_ge (x y : Nat) : decide (cmpN x y ≥ 0) = decide (y ≤ x) := by
  unfold cmpN
  by_cases h : x < y
  · rw [if_pos h]; simp; omega
  · rw [if_neg h]; split <;> simp <;> omega
theorem cmpN_le (x y : Nat) : decide (cmpN x y ≤ 0) = decide (x ≤ y) := by
  unfold cmpN
  by_cases h : x < y
  · rw [if_pos h]; simp; omega
  · rw [if_neg h]
    by_cases h2 : x = y
    · rw [if_pos h2]; simp; omega
    · rw [if_neg h2]; simp; omega
theorem encV_len {n : List Int} {a : Bool} {x : List Int} (dn : Dig (b64 : Int) n) : (encV n a x).1.length ≤ 64 := by
  unfold encV
  by_cases h : mayV n = true ∧ intR a x = true
  · rw [if_pos h]
    by_cases h2 : num x ≤ halfV n
    · rw [if_pos h2]
      cases a with
      | true => rw [if_pos rfl]; exact limbs_le64 (Nat.lt_of_le_of_lt (Nat.sub_le _ _) (may_lt dn h.1))
      | false =>
        rw [if_neg (by simp)]
        have h3 := h.2
        unfold intR at h3
        simp only [Bool.not_false, Bool.true_or, Bool.and_true] at h3
        exact ((rightB_iff x).1 h3).1
    · rw [if_neg h2]; simp
  · rw [if_neg h]; simp
theorem fromV_len (a : Bool) (l : List Int) : (fromV a l).2.length ≤ 64 := by
  unfold fromV
  by_cases h : rightB l = true ∧ l.length ≠ 0
  · rw [if_pos h]; exact ((rightB_iff l).1 h.1).1
  · rw [if_neg h]; simp
theorem decV_len (n v : List Int) : (decV n v).2.1.length ≤ 64 := by
  unfold decV
  split
  · split
    · split
      · exact fromV_len _ _
      · exact fromV_len _ _
    · simp
  · simp
end Go.Proofs.Ytgeanpnkllnipac.Z
end

section
namespace Go.Proofs.Ytgeanpnkllnipac.Z
open Go.RowKit Go.Proofs.Ytgeanpnkllnipac.F Go.Proofs.YtgeanpnkllnipacW.PrintWords
set_option linter.unusedSimpArgs false
set_option linter.unusedVariables false
theorem nat_Right_eq {l : List Int} (h : l.length ≤ maxLen) : nat_Right.f l = some (rightB l) := by
  unfold maxLen at h
  unfold nat_Right.f rightB
  by_cases h1 : l.length ≤ 64
  · rw [if_pos (by omega)]
    by_cases h2 : l.length = 0
    · rw [if_pos (by omega)]
      simp [h1, h2]
    · rw [if_neg (by omega), w64 (by omega) (by omega), if_pos (by omega), if_pos (by omega), rd_getD]
      rw [show ((l.length : Int) - 1).toNat = l.length - 1 from by omega]
      have h3 : (l.length == 0) = false := by simpa using h2
      rw [h3]
      simp [h1]
  · rw [if_neg (by omega)]
    simp [h1]
end Go.Proofs.Ytgeanpnkllnipac.Z
end

section
namespace Go.Proofs.Ytgeanpnkllnipac.Z
open Go.RowKit Go.Proofs.YtgeanpnkllnipacW.PrintWords Go.Proofs.YtgeanpnkllnipacW.PrintMore
set_option linter.unusedSimpArgs false
set_option linter.unusedVariables false
/-- Limbs moved down by less than a limb's bits. -/
def downL (s : Nat) : List Int → List Int
  | [] => []
  | x :: l => (x / 2 ^ s + (if s = 0 then 0 else (l.getD 0 0 * 2 ^ (64 - s)) % 18446744073709551616)) :: downL s l
theorem downL_facts (s : Nat) (hs : s < 64) (l : List Int) (d : Dig (b64 : Int) l) : Dig (b64 : Int) (downL s l) ∧ (downL s l).length = l.length ∧ val (b64 : Int) (downL s l) * 2 ^ s + l.getD 0 0 % 2 ^ s = val (b64 : Int) l := by
  have hB : (b64 : Int) = 18446744073709551616 := rfl
  have hps := pow2_pos s
  induction l with
  | nil => exact ⟨Dig.nil, rfl, by simp [downL, val]⟩
  | cons x l ih =>
    have d1 := Dig.cons.1 d
    obtain ⟨i1, i2, i3⟩ := ih d1.2
    have rx := d1.1
    have ry := d1.2.getD b64_pos 0
    rw [hB] at rx ry
    by_cases h0 : s = 0
    · subst h0
      simp only [downL, Int.pow_zero, Int.ediv_one, if_true, Int.add_zero] at i3 ⊢
      refine ⟨Dig.cons.2 ⟨by rw [hB]; exact rx, i1⟩, by simp [i2], ?_⟩
      simp only [val, List.getD_cons_zero, Int.emod_one, Int.add_zero, Int.mul_one] at i3 ⊢
      rw [i3]
    · have hp64 := pow64_split (s := s) (by omega)
      have hq := pow2_pos (64 - s)
      obtain ⟨f1, f2, f3, f4⟩ := shl_facts ry (s := 64 - s) (by omega)
      rw [show 64 - (64 - s) = s from by omega] at f1 f3 f4
      simp only [downL, if_neg h0]
      have e1 := Int.emod_add_mul_ediv x (2 ^ s)
      have e2 := Int.emod_nonneg x (show (2 : Int) ^ s ≠ 0 by omega)
      have e3 := Int.emod_lt_of_pos x hps
      have e4 := Int.emod_add_mul_ediv (l.getD 0 0) (2 ^ s)
      generalize hz : (l.getD 0 0 * 2 ^ (64 - s)) % 18446744073709551616 = z at *
      generalize hxd : x / 2 ^ s = xd at *
      generalize hyd : l.getD 0 0 / 2 ^ s = yd at *
      generalize l.getD 0 0 = y at *
      have hxd1 : xd < 2 ^ (64 - s) := by
        rw [← hxd]
        apply Int.ediv_lt_of_lt_mul hps
        rw [Int.mul_comm, hp64]
        exact rx.2
      have hxd0 : 0 ≤ xd := by rw [← hxd]; exact Int.ediv_nonneg rx.1 (by omega)
      obtain ⟨t, ht⟩ := Int.dvd_of_emod_eq_zero f2
      have hz0 : 0 ≤ z := by omega
      have hz1 : z < 18446744073709551616 := by omega
      refine ⟨Dig.cons.2 ⟨?_, i1⟩, by simp [i2], ?_⟩
      · rw [hB]
        refine ⟨by omega, ?_⟩
        have ht2 : t < 2 ^ s := by
          refine Int.not_le.1 (fun hle => ?_)
          have := Int.mul_le_mul_of_nonneg_left hle (Int.le_of_lt hq)
          rw [Int.mul_comm ((2 : Int) ^ (64 - s)) (2 ^ s), hp64] at this
          omega
        have h5 : 2 ^ (64 - s) * (t + 1) ≤ (2 : Int) ^ (64 - s) * 2 ^ s := Int.mul_le_mul_of_nonneg_left (by omega) (by omega)
        rw [Int.mul_comm ((2 : Int) ^ (64 - s)) (2 ^ s), hp64, Int.mul_add] at h5
        omega
      · simp only [val, List.getD_cons_zero]
        rw [hB] at i3 ⊢
        generalize val 18446744073709551616 (downL s l) = vd at *
        generalize val 18446744073709551616 l = vl at *
        generalize x % 2 ^ s = xm at *
        generalize y % 2 ^ s = ym at *
        have hP : (2 : Int) ^ (64 - s) * 2 ^ s = 18446744073709551616 := by rw [Int.mul_comm]; exact hp64
        generalize (2 : Int) ^ s = P at *
        generalize (2 : Int) ^ (64 - s) = Q at *
        have e5 : (xd + z + 18446744073709551616 * vd) * P + xm = P * xd + xm + (z * P + 18446744073709551616 * (vd * P)) := by grind
        rw [e5]
        have e6 : z = y * Q - 18446744073709551616 * yd := by omega
        have e7 : z * P = 18446744073709551616 * ym := by
          rw [e6, ← e4, ← hP]
          grind
        rw [e7]
        omega
theorem num_drop {a : List Int} (da : Dig (b64 : Int) a) (m : Nat) (hm : m ≤ a.length) : num (a.drop m) = num a / b64 ^ m := by
  have h1 := num_val da
  have h2 := num_val (da.drop m)
  have h3 := num_val (da.take m)
  have h4 := num_lt (da.take m)
  have h5 := val_append (b64 : Int) (a.take m) (a.drop m)
  rw [List.take_append_drop, ← h1, ← h2, ← h3, List.length_take, show min m a.length = m from by omega, pow_cast] at h5
  rw [List.length_take, show min m a.length = m from by omega] at h4
  have h6 : num a = num (a.take m) + b64 ^ m * num (a.drop m) := by
    have : ((num (a.take m) + b64 ^ m * num (a.drop m) : Nat) : Int) = (num (a.take m) : Int) + ((b64 ^ m : Nat) : Int) * (num (a.drop m) : Int) := by simp
    omega
  rw [h6, Nat.add_mul_div_left _ _ (Nat.pow_pos (by decide)), Nat.div_eq_of_lt h4, Nat.zero_add]
theorem num_down {a : List Int} (da : Dig (b64 : Int) a) (s : Nat) (hs : s < 64) : num (downL s a) = num a / 2 ^ s := by
  obtain ⟨d, _, e⟩ := downL_facts s hs a da
  have h1 := num_val d
  have h2 := num_val da
  have hp := pow2_pos s
  have hr0 := Int.emod_nonneg (a.getD 0 0) (show (2 : Int) ^ s ≠ 0 by omega)
  have hr1 := Int.emod_lt_of_pos (a.getD 0 0) hp
  rw [← h1, ← h2] at e
  generalize a.getD 0 0 % 2 ^ s = r at *
  obtain ⟨r', rfl⟩ := Int.eq_ofNat_of_zero_le hr0
  have hP : (2 : Int) ^ s = ((2 ^ s : Nat) : Int) := by simp
  rw [hP] at e hr1
  have e2 : num a = r' + 2 ^ s * num (downL s a) := by
    have : ((r' + 2 ^ s * num (downL s a) : Nat) : Int) = (r' : Int) + ((2 ^ s : Nat) : Int) * (num (downL s a) : Int) := by simp
    rw [Int.mul_comm] at e
    omega
  rw [e2, Nat.add_mul_div_left _ _ (Nat.pow_pos (by decide)), Nat.div_eq_of_lt (by omega), Nat.zero_add]
end Go.Proofs.Ytgeanpnkllnipac.Z
end

section
namespace Go.Proofs.Ytgeanpnkllnipac.Z
open Go.RowKit Go.Proofs.Ytgeanpnkllnipac.F Go.Proofs.YtgeanpnkllnipacW.PrintWords Go.Proofs.YtgeanpnkllnipacW.PrintMore
set_option linter.unusedSimpArgs false
set_option linter.unusedVariables false
def shrV (a : List Int) (n : Int) : List Int × Int :=
  if rightB a = true ∧ 0 ≤ n then (limbs (num a / 2 ^ n.toNat), 0) else ([], 1)
theorem nat_Shr_loop (a : List Int) (da : Dig (b64 : Int) a) (ha : a.length ≤ 100000) (s : Nat) (hs : s < 64) {r : List Int × Int} (fin : Evt (fun k => nat_told.f k (downL s a)) r) (n : Nat) :
    ∀ (i : Nat) (p : List Int), a.length - i = n → i ≤ a.length → p.length = i → p ++ downL s (a.drop i) = downL s a →
      Evt (fun k => nat_Shr.l0 k a (s : Int) (p ++ List.replicate n 0) (a.length : Int) (i : Int)) (r.1, r.2) := by
  induction n with
  | zero =>
    intro i p hn hi hp he
    refine Evt.succ ?_
    simp only [nat_Shr.l0]
    refine Evt.ite_neg (by omega) ?_
    rw [List.drop_of_length_le (by omega)] at he
    simp only [downL, List.append_nil] at he
    rw [List.replicate_zero, List.append_nil, he]
    exact Evt.bind fin (h := fun t _ => some (t.1, t.2)) (Evt.pure _)
  | succ n ih =>
    intro i p hn hi hp he
    have hlt : i < a.length := by omega
    have rx := da a[i] (List.getElem_mem hlt)
    have ry := (da.drop (i + 1)).getD b64_pos 0
    have hB : (b64 : Int) = 18446744073709551616 := rfl
    rw [hB] at rx ry
    rw [List.drop_eq_getElem_cons hlt] at he
    simp only [downL] at he
    have hx : rd a (i : Int) = a[i] := by simp [rd_nat, hlt]
    refine Evt.succ ?_
    simp only [nat_Shr.l0]
    refine Evt.ite_pos (by omega) (Evt.ite_pos (by omega) (Evt.ite_pos (by omega) (Evt.ite_pos (by omega) (Evt.ite_pos (by simp; omega) ?_))))
    refine Evt.bind (Evt.pure _) ?_
    rw [hx, shr_u64 _ s (by omega), show ((i : Int)).toNat = p.length from by omega, List.replicate_succ, set_at, w64 (show -9223372036854775808 ≤ (i : Int) + 1 by omega) (by omega)]
    have hps := pow2_pos s
    have hxd0 : 0 ≤ a[i] / 2 ^ s := Int.ediv_nonneg rx.1 (by omega)
    by_cases h0 : s = 0
    · refine Evt.ite_neg (by omega) ?_
      rw [if_pos h0, Int.add_zero] at he
      refine (ih (i + 1) (p ++ [a[i] / 2 ^ s]) (by omega) (by omega) (by simp; omega) (by rw [List.append_assoc]; exact he)).congr (fun k => ?_) rfl
      rw [List.append_assoc]; rfl
    · refine Evt.ite_pos (by omega) ?_
      rw [if_neg h0] at he
      by_cases h1 : i + 1 < a.length
      · refine Evt.ite_pos (by omega) (Evt.ite_pos (by omega) (Evt.ite_pos (by rw [wu64_of (by omega) (by omega)]; omega) ?_))
        have hy : rd a ((i : Int) + 1) = a[i + 1] := by
          rw [show (i : Int) + 1 = ((i + 1 : Nat) : Int) from by omega, rd_nat]
          simp [List.getD_eq_getElem?_getD, h1]
        have hy2 : (a.drop (i + 1)).getD 0 0 = a[i + 1] := by simp [List.getD_eq_getElem?_getD, h1]
        have hg : rd (p ++ a[i] / 2 ^ s :: List.replicate n 0) (i : Int) = a[i] / 2 ^ s := by
          rw [rd_nat]
          simp [List.getD_eq_getElem?_getD, ← hp]
        rw [hy2] at he ry
        obtain ⟨f1, f2, f3, f4⟩ := shl_facts ry (s := 64 - s) (by omega)
        have hxd1 : a[i] / 2 ^ s < 2 ^ (64 - s) := by
          apply Int.ediv_lt_of_lt_mul hps
          rw [Int.mul_comm, pow64_split (by omega)]
          exact rx.2
        have hz0 : 0 ≤ (a[i + 1] * 2 ^ (64 - s)) % 18446744073709551616 := by omega
        have hz1 : (a[i + 1] * 2 ^ (64 - s)) % 18446744073709551616 < 18446744073709551616 := by omega
        have hq64 : (2 : Int) ^ (64 - s) ≤ 2 ^ 64 := pow_mono (by omega) (by omega)
        rw [hy, hg, wu64_of (show (0 : Int) ≤ 64 - (s : Int) by omega) (by omega), show (64 : Int) - (s : Int) = ((64 - s : Nat) : Int) from by omega, shl_u64 _ (64 - s) (by omega), set_at, or_comm_u64 hxd0 (by omega) hz0 hz1, or_u64 (64 - s) (by omega) hz0 f2 hz1 hxd0 hxd1]
        refine (ih (i + 1) (p ++ [(a[i + 1] * 2 ^ (64 - s)) % 18446744073709551616 + a[i] / 2 ^ s]) (by omega) (by omega) (by simp; omega) (by rw [List.append_assoc, Int.add_comm ((a[i + 1] * 2 ^ (64 - s)) % 18446744073709551616)]; exact he)).congr (fun k => ?_) rfl
        rw [List.append_assoc]; rfl
      · refine Evt.ite_neg (by omega) ?_
        have hy2 : (a.drop (i + 1)).getD 0 0 = 0 := by rw [List.drop_of_length_le (by omega)]; rfl
        rw [hy2, Int.zero_mul, Int.zero_emod, Int.add_zero] at he
        refine (ih (i + 1) (p ++ [a[i] / 2 ^ s]) (by omega) (by omega) (by simp; omega) (by rw [List.append_assoc]; exact he)).congr (fun k => ?_) rfl
        rw [List.append_assoc]; rfl
theorem nat_Shr_ev (a : List Int) (n : Int) (ha : a.length ≤ maxLen) (da : Dig (b64 : Int) a) (hn9 : n < 9223372036854775808) : Evt (fun k => nat_Shr.f k a n) (shrV a n) := by
  unfold nat_Shr.f shrV
  rw [nat_Right_eq ha]
  simp only [Option.bind_some]
  have J : ∀ x : Bool, (x = false → rightB a = true ∧ 0 ≤ n) → Evt (fun k => nat_Shr.j0 k a n x) (if x = true then ([], 1) else (limbs (num a / 2 ^ n.toNat), 0)) := by
    intro x hx
    refine Evt.succ ?_
    simp only [nat_Shr.j0]
    refine Evt.cond (fun _ => Evt.pure _) (fun hc => ?_)
    have h := hx (by simpa using hc)
    obtain ⟨h1, c1⟩ := (rightB_iff a).1 h.1
    obtain ⟨m, rfl⟩ := Int.eq_ofNat_of_zero_le h.2
    rw [show ((m : Int)).toNat = m from Int.toNat_natCast m]
    have e1 : Int.tdiv (m : Int) 64 = ((m / 64 : Nat) : Int) := by rw [Int.tdiv_eq_ediv_of_nonneg (by omega)]; omega
    rw [e1, w64 (show -9223372036854775808 ≤ ((m / 64 : Nat) : Int) by omega) (by omega)]
    have hp := num_lt_p da h1
    by_cases hlen : a.length ≤ m / 64
    · have e : num a / 2 ^ m = 0 := by
        apply Nat.div_eq_of_lt
        exact Nat.lt_of_lt_of_le (num_lt da) (b64_le_pow2 (by omega))
      rw [e, show limbs 0 = [] from toD_zero b64]
      exact Evt.ite_pos (by omega) (Evt.pure _)
    · have e2 : IntKind.u64.wrap (Int.tmod (m : Int) 64) = ((m % 64 : Nat) : Int) := by
        rw [Int.tmod_eq_emod_of_nonneg (by omega), wu64_of (by omega) (by omega)]; omega
      rw [e2, Int.toNat_natCast]
      refine Evt.ite_neg (by omega) (Evt.ite_pos (by omega) (Evt.ite_pos (by omega) (Evt.ite_pos (by omega) (Evt.ite_pos (by simp; omega) ?_))))
      have dd := da.drop (m / 64)
      obtain ⟨g1, g2, g3⟩ := downL_facts (m % 64) (by omega) (a.drop (m / 64)) dd
      have hnum : num (downL (m % 64) (a.drop (m / 64))) = num a / 2 ^ m := by
        rw [num_down dd _ (by omega), num_drop da _ (by omega), b64_pow2, Nat.div_div_eq_div_mul, ← Nat.pow_add, show 64 * (m / 64) + m % 64 = m from by omega]
      have h3 : num a / 2 ^ m ≤ num a := Nat.div_le_self _ _
      have ht := nat_told_ev (downL (m % 64) (a.drop (m / 64))) (by rw [g2]; simp; omega) g1
      have e : toldV (num a / 2 ^ m) = (limbs (num a / 2 ^ m), 0) := if_pos (Nat.lt_of_le_of_lt h3 hp)
      rw [hnum, e] at ht
      refine (nat_Shr_loop (a.drop (m / 64)) dd (by simp; omega) (m % 64) (by omega) ht (a.drop (m / 64)).length 0 [] (by omega) (by omega) rfl (by simp)).congr (fun k => ?_) rfl
      rw [Int.toNat_natCast]
      rfl
  cases hA : rightB a with
  | true =>
    refine Evt.ite_pos rfl ((J _ (fun h => ⟨hA, by simpa using h⟩)).congr (fun k => rfl) ?_)
    by_cases hn : n < 0
    · rw [decide_eq_true hn, if_pos rfl, if_neg (show ¬ (true = true ∧ 0 ≤ n) by omega)]
    · rw [decide_eq_false hn, if_neg (by simp), if_pos (show true = true ∧ 0 ≤ n from ⟨rfl, by omega⟩)]
  | false =>
    refine Evt.ite_neg (by simp) ((J _ (fun h => by simp at h)).congr (fun k => rfl) ?_)
    simp
end Go.Proofs.Ytgeanpnkllnipac.Z
end

section
namespace Go.Proofs.Ytgeanpnkllnipac.Z
open Go.RowKit Go.Proofs.Ytgeanpnkllnipac.F Go.Proofs.YtgeanpnkllnipacW.PrintWords Go.Proofs.YtgeanpnkllnipacW.PrintMore
set_option linter.unusedSimpArgs false
set_option linter.unusedVariables false
def bitV (a : List Int) (i : Int) : Bool := rightB a && decide (0 ≤ i) && decide (i / 64 < a.length) && ((a.getD (i.toNat / 64) 0 / 2 ^ (i.toNat % 64)) % 2 == 1)
theorem and_one {x : Int} (h0 : 0 ≤ x) (h1 : x < 18446744073709551616) : Go.bits .and .u64 x 1 = x % 2 := bits_mask .u64 64 (by decide) wraps_u64 1 (by decide) x h0 (by omega)
theorem nat_Bit_eq (a : List Int) (i : Int) (ha : a.length ≤ maxLen) (da : Dig (b64 : Int) a) (hi : i < 9223372036854775808) : nat_Bit.f a i = some (bitV a i) := by
  unfold nat_Bit.f bitV
  rw [nat_Right_eq ha]
  simp only [Option.bind_some]
  cases hA : rightB a with
  | false => simp
  | true =>
    rw [if_pos rfl]
    by_cases h0 : 0 ≤ i
    · obtain ⟨n, rfl⟩ := Int.eq_ofNat_of_zero_le h0
      rw [if_pos (by omega), Int.tdiv_eq_ediv_of_nonneg (by omega), Int.tmod_eq_emod_of_nonneg (by omega), w64 (by omega) (by omega)]
      by_cases h1 : (n : Int) / 64 < a.length
      · rw [if_pos h1, if_pos (by omega), if_pos (by omega)]
        rw [rd_getD, show ((n : Int) / 64).toNat = n / 64 from by omega, show (n : Int) % 64 = ((n % 64 : Nat) : Int) from by omega, shr_u64 _ _ (by omega), Int.toNat_natCast]
        have hr := da.getD b64_pos (n / 64)
        simp only [b64] at hr
        have hp := pow2_pos (n % 64)
        have h5 := Int.ediv_nonneg hr.1 (Int.le_of_lt hp)
        have h6 := Int.ediv_le_self (2 ^ (n % 64)) hr.1
        rw [and_one h5 (by omega)]
        simp [h1]
      · rw [if_neg h1]
        simp [h1]
    · rw [if_neg (by omega)]
      simp [h0]
end Go.Proofs.Ytgeanpnkllnipac.Z
end

section
namespace Go.Proofs.Ytgeanpnkllnipac.Z
open Go.RowKit Go.Proofs.Ytgeanpnkllnipac.F Go.Proofs.YtgeanpnkllnipacW.PrintWords
set_option linter.unusedSimpArgs false
set_option linter.unusedVariables false
theorem carry_of {c : Int} (h : c = 0 ∨ c = 1) : carry01 c = true := decide_eq_true h
end Go.Proofs.Ytgeanpnkllnipac.Z
end

section
namespace Go.Proofs.Ytgeanpnkllnipac.Z
open Go.RowKit Go.Proofs.Ytgeanpnkllnipac.F Go.Proofs.YtgeanpnkllnipacW.PrintWords
set_option linter.unusedSimpArgs false
set_option linter.unusedVariables false
/-- A difference, limb by limb, with what is borrowed. -/
def lessL : List Int → List Int → Int → List Int
  | [], _, _ => []
  | x :: a, b, c => sub64_s x (b.getD 0 0) c :: lessL a (b.drop 1) (sub64_c x (b.getD 0 0) c)
theorem sub64_facts {x y c : Int} (hx : 0 ≤ x ∧ x < (b64 : Int)) (hy : 0 ≤ y ∧ y < (b64 : Int)) (hc : c = 0 ∨ c = 1) :
    sub64_s x y c - (b64 : Int) * sub64_c x y c = x - y - c ∧ (0 ≤ sub64_s x y c ∧ sub64_s x y c < (b64 : Int)) ∧ (sub64_c x y c = 0 ∨ sub64_c x y c = 1) := by
  unfold sub64_s sub64_c
  simp only [b64] at *
  by_cases h : x.toNat < y.toNat + c.toNat
  · rw [if_pos h]; omega
  · rw [if_neg h]; omega
theorem lessL_len : ∀ (a b : List Int) (c : Int), (lessL a b c).length = a.length := by
  intro a
  induction a with
  | nil => intro b c; rfl
  | cons z x ih => intro b c; simp only [lessL, List.length_cons, ih]
theorem lessL_facts : ∀ (a b : List Int) (c : Int), Dig (b64 : Int) a → Dig (b64 : Int) b → b.length ≤ a.length → (c = 0 ∨ c = 1) →
    Dig (b64 : Int) (lessL a b c) ∧ ∃ t, 0 ≤ t ∧ val (b64 : Int) (lessL a b c) = val (b64 : Int) a - val (b64 : Int) b - c + (b64 : Int) ^ a.length * t := by
  intro a
  induction a with
  | nil =>
    intro b c _ _ hlen hc
    have : b = [] := List.length_eq_zero_iff.1 (by simpa using hlen)
    subst this
    exact ⟨Dig.nil, c, by omega, by simp [lessL, val]; omega⟩
  | cons x a ih =>
    intro b c da db hlen hc
    have d1 := Dig.cons.1 da
    have hy := db.getD b64_pos 0
    obtain ⟨e1, e2, e3⟩ := sub64_facts d1.1 hy hc
    obtain ⟨i1, t, ht, i2⟩ := ih (b.drop 1) _ d1.2 (db.drop 1) (by simp at hlen ⊢; omega) e3
    refine ⟨Dig.cons.2 ⟨e2, i1⟩, t, ht, ?_⟩
    simp only [lessL, val]
    rw [i2]
    have hb : val (b64 : Int) b = b.getD 0 0 + (b64 : Int) * val (b64 : Int) (b.drop 1) := by
      cases b with
      | nil => simp [val]
      | cons y b => simp [val]
    rw [hb]
    generalize (b64 : Int) = B at *
    generalize sub64_s x (b.getD 0 0) c = s at *
    generalize sub64_c x (b.getD 0 0) c = u at *
    generalize val B a = va at *
    generalize val B (b.drop 1) = vb at *
    generalize b.getD 0 0 = y at *
    rw [List.length_cons, Int.pow_succ]
    generalize B ^ a.length = P at *
    have h1 : B * (va - vb - u + P * t) = B * va - B * vb - B * u + P * B * t := by grind
    omega
theorem nat_less_l0 (a b : List Int) (ha : a.length ≤ 1000) (hb : b.length ≤ 1000) (da : Dig (b64 : Int) a) (db : Dig (b64 : Int) b) (n : Nat) : ∀ (i : Nat) (p : List Int) (c : Int), p.length = i → i ≤ a.length → a.length - i = n → (c = 0 ∨ c = 1) →
    Evt (fun k => nat_less.l0 k a b (p ++ List.replicate n 0) c (a.length : Int) (i : Int)) (p ++ lessL (a.drop i) (b.drop i) c) := by
  induction n with
  | zero =>
    intro i p c hp hi hn hc
    refine Evt.succ ?_
    simp only [nat_less.l0]
    refine Evt.ite_neg (by omega) ?_
    rw [List.drop_of_length_le (show a.length ≤ i by omega)]
    simp only [lessL, List.replicate_zero]
    exact Evt.pure _
  | succ n ih =>
    intro i p c hp hi hn hc
    have hlt : i < a.length := by omega
    refine Evt.succ ?_
    simp only [nat_less.l0]
    refine Evt.ite_pos (by omega) ?_
    have hx : rd a (i : Int) = a[i] := by simp [rd_nat, hlt]
    have hxr := da a[i] (List.getElem_mem hlt)
    have hset : ∀ v : Int, (p ++ List.replicate (n + 1) 0).set ((i : Int)).toNat v = (p ++ [v]) ++ List.replicate n 0 := by
      intro v
      rw [show ((i : Int)).toNat = p.length from by omega, List.replicate_succ, set_at, List.append_assoc]
      rfl
    have hyr := (db.drop i).getD b64_pos 0
    have hfin : ∀ y : Int, y = (b.drop i).getD 0 0 → Evt (fun k => nat_less.l0 k a b ((p ++ List.replicate (n + 1) 0).set ((i : Int)).toNat (sub64_s (rd a (i : Int)) y c)) (sub64_c (rd a (i : Int)) y c) (a.length : Int) (wrap64 ((i : Int) + 1))) (p ++ lessL (a.drop i) (b.drop i) c) := by
      intro y hy
      subst hy
      obtain ⟨e1, e2, e3⟩ := sub64_facts hxr hyr hc
      rw [hx, hset, w64 (by omega) (by omega)]
      have h := ih (i + 1) (p ++ [sub64_s a[i] ((b.drop i).getD 0 0) c]) (sub64_c a[i] ((b.drop i).getD 0 0) c) (by simp [hp]) (by omega) (by omega) e3
      refine h.congr (fun k => rfl) ?_
      rw [List.drop_eq_getElem_cons hlt]
      simp only [lessL, List.drop_drop, List.append_assoc, List.singleton_append]
    by_cases hib : i < b.length
    · refine Evt.ite_pos (by omega) (Evt.ite_pos (by omega) (Evt.ite_pos (by omega) (Evt.ite_pos (carry_of hc) (Evt.ite_pos (by simp; omega) ?_))))
      refine hfin _ ?_
      simp [rd_nat, hib]
    · refine Evt.ite_neg (by omega) (Evt.ite_pos (by omega) (Evt.ite_pos (by omega) (Evt.ite_pos (carry_of hc) (Evt.ite_pos (by simp; omega) ?_))))
      refine hfin _ ?_
      simp [List.drop_of_length_le (show b.length ≤ i by omega)]
theorem nat_less_ev (a b : List Int) (ha : a.length ≤ 1000) (hb : b.length ≤ a.length) (da : Dig (b64 : Int) a) (db : Dig (b64 : Int) b) (hle : num b ≤ num a) : ∃ s, Evt (fun k => nat_less.f k a b) s ∧ Dig (b64 : Int) s ∧ num s = num a - num b ∧ s.length = a.length := by
  refine ⟨lessL a b 0, ?_, ?_⟩
  · unfold nat_less.f
    refine Evt.ite_pos (by omega) (Evt.ite_pos (by omega) ?_)
    have h := nat_less_l0 a b ha (by omega) da db a.length 0 [] 0 rfl (Nat.zero_le _) (by omega) (Or.inl rfl)
    exact h.congr (fun k => by simp) (by simp)
  · obtain ⟨f1, t, ht, f2⟩ := lessL_facts a b 0 da db hb (Or.inl rfl)
    refine ⟨f1, ?_, lessL_len a b 0⟩
    have h1 := num_val f1
    have h2 := num_val da
    have h3 := num_val db
    have h4 := num_lt f1
    rw [lessL_len] at h4
    rw [pow_cast] at f2
    have ht0 : t = 0 := by
      by_cases e : t = 0
      · exact e
      · have h5 : ((b64 ^ a.length : Nat) : Int) * 1 ≤ ((b64 ^ a.length : Nat) : Int) * t := Int.mul_le_mul_of_nonneg_left (by omega) (by omega)
        omega
    subst ht0
    rw [Int.mul_zero] at f2
    omega
end Go.Proofs.Ytgeanpnkllnipac.Z
end

section
namespace Go.Proofs.Ytgeanpnkllnipac.Z
open Go.RowKit Go.Proofs.Ytgeanpnkllnipac.F Go.Proofs.YtgeanpnkllnipacW.PrintWords
set_option linter.unusedSimpArgs false
set_option linter.unusedVariables false
/-- The first i digits, the highest compared first. -/
def cmpL (B : Int) (l m : List Int) : Int := if val B l < val B m then -1 else if val B l = val B m then 0 else 1
theorem val_take_succ (B : Int) (l : List Int) (i : Nat) (h : i < l.length) : val B (l.take (i + 1)) = val B (l.take i) + B ^ i * l[i] := by
  rw [List.take_succ_eq_append_getElem h, val_append]
  simp only [val, List.length_take]
  rw [show min i l.length = i from by omega, Int.mul_zero, Int.add_zero]
theorem cmp_step {B : Int} (hB : 0 < B) {l m : List Int} (hl : Dig B l) (hm : Dig B m) (i : Nat) (h1 : i < l.length) (h2 : i < m.length) :
    (l[i] < m[i] → cmpL B (l.take (i + 1)) (m.take (i + 1)) = -1) ∧ (m[i] < l[i] → cmpL B (l.take (i + 1)) (m.take (i + 1)) = 1) ∧ (l[i] = m[i] → cmpL B (l.take (i + 1)) (m.take (i + 1)) = cmpL B (l.take i) (m.take i)) := by
  have a1 := val_nonneg hB (hl.take i)
  have a2 := val_nonneg hB (hm.take i)
  have b1 := val_lt hB (hl.take i)
  have b2 := val_lt hB (hm.take i)
  rw [List.length_take, show min i l.length = i from by omega] at b1
  rw [List.length_take, show min i m.length = i from by omega] at b2
  have hp : 0 < B ^ i := Int.pow_pos hB
  unfold cmpL
  rw [val_take_succ B l i h1, val_take_succ B m i h2]
  refine ⟨fun h => ?_, fun h => ?_, fun h => ?_⟩
  · have h3 : B ^ i * (l[i] + 1) ≤ B ^ i * m[i] := Int.mul_le_mul_of_nonneg_left (by omega) (by omega)
    rw [Int.mul_add, Int.mul_one] at h3
    rw [if_pos (by omega)]
  · have h3 : B ^ i * (m[i] + 1) ≤ B ^ i * l[i] := Int.mul_le_mul_of_nonneg_left (by omega) (by omega)
    rw [Int.mul_add, Int.mul_one] at h3
    rw [if_neg (by omega), if_neg (by omega)]
  · rw [h]
    by_cases c1 : val B (l.take i) < val B (m.take i)
    · rw [if_pos c1, if_pos (by omega)]
    · by_cases c2 : val B (l.take i) = val B (m.take i)
      · rw [if_neg c1, if_pos c2, if_neg (by omega), if_pos (by omega)]
      · rw [if_neg c1, if_neg c2, if_neg (by omega), if_neg (by omega)]
theorem ref_compare_loop {B : Int} (hB : 0 < B) (l m : List Int) (hl : Dig B l) (hm : Dig B m) (hlen : l.length = m.length) (hb : l.length ≤ 1000000) : ∀ i : Nat, i ≤ l.length → Evt (fun k => windbreakref01_compare.l0 k l m ((i : Int) - 1)) (cmpL B (l.take i) (m.take i)) := by
  intro i
  induction i with
  | zero =>
    intro _
    refine Evt.succ ?_
    simp only [windbreakref01_compare.l0]
    refine Evt.ite_neg (by omega) ?_
    exact Evt.pure _
  | succ i ih =>
    intro hi
    have h1 : i < l.length := by omega
    have h2 : i < m.length := by omega
    obtain ⟨s1, s2, s3⟩ := cmp_step hB hl hm i h1 h2
    rw [show (((i + 1 : Nat) : Int) - 1) = (i : Int) from by omega]
    refine Evt.succ ?_
    simp only [windbreakref01_compare.l0]
    refine Evt.ite_pos (by omega) (Evt.ite_pos (by omega) (Evt.ite_pos (by omega) (Evt.ite_pos (by omega) ?_)))
    have e1 : rd l (i : Int) = l[i] := by simp [rd_nat, h1]
    have e2 : rd m (i : Int) = m[i] := by simp [rd_nat, h2]
    rw [e1, e2]
    by_cases c1 : l[i] < m[i]
    · rw [s1 c1]; exact Evt.ite_pos c1 (Evt.pure _)
    · by_cases c2 : m[i] < l[i]
      · rw [s2 c2]; exact Evt.ite_neg c1 (Evt.ite_pos c2 (Evt.pure _))
      · rw [s3 (by omega)]
        refine Evt.ite_neg c1 (Evt.ite_neg c2 ?_)
        rw [w64 (by omega) (by omega)]
        exact ih (by omega)
theorem ref_compare_any {B : Int} (hB : 0 < B) (l m : List Int) (hl : Dig B l) (hm : Dig B m) (cl : Can l) (cm : Can m) (hb : l.length ≤ 1000000) : Evt (fun k => windbreakref01_compare.f k l m) (cmpL B l m) := by
  unfold windbreakref01_compare.f
  by_cases hlen : l.length = m.length
  · refine Evt.ite_pos (by omega) ?_
    rw [w64 (by omega) (by omega)]
    have := ref_compare_loop hB l m hl hm hlen hb l.length (Nat.le_refl _)
    refine this.congr (fun k => rfl) ?_
    rw [List.take_length, hlen, List.take_length]
  · refine Evt.ite_neg (by omega) ?_
    by_cases h2 : l.length < m.length
    · have := val_lt_of_length hB hl hm cm h2
      have e : cmpL B l m = -1 := if_pos this
      rw [e]
      exact Evt.ite_pos (by omega) (Evt.pure _)
    · have := val_lt_of_length hB hm hl cl (by omega)
      have e : cmpL B l m = 1 := by unfold cmpL; rw [if_neg (by omega), if_neg (by omega)]
      rw [e]
      exact Evt.ite_neg (by omega) (Evt.pure _)
theorem ref_compare_ev (v w : Nat) (hv : v < lim) : Evt (fun k => windbreakref01_compare.f k (digs v) (digs w)) (cmpN v w) := by
  have hlen : (digs v).length ≤ 1000000 := Nat.le_trans (digs_len hv) (by omega)
  refine (ref_compare_any b16_pos _ _ (toD_dig b16_two v) (toD_dig b16_two w) (toD_can b16_two v) (toD_can b16_two w) hlen).congr (fun k => rfl) ?_
  unfold cmpL cmpN
  rw [val_toD b16_two, val_toD b16_two]
  simp only [Int.ofNat_lt, Int.natCast_inj]
end Go.Proofs.Ytgeanpnkllnipac.Z
end

section
namespace Go.Proofs.Ytgeanpnkllnipac.Z
open Go.RowKit Go.Proofs.Ytgeanpnkllnipac.F Go.Proofs.YtgeanpnkllnipacW.PrintWords
set_option linter.unusedSimpArgs false
set_option linter.unusedVariables false
theorem nat_compare_loop {B : Int} (hB : 0 < B) (l m : List Int) (hl : Dig B l) (hm : Dig B m) (hlen : l.length = m.length) (hb : l.length ≤ 1000000) : ∀ i : Nat, i ≤ l.length → Evt (fun k => nat_compare.l0 k l m ((i : Int) - 1)) (cmpL B (l.take i) (m.take i)) := by
  intro i
  induction i with
  | zero =>
    intro _
    refine Evt.succ ?_
    simp only [nat_compare.l0]
    refine Evt.ite_neg (by omega) ?_
    exact Evt.pure _
  | succ i ih =>
    intro hi
    have h1 : i < l.length := by omega
    have h2 : i < m.length := by omega
    obtain ⟨s1, s2, s3⟩ := cmp_step hB hl hm i h1 h2
    rw [show (((i + 1 : Nat) : Int) - 1) = (i : Int) from by omega]
    refine Evt.succ ?_
    simp only [nat_compare.l0]
    refine Evt.ite_pos (by omega) (Evt.ite_pos (by omega) (Evt.ite_pos (by omega) (Evt.ite_pos (by omega) ?_)))
    have e1 : rd l (i : Int) = l[i] := by simp [rd_nat, h1]
    have e2 : rd m (i : Int) = m[i] := by simp [rd_nat, h2]
    rw [e1, e2]
    by_cases c0 : l[i] = m[i]
    · rw [s3 c0]
      refine Evt.ite_pos c0 ?_
      rw [w64 (by omega) (by omega)]
      exact ih (by omega)
    · refine Evt.ite_neg c0 ?_
      by_cases c1 : l[i] < m[i]
      · rw [s1 c1]; exact Evt.ite_pos c1 (Evt.pure _)
      · rw [s2 (by omega)]; exact Evt.ite_neg c1 (Evt.pure _)
theorem nat_compare_any {B : Int} (hB : 0 < B) (l m : List Int) (hl : Dig B l) (hm : Dig B m) (cl : Can l) (cm : Can m) (hb : l.length ≤ 1000000) : Evt (fun k => nat_compare.f k l m) (cmpL B l m) := by
  unfold nat_compare.f
  by_cases hlen : l.length = m.length
  · refine Evt.ite_pos (by omega) ?_
    rw [w64 (by omega) (by omega)]
    have := nat_compare_loop hB l m hl hm hlen hb l.length (Nat.le_refl _)
    refine this.congr (fun k => rfl) ?_
    rw [List.take_length, hlen, List.take_length]
  · refine Evt.ite_neg (by omega) ?_
    by_cases h2 : l.length < m.length
    · have := val_lt_of_length hB hl hm cm h2
      have e : cmpL B l m = -1 := if_pos this
      rw [e]
      exact Evt.ite_pos (by omega) (Evt.pure _)
    · have := val_lt_of_length hB hm hl cl (by omega)
      have e : cmpL B l m = 1 := by unfold cmpL; rw [if_neg (by omega), if_neg (by omega)]
      rw [e]
      exact Evt.ite_neg (by omega) (Evt.pure _)
theorem nat_compare_ev (l m : List Int) (hl : Dig (b64 : Int) l) (hm : Dig (b64 : Int) m) (cl : Can l) (cm : Can m) (hb : l.length ≤ 1000000) : Evt (fun k => nat_compare.f k l m) (cmpN (num l) (num m)) := by
  refine (nat_compare_any b64_pos l m hl hm cl cm hb).congr (fun k => rfl) ?_
  unfold cmpL cmpN
  rw [← num_val hl, ← num_val hm]
  simp only [Int.ofNat_lt, Int.natCast_inj]
end Go.Proofs.Ytgeanpnkllnipac.Z
end

section
namespace Go.Proofs.Ytgeanpnkllnipac.Z
open Go.RowKit Go.Proofs.Ytgeanpnkllnipac.F Go.Proofs.YtgeanpnkllnipacW.PrintWords
set_option linter.unusedSimpArgs false
set_option linter.unusedVariables false
theorem nat_right_eq (ls : List (List Int)) (h : ∀ l ∈ ls, l.length ≤ maxLen) : nat_right.f ls = some (ls.all rightB) := by
  induction ls with
  | nil => rfl
  | cons a ls ih =>
    simp only [nat_right.f]
    rw [nat_Right_eq (h a (by simp)), ih (fun l hl => h l (by simp [hl]))]
    simp only [Option.bind_some, List.all_cons]
    cases rightB a <;> simp
end Go.Proofs.Ytgeanpnkllnipac.Z
end

section
namespace Go.Proofs.Ytgeanpnkllnipac.Z
open Go.RowKit Go.Proofs.Ytgeanpnkllnipac.F Go.Proofs.YtgeanpnkllnipacW.PrintWords
set_option linter.unusedSimpArgs false
set_option linter.unusedVariables false
def subV (a b : List Int) : List Int × Int := if rightB a = true ∧ rightB b = true then (if num a < num b then ([], 2) else (limbs (num a - num b), 0)) else ([], 1)
theorem len_of_num_le {a b : List Int} (da : Dig (b64 : Int) a) (db : Dig (b64 : Int) b) (ca : Can a) (cb : Can b) (h : num b ≤ num a) : b.length ≤ a.length := by
  by_cases hl : b.length ≤ a.length
  · exact hl
  · have := val_lt_of_length b64_pos da db cb (by omega)
    rw [← num_val da, ← num_val db] at this
    omega
theorem toldV_small {v : Nat} (h : v < b64 ^ 64) : toldV v = (limbs v, 0) := if_pos h
theorem nat_Sub_ev (a b : List Int) (ha : a.length ≤ maxLen) (hb : b.length ≤ maxLen) (da : Dig (b64 : Int) a) (db : Dig (b64 : Int) b) : Evt (fun k => nat_Sub.f k a b) (subV a b) := by
  unfold nat_Sub.f subV
  rw [nat_right_eq _ (by intro l hl; simp at hl; rcases hl with rfl | rfl <;> assumption)]
  simp only [Option.bind_some, List.all_cons, List.all_nil, Bool.and_true, Bool.and_eq_true]
  by_cases h : rightB a = true ∧ rightB b = true
  · rw [if_pos h]
    refine Evt.ite_pos h ?_
    obtain ⟨h1, c1⟩ := (rightB_iff a).1 h.1
    obtain ⟨h2, c2⟩ := (rightB_iff b).1 h.2
    refine Evt.bind (nat_compare_ev a b da db c1 c2 (by omega)) ?_
    by_cases hlt : num a < num b
    · have e : cmpN (num a) (num b) = -1 := if_pos hlt
      rw [e, if_pos hlt]
      exact Evt.ite_pos (by omega) (Evt.pure _)
    · have e : ¬ cmpN (num a) (num b) < 0 := by
        unfold cmpN
        rw [if_neg hlt]
        by_cases e2 : num a = num b
        · rw [if_pos e2]; omega
        · rw [if_neg e2]; omega
      rw [if_neg hlt]
      refine Evt.ite_neg e ?_
      obtain ⟨s, e1, e2, e3, e4⟩ := nat_less_ev a b (by omega) (len_of_num_le da db c1 c2 (by omega)) da db (by omega)
      refine Evt.bind e1 ?_
      have n1 : num a - num b < b64 ^ 64 := by
        have := num_lt_p da h1
        omega
      have h5 := nat_told_ev s (by omega) e2
      rw [e3, toldV_small n1] at h5
      exact Evt.bind h5 (h := fun t _ => some (t.1, t.2)) (Evt.pure _)
  · rw [if_neg h]
    exact Evt.ite_neg h (Evt.pure _)
end Go.Proofs.Ytgeanpnkllnipac.Z
end

section
namespace Go.Proofs.Ytgeanpnkllnipac.Z
open Go.RowKit Go.Proofs.Ytgeanpnkllnipac.F Go.Proofs.YtgeanpnkllnipacW.PrintWords
set_option linter.unusedSimpArgs false
set_option linter.unusedVariables false
/-- A sum, limb by limb, with what is carried. -/
def sumL : List Int → List Int → Int → List Int
  | [], _, c => [c]
  | x :: a, b, c => add64_s x (b.getD 0 0) c :: sumL a (b.drop 1) (add64_c x (b.getD 0 0) c)
theorem add64_facts {x y c : Int} (hx : 0 ≤ x ∧ x < (b64 : Int)) (hy : 0 ≤ y ∧ y < (b64 : Int)) (hc : c = 0 ∨ c = 1) :
    add64_s x y c + (b64 : Int) * add64_c x y c = x + y + c ∧ (0 ≤ add64_s x y c ∧ add64_s x y c < (b64 : Int)) ∧ (add64_c x y c = 0 ∨ add64_c x y c = 1) := by
  unfold add64_s add64_c
  simp only [b64] at *
  omega
theorem sumL_facts : ∀ (a b : List Int) (c : Int), Dig (b64 : Int) a → Dig (b64 : Int) b → b.length ≤ a.length → (c = 0 ∨ c = 1) →
    Dig (b64 : Int) (sumL a b c) ∧ val (b64 : Int) (sumL a b c) = val (b64 : Int) a + val (b64 : Int) b + c := by
  intro a
  induction a with
  | nil =>
    intro b c _ _ hlen hc
    have : b = [] := List.length_eq_zero_iff.1 (by simpa using hlen)
    subst this
    refine ⟨?_, ?_⟩
    · intro x hx
      simp [sumL] at hx
      subst hx
      simp only [b64]; omega
    · simp [sumL, val]
  | cons x a ih =>
    intro b c da db hlen hc
    have d1 := Dig.cons.1 da
    have hy := db.getD b64_pos 0
    obtain ⟨e1, e2, e3⟩ := add64_facts d1.1 hy hc
    obtain ⟨i1, i2⟩ := ih (b.drop 1) _ d1.2 (db.drop 1) (by simp at hlen ⊢; omega) e3
    refine ⟨Dig.cons.2 ⟨e2, i1⟩, ?_⟩
    simp only [sumL, val]
    rw [i2]
    have hb : val (b64 : Int) b = b.getD 0 0 + (b64 : Int) * val (b64 : Int) (b.drop 1) := by
      cases b with
      | nil => simp [val]
      | cons y b => simp [val]
    rw [hb]
    generalize (b64 : Int) = B at *
    generalize add64_s x (b.getD 0 0) c = s at *
    generalize add64_c x (b.getD 0 0) c = t at *
    generalize val B a = va at *
    generalize val B (b.drop 1) = vb at *
    generalize b.getD 0 0 = y at *
    have : B * (va + vb + t) = B * va + B * vb + B * t := by rw [Int.mul_add, Int.mul_add]
    omega
theorem nat_sum_l0 (a b : List Int) (ha : a.length ≤ 1000) (hb : b.length ≤ 1000) (da : Dig (b64 : Int) a) (db : Dig (b64 : Int) b) (n : Nat) : ∀ (i : Nat) (p : List Int) (c : Int), p.length = i → i ≤ a.length → a.length - i = n → (c = 0 ∨ c = 1) →
    Evt (fun k => nat_sum.l0 k a b (p ++ List.replicate (n + 1) 0) c (a.length : Int) (i : Int)) (p ++ sumL (a.drop i) (b.drop i) c) := by
  induction n with
  | zero =>
    intro i p c hp hi hn hc
    refine Evt.succ ?_
    simp only [nat_sum.l0]
    refine Evt.ite_neg (by omega) (Evt.ite_pos (by omega) (Evt.ite_pos (by simp; omega) ?_))
    rw [List.drop_of_length_le (show a.length ≤ i by omega), show ((a.length : Int)).toNat = p.length from by omega]
    simp only [sumL, List.replicate_succ, List.replicate_zero]
    rw [set_at]
    exact Evt.pure _
  | succ n ih =>
    intro i p c hp hi hn hc
    have hlt : i < a.length := by omega
    refine Evt.succ ?_
    simp only [nat_sum.l0]
    refine Evt.ite_pos (by omega) ?_
    have hx : rd a (i : Int) = a[i] := by simp [rd_nat, hlt]
    have hxr := da a[i] (List.getElem_mem hlt)
    have hset : ∀ v : Int, (p ++ List.replicate (n + 1 + 1) 0).set ((i : Int)).toNat v = (p ++ [v]) ++ List.replicate (n + 1) 0 := by
      intro v
      rw [show ((i : Int)).toNat = p.length from by omega, List.replicate_succ, set_at, List.append_assoc]
      rfl
    have hyr := (db.drop i).getD b64_pos 0
    have hfin : ∀ y : Int, y = (b.drop i).getD 0 0 → Evt (fun k => nat_sum.l0 k a b ((p ++ List.replicate (n + 1 + 1) 0).set ((i : Int)).toNat (add64_s (rd a (i : Int)) y c)) (add64_c (rd a (i : Int)) y c) (a.length : Int) (wrap64 ((i : Int) + 1))) (p ++ sumL (a.drop i) (b.drop i) c) := by
      intro y hy
      subst hy
      obtain ⟨e1, e2, e3⟩ := add64_facts hxr hyr hc
      rw [hx, hset, w64 (by omega) (by omega)]
      have h := ih (i + 1) (p ++ [add64_s a[i] ((b.drop i).getD 0 0) c]) (add64_c a[i] ((b.drop i).getD 0 0) c) (by simp [hp]) (by omega) (by omega) e3
      refine h.congr (fun k => rfl) ?_
      rw [List.drop_eq_getElem_cons hlt]
      simp only [sumL, List.drop_drop, List.append_assoc, List.singleton_append]
    by_cases hib : i < b.length
    · refine Evt.ite_pos (by omega) (Evt.ite_pos (by omega) (Evt.ite_pos (by omega) (Evt.ite_pos (carry_of hc) (Evt.ite_pos (by simp; omega) ?_))))
      refine hfin _ ?_
      simp [rd_nat, hib]
    · refine Evt.ite_neg (by omega) (Evt.ite_pos (by omega) (Evt.ite_pos (by omega) (Evt.ite_pos (carry_of hc) (Evt.ite_pos (by simp; omega) ?_))))
      refine hfin _ ?_
      simp [List.drop_of_length_le (show b.length ≤ i by omega)]
theorem nat_sum_l51 (a b : List Int) (ha : a.length ≤ 1000) (hb : b.length ≤ 1000) (da : Dig (b64 : Int) a) (db : Dig (b64 : Int) b) (n : Nat) : ∀ (i : Nat) (p : List Int) (c : Int), p.length = i → i ≤ a.length → a.length - i = n → (c = 0 ∨ c = 1) →
    Evt (fun k => nat_sum.l51 k a b (p ++ List.replicate (n + 1) 0) c (a.length : Int) (i : Int)) (p ++ sumL (a.drop i) (b.drop i) c) := by
  induction n with
  | zero =>
    intro i p c hp hi hn hc
    refine Evt.succ ?_
    simp only [nat_sum.l51]
    refine Evt.ite_neg (by omega) (Evt.ite_pos (by omega) (Evt.ite_pos (by simp; omega) ?_))
    rw [List.drop_of_length_le (show a.length ≤ i by omega), show ((a.length : Int)).toNat = p.length from by omega]
    simp only [sumL, List.replicate_succ, List.replicate_zero]
    rw [set_at]
    exact Evt.pure _
  | succ n ih =>
    intro i p c hp hi hn hc
    have hlt : i < a.length := by omega
    refine Evt.succ ?_
    simp only [nat_sum.l51]
    refine Evt.ite_pos (by omega) ?_
    have hx : rd a (i : Int) = a[i] := by simp [rd_nat, hlt]
    have hxr := da a[i] (List.getElem_mem hlt)
    have hset : ∀ v : Int, (p ++ List.replicate (n + 1 + 1) 0).set ((i : Int)).toNat v = (p ++ [v]) ++ List.replicate (n + 1) 0 := by
      intro v
      rw [show ((i : Int)).toNat = p.length from by omega, List.replicate_succ, set_at, List.append_assoc]
      rfl
    have hyr := (db.drop i).getD b64_pos 0
    have hfin : ∀ y : Int, y = (b.drop i).getD 0 0 → Evt (fun k => nat_sum.l51 k a b ((p ++ List.replicate (n + 1 + 1) 0).set ((i : Int)).toNat (add64_s (rd a (i : Int)) y c)) (add64_c (rd a (i : Int)) y c) (a.length : Int) (wrap64 ((i : Int) + 1))) (p ++ sumL (a.drop i) (b.drop i) c) := by
      intro y hy
      subst hy
      obtain ⟨e1, e2, e3⟩ := add64_facts hxr hyr hc
      rw [hx, hset, w64 (by omega) (by omega)]
      have h := ih (i + 1) (p ++ [add64_s a[i] ((b.drop i).getD 0 0) c]) (add64_c a[i] ((b.drop i).getD 0 0) c) (by simp [hp]) (by omega) (by omega) e3
      refine h.congr (fun k => rfl) ?_
      rw [List.drop_eq_getElem_cons hlt]
      simp only [sumL, List.drop_drop, List.append_assoc, List.singleton_append]
    by_cases hib : i < b.length
    · refine Evt.ite_pos (by omega) (Evt.ite_pos (by omega) (Evt.ite_pos (by omega) (Evt.ite_pos (carry_of hc) (Evt.ite_pos (by simp; omega) ?_))))
      refine hfin _ ?_
      simp [rd_nat, hib]
    · refine Evt.ite_neg (by omega) (Evt.ite_pos (by omega) (Evt.ite_pos (by omega) (Evt.ite_pos (carry_of hc) (Evt.ite_pos (by simp; omega) ?_))))
      refine hfin _ ?_
      simp [List.drop_of_length_le (show b.length ≤ i by omega)]

theorem nat_sum_ev (a b : List Int) (ha : a.length ≤ 1000) (hb : b.length ≤ 1000) (da : Dig (b64 : Int) a) (db : Dig (b64 : Int) b) : ∃ s, Evt (fun k => nat_sum.f k a b) s ∧ Dig (b64 : Int) s ∧ num s = num a + num b ∧ s.length ≤ 1002 := by
  unfold nat_sum.f
  have fin : ∀ (x y : List Int), Dig (b64 : Int) x → Dig (b64 : Int) y → y.length ≤ x.length → x.length ≤ 1000 → Dig (b64 : Int) (sumL x y 0) ∧ num (sumL x y 0) = num x + num y ∧ (sumL x y 0).length ≤ 1002 := by
    intro x y dx dy hlen hx
    obtain ⟨f1, f2⟩ := sumL_facts x y 0 dx dy hlen (Or.inl rfl)
    have l1 : ∀ (x y : List Int) (c : Int), (sumL x y c).length = x.length + 1 := by
      intro x
      induction x with
      | nil => intro y c; rfl
      | cons z x ih => intro y c; simp only [sumL, List.length_cons, ih]
    refine ⟨f1, ?_, by rw [l1]; omega⟩
    have := num_val f1
    have := num_val dx
    have := num_val dy
    omega
  have ex : ∀ x : List Int, x.length ≤ 1000 → wrap64 ((x.length : Int) + 1) = ((x.length + 1 : Nat) : Int) := fun x hx => by rw [w64 (by omega) (by omega)]; omega
  by_cases h : a.length < b.length
  · refine ⟨sumL b a 0, Evt.ite_pos (by omega) ?_, (fin b a db da (by omega) hb).1, by rw [(fin b a db da (by omega) hb).2.1]; omega, (fin b a db da (by omega) hb).2.2⟩
    rw [ex b hb]
    refine Evt.ite_pos (by omega) (Evt.ite_pos (by omega) ?_)
    exact (nat_sum_l0 b a hb ha db da b.length 0 [] 0 rfl (Nat.zero_le _) (by omega) (Or.inl rfl)).congr (fun k => rfl) (by simp)
  · refine ⟨sumL a b 0, Evt.ite_neg (by omega) ?_, (fin a b da db (by omega) ha).1, (fin a b da db (by omega) ha).2.1, (fin a b da db (by omega) ha).2.2⟩
    rw [ex a ha]
    refine Evt.ite_pos (by omega) (Evt.ite_pos (by omega) ?_)
    exact (nat_sum_l51 a b ha hb da db a.length 0 [] 0 rfl (Nat.zero_le _) (by omega) (Or.inl rfl)).congr (fun k => rfl) (by simp)
end Go.Proofs.Ytgeanpnkllnipac.Z
end

section
namespace Go.Proofs.Ytgeanpnkllnipac.Z
open Go.RowKit Go.Proofs.Ytgeanpnkllnipac.F Go.Proofs.YtgeanpnkllnipacW.PrintWords
set_option linter.unusedSimpArgs false
set_option linter.unusedVariables false
def addV (a b : List Int) : List Int × Int := if rightB a = true ∧ rightB b = true then toldV (num a + num b) else ([], 1)
theorem nat_Add_ev (a b : List Int) (ha : a.length ≤ maxLen) (hb : b.length ≤ maxLen) (da : Dig (b64 : Int) a) (db : Dig (b64 : Int) b) : Evt (fun k => nat_Add.f k a b) (addV a b) := by
  unfold nat_Add.f addV
  rw [nat_right_eq _ (by intro l hl; simp at hl; rcases hl with rfl | rfl <;> assumption)]
  simp only [Option.bind_some, List.all_cons, List.all_nil, Bool.and_true, Bool.and_eq_true]
  by_cases h : rightB a = true ∧ rightB b = true
  · rw [if_pos h]
    refine Evt.ite_pos h ?_
    obtain ⟨h1, c1⟩ := (rightB_iff a).1 h.1
    obtain ⟨h2, c2⟩ := (rightB_iff b).1 h.2
    obtain ⟨s, e1, e2, e3, e4⟩ := nat_sum_ev a b (by omega) (by omega) da db
    refine Evt.bind e1 ?_
    rw [← e3]
    exact Evt.bind (nat_told_ev s (by omega) e2) (h := fun t _ => some (t.1, t.2)) (Evt.pure _)
  · rw [if_neg h]
    exact Evt.ite_neg h (Evt.pure _)
end Go.Proofs.Ytgeanpnkllnipac.Z
end

section
namespace Go.Proofs.Ytgeanpnkllnipac.Z
open Go.RowKit Go.Proofs.Ytgeanpnkllnipac.F Go.Proofs.YtgeanpnkllnipacW.PrintWords
set_option linter.unusedSimpArgs false
set_option linter.unusedVariables false
/-- What Cmp is. -/
def cmpV (a b : List Int) : Int := if rightB a = true ∧ rightB b = true then cmpN (num a) (num b) else 0
theorem nat_Cmp_ev (a b : List Int) (ha : a.length ≤ maxLen) (hb : b.length ≤ maxLen) (da : Dig (b64 : Int) a) (db : Dig (b64 : Int) b) : Evt (fun k => nat_Cmp.f k a b) (cmpV a b) := by
  unfold nat_Cmp.f cmpV
  rw [nat_right_eq _ (by intro l hl; simp at hl; rcases hl with rfl | rfl <;> assumption)]
  simp only [Option.bind_some, List.all_cons, List.all_nil, Bool.and_true, Bool.and_eq_true]
  by_cases h : rightB a = true ∧ rightB b = true
  · rw [if_pos h]
    refine Evt.ite_pos h ?_
    obtain ⟨h1, c1⟩ := (rightB_iff a).1 h.1
    obtain ⟨h2, c2⟩ := (rightB_iff b).1 h.2
    exact Evt.bind (nat_compare_ev a b da db c1 c2 (by omega)) (h := fun t _ => some t) (Evt.pure _)
  · rw [if_neg h]
    exact Evt.ite_neg h (Evt.pure _)
end Go.Proofs.Ytgeanpnkllnipac.Z
end

section
namespace Go.Proofs.Ytgeanpnkllnipac.Z
open Go.RowKit Go.Proofs.Ytgeanpnkllnipac.F Go.Proofs.YtgeanpnkllnipacW.PrintWords
set_option linter.unusedSimpArgs false
set_option linter.unusedVariables false
theorem may_ev (n : List Int) (hn : n.length ≤ maxLen) (dn : Dig (b64 : Int) n) : Evt (fun k => fixenc_modulus_may.f k n) (mayV n) := by
  unfold fixenc_modulus_may.f mayV
  rw [nat_Right_eq hn]
  simp only [Option.bind_some]
  cases hR : rightB n with
  | false => exact Evt.ite_neg (by simp) (Evt.pure _)
  | true =>
    refine Evt.ite_pos rfl ?_
    by_cases h8 : n.length ≤ 8
    · refine Evt.ite_pos (by omega) ?_
      have d3 : Dig (b64 : Int) [3] := dig_one (by omega) (by omega)
      refine (Evt.bind (nat_Cmp_ev n [3] hn (by simp [maxLen]) dn d3) (h := fun t _ => some (decide (t ≥ 0))) (Evt.pure _)).congr (fun k => rfl) ?_
      unfold cmpV
      rw [if_pos ⟨hR, right_one (by omega)⟩, cmpN_ge, num_one (by omega)]
      simp [h8]
    · refine Evt.ite_neg (by omega) ((Evt.pure _).congr (fun k => rfl) ?_)
      simp [h8]
theorem half_ev (n : List Int) (dn : Dig (b64 : Int) n) (hm : mayV n = true) : Evt (fun k => fixenc_modulus_half.f k n) (limbs (halfV n)) := by
  obtain ⟨hR, h8, h3⟩ := (mayV_iff n).1 hm
  have hlt := may_lt dn hm
  unfold fixenc_modulus_half.f
  have hs := nat_Shr_ev n 1 (by simp only [maxLen]; omega) dn (by omega)
  unfold shrV at hs
  rw [if_pos ⟨hR, by omega⟩] at hs
  refine Evt.bind hs ?_
  refine Evt.bind (Evt.of (fun _ => nat_Bit_eq n 0 (by simp only [maxLen]; omega) dn (by omega))) ?_
  have h0 : n.length ≠ 0 := by
    intro h
    rw [List.eq_nil_of_length_eq_zero h] at h3
    simp [num, val] at h3
  obtain ⟨x, l, rfl⟩ : ∃ x l, n = x :: l := by
    cases n with
    | nil => simp at h0
    | cons x l => exact ⟨x, l, rfl⟩
  have hx := (Dig.cons.1 dn).1
  have hb : bitV (x :: l) 0 = decide (num (x :: l) % 2 = 1) := by
    unfold bitV
    rw [hR, num_cons dn]
    have hB : b64 = 18446744073709551616 := rfl
    rw [hB] at hx ⊢
    simp
    have h1 : (0 : Int) < (l.length : Int) + 1 := by omega
    by_cases h2 : x % 2 = 1
    · have : (x.toNat + 18446744073709551616 * num l) % 2 = 1 := by omega
      simp [h1, h2, this]
    · have h4 : ¬ (x.toNat + 18446744073709551616 * num l) % 2 = 1 := by omega
      simp [h2, h4]
  rw [hb]
  by_cases hp : num (x :: l) % 2 = 1
  · refine Evt.ite_pos (by simpa using hp) ((Evt.pure _).congr (fun k => rfl) ?_)
    unfold halfV
    rw [show (2 : Nat) ^ (1 : Int).toNat = 2 from rfl, show num (x :: l) / 2 = (num (x :: l) - 1) / 2 by omega]
  · refine Evt.ite_neg (by simpa using hp) ?_
    have d1 : Dig (b64 : Int) [1] := dig_one (by omega) (by omega)
    have hv : num (x :: l) / 2 ^ (1 : Int).toNat = num (x :: l) / 2 := rfl
    have hlt2 : num (x :: l) / 2 < b64 ^ 64 := Nat.lt_of_le_of_lt (Nat.div_le_self _ _) hlt
    have hsub := nat_Sub_ev (limbs (num (x :: l) / 2)) [1] (by have := limbs_le64 hlt2; simp only [maxLen]; omega) (by simp [maxLen]) (dig_limbs' _) d1
    rw [hv]
    refine (Evt.bind hsub (h := fun t _ => some t.1) (Evt.pure _)).congr (fun k => rfl) ?_
    unfold subV halfV
    rw [if_pos ⟨right_limbs' hlt2, right_one (by omega)⟩, num_limbs, num_one (by omega), if_neg (by omega), show num (x :: l) / 2 - (1 : Int).toNat = (num (x :: l) - 1) / 2 by omega]
theorem fits_ev (n x : List Int) (dn : Dig (b64 : Int) n) (dx : Dig (b64 : Int) x) (hm : mayV n = true) (hx : rightB x = true) : Evt (fun k => fixenc_fits.f k n x) (decide (num x ≤ halfV n)) := by
  obtain ⟨hR, h8, h3⟩ := (mayV_iff n).1 hm
  have hlt := may_lt dn hm
  obtain ⟨hx1, _⟩ := (rightB_iff x).1 hx
  have hh : halfV n < b64 ^ 64 := by unfold halfV; omega
  unfold fixenc_fits.f
  refine Evt.bind (half_ev n dn hm) ?_
  refine (Evt.bind (nat_Cmp_ev x (limbs (halfV n)) (by simp only [maxLen]; omega) (by have := limbs_le64 hh; simp only [maxLen]; omega) dx (dig_limbs' _)) (h := fun t _ => some (decide (t ≤ 0))) (Evt.pure _)).congr (fun k => rfl) ?_
  unfold cmpV
  rw [if_pos ⟨hx, right_limbs' hh⟩, cmpN_le, num_limbs]
theorem modint_Right_eq (a : Bool) (l : List Int) (h : l.length ≤ maxLen) : modint_Right.f a l = some (intR a l) := by
  unfold modint_Right.f intR
  rw [nat_Right_eq h]
  cases hR : rightB l <;> cases a <;> simp
theorem clone7 (l : List Int) (h : l.length ≤ 100000) : api_Nat_uint64.f l = some l := by
  unfold api_Nat_uint64.f
  simp only [Option.bind_some, List.nil_append, List.length_nil]
  rw [if_pos (by omega)]
theorem modint_From_eq (a : Bool) (l : List Int) (h : l.length ≤ 64) : modint_From.f a l = some (fromV a l) := by
  unfold modint_From.f fromV
  rw [nat_Right_eq (by simp only [maxLen]; omega), clone7 l (by omega)]
  cases hR : rightB l with
  | false => simp
  | true =>
    by_cases h0 : l.length = 0
    · simp [h0]
    · have : ¬ l = [] := fun e => h0 (by rw [e]; rfl)
      simp [this]
theorem fix_Encode_ev (n : List Int) (a : Bool) (x : List Int) (hn : n.length ≤ maxLen) (hx : x.length ≤ maxLen) (dn : Dig (b64 : Int) n) (dx : Dig (b64 : Int) x) : Evt (fun k => fixenc_Encode.f k n a x) (encV n a x) := by
  unfold fixenc_Encode.f encV
  have J : ∀ b : Bool, (b = false → mayV n = true ∧ intR a x = true) → Evt (fun k => fixenc_Encode.j0 k n b a x) (if b = true then ([], 1) else (if num x ≤ halfV n then (if a = true then (limbs (num n - num x), 0) else (x, 0)) else ([], 12))) := by
    intro b hb
    refine Evt.succ ?_
    simp only [fixenc_Encode.j0]
    refine Evt.cond (fun _ => Evt.pure _) (fun hc => ?_)
    obtain ⟨hm, hi⟩ := hb (by simpa using hc)
    have hR : rightB x = true := by unfold intR at hi; simp only [Bool.and_eq_true] at hi; exact hi.1
    obtain ⟨hx1, cx⟩ := (rightB_iff x).1 hR
    obtain ⟨hRn, h8, h3⟩ := (mayV_iff n).1 hm
    have hlt := may_lt dn hm
    refine Evt.bind (fits_ev n x dn dx hm hR) ?_
    by_cases hf : num x ≤ halfV n
    · rw [if_pos hf]
      refine Evt.ite_pos (by simpa using hf) ?_
      have hxn : num x < num n := by unfold halfV at hf; omega
      cases a with
      | true =>
        refine Evt.ite_pos rfl ?_
        have hs := nat_Sub_ev n x hn hx dn dx
        unfold subV at hs
        rw [if_pos ⟨hRn, hR⟩, if_neg (by omega)] at hs
        exact Evt.bind hs (h := fun t _ => some (t.1, t.2)) (Evt.pure _)
      | false =>
        refine Evt.ite_neg (by simp) ?_
        have hs := nat_Add_ev x [] hx (by simp) dx Dig.nil
        unfold addV toldV at hs
        rw [if_pos ⟨hR, by decide⟩, num_nil, Nat.add_zero, if_pos (by omega), limbs_num dx cx] at hs
        exact Evt.bind hs (h := fun t _ => some (t.1, t.2)) (Evt.pure _)
    · rw [if_neg hf]
      exact Evt.ite_neg (by simpa using hf) (Evt.pure _)
  refine Evt.bind (may_ev n hn dn) ?_
  cases hm : mayV n with
  | false =>
    refine Evt.ite_neg (by simp) ((J true (by simp)).congr (fun k => rfl) ?_)
    simp
  | true =>
    refine Evt.ite_pos rfl ?_
    refine Evt.bind (Evt.of (fun _ => modint_Right_eq a x hx)) ?_
    refine (J (!intR a x) (fun h => ⟨hm, by simpa using h⟩)).congr (fun k => rfl) ?_
    cases hi : intR a x <;> simp
theorem fix_Decode_ev (n v : List Int) (hn : n.length ≤ maxLen) (hv : v.length ≤ maxLen) (dn : Dig (b64 : Int) n) (dv : Dig (b64 : Int) v) : Evt (fun k => fixenc_Decode.f k n v) (decV n v) := by
  unfold fixenc_Decode.f decV
  refine Evt.bind (may_ev n hn dn) ?_
  cases hm : mayV n with
  | false => exact Evt.ite_neg (by simp) ((Evt.pure _).congr (fun k => rfl) (by simp))
  | true =>
    obtain ⟨hRn, h8, h3⟩ := (mayV_iff n).1 hm
    have hlt := may_lt dn hm
    have J : ∀ b : Bool, (b = false → rightB v = true ∧ num v < num n) → Evt (fun k => fixenc_Decode.j0 k n v b) (if b = true then (false, [], 10) else (if num v ≤ halfV n then ((fromV false v).1, (fromV false v).2, 0) else ((fromV true (limbs (num n - num v))).1, (fromV true (limbs (num n - num v))).2, 0))) := by
      intro b hb
      refine Evt.succ ?_
      simp only [fixenc_Decode.j0]
      refine Evt.cond (fun _ => Evt.pure _) (fun hc => ?_)
      obtain ⟨hR, hvn⟩ := hb (by simpa using hc)
      obtain ⟨hv1, cv⟩ := (rightB_iff v).1 hR
      refine Evt.bind (fits_ev n v dn dv hm hR) ?_
      by_cases hf : num v ≤ halfV n
      · rw [if_pos hf]
        refine Evt.ite_pos (by simpa using hf) ?_
        exact Evt.bind (Evt.of (fun _ => modint_From_eq false v hv1)) (h := fun t _ => some (t.1, t.2, (0 : Int))) (Evt.pure _)
      · rw [if_neg hf]
        refine Evt.ite_neg (by simpa using hf) ?_
        have hs := nat_Sub_ev n v hn hv dn dv
        unfold subV at hs
        rw [if_pos ⟨hRn, hR⟩, if_neg (by omega)] at hs
        refine Evt.bind hs ?_
        exact Evt.bind (Evt.of (fun _ => modint_From_eq true (limbs (num n - num v)) (limbs_le64 (Nat.lt_of_le_of_lt (Nat.sub_le _ _) hlt)))) (h := fun t _ => some (t.1, t.2, (0 : Int))) (Evt.pure _)
    refine Evt.ite_pos rfl ?_
    refine Evt.bind (Evt.of (fun _ => nat_Right_eq hv)) ?_
    cases hR : rightB v with
    | false =>
      refine Evt.ite_neg (by simp) ((J true (by simp)).congr (fun k => rfl) ?_)
      simp
    | true =>
      refine Evt.ite_pos rfl ?_
      refine Evt.bind (nat_Cmp_ev v n hv hn dv dn) ?_
      unfold cmpV
      rw [if_pos ⟨hR, hRn⟩, cmpN_ge]
      refine (J (decide (num n ≤ num v)) (fun h => ⟨hR, by simpa using h⟩)).congr (fun k => rfl) ?_
      by_cases hvn : num n ≤ num v
      · have : ¬ num v < num n := by omega
        simp [hvn, this]
      · have : num v < num n := by omega
        simp [hvn, this]
end Go.Proofs.Ytgeanpnkllnipac.Z
end

section
namespace Go.Proofs.Ytgeanpnkllnipac.Z
open Go.RowKit Go.Proofs.Ytgeanpnkllnipac.F Go.Proofs.YtgeanpnkllnipacW.PrintWords
set_option linter.unusedSimpArgs false
set_option linter.unusedVariables false
theorem windbreakref01_Right_eq {l : List Int} (h : l.length ≤ maxLen) : windbreakref01_Right.f l = some (rightB l) := by
  unfold maxLen at h
  unfold windbreakref01_Right.f rightB
  by_cases h1 : l.length ≤ 64
  · rw [if_pos (by omega)]
    by_cases h2 : l.length = 0
    · rw [if_pos (by omega)]
      simp [h1, h2]
    · rw [if_neg (by omega), w64 (by omega) (by omega), if_pos (by omega), if_pos (by omega), rd_getD]
      rw [show ((l.length : Int) - 1).toNat = l.length - 1 from by omega]
      have h3 : (l.length == 0) = false := by simpa using h2
      rw [h3]
      simp [h1]
  · rw [if_neg (by omega)]
    simp [h1]
end Go.Proofs.Ytgeanpnkllnipac.Z
end

section
namespace Go.Proofs.Ytgeanpnkllnipac.Z
open Go.RowKit Go.Proofs.Ytgeanpnkllnipac.F Go.Proofs.YtgeanpnkllnipacW.PrintWords
set_option linter.unusedSimpArgs false
set_option linter.unusedVariables false
theorem windbreakref01_cut_loop (l : List Int) (h : l.length ≤ maxLen) : ∀ n : Nat, n ≤ l.length → Evt (fun k => windbreakref01_cut.l0 k l (n : Int)) (strip (l.take n)) := by
  unfold maxLen at h
  intro n
  induction n with
  | zero =>
    intro _
    refine Evt.succ ?_
    simp only [windbreakref01_cut.l0]
    refine Evt.ite_neg (by omega) (Evt.ite_pos (by omega) (Evt.ite_pos (by omega) ?_))
    simp [strip]
    exact Evt.pure _
  | succ n ih =>
    intro hn
    refine Evt.succ ?_
    simp only [windbreakref01_cut.l0]
    rw [w64 (by omega) (by omega), show ((n + 1 : Nat) : Int) - 1 = (n : Int) from by omega]
    refine Evt.ite_pos (by omega) (Evt.ite_pos (by omega) (Evt.ite_pos (by omega) ?_))
    rw [rd_nat, List.take_succ_eq_append_getElem (show n < l.length by omega)]
    have hg : l.getD n 0 = l[n] := by simp [show n < l.length by omega]
    rw [hg]
    by_cases h0 : l[n] = 0
    · rw [h0, strip_snoc_zero]
      exact Evt.ite_pos rfl (ih (by omega))
    · rw [strip_snoc h0]
      refine Evt.ite_neg h0 (Evt.ite_pos (by omega) (Evt.ite_pos (by omega) ?_))
      rw [← List.take_succ_eq_append_getElem (show n < l.length by omega)]
      exact Evt.pure _
theorem windbreakref01_cut_ev (l : List Int) (h : l.length ≤ maxLen) : Evt (fun k => windbreakref01_cut.f k l) (strip l) := by
  have := windbreakref01_cut_loop l h l.length (Nat.le_refl _)
  exact this.congr (fun k => rfl) (by rw [List.take_length])
end Go.Proofs.Ytgeanpnkllnipac.Z
end

section
namespace Go.Proofs.Ytgeanpnkllnipac.Z
open Go.RowKit Go.Proofs.Ytgeanpnkllnipac.F Go.Proofs.YtgeanpnkllnipacW.PrintWords
set_option linter.unusedSimpArgs false
set_option linter.unusedVariables false
def dg (x : Int) : List Int := [x % 65536, x / 65536 % 65536, x / 65536 / 65536 % 65536, x / 65536 / 65536 / 65536 % 65536]
theorem wdiv {x : Int} (h0 : 0 ≤ x) (h1 : x < 18446744073709551616) (c : Int) (hc : 0 < c) : IntKind.u64.wrap (Int.tdiv x c) = x / c := by
  rw [Int.tdiv_eq_ediv_of_nonneg h0]
  have h2 := Int.ediv_nonneg h0 (Int.le_of_lt hc)
  have h3 := Int.ediv_le_self c h0
  exact wu64_of h2 (by omega)
theorem in_step (a d : List Int) (i : Nat) (x : Int) (hx : 0 ≤ x ∧ x < 18446744073709551616) (hd : d.length ≤ 1000000) (hi : i ≤ 1000000) {r : List Int}
    (h : Evt (fun k => windbreakref01_In.l0 k a (d ++ dg x) ((i + 1 : Nat) : Int)) r) : Evt (fun k => windbreakref01_In.l1 k a d (i : Int) x 0) r := by
  refine Evt.succ ?_
  simp only [windbreakref01_In.l1]
  refine Evt.ite_pos (by omega) (Evt.ite_pos (by omega) ?_)
  rw [Int.tmod_eq_emod_of_nonneg hx.1, wdiv hx.1 hx.2 65536 (by omega), w64 (by omega) (by omega)]
  refine Evt.succ ?_
  simp only [windbreakref01_In.l1]
  refine Evt.ite_pos (by omega) (Evt.ite_pos (by simp; omega) ?_)
  rw [Int.tmod_eq_emod_of_nonneg (show 0 ≤ x / 65536 by omega), wdiv (show 0 ≤ x / 65536 by omega) (by omega) 65536 (by omega), w64 (by omega) (by omega)]
  refine Evt.succ ?_
  simp only [windbreakref01_In.l1]
  refine Evt.ite_pos (by omega) (Evt.ite_pos (by simp; omega) ?_)
  rw [Int.tmod_eq_emod_of_nonneg (show 0 ≤ x / 65536 / 65536 by omega), wdiv (show 0 ≤ x / 65536 / 65536 by omega) (by omega) 65536 (by omega), w64 (by omega) (by omega)]
  refine Evt.succ ?_
  simp only [windbreakref01_In.l1]
  refine Evt.ite_pos (by omega) (Evt.ite_pos (by simp; omega) ?_)
  rw [Int.tmod_eq_emod_of_nonneg (show 0 ≤ x / 65536 / 65536 / 65536 by omega), wdiv (show 0 ≤ x / 65536 / 65536 / 65536 by omega) (by omega) 65536 (by omega), w64 (by omega) (by omega)]
  refine Evt.succ ?_
  simp only [windbreakref01_In.l1]
  refine Evt.ite_neg (by omega) ?_
  rw [w64 (by omega) (by omega)]
  refine h.congr (fun k => ?_) rfl
  simp [dg]
theorem in_loop (a : List Int) (ha : a.length ≤ 1000) (hd : Dig (b64 : Int) a) (n : Nat) : ∀ i : Nat, i ≤ a.length → a.length - i = n → Evt (fun k => windbreakref01_In.l0 k a ((a.take i).flatMap dg) (i : Int)) (strip (a.flatMap dg)) := by
  have hlen : ∀ l : List Int, (l.flatMap dg).length = 4 * l.length := by
    intro l
    induction l with
    | nil => rfl
    | cons x l ih => simp only [List.flatMap_cons, List.length_append, ih, dg, List.length_cons, List.length_nil]; omega
  induction n with
  | zero =>
    intro i hi hn
    refine Evt.succ ?_
    simp only [windbreakref01_In.l0]
    refine Evt.ite_neg (by omega) ?_
    rw [List.take_of_length_le (by omega)]
    refine Evt.bind (windbreakref01_cut_ev _ (by rw [hlen]; simp [maxLen]; omega)) (h := fun t _ => some t) (Evt.pure _)
  | succ n ih =>
    intro i hi hn
    have hlt : i < a.length := by omega
    refine Evt.succ ?_
    simp only [windbreakref01_In.l0]
    refine Evt.ite_pos (by omega) (Evt.ite_pos (by omega) ?_)
    have hx : rd a (i : Int) = a[i] := by simp [rd_nat, hlt]
    have hr := hd a[i] (List.getElem_mem hlt)
    rw [hx]
    refine in_step a _ i _ hr (by rw [hlen, List.length_take]; omega) (by omega) ?_
    have := ih (i + 1) (by omega) (by omega)
    rw [List.take_succ_eq_append_getElem hlt, List.flatMap_append] at this
    refine this.congr (fun k => ?_) rfl
    simp
theorem ref_In_ev (a : List Int) (ha : a.length ≤ 1000) (hd : Dig (b64 : Int) a) : Evt (fun k => windbreakref01_In.f k a) (digs (num a)) := by
  have h := in_loop a ha hd a.length 0 (Nat.zero_le _) (by omega)
  obtain ⟨m, hm, _, hv, he⟩ := val_base a hd
  refine h.congr (fun k => rfl) ?_
  have e2 : a.flatMap dg = m := he.symm
  rw [e2, strip_digs hm]
  unfold num16 num
  rw [hv]
end Go.Proofs.Ytgeanpnkllnipac.Z
end

section
namespace Go.Proofs.Ytgeanpnkllnipac.Z
open Go.RowKit Go.Proofs.Ytgeanpnkllnipac.F Go.Proofs.YtgeanpnkllnipacW.PrintWords
set_option linter.unusedSimpArgs false
set_option linter.unusedVariables false
theorem mul_lt {x y : Int} (hx : 0 ≤ x ∧ x ≤ 65535) (hy : 0 ≤ y ∧ y ≤ 65535) : 0 ≤ x * y ∧ x * y ≤ 4294836225 := by
  have h1 := Int.mul_nonneg hx.1 hy.1
  have h2 : x * y ≤ 65535 * y := Int.mul_le_mul_of_nonneg_right hx.2 hy.1
  omega
theorem ref_mul_inner (a b : List Int) (da : Dig (b16 : Int) a) (db : Dig (b16 : Int) b) (ha : a.length ≤ 100000) (hb : b.length ≤ 100000) (i n : Nat) (hi : i < a.length) (hn : a.length - (i + 1) = n) {r : List Int}
    (next : ∀ p : List Int, p.length = i + 1 + b.length → Dig (b16 : Int) p → val (b16 : Int) p = val (b16 : Int) (a.take (i + 1)) * val (b16 : Int) b → Evt (fun k => windbreakref01_mul.l0 k a b (p ++ List.replicate n 0) ((i + 1 : Nat) : Int)) r) (m : Nat) :
    ∀ (j : Nat) (p : List Int) (c : Int), b.length - j = m → j ≤ b.length → p.length = i + b.length → Dig (b16 : Int) p → 0 ≤ c ∧ c < (b16 : Int) →
      val (b16 : Int) p + c * (b16 : Int) ^ (i + j) = val (b16 : Int) (a.take i) * val (b16 : Int) b + (b16 : Int) ^ i * a[i] * val (b16 : Int) (b.take j) →
      Evt (fun k => windbreakref01_mul.l1 k a b (p ++ List.replicate (n + 1) 0) (i : Int) c (j : Int)) r := by
  induction m with
  | zero =>
    intro j p c hj hjl hp dp hc hv
    refine Evt.succ ?_
    simp only [windbreakref01_mul.l1]
    refine Evt.ite_neg (by omega) ?_
    rw [w64 (show -9223372036854775808 ≤ (i : Int) + (b.length : Int) by omega) (by omega)]
    refine Evt.ite_pos (by omega) (Evt.ite_pos (by simp; omega) ?_)
    rw [w64 (by omega) (by omega), show ((i : Int) + (b.length : Int)).toNat = p.length from by omega, List.replicate_succ, set_at]
    have hj2 : j = b.length := by omega
    subst hj2
    rw [List.take_length] at hv
    refine (next (p ++ [c]) (by simp; omega) (Dig.append.2 ⟨dp, Dig.cons.2 ⟨hc, Dig.nil⟩⟩) ?_).congr (fun k => by rw [List.append_assoc]; rfl) rfl
    rw [val_append, hp, val_take_step (b16 : Int) a i hi]
    simp only [val, Int.mul_zero, Int.add_zero]
    generalize val (b16 : Int) (a.take i) = va at *
    generalize val (b16 : Int) b = vb at *
    generalize (b16 : Int) ^ (i + b.length) = P at *
    generalize (b16 : Int) ^ i = Q at *
    have : (va + Q * a[i]) * vb = va * vb + Q * a[i] * vb := by grind
    rw [this, ← hv, Int.mul_comm P c]
  | succ m ih =>
    intro j p c hj hjl hp dp hc hv
    have hjlt : j < b.length := by omega
    refine Evt.succ ?_
    simp only [windbreakref01_mul.l1]
    refine Evt.ite_pos (by omega) ?_
    rw [w64 (show -9223372036854775808 ≤ (i : Int) + (j : Int) by omega) (by omega)]
    refine Evt.ite_pos (by omega) (Evt.ite_pos (by simp; omega) (Evt.ite_pos (by omega) (Evt.ite_pos (by omega) (Evt.ite_pos (by omega) ?_))))
    have hx : rd a (i : Int) = a[i] := by simp [rd_nat, hi]
    have hy : rd b (j : Int) = b[j] := by simp [rd_nat, hjlt]
    have hz : rd (p ++ List.replicate (n + 1) 0) ((i : Int) + (j : Int)) = p.getD (i + j) 0 := by
      rw [rd_getD, show ((i : Int) + (j : Int)).toNat = i + j from by omega, getD_append_left (by omega)]
    have rx := da a[i] (List.getElem_mem hi)
    have ry := db b[j] (List.getElem_mem hjlt)
    have rz := dp.getD b16_pos (i + j)
    rw [hx, hy, hz, show ((i : Int) + (j : Int)).toNat = i + j from by omega, set_append_left (by omega)]
    have hB : (b16 : Int) = 65536 := rfl
    rw [hB] at rx ry rz hc
    obtain ⟨m1, m2⟩ := mul_lt (show 0 ≤ a[i] ∧ a[i] ≤ 65535 by omega) (show 0 ≤ b[j] ∧ b[j] ≤ 65535 by omega)
    have hv2 := val_set (b16 : Int) p (i + j) ((p.getD (i + j) 0 + a[i] * b[j] + c) % 65536) (by omega)
    have hvt := val_take_step (b16 : Int) b j hjlt
    generalize hxy : a[i] * b[j] = z at *
    rw [wu64_of m1 (by omega), wu64_of (show 0 ≤ p.getD (i + j) 0 + z by omega) (by omega), wu64_of (show 0 ≤ p.getD (i + j) 0 + z + c by omega) (by omega), Int.tmod_eq_emod_of_nonneg (by omega), Int.tdiv_eq_ediv_of_nonneg (by omega), wu64_of (by omega) (by omega), w64 (by omega) (by omega)]
    refine (ih (j + 1) (p.set (i + j) ((p.getD (i + j) 0 + z + c) % 65536)) ((p.getD (i + j) 0 + z + c) / 65536) (by omega) (by omega) (by simp; omega) (dp.set _ (by rw [hB]; omega)) (by rw [hB]; omega) ?_).congr (fun k => rfl) rfl
    rw [hv2, hvt]
    have hdm := Int.emod_add_mul_ediv (p.getD (i + j) 0 + z + c) 65536
    have hP : (b16 : Int) ^ (i + (j + 1)) = (b16 : Int) ^ (i + j) * 65536 := by rw [← Nat.add_assoc, Int.pow_succ]; rfl
    have hQ : (b16 : Int) ^ (i + j) = (b16 : Int) ^ i * (b16 : Int) ^ j := Int.pow_add ..
    rw [hP]
    generalize (p.getD (i + j) 0 + z + c) % 65536 = u at *
    generalize (p.getD (i + j) 0 + z + c) / 65536 = q at *
    generalize p.getD (i + j) 0 = y0 at *
    generalize val (b16 : Int) (a.take i) = va at *
    generalize val (b16 : Int) (b.take j) = vt at *
    generalize val (b16 : Int) b = vb at *
    generalize val (b16 : Int) p = vp at *
    generalize (b16 : Int) ^ (i + j) = P at *
    generalize (b16 : Int) ^ i = Q at *
    generalize (b16 : Int) ^ j = R at *
    subst hQ
    generalize a[i] = ai at *
    generalize b[j] = bj at *
    subst hxy
    have e1 : u = y0 + ai * bj + c - 65536 * q := by omega
    rw [e1]
    have e2 : vp = va * vb + Q * ai * vt - c * (Q * R) := by omega
    rw [e2]
    grind
theorem ref_mul_loop (a b : List Int) (da : Dig (b16 : Int) a) (db : Dig (b16 : Int) b) (ha : a.length ≤ 100000) (hb : b.length ≤ 100000) (n : Nat) :
    ∀ (i : Nat) (p : List Int), a.length - i = n → i ≤ a.length → p.length = i + b.length → Dig (b16 : Int) p → val (b16 : Int) p = val (b16 : Int) (a.take i) * val (b16 : Int) b →
      Evt (fun k => windbreakref01_mul.l0 k a b (p ++ List.replicate n 0) (i : Int)) (digs (num16 a * num16 b)) := by
  induction n with
  | zero =>
    intro i p hn hi hp dp hv
    refine Evt.succ ?_
    simp only [windbreakref01_mul.l0]
    refine Evt.ite_neg (by omega) ?_
    have h := windbreakref01_cut_ev (p ++ List.replicate 0 0) (by simp [maxLen]; omega)
    rw [List.replicate_zero, List.append_nil, strip_digs dp] at h
    have e : num16 p = num16 a * num16 b := by
      rw [List.take_of_length_le (by omega)] at hv
      have h1 := num16_val dp
      have h2 := num16_val da
      have h3 := num16_val db
      have : ((num16 p : Nat) : Int) = ((num16 a * num16 b : Nat) : Int) := by rw [h1, hv, Int.natCast_mul, h2, h3]
      omega
    rw [e] at h
    refine (Evt.bind h (h := fun t _ => some t) (Evt.pure _)).congr (fun k => by simp) rfl
  | succ n ih =>
    intro i p hn hi hp dp hv
    refine Evt.succ ?_
    simp only [windbreakref01_mul.l0]
    refine Evt.ite_pos (by omega) ?_
    refine ref_mul_inner a b da db ha hb i n (by omega) (by omega) (fun q h1 h2 h3 => ih (i + 1) q (by omega) (by omega) h1 h2 h3) b.length 0 p 0 (by omega) (by omega) hp dp (by decide) ?_
    simp [hv, val]
theorem ref_mul_ev (a b : List Int) (da : Dig (b16 : Int) a) (db : Dig (b16 : Int) b) (ha : a.length ≤ 100000) (hb : b.length ≤ 100000) : Evt (fun k => windbreakref01_mul.f k a b) (digs (num16 a * num16 b)) := by
  unfold windbreakref01_mul.f
  rw [w64 (show -9223372036854775808 ≤ (a.length : Int) + (b.length : Int) by omega) (by omega)]
  refine Evt.ite_pos (by omega) (Evt.ite_pos (by omega) ?_)
  refine (ref_mul_loop a b da db ha hb a.length 0 (List.replicate b.length 0) (by omega) (by omega) (by simp) (Dig.replicate b16_pos _) (by simp [val_replicate, val])).congr (fun k => ?_) rfl
  rw [show ((a.length : Int) + (b.length : Int)).toNat = b.length + a.length from by omega, List.replicate_append_replicate]
  rfl
end Go.Proofs.Ytgeanpnkllnipac.Z
end

section
namespace Go.Proofs.Ytgeanpnkllnipac.Z
open Go.RowKit Go.Proofs.Ytgeanpnkllnipac.F Go.Proofs.YtgeanpnkllnipacW.PrintWords
set_option linter.unusedSimpArgs false
set_option linter.unusedVariables false
theorem ref_power_loop (n : Nat) (hn : n ≤ 1000000) (m : Nat) : ∀ j : Nat, j ≤ n % 16 → n % 16 - j = m →
    Evt (fun k => windbreakref01_power.l0 k (n : Int) (List.replicate (n / 16) 0 ++ [2 ^ j]) (j : Int)) (List.replicate (n / 16) 0 ++ [2 ^ (n % 16)]) := by
  have e1 : Int.tmod (n : Int) 16 = ((n % 16 : Nat) : Int) := by rw [Int.tmod_eq_emod_of_nonneg (by omega)]; omega
  have e2 : Int.tdiv (n : Int) 16 = ((n / 16 : Nat) : Int) := by rw [Int.tdiv_eq_ediv_of_nonneg (by omega)]; omega
  induction m with
  | zero =>
    intro j hj hm
    refine Evt.succ ?_
    simp only [windbreakref01_power.l0]
    rw [e1]
    refine Evt.ite_neg (by omega) ?_
    rw [show n % 16 = j from by omega]
    exact Evt.pure _
  | succ m ih =>
    intro j hj hm
    refine Evt.succ ?_
    simp only [windbreakref01_power.l0]
    rw [e1, e2, w64 (show -9223372036854775808 ≤ ((n / 16 : Nat) : Int) by omega) (by omega)]
    refine Evt.ite_pos (by omega) (Evt.ite_pos (by omega) (Evt.ite_pos (by simp; omega) ?_))
    have hr : rd (List.replicate (n / 16) 0 ++ [2 ^ j]) ((n / 16 : Nat) : Int) = 2 ^ j := by
      rw [rd_nat]
      simp [List.getD_eq_getElem?_getD]
    have hb : (2 : Int) ^ j ≤ 2 ^ 16 := pow_mono (by omega) (by omega)
    have hp := pow2_pos j
    rw [hr, wu64_of (by omega) (by omega), w64 (by omega) (by omega)]
    refine (ih (j + 1) (by omega) (by omega)).congr (fun k => ?_) rfl
    have hs : (List.replicate (n / 16) (0 : Int) ++ [2 ^ j]).set ((n / 16 : Nat) : Int).toNat (2 ^ j * 2) = List.replicate (n / 16) 0 ++ [2 ^ (j + 1)] := by
      have := set_at (List.replicate (n / 16) (0 : Int)) (2 ^ j) (2 ^ j * 2) []
      rw [List.length_replicate] at this
      rw [Int.toNat_natCast, this, Int.pow_succ]
    rw [hs]
    rfl
theorem num16_power (n : Nat) : Dig (b16 : Int) (List.replicate (n / 16) 0 ++ [2 ^ (n % 16)]) ∧ Can (List.replicate (n / 16) 0 ++ [2 ^ (n % 16)]) ∧ num16 (List.replicate (n / 16) 0 ++ [2 ^ (n % 16)]) = 2 ^ n := by
  have hb : (2 : Int) ^ (n % 16) ≤ 2 ^ 15 := pow_mono (by omega) (by omega)
  have hp := pow2_pos (n % 16)
  have hd : Dig (b16 : Int) (List.replicate (n / 16) 0 ++ [2 ^ (n % 16)]) := Dig.append.2 ⟨Dig.replicate b16_pos _, Dig.cons.2 ⟨by simp only [b16]; omega, Dig.nil⟩⟩
  refine ⟨hd, ?_, ?_⟩
  · intro _
    simp
    omega
  · have h := num16_val hd
    rw [val_append, val_replicate] at h
    simp only [val, List.length_replicate, Int.mul_zero, Int.add_zero, Int.zero_add] at h
    have h2 : (b16 : Int) ^ (n / 16) * 2 ^ (n % 16) = 2 ^ n := by
      have : (b16 : Int) = 2 ^ 16 := by decide
      rw [this, ← Int.pow_mul, ← Int.pow_add, show 16 * (n / 16) + n % 16 = n from by omega]
    rw [h2] at h
    have h3 : ((2 : Int)) ^ n = ((2 ^ n : Nat) : Int) := by simp
    rw [h3] at h
    omega
theorem ref_power_ev (n : Nat) (hn : n ≤ 1000000) : Evt (fun k => windbreakref01_power.f k (n : Int)) (digs (2 ^ n)) := by
  unfold windbreakref01_power.f
  have e2 : Int.tdiv (n : Int) 16 = ((n / 16 : Nat) : Int) := by rw [Int.tdiv_eq_ediv_of_nonneg (by omega)]; omega
  rw [e2, w64 (show -9223372036854775808 ≤ ((n / 16 : Nat) : Int) by omega) (by omega), w64 (show -9223372036854775808 ≤ ((n / 16 : Nat) : Int) + 1 by omega) (by omega)]
  refine Evt.ite_pos (by omega) (Evt.ite_pos (by omega) ?_)
  rw [show (((n / 16 : Nat) : Int) + 1).toNat = n / 16 + 1 from by omega]
  simp only [Option.bind_some]
  refine Evt.ite_pos (by omega) (Evt.ite_pos (by simp; omega) ?_)
  obtain ⟨h1, h2, h3⟩ := num16_power n
  have h4 := digs_num h1 h2
  rw [h3] at h4
  rw [h4]
  refine (ref_power_loop n hn (n % 16) 0 (Nat.zero_le _) (by omega)).congr (fun k => ?_) rfl
  have hs : (List.replicate (n / 16 + 1) (0 : Int)).set ((n / 16 : Nat) : Int).toNat 1 = List.replicate (n / 16) 0 ++ [2 ^ 0] := by
    have := set_at (List.replicate (n / 16) (0 : Int)) 0 1 []
    rw [List.length_replicate] at this
    rw [Int.toNat_natCast, List.replicate_succ', this]
    rfl
  rw [hs]
  rfl
end Go.Proofs.Ytgeanpnkllnipac.Z
end

section
namespace Go.Proofs.Ytgeanpnkllnipac.Z
open Go.RowKit Go.Proofs.Ytgeanpnkllnipac.F Go.Proofs.YtgeanpnkllnipacW.PrintWords
set_option linter.unusedSimpArgs false
set_option linter.unusedVariables false
theorem strip_split (l : List Int) : ∃ n, l = strip l ++ List.replicate n 0 := by
  induction l with
  | nil => exact ⟨0, rfl⟩
  | cons d l ih =>
    obtain ⟨n, hn⟩ := ih
    simp only [strip]
    by_cases h : strip l = []
    · rw [if_pos h]
      rw [h, List.nil_append] at hn
      by_cases h0 : d = 0
      · rw [if_pos h0]
        refine ⟨n + 1, ?_⟩
        rw [h0, List.replicate_succ, List.nil_append, ← hn]
      · rw [if_neg h0]
        refine ⟨n, ?_⟩
        rw [List.singleton_append, ← hn]
    · rw [if_neg h]
      refine ⟨n, ?_⟩
      rw [List.cons_append, ← hn]
theorem can_of_val {B : Nat} (hB : 2 ≤ B) {l : List Int} (h : Dig (B : Int) l) (hv : l ≠ [] → (B : Int) ^ (l.length - 1) ≤ val (B : Int) l) : Can l := by
  by_cases e : l = []
  · subst e; exact Can.nil
  · have h1 := hv e
    obtain ⟨n, hn⟩ := strip_split l
    have h2 := val_lt (show (0 : Int) < (B : Int) by omega) (strip_dig h)
    rw [strip_val] at h2
    have h3 : l.length = (strip l).length + n := by
      have := congrArg List.length hn
      simpa using this
    have h4 : n = 0 := by
      by_cases hn0 : n = 0
      · exact hn0
      · have := pow_mono (show (0 : Int) < (B : Int) by omega) (show (strip l).length ≤ l.length - 1 by omega)
        omega
    subst h4
    rw [List.replicate_zero, List.append_nil] at hn
    rw [hn]
    exact strip_can l
/-- A limb out of four digits. -/
def grp (d : List Int) : Int := d.getD 0 0 + 65536 * (d.getD 1 0 + 65536 * (d.getD 2 0 + 65536 * d.getD 3 0))
def outN : Nat → List Int → List Int
  | 0, _ => []
  | n + 1, d => grp d :: outN n (d.drop 4)
theorem grp_range {d : List Int} (h : Dig (b16 : Int) d) : 0 ≤ grp d ∧ grp d < (b64 : Int) := by
  have h0 := h.getD b16_pos 0
  have h1 := h.getD b16_pos 1
  have h2 := h.getD b16_pos 2
  have h3 := h.getD b16_pos 3
  unfold grp
  simp only [b16, b64] at *
  omega
theorem val_four (d : List Int) : val (b16 : Int) d = grp d + (b64 : Int) * val (b16 : Int) (d.drop 4) := by
  unfold grp
  simp only [b16, b64]
  match d with
  | [] => simp [val]
  | [a] => simp [val]
  | [a, b] => simp [val]
  | [a, b, c] => simp [val]
  | a :: b :: c :: e :: d => simp [val]; omega
theorem outN_facts (n : Nat) : ∀ d : List Int, Dig (b16 : Int) d → d.length ≤ 4 * n → Dig (b64 : Int) (outN n d) ∧ val (b64 : Int) (outN n d) = val (b16 : Int) d ∧ (outN n d).length = n := by
  induction n with
  | zero =>
    intro d _ h
    have : d = [] := List.length_eq_zero_iff.1 (by omega)
    subst this
    exact ⟨Dig.nil, rfl, rfl⟩
  | succ n ih =>
    intro d hd h
    obtain ⟨i1, i2, i3⟩ := ih (d.drop 4) (hd.drop 4) (by simp; omega)
    refine ⟨Dig.cons.2 ⟨grp_range hd, i1⟩, ?_, by simp [outN, i3]⟩
    rw [val_four d]
    simp only [outN, val, i2]
theorem out_limbs (v : Nat) : outN (((digs v).length + 3) / 4) (digs v) = limbs v := by
  obtain ⟨f1, f2, f3⟩ := outN_facts (((digs v).length + 3) / 4) (digs v) (toD_dig b16_two v) (by omega)
  rw [val_toD b16_two] at f2
  have hc : Can (outN (((digs v).length + 3) / 4) (digs v)) := by
    refine can_of_val b64_two f1 (fun hne => ?_)
    rw [f2, f3, b64_pow, pow_cast, ← Nat.pow_mul]
    have hl : 0 < ((digs v).length + 3) / 4 := by rw [← f3]; exact List.length_pos_iff.2 hne
    have hd : digs v ≠ [] := by intro e; rw [e] at hl; simp at hl
    have h1 := val_pos b16_pos (toD_dig b16_two v) (toD_can b16_two v) hd
    rw [val_toD b16_two, pow_cast] at h1
    have h2 : b16 ^ (4 * (((digs v).length + 3) / 4 - 1)) ≤ b16 ^ ((digs v).length - 1) := Nat.pow_le_pow_right (by decide) (by omega)
    exact Int.le_trans (Int.ofNat_le.2 h2) h1
  have := limbs_num f1 hc
  rw [← this]
  unfold num
  rw [f2]
  rfl
theorem out_inner (d acc : List Int) (i : Nat) (hd : Dig (b16 : Int) d) (hacc : acc.length ≤ 1000000) (hi : i ≤ 4000000) {r : List Int × Bool}
    (h : Evt (fun k => windbreakref01_Out.l0 k d (acc ++ [grp (d.drop i)]) ((i + 4 : Nat) : Int)) r) : Evt (fun k => windbreakref01_Out.l1 k d acc (i : Int) 0 3) r := by
  have step : ∀ (x : Int) (j : Nat), j ≤ 3 → 0 ≤ x → x * 65536 + 65535 < 18446744073709551616 →
      Evt (fun k => windbreakref01_Out.l1 k d acc (i : Int) (x * 65536 + (d.drop i).getD j 0) ((j : Int) - 1)) r →
      Evt (fun k => windbreakref01_Out.l1 k d acc (i : Int) x (j : Int)) r := by
    intro x j hj hx hx2 hs
    have hdig := (hd.drop i).getD b16_pos j
    simp only [b16] at hdig
    refine Evt.succ ?_
    simp only [windbreakref01_Out.l1]
    refine Evt.ite_pos (by omega) ?_
    rw [w64 (show -9223372036854775808 ≤ (i : Int) + (j : Int) by omega) (by omega), w64 (show -9223372036854775808 ≤ (j : Int) - 1 by omega) (by omega), wu64_of (show 0 ≤ x * 65536 by omega) (by omega)]
    by_cases hlt : i + j < d.length
    · refine Evt.ite_pos (by omega) (Evt.ite_pos (by omega) ?_)
      have e : rd d ((i : Int) + (j : Int)) = (d.drop i).getD j 0 := by
        rw [rd_getD, show ((i : Int) + (j : Int)).toNat = i + j from by omega]
        simp [List.getD_eq_getElem?_getD]
      rw [e, wu64_of (by omega) (by omega)]
      exact hs
    · refine Evt.ite_neg (by omega) ?_
      have e : (d.drop i).getD j 0 = 0 := by
        simp [List.getD_eq_getElem?_getD, List.getElem?_eq_none (by omega : d.length ≤ i + j)]
      rw [e, Int.add_zero] at hs
      exact hs
  have h0 := (hd.drop i).getD b16_pos 0
  have h1 := (hd.drop i).getD b16_pos 1
  have h2 := (hd.drop i).getD b16_pos 2
  have h3 := (hd.drop i).getD b16_pos 3
  simp only [b16] at h0 h1 h2 h3
  refine step 0 3 (by omega) (by omega) (by omega) ?_
  refine (step (0 * 65536 + (d.drop i).getD 3 0) 2 (by omega) (by omega) (by omega) ?_).congr (fun k => rfl) rfl
  refine (step ((0 * 65536 + (d.drop i).getD 3 0) * 65536 + (d.drop i).getD 2 0) 1 (by omega) (by omega) (by omega) ?_).congr (fun k => rfl) rfl
  refine (step (((0 * 65536 + (d.drop i).getD 3 0) * 65536 + (d.drop i).getD 2 0) * 65536 + (d.drop i).getD 1 0) 0 (by omega) (by omega) (by omega) ?_).congr (fun k => rfl) rfl
  refine Evt.succ ?_
  simp only [windbreakref01_Out.l1]
  refine Evt.ite_neg (by omega) (Evt.ite_pos (by omega) ?_)
  rw [w64 (by omega) (by omega)]
  refine h.congr (fun k => ?_) rfl
  have e : (((0 * 65536 + (d.drop i).getD 3 0) * 65536 + (d.drop i).getD 2 0) * 65536 + (d.drop i).getD 1 0) * 65536 + (d.drop i).getD 0 0 = grp (d.drop i) := by
    unfold grp; omega
  rw [e, show (i : Int) + 4 = ((i + 4 : Nat) : Int) from by omega]
theorem out_loop (d : List Int) (hd : Dig (b16 : Int) d) (hlen : d.length ≤ 1000000) (n : Nat) : ∀ (i : Nat) (acc : List Int), acc.length ≤ i → i ≤ d.length + 3 → (d.length - i + 3) / 4 = n →
    Evt (fun k => windbreakref01_Out.l0 k d acc (i : Int)) (acc ++ outN n (d.drop i), decide ((acc ++ outN n (d.drop i)).length ≤ 64)) := by
  induction n with
  | zero =>
    intro i acc hacc hi hn
    refine Evt.succ ?_
    simp only [windbreakref01_Out.l0]
    refine Evt.ite_neg (by omega) ?_
    simp only [outN, List.append_nil]
    refine (Evt.pure _).congr (fun k => rfl) ?_
    congr 1
    simp only [decide_eq_decide]
    omega
  | succ n ih =>
    intro i acc hacc hi hn
    refine Evt.succ ?_
    simp only [windbreakref01_Out.l0]
    refine Evt.ite_pos (by omega) ?_
    refine out_inner d acc i hd (by omega) (by omega) ?_
    refine (ih (i + 4) (acc ++ [grp (d.drop i)]) (by simp; omega) (by omega) (by omega)).congr (fun k => rfl) ?_
    simp [outN, List.drop_drop]
theorem ref_Out_ev (v : Nat) (hv : v < lim) : Evt (fun k => windbreakref01_Out.f k (digs v)) (limbs v, decide (v < b64 ^ 64)) := by
  have hlen : (digs v).length ≤ 1000000 := Nat.le_trans (digs_len hv) (by omega)
  have h := out_loop (digs v) (toD_dig b16_two v) hlen (((digs v).length + 3) / 4) 0 [] (Nat.le_refl _) (by omega) (by omega)
  refine h.congr (fun k => rfl) ?_
  rw [List.nil_append, List.drop_zero, out_limbs]
  have := limbs_long v
  simp only [this]
end Go.Proofs.Ytgeanpnkllnipac.Z
end

section
namespace Go.Proofs.Ytgeanpnkllnipac.Z
open Go.RowKit Go.Proofs.Ytgeanpnkllnipac.F Go.Proofs.YtgeanpnkllnipacW.PrintWords
set_option linter.unusedSimpArgs false
set_option linter.unusedVariables false
theorem ref_told_ev (v : Nat) (hv : v < lim) : Evt (fun k => windbreakref01_told.f k (digs v)) (toldV v) := by
  unfold windbreakref01_told.f toldV
  refine Evt.bind (ref_Out_ev v hv) ?_
  by_cases h : v < b64 ^ 64
  · simp only [h, decide_true, if_true]
    exact Evt.pure _
  · simp only [h, decide_false, if_false]
    exact Evt.ite_neg (by simp) (Evt.pure _)
end Go.Proofs.Ytgeanpnkllnipac.Z
end

section
namespace Go.Proofs.Ytgeanpnkllnipac.Z
open Go.RowKit Go.Proofs.YtgeanpnkllnipacW.PrintWords
set_option linter.unusedSimpArgs false
set_option linter.unusedVariables false
theorem pow2_lim {n : Nat} (hn : n ≤ 4096) : 2 ^ n * 65536 < lim := by
  have h2 : 2 ^ n ≤ b64 ^ 64 := pow2_le_b64 (by omega)
  have h3 : 2 ^ n * 65536 ≤ b64 ^ 64 * 65536 := Nat.mul_le_mul_right _ h2
  have h4 : b64 ^ 64 * 65536 < b64 ^ 64 * b64 := Nat.mul_lt_mul_of_pos_left (by decide) (Nat.pow_pos (by decide))
  have h5 : b64 ^ (64 + 1) ≤ lim := lim_pow (by omega)
  rw [Nat.pow_succ] at h5
  exact Nat.lt_of_le_of_lt h3 (Nat.lt_of_lt_of_le h4 h5)
end Go.Proofs.Ytgeanpnkllnipac.Z
end

section
namespace Go.Proofs.Ytgeanpnkllnipac.Z
open Go.RowKit Go.Proofs.Ytgeanpnkllnipac.F Go.Proofs.YtgeanpnkllnipacW.PrintWords
set_option linter.unusedSimpArgs false
set_option linter.unusedVariables false
theorem ref_digit_eq (l : List Int) (i : Nat) : windbreakref01_digit.f l (i : Int) = some (l.getD i 0) := by
  unfold windbreakref01_digit.f
  by_cases h : i < l.length
  · rw [if_pos (by omega), if_pos (by omega), rd_nat]
  · rw [if_neg (by omega)]
    simp [List.getD_eq_getElem?_getD, List.getElem?_eq_none (by omega : l.length ≤ i)]
end Go.Proofs.Ytgeanpnkllnipac.Z
end

section
namespace Go.Proofs.Ytgeanpnkllnipac.Z
open Go.RowKit Go.Proofs.Ytgeanpnkllnipac.F Go.Proofs.YtgeanpnkllnipacW.PrintWords
set_option linter.unusedSimpArgs false
set_option linter.unusedVariables false
def subL : Nat → List Int → List Int → Int → List Int
  | 0, _, _, _ => []
  | n + 1, a, b, c => (65536 + a.getD 0 0 - b.getD 0 0 - c) % 65536 :: subL n (a.drop 1) (b.drop 1) (1 - (65536 + a.getD 0 0 - b.getD 0 0 - c) / 65536)
theorem val_headS (B : Int) (b : List Int) : val B b = b.getD 0 0 + B * val B (b.drop 1) := by
  cases b with
  | nil => simp [val]
  | cons y b => simp [val]
theorem subL_len (n : Nat) : ∀ (a b : List Int) (c : Int), (subL n a b c).length = n := by
  induction n with
  | zero => intro a b c; rfl
  | succ n ih => intro a b c; simp only [subL, List.length_cons, ih]
theorem subL_facts (n : Nat) : ∀ (a b : List Int) (c : Int), Dig (b16 : Int) a → Dig (b16 : Int) b → a.length ≤ n → b.length ≤ n → (c = 0 ∨ c = 1) →
    Dig (b16 : Int) (subL n a b c) ∧ ∃ t, 0 ≤ t ∧ val (b16 : Int) (subL n a b c) = val (b16 : Int) a - val (b16 : Int) b - c + (b16 : Int) ^ n * t := by
  induction n with
  | zero =>
    intro a b c _ _ ha hb hc
    have e1 : a = [] := List.length_eq_zero_iff.1 (by omega)
    have e2 : b = [] := List.length_eq_zero_iff.1 (by omega)
    subst e1 e2
    exact ⟨Dig.nil, c, by omega, by simp [subL, val]; omega⟩
  | succ n ih =>
    intro a b c da db ha hb hc
    have h1 := da.getD b16_pos 0
    have h2 := db.getD b16_pos 0
    simp only [b16] at h1 h2
    obtain ⟨i1, t, ht, i2⟩ := ih (a.drop 1) (b.drop 1) (1 - (65536 + a.getD 0 0 - b.getD 0 0 - c) / 65536) (da.drop 1) (db.drop 1) (by simp; omega) (by simp; omega) (by omega)
    refine ⟨Dig.cons.2 ⟨by simp only [b16]; omega, i1⟩, t, ht, ?_⟩
    rw [val_headS (b16 : Int) a, val_headS (b16 : Int) b]
    simp only [subL, val]
    rw [i2, Int.pow_succ]
    generalize (b16 : Int) ^ n = P at *
    simp only [b16]
    generalize val ((65536 : Nat) : Int) (a.drop 1) = va at *
    generalize val ((65536 : Nat) : Int) (b.drop 1) = vb at *
    have h3 : ((65536 : Nat) : Int) * (va - vb - (1 - (65536 + a.getD 0 0 - b.getD 0 0 - c) / 65536) + P * t) = 65536 * va - 65536 * vb - 65536 * (1 - (65536 + a.getD 0 0 - b.getD 0 0 - c) / 65536) + P * ((65536 : Nat) : Int) * t := by grind
    rw [h3]
    omega
theorem ref_sub_loop (a b : List Int) (da : Dig (b16 : Int) a) (db : Dig (b16 : Int) b) (ha : a.length ≤ 1000000) (n : Nat) : ∀ (i : Nat) (p : List Int) (c : Int), p.length = i → i ≤ a.length → a.length - i = n → (c = 0 ∨ c = 1) →
    Evt (fun k => windbreakref01_sub.l0 k a b p c (i : Int)) (strip (p ++ subL n (a.drop i) (b.drop i) c)) := by
  induction n with
  | zero =>
    intro i p c hp hi hn hc
    refine Evt.succ ?_
    simp only [windbreakref01_sub.l0]
    refine Evt.ite_neg (by omega) ?_
    simp only [subL, List.append_nil]
    exact Evt.bind (windbreakref01_cut_ev p (by simp [maxLen]; omega)) (h := fun t _ => some t) (Evt.pure _)
  | succ n ih =>
    intro i p c hp hi hn hc
    have hlt : i < a.length := by omega
    refine Evt.succ ?_
    simp only [windbreakref01_sub.l0]
    refine Evt.ite_pos (by omega) (Evt.ite_pos (by omega) ?_)
    rw [ref_digit_eq, rd_nat]
    simp only [Option.bind_some]
    refine Evt.ite_pos (by omega) ?_
    have h1 := da.getD b16_pos i
    have h2 := db.getD b16_pos i
    simp only [b16] at h1 h2
    rw [wu64_of (show 0 ≤ 65536 + a.getD i 0 by omega) (by omega), wu64_of (show 0 ≤ 65536 + a.getD i 0 - b.getD i 0 by omega) (by omega), wu64_of (show 0 ≤ 65536 + a.getD i 0 - b.getD i 0 - c by omega) (by omega)]
    rw [Int.tmod_eq_emod_of_nonneg (by omega), Int.tdiv_eq_ediv_of_nonneg (by omega), wu64_of (show 0 ≤ (65536 + a.getD i 0 - b.getD i 0 - c) / 65536 by omega) (by omega), wu64_of (by omega) (by omega), w64 (by omega) (by omega)]
    have e1 : (a.drop i).getD 0 0 = a.getD i 0 := by simp [List.getD_eq_getElem?_getD]
    have e2 : (b.drop i).getD 0 0 = b.getD i 0 := by simp [List.getD_eq_getElem?_getD]
    refine (ih (i + 1) (p ++ [(65536 + a.getD i 0 - b.getD i 0 - c) % 65536]) (1 - (65536 + a.getD i 0 - b.getD i 0 - c) / 65536) (by simp [hp]) (by omega) (by omega) (by omega)).congr (fun k => rfl) ?_
    simp only [subL, e1, e2, List.drop_drop, List.append_assoc, List.singleton_append]
theorem ref_sub_ev (v w : Nat) (hv : v < lim) (hle : w ≤ v) : Evt (fun k => windbreakref01_sub.f k (digs v) (digs w)) (digs (v - w)) := by
  have h1 := digs_len hv
  have d1 := toD_dig b16_two v
  have d2 := toD_dig b16_two w
  have hlen : (digs w).length ≤ (digs v).length := by
    rw [toD_len_iff b16_two]
    exact Nat.lt_of_le_of_lt hle (toD_lt_pow b16_two v)
  have h := ref_sub_loop (digs v) (digs w) d1 d2 (by omega) (digs v).length 0 [] 0 rfl (Nat.zero_le _) (by omega) (Or.inl rfl)
  refine h.congr (fun k => rfl) ?_
  obtain ⟨f1, t, ht, f2⟩ := subL_facts (digs v).length (digs v) (digs w) 0 d1 d2 (Nat.le_refl _) hlen (Or.inl rfl)
  rw [List.nil_append, List.drop_zero, List.drop_zero, strip_digs f1]
  rw [val_toD b16_two, val_toD b16_two, pow_cast] at f2
  have h4 := val_lt b16_pos f1
  rw [subL_len, pow_cast] at h4
  have ht0 : t = 0 := by
    by_cases e : t = 0
    · exact e
    · have h5 : ((b16 ^ (digs v).length : Nat) : Int) * 1 ≤ ((b16 ^ (digs v).length : Nat) : Int) * t := Int.mul_le_mul_of_nonneg_left (by omega) (by omega)
      omega
  subst ht0
  rw [Int.mul_zero] at f2
  unfold num16
  rw [f2]
  congr 1
  omega
end Go.Proofs.Ytgeanpnkllnipac.Z
end

section
namespace Go.Proofs.Ytgeanpnkllnipac.Z
open Go.RowKit Go.Proofs.Ytgeanpnkllnipac.F Go.Proofs.YtgeanpnkllnipacW.PrintWords
set_option linter.unusedSimpArgs false
set_option linter.unusedVariables false
theorem dig_one16 {x : Int} (h : 0 ≤ x ∧ x < 65536) : Dig (b16 : Int) [x] := Dig.cons.2 ⟨h, Dig.nil⟩
theorem num16_one {x : Int} (h : 0 ≤ x) : num16 [x] = x.toNat := by simp [num16, val]
/-- The halving: the greatest digit whose product is not above X. -/
theorem ref_div_halve (a : List Int) (w X : Nat) (q : List Int) (i : Nat) (hw : 0 < w) (hwl : w * 65536 < lim) (hX : X < lim) {r : List Int × List Int} (hq : q.length = a.length) (hi : i < a.length)
    (next : ∀ d : Nat, d < 65536 → d * w ≤ X → X < (d + 1) * w → Evt (fun k => windbreakref01_div.l0 k a (digs w) (q.set i (d : Int)) (digs (X - d * w)) ((i : Int) - 1)) r) (ha : a.length ≤ 100000) (n : Nat) :
    ∀ lo hi_ : Nat, hi_ - lo = n → lo ≤ hi_ → hi_ ≤ 65535 → lo * w ≤ X → X < (hi_ + 1) * w →
      Evt (fun k => windbreakref01_div.l1 k a (digs w) q (digs X) (i : Int) (lo : Int) (hi_ : Int)) r := by
  have hwlim : w < lim := by omega
  have hwd := digs_len hwlim
  have mulm : ∀ m : Nat, m < 65536 → Evt (fun k => windbreakref01_mul.f k (digs w) [(m : Int)]) (digs (m * w)) := by
    intro m hm
    refine (ref_mul_ev (digs w) [(m : Int)] (toD_dig b16_two w) (dig_one16 (by omega)) (by omega) (by simp)).congr (fun k => rfl) ?_
    rw [num16_digs, num16_one (by omega), Int.toNat_natCast, Nat.mul_comm]
  induction n using Nat.strongRecOn with
  | _ n ih =>
    intro lo hi_ hn hle h5 hlo hhi
    refine Evt.succ ?_
    simp only [windbreakref01_div.l1]
    by_cases hlt : lo < hi_
    · refine Evt.ite_pos (by omega) ?_
      have em : IntKind.u64.wrap (Int.tdiv (IntKind.u64.wrap (IntKind.u64.wrap ((lo : Int) + (hi_ : Int)) + 1)) 2) = (((lo + hi_ + 1) / 2 : Nat) : Int) := by
        rw [wu64_of (show 0 ≤ (lo : Int) + (hi_ : Int) by omega) (by omega), wu64_of (show 0 ≤ (lo : Int) + (hi_ : Int) + 1 by omega) (by omega), Int.tdiv_eq_ediv_of_nonneg (by omega), wu64_of (by omega) (by omega)]
        omega
      rw [em]
      generalize hm : (lo + hi_ + 1) / 2 = m
      have hm1 : lo < m ∧ m ≤ hi_ := by omega
      refine Evt.bind (mulm m (by omega)) ?_
      have hmw : m * w < lim := by
        have : m * w ≤ 65536 * w := Nat.mul_le_mul_right w (by omega)
        rw [Nat.mul_comm] at hwl
        omega
      refine Evt.bind (ref_compare_ev (m * w) X hmw) ?_
      by_cases hc : m * w ≤ X
      · refine Evt.ite_pos ?_ ?_
        · unfold cmpN
          by_cases h1 : m * w < X
          · rw [if_pos h1]; omega
          · rw [if_neg h1, if_pos (by omega)]; omega
        · exact ih (hi_ - m) (by omega) m hi_ rfl (by omega) h5 hc hhi
      · refine Evt.ite_neg ?_ ?_
        · unfold cmpN
          rw [if_neg (by omega), if_neg (by omega)]; omega
        · have e : IntKind.u64.wrap ((m : Int) - 1) = ((m - 1 : Nat) : Int) := by rw [wu64_of (by omega) (by omega)]; omega
          rw [e]
          refine ih (m - 1 - lo) (by omega) lo (m - 1) rfl (by omega) (by omega) hlo ?_
          rw [show m - 1 + 1 = m from by omega]
          omega
    · refine Evt.ite_neg (by omega) (Evt.ite_pos (by omega) (Evt.ite_pos (by omega) ?_))
      have e : lo = hi_ := by omega
      subst e
      refine Evt.bind (mulm lo (by omega)) ?_
      refine Evt.bind (ref_sub_ev X (lo * w) hX hlo) ?_
      rw [w64 (by omega) (by omega)]
      refine (next lo (by omega) hlo hhi).congr (fun k => rfl) rfl
theorem ref_div_loop (a : List Int) (da : Dig (b16 : Int) a) (w : Nat) (hw : 0 < w) (hwl : w * 65536 < lim) (ha : a.length ≤ 100000) (hb : b16 ^ a.length ≤ lim) (n : Nat) :
    ∀ (Q : List Int) (R : Nat), Dig (b16 : Int) Q → Q.length = a.length - n → n ≤ a.length → R < w → num16 (a.drop n) = num16 Q * w + R →
      Evt (fun k => windbreakref01_div.l0 k a (digs w) (List.replicate n 0 ++ Q) (digs R) ((n : Int) - 1)) (digs (num16 a / w), digs (num16 a % w)) := by
  induction n with
  | zero =>
    intro Q R dQ hQ hn hR hv
    refine Evt.succ ?_
    simp only [windbreakref01_div.l0]
    refine Evt.ite_neg (by omega) ?_
    rw [List.replicate_zero, List.nil_append]
    rw [List.drop_zero] at hv
    have h := windbreakref01_cut_ev Q (by simp [maxLen]; omega)
    rw [strip_digs dQ] at h
    have e1 : num16 Q = num16 a / w := by
      rw [hv, Nat.mul_comm, Nat.mul_add_div hw, Nat.div_eq_of_lt hR, Nat.add_zero]
    have e2 : R = num16 a % w := by
      rw [hv, Nat.mul_comm, Nat.mul_add_mod, Nat.mod_eq_of_lt hR]
    rw [← e1, ← e2]
    exact Evt.bind h (h := fun t _ => some (t, digs R)) (Evt.pure _)
  | succ n ih =>
    intro Q R dQ hQ hn hR hv
    have hlt : n < a.length := by omega
    refine Evt.succ ?_
    simp only [windbreakref01_div.l0]
    rw [show ((n + 1 : Nat) : Int) - 1 = (n : Int) from by omega]
    refine Evt.ite_pos (by omega) (Evt.ite_pos (by omega) (Evt.ite_pos (by omega) ?_))
    simp only [Option.bind_some]
    have hx : rd a (n : Int) = a[n] := by simp [rd_nat, hlt]
    rw [hx]
    have rx := da a[n] (List.getElem_mem hlt)
    have hRl : R < lim := by omega
    have hRd := digs_len hRl
    refine Evt.ite_pos (by simp; omega) ?_
    have dX : Dig (b16 : Int) ([a[n]] ++ digs R) := Dig.cons.2 ⟨rx, toD_dig b16_two R⟩
    have hXn : num16 ([a[n]] ++ digs R) = a[n].toNat + 65536 * R := by
      have h1 := num16_val dX
      have h2 : val (b16 : Int) ([a[n]] ++ digs R) = a[n] + (b16 : Int) * val (b16 : Int) (digs R) := rfl
      rw [h2, val_toD b16_two] at h1
      simp only [b16] at h1 rx
      omega
    have h := windbreakref01_cut_ev ([a[n]] ++ digs R) (by simp [maxLen]; omega)
    rw [strip_digs dX, hXn] at h
    refine Evt.bind h ?_
    generalize hX : a[n].toNat + 65536 * R = X
    have hXw : X < 65536 * w := by
      simp only [b16] at rx
      have : 65536 * (R + 1) ≤ 65536 * w := Nat.mul_le_mul_left _ hR
      omega
    have hq1 : List.replicate (n + 1) (0 : Int) ++ Q = List.replicate n 0 ++ (0 :: Q) := by rw [List.replicate_succ', List.append_assoc]; rfl
    rw [hq1]
    refine ref_div_halve a w X _ n hw hwl (by rw [Nat.mul_comm] at hwl; omega) (by simp; omega) hlt ?_ ha 65535 0 65535 rfl (by omega) (by omega) (by omega) (by omega)
    intro d hd h1 h2
    have hs : (List.replicate n (0 : Int) ++ 0 :: Q).set n (d : Int) = List.replicate n 0 ++ ((d : Int) :: Q) := by
      have := set_at (List.replicate n (0 : Int)) 0 (d : Int) Q
      rw [List.length_replicate] at this
      exact this
    rw [hs]
    have dQ2 : Dig (b16 : Int) ((d : Int) :: Q) := Dig.cons.2 ⟨by simp only [b16]; omega, dQ⟩
    refine ih ((d : Int) :: Q) (X - d * w) dQ2 (by simp; omega) (by omega) ?_ ?_
    · rw [Nat.add_mul, Nat.one_mul] at h2
      omega
    · have dA : Dig (b16 : Int) (a.drop n) := da.drop n
      have g1 := num16_val dA
      have g2 := num16_val (da.drop (n + 1))
      have g3 := num16_val dQ2
      have g4 := num16_val dQ
      rw [List.drop_eq_getElem_cons hlt] at g1 ⊢
      simp only [val] at g1 g3
      rw [← g2] at g1
      rw [← g4] at g3
      rw [hv] at g1
      simp only [b16] at g1 g3 rx
      have g5 : num16 ((d : Int) :: Q) = d + 65536 * num16 Q := by omega
      rw [g5]
      generalize num16 Q = Qn at *
      have g6 : (d + 65536 * Qn) * w = d * w + 65536 * (Qn * w) := by rw [Nat.add_mul, Nat.mul_assoc]
      rw [g6]
      generalize Qn * w = z at *
      generalize d * w = y at *
      omega
theorem ref_div_ev (v w : Nat) (hv : v < lim) (hw : 0 < w) (hwl : w * 65536 < lim) : Evt (fun k => windbreakref01_div.f k (digs v) (digs w)) (digs (v / w), digs (v % w)) := by
  have hd := digs_len hv
  unfold windbreakref01_div.f
  refine Evt.ite_pos (by omega) (Evt.ite_pos (by omega) ?_)
  rw [w64 (by omega) (by omega)]
  have hb : b16 ^ (digs v).length ≤ lim := by
    have h : lim = b16 ^ (4 * thousand) := by
      unfold lim
      rw [b64_pow, ← Nat.pow_mul]
    rw [h]
    exact Nat.pow_le_pow_right (by decide) hd
  have h := ref_div_loop (digs v) (toD_dig b16_two v) w hw hwl (by omega) hb (digs v).length [] 0 Dig.nil (by simp) (Nat.le_refl _) hw (by rw [List.drop_length]; simp [num16_nil])
  rw [num16_digs] at h
  refine h.congr (fun k => ?_) rfl
  rw [List.append_nil, Int.toNat_natCast, show digs 0 = [] from toD_zero b16]
end Go.Proofs.Ytgeanpnkllnipac.Z
end

section
namespace Go.Proofs.Ytgeanpnkllnipac.Z
open Go.RowKit Go.Proofs.Ytgeanpnkllnipac.F Go.Proofs.YtgeanpnkllnipacW.PrintWords
set_option linter.unusedSimpArgs false
set_option linter.unusedVariables false
def shrW (a : List Int) (n : Int) : List Int × Int :=
  if rightB a = true ∧ 0 ≤ n then (limbs (num a / 2 ^ n.toNat), 0) else ([], 1)
theorem ref_Shr_ev (a : List Int) (n : Int) (ha : a.length ≤ maxLen) (da : Dig (b64 : Int) a) : Evt (fun k => windbreakref01_Shr.f k a n) (shrW a n) := by
  unfold windbreakref01_Shr.f shrW
  rw [windbreakref01_Right_eq ha]
  simp only [Option.bind_some]
  have J : ∀ x : Bool, (x = false → rightB a = true ∧ 0 ≤ n) → Evt (fun k => windbreakref01_Shr.j0 k a n x) (if x = true then ([], 1) else (limbs (num a / 2 ^ n.toNat), 0)) := by
    intro x hx
    refine Evt.succ ?_
    simp only [windbreakref01_Shr.j0]
    refine Evt.cond (fun _ => Evt.pure _) (fun hc => ?_)
    have h := hx (by simpa using hc)
    obtain ⟨h1, c1⟩ := (rightB_iff a).1 h.1
    obtain ⟨m, rfl⟩ := Int.eq_ofNat_of_zero_le h.2
    rw [Int.toNat_natCast]
    have hp := num_lt_p da h1
    by_cases hn : 4096 ≤ m
    · have e : num a / 2 ^ m = 0 := by
        apply Nat.div_eq_of_lt
        exact Nat.lt_of_lt_of_le hp (b64_le_pow2 (by omega))
      rw [e, show limbs 0 = [] from toD_zero b64]
      exact Evt.ite_pos (by omega) (Evt.pure _)
    · refine Evt.ite_neg (by omega) ?_
      have n2 := num_lt_lim da (by omega)
      refine Evt.bind (ref_In_ev a (by omega) da) (Evt.bind (ref_power_ev m (by omega)) ?_)
      refine Evt.bind (ref_div_ev (num a) (2 ^ m) n2 (Nat.pow_pos (by decide)) (pow2_lim (by omega))) ?_
      have h3 : num a / 2 ^ m ≤ num a := Nat.div_le_self _ _
      have h4 := ref_told_ev (num a / 2 ^ m) (Nat.lt_of_le_of_lt h3 n2)
      have e : toldV (num a / 2 ^ m) = (limbs (num a / 2 ^ m), 0) := if_pos (Nat.lt_of_le_of_lt h3 hp)
      rw [e] at h4
      exact Evt.bind h4 (h := fun t _ => some (t.1, t.2)) (Evt.pure _)
  cases hA : rightB a with
  | true =>
    refine Evt.ite_pos rfl ((J _ (fun h => ⟨hA, by simpa using h⟩)).congr (fun k => rfl) ?_)
    by_cases hn : n < 0
    · rw [decide_eq_true hn, if_pos rfl, if_neg (show ¬ (true = true ∧ 0 ≤ n) by omega)]
    · rw [decide_eq_false hn, if_neg (by simp), if_pos (show true = true ∧ 0 ≤ n from ⟨rfl, by omega⟩)]
  | false =>
    refine Evt.ite_neg (by simp) ((J _ (fun h => by simp at h)).congr (fun k => rfl) ?_)
    simp
end Go.Proofs.Ytgeanpnkllnipac.Z
end

section
namespace Go.Proofs.Ytgeanpnkllnipac.Z
open Go.RowKit Go.Proofs.Ytgeanpnkllnipac.F Go.Proofs.YtgeanpnkllnipacW.PrintWords
set_option linter.unusedSimpArgs false
set_option linter.unusedVariables false
def subW (a b : List Int) : List Int × Int := if rightB a = true ∧ rightB b = true then (if num a < num b then ([], 2) else (limbs (num a - num b), 0)) else ([], 1)
theorem ref_Sub_ev (a b : List Int) (ha : a.length ≤ maxLen) (hb : b.length ≤ maxLen) (da : Dig (b64 : Int) a) (db : Dig (b64 : Int) b) : Evt (fun k => windbreakref01_Sub.f k a b) (subW a b) := by
  unfold windbreakref01_Sub.f subW
  rw [windbreakref01_Right_eq ha, windbreakref01_Right_eq hb]
  simp only [Option.bind_some]
  have J : ∀ x : Bool, (x = false → rightB a = true ∧ rightB b = true) → Evt (fun k => windbreakref01_Sub.j0 k a b x) (if x = true then ([], 1) else if num a < num b then ([], 2) else (limbs (num a - num b), 0)) := by
    intro x hx
    refine Evt.succ ?_
    simp only [windbreakref01_Sub.j0]
    refine Evt.cond (fun _ => Evt.pure _) (fun hc => ?_)
    have h := hx (by simpa using hc)
    obtain ⟨h1, c1⟩ := (rightB_iff a).1 h.1
    obtain ⟨h2, c2⟩ := (rightB_iff b).1 h.2
    have n1 : num a < b64 ^ 64 := num_lt_p da h1
    have n2 := num_lt_lim da (by omega)
    refine Evt.bind (ref_In_ev a (by omega) da) (Evt.bind (ref_In_ev b (by omega) db) ?_)
    refine Evt.bind (ref_compare_ev (num a) (num b) n2) ?_
    by_cases hlt : num a < num b
    · have e : cmpN (num a) (num b) = -1 := if_pos hlt
      rw [e, if_pos hlt]
      exact Evt.ite_pos (by omega) (Evt.pure _)
    · have e : ¬ cmpN (num a) (num b) < 0 := by
        unfold cmpN
        rw [if_neg hlt]
        by_cases e2 : num a = num b
        · rw [if_pos e2]; omega
        · rw [if_neg e2]; omega
      rw [if_neg hlt]
      refine Evt.ite_neg e ?_
      refine Evt.bind (ref_sub_ev (num a) (num b) n2 (by omega)) ?_
      have h5 := ref_told_ev (num a - num b) (by omega)
      have e3 : toldV (num a - num b) = (limbs (num a - num b), 0) := if_pos (by omega)
      rw [e3] at h5
      exact Evt.bind h5 (h := fun t _ => some (t.1, t.2)) (Evt.pure _)
  cases hA : rightB a with
  | true =>
    refine Evt.ite_pos rfl ((J _ (fun h => ⟨hA, by simpa using h⟩)).congr (fun k => rfl) ?_)
    cases hB : rightB b <;> simp
  | false =>
    refine Evt.ite_neg (by simp) ((J _ (fun h => by simp at h)).congr (fun k => rfl) ?_)
    simp
end Go.Proofs.Ytgeanpnkllnipac.Z
end

section
namespace Go.Proofs.Ytgeanpnkllnipac.Z
open Go.RowKit Go.Proofs.Ytgeanpnkllnipac.F Go.Proofs.YtgeanpnkllnipacW.PrintWords
set_option linter.unusedSimpArgs false
set_option linter.unusedVariables false
def cmpW (a b : List Int) : Int := if rightB a = true ∧ rightB b = true then cmpN (num a) (num b) else 0
theorem ref_Cmp_ev (a b : List Int) (ha : a.length ≤ maxLen) (hb : b.length ≤ maxLen) (da : Dig (b64 : Int) a) (db : Dig (b64 : Int) b) : Evt (fun k => windbreakref01_Cmp.f k a b) (cmpW a b) := by
  unfold windbreakref01_Cmp.f cmpW
  rw [windbreakref01_Right_eq ha, windbreakref01_Right_eq hb]
  simp only [Option.bind_some]
  have J : ∀ x : Bool, (x = false → rightB a = true ∧ rightB b = true) → Evt (fun k => windbreakref01_Cmp.j0 k a b x) (if x = true then 0 else cmpN (num a) (num b)) := by
    intro x hx
    refine Evt.succ ?_
    simp only [windbreakref01_Cmp.j0]
    refine Evt.cond (fun _ => Evt.pure _) (fun hc => ?_)
    have h := hx (by simpa using hc)
    obtain ⟨h1, c1⟩ := (rightB_iff a).1 h.1
    obtain ⟨h2, c2⟩ := (rightB_iff b).1 h.2
    refine Evt.bind (ref_In_ev a (by omega) da) (Evt.bind (ref_In_ev b (by omega) db) ?_)
    exact Evt.bind (ref_compare_ev _ _ (num_lt_lim da (by omega))) (h := fun t _ => some t) (Evt.pure _)
  cases hA : rightB a with
  | true =>
    refine Evt.ite_pos rfl ((J _ (fun h => ⟨hA, by simpa using h⟩)).congr (fun k => rfl) ?_)
    cases hB : rightB b <;> simp
  | false =>
    refine Evt.ite_neg (by simp) ((J _ (fun h => by simp at h)).congr (fun k => rfl) ?_)
    simp
end Go.Proofs.Ytgeanpnkllnipac.Z
end

section
namespace Go.Proofs.Ytgeanpnkllnipac.Z
open Go.RowKit Go.Proofs.Ytgeanpnkllnipac.F Go.Proofs.YtgeanpnkllnipacW.PrintWords
set_option linter.unusedSimpArgs false
set_option linter.unusedVariables false
theorem ref_Of_eq (n : Int) : windbreakref01_Of.f n = some (strip [n]) := by
  unfold windbreakref01_Of.f
  by_cases h : n = 0
  · simp [h, strip]
  · simp [h, strip]
end Go.Proofs.Ytgeanpnkllnipac.Z
end

section
namespace Go.Proofs.Ytgeanpnkllnipac.Z
open Go.RowKit Go.Proofs.Ytgeanpnkllnipac.F Go.Proofs.YtgeanpnkllnipacW.PrintWords
set_option linter.unusedSimpArgs false
set_option linter.unusedVariables false
theorem same_loop (l m : List Int) (h : l.length ≤ maxLen) (hlm : l.length = m.length) (d : Nat) : ∀ i : Nat, i ≤ l.length → l.length - i = d → Evt (fun k => windbreakref01_Same.l0 k l m (i : Int)) (decide (l.drop i = m.drop i)) := by
  unfold maxLen at h
  induction d with
  | zero =>
    intro i hi hd
    refine Evt.succ ?_
    simp only [windbreakref01_Same.l0]
    refine Evt.ite_neg (by omega) ?_
    rw [List.drop_of_length_le (by omega), List.drop_of_length_le (by omega)]
    exact Evt.pure _
  | succ d ih =>
    intro i hi hd
    have hl : i < l.length := by omega
    have hm : i < m.length := by omega
    refine Evt.succ ?_
    simp only [windbreakref01_Same.l0]
    refine Evt.ite_pos (by omega) (Evt.ite_pos (by omega) (Evt.ite_pos (by omega) ?_))
    have e1 : rd l (i : Int) = l[i] := by simp [rd_nat, hl]
    have e2 : rd m (i : Int) = m[i] := by simp [rd_nat, hm]
    rw [e1, e2, w64 (by omega) (by omega), List.drop_eq_getElem_cons hl, List.drop_eq_getElem_cons hm]
    by_cases he : l[i] = m[i]
    · refine Evt.ite_pos he ?_
      refine (ih (i + 1) (by omega) (by omega)).congr (fun k => rfl) ?_
      rw [he]
      simp only [List.cons.injEq, true_and]
    · refine Evt.ite_neg he ?_
      have : decide (l[i] :: l.drop (i + 1) = m[i] :: m.drop (i + 1)) = false := by
        simp only [List.cons.injEq, decide_eq_false_iff_not]
        exact fun hh => he hh.1
      rw [this]
      exact Evt.pure _
theorem same_ev (l m : List Int) (h : l.length ≤ maxLen) : Evt (fun k => windbreakref01_Same.f k l m) (decide (l = m)) := by
  unfold windbreakref01_Same.f
  by_cases hlm : l.length = m.length
  · refine Evt.ite_pos (by omega) ?_
    exact (same_loop l m h hlm l.length 0 (Nat.zero_le _) (by omega)).congr (fun k => rfl) (by simp)
  · refine Evt.ite_neg (by omega) ?_
    have : decide (l = m) = false := by
      simp only [decide_eq_false_iff_not]
      intro e
      exact hlm (by rw [e])
    rw [this]
    exact Evt.pure _
end Go.Proofs.Ytgeanpnkllnipac.Z
end

section
namespace Go.Proofs.Ytgeanpnkllnipac.Z
open Go.RowKit Go.Proofs.Ytgeanpnkllnipac.F Go.Proofs.YtgeanpnkllnipacW.PrintWords
set_option linter.unusedSimpArgs false
set_option linter.unusedVariables false
theorem ref_Of_one (x : Int) (h : x ≠ 0) : windbreakref01_Of.f x = some [x] := by
  rw [ref_Of_eq]
  simp [strip, h]
theorem ref_May_ev (n : List Int) (hn : n.length ≤ maxLen) (dn : Dig (b64 : Int) n) : Evt (fun k => windbreakref07_May.f k n) (mayV n) := by
  unfold windbreakref07_May.f mayV
  rw [windbreakref01_Right_eq hn]
  simp only [Option.bind_some]
  cases hR : rightB n with
  | false => exact Evt.ite_neg (by simp) (Evt.pure _)
  | true =>
    refine Evt.ite_pos rfl ?_
    by_cases h8 : n.length ≤ 8
    · refine Evt.ite_pos (by omega) ?_
      have d3 : Dig (b64 : Int) [3] := dig_one (by omega) (by omega)
      refine Evt.bind (Evt.of (fun _ => ref_Of_one 3 (by omega))) ?_
      refine (Evt.bind (ref_Cmp_ev n [3] hn (by simp [maxLen]) dn d3) (h := fun t _ => some (decide (t ≥ 0))) (Evt.pure _)).congr (fun k => rfl) ?_
      unfold cmpW
      rw [if_pos ⟨hR, right_one (by omega)⟩, cmpN_ge, num_one (by omega)]
      simp [h8]
    · refine Evt.ite_neg (by omega) ((Evt.pure _).congr (fun k => rfl) ?_)
      simp [h8]
theorem ref_half_ev (n : List Int) (dn : Dig (b64 : Int) n) (hm : mayV n = true) : Evt (fun k => windbreakref07_half.f k n) (limbs (halfV n)) := by
  obtain ⟨hR, h8, h3⟩ := (mayV_iff n).1 hm
  have hlt := may_lt dn hm
  unfold windbreakref07_half.f
  have d1 : Dig (b64 : Int) [1] := dig_one (by omega) (by omega)
  refine Evt.bind (Evt.of (fun _ => ref_Of_one 1 (by omega))) ?_
  have hs := ref_Sub_ev n [1] (by simp only [maxLen]; omega) (by simp [maxLen]) dn d1
  unfold subW at hs
  rw [if_pos ⟨hR, right_one (by omega)⟩, num_one (by omega), if_neg (by omega)] at hs
  refine Evt.bind hs ?_
  have hlt2 : num n - (1 : Int).toNat < b64 ^ 64 := by omega
  have hh := ref_Shr_ev (limbs (num n - (1 : Int).toNat)) 1 (by have := limbs_le64 hlt2; simp only [maxLen]; omega) (dig_limbs' _)
  unfold shrW at hh
  rw [if_pos ⟨right_limbs' hlt2, by omega⟩, num_limbs] at hh
  exact Evt.bind hh (h := fun t _ => some t.1) (Evt.pure _)
theorem ref3_Right_eq (a : Bool) (l : List Int) (h : l.length ≤ maxLen) : windbreakref03_Right.f a l = some (intR a l) := by
  unfold windbreakref03_Right.f intR
  rw [windbreakref01_Right_eq h]
  cases hR : rightB l <;> cases a <;> simp
theorem ref3_From_eq (a : Bool) (l : List Int) (h : l.length ≤ 64) : windbreakref03_From.f a l = some (fromV a l) := by
  unfold windbreakref03_From.f fromV
  rw [windbreakref01_Right_eq (by simp only [maxLen]; omega)]
  simp only [Option.bind_some, List.nil_append, List.length_nil]
  rw [if_pos (show 0 + l.length < 17592186044416 by omega)]
  cases hR : rightB l with
  | false => simp
  | true =>
    by_cases h0 : l.length = 0
    · simp [h0]
    · have : ¬ l = [] := fun e => h0 (by rw [e]; rfl)
      simp [this]
theorem ref3_Same_ev (a : Bool) (l : List Int) (b : Bool) (m : List Int) (h : l.length ≤ maxLen) : Evt (fun k => windbreakref03_Same.f k a l b m) (decide (a = b ∧ l = m)) := by
  unfold windbreakref03_Same.f
  refine Evt.bind (same_ev l m h) ?_
  by_cases hab : a = b
  · refine Evt.ite_pos (by simpa using hab) ((Evt.pure _).congr (fun k => rfl) ?_)
    simp [hab]
  · refine Evt.ite_neg (by simpa using hab) ((Evt.pure _).congr (fun k => rfl) ?_)
    simp [hab]
theorem ref_Encode_ev (n : List Int) (a : Bool) (x : List Int) (hn : n.length ≤ maxLen) (hx : x.length ≤ maxLen) (dn : Dig (b64 : Int) n) (dx : Dig (b64 : Int) x) : Evt (fun k => windbreakref07_Encode.f k n a x) (encV n a x) := by
  unfold windbreakref07_Encode.f encV
  have J : ∀ b : Bool, (b = false → mayV n = true ∧ intR a x = true) → Evt (fun k => windbreakref07_Encode.j0 k n b a x) (if b = true then ([], 1) else (if num x ≤ halfV n then (if a = true then (limbs (num n - num x), 0) else (x, 0)) else ([], 12))) := by
    intro b hb
    refine Evt.succ ?_
    simp only [windbreakref07_Encode.j0]
    refine Evt.cond (fun _ => Evt.pure _) (fun hc => ?_)
    obtain ⟨hm, hi⟩ := hb (by simpa using hc)
    have hR : rightB x = true := by unfold intR at hi; simp only [Bool.and_eq_true] at hi; exact hi.1
    obtain ⟨hx1, cx⟩ := (rightB_iff x).1 hR
    obtain ⟨hRn, h8, h3⟩ := (mayV_iff n).1 hm
    have hlt := may_lt dn hm
    have hh : halfV n < b64 ^ 64 := by unfold halfV; omega
    refine Evt.bind (ref_half_ev n dn hm) ?_
    refine Evt.bind (ref_Cmp_ev x (limbs (halfV n)) hx (by have := limbs_le64 hh; simp only [maxLen]; omega) dx (dig_limbs' _)) ?_
    have hc2 : cmpW x (limbs (halfV n)) > 0 ↔ ¬ num x ≤ halfV n := by
      unfold cmpW
      rw [if_pos ⟨hR, right_limbs' hh⟩, num_limbs]
      have := cmpN_le (num x) (halfV n)
      simp only [decide_eq_decide] at this
      rw [← this]
      omega
    by_cases hf : num x ≤ halfV n
    · rw [if_pos hf]
      refine Evt.ite_neg (fun h => (hc2.1 h) hf) ?_
      have hxn : num x < num n := by unfold halfV at hf; omega
      cases a with
      | true =>
        refine Evt.ite_pos rfl ?_
        have hs := ref_Sub_ev n x hn hx dn dx
        unfold subW at hs
        rw [if_pos ⟨hRn, hR⟩, if_neg (by omega)] at hs
        exact Evt.bind hs (h := fun t _ => some (t.1, t.2)) (Evt.pure _)
      | false =>
        refine Evt.ite_neg (by simp) ?_
        refine Evt.bind (Evt.pure _) ?_
        exact Evt.ite_pos (by simp; omega) (Evt.pure _)
    · rw [if_neg hf]
      exact Evt.ite_pos (hc2.2 hf) (Evt.pure _)
  refine Evt.bind (ref_May_ev n hn dn) ?_
  refine Evt.bind (Evt.of (fun _ => ref3_Right_eq a x hx)) ?_
  cases hm : mayV n with
  | false =>
    refine Evt.ite_neg (by simp) ((J true (by simp)).congr (fun k => rfl) ?_)
    simp
  | true =>
    refine Evt.ite_pos rfl ?_
    refine (J (!intR a x) (fun h => ⟨hm, by simpa using h⟩)).congr (fun k => rfl) ?_
    cases hi : intR a x <;> simp
theorem ref_Decode_ev (n v : List Int) (hn : n.length ≤ maxLen) (hv : v.length ≤ maxLen) (dn : Dig (b64 : Int) n) (dv : Dig (b64 : Int) v) : Evt (fun k => windbreakref07_Decode.f k n v) (decV n v) := by
  unfold windbreakref07_Decode.f decV
  refine Evt.bind (ref_May_ev n hn dn) ?_
  cases hm : mayV n with
  | false => exact Evt.ite_neg (by simp) ((Evt.pure _).congr (fun k => rfl) (by simp))
  | true =>
    obtain ⟨hRn, h8, h3⟩ := (mayV_iff n).1 hm
    have hlt := may_lt dn hm
    have hh : halfV n < b64 ^ 64 := by unfold halfV; omega
    have J : ∀ b : Bool, (b = false → rightB v = true ∧ num v < num n) → Evt (fun k => windbreakref07_Decode.j0 k n v b) (if b = true then (false, [], 10) else (if num v ≤ halfV n then ((fromV false v).1, (fromV false v).2, 0) else ((fromV true (limbs (num n - num v))).1, (fromV true (limbs (num n - num v))).2, 0))) := by
      intro b hb
      refine Evt.succ ?_
      simp only [windbreakref07_Decode.j0]
      refine Evt.cond (fun _ => Evt.pure _) (fun hc => ?_)
      obtain ⟨hR, hvn⟩ := hb (by simpa using hc)
      obtain ⟨hv1, cv⟩ := (rightB_iff v).1 hR
      refine Evt.bind (ref_half_ev n dn hm) ?_
      refine Evt.bind (ref_Cmp_ev v (limbs (halfV n)) hv (by have := limbs_le64 hh; simp only [maxLen]; omega) dv (dig_limbs' _)) ?_
      have hc2 : cmpW v (limbs (halfV n)) ≤ 0 ↔ num v ≤ halfV n := by
        unfold cmpW
        rw [if_pos ⟨hR, right_limbs' hh⟩, num_limbs]
        have := cmpN_le (num v) (halfV n)
        simp only [decide_eq_decide] at this
        exact this
      by_cases hf : num v ≤ halfV n
      · rw [if_pos hf]
        refine Evt.ite_pos (hc2.2 hf) ?_
        exact Evt.bind (Evt.of (fun _ => ref3_From_eq false v hv1)) (h := fun t _ => some (t.1, t.2, (0 : Int))) (Evt.pure _)
      · rw [if_neg hf]
        refine Evt.ite_neg (fun h => hf (hc2.1 h)) ?_
        have hs := ref_Sub_ev n v hn hv dn dv
        unfold subW at hs
        rw [if_pos ⟨hRn, hR⟩, if_neg (by omega)] at hs
        refine Evt.bind hs ?_
        exact Evt.bind (Evt.of (fun _ => ref3_From_eq true (limbs (num n - num v)) (limbs_le64 (Nat.lt_of_le_of_lt (Nat.sub_le _ _) hlt)))) (h := fun t _ => some (t.1, t.2, (0 : Int))) (Evt.pure _)
    refine Evt.ite_pos rfl ?_
    refine Evt.bind (Evt.of (fun _ => windbreakref01_Right_eq hv)) ?_
    cases hR : rightB v with
    | false =>
      refine Evt.ite_neg (by simp) ((J true (by simp)).congr (fun k => rfl) ?_)
      simp
    | true =>
      refine Evt.ite_pos rfl ?_
      refine Evt.bind (ref_Cmp_ev v n hv hn dv dn) ?_
      unfold cmpW
      rw [if_pos ⟨hR, hRn⟩, cmpN_ge]
      refine (J (decide (num n ≤ num v)) (fun h => ⟨hR, by simpa using h⟩)).congr (fun k => rfl) ?_
      by_cases hvn : num n ≤ num v
      · have : ¬ num v < num n := by omega
        simp [hvn, this]
      · have : num v < num n := by omega
        simp [hvn, this]
end Go.Proofs.Ytgeanpnkllnipac.Z
end

section
namespace Go.Proofs.Ytgeanpnkllnipac.Pure
open Go.RowKit Go.Proofs.Ytgeanpnkllnipac.F Go.Proofs.Ytgeanpnkllnipac.Z
set_option linter.unusedSimpArgs false
set_option linter.unusedVariables false
theorem awake_ev : Evt (fun k => windbreaklaw07_awake.f k) true := by
  have d101 : Dig (b64 : Int) [101] := dig_one (by omega) (by omega)
  have d1 : Dig (b64 : Int) [1] := dig_one (by omega) (by omega)
  have d100 : Dig (b64 : Int) [100] := dig_one (by omega) (by omega)
  have e1 : encV [101] true [1] = ([100], 0) := by
    have n1 : num [101] = 101 := num_one (by omega)
    have n2 : num [1] = 1 := num_one (by omega)
    have n3 : num [100] = 100 := num_one (by omega)
    unfold encV mayV intR halfV
    rw [n1, n2]
    have := limbs_num d100 (Can.one (by omega))
    rw [n3] at this
    rw [if_pos ⟨by decide, by decide⟩, if_pos (by decide), if_pos rfl, this]
  unfold windbreaklaw07_awake.f
  have h := fix_Encode_ev [101] true [1] (by simp [maxLen]) (by simp [maxLen]) d101 d1
  rw [e1] at h
  refine Evt.bind h ?_
  exact Evt.ite_pos rfl (Evt.ite_pos rfl (Evt.ite_pos (by decide) (Evt.pure _)))
theorem FixencCodes : windbreaklaw07_FixencCodes.Pure := by
  intro n a x v hn _ wn hx wx hv _ wv
  apply Evt.get
  have dn := dig_of_wf wn
  have dx := dig_of_wf wx
  have dv := dig_of_wf wv
  unfold windbreaklaw07_FixencCodes.f
  refine Evt.bind (few7_ev [n, x, v] (by simp [maxLen])) ?_
  refine Evt.cond' (fun _ => ?_) (fun _ => Evt.pure _)
  refine Evt.bind awake_ev ?_
  refine Evt.bind (fix_Encode_ev n a x hn hx dn dx) ?_
  refine Evt.bind (ref_Encode_ev n a x hn hx dn dx) ?_
  refine Evt.bind (same_ev _ _ (by have := encV_len (a := a) (x := x) dn; simp only [maxLen]; omega)) ?_
  refine Evt.bind (fix_Decode_ev n v hn hv dn dv) ?_
  refine Evt.bind (ref_Decode_ev n v hn hv dn dv) ?_
  refine Evt.bind (ref3_Same_ev _ _ _ _ (by have := decV_len n v; simp only [maxLen]; omega)) ?_
  refine Evt.ite_pos rfl (Evt.ite_pos (by simp) (Evt.ite_pos (by simp) (Evt.ite_pos rfl ?_)))
  exact (Evt.pure _).congr (fun k => rfl) (by simp)
end Go.Proofs.Ytgeanpnkllnipac.Pure
end

section
-- PRINTED BY print.sh 35421559b90ae4d0a3588c463048766b98c2df88dd9212a6774a882060cdf62d: not written by this session
-- PRINTED WORDS (module Derived/Print/Sized.lean): go-gate-2's, for the rows of laws over slices: an AI agent of Go's test side, Tue Nov 17 2026; no person has read it. Lean checks it.
namespace Go.Proofs.YtgeanpnkllnipacW.PrintWords
open Go.ChangeShapes Go.WideShapes
/-- A row's slice of whole numbers is no longer than its weight allows. -/
theorem sized_ints {H : Type} {enc : TypeId × Value → H} {P : Program} {W : World} {base : Nat} {spare : Nat → Bool} {held : Bool} {t e : TypeId} {k : IntKind} {a : Option Addr} {len cap : Nat} {d : DataW H} {ps : List MemPlace} {ts : List TypeId} {ds : List (DataW H)} {j : Nat}
    (hsz : (DataW.weightsEach P ts ds).all (· ≤ reachBytes) = true) (ht : ts[j]? = some t) (hd : ds[j]? = some d) (hu : P.underlying t = some (.slice e)) (he : P.underlying e = some (.int k)) (hc : P.cellsOf e = 1) {B : Nat} (hB : P.bytesOf e = B)
    (h : DataW.Trod enc P W base spare held t (.slice a len cap) d ps) : len * B ≤ 140737488351232 := by
  obtain ⟨fuel, hf⟩ := h
  rcases open_ints hu he hc hf with ⟨hcs, _⟩ | ⟨x, l, c, zs, hcs, _, hl, _, hz, hx, _, _⟩
  · simp [Value.cells] at hcs
    obtain ⟨rfl, rfl, rfl⟩ := hcs
    simp
  · simp [Value.cells] at hcs
    obtain ⟨rfl, rfl, rfl⟩ := hcs
    obtain ⟨hx, _⟩ := Prod.mk.inj hx
    subst hx
    have z := sized_slice hsz ht hd hu
    rw [hB] at z
    have hl2 : len ≤ zs.length := by
      rw [hz]
      split
      · exact hl
      · exact Nat.le_refl _
    have h1 : (lits (H := H) k (zs.take len)).length + (lits (H := H) k (zs.drop len)).length = zs.length := by
      simp [lits]
      omega
    rw [h1] at z
    exact Nat.le_trans (Nat.mul_le_mul_right _ hl2) z
end Go.Proofs.YtgeanpnkllnipacW.PrintWords
end

section
namespace Go.Proofs.Ytgeanpnkllnipac.fixencCodes
open Go.ChangeShapes Go.WideShapes Go.ChangeAt Go.RowKit
open Go.ChangeMaps (open_string shut_string)
set_option linter.unusedVariables false
theorem own : ownKnob Try.prog.godebug = none := by kernel_rfl
theorem laidOut : laidOutB Try.prog = true := by kernel_rfl
def IsRow (k : IntKind) (w : World) (a : Option Addr) (len cap : Nat) (zs : List Int) : Prop :=
  (a = none ∧ len = 0 ∧ cap = 0 ∧ zs = []) ∨
  ∃ x, a = some x ∧ len ≤ cap ∧ cap ≤ maxLen ∧ zs.length = cap ∧ (∀ i, i < zs.length → w.cell? (x.add i) = some (.int k (zs.getD i 0))) ∧ ∀ n ∈ zs, (Lit.int k n).wf = true
set_option maxRecDepth 100000 in
theorem lifted (os : Os) (started : os.Started) (H : Type) (enc : TypeId × Value → H) :
    ReturnsInHanded {} Try.checked os 9 .any (Rows.fixencCodesSpec.pre6 enc Try.prog Try.f9 Rows.fixencCodesRow.domain false) (Rows.fixencCodesSpec.post enc Try.prog Try.f9 false true false false) := by
  refine returnsInHanded_of_change_sized (C := Try.checked) own started (by kernel_rfl) Try.func9
    (ChangeSpec.witness6 (enc := enc) (C := Try.checked) false ⟨#[], #[.slice none 0 0, .agg #[.bool false, .slice none 0 0], .slice none 0 0], []⟩ 8 (by kernel_rfl) (by kernel_rfl) (by kernel_rfl) (by kernel_rfl)) ?_
  intro W base args ds gs before hval0 hW hcnd hsz0 _
  have hsz : (DataW.weightsEach Try.prog (Try.f9.params.toList ++ Rows.fixencCodesSpec.plain.varTypes Try.prog) (ds ++ gs)).all (· ≤ reachBytes) = true := hsz0
  have hval : ∀ (j : Nat) t v, Try.f9.params[j]? = some t → args[j]? = some v → Value.okWide Try.prog W .any base t v := hval0
  have hW' := hW
  obtain ⟨p, q, hA0, hV, rfl, hfz, hnd⟩ := hW
  have hA : DataW.TrodAll enc Try.prog W 0 (fun _ => true) true Try.f9.params.toList args.toList ds p := hA0
  rw [Try.params9] at hA hval hsz
  obtain ⟨v0, vs0, d0, ds0, p0, q0, hargs, rfl, rfl, h0, r0⟩ := trodAll_cons hA
  obtain ⟨v1, vs1, d1, ds1, p1, q1, rfl, rfl, rfl, h1, r1⟩ := trodAll_cons r0
  obtain ⟨v2, vs2, d2, ds2, p2, q2, rfl, rfl, rfl, h2, r2⟩ := trodAll_cons r1
  obtain ⟨rfl, rfl, rfl⟩ := trodAll_nil r2
  obtain rfl : args = #[v0, v1, v2] := by cases args; simp_all
  obtain ⟨rfl, rfl⟩ := trodVars_none hV
  obtain ⟨a0, len0, cap0, rfl⟩ := okWide_slice Try.underlying37 (hval 0 37 v0 rfl rfl)
  have k0 := h0
  have lt0 : ∀ x ∈ p0, x.block < W.heap.size := by obtain ⟨m, hm⟩ := k0; exact DataW.trod_lt m _ _ _ hm
  obtain ⟨z0, w0⟩ : ∃ zs, IsRow .u64 W a0 len0 cap0 zs := by
    obtain ⟨fuel, hf⟩ := h0
    rcases open_ints Try.underlying37 Try.underlying42 (by kernel_rfl) hf with ⟨hcs, _⟩ | ⟨x, l, c, zs, hcs, _, hl, hm, hz, _, hcell, hwz⟩
    · simp [Value.cells] at hcs
      obtain ⟨rfl, rfl, rfl⟩ := hcs
      exact ⟨[], .inl ⟨rfl, rfl, rfl, rfl⟩⟩
    · simp [Value.cells] at hcs
      obtain ⟨rfl, rfl, rfl⟩ := hcs
      exact ⟨zs, .inr ⟨_, rfl, hl, hm, by simpa using hz, hcell, hwz⟩⟩
  have y0 : len0 * 8 ≤ 140737488351232 := Go.Proofs.YtgeanpnkllnipacW.PrintWords.sized_ints hsz (j := 0) (t := 37) rfl rfl Try.underlying37 Try.underlying42 (by kernel_rfl) (by kernel_rfl) h0
  obtain ⟨v1_0, v1_1, e1_0, e1_1, n1, rfl, rfl, rfl, h1_0, h1_1⟩ := Go.Joins.open_agg2 Try.underlying47 (by kernel_rfl) (by kernel_rfl) (hval 1 47 v1 rfl rfl) h1
  obtain ⟨a1_0, hv_, rfl⟩ := DataW.trod_bool Try.underlying4 h1_0
  obtain rfl := (List.cons.inj hv_).1
  clear hv_
  obtain ⟨a1_1, len1_1, cap1_1, hv_⟩ := Go.Joins.slice_form Try.underlying37 h1_1
  obtain rfl := (List.cons.inj hv_).1
  clear hv_
  have k1_1 : DataW.Trod enc Try.prog W 0 (fun _ => true) true 37 (.slice a1_1 len1_1 cap1_1) e1_1.1 e1_1.2 := ⟨_, h1_1⟩
  have lt1_1 : ∀ x ∈ e1_1.2, x.block < W.heap.size := by obtain ⟨m, hm⟩ := k1_1; exact DataW.trod_lt m _ _ _ hm
  obtain ⟨z1_1, w1_1⟩ : ∃ zs, IsRow .u64 W a1_1 len1_1 cap1_1 zs := by
    rcases open_ints Try.underlying37 Try.underlying42 (by kernel_rfl) h1_1 with ⟨hcs, _⟩ | ⟨x, l, c, zs, hcs, _, hl, hm, hz, _, hcell, hwz⟩
    · simp at hcs
      obtain ⟨rfl, rfl, rfl⟩ := hcs
      exact ⟨[], .inl ⟨rfl, rfl, rfl, rfl⟩⟩
    · simp at hcs
      obtain ⟨rfl, rfl, rfl⟩ := hcs
      exact ⟨zs, .inr ⟨_, rfl, hl, hm, by simpa using hz, hcell, hwz⟩⟩
  obtain ⟨a2, len2, cap2, rfl⟩ := okWide_slice Try.underlying37 (hval 2 37 v2 rfl rfl)
  have k2 := h2
  have lt2 : ∀ x ∈ p2, x.block < W.heap.size := by obtain ⟨m, hm⟩ := k2; exact DataW.trod_lt m _ _ _ hm
  obtain ⟨z2, w2⟩ : ∃ zs, IsRow .u64 W a2 len2 cap2 zs := by
    obtain ⟨fuel, hf⟩ := h2
    rcases open_ints Try.underlying37 Try.underlying42 (by kernel_rfl) hf with ⟨hcs, _⟩ | ⟨x, l, c, zs, hcs, _, hl, hm, hz, _, hcell, hwz⟩
    · simp [Value.cells] at hcs
      obtain ⟨rfl, rfl, rfl⟩ := hcs
      exact ⟨[], .inl ⟨rfl, rfl, rfl, rfl⟩⟩
    · simp [Value.cells] at hcs
      obtain ⟨rfl, rfl, rfl⟩ := hcs
      exact ⟨zs, .inr ⟨_, rfl, hl, hm, by simpa using hz, hcell, hwz⟩⟩
  have y2 : len2 * 8 ≤ 140737488351232 := Go.Proofs.YtgeanpnkllnipacW.PrintWords.sized_ints hsz (j := 2) (t := 37) rfl rfl Try.underlying37 Try.underlying42 (by kernel_rfl) (by kernel_rfl) h2
  clear hA0 hval0 hsz0 hsz
  refine (F.windbreaklaw07_FixencCodes.walk Pure.FixencCodes a0 len0 cap0 z0 a1_0 a1_1 len1_1 cap1_1 z1_1 a2 len2 cap2 z2 W w0 y0 w1_1 w2 y2).mono fun e W' ⟨he, bel⟩ => ?_
  subst he
  exact ⟨_, rfl, _, _, _, [], _, [], hW', trodAll_mk1 (shut_bool Try.underlying4 _), (trodAll_cons_mk (Below.trod laidOut (by kernel_rfl) (of_decide_eq_true (by kernel_rfl)) k0 bel lt0) (trodAll_cons_mk (Go.Joins.shut_agg2 Try.underlying47 (by kernel_rfl) (by kernel_rfl) (shut_bool Try.underlying4 _) (Below.trod laidOut (by kernel_rfl) (of_decide_eq_true (by kernel_rfl)) k1_1 bel lt1_1)) (trodAll_cons_mk (Below.trod laidOut (by kernel_rfl) (of_decide_eq_true (by kernel_rfl)) k2 bel lt2) trodAll_mk0))), rfl, bel.frame _, fun h => by cases h⟩
theorem over : Rows.fixencCodesRow.holds Try.pinned (OpenSpec.ofChange Rows.fixencCodesSpec) :=
  OpenClaim.holds_of_wide 9 Try.f9 rfl rfl rfl rfl rfl rfl rfl ⟨rfl, rfl, rfl, rfl, rfl⟩ rfl rfl rfl rfl rfl (by kernel_rfl) Try.func9 (by kernel_rfl)
    (of_decide_eq_true (by kernel_rfl)) (by unfold Func.isWrapper; first | (rw [if_pos (by decide +kernel)]; kernel_rfl) | (rw [if_neg (by decide +kernel)]; exact ⟨rfl, rfl⟩))
    (fun os started H enc _ => lifted os started H enc)
theorem proved : Rows.FixencCodesSaid := over
#print axioms proved
end Go.Proofs.Ytgeanpnkllnipac.fixencCodes
namespace Go.Proofs.Ytgeanpnkllnipac
/-- The row, under a short name, for the claim. -/
theorem fixencCodes_holds : Rows.FixencCodesSaid := fixencCodes.proved
end Go.Proofs.Ytgeanpnkllnipac
end
