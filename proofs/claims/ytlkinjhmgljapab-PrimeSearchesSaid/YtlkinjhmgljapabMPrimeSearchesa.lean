/- Proved: the law PrimeSearches of layer 5: any search for a prime on any tape is the document's; for every input, without a condition. -/
import Derived.Below
import Derived.Deep.Draws
import Derived.Deep.AppendLies
import Derived.Maps.AppendAt
import Derived.OwnWalk
import Derived.Laws.BytesArg
import Derived.Laws.MakeOwn
import Derived.Laws.OwnMore
import Derived.Deep.OwnRows
import Derived.Tactics
import Derived.Lib.ConvBytes
import Derived.Laws.Slices
import Derived.WalkKit
import Derived.KernelRfl
import Derived.RowKit3
import Derived.Deep.LoopGhost
import Derived.Deep.QuietTactic
import Derived.BigQuiet
import Derived.WideLaws
import Derived.Deep.DeepCutAuto
import Derived.Deep.CutBlock
import Derived.Deep.RegionHeld3
import Derived.Laws.Rows
import Derived.Lib.AppendStr
import Derived.ArgAppend
import Derived.Laws.IdiomCopy
import Derived.RowKit
import Derived.OrdersHeld
import Derived.Laws.BitsLemmas
import Derived.Laws.StructEq
import Derived.Laws.Externs
import Derived.OpenShut
import Derived.WideShapes
import Derived.Test.YtlkinjhmgljapabProg
import Derived.Deep.RegionLaw
import Derived.StillTailTactics
import Derived.RangeFuncFrom
import Derived.RangeFuncLeaves
import Derived.Shelf.Abstract
import Derived.OwnWalkIn
import Derived.TacticsInMore
import Derived.LoopNIn
import Derived.LoopIn
import Derived.Deep.Slices
import Derived.Lib.SmallJoins
import Derived.SizedLaws
import Derived.ChangeSlices
import Derived.Test.YtlkinjhmgljapabRows
import Derived.ProofKit
import Derived.ShutString
import Derived.ChangeOld
section
set_option linter.unusedVariables false
set_option linter.unusedSimpArgs false
namespace Go.Proofs.YtlkinjhmgljapabW.PrintWords
open Go.RowKit
structure Aside0 (p : Prop) : Prop where mk :: (out : p)
structure Drawn0 (w w' : World) : Prop where mk :: (out : ∃ n, w' = w.drewN n)
theorem Drawn0.refl (w : World) : Drawn0 w w := ⟨⟨0, rfl⟩⟩
theorem Drawn0.step {w w' : World} (h : Drawn0 w w') (n : Nat) : Drawn0 w (w'.drewN n) := by
  obtain ⟨m, rfl⟩ := h
  exact ⟨⟨m + n, World.drewN_drewN ..⟩⟩
theorem Drawn0.below {w w' : World} (h : Drawn0 w w') : Below w.heap.size w w' := by
  obtain ⟨n, rfl⟩ := h
  induction n with
  | zero => exact Below.refl _ _
  | succ n ih => rw [← World.drew_drewN]; exact ih.drew
def rd (xs : List Int) (i : Int) : Int := xs.getD i.toNat 0
def bt (s : ByteArray) (i : Int) : Int := if h : i.toNat < s.size then ((s[i.toNat]'h).toNat : Int) else 0
def nums (k : IntKind) (xs : List Int) : List Value := xs.map fun x => .int k x
theorem below_alloc {w W : World} (h : Below w.heap.size w W) (o : Obj) : Below w.heap.size w (W.alloc o) := h.alloc h.size o
theorem pw_below_drewN {B : Nat} {w W : World} (h : Below B w W) (n : Nat) : Below B w (W.drewN n) := ⟨h.os, h.tape, h.output, h.size, h.block⟩
theorem below_then {B : Nat} {w w1 w2 : World} (h : Below B w w1) (hB : B ≤ w1.heap.size) (k : Below w1.heap.size w1 w2) : Below B w w2 :=
  h.trans ⟨k.os, k.tape, k.output, k.size, fun i hi => k.block i (Nat.lt_of_lt_of_le hi hB)⟩
theorem grown_of_below {w w1 : World} (h : Below w.heap.size w w1) (row : Option Nat) : w.grownBy w1 row := ⟨h.os, h.tape, h.output, h.size, fun i hi _ => h.block i hi⟩
theorem pw_cell_below {w w1 : World} (h : Below w.heap.size w w1) {a : Addr} {v : Value} (hc : w.cell? a = some v) : w1.cell? a = some v := (h.cell (World.block_lt_of_cell? w a hc)).trans hc
def ReadsInt (w : World) (k : IntKind) (A : Option Addr) (n : Nat) (xs : List Int) : Prop :=
  xs.length = n ∧ n ≤ 9223372036854775807 ∧ (0 < n → ∃ ad, A = some ad ∧ ∀ j, j < n → w.cell? (ad.add j) = some (.int k (xs.getD j 0)))
theorem ReadsInt.at_ {w : World} {k : IntKind} {A : Option Addr} {n : Nat} {xs : List Int} (h : ReadsInt w k A n xs) (i : Int) (h0 : 0 ≤ i) (h1 : i < n) : ∃ ad, A = some ad ∧ w.cell? (ad.add i.toNat) = some (.int k (rd xs i)) := by
  obtain ⟨ad, e, hc⟩ := h.2.2 (by omega)
  exact ⟨ad, e, hc _ (by omega)⟩
theorem ReadsInt.below {w w1 : World} {k : IntKind} {A : Option Addr} {n : Nat} {xs : List Int} (h : ReadsInt w k A n xs) (hb : Below w.heap.size w w1) : ReadsInt w1 k A n xs :=
  ⟨h.1, h.2.1, fun hn => by
    obtain ⟨ad, e, hc⟩ := h.2.2 hn
    exact ⟨ad, e, fun j hj => pw_cell_below hb (hc j hj)⟩⟩
theorem own_nil (W : World) (base : Nat) (e : TypeId) (size : Nat) : W.ownsRow base e size (.slice none 0 0) 0 [] := ⟨by simp, .inl ⟨rfl, rfl⟩⟩
theorem own_base {w : World} {base : Nat} {e : TypeId} {size n : Nat} {v : Value} {xs : List Value} (h : w.ownsRow base e size v n xs) (k : Nat) (hk : v.ownBlock = some k) : base ≤ k := by
  rcases h.2 with ⟨rfl, _⟩ | ⟨g, cap, cur, rfl, hb, _⟩
  · simp [Value.ownBlock] at hk
  · have : g = k := by simpa [Value.ownBlock] using hk
    omega
theorem own_lt {w : World} {base : Nat} {e : TypeId} {size n : Nat} {v : Value} {xs : List Value} (h : w.ownsRow base e size v n xs) (k : Nat) (hk : v.ownBlock = some k) : k < w.heap.size := by
  rcases h.2 with ⟨rfl, _⟩ | ⟨g, cap, cur, rfl, hb, hh, _⟩
  · simp [Value.ownBlock] at hk
  · have : g = k := by simpa [Value.ownBlock] using hk
    subst this
    exact (Array.getElem?_eq_some_iff.1 hh).1
theorem pw_own_below {w w1 : World} {base : Nat} {e : TypeId} {size n : Nat} {v : Value} {xs : List Value} (h : w.ownsRow base e size v n xs) (hb : Below w.heap.size w w1) : w1.ownsRow base e size v n xs :=
  h.kept (grown_of_below hb none) (by cases v.ownBlock <;> simp)
section
variable {P : Program} {ops : Array Oper} {rest : List Oper} {o : Oper} {a : Act} {Q : Exit → Act → World → Prop}
end
section
variable {P : Program}
end
theorem own_lit (W : World) (base : Nat) (e : TypeId) (k : IntKind) (xs : List Int) (hb : base ≤ W.heap.size) (hm : xs.length ≤ 9223372036854775807) :
    (W.alloc (.cells (nums k xs).toArray e)).ownsRow base e 1 (.slice (some ⟨W.heap.size, 0, none⟩) xs.length xs.length) xs.length (nums k xs) := by
  have h := World.ownsRow_lit (base := base) (e := e) (size := 1) W (nums k xs).toArray xs.length hb (by simpa [maxLen] using hm) (by simp [nums])
  simpa using h
section
variable {P : Program} {ops : Array Oper} {rest : List Oper} {o : Oper} {a : Act} {Q : Exit → Act → World → Prop}
end
def LeO {α : Type} (a b : Option α) : Prop := ∀ r, a = some r → b = some r
theorem LeO.refl {α : Type} (a : Option α) : LeO a a := fun _ h => h
theorem LeO.none {α : Type} (b : Option α) : LeO Option.none b := fun _ h => by cases h
theorem LeO.trans {α : Type} {a b c : Option α} (h : LeO a b) (k : LeO b c) : LeO a c := fun r hr => k r (h r hr)
theorem LeO.bind {α β : Type} {a a' : Option α} {f f' : α → Option β} (h : LeO a a') (k : ∀ x, LeO (f x) (f' x)) : LeO (a.bind f) (a'.bind f') := by
  intro r hr
  obtain ⟨x, hx, hf⟩ := Option.bind_eq_some_iff.1 hr
  exact Option.bind_eq_some_iff.2 ⟨x, h x hx, k x r hf⟩
def Reps {α : Type} (R : α → List Value → Prop) (size : Nat) (ps : List α) (cs : List Value) : Prop :=
  cs.length = ps.length * size ∧ ∀ j p, ps[j]? = some p → R p ((cs.drop (j * size)).take size)
theorem Reps.none {α : Type} (R : α → List Value → Prop) (size : Nat) : Reps R size [] [] := ⟨by simp, fun j p h => by simp at h⟩
theorem Reps.snoc {α : Type} {R : α → List Value → Prop} {size : Nat} {ps : List α} {cs c : List Value} {p : α} (h : Reps R size ps cs) (hp : R p c) (hc : c.length = size) : Reps R size (ps ++ [p]) (cs ++ c) := by
  refine ⟨by rw [List.length_append, h.1, hc, List.length_append, List.length_singleton, Nat.add_mul, Nat.one_mul], fun j q hq => ?_⟩
  rcases Nat.lt_or_ge j ps.length with hj | hj
  · rw [List.getElem?_append_left hj] at hq
    have h1 : j * size + size ≤ cs.length := by rw [h.1, ← Nat.succ_mul]; exact Nat.mul_le_mul_right _ hj
    have h2 := h.2 j q hq
    rw [List.drop_append_of_le_length (by omega), List.take_append_of_le_length (by rw [List.length_drop]; omega)]
    exact h2
  · have hj' : j = ps.length := by
      have := (List.getElem?_eq_some_iff.1 hq).1
      rw [List.length_append, List.length_singleton] at this
      omega
    subst hj'
    have hq' : p = q := by simpa using hq
    subst hq'
    rw [← h.1, List.drop_left, ← hc, List.take_length]
    exact hp
theorem Reps.imp_ {α : Type} {R R' : α → List Value → Prop} {size : Nat} {ps : List α} {cs : List Value} (h : Reps R size ps cs) (hR : ∀ p c, R p c → R' p c) : Reps R' size ps cs := ⟨h.1, fun j p hj => hR _ _ (h.2 j p hj)⟩
def ReadsRow {α : Type} (R : α → List Value → Prop) (size : Nat) (w : World) (A : Option Addr) (n : Nat) (ps : List α) : Prop :=
  ps.length = n ∧ n ≤ 9223372036854775807 ∧ (0 < n → ∃ ad, A = some ad ∧ ∀ j p, ps[j]? = some p → ∃ c, c.length = size ∧ R p c ∧ ∀ i u, c[i]? = some u → w.cell? (ad.add (j * size + i)) = some u)
theorem ReadsRow.imp_ {α : Type} {R R' : α → List Value → Prop} {size : Nat} {w w1 : World} {A : Option Addr} {n : Nat} {ps : List α} (h : ReadsRow R size w A n ps) (hb : Below w.heap.size w w1) (hR : ∀ p c, R p c → R' p c) : ReadsRow R' size w1 A n ps :=
  ⟨h.1, h.2.1, fun hn => by
    obtain ⟨ad, e, hc⟩ := h.2.2 hn
    refine ⟨ad, e, fun j p hj => ?_⟩
    obtain ⟨c, hs, hr, hcell⟩ := hc j p hj
    exact ⟨c, hs, hR _ _ hr, fun i u hu => pw_cell_below hb (hcell i u hu)⟩⟩
theorem own_reads_row {α : Type} {R : α → List Value → Prop} {w : World} {base n size : Nat} {e : TypeId} {v : Value} {ps : List α} {cs : List Value} (h : w.ownsRow base e size v n cs) (hR : Reps R size ps cs) (hn : ps.length = n) :
    ∃ A c, v = .slice A n c ∧ ReadsRow R size w A n ps := by
  rcases Nat.eq_zero_or_pos n with h0 | h0
  · rcases h.2 with ⟨rfl, rfl⟩ | ⟨g, cap, cur, rfl, _⟩
    · exact ⟨none, 0, rfl, hn, by omega, fun hp => absurd hp (by omega)⟩
    · exact ⟨_, cap, rfl, hn, by omega, fun hp => absurd hp (by omega)⟩
  · obtain ⟨g, cap, rfl, _, _⟩ := h.form h0
    have hm : n ≤ 9223372036854775807 := by
      rcases h.2 with ⟨_, h1⟩ | ⟨g', cap', cur, he, _, _, h1, h2, _⟩
      · omega
      · simp only [maxLen] at h2
        omega
    refine ⟨_, cap, rfl, hn, hm, fun _ => ⟨_, rfl, fun j p hj => ⟨(cs.drop (j * size)).take size, ?_, hR.2 j p hj, fun i u hu => ?_⟩⟩⟩
    · have hjl := (List.getElem?_eq_some_iff.1 hj).1
      have h1 : j * size + size ≤ cs.length := by rw [hR.1, ← Nat.succ_mul]; exact Nat.mul_le_mul_right _ hjl
      rw [List.length_take, List.length_drop]
      omega
    · refine h.cells (g := g) rfl _ u ?_
      rw [List.getElem?_take] at hu
      split at hu
      · rw [List.getElem?_drop] at hu
        exact hu
      · cases hu
section
variable {P : Program} {ops : Array Oper} {rest : List Oper} {o : Oper} {a : Act} {Q : Exit → Act → World → Prop}
end
theorem blk_set {w : World} {g : Nat} {t : TypeId} {cs : Array Value} (h : w.heap[g]? = some (.cells cs t (0, 0))) (i : Nat) (u : Value) : (w.setCell ⟨g, i, none⟩ u).heap[g]? = some (.cells (cs.setIfInBounds i u) t (0, 0)) := by
  simp [World.setCell, Array.getElem?_modify, h]
theorem blk_lt {w : World} {g : Nat} {o : Obj} (h : w.heap[g]? = some o) : g < w.heap.size := (Array.getElem?_eq_some_iff.1 h).1
theorem blk_cell {w : World} {g : Nat} {t : TypeId} {cs : Array Value} (h : w.heap[g]? = some (.cells cs t (0, 0))) (i : Nat) : w.cell? ⟨g, i, none⟩ = cs[i]? := cell_of_row w g i cs t (0, 0) h
theorem blk_frozen {w : World} {g : Nat} {t : TypeId} {cs : Array Value} (h : w.heap[g]? = some (.cells cs t (0, 0))) (i : Nat) : w.frozen? ⟨g, i, none⟩ = false := by simp [World.frozen?, h]
def KeepBut (w w' : World) (g : Nat) (row : Option Nat) : Prop := w.heap.size ≤ w'.heap.size ∧ ∀ i, i < w.heap.size → i ≠ g → some i ≠ row → w'.heap[i]? = w.heap[i]?
theorem KeepBut.refl (w : World) (g : Nat) (row : Option Nat) : KeepBut w w g row := ⟨Nat.le_refl _, fun _ _ _ _ => rfl⟩
theorem KeepBut.of_below {w w1 : World} (h : Below w.heap.size w w1) (g : Nat) (row : Option Nat) : KeepBut w w1 g row := ⟨h.size, fun i hi _ _ => h.block i hi⟩
theorem KeepBut.set_ {w w1 : World} {g : Nat} {row : Option Nat} (h : KeepBut w w1 g row) (j : Nat) (u : Value) : KeepBut w (w1.setCell ⟨g, j, none⟩ u) g row :=
  ⟨by simpa [World.setCell] using h.1, fun i hi hg hr => (Below.heap_setCell w1 ⟨g, j, none⟩ u i hg).trans (h.2 i hi hg hr)⟩
theorem KeepBut.trans {w w1 w2 : World} {g : Nat} {row row1 : Option Nat} (h : KeepBut w w1 g row) (k : KeepBut w1 w2 g row1) (hr : row1 = row ∨ ∃ b, row1 = some b ∧ w.heap.size ≤ b) : KeepBut w w2 g row :=
  ⟨Nat.le_trans h.1 k.1, fun i hi hg hn => by
    refine (k.2 i (Nat.lt_of_lt_of_le hi h.1) hg ?_).trans (h.2 i hi hg hn)
    rcases hr with rfl | ⟨b, rfl, hb⟩
    · exact hn
    · intro e
      injection e with e
      omega⟩
def Ev {α : Type} (g : Nat → Option α) (r : α) : Prop := ∃ K, ∀ k, K ≤ k → g k = some r
theorem Ev.bind {α β : Type} {g : Nat → Option α} {f : Nat → α → Option β} {a : α} {r : β} (h : Ev g a) (k : Ev (fun n => f n a) r) : Ev (fun n => (g n).bind (f n)) r := by
  obtain ⟨K, h⟩ := h
  obtain ⟨K', k⟩ := k
  refine ⟨max K K', fun n hn => ?_⟩
  have h1 := h n (by omega)
  have h2 := k n (by omega)
  simp only [h1, Option.bind_some]
  exact h2
section
variable {P : Program} {ops : Array Oper} {o : Oper} {a : Act} {Q : Exit → Act → World → Prop} {K : Act → World → Prop}
end
theorem own_weaken {w : World} {base base' : Nat} {e : TypeId} {size n : Nat} {v : Value} {xs : List Value} (h : w.ownsRow base e size v n xs) (hb : base' ≤ base) : w.ownsRow base' e size v n xs := by
  obtain ⟨h1, h2⟩ := h
  refine ⟨h1, ?_⟩
  rcases h2 with h2 | ⟨g, cap, cur, rfl, hg, r⟩
  · exact .inl h2
  · exact .inr ⟨g, cap, cur, rfl, Nat.le_trans hb hg, r⟩
section
variable {α : Type} {enc : α → Value} {d : α}
def encs (enc : α → Value) (xs : List α) : List Value := xs.map enc
def rdOf (d : α) (xs : List α) (i : Int) : α := xs.getD i.toNat d
theorem encs_length (xs : List α) : (encs enc xs).length = xs.length := by simp [encs]
def ReadsOf (enc : α → Value) (d : α) (w : World) (A : Option Addr) (n : Nat) (xs : List α) : Prop :=
  xs.length = n ∧ n ≤ 9223372036854775807 ∧ (0 < n → ∃ ad, A = some ad ∧ ∀ j, j < n → w.cell? (ad.add j) = some (enc (xs.getD j d)))
theorem ReadsOf.at_ {w : World} {A : Option Addr} {n : Nat} {xs : List α} (h : ReadsOf enc d w A n xs) (i : Int) (h0 : 0 ≤ i) (h1 : i < n) : ∃ ad, A = some ad ∧ w.cell? (ad.add i.toNat) = some (enc (rdOf d xs i)) := by
  obtain ⟨ad, e, hc⟩ := h.2.2 (by omega)
  exact ⟨ad, e, hc _ (by omega)⟩
theorem ReadsOf.below {w w1 : World} {A : Option Addr} {n : Nat} {xs : List α} (h : ReadsOf enc d w A n xs) (hb : Below w.heap.size w w1) : ReadsOf enc d w1 A n xs :=
  ⟨h.1, h.2.1, fun hn => by
    obtain ⟨ad, e, hc⟩ := h.2.2 hn
    exact ⟨ad, e, fun j hj => pw_cell_below hb (hc j hj)⟩⟩
end
section
variable {α : Type} {P : Program} {ops : Array Oper} {rest : List Oper} {o : Oper} {a : Act} {Q : Exit → Act → World → Prop}
end
section
variable {P : Program}
end
theorem own_le {w : World} {base n m c size : Nat} {e : TypeId} {A : Option Addr} {xs : List Value} (h : w.ownsRow base e size (.slice A m c) n xs) : m ≤ c := by
  rcases h.2 with ⟨he, _⟩ | ⟨g, cap, cur, he, _, _, hnc, _⟩
  · injection he with _ h2 h3
    omega
  · injection he with _ h2 h3
    omega
def OwnRow {α : Type} (R : α → List Value → Prop) (e : TypeId) (size : Nat) (w : World) (base : Nat) (v : Value) (ps : List α) : Prop :=
  ∃ inner, w.ownsRow base e size v ps.length inner ∧ Reps R size ps inner
section
variable {α : Type} {R R' : α → List Value → Prop} {e : TypeId} {size : Nat} {w w1 : World} {base : Nat} {v : Value} {ps : List α}
theorem OwnRow.none_ (R : α → List Value → Prop) (e : TypeId) (size : Nat) (w : World) (base : Nat) : OwnRow R e size w base (.slice none 0 0) [] := ⟨[], own_nil _ _ _ _, Reps.none _ _⟩
theorem OwnRow.imp_ (h : OwnRow R e size w base v ps) (hR : ∀ p c, R p c → R' p c) : OwnRow R' e size w base v ps := by
  obtain ⟨inner, ho, hr⟩ := h
  exact ⟨inner, ho, hr.imp_ hR⟩
theorem OwnRow.below (h : OwnRow R e size w base v ps) (hb : Below w.heap.size w w1) : OwnRow R e size w1 base v ps := by
  obtain ⟨inner, ho, hr⟩ := h
  exact ⟨inner, pw_own_below ho hb, hr⟩
theorem OwnRow.reads (h : OwnRow R e size w base v ps) : ∃ A c, v = .slice A ps.length c ∧ ps.length ≤ c ∧ ReadsRow R size w A ps.length ps := by
  obtain ⟨inner, ho, hr⟩ := h
  obtain ⟨A, c, rfl, hrow⟩ := own_reads_row ho hr rfl
  exact ⟨A, c, rfl, own_le ho, hrow⟩
end
section
variable {P : Program} {ops : Array Oper} {rest : List Oper} {o : Oper} {a : Act} {Q : Exit → Act → World → Prop} {α : Type} {R : α → List Value → Prop}
end
section
variable {P : Program} {ops : Array Oper} {o : Oper} {a : Act} {Q : Exit → Act → World → Prop} {K : Act → World → Prop} {α : Type} {R : α → List Value → Prop}
end
theorem ReadsRow.inner_ {α : Type} {R : α → List Value → Prop} {size : Nat} {w : World} {ad : Addr} {n : Nat} {ps : List α} (h : ReadsRow R size w (some ad) n ps) :
    ∃ inner, Reps R size ps inner ∧ ∀ j u, inner[j]? = some u → w.cell? (ad.add j) = some u := by
  have key : ∀ m, m ≤ ps.length → ∃ inner, Reps R size (ps.take m) inner ∧ ∀ j u, inner[j]? = some u → w.cell? (ad.add j) = some u := by
    intro m
    induction m with
    | zero => exact fun _ => ⟨[], Reps.none _ _, fun j u hu => by simp at hu⟩
    | succ m ih =>
      intro hm
      obtain ⟨inner, hr, hc⟩ := ih (by omega)
      obtain ⟨ad', he, hcell⟩ := h.2.2 (by have := h.1; omega)
      injection he with he
      subst he
      obtain ⟨c, hcl, hp, hcc⟩ := hcell m _ (List.getElem?_eq_getElem (show m < ps.length by omega))
      refine ⟨inner ++ c, ?_, fun j u hu => ?_⟩
      · rw [List.take_succ_eq_append_getElem (show m < ps.length by omega)]
        exact hr.snoc hp hcl
      · have hil : inner.length = m * size := by rw [hr.1, List.length_take, Nat.min_eq_left (by omega)]
        rcases Nat.lt_or_ge j inner.length with hj | hj
        · rw [List.getElem?_append_left hj] at hu
          exact hc j u hu
        · rw [List.getElem?_append_right hj] at hu
          have := hcc (j - inner.length) u hu
          rwa [hil, Nat.add_sub_cancel' (by omega)] at this
  obtain ⟨inner, hr, hc⟩ := key ps.length (Nat.le_refl _)
  rw [List.take_length] at hr
  exact ⟨inner, hr, hc⟩
section
variable {α : Type} {P : Program}
end
section
variable {P : Program} {ops : Array Oper} {rest : List Oper} {o : Oper} {a : Act} {Q : Exit → Act → World → Prop}
end
structure Kd (α : Type) where
  sz : Nat
  E : List Nat
  K : World → α → List Value → Prop
  M : World → Nat → (Nat → Prop) → α → List Value → Prop
  K_len : ∀ {w x cs}, K w x cs → cs.length = sz
  K_one : ∀ {w x cs}, K w x cs → ∀ u ∈ cs, u.oneCell' = true
  K_below : ∀ {w w1 : World} {x cs}, Below w.heap.size w w1 → K w x cs → K w1 x cs
  K_of_M : ∀ {w base ok x cs}, M w base ok x cs → K w x cs
  M_mono : ∀ {w base ok ok' x cs}, (∀ k, ok k → ok' k) → M w base ok x cs → M w base ok' x cs
  M_bound : ∀ {w : World} {base ok x cs}, M w base ok x cs → M w base (fun k => ok k ∧ base ≤ k ∧ k < w.heap.size ∧ ∃ q, q ∈ E ∧ ∃ cells, w.heap[k]? = some (.cells cells q (0, 0))) x cs
  M_move : ∀ {w w1 : World} {base ok x cs}, (∀ k, ok k → w1.heap[k]? = w.heap[k]?) → M w base ok x cs → M w1 base ok x cs
  M_lower : ∀ {w base base' ok x cs}, base' ≤ base → M w base ok x cs → M w base' ok x cs
theorem own_move {w w1 : World} {base : Nat} {e : TypeId} {size n : Nat} {v : Value} {xs : List Value} (h : w.ownsRow base e size v n xs) (hm : ∀ k, v.ownBlock = some k → w1.heap[k]? = w.heap[k]?) : w1.ownsRow base e size v n xs := by
  obtain ⟨h1, h2⟩ := h
  refine ⟨h1, ?_⟩
  rcases h2 with h2 | ⟨g, cap, cur, rfl, hg, hh, r⟩
  · exact .inl h2
  · exact .inr ⟨g, cap, cur, rfl, hg, (hm g (by simp [Value.ownBlock])).trans hh, r⟩
theorem own_typed {w : World} {base : Nat} {e : TypeId} {size n : Nat} {v : Value} {xs : List Value} (h : w.ownsRow base e size v n xs) (k : Nat) (hk : v.ownBlock = some k) : ∃ cells, w.heap[k]? = some (.cells cells e (0, 0)) := by
  rcases h.2 with ⟨rfl, _⟩ | ⟨g, cap, cur, rfl, hg, hh, r⟩
  · simp [Value.ownBlock] at hk
  · have : g = k := by simpa [Value.ownBlock] using hk
    subst this
    exact ⟨cur, hh⟩
namespace Kd
def C {α : Type} (d : Kd α) (w : World) (A : Option Addr) (n : Nat) (xs : List α) : Prop := ReadsRow (d.K w) d.sz w A n xs
def R {α : Type} (d : Kd α) (e : Nat) (w : World) (base : Nat) (ok : Nat → Prop) (v : Value) (xs : List α) : Prop :=
  (∀ k, v.ownBlock = some k → ok k) ∧ OwnRow (d.M w base (fun k => ok k ∧ some k ≠ v.ownBlock)) e d.sz w base v xs
section
variable {α : Type} {d : Kd α} {e : Nat} {w w1 : World} {base : Nat} {ok ok' : Nat → Prop} {v : Value} {xs : List α}
theorem C_below {A : Option Addr} {n : Nat} (h : d.C w A n xs) (hb : Below w.heap.size w w1) : d.C w1 A n xs := ReadsRow.imp_ h hb (fun _ _ hp => d.K_below hb hp)
theorem R_nil (d : Kd α) (e : Nat) (w : World) (base : Nat) (ok : Nat → Prop) : d.R e w base ok (.slice none 0 0) [] := ⟨fun k hk => by simp [Value.ownBlock] at hk, OwnRow.none_ _ _ _ _ _⟩
theorem R_mono (h : d.R e w base ok v xs) (hok : ∀ k, ok k → ok' k) : d.R e w base ok' v xs := ⟨fun k hk => hok k (h.1 k hk), h.2.imp_ (fun _ _ hp => d.M_mono (fun k hk => ⟨hok k hk.1, hk.2⟩) hp)⟩
theorem R_bound (h : d.R e w base ok v xs) : d.R e w base (fun k => ok k ∧ base ≤ k ∧ k < w.heap.size ∧ ∃ q, q ∈ e :: d.E ∧ ∃ cells, w.heap[k]? = some (.cells cells q (0, 0))) v xs := by
  obtain ⟨h0, inner, ho, hr⟩ := h
  refine ⟨fun k hk => ?_, inner, ho, hr.imp_ (fun _ _ hp => d.M_mono (fun k hk => ?_) (d.M_bound hp))⟩
  · obtain ⟨cells, hc⟩ := own_typed ho k hk
    exact ⟨h0 k hk, own_base ho k hk, own_lt ho k hk, e, List.mem_cons_self, cells, hc⟩
  · obtain ⟨⟨h1, h2⟩, h3, h4, q, hq, hc⟩ := hk
    exact ⟨⟨h1, h3, h4, q, List.mem_cons_of_mem _ hq, hc⟩, h2⟩
theorem R_move (h : d.R e w base ok v xs) (hm : ∀ k, ok k → w1.heap[k]? = w.heap[k]?) : d.R e w1 base ok v xs := by
  obtain ⟨h0, inner, ho, hr⟩ := h
  exact ⟨h0, inner, own_move ho (fun k hk => hm k (h0 k hk)), hr.imp_ (fun _ _ hp => d.M_move (fun k hk => hm k hk.1) hp)⟩
theorem R_lower {base' : Nat} (h : d.R e w base ok v xs) (hb : base' ≤ base) : d.R e w base' ok v xs := by
  obtain ⟨h0, inner, ho, hr⟩ := h
  exact ⟨h0, inner, own_weaken ho hb, hr.imp_ (fun _ _ hp => d.M_lower hb hp)⟩
theorem R_step (h : d.R e w base ok v xs) (hm : ∀ k, ok k → k < w.heap.size → w1.heap[k]? = w.heap[k]?) : d.R e w1 base ok v xs :=
  R_mono (R_move (R_bound h) (fun k hk => hm k hk.1 hk.2.2.1)) (fun _ hk => hk.1)
theorem M_step {x : α} {cs : List Value} (h : d.M w base ok x cs) (hm : ∀ k, ok k → k < w.heap.size → w1.heap[k]? = w.heap[k]?) : d.M w1 base ok x cs :=
  d.M_mono (fun _ hk => hk.1) (d.M_move (fun k hk => hm k hk.1 hk.2.2.1) (d.M_bound h))
theorem R_below (h : d.R e w base ok v xs) (hb : Below w.heap.size w w1) : d.R e w1 base ok v xs := R_step h (fun k _ hk => hb.block k hk)
theorem M_below {x : α} {cs : List Value} (h : d.M w base ok x cs) (hb : Below w.heap.size w w1) : d.M w1 base ok x cs := M_step h (fun k _ hk => hb.block k hk)
theorem R_reads (h : d.R e w base ok v xs) : ∃ A c, v = .slice A xs.length c ∧ xs.length ≤ c ∧ d.C w A xs.length xs := by
  obtain ⟨A, c, he, hl, hr⟩ := OwnRow.reads h.2
  exact ⟨A, c, he, hl, hr.imp_ (Below.refl _ _) (fun _ _ hp => d.K_of_M hp)⟩
theorem R_slice (h : d.R e w base ok v xs) : ∃ A c, v = .slice A xs.length c := by
  obtain ⟨A, c, he, _⟩ := R_reads h
  exact ⟨A, c, he⟩
end
def scalar {α : Type} (enc : α → Value) (h1 : ∀ x, (enc x).oneCell' = true) : Kd α where
  sz := 1
  E := []
  K := fun _ x cs => cs = [enc x]
  M := fun _ _ _ x cs => cs = [enc x]
  K_len := fun h => by rw [h]; rfl
  K_one := fun h u hu => by
    rw [h] at hu
    rw [List.mem_singleton.1 hu]
    exact h1 _
  K_below := fun _ h => h
  K_of_M := fun h => h
  M_mono := fun _ h => h
  M_bound := fun h => h
  M_move := fun _ h => h
  M_lower := fun _ h => h
def int (k : IntKind) : Kd Int := scalar (Value.int k) (fun _ => rfl)
def slice {α : Type} (e : Nat) (d : Kd α) : Kd (List α) where
  sz := 1
  E := e :: d.E
  K := fun w xs cs => ∃ A c, cs = [.slice A xs.length c] ∧ xs.length ≤ c ∧ d.C w A xs.length xs
  M := fun w base ok xs cs => ∃ v, cs = [v] ∧ d.R e w base ok v xs
  K_len := by
    rintro w x cs ⟨A, c, rfl, _⟩
    rfl
  K_one := by
    rintro w x cs ⟨A, c, rfl, _⟩ u hu
    rw [List.mem_singleton.1 hu]
    rfl
  K_below := by
    rintro w w1 x cs hb ⟨A, c, rfl, hl, hr⟩
    exact ⟨A, c, rfl, hl, C_below hr hb⟩
  K_of_M := by
    rintro w base ok x cs ⟨v, rfl, h⟩
    obtain ⟨A, c, rfl, hl, hr⟩ := R_reads h
    exact ⟨A, c, rfl, hl, hr⟩
  M_mono := by
    rintro w base ok ok' x cs hok ⟨v, rfl, h⟩
    exact ⟨v, rfl, R_mono h hok⟩
  M_bound := by
    rintro w base ok x cs ⟨v, rfl, h⟩
    exact ⟨v, rfl, R_bound h⟩
  M_move := by
    rintro w w1 base ok x cs hm ⟨v, rfl, h⟩
    exact ⟨v, rfl, R_move h hm⟩
  M_lower := by
    rintro w base base' ok x cs hb ⟨v, rfl, h⟩
    exact ⟨v, rfl, R_lower h hb⟩
def bot {α : Type} (sz : Nat) (E : List Nat) : Kd α where
  sz := sz
  E := E
  K := fun _ _ _ => False
  M := fun _ _ _ _ _ => False
  K_len := fun h => h.elim
  K_one := fun h => h.elim
  K_below := fun _ h => h
  K_of_M := fun h => h
  M_mono := fun _ h => h
  M_bound := fun h => h
  M_move := fun _ h => h
  M_lower := fun _ h => h
def upto {α : Type} (F : Kd α → Kd α) (sz : Nat) (E : List Nat) : Nat → Kd α
  | 0 => bot sz E
  | n + 1 => F (upto F sz E n)
section
variable {P : Program} {ops : Array Oper} {rest : List Oper} {o : Oper} {a : Act} {Q : Exit → Act → World → Prop} {α : Type}
end
section
variable {P : Program} {ops : Array Oper} {o : Oper} {a : Act} {Q : Exit → Act → World → Prop} {Kc : Act → World → Prop} {α : Type}
end
theorem reps_scalar {α : Type} {enc : α → Value} (xs : List α) : Reps (fun (x : α) (cs : List Value) => cs = [enc x]) 1 xs (encs enc xs) := by
  refine ⟨by simp [encs], fun j p hj => ?_⟩
  obtain ⟨hl, hp⟩ := List.getElem?_eq_some_iff.1 hj
  have hl' : j < (encs enc xs).length := by rw [encs_length]; exact hl
  rw [Nat.mul_one, List.drop_eq_getElem_cons hl']
  simp [encs, hp]
theorem R_of_own {α : Type} {enc : α → Value} {h1 : ∀ x, (enc x).oneCell' = true} {e : Nat} {w : World} {base : Nat} {ok : Nat → Prop} {v : Value} {xs : List α} (ho : w.ownsRow base e 1 v xs.length (encs enc xs)) (hok : ∀ k, v.ownBlock = some k → ok k) : (scalar enc h1).R e w base ok v xs := ⟨hok, encs enc xs, ho, reps_scalar xs⟩
theorem reads_of_C {α : Type} {enc : α → Value} {d : α} {h1 : ∀ x, (enc x).oneCell' = true} {w : World} {A : Option Addr} {n : Nat} {xs : List α} (h : (scalar enc h1).C w A n xs) : ReadsOf enc d w A n xs := by
  refine ⟨h.1, h.2.1, fun hn => ?_⟩
  obtain ⟨ad, e, hc⟩ := h.2.2 hn
  refine ⟨ad, e, fun j hj => ?_⟩
  have hl : j < xs.length := by have := h.1; omega
  obtain ⟨c, _, hK, hcell⟩ := hc j _ (List.getElem?_eq_getElem hl)
  have hK' : c = [enc xs[j]] := hK
  subst hK'
  have := hcell 0 _ rfl
  simpa [scalar, List.getD_eq_getElem?_getD, List.getElem?_eq_getElem hl] using this
end Kd
namespace Kd
section
variable {α : Type} {F : Kd α → Kd α} {sz : Nat} {E : List Nat} {hs : ∀ n, (upto F sz E n).sz = sz} {hE : ∀ n q, q ∈ (upto F sz E n).E → q ∈ E}
end
end Kd
namespace Kd
end Kd
namespace Kd
section
variable {α β : Type} {d : Kd α} {d' : Kd β} {e e' : Nat} {w w1 W : World} {base b b' : Nat} {ok ok' okv oku : Nat → Prop} {v u : Value} {xs : List α} {ys : List β}
theorem C_nil (d : Kd α) (w : World) : d.C w none ([] : List α).length [] := ⟨rfl, by simp, fun h => absurd h (Nat.lt_irrefl 0)⟩
theorem R_reads' {A : Option Addr} {n c : Nat} (h : d.R e w base ok (.slice A n c) xs) : n = xs.length ∧ n ≤ c ∧ d.C w A xs.length xs := by
  obtain ⟨A', c', he, hl, hr⟩ := R_reads h
  injection he with h1 h2 h3
  subst h1
  exact ⟨h2, by omega, hr⟩
end
section
variable {w W : World} {A : Option Addr} {n : Nat}
theorem at_int {k : IntKind} {xs : List Int} (h : (Kd.int k).C w A n xs) (i : Int) (h0 : 0 ≤ i) (h1 : i < n) : ∃ ad, A = some ad ∧ w.cell? (ad.add i.toNat) = some (.int k (rd xs i)) :=
  ReadsOf.at_ (reads_of_C (enc := Value.int k) (d := (0 : Int)) (h1 := fun _ => rfl) h) i h0 h1
variable {α : Type} {enc : α → Value} {h1 : ∀ x, (enc x).oneCell' = true} {e base g cap : Nat} {ok : Nat → Prop} {xs : List α}
end
section
variable {P : Program} {ops : Array Oper} {rest : List Oper} {o : Oper} {a : Act} {Q : Exit → Act → World → Prop}
theorem event_run {W w1 : World} {v : Value} (hgd : o.guard = none) (hrun : (execOp a.eval o).run P W = .ok (.value v) w1) (h : wpList P ops Q rest (a.put o.dst v) w1) : wpList P ops Q (o :: rest) a W := by
  refine wpList_plain hgd fun K hK => ?_
  unfold Oper.wp
  rw [hrun]
  exact hK _ _ h
variable {α : Type}
theorem R_lit (d : Kd α) {w0 W : World} (base e : Nat) (hgd : o.guard = none) {N : Tmp} (_hd : o.dst = some N) {xs : List α} {inner : List Value} {ok okp : Nat → Prop}
    (hrun : (execOp a.eval o).run P W = .ok (.value (.slice (some ⟨W.heap.size, 0, none⟩) xs.length xs.length)) (W.alloc (.cells inner.toArray e)))
    (hrep : Reps (d.M W base okp) d.sz xs inner) (hok : ∀ k, okp k → ok k) (hfresh : ok W.heap.size) (HB : Below base w0 W) (hbase : base ≤ W.heap.size) (hm : xs.length ≤ 9223372036854775807)
    (h : ∀ v1 w1, d.R e w1 base ok v1 xs → Below base w0 w1 → W.grownBy w1 none → (∃ b, v1.ownBlock = some b ∧ W.heap.size ≤ b) → wpList P ops Q rest (a.put o.dst v1) w1) : wpList P ops Q (o :: rest) a W := by
  refine event_run hgd hrun (h _ _ ⟨fun k hk => ?_, inner, ?_, ?_⟩ (HB.alloc hbase _) (World.grownBy_alloc W _ none) ⟨W.heap.size, by simp [Value.ownBlock], Nat.le_refl _⟩)
  · have : W.heap.size = k := by simpa [Value.ownBlock] using hk
    subst this
    exact hfresh
  · have h2 := World.ownsRow_lit (base := base) (e := e) (size := d.sz) W inner.toArray xs.length hbase (by simpa [maxLen] using hm) (by simpa using hrep.1)
    simpa using h2
  · refine hrep.imp_ (fun p c hp => d.M_mono (fun k hk => ⟨hok k hk.1, fun he => ?_⟩) (M_below (d.M_bound hp) (below_alloc (Below.refl _ _) _)))
    have h3 : k = W.heap.size := by simpa [Value.ownBlock] using he
    have := hk.2.2.1
    omega
end
end Kd
section
variable {P : Program}
theorem cut_to (t e : TypeId) (kh : IntKind) {i : TypeInfo} (ht : P.underlying t = some (.slice e)) (hi : P.info? e = some i) (A : Option Addr) (n c : Nat) (j : Int) (h0 : 0 ≤ j) (hm : j ≤ n) (hc : n ≤ c) :
    ∀ W : World, (Instr.slice t (.slice A n c) none (some (.int kh j)) none).run P W = .ok (.slice A j.toNat c) W := by
  intro W
  have hel : P.elem t = e := by simp [Program.elem, ht]
  have hu : P.underlying t = some (.slice (P.elem t)) := by rw [hel]; exact ht
  have ha : (A.map fun x => x.add 0) = A := by cases A <;> simp [Addr.add]
  rw [run_slice_h W t A n c hu kh j h0 (by omega), hel]
  simp [sizeOf, typeInfo, hi, sliced, Result.andThen, ha]
theorem cut_from (t e : TypeId) (kl : IntKind) {i : TypeInfo} (ht : P.underlying t = some (.slice e)) (hi : P.info? e = some i) (size : Nat) (hsz : i.size = size) (A : Option Addr) (n c : Nat) (j : Int) (h0 : 0 ≤ j) (hm : j ≤ n) :
    ∀ W : World, (Instr.slice t (.slice A n c) (some (.int kl j)) none none).run P W = .ok (.slice (if c = j.toNat then A else A.map (·.add (j.toNat * size))) (n - j.toNat) (c - j.toNat)) W := by
  intro W
  have hel : P.elem t = e := by simp [Program.elem, ht]
  have hu : P.underlying t = some (.slice (P.elem t)) := by rw [hel]; exact ht
  rw [run_slice_l W t A n c hu kl j h0 hm, hel]
  simp [sizeOf, typeInfo, hi, hsz, sliced, Result.andThen]
end
def QRow (w : World) (base : Nat) (e : TypeId) (size : Nat) (v : Value) (n : Nat) (xs : List Value) : Prop :=
  xs.length = n * size ∧
  ((n = 0 ∧ ∃ A, v = .slice A 0 0 ∧ ∀ a, A = some a → base ≤ a.block ∧ ∃ cur, w.heap[a.block]? = some (.cells cur e (0, 0))) ∨
   ∃ g off cap cur, v = .slice (some ⟨g, off * size, none⟩) n cap ∧ base ≤ g ∧ w.heap[g]? = some (.cells cur e (0, 0)) ∧ n ≤ cap ∧ off + cap ≤ maxLen ∧ cur.size = (off + cap) * size ∧ (cur.toList.drop (off * size)).take (n * size) = xs)
section
variable {w w1 : World} {base n size : Nat} {e : TypeId} {v : Value} {xs : List Value}
end
section
variable {P : Program}
end
namespace Kd
def Q {α : Type} (d : Kd α) (e : Nat) (w : World) (base : Nat) (ok : Nat → Prop) (v : Value) (xs : List α) : Prop :=
  (∀ k, v.ownBlock = some k → ok k) ∧ ∃ inner, QRow w base e d.sz v xs.length inner ∧ Reps (d.M w base (fun k => ok k ∧ some k ≠ v.ownBlock)) d.sz xs inner
section
variable {α : Type} {d : Kd α} {e : Nat} {w w1 W : World} {base : Nat} {ok ok' : Nat → Prop} {v : Value} {xs : List α}
end
section
variable {P : Program} {ops : Array Oper} {rest : List Oper} {o : Oper} {a : Act} {Q' : Exit → Act → World → Prop} {Kc : Act → World → Prop} {α : Type}
end
end Kd
namespace Kd
section
variable {α : Type} {d : Kd α} {e e' : Nat} {w w1 W : World} {base : Nat} {ok : Nat → Prop} {u v : Value} {xs : List α}
end
end Kd
namespace Kd
section
variable {α : Type} {d : Kd α} {e base g n cap : Nat} {ok okp : Nat → Prop} {W : World} {xs : List α}
end
end Kd
namespace Kd
section
variable {α : Type} {F : Kd α → Kd α} {sz : Nat} {E : List Nat} {hs : ∀ n, (upto F sz E n).sz = sz} {hE : ∀ n q, q ∈ (upto F sz E n).E → q ∈ E}
end
end Kd
namespace Kd
theorem reps_append {α : Type} {R : α → List Value → Prop} {size : Nat} {ps qs : List α} {cs ds : List Value} (h : Reps R size ps cs) (h' : Reps R size qs ds) : Reps R size (ps ++ qs) (cs ++ ds) := by
  refine ⟨by rw [List.length_append, List.length_append, h.1, h'.1, Nat.add_mul], fun j p hj => ?_⟩
  rcases Nat.lt_or_ge j ps.length with hlt | hge
  · rw [List.getElem?_append_left hlt] at hj
    have hle : j * size + size ≤ cs.length := by rw [h.1, ← Nat.succ_mul]; exact Nat.mul_le_mul_right _ hlt
    rw [List.drop_append_of_le_length (by omega), List.take_append_of_le_length (by rw [List.length_drop]; omega)]
    exact h.2 j p hj
  · rw [List.getElem?_append_right hge] at hj
    have h2 := h'.2 (j - ps.length) p hj
    have hle : ps.length * size ≤ j * size := Nat.mul_le_mul_right _ hge
    rw [List.drop_append, List.drop_eq_nil_of_le (by rw [h.1]; exact hle), List.nil_append, h.1, ← Nat.sub_mul]
    exact h2
section
variable {P : Program} {ops : Array Oper} {rest : List Oper} {o : Oper} {a : Act} {Q : Exit → Act → World → Prop} {α : Type}
theorem R_append_rows (d : Kd α) {Rr : α → List Value → Prop} {w0 W : World} (base : Nat) (hgd : o.guard = none) (s x : Operand) (t e : TypeId) (z : Value) (bytes : Nat)
    (ho : o.op = .call { callee := .builtin .append, args := #[s, x], argTypes := #[t, t] })
    (ht : P.underlying t = some (.slice e)) (hinfo : (P.info? e).map (fun i => (i.zero, i.size, i.bytes)) = some (some z, d.sz, bytes)) (hz : z.cells.size = d.sz) (hs0 : 0 < d.sz) (hb0 : 0 < bytes)
    (v : Value) (xs ys : List α) (A : Option Addr) (m c : Nat) (ok okp : Nat → Prop) (hs : a.eval s = v) (hx : a.eval x = .slice A m c)
    (HO : d.R e W base ok v xs) (HR : ReadsRow Rr d.sz W A m ys) (hKM : ∀ x cs, Rr x cs → d.M W base okp x cs) (hokp : ∀ k, okp k → ok k ∧ some k ≠ v.ownBlock) (hfresh : ∀ k, W.heap.size ≤ k → ok k)
    (HB : Below base w0 W) (hbase : base ≤ W.heap.size) (hl : (xs.length + m) * bytes ≤ 140737488355328)
    (h : ∀ v1 w1, d.R e w1 base ok v1 (xs ++ ys) → Below base w0 w1 → W.grownBy w1 v.ownBlock → (v1.ownBlock = v.ownBlock ∨ ∃ b, v1.ownBlock = some b ∧ W.heap.size ≤ b) → wpList P ops Q rest (a.put o.dst v1) w1) :
    wpList P ops Q (o :: rest) a W := by
  obtain ⟨i0, hi, hzz⟩ := Option.map_eq_some_iff.1 hinfo
  simp only [Prod.mk.injEq] at hzz
  obtain ⟨hz0, hz1, hz2⟩ := hzz
  have hm : ys.length = m := HR.1
  have hlen : xs.length + m ≤ 140737488355328 := Nat.le_trans (Nat.le_mul_of_pos_right _ hb0) hl
  obtain ⟨hok, inner, hown, hr⟩ := HO
  have hrun : ∃ v1 w1, (Builtin.append_ #[t, t] o.type #[v, .slice A m c]).run P W = .ok v1 w1 ∧ d.R e w1 base ok v1 (xs ++ ys) ∧ W.grownBy w1 v.ownBlock ∧ (v1.ownBlock = v.ownBlock ∨ ∃ b, v1.ownBlock = some b ∧ W.heap.size ≤ b) := by
    rcases A with _ | ad
    · have h0 : m = 0 := by
        rcases Nat.eq_zero_or_pos m with h0 | h0
        · exact h0
        · obtain ⟨ad, h, _⟩ := HR.2.2 h0
          cases h
      subst h0
      obtain rfl : ys = [] := List.eq_nil_of_length_eq_zero hm
      refine ⟨v, W, ?_, by rw [List.append_nil]; exact ⟨hok, inner, hown, hr⟩, World.grownBy.refl W _, .inl rfl⟩
      rcases hown.2 with ⟨rfl, hn⟩ | ⟨g, cap, cur, rfl, _, _, hnc, _⟩
      · simp [Builtin.append_, run_underlying ht, sizeOf, typeInfo, hi, Builtin.lenOf, Builtin.firstCells]
      · simp [Builtin.append_, run_underlying ht, sizeOf, typeInfo, hi, Builtin.lenOf, Builtin.firstCells, hnc, storeCells]
    · obtain ⟨news, hnr, hnc⟩ := ReadsRow.inner_ HR
      have hnM : Reps (d.M W base okp) d.sz ys news := hnr.imp_ (fun p c hp => hKM p c hp)
      have hone : ∀ u ∈ news, u.oneCell' = true := by
        intro u hu
        obtain ⟨q, hq, rfl⟩ := List.mem_iff_getElem.1 hu
        have hql : q / d.sz < ys.length := by
          rw [Nat.div_lt_iff_lt_mul hs0]
          rw [← hnM.1]
          exact hq
        have hc := hnM.2 (q / d.sz) _ (List.getElem?_eq_getElem hql)
        refine d.K_one (d.K_of_M hc) _ ?_
        rw [List.mem_iff_getElem?]
        refine ⟨q % d.sz, ?_⟩
        rw [List.getElem?_take, if_pos (Nat.mod_lt _ hs0), List.getElem?_drop, Nat.mul_comm, Nat.div_add_mod, List.getElem?_eq_getElem hq]
      obtain ⟨v1, w1, hrun, h2, hg, _, hat⟩ := run_append_own_at (P := P) W base t o.type e i0 z d.sz bytes ht hi hz0 hz1 hz2 hz hs0 v xs.length inner hown ad m c news (by rw [hnM.1, hm]) hnc hone (by simp only [maxLen]; omega) hl hbase
      have hat' : v1.ownBlock = v.ownBlock ∨ ∃ b, v1.ownBlock = some b ∧ W.heap.size ≤ b := by
        rcases hat with hat | hat
        · exact .inl hat
        · exact .inr ⟨_, hat, Nat.le_refl _⟩
      have hne : ∀ k, some k ≠ v.ownBlock → k < W.heap.size → some k ≠ v1.ownBlock := by
        intro k hk hlt
        rcases hat' with hat | ⟨b, hb, hle⟩
        · rw [hat]; exact hk
        · rw [hb]
          intro he
          injection he with he
          omega
      have step : ∀ {q : α} {c : List Value} {o : Nat → Prop}, d.M W base o q c → (∀ k, o k → ok k ∧ some k ≠ v.ownBlock) → d.M w1 base (fun k => ok k ∧ some k ≠ v1.ownBlock) q c := by
        intro q c o hq ho
        have h1 := d.M_move (w1 := w1) (fun k hk => hg.block k hk.2.2.1 (ho k hk.1).2) (d.M_bound hq)
        exact d.M_mono (fun k hk => ⟨(ho k hk.1).1, hne k (ho k hk.1).2 hk.2.2.1⟩) h1
      refine ⟨v1, w1, hrun, ⟨fun k hk => ?_, inner ++ news, by rw [List.length_append, hm]; exact h2, reps_append (hr.imp_ (fun _ _ hq => step hq (fun _ hk => hk))) (hnM.imp_ (fun _ _ hq => step hq hokp))⟩, hg, hat'⟩
      rcases hat' with hat | ⟨b, hb, hle⟩
      · exact hok k (hat ▸ hk)
      · rw [hb] at hk
        injection hk with hk
        exact hfresh k (by omega)
  obtain ⟨v1, w1, hr1, h1, hg, hat⟩ := hrun
  refine wpList_plain hgd fun K hK => ?_
  unfold Oper.wp execOp
  simp only [ho, resolve, invoke, builtin, Sem.run_bind, Sem.run_pure, Result.andThen_ok, List.map_toArray, List.map_cons, List.map_nil, hs, hx, hr1]
  exact hK _ _ (h v1 w1 h1 (HB.grown hg hbase (own_base hown)) hg hat)
end
end Kd
namespace Kd
section
variable {P : Program} {ops : Array Oper} {rest : List Oper} {o : Oper} {a : Act} {Q : Exit → Act → World → Prop} {α : Type}
end
end Kd
theorem add_add (a : Addr) (i j : Nat) : (a.add i).add j = a.add (i + j) := by
  unfold Addr.add
  by_cases h1 : i = 0 <;> by_cases h2 : j = 0 <;> simp [h1, h2, Nat.add_assoc]
namespace Kd
section
variable {α : Type} {k : Kd α} {w : World} {A : Option Addr} {xs : List α} {m c : Nat}
theorem C_take (h : k.C w A xs.length xs) (hm : m ≤ xs.length) : k.C w A (xs.take m).length (xs.take m) := by
  have hl : (xs.take m).length = m := by rw [List.length_take]; omega
  refine ⟨rfl, by rw [hl]; have := h.2.1; omega, fun hp => ?_⟩
  obtain ⟨ad, e, hc⟩ := h.2.2 (by omega)
  refine ⟨ad, e, fun j p hj => hc j p ?_⟩
  rw [List.getElem?_take] at hj
  split at hj
  · exact hj
  · cases hj
theorem C_drop (h : k.C w A xs.length xs) (hm : m ≤ xs.length) (hc : xs.length ≤ c) : k.C w (if c = m then A else A.map (·.add (m * k.sz))) (xs.drop m).length (xs.drop m) := by
  have hl : (xs.drop m).length = xs.length - m := List.length_drop
  refine ⟨rfl, by rw [hl]; have := h.2.1; omega, fun hp => ?_⟩
  rw [hl] at hp
  obtain ⟨ad, rfl, hcell⟩ := h.2.2 (by omega)
  rw [if_neg (by omega)]
  refine ⟨ad.add (m * k.sz), rfl, fun j p hj => ?_⟩
  rw [List.getElem?_drop] at hj
  obtain ⟨cs, h1, h2, h3⟩ := hcell (m + j) p hj
  refine ⟨cs, h1, h2, fun i u hu => ?_⟩
  rw [add_add, show m * k.sz + (j * k.sz + i) = (m + j) * k.sz + i by rw [Nat.add_mul]; omega]
  exact h3 i u hu
theorem C_mid {lo hi : Nat} (h : k.C w A xs.length xs) (h1 : lo ≤ hi) (h2 : hi ≤ xs.length) (hc : xs.length ≤ c) : k.C w (if c = lo then A else A.map (·.add (lo * k.sz))) ((xs.take hi).drop lo).length ((xs.take hi).drop lo) := by
  have hl : (xs.take hi).length = hi := by rw [List.length_take]; omega
  exact C_drop (C_take h h2) (by omega) (by omega)
end
end Kd
section
variable {P : Program}
theorem cut_mid (t e : TypeId) (kl kh : IntKind) {i : TypeInfo} (ht : P.underlying t = some (.slice e)) (hi : P.info? e = some i) (size : Nat) (hsz : i.size = size) (A : Option Addr) (n c : Nat) (lo hi' : Int) (h0 : 0 ≤ lo) (h1 : lo ≤ hi') (h2 : hi' ≤ n) (hc : n ≤ c) :
    ∀ W : World, (Instr.slice t (.slice A n c) (some (.int kl lo)) (some (.int kh hi')) none).run P W = .ok (.slice (if c = lo.toNat then A else A.map (·.add (lo.toNat * size))) (hi'.toNat - lo.toNat) (c - lo.toNat)) W := by
  intro W
  have hel : P.elem t = e := by simp [Program.elem, ht]
  have hu : P.underlying t = some (.slice (P.elem t)) := by rw [hel]; exact ht
  rw [run_slice_lh W t A n c hu kl kh lo hi' h0 h1 (by omega), hel]
  simp [sizeOf, typeInfo, hi, hsz, sliced, Result.andThen]
end
theorem below_size {w W : World} (h : Below w.heap.size w W) : w.heap.size ≤ W.heap.size := h.size
theorem below_step {w W w2 : World} (h : Below w.heap.size w W) (k : Below W.heap.size W w2) : Below w.heap.size w w2 := below_then h h.size k
theorem ReadsInt.drewN {W : World} {k : IntKind} {A : Option Addr} {n : Nat} {xs : List Int} (h : ReadsInt W k A n xs) (m : Nat) : ReadsInt (W.drewN m) k A n xs := h
theorem ReadsOf.drewN {α : Type} {enc : α → Value} {d : α} {W : World} {A : Option Addr} {n : Nat} {xs : List α} (h : ReadsOf enc d W A n xs) (m : Nat) : ReadsOf enc d (W.drewN m) A n xs := h
namespace Kd
section
variable {α β : Type} {d : Kd α} {d' : Kd β} {e e' base base' n : Nat} {ok ok' : Nat → Prop} {w W w1 W1 : World} {v u : Value} {xs : List α} {ys : List β} {A : Option Addr} {c : Nat}
end
section
variable {α : Type} {enc : α → Value} {h1 : ∀ x, (enc x).oneCell' = true} {w W : World} {A : Option Addr} {n g : Nat} {xs : List α}
end
end Kd
namespace Kd
section
variable {α : Type} {d : Kd α} {e base g : Nat} {ok : Nat → Prop} {w w1 : World} {v : Value} {xs : List α} {o : Obj}
end
end Kd
section
variable {P : Program} {ops : Array Oper} {rest : List Oper} {o : Oper} {a : Act} {Q : Exit → Act → World → Prop}
end
namespace Kd
section
variable {α : Type} {enc : α → Value} {h1 : ∀ x, (enc x).oneCell' = true} {e base g n cap : Nat} {ok : Nat → Prop} {W : World} {xs : List α}
end
end Kd
section
variable {P : Program} {ops : Array Oper} {rest : List Oper} {o : Oper} {a : Act} {Q : Exit → Act → World → Prop}
end
namespace Kd
section
variable {α : Type} {enc : α → Value} {h1 : ∀ x, (enc x).oneCell' = true} {e base g n cap : Nat} {ok : Nat → Prop} {W : World} {xs : List α}
end
end Kd
section
variable {P : Program} {ops : Array Oper} {rest : List Oper} {o : Oper} {a : Act} {Q : Exit → Act → World → Prop} {W : World}
theorem gate_dst {N : Tmp} (_hN : o.dst = some N) (h : wpList P ops Q (o :: rest) a W) : wpList P ops Q (o :: rest) a W := h
end
section
variable {P : Program} {ops : Array Oper} {o : Oper} {a : Act} {Q : Exit → Act → World → Prop} {Kc : Act → World → Prop}
namespace Kd
variable {α : Type}
theorem R_append_rows_step (d : Kd α) {Rr : α → List Value → Prop} {w0 W : World} (base : Nat) (hw : Region.wanted o (yielded ops a.tmps) = true) (s x : Operand) (t e : TypeId) (z : Value) (bytes : Nat)
    (ho : o.op = .call { callee := .builtin .append, args := #[s, x], argTypes := #[t, t] })
    (ht : P.underlying t = some (.slice e)) (hinfo : (P.info? e).map (fun i => (i.zero, i.size, i.bytes)) = some (some z, d.sz, bytes)) (hz : z.cells.size = d.sz) (hs0 : 0 < d.sz) (hb0 : 0 < bytes)
    (v : Value) (xs ys : List α) (A : Option Addr) (m c : Nat) (ok okp : Nat → Prop) (hs : a.eval s = v) (hx : a.eval x = .slice A m c)
    (HO : d.R e W base ok v xs) (HR : ReadsRow Rr d.sz W A m ys) (hKM : ∀ x cs, Rr x cs → d.M W base okp x cs) (hokp : ∀ k, okp k → ok k ∧ some k ≠ v.ownBlock) (hfresh : ∀ k, W.heap.size ≤ k → ok k)
    (HB : Below base w0 W) (hbase : base ≤ W.heap.size) (hl : (xs.length + m) * bytes ≤ 140737488355328)
    (h : ∀ v1 w1, d.R e w1 base ok v1 (xs ++ ys) → Below base w0 w1 → W.grownBy w1 v.ownBlock → (v1.ownBlock = v.ownBlock ∨ ∃ b, v1.ownBlock = some b ∧ W.heap.size ≤ b) → Kc (a.put o.dst v1) w1) :
    if Region.wanted o (yielded ops a.tmps) = true then Oper.wp P o a W Kc Q else Kc (a.put o.dst undef) W := by
  obtain ⟨i0, hi, hzz⟩ := Option.map_eq_some_iff.1 hinfo
  simp only [Prod.mk.injEq] at hzz
  obtain ⟨hz0, hz1, hz2⟩ := hzz
  have hm : ys.length = m := HR.1
  have hlen : xs.length + m ≤ 140737488355328 := Nat.le_trans (Nat.le_mul_of_pos_right _ hb0) hl
  obtain ⟨hok, inner, hown, hr⟩ := HO
  have hrun : ∃ v1 w1, (Builtin.append_ #[t, t] o.type #[v, .slice A m c]).run P W = .ok v1 w1 ∧ d.R e w1 base ok v1 (xs ++ ys) ∧ W.grownBy w1 v.ownBlock ∧ (v1.ownBlock = v.ownBlock ∨ ∃ b, v1.ownBlock = some b ∧ W.heap.size ≤ b) := by
    rcases A with _ | ad
    · have h0 : m = 0 := by
        rcases Nat.eq_zero_or_pos m with h0 | h0
        · exact h0
        · obtain ⟨ad, h, _⟩ := HR.2.2 h0
          cases h
      subst h0
      obtain rfl : ys = [] := List.eq_nil_of_length_eq_zero hm
      refine ⟨v, W, ?_, by rw [List.append_nil]; exact ⟨hok, inner, hown, hr⟩, World.grownBy.refl W _, .inl rfl⟩
      rcases hown.2 with ⟨rfl, hn⟩ | ⟨g, cap, cur, rfl, _, _, hnc, _⟩
      · simp [Builtin.append_, run_underlying ht, sizeOf, typeInfo, hi, Builtin.lenOf, Builtin.firstCells]
      · simp [Builtin.append_, run_underlying ht, sizeOf, typeInfo, hi, Builtin.lenOf, Builtin.firstCells, hnc, storeCells]
    · obtain ⟨news, hnr, hnc⟩ := ReadsRow.inner_ HR
      have hnM : Reps (d.M W base okp) d.sz ys news := hnr.imp_ (fun p c hp => hKM p c hp)
      have hone : ∀ u ∈ news, u.oneCell' = true := by
        intro u hu
        obtain ⟨q, hq, rfl⟩ := List.mem_iff_getElem.1 hu
        have hql : q / d.sz < ys.length := by
          rw [Nat.div_lt_iff_lt_mul hs0]
          rw [← hnM.1]
          exact hq
        have hc := hnM.2 (q / d.sz) _ (List.getElem?_eq_getElem hql)
        refine d.K_one (d.K_of_M hc) _ ?_
        rw [List.mem_iff_getElem?]
        refine ⟨q % d.sz, ?_⟩
        rw [List.getElem?_take, if_pos (Nat.mod_lt _ hs0), List.getElem?_drop, Nat.mul_comm, Nat.div_add_mod, List.getElem?_eq_getElem hq]
      obtain ⟨v1, w1, hrun, h2, hg, _, hat⟩ := run_append_own_at (P := P) W base t o.type e i0 z d.sz bytes ht hi hz0 hz1 hz2 hz hs0 v xs.length inner hown ad m c news (by rw [hnM.1, hm]) hnc hone (by simp only [maxLen]; omega) hl hbase
      have hat' : v1.ownBlock = v.ownBlock ∨ ∃ b, v1.ownBlock = some b ∧ W.heap.size ≤ b := by
        rcases hat with hat | hat
        · exact .inl hat
        · exact .inr ⟨_, hat, Nat.le_refl _⟩
      have hne : ∀ k, some k ≠ v.ownBlock → k < W.heap.size → some k ≠ v1.ownBlock := by
        intro k hk hlt
        rcases hat' with hat | ⟨b, hb, hle⟩
        · rw [hat]; exact hk
        · rw [hb]
          intro he
          injection he with he
          omega
      have step : ∀ {q : α} {c : List Value} {o : Nat → Prop}, d.M W base o q c → (∀ k, o k → ok k ∧ some k ≠ v.ownBlock) → d.M w1 base (fun k => ok k ∧ some k ≠ v1.ownBlock) q c := by
        intro q c o hq ho
        have h1 := d.M_move (w1 := w1) (fun k hk => hg.block k hk.2.2.1 (ho k hk.1).2) (d.M_bound hq)
        exact d.M_mono (fun k hk => ⟨(ho k hk.1).1, hne k (ho k hk.1).2 hk.2.2.1⟩) h1
      refine ⟨v1, w1, hrun, ⟨fun k hk => ?_, inner ++ news, by rw [List.length_append, hm]; exact h2, reps_append (hr.imp_ (fun _ _ hq => step hq (fun _ hk => hk))) (hnM.imp_ (fun _ _ hq => step hq hokp))⟩, hg, hat'⟩
      rcases hat' with hat | ⟨b, hb, hle⟩
      · exact hok k (hat ▸ hk)
      · rw [hb] at hk
        injection hk with hk
        exact hfresh k (by omega)
  obtain ⟨v1, w1, hr1, h1, hg, hat⟩ := hrun
  rw [if_pos hw]
  unfold Oper.wp execOp
  simp only [ho, resolve, invoke, builtin, Sem.run_bind, Sem.run_pure, Result.andThen_ok, List.map_toArray, List.map_cons, List.map_nil, hs, hx, hr1]
  exact h v1 w1 h1 (HB.grown hg hbase (own_base hown)) hg hat
end Kd
end
section
variable {P : Program} {tmps : Array Value} {w : World}
end
namespace Kd
section
variable {P : Program} {α : Type}
end
section
variable {P : Program} {ops : Array Oper} {rest : List Oper} {o : Oper} {a : Act} {Q : Exit → Act → World → Prop} {Kc : Act → World → Prop} {α : Type}
end
end Kd
end Go.Proofs.YtlkinjhmgljapabW.PrintWords
end
section
namespace Go.Proofs.YtlkinjhmgljapabW.PrintLast
section
variable {P : Program} {ops : Array Oper} {Q : Exit → Act → World → Prop} {md : Region.Mode} {S : World → Prop} {ds : List Nat}
def ListedClosed (md : Region.Mode) (ops : Array Oper) (listed : Array Bool) : Prop :=
  ∀ j oj, ops[j]? = some oj → listed.getD j false = true → ∀ e ∈ oj.after, Region.binds md e = true → listed.getD e.on false = true
theorem ListedClosed.set {listed : Array Bool} {i : Nat} (h : ListedClosed md ops listed) (hi : i ∈ Region.ready md ops listed) : ListedClosed md ops (listed.setIfInBounds i true) := by
  obtain ⟨_, oi, hoi, hall⟩ := mem_ready.1 hi
  intro j oj hj hl e he hb
  by_cases hij : i = j
  · subst hij
    have : oj = oi := Option.some.inj (hj.symm.trans hoi)
    subst this
    exact getD_set_true (hall e he hb)
  · rw [getD_set_ne false hij] at hl
    exact getD_set_true (h j oj hj hl e he hb)
def wpAnyLast (P : Program) (md : Region.Mode) (ops : Array Oper) (Q : Exit → Act → World → Prop) (S : World → Prop) (ds : List Nat) : Nat → Array Bool → Act → World → Prop
  | 0, listed, a, w => Region.ready md ops listed = [] ∧ Q .normal a w
  | fuel + 1, listed, a, w =>
    (Region.ready md ops listed = [] → Q .normal a w) ∧
    ∀ i ∈ Region.ready md ops listed, wpOp P ops Q i (fun a' w' => (i ∉ ds → S w → S w') ∧ wpAnyLast P md ops Q S ds fuel (listed.setIfInBounds i true) a' w') a w
end
section
variable {P : Program} {ops : Array Oper} {Q : Exit → Act → World → Prop} {md : Region.Mode} {S : World → Prop} {ds : List Nat}
def AllReadyL (P : Program) (md : Region.Mode) (ops : Array Oper) (Q : Exit → Act → World → Prop) (S : World → Prop) (ds : List Nat) (fuel : Nat) (listed : Array Bool) (a : Act) (w : World) (rs : List Nat) : Prop :=
  ∀ i ∈ rs, wpOp P ops Q i (fun a' w' => (i ∉ ds → S w → S w') ∧ wpAnyLast P md ops Q S ds fuel (listed.setIfInBounds i true) a' w') a w
theorem AllReadyL.cons {fuel : Nat} {listed : Array Bool} {a : Act} {w : World} {i : Nat} {o : Oper} {rs : List Nat} (ho : ops[i]? = some o) (hd : i ∉ ds)
    (h : ∀ K' : Act → World → Prop, Shut (∀ a w, S w → (S w → wpAnyLast P md ops Q S ds fuel (listed.setIfInBounds i true) a w) → K' a w) → if Region.wanted o (yielded ops a.tmps) = true then Oper.wp P o a w K' Q else K' (a.put o.dst undef) w)
    (hs : AllReadyL P md ops Q S ds fuel listed a w rs) : AllReadyL P md ops Q S ds fuel listed a w (i :: rs) := fun j hj => by
  rcases List.mem_cons.1 hj with rfl | hj
  · exact wpOp_step ho (fun K' hK => h K' (fun a w hS hW => hK a w ⟨fun _ _ => hS, hW hS⟩))
  · exact hs j hj
end
end Go.Proofs.YtlkinjhmgljapabW.PrintLast
end
section
namespace Go.Proofs.YtlkinjhmgljapabW.PrintLast
open Go.Proofs.YtlkinjhmgljapabW.PrintWords (Aside0)
section
variable {md : Region.Mode} {ops : Array Oper} {T : Bool × List (List Nat × List Nat)} {l l' li lj lk : Array Bool} {ds : List Nat} {i j k : Nat}
end
end Go.Proofs.YtlkinjhmgljapabW.PrintLast
end
section
namespace Go.Proofs.YtlkinjhmgljapabW.PrintLast
section
variable {P : Program} {ops : Array Oper} {Q : Exit → Act → World → Prop} {md : Region.Mode} {S : World → Prop} {ds : List Nat} {T : Bool × List (List Nat × List Nat)}
end
end Go.Proofs.YtlkinjhmgljapabW.PrintLast
end
section
namespace Go.Proofs.YtlkinjhmgljapabW.PrintWords
open Go.RowKit
namespace Kd
section
variable {α : Type} {d : Kd α} {e base g o n cap : Nat} {ok okp : Nat → Prop} {w W : World} {v : Value} {xs : List α}
end
section
variable {α : Type} {enc : α → Value} {h1 : ∀ x, (enc x).oneCell' = true} {e base g o n cap : Nat} {ok : Nat → Prop} {W : World} {xs : List α}
end
end Kd
end Go.Proofs.YtlkinjhmgljapabW.PrintWords
end
section
namespace Go.Proofs.YtlkinjhmgljapabW.PrintWords
open Go.RowKit
namespace Kd
def tag {α : Type} (f : Nat → Nat) (d : Kd α) : Kd (α × Nat) where
  sz := d.sz
  E := d.E
  K := fun w x cs => d.K w x.1 cs
  M := fun w base ok x cs => d.M w base (fun k => ok k ∧ f k = x.2) x.1 cs
  K_len := fun h => d.K_len h
  K_one := fun h => d.K_one h
  K_below := fun hb h => d.K_below hb h
  K_of_M := fun h => d.K_of_M h
  M_mono := fun hok h => d.M_mono (fun k hk => ⟨hok k hk.1, hk.2⟩) h
  M_bound := fun h => d.M_mono (fun _ hk => ⟨⟨hk.1.1, hk.2⟩, hk.1.2⟩) (d.M_bound h)
  M_move := fun hm h => d.M_move (fun k hk => hm k hk.1) h
  M_lower := fun hb h => d.M_lower hb h
def raw (sz : Nat) : Kd (List Value) where
  sz := sz
  E := []
  K := fun _ x cs => cs = x ∧ cs.length = sz ∧ ∀ u ∈ cs, u.oneCell' = true
  M := fun _ _ _ x cs => cs = x ∧ cs.length = sz ∧ ∀ u ∈ cs, u.oneCell' = true
  K_len := fun h => h.2.1
  K_one := fun h => h.2.2
  K_below := fun _ h => h
  K_of_M := fun h => h
  M_mono := fun _ h => h
  M_bound := fun h => h
  M_move := fun _ h => h
  M_lower := fun _ h => h
def S {α : Type} (d : Kd α) (e : Nat) (w : World) (base : Nat) (ok : Nat → Prop) (v : Value) (xs : List α) : Prop := ∃ f, (tag f d).R e w base ok v xs.zipIdx
section
variable {α β : Type} {d : Kd α} {d' : Kd β} {e e' : Nat} {w w1 W : World} {base b : Nat} {ok ok' okv oku : Nat → Prop} {u v : Value} {xs : List α} {ys : List β}
end
section
variable {α β : Type} {d : Kd α} {d' : Kd β} {e e' g : Nat} {w w1 W : World} {base b : Nat} {ok ok' okv oku : Nat → Prop} {u v : Value} {xs : List α} {ys : List β}
end
section
open Classical in
variable {P : Program} {ops : Array Oper} {rest : List Oper} {o : Oper} {a : Act} {Q : Exit → Act → World → Prop} {Kc : Act → World → Prop} {α : Type}
end
def gap {α : Type} (f : Nat → Nat) (d : Kd α) (i : Nat) (c : List Value) : Kd (α × Nat) where
  sz := d.sz
  E := d.E
  K := fun w x cs => (x.2 = i → cs = c ∧ cs.length = d.sz ∧ ∀ u ∈ cs, u.oneCell' = true) ∧ (x.2 ≠ i → d.K w x.1 cs)
  M := fun w base ok x cs => (x.2 = i → cs = c ∧ cs.length = d.sz ∧ ∀ u ∈ cs, u.oneCell' = true) ∧ (x.2 ≠ i → d.M w base (fun k => ok k ∧ f k = x.2) x.1 cs)
  K_len := fun {w x cs} h => by
    by_cases hx : x.2 = i
    · exact (h.1 hx).2.1
    · exact d.K_len (h.2 hx)
  K_one := fun {w x cs} h => by
    by_cases hx : x.2 = i
    · exact (h.1 hx).2.2
    · exact d.K_one (h.2 hx)
  K_below := fun hb h => ⟨h.1, fun hx => d.K_below hb (h.2 hx)⟩
  K_of_M := fun h => ⟨h.1, fun hx => d.K_of_M (h.2 hx)⟩
  M_mono := fun hok h => ⟨h.1, fun hx => d.M_mono (fun k hk => ⟨hok k hk.1, hk.2⟩) (h.2 hx)⟩
  M_bound := fun h => ⟨h.1, fun hx => d.M_mono (fun _ hk => ⟨⟨hk.1.1, hk.2⟩, hk.1.2⟩) (d.M_bound (h.2 hx))⟩
  M_move := fun hm h => ⟨h.1, fun hx => d.M_move (fun k hk => hm k hk.1) (h.2 hx)⟩
  M_lower := fun hb h => ⟨h.1, fun hx => d.M_lower hb (h.2 hx)⟩
def H {α : Type} (d : Kd α) (e : Nat) (w : World) (base : Nat) (ok : Nat → Prop) (v : Value) (xs : List α) (i : Int) (oki : Nat → Prop) (c : List Value) : Prop :=
  (∀ k, oki k → ok k) ∧ ∃ f, (gap f d i.toNat c).R e w base (fun k => ok k ∧ ¬ oki k) v xs.zipIdx
section
variable {α β : Type} {d : Kd α} {e e' g n cap : Nat} {w w1 W : World} {base : Nat} {ok ok' oki okp : Nat → Prop} {u v : Value} {xs : List α} {i : Int} {c : List Value}
open Classical in
end
section
variable {P : Program} {ops : Array Oper} {rest : List Oper} {o : Oper} {a : Act} {Q : Exit → Act → World → Prop} {α : Type}
end
end Kd
end Go.Proofs.YtlkinjhmgljapabW.PrintWords
end
section
namespace Go.Proofs.YtlkinjhmgljapabW.PrintWords
open Go.RowKit
namespace Kd
section
variable {α : Type} {n : Nat} {d : Kd α} {hs : 0 < d.sz} {w : World} {base : Nat} {ok : Nat → Prop} {xs : List α} {cs : List Value}
end
section
variable {α : Type} {n : Nat} {enc : α → Value} {h1 : ∀ x, (enc x).oneCell' = true} {hs : 0 < (scalar enc h1).sz} {w : World} {base : Nat} {ok : Nat → Prop} {xs : List α} {cs : List Value}
end
end Kd
end Go.Proofs.YtlkinjhmgljapabW.PrintWords
end
section
namespace Go.Proofs.YtlkinjhmgljapabW.PrintWords
open Go.RowKit
section
variable {P : Program}
end
namespace Kd
section
variable {P : Program} {ops : Array Oper} {rest : List Oper} {o : Oper} {a : Act} {Q : Exit → Act → World → Prop} {Kc : Act → World → Prop} {α : Type}
end
section
variable {α : Type} {d : Kd α} {e : Nat} {w : World} {base : Nat} {ok : Nat → Prop} {v : Value} {xs : List α}
end
section
variable {P : Program} {ops : Array Oper} {rest : List Oper} {o : Oper} {a : Act} {Q : Exit → Act → World → Prop} {Kc : Act → World → Prop} {α : Type}
end
end Kd
end Go.Proofs.YtlkinjhmgljapabW.PrintWords
end
section
namespace Go.Proofs.YtlkinjhmgljapabW.PrintWords
open Go.RowKit
namespace Kd
section
variable {α : Type} {d : Kd α} {e base g n c : Nat} {ok : Nat → Prop} {w w0 W : World} {A : Option Addr} {xs : List α}
end
end Kd
end Go.Proofs.YtlkinjhmgljapabW.PrintWords
end
section
namespace Go.Proofs.YtlkinjhmgljapabW.PrintWords
open Go.RowKit
def Kept (w W : World) (S : Nat → Prop) : Prop := w.heap.size ≤ W.heap.size ∧ ∀ i, i < w.heap.size → ¬ S i → W.heap[i]? = w.heap[i]?
section
variable {w W W2 : World} {S S2 S' : Nat → Prop}
theorem Kept.refl (w : World) (S : Nat → Prop) : Kept w w S := ⟨Nat.le_refl _, fun _ _ _ => rfl⟩
theorem Kept.of_below (h : Below w.heap.size w W) (S : Nat → Prop) : Kept w W S := ⟨h.size, fun i hi _ => h.block i hi⟩
theorem Kept.then_ (h : Kept w W S) (k : Kept W W2 S2) (hs : ∀ k, S2 k → S k ∨ w.heap.size ≤ k) : Kept w W2 S :=
  ⟨Nat.le_trans h.1 k.1, fun i hi hn => (k.2 i (Nat.lt_of_lt_of_le hi h.1) (fun h2 => (hs i h2).elim hn (fun h3 => by omega))).trans (h.2 i hi hn)⟩
theorem Kept.below (h : Kept w W S) (hb : Below W.heap.size W W2) : Kept w W2 S := h.then_ (Kept.of_below hb (fun _ => False)) (fun _ hk => hk.elim)
theorem Kept.drewN (h : Kept w W S) (m : Nat) : Kept w (W.drewN m) S := h
theorem Kept.setCell (h : Kept w W S) {p : Addr} (hp : S p.block ∨ w.heap.size ≤ p.block) (u : Value) : Kept w (W.setCell p u) S :=
  h.then_ (S2 := fun k => k = p.block) ⟨by simp [World.setCell], fun i _ hn => Below.heap_setCell W p u i hn⟩ (fun k hk => by rw [hk]; exact hp)
end
namespace Kd
section
variable {α : Type} {d : Kd α} {e base n c : Nat} {ok oki S S2 : Nat → Prop} {w w0 W W1 W2 : World} {v : Value} {A : Option Addr} {xs : List α} {i : Int} {cs : List Value}
end
end Kd
end Go.Proofs.YtlkinjhmgljapabW.PrintWords
end
section
namespace Go.Proofs.YtlkinjhmgljapabW.PrintWords
open Go.RowKit
def Foot (P : World → Prop) (W : World) (ok : Nat → Prop) : Prop := ∀ W' : World, (∀ k, ok k → k < W.heap.size → W'.heap[k]? = W.heap[k]?) → P W'
theorem heap_lt {W W1 : World} {k : Nat} (h : W1.heap[k]? = W.heap[k]?) (hlt : k < W.heap.size) : k < W1.heap.size := by
  rw [Array.getElem?_eq_getElem hlt] at h
  exact (Array.getElem?_eq_some_iff.1 h).1
namespace Foot
variable {P Q : World → Prop} {W W1 : World} {ok ok' : Nat → Prop}
theorem now (h : Foot P W ok) : P W := h W (fun _ _ _ => rfl)
theorem mono (h : Foot P W ok) (hok : ∀ k, ok k → ok' k) : Foot P W ok' := fun W' hW => h W' (fun k hk hlt => hW k (hok k hk) hlt)
theorem bound (h : Foot P W ok) : Foot P W (fun k => ok k ∧ k < W.heap.size) := fun W' hW => h W' (fun k hk hlt => hW k ⟨hk, hlt⟩ hlt)
theorem step (h : Foot P W ok) (hm : ∀ k, ok k → k < W.heap.size → W1.heap[k]? = W.heap[k]?) : Foot P W1 ok := fun W' hW => h W' (fun k hk hlt => (hW k hk (heap_lt (hm k hk hlt) hlt)).trans (hm k hk hlt))
end Foot
namespace Kd
def F {α : Type} (d : Kd α) (W : World) (ok : Nat → Prop) (A : Option Addr) (n : Nat) (xs : List α) : Prop := Foot (fun W => d.C W A n xs) W ok
def FK {α : Type} (d : Kd α) (W : World) (ok : Nat → Prop) (x : α) (c : List Value) : Prop := Foot (fun W => d.K W x c) W ok
section
variable {α β : Type} {d : Kd α} {e base n n' cc g N : Nat} {ok ok' okp S : Nat → Prop} {w w0 w1 W W1 : World} {A A' : Option Addr} {u v v1 : Value} {xs : List α} {xs' : List β} {d' : Kd β} {x : α} {c : List Value}
theorem F_now (h : F d W ok A n xs) : d.C W A n xs := Foot.now h
theorem F_mono (h : F d W ok A n xs) (hok : ∀ k, ok k → ok' k) : F d W ok' A n xs := Foot.mono h hok
theorem F_bound (h : F d W ok A n xs) : F d W (fun k => ok k ∧ k < W.heap.size) A n xs := Foot.bound h
theorem F_step (h : F d W ok A n xs) (hm : ∀ k, ok k → k < W.heap.size → W1.heap[k]? = W.heap[k]?) : F d W1 ok A n xs := Foot.step h hm
theorem F_below (h : F d W ok A n xs) (hb : Below W.heap.size W W1) : F d W1 ok A n xs := F_step h (fun k _ hlt => hb.block k hlt)
theorem F_alloc (h : F d W ok A n xs) (o : Obj) : F d (W.alloc o) ok A n xs := F_below h (below_alloc (Below.refl _ _) o)
theorem F_drewN (h : F d W ok A n xs) (m : Nat) : F d (W.drewN m) ok A n xs := F_below h (pw_below_drewN (Below.refl _ _) m)
theorem F_nil (d : Kd α) (W : World) (ok : Nat → Prop) : F d W ok none ([] : List α).length [] := fun W' _ => C_nil d W'
theorem R_F (h : d.R e W base ok (.slice A n cc) xs) : F d W ok A n xs := fun W' hW => by
  have h2 := R_reads' (R_step h hW)
  rw [h2.1]
  exact h2.2.2
end
end Kd
end Go.Proofs.YtlkinjhmgljapabW.PrintWords
end
section
namespace Go.Proofs.YtlkinjhmgljapabW.PrintWords
open Go.RowKit
namespace Kd
section
variable {α : Type} {d : Kd α} {e base n cc g : Nat} {ok ok' okp S : Nat → Prop} {w w1 W W1 : World} {A : Option Addr} {u v v1 : Value} {xs : List α} {x : α} {c : List Value}
def N {α : Type} (d : Kd α) (e : Nat) (w : World) (base : Nat) (ok : Nat → Prop) (v : Value) (xs : List α) : Prop :=
  (∀ k, v.ownBlock = some k → ok k) ∧ ∃ rows : List (List Value), rows.length = xs.length ∧ (raw d.sz).R e w base (fun k => some k = v.ownBlock) v rows ∧ ∀ (j : Nat) (x : α) (c : List Value), xs[j]? = some x → rows[j]? = some c → FK d w (fun k => ok k ∧ some k ≠ v.ownBlock) x c
end
end Kd
end Go.Proofs.YtlkinjhmgljapabW.PrintWords
end
section
namespace Go.Proofs.YtlkinjhmgljapabW.PrintWords
open Go.RowKit
namespace Kd
section
variable {α : Type} {d : Kd α} {W : World} {g n : Nat} {S ok : Nat → Prop} {A : Option Addr} {ad : Addr} {xs : List α}
end
end Kd
end Go.Proofs.YtlkinjhmgljapabW.PrintWords
end
section
namespace Go.Proofs.YtlkinjhmgljapabW.PrintWords
open Go.RowKit
section
variable {w w' u : World} {m B g : Nat} {o : Obj} {row : Option Nat} {S : Nat → Prop} {a : Addr} {v : Value}
end
namespace Kd
section
variable {α : Type} {d : Kd α} {e base n m : Nat} {ok : Nat → Prop} {w w' : World} {v : Value} {A : Option Addr} {xs : List α}
end
end Kd
end Go.Proofs.YtlkinjhmgljapabW.PrintWords
end
section
namespace Go.Proofs.YtlkinjhmgljapabW.PrintWords
open Go.RowKit
section
variable {P : Program} {d : Nat} {xs ys : Array Value} {f : Field} {fs : List Field} {a b : Value} {r s : Bool} {w : World}
end
end Go.Proofs.YtlkinjhmgljapabW.PrintWords
end
section
namespace Go.Proofs.YtlkinjhmgljapabW.PrintWords
theorem Reps.front {α : Type} {R : α → List Value → Prop} {size : Nat} {ps : List α} {cs c all : List Value} {p : α} (hp : R p c) (hc : c.length = size) (h : Reps R size ps cs) (ha : c ++ cs = all) : Reps R size (p :: ps) all := by
  subst ha
  refine ⟨by rw [List.length_append, hc, h.1, List.length_cons, Nat.succ_mul, Nat.add_comm], fun j q hq => ?_⟩
  cases j with
  | zero =>
    simp only [List.getElem?_cons_zero, Option.some.injEq] at hq
    subst hq
    rw [Nat.zero_mul, List.drop_zero, List.take_append_of_le_length (by omega), List.take_of_length_le (by omega)]
    exact hp
  | succ j =>
    simp only [List.getElem?_cons_succ] at hq
    have h1 := h.2 j q hq
    rw [Nat.succ_mul, List.drop_append, List.drop_of_length_le (by rw [hc]; exact Nat.le_add_left _ _), List.nil_append, hc, Nat.add_sub_cancel]
    exact h1
theorem Reps.c2 {α : Type} {R : α → List Value → Prop} {ps : List α} {cs : List Value} {p : α} {va vb : Value} (hp : R p [va, vb]) (h : Reps R 2 ps cs) : Reps R 2 (p :: ps) (va :: vb :: cs) := Reps.front hp rfl h rfl
theorem Reps.c4 {α : Type} {R : α → List Value → Prop} {ps : List α} {cs : List Value} {p : α} {va vb vc vd : Value} (hp : R p [va, vb, vc, vd]) (h : Reps R 4 ps cs) : Reps R 4 (p :: ps) (va :: vb :: vc :: vd :: cs) := Reps.front hp rfl h rfl
end Go.Proofs.YtlkinjhmgljapabW.PrintWords
end
section
namespace Go.Proofs.YtlkinjhmgljapabW.PrintLast
section
variable {P : Program} {ops : Array Oper} {Q : Exit → Act → World → Prop} {md : Region.Mode} {T : Bool × List (List Nat × List Nat)} {B : List Nat} {O : List Nat} {b : Nat → Bool} {i j n : Nat}
end
end Go.Proofs.YtlkinjhmgljapabW.PrintLast
end
section
namespace Go.Proofs.YtlkinjhmgljapabW.PrintWords
open Go.RowKit
end Go.Proofs.YtlkinjhmgljapabW.PrintWords
namespace Go.Proofs.YtlkinjhmgljapabW.PrintLast
section
variable {ops : Array Oper} {a : Act} {o og : Oper} {g : Nat} {t : Tmp} {u : Bool}
end
end Go.Proofs.YtlkinjhmgljapabW.PrintLast
end
section
namespace Go.Proofs.YtlkinjhmgljapabW.PrintWords
open Go.RowKit
section
variable {P : Program} {ops : Array Oper} {rest : List Oper} {o : Oper} {a : Act} {Q : Exit → Act → World → Prop} {W : World}
end
end Go.Proofs.YtlkinjhmgljapabW.PrintWords
end
section
namespace Go.Proofs.YtlkinjhmgljapabW.PrintWords
open Go.RowKit
namespace Kd
section
variable {α : Type} {d : Kd α} {e base n cap g : Nat} {ok ok' okp : Nat → Prop} {w w1 W : World} {v v1 : Value} {xs ys : List α}
end
section
variable {P : Program} {ops : Array Oper} {rest : List Oper} {o : Oper} {a : Act} {Q : Exit → Act → World → Prop} {Kc : Act → World → Prop} {α : Type}
end
end Kd
end Go.Proofs.YtlkinjhmgljapabW.PrintWords
end
section
namespace Go.Proofs.YtlkinjhmgljapabW.PrintMore
open Go.RowKit Go.Proofs.YtlkinjhmgljapabW.PrintWords
namespace Kd
open Go.Proofs.YtlkinjhmgljapabW.PrintWords.Kd
end Kd
namespace Kd
open Go.Proofs.YtlkinjhmgljapabW.PrintWords.Kd
section
variable {α : Type} {d : Kd α} {e base g N : Nat} {ok : Nat → Prop} {W w1 : World} {u v : Value} {xs : List α}
end
end Kd
theorem max2_int (k k' : IntKind) (x y : Int) : Builtin.max2 (.int k x) (.int k' y) = pure (.int k (if x < y then y else x)) := by simp only [Builtin.max2, gt_iff_lt]
theorem min2_int (k k' : IntKind) (x y : Int) : Builtin.min2 (.int k x) (.int k' y) = pure (.int k (if y < x then y else x)) := by simp only [Builtin.min2]
theorem max_two (ats : Array TypeId) (ty : TypeId) (a b : Value) : Builtin.max_ ats ty #[a, b] = (Builtin.max2 a b >>= fun s => pure s) := by simp only [Builtin.max_, List.foldlM_cons, List.foldlM_nil]
theorem min_two (ats : Array TypeId) (ty : TypeId) (a b : Value) : Builtin.min_ ats ty #[a, b] = (Builtin.min2 a b >>= fun s => pure s) := by simp only [Builtin.min_, List.foldlM_cons, List.foldlM_nil]
theorem max_three (ats : Array TypeId) (ty : TypeId) (a b c : Value) : Builtin.max_ ats ty #[a, b, c] = (Builtin.max2 a b >>= fun s => Builtin.max2 s c >>= fun s => pure s) := by simp only [Builtin.max_, List.foldlM_cons, List.foldlM_nil]
theorem min_three (ats : Array TypeId) (ty : TypeId) (a b c : Value) : Builtin.min_ ats ty #[a, b, c] = (Builtin.min2 a b >>= fun s => Builtin.min2 s c >>= fun s => pure s) := by simp only [Builtin.min_, List.foldlM_cons, List.foldlM_nil]
theorem max_four (ats : Array TypeId) (ty : TypeId) (a b c d : Value) : Builtin.max_ ats ty #[a, b, c, d] = (Builtin.max2 a b >>= fun s => Builtin.max2 s c >>= fun s => Builtin.max2 s d >>= fun s => pure s) := by simp only [Builtin.max_, List.foldlM_cons, List.foldlM_nil]
theorem min_four (ats : Array TypeId) (ty : TypeId) (a b c d : Value) : Builtin.min_ ats ty #[a, b, c, d] = (Builtin.min2 a b >>= fun s => Builtin.min2 s c >>= fun s => Builtin.min2 s d >>= fun s => pure s) := by simp only [Builtin.min_, List.foldlM_cons, List.foldlM_nil]
end Go.Proofs.YtlkinjhmgljapabW.PrintMore
namespace Go.Proofs.YtlkinjhmgljapabW.PrintWords
open Go.RowKit
section
variable {P : Program} {ops : Array Oper} {rest : List Oper} {o : Oper} {a : Act} {Q : Exit → Act → World → Prop} {W : World}
theorem gate_builtin {b : Builtin} {xs : Array Operand} {ts : Array TypeId} (_ho : o.op = .call { callee := .builtin b, args := xs, argTypes := ts }) (h : wpList P ops Q (o :: rest) a W) : wpList P ops Q (o :: rest) a W := h
end
def shl (k : IntKind) (x y : Int) : Int := k.wrap (x * 2 ^ min y.toNat k.bits)
namespace Kd
section
variable {α : Type} {d : Kd α} {e base : Nat} {ok : Nat → Prop} {W w1 : World} {v : Value} {xs : List α}
end
section
variable {α : Type} {d : Kd α} {e base g n cap : Nat} {ok oki okp : Nat → Prop} {W : World} {xs : List α} {i : Int} {c : List Value}
end
section
variable {α : Type} {d : Kd α} {e base b b' g N : Nat} {ok ok1 : Nat → Prop} {W W2 w1 : World} {u v : Value} {xs ys : List α} {S : Nat → Prop}
end
end Kd
end Go.Proofs.YtlkinjhmgljapabW.PrintWords
namespace Go.Proofs.YtlkinjhmgljapabW.PrintWords
open Go.RowKit
namespace Kd
def V {α : Type} (d : Kd α) (_e : Nat) (W : World) (_base : Nat) (ok : Nat → Prop) (v : Value) (xs : List α) : Prop := ∃ A c, v = .slice A xs.length c ∧ xs.length ≤ c ∧ F d W ok A xs.length xs
section
variable {α β : Type} {d : Kd α} {e base base' n m c g N' lo hi : Nat} {ok ok' S : Nat → Prop} {w W w1 : World} {A : Option Addr} {ad : Addr} {u v v1 : Value} {xs : List α}
theorem V_at (h : V d e W base ok (.slice A n c) xs) : n = xs.length ∧ n ≤ c ∧ F d W ok A xs.length xs := by
  obtain ⟨A', c', hv, hl, hf⟩ := h
  injection hv with ha hn hc
  subst ha; subst hc
  exact ⟨hn, by rw [hn]; exact hl, hf⟩
theorem R_V (h : d.R e W base ok v xs) : V d e W base' ok v xs := by
  obtain ⟨A, c, rfl⟩ := R_slice h
  exact ⟨A, c, rfl, (R_reads' h).2.1, R_F h⟩
end
end Kd
end Go.Proofs.YtlkinjhmgljapabW.PrintWords
end
section
namespace Go.Proofs.Ytlkinjhmgljapab.F
open Go.RowKit Go.Proofs.YtlkinjhmgljapabW.PrintWords Go.Proofs.YtlkinjhmgljapabW.PrintLast Go.Proofs.YtlkinjhmgljapabW.PrintMore
attribute [local go_sem] max2_int min2_int max_two min_two max_three min_three max_four min_four
set_option linter.unusedVariables false
set_option linter.unusedSimpArgs false
def errW : Option Int → Value
  | none => .nilIface
  | some c => .iface 0 (.int .i64 c)
theorem errW_none : errW none = .nilIface := rfl
theorem errW_some (c : Int) : errW (some c) = .iface 0 (.int .i64 c) := rfl
theorem clone_eq {P : Program} (w : World) (d : Nat) (t e : TypeId) (a : Option Addr) (n c n' c' : Nat) (h : P.underlying t = some (.slice e)) : (Op.equalIn (d + 1) t (.slice a n c) (.slice none n' c')).run P w = .ok a.isNone w := by
  cases a <;> simp [Op.equalIn, run_underlying h]
theorem clone_nil {P : Program} {t e : TypeId} (h : P.underlying t = some (.slice e)) (w : World) (a : Option Addr) (n c n' c' : Nat) : (binOp .eql t (.slice a n c) (.slice none n' c')).run P w = .ok (.bool a.isNone) w := by
  simp only [binOp]
  simp [Op.equal, Op.maxDepth, clone_eq w 9999 t e a n c n' c' h]
theorem u64_u8 (z : Int) : IntKind.u64.wrap (IntKind.u8.wrap z) = z % 256 := by
  simp [IntKind.wrap, IntKind.bits, IntKind.signed]
  omega
theorem uB {b : Nat} {w W : World} (u : Below b w W := by repeat (first | (with_reducible first | exact Aside0.out (by assumption) | apply below_alloc | apply pw_below_drewN | apply below_drew1 | refine below_set ?_ (Aside0.out (by assumption))) | exact Aside0.out (by assumption))) : Below b w W := u
theorem uR {α : Type} {d : Kd α} {e base : Nat} {ok : Nat → Prop} {v : Value} {xs : List α} {w W : World} (h : d.R e w base ok v xs) (u : Below w.heap.size w W := by repeat (first | (with_reducible first | exact Below.refl _ _ | apply below_alloc | apply pw_below_drewN | apply below_drew1))) : d.R e W base ok v xs := Kd.R_below h u
theorem uC {α : Type} {d : Kd α} {A : Option Addr} {n : Nat} {xs : List α} {w W : World} (h : Kd.C d w A n xs) (u : Below w.heap.size w W := by repeat (first | (with_reducible first | exact Below.refl _ _ | apply below_alloc | apply pw_below_drewN | apply below_drew1))) : Kd.C d W A n xs := Kd.C_below h u
theorem uy {w W W' : World} (hb : Below W.heap.size W W') (u : Below w.heap.size w W := by repeat (first | (with_reducible first | exact Aside0.out (by assumption) | apply below_alloc | apply pw_below_drewN | apply below_drew1 | refine below_set ?_ (Aside0.out (by assumption))) | exact Aside0.out (by assumption))) : Aside0 (Below w.heap.size w W') := ⟨below_step u hb⟩
theorem uT {α : Type} {p : Prop} [Decidable p] {x : Option α} {r : α} (h : (if p then x else none) = some r) : p ∧ x = some r := by
  by_cases c : p
  · rw [if_pos c] at h; exact ⟨c, h⟩
  · rw [if_neg c] at h; cases h
theorem uE {α : Type} {p : Prop} [Decidable p] {x : Option α} {r : α} (h : (if p then none else x) = some r) : ¬ p ∧ x = some r := by
  by_cases c : p
  · rw [if_pos c] at h; cases h
  · rw [if_neg c] at h; exact ⟨c, h⟩
theorem uF {α : Type} {a b : α} (u : a = b := by first | rfl | (simp [errW_none, errW_some] <;> rfl) | (simp [*, errW_none, errW_some] <;> rfl)) : a = b := u
theorem uG {α : Type} {a b : α} (u : a = b := by first | rfl | (simp; done) | (simp [*]; done)) : a = b := u
def carry01 (c : Int) : Bool := decide (c = 0 ∨ c = 1)
def sub64_s (x y c : Int) : Int := ((x.toNat + 18446744073709551616 - y.toNat - c.toNat) % 18446744073709551616 : Nat)
def sub64_c (x y c : Int) : Int := (if x.toNat < y.toNat + c.toNat then 1 else 0 : Nat)
def sub64Entry_ : Array Value → Sem Value := (Extern.MathBitsCarry.rows.get ⟨1, by decide⟩).2
theorem carry_cases {c : Int} (h : carry01 c = true) : c = 0 ∨ c = 1 := of_decide_eq_true h
theorem sub64_any {P : Program} {f : FuncId} {fn : Func} (hf : P.funcs[f]? = some fn) (hname : (fn.name == "runtime.NumGoroutine") = false) (hb : fn.body.isNone = true) (hn : Extern.findNext fn = none) (he : Extern.find fn = some sub64Entry_) (x y c : Int) (w : World) (h : carry01 c = true) :
    (callFunc f #[.int .u64 x, .int .u64 y, .int .u64 c]).run P w = .ok (.value (.tuple #[.int .u64 (sub64_s x y c), .int .u64 (sub64_c x y c)])) w := by
  rw [run_callFunc_extern hf hname hb hn he]
  rcases carry_cases h with rfl | rfl <;> rfl
theorem sub64_run (x y c : Int) (w : World) (h : carry01 c = true) : (callFunc 94 #[.int .u64 x, .int .u64 y, .int .u64 c]).run Try.prog w = .ok (.value (.tuple #[.int .u64 (sub64_s x y c), .int .u64 (sub64_c x y c)])) w := sub64_any Try.func94 (by kernel_rfl) (by kernel_rfl) (by kernel_rfl) (by kernel_rfl) x y c w h
theorem info5 : (Try.prog.info? 5).map (fun i => (i.zero, i.size, i.bytes)) = some (some (.int .u8 0), 1, 1) := by kernel_rfl
def slices_Clone_byte_byte.f (l0 : List Int) : Option (List Int) := ((some (([] : List Int) : List Int)).bind fun y101 => (if y101.length + l0.length < 140737488355328 then (some (y101 ++ l0)) else (none)))
set_option maxHeartbeats 8000000 in
set_option maxRecDepth 100000 in
theorem slices_Clone_byte_byte.calls (A0 : Option Addr) (c0 : Nat) (l0 : List Int) (r : List Int) (w : World) (hr0 : Kd.C (Kd.int .u8) w A0 l0.length l0) (hc0 : l0.length ≤ c0) (h : slices_Clone_byte_byte.f l0 = some r) :
  Calls Try.prog 56 #[.slice A0 l0.length c0] w fun e w' => ∃ v0_ : Value, e = .returned (v0_) ∧ Kd.R (Kd.int .u8) 5 w' w.heap.size (fun _ => True) v0_ r ∧ Below w.heap.size w w' := by
 have HR0 := Aside0.mk hr0; have HC0 := Aside0.mk hc0; clear hr0 hc0
 have HB := Aside0.mk (Below.refl w.heap.size w)
 have H : ((some (([] : List Int) : List Int)).bind fun y101 => (if y101.length + l0.length < 140737488355328 then (some (y101 ++ l0)) else (none))) = some r := h
 clear h
 have hnil_ := clone_nil (P := Try.prog) Try.underlying22
 cases A0 with
 | none =>
  have hl0 : l0 = [] := by
   by_cases e : 0 < l0.length
   · obtain ⟨_, h_, _⟩ := HR0.out.2.2 e; cases h_
   exact List.length_eq_zero_iff.1 (by omega)
  subst hl0
  obtain rfl : [] = r := by simpa using H
  clear H
  go_enter Try.func56, Try.ntmps56
  go_wp2
  go_ret
  exact ⟨_, by first | rfl | (simp [errW_none, errW_some] <;> rfl) | (simp [*, errW_none, errW_some] <;> rfl), by first | exact Kd.R_nil _ _ _ _ _ | exact Kd.N_nil _ _ _ _ _ | exact Kd.V_nil _ _ _ _ _ | exact Kd.Q_nil _ _ _ _ _ | exact Kd.S_nil _ _ _ _ _, uB⟩
 | some a0_ =>
  obtain ⟨y101, hy101⟩ : ∃ y_ : List Int, y_ = (([] : List Int)) := ⟨_, rfl⟩
  replace H : (if y101.length + l0.length < 140737488355328 then (some (y101 ++ l0)) else (none)) = some r := by first | (rw [hy101]; with_reducible exact H) | (have H2_ := (Option.bind_some _ _).symm.trans H; rw [hy101]; with_reducible exact H2_) | (have H2_ := (Option.bind_some _ _).symm.trans H; with_reducible exact H2_) | with_reducible exact H | (rw [hy101]; exact H) | exact H
  have Ny101 := Aside0.mk hy101; clear hy101
  replace H := uT H; obtain ⟨c3, H⟩ := H
  have LMc3 := Aside0.mk c3; clear c3
  obtain ⟨y104, hy104⟩ : ∃ y_ : List Int, y_ = (y101 ++ l0) := ⟨_, rfl⟩
  replace H : (some y104) = some r := by first | (rw [hy104]; with_reducible exact H) | (have H2_ := (Option.bind_some _ _).symm.trans H; rw [hy104]; with_reducible exact H2_) | (have H2_ := (Option.bind_some _ _).symm.trans H; with_reducible exact H2_) | with_reducible exact H | (rw [hy104]; exact H) | exact H
  have Ny104 := Aside0.mk hy104; clear hy104
  obtain rfl := Option.some.inj H
  go_enter Try.func56, Try.ntmps56
  go_wp2_with (first | ((with_reducible refine gate_dst (N := 5) rfl ?_); refine Kd.R_lit (Kd.int .u8) _ 5 ?hg (N := 5) ?hd (xs := ([] : List Int)) (inner := []) (ok := fun _ => True) (okp := fun _ => True) ?hr ?hp (fun _ hk => hk) trivial (Below.refl _ _) (Nat.le_refl _) (by simp) ?_; (case hd => rfl); (case hg => rfl); (case hr => first | (go_simp; done) | (go_simp; rfl) | (go_simp; simp only [u64_u8]; done) | (go_simp; simp only [u64_u8]; rfl)); (case hp => exact (Reps.none _ _)); intro v102 w4 ho5 hb hg_ hnew_; clear hg_ hnew_; (first | rw [← Ny101.out] at ho5 | (simp only [Int.reduceToNat] at ho5; rw [← Ny101.out] at ho5)); have HO103 := Aside0.mk (Kd.R_lower ho5 (below_size uB)); replace HB := uy hb; clear hb ho5) | ((with_reducible refine gate_builtin (b := .append) (xs := #[.tmp 5, .tmp 6]) rfl ?_); at_builtin; refine Kd.R_append_rows (Kd.int .u8) (w0 := w) w.heap.size rfl (.tmp 5) (.tmp 6) 22 5 (.int .u8 0) 1 rfl Try.underlying22 info5 rfl (by decide) (by omega) v102 y101 l0 _ _ _ (fun _ => True) (fun _ => False) rfl rfl ?aO ?aR (fun _ _ h => h) (fun _ h => h.elim) ?aF ?aB ?aS ?aL ?_; (case aR => exact uC (Kd.C_below HR0.out HB.out)); (case aB => exact uB); (case aF => exact (fun _ _ => trivial)); (case aO => exact (uR HO103.out)); (case aS => exact (below_size uB)); (case aL => have := LMc3.out; omega); intro v105 w6 ho hb hg hat; rw [← Ny104.out] at ho; replace HB := Aside0.mk (hb); have HO106 := Aside0.mk (ho); clear HO103; clear ho hb hg hat))
  go_ret
  exact ⟨_, uF, uR HO106.out, uB⟩
def nat_trim.l0 : Nat → List Int → Int → Option (List Int)
 | 0, _, _ => none
 | k + 1, x0, x3 => if x3 > 0 then (if 0 ≤ (wrap64 (x3 - 1)) then (if (wrap64 (x3 - 1)) < (x0.length : Int) then (if (rd x0 (wrap64 (x3 - 1))) = 0 then (nat_trim.l0 k x0 (wrap64 (x3 - 1))) else (if 0 ≤ x3 then (if x3 ≤ (x0.length : Int) then (some (x0.take (x3 : Int).toNat)) else (none)) else (none))) else (none)) else (none)) else (if 0 ≤ x3 then (if x3 ≤ (x0.length : Int) then (some (x0.take (x3 : Int).toNat)) else (none)) else (none))
def nat_trim.f (k : Nat) (l0 : List Int) : Option (List Int) := nat_trim.l0 k l0 (l0.length : Int)
def nat_told.f (k : Nat) (l0 : List Int) : Option (List Int × Int) := (nat_trim.f k l0).bind fun t119 => (if (t119.length : Int) > 64 then (some (([] : List Int), 4)) else (some (t119, 0)))
def nat_compare.l0 : Nat → List Int → List Int → Int → Option (Int)
 | 0, _, _, _ => none
 | k + 1, x0, x1, x5 => if x5 ≥ 0 then (if 0 ≤ x5 then (if x5 < (x0.length : Int) then (if x5 < (x1.length : Int) then (if (rd x0 x5) = (rd x1 x5) then (nat_compare.l0 k x0 x1 (wrap64 (x5 - 1))) else (if (rd x0 x5) < (rd x1 x5) then (some (-1)) else (some 1))) else (none)) else (none)) else (none)) else (some 0)
def nat_compare.f (k : Nat) (l0 : List Int) (l1 : List Int) : Option (Int) := if (l0.length : Int) = (l1.length : Int) then (nat_compare.l0 k l0 l1 (wrap64 ((l0.length : Int) - 1))) else (if (l0.length : Int) < (l1.length : Int) then (some (-1)) else (some 1))
def nat_Right.f (l0 : List Int) : Option (Bool) := if (l0.length : Int) ≤ 64 then (if (l0.length : Int) = 0 then (some true) else (if 0 ≤ (wrap64 ((l0.length : Int) - 1)) then (if (wrap64 ((l0.length : Int) - 1)) < (l0.length : Int) then (some ((rd l0 (wrap64 ((l0.length : Int) - 1))) != 0)) else (none)) else (none))) else (some false)
def bits_Len64.j0 : Nat → Int → Int → Option (Int)
 | 0, _, _ => none
 | k + 1, x0, x2 => if x0 ≥ 65536 then (if (x0 / 65536) ≥ 256 then (if 0 ≤ (((x0 / 65536) / 256) % 256) then (if (((x0 / 65536) / 256) % 256) < 256 then (some (wrap64 ((wrap64 ((wrap64 (x2 + 16)) + 8)) + (wrap64 (bt (⟨#[0, 1, 2, 2, 3, 3, 3, 3, 4, 4, 4, 4, 4, 4, 4, 4, 5, 5, 5, 5, 5, 5, 5, 5, 5, 5, 5, 5, 5, 5, 5, 5, 6, 6, 6, 6, 6, 6, 6, 6, 6, 6, 6, 6, 6, 6, 6, 6, 6, 6, 6, 6, 6, 6, 6, 6, 6, 6, 6, 6, 6, 6, 6, 6, 7, 7, 7, 7, 7, 7, 7, 7, 7, 7, 7, 7, 7, 7, 7, 7, 7, 7, 7, 7, 7, 7, 7, 7, 7, 7, 7, 7, 7, 7, 7, 7, 7, 7, 7, 7, 7, 7, 7, 7, 7, 7, 7, 7, 7, 7, 7, 7, 7, 7, 7, 7, 7, 7, 7, 7, 7, 7, 7, 7, 7, 7, 7, 7, 8, 8, 8, 8, 8, 8, 8, 8, 8, 8, 8, 8, 8, 8, 8, 8, 8, 8, 8, 8, 8, 8, 8, 8, 8, 8, 8, 8, 8, 8, 8, 8, 8, 8, 8, 8, 8, 8, 8, 8, 8, 8, 8, 8, 8, 8, 8, 8, 8, 8, 8, 8, 8, 8, 8, 8, 8, 8, 8, 8, 8, 8, 8, 8, 8, 8, 8, 8, 8, 8, 8, 8, 8, 8, 8, 8, 8, 8, 8, 8, 8, 8, 8, 8, 8, 8, 8, 8, 8, 8, 8, 8, 8, 8, 8, 8, 8, 8, 8, 8, 8, 8, 8, 8, 8, 8, 8, 8, 8, 8, 8, 8, 8, 8, 8, 8, 8, 8, 8, 8, 8, 8, 8, 8, 8, 8, 8, 8]⟩ : ByteArray) (((x0 / 65536) / 256) % 256)))))) else (none)) else (none)) else (if 0 ≤ ((x0 / 65536) % 256) then (if ((x0 / 65536) % 256) < 256 then (some (wrap64 ((wrap64 (x2 + 16)) + (wrap64 (bt (⟨#[0, 1, 2, 2, 3, 3, 3, 3, 4, 4, 4, 4, 4, 4, 4, 4, 5, 5, 5, 5, 5, 5, 5, 5, 5, 5, 5, 5, 5, 5, 5, 5, 6, 6, 6, 6, 6, 6, 6, 6, 6, 6, 6, 6, 6, 6, 6, 6, 6, 6, 6, 6, 6, 6, 6, 6, 6, 6, 6, 6, 6, 6, 6, 6, 7, 7, 7, 7, 7, 7, 7, 7, 7, 7, 7, 7, 7, 7, 7, 7, 7, 7, 7, 7, 7, 7, 7, 7, 7, 7, 7, 7, 7, 7, 7, 7, 7, 7, 7, 7, 7, 7, 7, 7, 7, 7, 7, 7, 7, 7, 7, 7, 7, 7, 7, 7, 7, 7, 7, 7, 7, 7, 7, 7, 7, 7, 7, 7, 8, 8, 8, 8, 8, 8, 8, 8, 8, 8, 8, 8, 8, 8, 8, 8, 8, 8, 8, 8, 8, 8, 8, 8, 8, 8, 8, 8, 8, 8, 8, 8, 8, 8, 8, 8, 8, 8, 8, 8, 8, 8, 8, 8, 8, 8, 8, 8, 8, 8, 8, 8, 8, 8, 8, 8, 8, 8, 8, 8, 8, 8, 8, 8, 8, 8, 8, 8, 8, 8, 8, 8, 8, 8, 8, 8, 8, 8, 8, 8, 8, 8, 8, 8, 8, 8, 8, 8, 8, 8, 8, 8, 8, 8, 8, 8, 8, 8, 8, 8, 8, 8, 8, 8, 8, 8, 8, 8, 8, 8, 8, 8, 8, 8, 8, 8, 8, 8, 8, 8, 8, 8, 8, 8, 8, 8, 8, 8]⟩ : ByteArray) ((x0 / 65536) % 256)))))) else (none)) else (none))) else (if x0 ≥ 256 then (if 0 ≤ ((x0 / 256) % 256) then (if ((x0 / 256) % 256) < 256 then (some (wrap64 ((wrap64 (x2 + 8)) + (wrap64 (bt (⟨#[0, 1, 2, 2, 3, 3, 3, 3, 4, 4, 4, 4, 4, 4, 4, 4, 5, 5, 5, 5, 5, 5, 5, 5, 5, 5, 5, 5, 5, 5, 5, 5, 6, 6, 6, 6, 6, 6, 6, 6, 6, 6, 6, 6, 6, 6, 6, 6, 6, 6, 6, 6, 6, 6, 6, 6, 6, 6, 6, 6, 6, 6, 6, 6, 7, 7, 7, 7, 7, 7, 7, 7, 7, 7, 7, 7, 7, 7, 7, 7, 7, 7, 7, 7, 7, 7, 7, 7, 7, 7, 7, 7, 7, 7, 7, 7, 7, 7, 7, 7, 7, 7, 7, 7, 7, 7, 7, 7, 7, 7, 7, 7, 7, 7, 7, 7, 7, 7, 7, 7, 7, 7, 7, 7, 7, 7, 7, 7, 8, 8, 8, 8, 8, 8, 8, 8, 8, 8, 8, 8, 8, 8, 8, 8, 8, 8, 8, 8, 8, 8, 8, 8, 8, 8, 8, 8, 8, 8, 8, 8, 8, 8, 8, 8, 8, 8, 8, 8, 8, 8, 8, 8, 8, 8, 8, 8, 8, 8, 8, 8, 8, 8, 8, 8, 8, 8, 8, 8, 8, 8, 8, 8, 8, 8, 8, 8, 8, 8, 8, 8, 8, 8, 8, 8, 8, 8, 8, 8, 8, 8, 8, 8, 8, 8, 8, 8, 8, 8, 8, 8, 8, 8, 8, 8, 8, 8, 8, 8, 8, 8, 8, 8, 8, 8, 8, 8, 8, 8, 8, 8, 8, 8, 8, 8, 8, 8, 8, 8, 8, 8, 8, 8, 8, 8, 8, 8]⟩ : ByteArray) ((x0 / 256) % 256)))))) else (none)) else (none)) else (if 0 ≤ ((x0) % 256) then (if ((x0) % 256) < 256 then (some (wrap64 (x2 + (wrap64 (bt (⟨#[0, 1, 2, 2, 3, 3, 3, 3, 4, 4, 4, 4, 4, 4, 4, 4, 5, 5, 5, 5, 5, 5, 5, 5, 5, 5, 5, 5, 5, 5, 5, 5, 6, 6, 6, 6, 6, 6, 6, 6, 6, 6, 6, 6, 6, 6, 6, 6, 6, 6, 6, 6, 6, 6, 6, 6, 6, 6, 6, 6, 6, 6, 6, 6, 7, 7, 7, 7, 7, 7, 7, 7, 7, 7, 7, 7, 7, 7, 7, 7, 7, 7, 7, 7, 7, 7, 7, 7, 7, 7, 7, 7, 7, 7, 7, 7, 7, 7, 7, 7, 7, 7, 7, 7, 7, 7, 7, 7, 7, 7, 7, 7, 7, 7, 7, 7, 7, 7, 7, 7, 7, 7, 7, 7, 7, 7, 7, 7, 8, 8, 8, 8, 8, 8, 8, 8, 8, 8, 8, 8, 8, 8, 8, 8, 8, 8, 8, 8, 8, 8, 8, 8, 8, 8, 8, 8, 8, 8, 8, 8, 8, 8, 8, 8, 8, 8, 8, 8, 8, 8, 8, 8, 8, 8, 8, 8, 8, 8, 8, 8, 8, 8, 8, 8, 8, 8, 8, 8, 8, 8, 8, 8, 8, 8, 8, 8, 8, 8, 8, 8, 8, 8, 8, 8, 8, 8, 8, 8, 8, 8, 8, 8, 8, 8, 8, 8, 8, 8, 8, 8, 8, 8, 8, 8, 8, 8, 8, 8, 8, 8, 8, 8, 8, 8, 8, 8, 8, 8, 8, 8, 8, 8, 8, 8, 8, 8, 8, 8, 8, 8, 8, 8, 8, 8, 8, 8]⟩ : ByteArray) ((x0) % 256)))))) else (none)) else (none)))
def bits_Len64.f (k : Nat) (a0 : Int) : Option (Int) := if a0 ≥ 4294967296 then (bits_Len64.j0 k (a0 / 4294967296) 32) else (bits_Len64.j0 k a0 0)
def nat_Bits.f (k : Nat) (l0 : List Int) : Option (Int) := (nat_Right.f l0).bind fun t159 => (if t159 = true then (if (l0.length : Int) = 0 then (some 0) else (if 0 ≤ (wrap64 ((l0.length : Int) - 1)) then (if (wrap64 ((l0.length : Int) - 1)) < (l0.length : Int) then ((bits_Len64.f k (rd l0 (wrap64 ((l0.length : Int) - 1)))).bind fun t161 => (some (wrap64 ((wrap64 (64 * (wrap64 ((l0.length : Int) - 1)))) + t161)))) else (none)) else (none))) else (some 0))
def nat_Of.f (k : Nat) (a0 : Int) : Option (List Int) := (nat_trim.f k (([a0] : List Int))).bind fun t350 => (some t350)
def nat_Small.j0 : Nat → List Int → Bool → Option (Int × Bool)
 | 0, _, _ => none
 | k + 1, x0, x4 => if x4 = true then (some (0, false)) else (if (x0.length : Int) = 0 then (some (0, true)) else (if 0 < (x0.length : Int) then (some (rd x0 0, true)) else (none)))
def nat_Small.f (k : Nat) (l0 : List Int) : Option (Int × Bool) := (nat_Right.f l0).bind fun t353 => (if t353 = true then (nat_Small.j0 k l0 (decide ((l0.length : Int) > 1))) else (nat_Small.j0 k l0 true))
def windbreakref01_Right.f (l0 : List Int) : Option (Bool) := if (l0.length : Int) ≤ 64 then (if (l0.length : Int) = 0 then (some true) else (if 0 ≤ (wrap64 ((l0.length : Int) - 1)) then (if (wrap64 ((l0.length : Int) - 1)) < (l0.length : Int) then (some ((rd l0 (wrap64 ((l0.length : Int) - 1))) != 0)) else (none)) else (none))) else (some false)
def windbreakref01_cut.l0 : Nat → List Int → Int → Option (List Int)
 | 0, _, _ => none
 | k + 1, x0, x3 => if x3 > 0 then (if 0 ≤ (wrap64 (x3 - 1)) then (if (wrap64 (x3 - 1)) < (x0.length : Int) then (if (rd x0 (wrap64 (x3 - 1))) = 0 then (windbreakref01_cut.l0 k x0 (wrap64 (x3 - 1))) else (if 0 ≤ x3 then (if x3 ≤ (x0.length : Int) then (some (x0.take (x3 : Int).toNat)) else (none)) else (none))) else (none)) else (none)) else (if 0 ≤ x3 then (if x3 ≤ (x0.length : Int) then (some (x0.take (x3 : Int).toNat)) else (none)) else (none))
def windbreakref01_cut.f (k : Nat) (l0 : List Int) : Option (List Int) := windbreakref01_cut.l0 k l0 (l0.length : Int)
def windbreakref01_compare.l0 : Nat → List Int → List Int → Int → Option (Int)
 | 0, _, _, _ => none
 | k + 1, x0, x1, x5 => if x5 ≥ 0 then (if 0 ≤ x5 then (if x5 < (x0.length : Int) then (if x5 < (x1.length : Int) then (if (rd x0 x5) < (rd x1 x5) then (some (-1)) else (if (rd x0 x5) > (rd x1 x5) then (some 1) else (windbreakref01_compare.l0 k x0 x1 (wrap64 (x5 - 1))))) else (none)) else (none)) else (none)) else (some 0)
def windbreakref01_compare.f (k : Nat) (l0 : List Int) (l1 : List Int) : Option (Int) := if (l0.length : Int) = (l1.length : Int) then (windbreakref01_compare.l0 k l0 l1 (wrap64 ((l0.length : Int) - 1))) else (if (l0.length : Int) < (l1.length : Int) then (some (-1)) else (some 1))
def windbreakref01_digit.f (l0 : List Int) (a1 : Int) : Option (Int) := if a1 < (l0.length : Int) then (if 0 ≤ a1 then (some (rd l0 a1)) else (none)) else (some 0)
def windbreakref01_sub.l0 : Nat → List Int → List Int → List Int → Int → Int → Option (List Int)
 | 0, _, _, _, _, _ => none
 | k + 1, x0, x1, x5, x6, x7 => if x7 < (x0.length : Int) then (if 0 ≤ x7 then ((windbreakref01_digit.f x1 x7).bind fun t199 => (if x5.length < 17592186044416 then (windbreakref01_sub.l0 k x0 x1 (x5 ++ [Int.tmod (IntKind.u64.wrap ((IntKind.u64.wrap ((IntKind.u64.wrap (65536 + (rd x0 x7))) - t199)) - x6)) 65536]) (IntKind.u64.wrap (1 - (IntKind.u64.wrap (Int.tdiv (IntKind.u64.wrap ((IntKind.u64.wrap ((IntKind.u64.wrap (65536 + (rd x0 x7))) - t199)) - x6)) 65536)))) (wrap64 (x7 + 1))) else (none))) else (none)) else ((windbreakref01_cut.f k x5).bind fun t203 => (some t203))
def windbreakref01_sub.f (k : Nat) (l0 : List Int) (l1 : List Int) : Option (List Int) := windbreakref01_sub.l0 k l0 l1 ([] : List Int) 0 0
def windbreakref01_Of.f (a0 : Int) : Option (List Int) := if a0 = 0 then (some ([] : List Int)) else (some (([a0] : List Int)))
def windbreakref01_power.l0 : Nat → Int → List Int → Int → Option (List Int)
 | 0, _, _, _ => none
 | k + 1, x0, x3, x4 => if x4 < (Int.tmod x0 16) then (if 0 ≤ (wrap64 (Int.tdiv x0 16)) then (if (wrap64 (Int.tdiv x0 16)) < (x3.length : Int) then (windbreakref01_power.l0 k x0 (x3.set ((wrap64 (Int.tdiv x0 16)) : Int).toNat (IntKind.u64.wrap ((rd x3 (wrap64 (Int.tdiv x0 16))) * 2))) (wrap64 (x4 + 1))) else (none)) else (none)) else (some x3)
def windbreakref01_power.f (k : Nat) (a0 : Int) : Option (List Int) := if 0 ≤ (wrap64 ((wrap64 (Int.tdiv a0 16)) + 1)) then (if (wrap64 ((wrap64 (Int.tdiv a0 16)) + 1) : Int).toNat ≤ 35184372088832 then ((some (List.replicate (wrap64 ((wrap64 (Int.tdiv a0 16)) + 1) : Int).toNat 0 : List Int)).bind fun y290 => (if 0 ≤ (wrap64 (Int.tdiv a0 16)) then (if (wrap64 (Int.tdiv a0 16)) < (y290.length : Int) then (windbreakref01_power.l0 k a0 (y290.set ((wrap64 (Int.tdiv a0 16)) : Int).toNat 1) 0) else (none)) else (none))) else (none)) else (none)
def windbreakref01_Small.j0 : Nat → List Int → Bool → Option (Int × Bool)
 | 0, _, _ => none
 | k + 1, x0, x13 => if x13 = true then (some (0, false)) else (if (x0.length : Int) = 0 then (some (0, true)) else (if 0 < (x0.length : Int) then (some (rd x0 0, true)) else (none)))
def windbreakref01_Small.f (k : Nat) (l0 : List Int) : Option (Int × Bool) := (windbreakref01_Right.f l0).bind fun t358 => (if t358 = true then (windbreakref01_Small.j0 k l0 (decide ((l0.length : Int) > 1))) else (windbreakref01_Small.j0 k l0 true))
def windbreakref05_least.l0 : Nat → Int → Int → Option (Int)
 | 0, _, _ => none
 | k + 1, x0, x3 => if (IntKind.u64.wrap (x3 * x3)) ≤ x0 then (if x3 = 0 then (none) else (if (Int.tmod x0 x3) = 0 then (some x3) else (windbreakref05_least.l0 k x0 (IntKind.u64.wrap (x3 + 1))))) else (some x0)
def windbreakref05_least.f (k : Nat) (a0 : Int) : Option (Int) := windbreakref05_least.l0 k a0 2
set_option maxHeartbeats 8000000 in
set_option maxRecDepth 100000 in
theorem windbreakref05_least.calls (k : Nat) (a0 : Int) (r : Int) (w : World) (h : windbreakref05_least.f k a0 = some r) :
  Calls Try.prog 58 #[.int .u64 a0] w fun e w' => e = .returned (.int .u64 r) ∧ Drawn0 w w' := by
 have H : (windbreakref05_least.l0 k a0 2) = some r := h
 clear h
 have H' := Aside0.mk H
 clear H
 go_enter Try.func58, Try.ntmps58
 go_wp2
 go_loopg [3] k (fun kq v3 w' => ∃ (x3_1 : Int), v3 = .int .u64 x3_1 ∧ Aside0 (windbreakref05_least.l0 kq a0 x3_1 = some r) ∧ Aside0 (kq ≤ k) ∧ Drawn0 w w')
 case atStart => exact ⟨(2), uG, H', ⟨Nat.le_refl _⟩, by repeat (first | exact Drawn0.refl _ | apply Drawn0.step)⟩
 case round =>
  clear H'
  obtain ⟨x3_1, rfl, HA, HK1, ⟨m1, rfl⟩⟩ := hrel
  cases gk with
  | zero => exact absurd HA.out (by simp [windbreakref05_least.l0])
  | succ k1 =>
   have H := HA.out
   clear HA
   simp only [windbreakref05_least.l0] at H
   by_cases c2 : (IntKind.u64.wrap (x3_1 * x3_1)) ≤ a0
   ·
    rw [if_pos c2] at H
    have c2b0 : decide ((IntKind.u64.wrap (x3_1 * x3_1)) ≤ a0) = true := decide_eq_true c2
    clear c2
    replace H := uE H; obtain ⟨c3, H⟩ := H
    have c3b0 : (x3_1 == 0) = false := beq_eq_false_iff_ne.mpr c3
    have c3b1 : (x3_1 != 0) = true := bne_iff_ne.mpr c3
    by_cases c4 : (Int.tmod a0 x3_1) = 0
    ·
     rw [if_pos c4] at H
     have c4b0 : ((Int.tmod a0 x3_1) == 0) = true := beq_iff_eq.mpr c4
     have c4b1 : ((Int.tmod a0 x3_1) != 0) = false := bne_eq_false_iff_eq.mpr c4
     clear c4
     obtain rfl := Option.some.inj H
     go_wp2
     go_ret
     exact ⟨by first | rfl | (simp; done) | (simp [*]; done), by repeat (first | exact Drawn0.refl _ | apply Drawn0.step)⟩
    rw [if_neg c4] at H
    have c4b0 : ((Int.tmod a0 x3_1) == 0) = false := beq_eq_false_iff_ne.mpr c4
    have c4b1 : ((Int.tmod a0 x3_1) != 0) = true := bne_iff_ne.mpr c4
    have H' := Aside0.mk H
    clear H
    go_wp2
    go_roundg k1
    case measure => have := HK1.out; omega
    case rel => exact ⟨(IntKind.u64.wrap (x3_1 + 1)), uG, H', ⟨by have := HK1.out; omega⟩, by repeat (first | exact Drawn0.refl _ | apply Drawn0.step)⟩
   rw [if_neg c2] at H
   have c2b0 : decide ((IntKind.u64.wrap (x3_1 * x3_1)) ≤ a0) = false := decide_eq_false c2
   clear c2
   obtain rfl := Option.some.inj H
   go_wp2
   go_ret
   exact ⟨by first | rfl | (simp; done) | (simp [*]; done), by repeat (first | exact Drawn0.refl _ | apply Drawn0.step)⟩
def windbreakref01_Same.l0 : Nat → List Int → List Int → Int → Option (Bool)
 | 0, _, _, _ => none
 | k + 1, x0, x1, x5 => if x5 < (x0.length : Int) then (if 0 ≤ x5 then (if x5 < (x1.length : Int) then (if (rd x0 x5) = (rd x1 x5) then (windbreakref01_Same.l0 k x0 x1 (wrap64 (x5 + 1))) else (some false)) else (none)) else (none)) else (some true)
def windbreakref01_Same.f (k : Nat) (l0 : List Int) (l1 : List Int) : Option (Bool) := if (l0.length : Int) = (l1.length : Int) then (windbreakref01_Same.l0 k l0 l1 0) else (some false)
end Go.Proofs.Ytlkinjhmgljapab.F
end
section
namespace Go.Proofs.Ytlkinjhmgljapab.F
open Go.RowKit Go.Proofs.YtlkinjhmgljapabW.PrintWords Go.Proofs.YtlkinjhmgljapabW.PrintLast Go.Proofs.YtlkinjhmgljapabW.PrintMore
set_option linter.unusedVariables false
set_option linter.unusedSimpArgs false
theorem heap_new (w : World) (o : Obj) : (w.alloc o).heap[w.heap.size]? = some o := by
  show (w.heap.push o)[w.heap.size]? = _
  simp
def Tp (w : World) (g : Nat) (ok : Nat → Prop) (l : List Int) : Prop := ∃ A c, w.heap[g]? = some (.cells #[.slice A l.length c] 100 (0, 0)) ∧ l.length ≤ c ∧ Kd.F (Kd.int .u8) w ok A l.length l
def Tp2 (w : World) (g : Nat) (ok : Nat → Prop) (l : List Int) (u : Int) : Prop := ∃ A c, w.heap[g]? = some (.cells #[.slice A l.length c, .int .i64 u] 102 (0, 0)) ∧ l.length ≤ c ∧ Kd.F (Kd.int .u8) w ok A l.length l
def TapeAt (w : World) (base : Nat) (p : Option Addr) (l : List Int) : Prop := ∃ g, p = some ⟨g, 0, none⟩ ∧ base ≤ g ∧ Tp w g (fun k => base ≤ k ∧ k < g) l
set_option maxHeartbeats 8000000 in
set_option maxRecDepth 100000 in
theorem tape_New.calls (A0 : Option Addr) (c0 : Nat) (l0 : List Int) (w : World) (hr0 : Kd.C (Kd.int .u8) w A0 l0.length l0) (hc0 : l0.length ≤ c0) :
    Calls Try.prog 20 #[.slice A0 l0.length c0] w fun e w' => ∃ p : Option Addr, e = .returned (.tuple #[.pointer p, .int .i64 (if (l0.length : Int) > 65536 then 1 else 0)]) ∧ (if (l0.length : Int) > 65536 then p = none else TapeAt w' w.heap.size p l0) ∧ Below w.heap.size w w' := by
  have HR0 := Aside0.mk hr0
  have HC0 := Aside0.mk hc0
  clear hr0 hc0
  by_cases c2 : (l0.length : Int) > 65536
  · rw [if_pos c2]
    have c2b0 : decide (65536 < (l0.length : Int)) = true := decide_eq_true c2
    go_enter Try.func20, Try.ntmps20
    go_wp2
    go_ret2
    exact ⟨none, rfl, by first | rfl | rw [if_pos c2], Below.refl _ _⟩
  · rw [if_neg c2]
    have c2b0 : decide (65536 < (l0.length : Int)) = false := decide_eq_false c2
    have A3 := Aside0.mk (show slices_Clone_byte_byte.f l0 = some l0 from by
      unfold slices_Clone_byte_byte.f
      simp only [Option.bind_some, List.length_nil, List.nil_append]
      rw [if_pos (by omega)])
    go_enter Try.func20, Try.ntmps20
    go_wp2_with (go_at_call 56; (with_reducible refine (slices_Clone_byte_byte.calls _ _ l0 l0 _ HR0.out HC0.out A3.out).mono ?_); rintro e w1 ⟨v1, rfl, ho1, hb1⟩; obtain ⟨A1_, c1_, rfl⟩ := Kd.R_slice ho1; have HO := Aside0.mk ho1; have HB := Aside0.mk hb1; clear ho1 hb1)
    go_ret2
    refine ⟨some ⟨w1.heap.size, 0, none⟩, rfl, ?_, below_alloc HB.out _⟩
    refine ⟨w1.heap.size, rfl, below_size HB.out, A1_, c1_, heap_new w1 _, (Kd.R_reads' HO.out).2.1, ?_⟩
    exact Kd.F_alloc (Kd.V_at (base := w.heap.size) (Kd.R_V (Kd.R_mono (Kd.R_bound HO.out) (fun k hk => ⟨hk.2.1, hk.2.2.1⟩)))).2.2 _
def TapeAt2 (w : World) (base : Nat) (p : Option Addr) (l : List Int) (u : Int) : Prop := ∃ g, p = some ⟨g, 0, none⟩ ∧ base ≤ g ∧ Tp2 w g (fun k => base ≤ k ∧ k < g) l u
set_option maxHeartbeats 8000000 in
set_option maxRecDepth 100000 in
theorem tape_New2.calls (A0 : Option Addr) (c0 : Nat) (l0 : List Int) (w : World) (hr0 : Kd.C (Kd.int .u8) w A0 l0.length l0) (hc0 : l0.length ≤ c0) :
    Calls Try.prog 21 #[.slice A0 l0.length c0] w fun e w' => ∃ p : Option Addr, e = .returned (.tuple #[.pointer p, .int .i64 (if (l0.length : Int) > 65536 then 1 else 0)]) ∧ (if (l0.length : Int) > 65536 then p = none else TapeAt2 w' w.heap.size p l0 0) ∧ Below w.heap.size w w' := by
  have HR0 := Aside0.mk hr0
  have HC0 := Aside0.mk hc0
  clear hr0 hc0
  have HB := Aside0.mk (Below.refl w.heap.size w)
  by_cases c2 : (l0.length : Int) > 65536
  · rw [if_pos c2]
    have c2b0 : decide (65536 < (l0.length : Int)) = true := decide_eq_true c2
    go_enter Try.func21, Try.ntmps21
    go_wp2
    go_ret2
    exact ⟨none, rfl, by first | rfl | rw [if_pos c2], Below.refl _ _⟩
  · rw [if_neg c2]
    have c2b0 : decide (65536 < (l0.length : Int)) = false := decide_eq_false c2
    have LM := Aside0.mk (show l0.length ≤ 65536 by omega)
    go_enter Try.func21, Try.ntmps21
    go_wp2_with (first | ((with_reducible refine gate_dst (N := 7) rfl ?_); refine Kd.R_lit (Kd.int .u8) _ 5 ?hg (N := 7) ?hd (xs := ([] : List Int)) (inner := []) (ok := fun _ => True) (okp := fun _ => True) ?hr ?hp (fun _ hk => hk) trivial (Below.refl _ _) (Nat.le_refl _) (by simp) ?_; (case hd => rfl); (case hg => rfl); (case hr => first | (go_simp; done) | (go_simp; rfl)); (case hp => exact (Reps.none _ _)); intro v110 w4 ho5 hb hg_ hnew_; clear hg_ hnew_; have n0_ := Aside0.mk (Kd.R_lower ho5 (below_size (by repeat (first | (with_reducible first | exact HB.out | apply below_alloc | apply pw_below_drewN | apply below_drew1) | exact HB.out)))); have n1_ := Aside0.mk (below_step (by repeat (first | (with_reducible first | exact HB.out | apply below_alloc | apply pw_below_drewN | apply below_drew1) | exact HB.out)) hb); clear HB; have HO111 := n0_; have HB := n1_; clear n0_ n1_; clear hb ho5) | ((with_reducible refine gate_builtin (b := .append) (xs := #[.tmp 7, .tmp 8]) rfl ?_); at_builtin; refine Kd.R_append_rows (Kd.int .u8) (w0 := w) w.heap.size rfl (.tmp 7) (.tmp 8) 22 5 (.int .u8 0) 1 rfl Try.underlying22 info5 rfl (by decide) (by omega) v110 [] l0 _ _ _ (fun _ => True) (fun _ => False) rfl rfl ?aO ?aR (fun _ _ h => h) (fun _ h => h.elim) ?aF ?aB ?aS ?aL ?_; (case aR => repeat (first | exact (Kd.C_below HR0.out HB.out) | (with_reducible refine Kd.C_alloc ?_ _) | (with_reducible refine Kd.C_drewN ?_ _) | (with_reducible refine Kd.C_drew ?_))); (case aB => exact (by repeat (first | (with_reducible first | exact HB.out | apply below_alloc | apply pw_below_drewN | apply below_drew1) | exact HB.out))); (case aF => exact (fun _ _ => trivial)); (case aO => exact (by (with_reducible repeat (first | apply Kd.R_alloc | apply Kd.R_drewN | apply Kd.R_drew)); exact HO111.out)); (case aS => exact (below_size (by repeat (first | (with_reducible first | exact HB.out | apply below_alloc | apply pw_below_drewN | apply below_drew1) | exact HB.out)))); (case aL => have := LM.out; simp only [List.length_nil]; omega); intro v113 w6 ho hb hg hat; rw [List.nil_append] at ho; obtain ⟨A1_, c1_, rfl⟩ := Kd.R_slice ho; have n0_ := Aside0.mk (hb); have n1_ := Aside0.mk (ho); clear HB; clear HO111; have HB := n0_; have HO114 := n1_; clear n0_ n1_; clear ho hb hg hat))
    go_ret2
    refine ⟨some ⟨w6.heap.size, 0, none⟩, rfl, ?_, below_alloc HB.out _⟩
    refine ⟨w6.heap.size, rfl, below_size HB.out, A1_, c1_, heap_new w6 _, (Kd.R_reads' HO114.out).2.1, ?_⟩
    exact Kd.F_alloc (Kd.V_at (base := w.heap.size) (Kd.R_V (Kd.R_mono (Kd.R_bound HO114.out) (fun k hk => ⟨hk.2.1, hk.2.2.1⟩)))).2.2 _
theorem Tp.below {w w1 : World} {g : Nat} {ok : Nat → Prop} {l : List Int} (h : Tp w g ok l) (hb : Below w.heap.size w w1) : Tp w1 g ok l := by
  obtain ⟨A, c, h1, h2, h3⟩ := h
  exact ⟨A, c, (hb.block g (blk_lt h1)).trans h1, h2, Kd.F_below h3 hb⟩
theorem Tp2.below {w w1 : World} {g : Nat} {ok : Nat → Prop} {l : List Int} {u : Int} (h : Tp2 w g ok l u) (hb : Below w.heap.size w w1) : Tp2 w1 g ok l u := by
  obtain ⟨A, c, h1, h2, h3⟩ := h
  exact ⟨A, c, (hb.block g (blk_lt h1)).trans h1, h2, Kd.F_below h3 hb⟩
theorem TapeAt.below {w w1 : World} {base : Nat} {p : Option Addr} {l : List Int} (h : TapeAt w base p l) (hb : Below w.heap.size w w1) : TapeAt w1 base p l := by
  obtain ⟨g, hp, hg, hc⟩ := h
  exact ⟨g, hp, hg, hc.below hb⟩
theorem TapeAt2.below {w w1 : World} {base : Nat} {p : Option Addr} {l : List Int} {u : Int} (h : TapeAt2 w base p l u) (hb : Below w.heap.size w w1) : TapeAt2 w1 base p l u := by
  obtain ⟨g, hp, hg, hc⟩ := h
  exact ⟨g, hp, hg, hc.below hb⟩
set_option maxHeartbeats 8000000 in
set_option maxRecDepth 100000 in
theorem tape_Left.calls (g : Nat) (A : Option Addr) (n c : Nat) (w : World) (h : w.cell? ⟨g, 0, none⟩ = some (.slice A n c)) :
    Calls Try.prog 18 #[.pointer (some ⟨g, 0, none⟩)] w fun e w' => e = .returned (.int .i64 (n : Int)) ∧ Drawn0 w w' := by
  go_enter Try.func18, Try.ntmps18
  go_wp2
  go_ret
  exact ⟨rfl, Drawn0.refl _⟩
set_option maxHeartbeats 8000000 in
set_option maxRecDepth 100000 in
theorem tape_Left2.calls (g : Nat) (A : Option Addr) (n c : Nat) (u : Int) (w : World) (h : w.cell? ⟨g, 0, none⟩ = some (.slice A n c)) (h2 : w.cell? ⟨g, 1, none⟩ = some (.int .i64 u)) :
    Calls Try.prog 19 #[.pointer (some ⟨g, 0, none⟩)] w fun e w' => e = .returned (.int .i64 (wrap64 ((n : Int) - u))) ∧ Drawn0 w w' := by
  go_enter Try.func19, Try.ntmps19
  go_wp2
  repeat (go_quiet (fail); try go_wp2)
  go_ret
  exact ⟨rfl, by first | exact Drawn0.refl _ | exact ⟨_, rfl⟩⟩
set_option maxHeartbeats 8000000 in
set_option maxRecDepth 100000 in
theorem tape_Take.calls (g : Nat) (l : List Int) (n : Int) (ok : Nat → Prop) (w : World) (hT : Tp w g ok l) (hg : ¬ ok g) (h0 : 0 ≤ n) (h1 : n ≤ 65536) (h2 : n ≤ (l.length : Int)) :
    Calls Try.prog 42 #[.pointer (some ⟨g, 0, none⟩), .int .i64 n] w fun e w' => ∃ v : Value, e = .returned (.tuple #[v, .int .i64 0]) ∧ Kd.R (Kd.int .u8) 5 w' w.heap.size (fun _ => True) v (l.take n.toNat) ∧ Tp w' g ok (l.drop n.toNat) ∧ KeepBut w w' g none ∧ w'.os = w.os ∧ w'.tape = w.tape ∧ w'.output = w.output := by
  obtain ⟨A, c, hb, hlc, hF⟩ := hT
  have HF := Aside0.mk hF
  have HBX := Aside0.mk hb
  have hcell := (blk_cell hb 0).trans rfl
  have hfz := blk_frozen hb 0
  obtain ⟨i0, hi0, _, hsz, _⟩ := info_parts info5
  have hcut1 := cut_to (P := Try.prog) 22 5 .i64 Try.underlying22 hi0 A l.length c n h0 h2 hlc
  obtain ⟨A2, hA2, hcut2⟩ : ∃ A2 : Option Addr, (∀ W : World, Kd.C (Kd.int .u8) W A l.length l → Kd.C (Kd.int .u8) W A2 (l.drop n.toNat).length (l.drop n.toNat)) ∧ ∀ W : World, (Instr.slice 22 (.slice A l.length c) (some (.int .i64 n)) none none).run Try.prog W = .ok (.slice A2 (l.length - n.toNat) (c - n.toNat)) W :=
    ⟨_, fun W h => Kd.C_drop h (by omega) hlc, fun W => cut_from (P := Try.prog) 22 5 .i64 Try.underlying22 hi0 1 hsz A l.length c n h0 h2 W⟩
  have hC1 : Kd.C (Kd.int .u8) w A (l.take n.toNat).length (l.take n.toNat) := Kd.C_take (Kd.F_now hF) (by omega)
  have hlt : (l.take n.toNat).length = n.toNat := by rw [List.length_take]; omega
  have A3 := Aside0.mk (show slices_Clone_byte_byte.f (l.take n.toNat) = some (l.take n.toNat) from by
    unfold slices_Clone_byte_byte.f
    simp only [Option.bind_some, List.length_nil, List.nil_append]
    rw [if_pos (by omega)])
  have HC1 := Aside0.mk hC1
  have HLC := Aside0.mk hlc
  clear hF hC1
  have c1 : decide (n < 0) = false := decide_eq_false (by omega)
  have c2 : decide (65536 < n) = false := decide_eq_false (by omega)
  have c3 : decide ((l.length : Int) < n) = false := decide_eq_false (by omega)
  go_enter Try.func42, Try.ntmps42
  go_wp2_with (go_at_call 56; go_loud ((rw [← hlt]); (refine (slices_Clone_byte_byte.calls _ _ (l.take n.toNat) (l.take n.toNat) _ HC1.out (by have := HLC.out; omega) A3.out).mono ?_); rintro e w1 ⟨v1, rfl, ho1, hb1⟩; obtain ⟨A1_, c1_, rfl⟩ := Kd.R_slice ho1; have HO := Aside0.mk ho1; have HB := Aside0.mk hb1; have hcell2 := (hb1.cell (World.block_lt_of_cell? _ _ hcell)).trans hcell; have hfz2 := (hb1.frozen (World.block_lt_of_cell? _ _ hcell)).trans hfz; clear ho1 hb1 hcell hfz))
  go_ret2
  have hgs : g < w.heap.size := blk_lt HBX.out
  have hhk : ∀ k, k ≠ g → ∀ u, (w1.setCell ⟨g, 0, none⟩ u).heap[k]? = w1.heap[k]? := fun k hk u => Below.heap_setCell w1 ⟨g, 0, none⟩ u k hk
  have hb1 : w1.heap[g]? = some (.cells #[.slice A l.length c] 100 (0, 0)) := (HB.out.block g hgs).trans HBX.out
  refine ⟨_, rfl, ?_, ⟨A2, c - n.toNat, ?_, ?_, ?_⟩, (KeepBut.of_below HB.out g none).set_ 0 _, HB.out.os, HB.out.tape, HB.out.output⟩
  · have h3 := HO.out
    rw [hlt] at h3
    exact Kd.R_mono (Kd.R_step (Kd.R_bound h3) (fun k hk _ => hhk k (by have := hk.2.1; omega) _)) (fun _ _ => trivial)
  · have h3 := blk_set hb1 0 (.slice A2 (l.length - n.toNat) (c - n.toNat))
    rw [List.length_drop]
    simpa using h3
  · rw [List.length_drop]; have := HLC.out; omega
  · have h3 : Kd.F (Kd.int .u8) (w1.setCell ⟨g, 0, none⟩ (.slice A2 (l.length - n.toNat) (c - n.toNat))) ok A l.length l := Kd.F_step HF.out (fun k hk hlt2 => (hhk k (fun e => hg (e ▸ hk)) _).trans (HB.out.block k hlt2))
    exact fun W' hW => hA2 W' (h3 W' hW)
theorem Tp.keep {w w1 : World} {g g1 : Nat} {ok : Nat → Prop} {l : List Int} (h : Tp w g ok l) (hk : KeepBut w w1 g1 none) (hg : g ≠ g1) (hok : ∀ k, ok k → k ≠ g1) : Tp w1 g ok l := by
  obtain ⟨A, c, h1, h2, h3⟩ := h
  exact ⟨A, c, (hk.2 g (blk_lt h1) hg (by simp)).trans h1, h2, Kd.F_step h3 (fun k hk2 hlt => hk.2 k hlt (hok k hk2) (by simp))⟩
theorem Tp.mono {w : World} {g : Nat} {ok ok' : Nat → Prop} {l : List Int} (h : Tp w g ok l) (hok : ∀ k, ok k → ok' k) : Tp w g ok' l := by
  obtain ⟨A, c, h1, h2, h3⟩ := h
  exact ⟨A, c, h1, h2, Kd.F_mono h3 hok⟩
theorem Tp.lt {w : World} {g : Nat} {ok : Nat → Prop} {l : List Int} (h : Tp w g ok l) : g < w.heap.size := by
  obtain ⟨A, c, h1, _⟩ := h
  exact blk_lt h1
theorem keep_below {w W w1 : World} {g : Nat} (HB : Below w.heap.size w W) (hk : KeepBut W w1 g none) (ho : w1.os = W.os) (ht : w1.tape = W.tape) (hu : w1.output = W.output) (hg : w.heap.size ≤ g) : Below w.heap.size w w1 :=
  ⟨ho.trans HB.os, ht.trans HB.tape, hu.trans HB.output, Nat.le_trans HB.size hk.1, fun k hlt => (hk.2 k (Nat.lt_of_lt_of_le hlt HB.size) (by omega) (by simp)).trans (HB.block k hlt)⟩
set_option maxHeartbeats 2000000 in
set_option maxRecDepth 100000 in
theorem tape_Take2.calls (g : Nat) (L : List Int) (u n : Int) (ok : Nat → Prop) (w : World) (hT : Tp2 w g ok L u) (hg : ¬ ok g) (hu : 0 ≤ u) (h0 : 0 ≤ n) (h1 : n ≤ 65536) (h2 : u + n ≤ (L.length : Int)) (hL : L.length ≤ 65536) :
    Calls Try.prog 48 #[.pointer (some ⟨g, 0, none⟩), .int .i64 n] w fun e w' => ∃ v : Value, e = .returned (.tuple #[v, .int .i64 0]) ∧ Kd.R (Kd.int .u8) 5 w' w.heap.size (fun _ => True) v ((L.drop u.toNat).take n.toNat) ∧ Tp2 w' g ok L (u + n) ∧ KeepBut w w' g none ∧ w'.os = w.os ∧ w'.tape = w.tape ∧ w'.output = w.output := by
  obtain ⟨A, c, hb, hlc, hF⟩ := hT
  have HF := Aside0.mk hF
  have HBX := Aside0.mk hb
  have hcell := (blk_cell hb 0).trans rfl
  have hcell1 := (blk_cell hb 1).trans rfl
  have hfz := blk_frozen hb 1
  obtain ⟨i0, hi0, _, hsz, _⟩ := info_parts info5
  obtain ⟨A2, c2, hA2, hcut2⟩ : ∃ (A2 : Option Addr) (c2 : Nat), (∀ W : World, Kd.C (Kd.int .u8) W A L.length L → Kd.C (Kd.int .u8) W A2 ((L.drop u.toNat).take n.toNat).length ((L.drop u.toNat).take n.toNat)) ∧ ∀ W : World, (Instr.slice 22 (.slice A L.length c) (some (.int .i64 u)) (some (.int .i64 (u + n))) none).run Try.prog W = .ok (.slice A2 ((L.drop u.toNat).take n.toNat).length c2) W := by
    have e1 : (L.take (u + n).toNat).drop u.toNat = (L.drop u.toNat).take n.toNat := by
      rw [List.drop_take]; congr 1; omega
    have e2 : ((L.drop u.toNat).take n.toNat).length = (u + n).toNat - u.toNat := by
      rw [List.length_take, List.length_drop]; omega
    refine ⟨if c = u.toNat then A else A.map (·.add (u.toNat * 1)), c - u.toNat, fun W h => ?_, fun W => ?_⟩
    · rw [← e1]
      exact Kd.C_mid (lo := u.toNat) (hi := (u + n).toNat) h (by omega) (by omega) hlc
    · rw [e2]
      exact cut_mid (P := Try.prog) 22 5 .i64 .i64 Try.underlying22 hi0 1 hsz A L.length c u (u + n) hu (by omega) h2 hlc W
  obtain ⟨X, hX⟩ : ∃ X, X = (L.drop u.toNat).take n.toNat := ⟨_, rfl⟩
  rw [← hX] at hA2 hcut2 ⊢
  have NX := Aside0.mk hX
  have HLC := Aside0.mk hlc
  have HA2 := Aside0.mk hA2
  have hsub : wrap64 ((L.length : Int) - u) = (L.length : Int) - u := by unfold wrap64; omega
  have hsum : wrap64 (u + n) = u + n := by unfold wrap64; omega
  clear hF hX hA2 hlc
  have c1 : decide (n < 0) = false := decide_eq_false (by omega)
  have c2b : decide (65536 < n) = false := decide_eq_false (by omega)
  have c3 : decide ((L.length : Int) - u < n) = false := decide_eq_false (by omega)
  have c4 : decide (wrap64 ((L.length : Int) - u) < n) = false := by rw [hsub]; exact c3
  go_enter Try.func48, Try.ntmps48
  go_wp2
  go_quiet (fail)
  go_wp2
  have hgs : g < w.heap.size := blk_lt HBX.out
  have hsumI : IntKind.i64.wrap (u + n) = u + n := by
    simp [IntKind.wrap, IntKind.bits, IntKind.signed]
    omega
  have hcA : ∀ (m : Nat) (o : Obj), ((w.drewN m).alloc o).cell? ⟨g, 0, none⟩ = some (.slice A L.length c) := fun m o => pw_cell_below (below_alloc (pw_below_drewN (Below.refl _ _) m) o) hcell
  have hcB : ∀ (m : Nat) (o : Obj), ((w.drewN m).alloc o).cell? ⟨g, 1, none⟩ = some (.int .i64 u) := fun m o => pw_cell_below (below_alloc (pw_below_drewN (Below.refl _ _) m) o) hcell1
  have hcl : ∀ m : Nat, Kd.R (Kd.int .u8) 5 ((w.drewN m).alloc (.cells #[] 5)) w.heap.size (fun _ => True) (.slice (some ⟨w.heap.size, 0, none⟩) 0 0) [] := fun m => Kd.R_of_own (by simpa [encs, nums] using own_lit (w.drewN m) w.heap.size 5 .u8 [] (Nat.le_refl _) (by simp)) (fun _ _ => trivial)
  have hcC : ∀ m : Nat, Kd.C (Kd.int .u8) ((w.drewN m).alloc (.cells #[] 5)) A2 X.length X := fun m => HA2.out _ (Kd.F_now (Kd.F_alloc (Kd.F_drewN HF.out m) _))
  have hcBl : ∀ m : Nat, Below w.heap.size w ((w.drewN m).alloc (.cells #[] 5)) := fun m => below_alloc (pw_below_drewN (Below.refl _ _) m) _
  have HCL := Aside0.mk hcl
  have HCC := Aside0.mk hcC
  have HCB := Aside0.mk hcBl
  have hxl : X.length ≤ 65536 := by rw [NX.out, List.length_take]; omega
  have HXL := Aside0.mk hxl
  clear hcl hcC hcBl hxl
  go_region_law (first | (refine Kd.R_append_rows_step (Kd.int .u8) (w0 := w) w.heap.size (by first | rfl | simp [Region.wanted]) (.tmp 25) (.tmp 40) 22 5 (.int .u8 0) 1 rfl Try.underlying22 info5 rfl (by decide) (by omega) (.slice (some ⟨w.heap.size, 0, none⟩) 0 0) [] X A2 X.length c2 (fun _ => True) (fun _ => False) rfl rfl (HCL.out _) (HCC.out _) (fun _ _ h => h) (fun _ h => h.elim) (fun _ _ => trivial) (HCB.out _) (HCB.out _).size (by have := HXL.out; simp only [List.length_nil]; omega) ?_; intro v113 w6 ho hb hg_ hat_; rw [List.nil_append] at ho; obtain ⟨A1_, c1_, rfl⟩ := Kd.R_slice ho; have HO := Aside0.mk ho; have HB := Aside0.mk hb; clear ho hb hg_ hat_))
  all_goals
    have hlt1 := World.block_lt_of_cell? _ _ hcell1
    have hcell6 := (HB.out.cell hlt1).trans hcell1
    have hfz6 := (HB.out.frozen hlt1).trans hfz
    clear hcell hcell1 hfz hcA hcB hlt1
    go_wp2
    go_ret2
    have hhk : ∀ k, k ≠ g → ∀ x, (w6.setCell ⟨g, 1, none⟩ x).heap[k]? = w6.heap[k]? := fun k hk x => Below.heap_setCell w6 ⟨g, 1, none⟩ x k hk
    have hb1 : w6.heap[g]? = some (.cells #[.slice A L.length c, .int .i64 u] 102 (0, 0)) := (HB.out.block g hgs).trans HBX.out
    refine ⟨_, rfl, ?_, ⟨A, c, ?_, HLC.out, ?_⟩, (KeepBut.of_below HB.out g none).set_ 1 _, HB.out.os, HB.out.tape, HB.out.output⟩
    · exact Kd.R_mono (Kd.R_step (Kd.R_bound HO.out) (fun k hk _ => hhk k (by have := hk.2.1; omega) _)) (fun _ _ => trivial)
    · have h3 := blk_set hb1 1 (.int .i64 (u + n))
      simpa using h3
    · exact Kd.F_step HF.out (fun k hk hlt2 => (hhk k (fun e => hg (e ▸ hk)) _).trans (HB.out.block k hlt2))
def Took (w w' : World) (g : Nat) (e : Ending) (x : List Int × Int) : Prop := ∃ (A : Option Addr) (c : Nat), e = .returned (.tuple #[.slice A x.1.length c, .int .i64 x.2]) ∧ x.1.length ≤ c ∧ Kd.F (Kd.int .u8) w' (fun k => w.heap.size ≤ k) A x.1.length x.1 ∧ KeepBut w w' g none ∧ w'.os = w.os ∧ w'.tape = w.tape ∧ w'.output = w.output
theorem Took.none (w : World) (m : Nat) (g : Nat) (er : Int) : Took w (w.drewN m) g (.returned (.tuple #[.slice none 0 0, .int .i64 er])) ([], er) := by
  have hb := pw_below_drewN (Below.refl w.heap.size w) m
  exact ⟨_, _, rfl, Nat.le_refl _, Kd.F_nil _ _ _, KeepBut.of_below hb g _, hb.os, hb.tape, hb.output⟩
theorem Tp.drewN {w : World} {g : Nat} {ok : Nat → Prop} {l : List Int} (h : Tp w g ok l) (m : Nat) : Tp (w.drewN m) g ok l := h.below (pw_below_drewN (Below.refl _ _) m)
theorem Tp2.drewN {w : World} {g : Nat} {ok : Nat → Prop} {l : List Int} {u : Int} (h : Tp2 w g ok l u) (m : Nat) : Tp2 (w.drewN m) g ok l u := h.below (pw_below_drewN (Below.refl _ _) m)
set_option maxHeartbeats 2000000 in
set_option maxRecDepth 100000 in
theorem tape_Take.few (g : Nat) (l : List Int) (n : Int) (ok : Nat → Prop) (w : World) (hT : Tp w g ok l) (h0 : 0 ≤ n) (h1 : n ≤ 65536) (h2 : (l.length : Int) < n) :
    Calls Try.prog 42 #[.pointer (some ⟨g, 0, none⟩), .int .i64 n] w fun e w' => e = .returned (.tuple #[.slice none 0 0, .int .i64 7]) ∧ w' = w := by
  obtain ⟨A, c, hb, hlc, hF⟩ := hT
  have hcell := (blk_cell hb 0).trans rfl
  have hfz := blk_frozen hb 0
  clear hF hb
  have c1 : decide (n < 0) = false := decide_eq_false (by omega)
  have c2 : decide (65536 < n) = false := decide_eq_false (by omega)
  have c3 : decide ((l.length : Int) < n) = true := decide_eq_true (by omega)
  go_enter Try.func42, Try.ntmps42
  go_wp2
  go_ret2
  exact ⟨rfl, rfl⟩
set_option maxHeartbeats 2000000 in
set_option maxRecDepth 100000 in
theorem tape_Take2.few (g : Nat) (L : List Int) (u n : Int) (ok : Nat → Prop) (w : World) (hT : Tp2 w g ok L u) (hu : 0 ≤ u) (huL : u ≤ (L.length : Int)) (hL : L.length ≤ 65536) (h0 : 0 ≤ n) (h1 : n ≤ 65536) (h2 : (L.length : Int) - u < n) :
    Calls Try.prog 48 #[.pointer (some ⟨g, 0, none⟩), .int .i64 n] w fun e w' => e = .returned (.tuple #[.slice none 0 0, .int .i64 7]) ∧ Drawn0 w w' := by
  obtain ⟨A, c, hb, hlc, hF⟩ := hT
  have hcell := (blk_cell hb 0).trans rfl
  have hcell1 := (blk_cell hb 1).trans rfl
  clear hF hb
  have hsub : wrap64 ((L.length : Int) - u) = (L.length : Int) - u := by unfold wrap64; omega
  have c1 : decide (n < 0) = false := decide_eq_false (by omega)
  have c2 : decide (65536 < n) = false := decide_eq_false (by omega)
  have c3 : decide ((L.length : Int) - u < n) = true := decide_eq_true (by omega)
  have c4 : decide (wrap64 ((L.length : Int) - u) < n) = true := by rw [hsub]; exact c3
  go_enter Try.func48, Try.ntmps48
  go_wp2
  go_quiet (fail)
  go_wp2
  go_ret2
  exact ⟨rfl, ⟨_, rfl⟩⟩
theorem Tp2.mono {w : World} {g : Nat} {ok ok' : Nat → Prop} {l : List Int} {u : Int} (h : Tp2 w g ok l u) (hok : ∀ k, ok k → ok' k) : Tp2 w g ok' l u := by
  obtain ⟨A, c, h1, h2, h3⟩ := h
  exact ⟨A, c, h1, h2, Kd.F_mono h3 hok⟩
theorem Tp2.keep {w w1 : World} {g g1 : Nat} {ok : Nat → Prop} {l : List Int} {u : Int} (h : Tp2 w g ok l u) (hk : KeepBut w w1 g1 none) (hg : g ≠ g1) (hok : ∀ k, ok k → k ≠ g1) : Tp2 w1 g ok l u := by
  obtain ⟨A, c, h1, h2, h3⟩ := h
  exact ⟨A, c, (hk.2 g (blk_lt h1) hg (by simp)).trans h1, h2, Kd.F_step h3 (fun k hk2 hlt => hk.2 k hlt (hok k hk2) (by simp))⟩
theorem Tp.cell {w : World} {g : Nat} {ok : Nat → Prop} {l : List Int} (h : Tp w g ok l) : ∃ A c, w.cell? ⟨g, 0, none⟩ = some (.slice A l.length c) := by
  obtain ⟨A, c, hb, _⟩ := h
  exact ⟨A, c, (blk_cell hb 0).trans rfl⟩
theorem Tp2.cell {w : World} {g : Nat} {ok : Nat → Prop} {l : List Int} {u : Int} (h : Tp2 w g ok l u) : ∃ A c, w.cell? ⟨g, 0, none⟩ = some (.slice A l.length c) ∧ w.cell? ⟨g, 1, none⟩ = some (.int .i64 u) := by
  obtain ⟨A, c, hb, _⟩ := h
  exact ⟨A, c, (blk_cell hb 0).trans rfl, (blk_cell hb 1).trans rfl⟩
def nat_Read_ix.g : List Int → Nat → Int
  | [], _ => -1
  | c :: l, i => if c = 0 then nat_Read_ix.g l (i + 1) else (i : Int)
def nat_Read_ix.f (l : List Int) : Option Int := some (nat_Read_ix.g l 0)
def nat_right.f : List (List Int) → Option Bool
  | [] => some true
  | a :: l => (nat_Right.f a).bind fun b => if b = true then nat_right.f l else some false
end Go.Proofs.Ytlkinjhmgljapab.F
end
section
namespace Go.Proofs.Ytlkinjhmgljapab.F
open Go.RowKit Go.Proofs.YtlkinjhmgljapabW.PrintWords Go.Proofs.YtlkinjhmgljapabW.PrintLast Go.Proofs.YtlkinjhmgljapabW.PrintMore
attribute [local go_sem] max2_int min2_int max_two min_two max_three min_three max_four min_four
set_option linter.unusedVariables false
set_option linter.unusedSimpArgs false
def nat_Read.l0 : Nat → List Int → List Int → Int → Int → Option (List Int × Int)
 | 0, _, _, _, _ => none
 | k + 1, x0, x5, x23, x24 => if x24 < x23 then (if 0 ≤ (wrap64 (Int.tdiv x24 8)) then (if (wrap64 (Int.tdiv x24 8)) < (x5.length : Int) then (if 0 ≤ (wrap64 ((wrap64 ((x0.length : Int) - 1)) - x24)) then (if (wrap64 ((wrap64 ((x0.length : Int) - 1)) - x24)) < (x0.length : Int) then (if 0 ≤ (wrap64 (8 * (Int.tmod x24 8))) then (nat_Read.l0 k x0 (x5.set ((wrap64 (Int.tdiv x24 8)) : Int).toNat (Go.bits .or .u64 (rd x5 (wrap64 (Int.tdiv x24 8))) (shl .u64 (IntKind.u64.wrap (rd x0 (wrap64 ((wrap64 ((x0.length : Int) - 1)) - x24)))) (wrap64 (8 * (Int.tmod x24 8)))))) x23 (wrap64 (x24 + 1))) else (none)) else (none)) else (none)) else (none)) else (none)) else ((nat_told.f k x5).bind fun bt155 => (some (bt155.1, bt155.2)))
def nat_Read.f (k : Nat) (l0 : List Int) : Option (List Int × Int) := (nat_Read_ix.f l0).bind fun t147 => (if t147 < 0 then (some (([] : List Int), 0)) else (if 0 ≤ t147 then (if t147 ≤ (l0.length : Int) then (if ((l0.drop (t147 : Int).toNat).length : Int) > 512 then (some (([] : List Int), 4)) else (if 0 ≤ (wrap64 (Int.tdiv (wrap64 (((l0.drop (t147 : Int).toNat).length : Int) + 7)) 8)) then (if (wrap64 (Int.tdiv (wrap64 (((l0.drop (t147 : Int).toNat).length : Int) + 7)) 8) : Int).toNat ≤ 35184372088832 then (nat_Read.l0 k (l0.drop (t147 : Int).toNat) (List.replicate (wrap64 (Int.tdiv (wrap64 (((l0.drop (t147 : Int).toNat).length : Int) + 7)) 8) : Int).toNat 0) ((l0.drop (t147 : Int).toNat).length : Int) 0) else (none)) else (none))) else (none)) else (none)))
def nat_Cmp.f (k : Nat) (l0 : List Int) (l1 : List Int) : Option (Int) := (nat_right.f (([l0, l1] : List (List Int)))).bind fun t145 => (if t145 = true then ((nat_compare.f k l0 l1).bind fun t146 => (some t146)) else (some 0))
end Go.Proofs.Ytlkinjhmgljapab.F
end
section
namespace Go.Proofs.Ytlkinjhmgljapab.F
open Go.RowKit Go.Proofs.YtlkinjhmgljapabW.PrintWords Go.Proofs.YtlkinjhmgljapabW.PrintLast Go.Proofs.YtlkinjhmgljapabW.PrintMore
set_option linter.unusedVariables false
set_option linter.unusedSimpArgs false
def Rf (w : World) (ok : Nat → Prop) (A : Option Addr) (c : Nat) (l : List Int) : Prop := Kd.F (Kd.int .u64) w ok A l.length l ∧ l.length ≤ c
theorem Rf.below {w w1 : World} {ok : Nat → Prop} {A : Option Addr} {c : Nat} {l : List Int} (h : Rf w ok A c l) (hb : Below w.heap.size w w1) : Rf w1 ok A c l := ⟨Kd.F_below h.1 hb, h.2⟩
def Stay (w w' : World) (g : Nat) : Prop := KeepBut w w' g none ∧ w'.os = w.os ∧ w'.tape = w.tape ∧ w'.output = w.output
theorem Stay.refl (w : World) (g : Nat) : Stay w w g := ⟨KeepBut.refl _ _ _, rfl, rfl, rfl⟩
theorem Stay.of_below {w w1 : World} (h : Below w.heap.size w w1) (g : Nat) : Stay w w1 g := ⟨KeepBut.of_below h g none, h.os, h.tape, h.output⟩
theorem Stay.trans {w w1 w2 : World} {g : Nat} (h : Stay w w1 g) (k : Stay w1 w2 g) : Stay w w2 g := ⟨h.1.trans k.1 (.inl rfl), k.2.1.trans h.2.1, k.2.2.1.trans h.2.2.1, k.2.2.2.trans h.2.2.2⟩
theorem Stay.then {w w1 w2 : World} {g : Nat} (h : Stay w w1 g) (k : Below w1.heap.size w1 w2) : Stay w w2 g := h.trans (Stay.of_below k g)
theorem Stay.size {w w1 : World} {g : Nat} (h : Stay w w1 g) : w.heap.size ≤ w1.heap.size := h.1.1
theorem Stay.below {w w1 : World} {g : Nat} (h : Stay w w1 g) {w0 : World} (hb : Below w0.heap.size w0 w) (hg : w0.heap.size ≤ g) : Below w0.heap.size w0 w1 := keep_below hb h.1 h.2.1 h.2.2.1 h.2.2.2 hg
theorem Tp.bound {w : World} {g : Nat} {ok : Nat → Prop} {l : List Int} (h : Tp w g ok l) : Tp w g (fun k => ok k ∧ k < w.heap.size) l := by
  obtain ⟨A, c, h1, h2, h3⟩ := h
  exact ⟨A, c, h1, h2, Kd.F_bound h3⟩
def maskV (odd : Int) (x : List Int) : List Int := if odd > 0 then x.set 0 (Go.bits .and .u8 (x.getD 0 0) (IntKind.u8.wrap (IntKind.u8.wrap (2 ^ odd.toNat) - 1))) else x
def tape_draw.f (bits : Int) (n : List Int) : Nat → List Int → Option (List Int × Int × List Int)
  | 0, _ => none
  | k + 1, l => if (l.length : Int) < (bits + 7) / 8 then some ([], 7, l) else (nat_Read.f k (maskV (bits % 8) (l.take ((bits + 7) / 8).toNat))).bind fun x => (nat_Cmp.f k x.1 n).bind fun c => if c < 0 then some (x.1, 0, l.drop ((bits + 7) / 8).toNat) else tape_draw.f bits n k (l.drop ((bits + 7) / 8).toNat)
end Go.Proofs.Ytlkinjhmgljapab.F
end
section
namespace Go.Proofs.Ytlkinjhmgljapab.F
open Go.RowKit Go.Shelf
set_option linter.unusedVariables false
set_option linter.unusedSimpArgs false
attribute [local go_sem] Oper.semAt_some
def wheel (i : Nat) : Nat := if i = 0 then 2 else if i = 1 then 3 else 5 + 6 * ((i - 2) / 2) + 2 * ((i - 2) % 2)
theorem wheel_even (j : Nat) : wheel (2 + 2 * j) = 5 + 6 * j := by
  unfold wheel
  rw [if_neg (by omega), if_neg (by omega)]
  omega
theorem wheel_odd (j : Nat) : wheel (3 + 2 * j) = 7 + 6 * j := by
  unfold wheel
  rw [if_neg (by omega), if_neg (by omega)]
  omega
theorem wheel_mono {i j : Nat} (h : i < j) : wheel i < wheel j := by
  unfold wheel
  repeat' split
  all_goals omega
theorem wheel_le {i j : Nat} (h : i ≤ j) : wheel i ≤ wheel j := by
  rcases Nat.lt_or_eq_of_le h with h | rfl
  · exact Nat.le_of_lt (wheel_mono h)
  · exact Nat.le_refl _
theorem wheel_two (i : Nat) : 2 ≤ wheel i := wheel_le (i := 0) (Nat.zero_le i)
abbrev Wn := { y : Int // 2 ≤ y }
def wheelS (i : Nat) : Wn := ⟨(wheel i : Int), by have := wheel_two i; omega⟩
def uptoW (k : Nat) : List Wn := (List.range k).map wheelS
theorem uptoW_succ (k : Nat) : uptoW (k + 1) = uptoW k ++ [wheelS k] := by simp [uptoW, List.range_succ]
theorem uptoW_length (k : Nat) : (uptoW k).length = k := by simp [uptoW]
def Many (n m : Nat) : Prop := (∀ i, i < m → wheel i * wheel i ≤ n) ∧ n < wheel m * wheel m
theorem Many.lt {n m i : Nat} (h : Many n m) (hi : wheel i * wheel i ≤ n) : i < m := by
  rcases Nat.lt_or_ge i m with h1 | h1
  · exact h1
  · have := Nat.mul_le_mul (wheel_le h1) (wheel_le h1)
    have := h.2
    omega
theorem Many.ge {n m i : Nat} (h : Many n m) (hi : n < wheel i * wheel i) : m ≤ i := by
  rcases Nat.lt_or_ge i m with h1 | h1
  · have := h.1 i h1
    omega
  · exact h1
theorem wheel_ge (i : Nat) : i ≤ wheel i := by
  unfold wheel
  repeat' split
  all_goals omega
theorem many_ex (n : Nat) : ∃ m, Many n m := by
  have h : ∀ k : Nat, (∃ m, m ≤ k ∧ Many n m) ∨ (∀ i, i < k → wheel i * wheel i ≤ n) := by
    intro k
    induction k with
    | zero => exact Or.inr (fun i hi => absurd hi (Nat.not_lt_zero _))
    | succ k ih =>
      rcases ih with ⟨m, h1, h2⟩ | h1
      · exact Or.inl ⟨m, by omega, h2⟩
      · by_cases h2 : wheel k * wheel k ≤ n
        · refine Or.inr (fun i hi => ?_)
          by_cases e : i = k
          · subst e; exact h2
          · exact h1 i (by omega)
        · exact Or.inl ⟨k, by omega, h1, by omega⟩
  rcases h (n + 2) with ⟨m, _, h2⟩ | h1
  · exact ⟨m, h2⟩
  · have h2 := h1 (n + 1) (by omega)
    have h3 := wheel_ge (n + 1)
    have h4 := Nat.mul_le_mul h3 h3
    have : n + 1 ≤ (n + 1) * (n + 1) := Nat.le_mul_of_pos_left _ (by omega)
    omega
def KeepsCells (W W' : World) : Prop := ∀ (b : Nat) (cs : Array Value) (t : TypeId) (z : Nat × Nat), W.heap[b]? = some (.cells cs t z) → W'.heap[b]? = some (.cells cs t z)
theorem KeepsCells.refl (W : World) : KeepsCells W W := fun _ _ _ _ h => h
theorem KeepsCells.t {A B C : World} (h : KeepsCells A B) (k : KeepsCells B C) : KeepsCells A C := fun b cs t z hb => k b cs t z (h b cs t z hb)
theorem KeepsCells.b {w : World} (W : World) (l : Nat) (o o' : Obj) (_ : w.heap.size ≤ l) (h : W.heap[l]? = some o) (hc : o.isCells = false) (_ : o.isWalk = false) : KeepsCells W (W.putObj l o') := by
  intro b cs t z hb
  have hne : l ≠ b := by
    intro e
    subst e
    rw [h] at hb
    cases hb
    simp [Obj.isCells] at hc
  have := (grownBy_putObj' W l o').block b (Array.getElem?_eq_some_iff.1 hb).1 (by intro e; cases e; exact hne rfl)
  rw [this]; exact hb
theorem KeepsCells.of_alloc (W : World) (o : Obj) : KeepsCells W (W.alloc o) := fun b cs t z hb => (World.grownBy_alloc W o none).block b (Array.getElem?_eq_some_iff.1 hb).1 (by intro e; cases e) ▸ hb
theorem cell_of {W : World} {b i : Nat} {cs : Array Value} {t : TypeId} {z : Nat × Nat} {v : Value} (h : W.heap[b]? = some (.cells cs t z)) (hv : cs[i]? = some v) : W.cell? ⟨b, i, none⟩ = some v := by simp [World.cell?, h, hv]
set_option maxHeartbeats 2000000 in
set_option maxRecDepth 100000 in
theorem divisors.calls (F : Fence) (k : Nat) (hf : F.fn 84) (hro : F.round = none) (n : Int) (w : World) :
    CallsIn F k Try.prog 84 #[.int .u64 n] w fun e w' => e = .returned (.func (.func 99) #[] #[.pointer (some ⟨w.heap.size, 0, none⟩)]) ∧ w' = w.alloc (.cells #[.int .u64 n] 47) := by
  refine callsIn_of_wp Try.func84 rfl hf ?_ hro
  simp only [Try.ntmps84, List.size_toArray, List.length_cons, List.length_nil, Nat.reduceAdd, Nat.reduceSub, Array.replicate_succ, Array.replicate_zero, List.push_toArray, List.append_toArray, List.nil_append, List.cons_append]
  gi_wp2
  go_ret
  exact ⟨rfl, rfl⟩
end Go.Proofs.Ytlkinjhmgljapab.F
end
section
namespace Go.Proofs.Ytlkinjhmgljapab.F
open Go.RowKit Go.Shelf Go.Proofs.YtlkinjhmgljapabW.PrintWords
set_option linter.unusedVariables false
set_option linter.unusedSimpArgs false
attribute [local go_sem] Oper.semAt_some
set_option maxHeartbeats 2000000 in
set_option maxRecDepth 100000 in
theorem divisors1.calls (F : Fence) (n : Nat) (h6 : F.fn 99) (hro : F.round = none) (hn : 1 ≤ n) (l Bn : Nat) (x m : Nat) (hx : x < 1099511627776) (hm : Many x m) (J Jx : List Wn → World → Prop)
    (hY : ∀ pre y W, J pre W → pre.length < m → YieldAt F (n - 1) Try.prog l #[.int .u64 y.1] W fun e W' =>
      (e = .returned (.bool true) ∧ J (pre ++ [y]) W' ∧ KeepsCells W W') ∨ (e = .returned (.bool false) ∧ Jx (pre ++ [y]) W'))
    (W : World) (hJ : AbidesFrom W.heap.size J) (hBn : W.heap[Bn]? = some (.cells #[.int .u64 (x : Int)] 47 (0, 0))) (h0 : J [] W) :
    CallsIn F n Try.prog 99 #[.func (.yield l) #[] #[], .pointer (some ⟨Bn, 0, none⟩)] W fun e W' => (∃ v, e = .returned v) ∧
      ((∃ ys, ys = uptoW m ∧ J ys W') ∨ (∃ pre, (∃ k, k ≤ m ∧ pre = uptoW k) ∧ Jx pre W')) := by
  refine callsIn_of_wp Try.func99 rfl h6 ?_ hro
  simp only [Try.ntmps99, List.size_toArray, List.length_cons, List.length_nil, Nat.reduceAdd, Nat.reduceSub, Array.replicate_succ, Array.replicate_zero, List.push_toArray, List.append_toArray, List.nil_append, List.cons_append]
  have hlit : (W.alloc (.cells #[.int .u64 2, .int .u64 3] 47)).heap[W.heap.size]? = some (.cells #[.int .u64 2, .int .u64 3] 47 (0, 0)) := World.alloc_heap_new W _
  have hBn1 := KeepsCells.of_alloc W (.cells #[.int .u64 2, .int .u64 3] 47) Bn _ _ _ hBn
  have h01 : J [] (W.alloc (.cells #[.int .u64 2, .int .u64 3] 47)) := hJ _ _ _ none h0 (World.grownBy_alloc W _ none) (fun r e => by cases e)
  gi_wp2
  gi_loopw [8] (fun i wr => ∃ k : Nat, k ≤ 2 ∧ k ≤ m ∧ i = .int .i64 (k : Int) ∧ J (uptoW k) wr ∧ wr.heap[W.heap.size]? = some (.cells #[.int .u64 2, .int .u64 3] 47 (0, 0)) ∧ wr.heap[Bn]? = some (.cells #[.int .u64 (x : Int)] 47 (0, 0))) (fun i _ => 2 - (intOf i).toNat)
  case atStart => exact ⟨0, by omega, by omega, rfl, h01, hlit, hBn1⟩
  case round =>
    obtain ⟨k, hk, hkm, rfl, hJs, hl, hb⟩ := hrel
    have hn0 : wr.cell? ⟨Bn, 0, none⟩ = some (.int .u64 (x : Int)) := cell_of hb rfl
    have hc0 : wr.cell? ⟨W.heap.size, 0, none⟩ = some (.int .u64 2) := cell_of hl rfl
    have hc1 : wr.cell? ⟨W.heap.size, 1, none⟩ = some (.int .u64 3) := cell_of hl rfl
    obtain rfl | rfl | rfl : k = 0 ∨ k = 1 ∨ k = 2 := by omega
    · by_cases h4 : x < 4
      · have h4z : decide ((x : Int) < 4) = true := decide_eq_true (by omega)
        have hm0 : m = 0 := by have := hm.ge (i := 0) (by show x < 2 * 2; omega); omega
        subst hm0
        gi_wp2
        refine ⟨fun _ h => (by cases h), ?_⟩
        gi_wp2
        refine bodyPost_ret (results_none rfl _ _ _) rfl ?_
        exact ⟨⟨_, rfl⟩, .inl ⟨_, rfl, hJs⟩⟩
      · have h4z : decide ((x : Int) < 4) = false := decide_eq_false (by omega)
        have hm0 : 0 < m := hm.lt (i := 0) (by show 2 * 2 ≤ x; omega)
        obtain ⟨fn, tmps, assign, body, hy, hR⟩ := hY _ (wheelS 0) wr hJs (by rw [uptoW_length]; exact hm0)
        rw [show (wheelS 0).1 = 2 from rfl] at hy
        gi_wp2
        refine hR.mono ?_
        rintro e W3 (⟨rfl, hJ3, hk3⟩ | ⟨rfl, hJx3⟩)
        · gi_wp2
          go_roundw
          case rel => exact ⟨0 + 1, by omega, by omega, by first | rfl | simp, by rw [uptoW_succ]; exact hJ3, hk3 _ _ _ _ hl, hk3 _ _ _ _ hb⟩
          case measure => simp [intOf]
        · gi_wp2
          refine bodyPost_ret (results_none rfl _ _ _) rfl ?_
          exact ⟨⟨_, rfl⟩, .inr ⟨_, ⟨0 + 1, by omega, (uptoW_succ _).symm⟩, hJx3⟩⟩
    · by_cases h4 : x < 9
      · have h4z : decide ((x : Int) < 9) = true := decide_eq_true (by omega)
        have hm0 : m = 1 := by have := hm.ge (i := 1) (by show x < 3 * 3; omega); omega
        subst hm0
        gi_wp2
        refine ⟨fun _ h => (by cases h), ?_⟩
        gi_wp2
        refine bodyPost_ret (results_none rfl _ _ _) rfl ?_
        exact ⟨⟨_, rfl⟩, .inl ⟨_, rfl, hJs⟩⟩
      · have h4z : decide ((x : Int) < 9) = false := decide_eq_false (by omega)
        have hm0 : 1 < m := hm.lt (i := 1) (by show 3 * 3 ≤ x; omega)
        obtain ⟨fn, tmps, assign, body, hy, hR⟩ := hY _ (wheelS 1) wr hJs (by rw [uptoW_length]; exact hm0)
        rw [show (wheelS 1).1 = 3 from rfl] at hy
        gi_wp2
        refine hR.mono ?_
        rintro e W3 (⟨rfl, hJ3, hk3⟩ | ⟨rfl, hJx3⟩)
        · gi_wp2
          go_roundw
          case rel => exact ⟨1 + 1, by omega, by omega, by first | rfl | simp, by rw [uptoW_succ]; exact hJ3, hk3 _ _ _ _ hl, hk3 _ _ _ _ hb⟩
          case measure => simp [intOf]
        · gi_wp2
          refine bodyPost_ret (results_none rfl _ _ _) rfl ?_
          exact ⟨⟨_, rfl⟩, .inr ⟨_, ⟨1 + 1, by omega, (uptoW_succ _).symm⟩, hJx3⟩⟩
    · gi_wp2
      gi_loopw [5] (fun d wr => ∃ (D i k : Nat), d = .int .u64 (D : Int) ∧ D = 5 + 6 * i ∧ D ≤ 1048600 ∧ k ≤ m ∧ (k = 2 + 2 * i ∨ (k = m ∧ m + 1 = 2 + 2 * i)) ∧ J (uptoW k) wr ∧ wr.heap[Bn]? = some (.cells #[.int .u64 (x : Int)] 47 (0, 0))) (fun d _ => 2000000 - (intOf d).toNat)
      case atStart => exact ⟨5, 0, 2, rfl, rfl, by omega, hkm, Or.inl rfl, hJs, hb⟩
      case round =>
        clear hJs hl hb hn0 hc0 hc1
        obtain ⟨D, i, k, rfl, hD, hDm, hk2, hkk, hJs, hb⟩ := hrel
        have hn0 : wr.cell? ⟨Bn, 0, none⟩ = some (.int .u64 (x : Int)) := cell_of hb rfl
        have hw1 : wheel (2 + 2 * i) = D := by rw [wheel_even, hD]
        have hw2 : wheel (3 + 2 * i) = D + 2 := by rw [wheel_odd, hD]; omega
        have HD := Aside0.mk hD
        clear hD
        have hDD : D * D ≤ 1048600 * 1048600 := Nat.mul_le_mul hDm hDm
        have hDE : (D + 2) * (D + 2) ≤ 1048602 * 1048602 := Nat.mul_le_mul (by omega) (by omega)
        have c1 : ((D * D : Nat) : Int) = (D : Int) * (D : Int) := Int.natCast_mul D D
        have c2 : (((D + 2) * (D + 2) : Nat) : Int) = ((D : Int) + 2) * ((D : Int) + 2) := by simp
        have e1 : IntKind.u64.wrap ((D : Int) * (D : Int)) = (D : Int) * (D : Int) := by
          simp [IntKind.wrap, IntKind.bits, IntKind.signed]; omega
        have e2 : IntKind.u64.wrap ((D : Int) + 2) = (D : Int) + 2 := by
          simp [IntKind.wrap, IntKind.bits, IntKind.signed]; omega
        have e3 : IntKind.u64.wrap (((D : Int) + 2) * ((D : Int) + 2)) = ((D : Int) + 2) * ((D : Int) + 2) := by
          simp [IntKind.wrap, IntKind.bits, IntKind.signed]; omega
        have e4 : IntKind.u64.wrap ((D : Int) + 6) = (D : Int) + 6 := by
          simp [IntKind.wrap, IntKind.bits, IntKind.signed]; omega
        by_cases hd : D * D ≤ x
        · have hdz : decide ((D : Int) * (D : Int) ≤ (x : Int)) = true := decide_eq_true (by omega)
          have hlt : 2 + 2 * i < m := hm.lt (by rw [hw1]; exact hd)
          obtain rfl : k = 2 + 2 * i := by omega
          have hDs : D < 1048576 := by
            rcases Nat.lt_or_ge D 1048576 with h | h
            · exact h
            · have := Nat.mul_le_mul h h
              omega
          obtain ⟨fn, tmps, assign, body, hy, hR⟩ := hY _ (wheelS (2 + 2 * i)) wr hJs (by rw [uptoW_length]; exact hlt)
          rw [show (wheelS (2 + 2 * i)).1 = (D : Int) from by rw [← hw1]; rfl] at hy
          gi_wp2
          refine hR.mono ?_
          rintro e W3 (⟨rfl, hJ3, hk3⟩ | ⟨rfl, hJx3⟩)
          · have hb3 := hk3 _ _ _ _ hb
            have hn3 : W3.cell? ⟨Bn, 0, none⟩ = some (.int .u64 (x : Int)) := cell_of hb3 rfl
            have hJ3' : J (uptoW (3 + 2 * i)) W3 := by
              rw [show 3 + 2 * i = 2 + 2 * i + 1 from by omega, uptoW_succ]; exact hJ3
            clear hn0 hy hR
            by_cases hd2 : (D + 2) * (D + 2) ≤ x
            · have hdz2 : decide (((D : Int) + 2) * ((D : Int) + 2) ≤ (x : Int)) = true := decide_eq_true (by omega)
              have hlt2 : 3 + 2 * i < m := hm.lt (by rw [hw2]; exact hd2)
              obtain ⟨fn2, tmps2, assign2, body2, hy2, hR2⟩ := hY _ (wheelS (3 + 2 * i)) W3 hJ3' (by rw [uptoW_length]; exact hlt2)
              rw [show (wheelS (3 + 2 * i)).1 = (D : Int) + 2 from by show ((wheel (3 + 2 * i) : Nat) : Int) = _; rw [hw2]; simp] at hy2
              gi_wp2
              refine hR2.mono ?_
              rintro e W4 (⟨rfl, hJ4, hk4⟩ | ⟨rfl, hJx4⟩)
              · gi_wp2
                refine ⟨?_, ?measure⟩
                iterate 28 (apply Exists.intro)
                refine ⟨?rel, rfl⟩
                case rel => exact ⟨D + 6, i + 1, 4 + 2 * i, by simp, by have := HD.out; omega, by omega, by omega, Or.inl (by omega), by rw [show 4 + 2 * i = 3 + 2 * i + 1 from by omega, uptoW_succ]; exact hJ4, hk4 _ _ _ _ hb3⟩
                case measure => simp [intOf]; omega
              · gi_wp2
                refine bodyPost_ret (results_none rfl _ _ _) rfl ?_
                exact ⟨⟨_, rfl⟩, .inr ⟨_, ⟨3 + 2 * i + 1, by omega, by rw [uptoW_succ]⟩, hJx4⟩⟩
            · have hdz2 : decide (((D : Int) + 2) * ((D : Int) + 2) ≤ (x : Int)) = false := decide_eq_false (by omega)
              have hge2 : m ≤ 3 + 2 * i := hm.ge (by rw [hw2]; omega)
              gi_wp2
              refine ⟨fun _ h => (by cases h), ?_⟩
              gi_wp2
              refine ⟨?_, ?measure⟩
              iterate 28 (apply Exists.intro)
              refine ⟨?rel, rfl⟩
              case rel => exact ⟨D + 6, i + 1, 3 + 2 * i, by simp, by have := HD.out; omega, by omega, by omega, Or.inr ⟨by omega, by omega⟩, hJ3', hb3⟩
              case measure => simp [intOf]; omega
          · gi_wp2
            · exfalso
              have hq_ : ∃ b, some undef = some (Value.bool b) := ⟨_, by assumption⟩
              obtain ⟨b, hq_⟩ := hq_
              simp [undef] at hq_
            · exfalso
              have hq_ : ∃ b, some undef = some (Value.bool b) := ⟨_, by assumption⟩
              obtain ⟨b, hq_⟩ := hq_
              simp [undef] at hq_
            refine ⟨fun _ h => (by cases h), ?_⟩
            gi_wp2
            refine bodyPost_ret (results_none rfl _ _ _) rfl ?_
            exact ⟨⟨_, rfl⟩, .inr ⟨_, ⟨2 + 2 * i + 1, by omega, by rw [uptoW_succ]⟩, hJx3⟩⟩
        · have hdz : decide ((D : Int) * (D : Int) ≤ (x : Int)) = false := decide_eq_false (by omega)
          have hge : m ≤ 2 + 2 * i := hm.ge (by rw [hw1]; omega)
          obtain rfl : k = m := by omega
          gi_wp2
          go_end0
          first | exact ⟨⟨_, rfl⟩, .inl ⟨_, rfl, hJs⟩⟩ | exact ⟨⟨_, rfl⟩, .inl hJs⟩ | exact .inl hJs
def leastV (x : Nat) : Nat := ((List.range (x + 1)).find? fun d => decide (2 ≤ d ∧ d * d ≤ x ∧ x % d = 0)).getD x
theorem find_range {p : Nat → Bool} (k : Nat) : ∀ n : Nat, k < n → p k = true → (∀ j, j < k → p j = false) → (List.range n).find? p = some k := by
  intro n
  induction n with
  | zero => intro h; omega
  | succ n ih =>
    intro h hp hn
    rw [List.range_succ, List.find?_append]
    by_cases e : k = n
    · subst e
      have : (List.range k).find? p = none := by
        rw [List.find?_eq_none]
        intro j hj
        have := hn j (List.mem_range.1 hj)
        simp [this]
      rw [this]
      simp [hp]
    · rw [ih (by omega) hp hn]
      rfl
theorem leastV_none {x : Nat} (h : ∀ d, 2 ≤ d → d * d ≤ x → x % d ≠ 0) : leastV x = x := by
  unfold leastV
  have : (List.range (x + 1)).find? (fun d => decide (2 ≤ d ∧ d * d ≤ x ∧ x % d = 0)) = none := by
    rw [List.find?_eq_none]
    intro d _
    simp only [decide_eq_true_eq]
    rintro ⟨h1, h2, h3⟩
    exact h d h1 h2 h3
  rw [this]
  rfl
theorem leastV_some {x d : Nat} (h1 : 2 ≤ d) (h2 : d * d ≤ x) (h3 : x % d = 0) (h : ∀ j, 2 ≤ j → j < d → x % j ≠ 0) : leastV x = d := by
  unfold leastV
  have hdx : d ≤ d * d := Nat.le_mul_of_pos_left d (by omega)
  rw [find_range d (x + 1) (by omega) (by simp only [decide_eq_true_eq]; exact ⟨h1, h2, h3⟩) (fun j hj => ?_)]
  · rfl
  · simp only [decide_eq_false_iff_not]
    rintro ⟨a1, a2, a3⟩
    exact h j a1 hj a3
theorem wheel_div {x d : Nat} (h1 : 2 ≤ d) (h3 : x % d = 0) : ∃ i, wheel i ≤ d ∧ x % wheel i = 0 := by
  have hd : d ∣ x := Nat.dvd_of_mod_eq_zero h3
  by_cases e2 : d % 2 = 0
  · refine ⟨0, h1, ?_⟩
    exact Nat.mod_eq_zero_of_dvd (Nat.dvd_trans (Nat.dvd_of_mod_eq_zero e2) hd)
  · by_cases e3 : d % 3 = 0
    · refine ⟨1, ?_, ?_⟩
      · show 3 ≤ d
        omega
      · exact Nat.mod_eq_zero_of_dvd (Nat.dvd_trans (Nat.dvd_of_mod_eq_zero e3) hd)
    · have h6 : d % 6 = 1 ∨ d % 6 = 5 := by omega
      rcases h6 with h6 | h6
      · refine ⟨3 + 2 * (d / 6 - 1), ?_, ?_⟩ <;> rw [wheel_odd, show 7 + 6 * (d / 6 - 1) = d from by omega]
        · exact Nat.le_refl _
        · exact h3
      · refine ⟨2 + 2 * (d / 6), ?_, ?_⟩ <;> rw [wheel_even, show 5 + 6 * (d / 6) = d from by omega]
        · exact Nat.le_refl _
        · exact h3
theorem least_all {x m : Nat} (hm : Many x m) (h : ∀ i, i < m → x % wheel i ≠ 0) : leastV x = x := by
  refine leastV_none (fun d h1 h2 h3 => ?_)
  obtain ⟨i, hi, hx⟩ := wheel_div h1 h3
  have h4 := Nat.mul_le_mul hi hi
  exact h i (hm.lt (by omega)) hx
theorem least_at {x m k : Nat} (hm : Many x m) (hk : k < m) (h : ∀ i, i < k → x % wheel i ≠ 0) (hx : x % wheel k = 0) : leastV x = wheel k := by
  refine leastV_some (wheel_two k) (hm.1 k hk) hx (fun j h1 h2 h3 => ?_)
  obtain ⟨i, hi, hx⟩ := wheel_div h1 h3
  refine h i ?_ hx
  rcases Nat.lt_or_ge i k with h | h
  · exact h
  · have := wheel_le h
    omega
theorem cell_of_box_l {W : World} {B : Nat} {v : Value} {t : TypeId} (h : W.heap[B]? = some (.cells #[v] t (0, 0))) : W.cell? ⟨B, 0, none⟩ = some v ∧ W.frozen? ⟨B, 0, none⟩ = false := by
  constructor <;> simp [World.cell?, World.frozen?, h]
theorem cell_new_l (W : World) (v : Value) (t : TypeId) : (W.alloc (.cells #[v] t)).cell? ⟨W.heap.size, 0, none⟩ = some v ∧ (W.alloc (.cells #[v] t)).frozen? ⟨W.heap.size, 0, none⟩ = false :=
  cell_of_box_l (World.alloc_heap_new W _)
theorem cell_alloc_l {W : World} {a : Addr} {v : Value} (o : Obj) (h : W.cell? a = some v) : (W.alloc o).cell? a = some v := cell_kept h (World.grownBy_alloc W o none) (fun r e => by cases e)
theorem frozen_alloc_l {W : World} {a : Addr} {v : Value} (o : Obj) (h : W.cell? a = some v) (hf : W.frozen? a = false) : (W.alloc o).frozen? a = false := (frozen_kept h (World.grownBy_alloc W o none) (fun r e => by cases e)).trans hf
theorem divisors_stops (F : Fence) (n : Nat) (h6 : F.fn 99) (hro : F.round = none) (hn : 1 ≤ n) (Bn : Nat) (x m : Nat) (hx : x < 1099511627776) (hm : Many x m) (w : World) (hc : w.heap[Bn]? = some (.cells #[.int .u64 (x : Int)] 47 (0, 0))) :
    SeqStopsK F n Try.prog 99 #[.pointer (some ⟨Bn, 0, none⟩)] (fun y : Wn => #[Value.int .u64 y.1]) KeepsCells (fun ys => ys = uptoW m) (fun pre => ∃ k, k ≤ m ∧ pre = uptoW k) m w := fun l J Jx W hW hJ _ hY h0 =>
  divisors1.calls F n h6 hro hn l Bn x m hx hm J Jx hY W hJ ((hW.block Bn (Array.getElem?_eq_some_iff.1 hc).1).trans hc) h0
set_option maxRecDepth 100000 in
set_option maxHeartbeats 2000000 in
theorem least_in (F : Fence) (n : Nat) (h4 : F.fn 57) (h5 : F.fn 84) (h6 : F.fn 99) (hro : F.round = none) (hn : 3 ≤ n) (x : Nat) (hx : x < 1099511627776) (w : World) :
    CallsIn F n Try.prog 57 #[.int .u64 (x : Int)] w fun e W' => e = .returned (.int .u64 ((leastV x : Nat) : Int)) ∧ Below w.heap.size w W' := by
  have h1 : 1 ≤ n := by omega
  obtain ⟨m, hm⟩ := many_ex x
  refine callsIn_of_wp_marks Try.func57 rfl h4 ?_ hro
  simp only [Try.ntmps57, List.size_toArray, List.length_cons, List.length_nil, Nat.reduceAdd, Nat.reduceSub, Array.replicate_succ, Array.replicate_zero, List.push_toArray, List.append_toArray, List.nil_append, List.cons_append]
  have c0 := cell_new_l w (.int .u64 (x : Int)) 47
  have hq0 := cell_alloc_l (.cells #[.int .u64 0] 47) c0.1
  gi_wp2_with (gi_at_call 84; refine (divisors.calls F (n - 1) h5 hro _ _).mono ?_; rintro e w' ⟨rfl, rfl⟩)
  clear hq0
  have c1 := cell_new_l (w.alloc (.cells #[.int .u64 (x : Int)] 47)) (.int .u64 0) 47
  have c2 := World.alloc_heap_new ((w.alloc (.cells #[.int .u64 (x : Int)] 47)).alloc (.cells #[.int .u64 0] 47)) (.cells #[.int .u64 (x : Int)] 47)
  simp only [World.size_alloc] at c1 c2
  have hB0 : Below w.heap.size w (((w.alloc (.cells #[.int .u64 (x : Int)] 47)).alloc (.cells #[.int .u64 0] 47)).alloc (.cells #[.int .u64 (x : Int)] 47)) := (((Below.refl _ w).alloc (Nat.le_refl _) _).alloc (by simp) _).alloc (by simp; omega) _
  refine wpIn_rangeFunc_ownF hro h1 (gf := 99) (lb := #[.pointer (some ⟨w.heap.size + 1 + 1, 0, none⟩)]) rfl h6 (enters_of Try.func99 (by kernel_rfl) rfl)
    (divisors_stops F (n - 1) h6 hro (by omega) (w.heap.size + 1 + 1) x m hx hm _ c2) KeepsCells.t KeepsCells.b (Below.refl _ _) (fun _ => rfl)
    (fun pre W => ((∀ y ∈ pre, (x : Int) % y.1 ≠ 0) ∧ W.cell? ⟨w.heap.size, 0, none⟩ = some (.int .u64 (x : Int)) ∧ W.cell? ⟨w.heap.size + 1, 0, none⟩ = some (.int .u64 0) ∧ W.frozen? ⟨w.heap.size + 1, 0, none⟩ = false) ∧ Below w.heap.size w W)
    (fun c pre W => (c = .ret ∧ ∃ (p0 : List Wn) (y : Wn), pre = p0 ++ [y] ∧ (∀ z ∈ p0, (x : Int) % z.1 ≠ 0) ∧ (x : Int) % y.1 = 0 ∧ W.cell? ⟨w.heap.size + 1, 0, none⟩ = some (.int .u64 y.1)) ∧ Below w.heap.size w W)
    (OwnFrom.and (Own.from (fun s A B row hs hg hr => ⟨hs.1, cell_kept hs.2.1 hg hr, cell_kept hs.2.2.1 hg hr, (frozen_kept hs.2.2.1 hg hr).trans hs.2.2.2⟩) _) (ownFrom_below (Nat.le_refl _) (by simp; omega)))
    (fun c => OwnFrom.and (Own.from (fun s A B row hs hg hr => by obtain ⟨q1, p0, y, q2, q3, q4, q5⟩ := hs; exact ⟨q1, p0, y, q2, q3, q4, cell_kept q5 hg hr⟩) _) (ownFrom_below (Nat.le_refl _) (by simp; omega)))
    ⟨⟨by simp, cell_alloc_l _ (cell_alloc_l _ c0.1), cell_alloc_l _ c1.1, frozen_alloc_l _ c1.1 c1.2⟩, hB0⟩
    (fun y => { tmps := #[.int .u64 (x : Int), .pointer (some ⟨w.heap.size, 0, none⟩), .pointer (some ⟨w.heap.size + 1, 0, none⟩), .int .u64 y.1, .int .u64 (x : Int), .func (.func 99) #[] #[.pointer (some ⟨w.heap.size + 1 + 1, 0, none⟩)], .int .u64 y.1, undef, undef, undef, undef, undef, undef], defers := [] }) ?assign ?body ?done ?stop
  case assign =>
    intro l y W K hK
    gi_wp2
    exact hK
  case body =>
    rintro l pre ⟨y, hy2⟩ W ⟨⟨hp, hcw, hcr, hfr⟩, hB⟩ _
    have hy0 : (y == 0) = false := by simp; omega
    have hy1 : ¬ y = 0 := by omega
    gi_wp2
    · rename_i hxy
      have hxy' : (x : Int) % y = 0 := eq_of_beq hxy
      exact ⟨KeepsOthers.setCell _ _ _, ⟨rfl, pre, ⟨y, hy2⟩, rfl, hp, hxy', World.cell?_setCell_same' _ _ _ (by rw [hcr]; rfl)⟩, hB.setCell (p := ⟨w.heap.size + 1, 0, none⟩) (by simp) _⟩
    · rename_i hxy
      have hxy' : (x : Int) % y ≠ 0 := by simpa using hxy
      exact ⟨KeepsOthers.refl _, KeepsCells.refl _, ⟨fun z hz => (List.mem_append.1 hz).elim (hp z) (fun e => by simp at e; subst e; exact hxy'), hcw, hcr, hfr⟩, hB⟩
  case done =>
    rintro D ys W hD rfl ⟨⟨hne, hcw, hcr, hfr⟩, hB⟩ hK
    have hleast : leastV x = x := least_all hm (fun i hi h => hne (wheelS i) (List.mem_map.2 ⟨i, List.mem_range.2 hi, rfl⟩) (by
      show (x : Int) % ((wheel i : Nat) : Int) = 0
      omega))
    gi_wp2
    rw [hleast]
    have hK' := (KeepsOthers.setCell W ⟨w.heap.size + 1, 0, none⟩ (.int .u64 (x : Int))).same D _ hK rfl
    refine ⟨by simp, .inl ⟨_, _, rfl, run_takeDeferred hK', ?_⟩⟩
    have hc5 := cell_kept (World.cell?_setCell_same' W ⟨w.heap.size + 1, 0, none⟩ (.int .u64 (x : Int)) (by rw [hcr]; rfl)) (grownBy_putObj' _ D (.deferred none)) (fun r e => by cases e; exact ⟨_, hK', rfl⟩)
    refine ⟨.int .u64 (x : Int), ?_, rfl, (hB.setCell (p := ⟨w.heap.size + 1, 0, none⟩) (by simp) _).trans (belowK_b (w := w) (Nat.le_refl _) _ D _ _ (by simp at hD; omega) hK' rfl rfl)⟩
    simp [results, Try.f57, go_sem, hc5]
  case stop =>
    rintro D c pre W hD ⟨k, hkm, hpre⟩ ⟨⟨rfl, p0, y, hpy, hp0, hy, hcr⟩, hB⟩ hK
    have hk : ∃ k', k = k' + 1 ∧ p0 = uptoW k' ∧ y = wheelS k' := by
      cases k with
      | zero =>
        rw [hpre] at hpy
        have := congrArg List.length hpy
        simp [uptoW] at this
      | succ k' =>
        rw [hpre, uptoW_succ] at hpy
        obtain ⟨e1, e2⟩ := List.append_inj' hpy rfl
        exact ⟨k', rfl, e1.symm, by simpa using e2.symm⟩
    obtain ⟨k', rfl, rfl, rfl⟩ := hk
    have hleast : leastV x = wheel k' := least_at hm (by omega) (fun i hi h => hp0 (wheelS i) (List.mem_map.2 ⟨i, List.mem_range.2 hi, rfl⟩) (by
      show (x : Int) % ((wheel i : Nat) : Int) = 0
      omega)) (by
      have : (x : Int) % ((wheel k' : Nat) : Int) = 0 := hy
      omega)
    gi_wp2
    rw [hleast]
    refine ⟨by simp, .inl ⟨_, _, rfl, run_takeDeferred hK, ?_⟩⟩
    have hc5 := cell_kept hcr (grownBy_putObj' _ D (.deferred none)) (fun r e => by cases e; exact ⟨_, hK, rfl⟩)
    refine ⟨.int .u64 ((wheel k' : Nat) : Int), ?_, rfl, hB.trans (belowK_b (w := w) (Nat.le_refl _) W D _ _ (by simp at hD; omega) hK rfl rfl)⟩
    have hc6 : (W.putObj D (.deferred none)).cell? ⟨w.heap.size + 1, 0, none⟩ = some (.int .u64 ((wheel k' : Nat) : Int)) := hc5
    simp [results, Try.f57, go_sem, hc6]
def prime_least.f (x : Int) : Option Int := if 0 ≤ x ∧ x < 1099511627776 then some ((leastV x.toNat : Nat) : Int) else none
theorem prime_least.calls (a0 : Int) (r : Int) (w : World) (h : prime_least.f a0 = some r) :
    Calls Try.prog 57 #[.int .u64 a0] w fun e w' => e = .returned (.int .u64 r) ∧ Below w.heap.size w w' := by
  unfold prime_least.f at h
  by_cases hx : 0 ≤ a0 ∧ a0 < 1099511627776
  · rw [if_pos hx] at h
    obtain rfl := Option.some.inj h
    have e : a0 = ((a0.toNat : Nat) : Int) := by omega
    have hh := least_in .wide 3 trivial trivial trivial rfl (Nat.le_refl _) a0.toNat (by omega) w
    rw [← e] at hh
    exact (callsIn_wide (n := 3)).1 hh
  · rw [if_neg hx] at h
    cases h
end Go.Proofs.Ytlkinjhmgljapab.F
end
section
namespace Go.Proofs.Ytlkinjhmgljapab.F
open Go.RowKit Go.Proofs.YtlkinjhmgljapabW.PrintWords Go.Proofs.YtlkinjhmgljapabW.PrintLast Go.Proofs.YtlkinjhmgljapabW.PrintMore
set_option linter.unusedVariables false
set_option linter.unusedSimpArgs false
def accV (x : Int) : List Int → Int
  | [] => x
  | c :: l => accV (Go.bits .or .u64 (IntKind.u64.wrap (x * 256)) (IntKind.u64.wrap c)) l
def oddV (z x : Int) : Int := Go.bits .or .u64 (Go.bits .or .u64 (Go.bits .and .u64 x (IntKind.u64.wrap (IntKind.u64.wrap (2 ^ (z.toNat - 1)) - 1))) (IntKind.u64.wrap (2 ^ (z.toNat - 1)))) 1
def search.f (z : Int) : Nat → List Int → Option (Int × Int × List Int)
  | 0, l => some (0, 8, l)
  | t + 1, l => if (l.length : Int) < (z + 7) / 8 then some (0, 7, l) else (prime_least.f (oddV z (accV 0 (l.take ((z + 7) / 8).toNat)))).bind fun q => if q = oddV z (accV 0 (l.take ((z + 7) / 8).toNat)) then some (q, 0, l.drop ((z + 7) / 8).toNat) else search.f z t (l.drop ((z + 7) / 8).toNat)
set_option maxHeartbeats 8000000 in
set_option maxRecDepth 100000 in
theorem search.good (g : Nat) (l : List Int) (z : Int) (n : Nat) (ok : Nat → Prop) (x : Int × Int × List Int) (w : World) (hT : Tp w g ok l) (hg : ¬ ok g) (hz0 : 8 ≤ z) (hz1 : z ≤ 40) (hn0 : 1 ≤ n) (hn1 : n ≤ 10000) (h : search.f z n l = some x) :
    Calls Try.prog 22 #[.pointer (some ⟨g, 0, none⟩), .int .i64 z, .int .i64 (n : Int)] w fun e w' => e = .returned (.tuple #[.int .u64 x.1, .int .i64 x.2.1]) ∧ Tp w' g ok x.2.2 ∧ Stay w w' g := by
  have HT := Aside0.mk hT
  have HH := Aside0.mk h
  have e1 : decide (z < 8) = false := decide_eq_false (by omega)
  have e2 : decide (40 < z) = false := decide_eq_false (by omega)
  have e3 : decide ((n : Int) < 1) = false := decide_eq_false (by omega)
  have e4 : decide ((10000 : Int) < (n : Int)) = false := decide_eq_false (by omega)
  have e5 : (0 : Int) ≤ z - 1 := by omega
  have hm0 : 0 ≤ (z + 7) / 8 := by omega
  have HZ := Aside0.mk (And.intro hz0 hz1)
  clear hT h
  go_enter Try.func22, Try.ntmps22
  go_wp2
  go_loopg [36] n (fun gg v36 wr => ∃ (i : Nat) (l1 : List Int), v36 = .int .i64 (i : Int) ∧ i ≤ n ∧ n - i ≤ gg ∧ Aside0 (search.f z (n - i) l1 = some x) ∧ Aside0 (Tp wr g ok l1) ∧ Aside0 (Stay w wr g))
  case atStart => exact ⟨0, l, rfl, by omega, by omega, HH, HT, ⟨Stay.refl _ _⟩⟩
  case round =>
    obtain ⟨i, l1, rfl, hi, hgg, HK, HT1, HS⟩ := hrel
    by_cases hlt : i < n
    · have hltz : (i : Int) < (n : Int) := by omega
      have hK := HK.out
      rw [show n - i = (n - (i + 1)) + 1 from by omega, search.f] at hK
      by_cases hfew : (l1.length : Int) < (z + 7) / 8
      · rw [if_pos hfew] at hK
        obtain rfl := Option.some.inj hK
        have HFEW := Aside0.mk hfew
        clear HK hfew hK
        go_wp2_with (go_at_call 42; refine (tape_Take.few g l1 _ ok _ HT1.out (by omega) (by omega) HFEW.out).mono ?_; rintro e w' ⟨rfl, rfl⟩)
        go_ret2
        exact ⟨rfl, HT1.out, HS.out⟩
      · rw [if_neg hfew] at hK
        have HFEW := Aside0.mk hfew
        have HLEN := Aside0.mk (show (l1.take ((z + 7) / 8).toNat).length = ((z + 7) / 8).toNat from by rw [List.length_take]; omega)
        generalize hX : l1.take ((z + 7) / 8).toNat = X at hK HLEN
        have HXX := Aside0.mk hX
        obtain ⟨y, hy⟩ : ∃ y, y = oddV z (accV 0 X) := ⟨_, rfl⟩
        rw [← hy] at hK
        have NY := Aside0.mk hy
        obtain ⟨q, hq, hK⟩ := Option.bind_eq_some_iff.mp hK
        have HQ := Aside0.mk hq
        have HK2 := Aside0.mk hK
        clear HK hfew hX hy hq hK
        go_wp2_with (go_at_call 42; refine (tape_Take.calls g l1 ((z + 7) / 8) (fun k => ok k ∧ k < wr.heap.size) _ HT1.out.bound (fun h => hg h.1) (by omega) (by omega) (by have := HFEW.out; omega)).mono ?_; rintro e w2 ⟨v, rfl, hR, hT2, hk1, hk2, hk3, hk4⟩; rw [HXX.out] at hR; obtain ⟨Av, cv, ev⟩ := Kd.R_slice hR; subst ev; have HV := Aside0.mk (Kd.R_reads' hR).2.2; have HT2 := Aside0.mk (hT2.mono (fun k hk => hk.1)); have HS2 := Aside0.mk (HS.out.trans ⟨hk1, hk2, hk3, hk4⟩); clear hR hT2 hk1 hk2 hk3 hk4)
        have HXB := Aside0.mk (show X.length ≤ 5 from by have := HLEN.out; omega)
        go_loopg [11, 51] X.length (fun gg v11 v51 wq => ∃ (j : Nat) (a : Int), v11 = .int .u64 a ∧ v51 = .int .i64 (j : Int) ∧ j ≤ X.length ∧ X.length - j ≤ gg ∧ Aside0 (accV a (X.drop j) = accV 0 X) ∧ wq = w2)
        case atStart => exact ⟨0, 0, rfl, rfl, by omega, by omega, ⟨by rw [List.drop_zero]⟩, rfl⟩
        case round =>
          obtain ⟨j, a, rfl, rfl, hj, hgg2, HA, rfl⟩ := hrel
          by_cases hjl : j < X.length
          · have hjz : (j : Int) < (X.length : Int) := by omega
            have hj0 : (0 : Int) ≤ (j : Int) := by omega
            obtain ⟨ad, hA, hx⟩ := Kd.at_int HV.out (j : Int) hj0 hjz
            subst hA
            simp only [Go.IntWalk.toNatUp] at hx
            have hrd : rd X (j : Int) = X.getD j 0 := rfl
            have hdr : X.drop j = X.getD j 0 :: X.drop (j + 1) := by
              rw [List.drop_eq_getElem_cons hjl, List.getD_eq_getElem?_getD, List.getElem?_eq_getElem hjl]
              rfl
            have hA2 := HA.out
            rw [hdr, accV] at hA2
            rw [hrd] at hx
            generalize X.getD j 0 = c at hx hA2
            have HA3 := Aside0.mk hA2
            clear hrd hdr hA2 HA
            go_wp2
            go_roundg (X.length - (j + 1))
            case measure => omega
            case rel => exact ⟨j + 1, _, rfl, by have h5 := HXB.out; congr 1; unfold wrap64; omega, by omega, by omega, HA3, rfl⟩
          · have hjz : ¬ (j : Int) < (X.length : Int) := by omega
            have HA2 := Aside0.mk (show a = accV 0 X from by have h := HA.out; rw [List.drop_of_length_le (by omega)] at h; exact h)
            clear HA
            have HY2 := Aside0.mk (show Go.bits .or .u64 (Go.bits .or .u64 (Go.bits .and .u64 a (IntKind.u64.wrap (IntKind.u64.wrap (2 ^ (z.toNat - 1)) - 1))) (IntKind.u64.wrap (2 ^ (z.toNat - 1)))) 1 = y from by rw [NY.out, HA2.out]; rfl)
            by_cases hqy : q = y
            · subst hqy
              have hK3 := HK2.out
              rw [if_pos rfl] at hK3
              obtain rfl := Option.some.inj hK3
              clear HK2 hK3
              go_wp2_with (go_at_call 57; rw [HY2.out]; refine (prime_least.calls _ _ _ HQ.out).mono ?_; rintro e w3 ⟨rfl, hb⟩; have HT3 := Aside0.mk (HT2.out.below hb); have HS3 := Aside0.mk (HS2.out.then hb); clear hb)
              go_ret2
              exact ⟨rfl, HT3.out, HS3.out⟩
            · have hK3 := HK2.out
              rw [if_neg hqy] at hK3
              have HK4 := Aside0.mk hK3
              have hqb : (q == y) = false := beq_eq_false_iff_ne.mpr hqy
              clear HK2 hK3 hqy
              go_wp2_with (go_at_call 57; rw [HY2.out]; refine (prime_least.calls _ _ _ HQ.out).mono ?_; rintro e w3 ⟨rfl, hb⟩; have HT3 := Aside0.mk (HT2.out.below hb); have HS3 := Aside0.mk (HS2.out.then hb); clear hb)
              go_roundg (n - (i + 1))
              case measure => omega
              case rel => exact ⟨i + 1, _, by go_num, by omega, by omega, HK4, HT3, HS3⟩
    · have hltz : ¬ (i : Int) < (n : Int) := by omega
      obtain rfl : i = n := by omega
      have hK := HK.out
      rw [Nat.sub_self] at hK
      obtain rfl := Option.some.inj hK
      clear HK hK
      go_wp2
      go_ret2
      exact ⟨rfl, HT1.out, HS.out⟩
set_option maxHeartbeats 8000000 in
set_option maxRecDepth 100000 in
theorem search.bad (p : Option Addr) (z n : Int) (w : World) (h : p = none ∨ z < 8 ∨ 40 < z ∨ n < 1 ∨ 10000 < n) :
    Calls Try.prog 22 #[.pointer p, .int .i64 z, .int .i64 n] w fun e w' => e = .returned (.tuple #[.int .u64 0, .int .i64 1]) ∧ w' = w := by
  have key : p = none ∨ (∃ a, p = some a) ∧ (decide (z < 8) = true ∨ (decide (z < 8) = false ∧ (decide (40 < z) = true ∨ (decide (40 < z) = false ∧ (decide (n < 1) = true ∨ (decide (n < 1) = false ∧ decide (10000 < n) = true)))))) := by
    cases p with
    | none => exact .inl rfl
    | some a =>
      refine .inr ⟨⟨a, rfl⟩, ?_⟩
      have h2 : z < 8 ∨ 40 < z ∨ n < 1 ∨ 10000 < n := by rcases h with h | h; cases h; exact h
      by_cases h3 : z < 8
      · exact .inl (decide_eq_true h3)
      · refine .inr ⟨decide_eq_false h3, ?_⟩
        by_cases h4 : 40 < z
        · exact .inl (decide_eq_true h4)
        · refine .inr ⟨decide_eq_false h4, ?_⟩
          by_cases h5 : n < 1
          · exact .inl (decide_eq_true h5)
          · exact .inr ⟨decide_eq_false h5, decide_eq_true (by omega)⟩
  clear h
  rcases key with rfl | ⟨⟨a, rfl⟩, h | ⟨h, h2 | ⟨h2, h3 | ⟨h3, h4⟩⟩⟩⟩
  all_goals
    go_enter Try.func22, Try.ntmps22
    go_wp2
    go_ret2
    exact ⟨rfl, rfl⟩
def searchF (z n : Int) (l : List Int) : Option (Int × Int × List Int) := if z < 8 ∨ 40 < z ∨ n < 1 ∨ 10000 < n then some (0, 1, l) else search.f z n.toNat l
theorem search.calls (g : Nat) (l : List Int) (z n : Int) (ok : Nat → Prop) (x : Int × Int × List Int) (w : World) (hT : Tp w g ok l) (hg : ¬ ok g) (h : searchF z n l = some x) :
    Calls Try.prog 22 #[.pointer (some ⟨g, 0, none⟩), .int .i64 z, .int .i64 n] w fun e w' => e = .returned (.tuple #[.int .u64 x.1, .int .i64 x.2.1]) ∧ Tp w' g ok x.2.2 ∧ Stay w w' g := by
  unfold searchF at h
  by_cases hb : z < 8 ∨ 40 < z ∨ n < 1 ∨ 10000 < n
  · rw [if_pos hb] at h
    obtain rfl := Option.some.inj h
    refine (search.bad _ z n w (.inr hb)).mono ?_
    rintro e w' ⟨rfl, rfl⟩
    exact ⟨rfl, hT, Stay.refl _ _⟩
  · rw [if_neg hb] at h
    obtain ⟨m, rfl⟩ := Int.eq_ofNat_of_zero_le (show 0 ≤ n by omega)
    rw [Int.toNat_natCast] at h
    exact search.good g l z m ok x w hT hg (by omega) (by omega) (by omega) (by omega) h
end Go.Proofs.Ytlkinjhmgljapab.F
end
section
namespace Go.Proofs.Ytlkinjhmgljapab.F
open Go.RowKit Go.Proofs.YtlkinjhmgljapabW.PrintWords Go.Proofs.YtlkinjhmgljapabW.PrintLast Go.Proofs.YtlkinjhmgljapabW.PrintMore
attribute [local go_sem] max2_int min2_int max_two min_two max_three min_three max_four min_four
set_option linter.unusedVariables false
set_option linter.unusedSimpArgs false
attribute [local go_sem] sub64_run
def nat_less.l0 : Nat → List Int → List Int → List Int → Int → Int → Int → Option (List Int)
 | 0, _, _, _, _, _, _ => none
 | k + 1, x0, x1, x5, x6, x13, x14 => if x14 < x13 then (if x14 < (x1.length : Int) then (if 0 ≤ x14 then (if x14 < (x0.length : Int) then (if carry01 x6 = true then (if x14 < (x5.length : Int) then (nat_less.l0 k x0 x1 (x5.set (x14 : Int).toNat (sub64_s (rd x0 x14) (rd x1 x14) x6)) (sub64_c (rd x0 x14) (rd x1 x14) x6) x13 (wrap64 (x14 + 1))) else (none)) else (none)) else (none)) else (none)) else (if 0 ≤ x14 then (if x14 < (x0.length : Int) then (if carry01 x6 = true then (if x14 < (x5.length : Int) then (nat_less.l0 k x0 x1 (x5.set (x14 : Int).toNat (sub64_s (rd x0 x14) 0 x6)) (sub64_c (rd x0 x14) 0 x6) x13 (wrap64 (x14 + 1))) else (none)) else (none)) else (none)) else (none))) else (some x5)
def nat_less.f (k : Nat) (l0 : List Int) (l1 : List Int) : Option (List Int) := if 0 ≤ (l0.length : Int) then (if ((l0.length : Int) : Int).toNat ≤ 35184372088832 then (nat_less.l0 k l0 l1 (List.replicate ((l0.length : Int) : Int).toNat 0) 0 (l0.length : Int) 0) else (none)) else (none)
end Go.Proofs.Ytlkinjhmgljapab.F
end
section
namespace Go.Proofs.Ytlkinjhmgljapab.F
open Go.RowKit Go.Proofs.YtlkinjhmgljapabW.PrintWords Go.Proofs.YtlkinjhmgljapabW.PrintLast Go.Proofs.YtlkinjhmgljapabW.PrintMore
attribute [local go_sem] max2_int min2_int max_two min_two max_three min_three max_four min_four
set_option linter.unusedVariables false
set_option linter.unusedSimpArgs false
def nat_Sub.f (k : Nat) (l0 : List Int) (l1 : List Int) : Option (List Int × Int) := (nat_right.f (([l0, l1] : List (List Int)))).bind fun t133 => (if t133 = true then ((nat_compare.f k l0 l1).bind fun t134 => (if t134 < 0 then (some (([] : List Int), 2)) else ((nat_less.f k l0 l1).bind fun t135 => ((nat_told.f k t135).bind fun bt138 => (some (bt138.1, bt138.2)))))) else (some (([] : List Int), 1)))
end Go.Proofs.Ytlkinjhmgljapab.F
end
section
namespace Go.Proofs.Ytlkinjhmgljapab.F
open Go.RowKit Go.Proofs.YtlkinjhmgljapabW.PrintWords Go.Proofs.YtlkinjhmgljapabW.PrintLast Go.Proofs.YtlkinjhmgljapabW.PrintMore
set_option linter.unusedVariables false
set_option linter.unusedSimpArgs false
def tape_Below.f (k : Nat) (n l : List Int) : Option (List Int × Int × List Int) :=
  (nat_Right.f n).bind fun b => if b = true ∧ n.length ≠ 0 then (nat_Sub.f k n [1]).bind fun s => if s.1.length = 0 then some ([], 0, l) else (nat_Bits.f k s.1).bind fun z => if 0 < z ∧ z ≤ 4096 then tape_draw.f z n k l else none
  else some ([], 1, l)
def tape_Small.f (k : Nat) (m : Int) (l : List Int) : Option (Int × Int × List Int) :=
  if m < 1 then some (0, 1, l) else (nat_Of.f k m).bind fun n => (tape_Below.f k n l).bind fun x => (nat_Small.f k x.1).bind fun z => some (wrap64 z.1, x.2.1, x.2.2)
end Go.Proofs.Ytlkinjhmgljapab.F
end
section
namespace Go.Proofs.Ytlkinjhmgljapab.F
open Go.RowKit Go.Proofs.YtlkinjhmgljapabW.PrintWords Go.Proofs.YtlkinjhmgljapabW.PrintLast Go.Proofs.YtlkinjhmgljapabW.PrintMore
attribute [local go_sem] max2_int min2_int max_two min_two max_three min_three max_four min_four
set_option linter.unusedVariables false
set_option linter.unusedSimpArgs false
mutual
def windbreakref01_In.l0 : Nat → List Int → List Int → Int → Option (List Int)
 | 0, _, _, _ => none
 | k + 1, x0, x3, x4 => if x4 < (x0.length : Int) then (if 0 ≤ x4 then (windbreakref01_In.l1 k x0 x3 x4 (rd x0 x4) 0) else (none)) else ((windbreakref01_cut.f k x3).bind fun t178 => (some t178))
def windbreakref01_In.l1 : Nat → List Int → List Int → Int → Int → Int → Option (List Int)
 | 0, _, _, _, _, _ => none
 | k + 1, x0, x3, x4, x5, x6 => if x6 < 4 then (if x3.length < 17592186044416 then (windbreakref01_In.l1 k x0 (x3 ++ [Int.tmod x5 65536]) x4 (IntKind.u64.wrap (Int.tdiv x5 65536)) (wrap64 (x6 + 1))) else (none)) else (windbreakref01_In.l0 k x0 x3 (wrap64 (x4 + 1)))
end
def windbreakref01_In.f (k : Nat) (l0 : List Int) : Option (List Int) := windbreakref01_In.l0 k l0 ([] : List Int) 0
end Go.Proofs.Ytlkinjhmgljapab.F
end
section
namespace Go.Proofs.Ytlkinjhmgljapab.F
open Go.RowKit Go.Proofs.YtlkinjhmgljapabW.PrintWords Go.Proofs.YtlkinjhmgljapabW.PrintLast Go.Proofs.YtlkinjhmgljapabW.PrintMore
attribute [local go_sem] max2_int min2_int max_two min_two max_three min_three max_four min_four
set_option linter.unusedVariables false
set_option linter.unusedSimpArgs false
mutual
def windbreakref01_Out.l0 : Nat → List Int → List Int → Int → Option (List Int × Bool)
 | 0, _, _, _ => none
 | k + 1, x0, x4, x5 => if x5 < (x0.length : Int) then (windbreakref01_Out.l1 k x0 x4 x5 0 3) else (some (x4, decide ((x4.length : Int) ≤ 64)))
def windbreakref01_Out.l1 : Nat → List Int → List Int → Int → Int → Int → Option (List Int × Bool)
 | 0, _, _, _, _, _ => none
 | k + 1, x0, x4, x5, x6, x7 => if x7 ≥ 0 then (if (wrap64 (x5 + x7)) < (x0.length : Int) then (if 0 ≤ (wrap64 (x5 + x7)) then (windbreakref01_Out.l1 k x0 x4 x5 (IntKind.u64.wrap ((IntKind.u64.wrap (x6 * 65536)) + (rd x0 (wrap64 (x5 + x7))))) (wrap64 (x7 - 1))) else (none)) else (windbreakref01_Out.l1 k x0 x4 x5 (IntKind.u64.wrap (x6 * 65536)) (wrap64 (x7 - 1)))) else (if x4.length < 17592186044416 then (windbreakref01_Out.l0 k x0 (x4 ++ [x6]) (wrap64 (x5 + 4))) else (none))
end
def windbreakref01_Out.f (k : Nat) (l0 : List Int) : Option (List Int × Bool) := windbreakref01_Out.l0 k l0 ([] : List Int) 0
end Go.Proofs.Ytlkinjhmgljapab.F
end
section
namespace Go.Proofs.Ytlkinjhmgljapab.F
open Go.RowKit Go.Proofs.YtlkinjhmgljapabW.PrintWords Go.Proofs.YtlkinjhmgljapabW.PrintLast Go.Proofs.YtlkinjhmgljapabW.PrintMore
attribute [local go_sem] max2_int min2_int max_two min_two max_three min_three max_four min_four
set_option linter.unusedVariables false
set_option linter.unusedSimpArgs false
def windbreakref01_told.f (k : Nat) (l0 : List Int) : Option (List Int × Int) := (windbreakref01_Out.f k l0).bind fun bt193 => (if bt193.2 = true then (some (bt193.1, 0)) else (some (([] : List Int), 4)))
def windbreakref01_Sub.j0 : Nat → List Int → List Int → Bool → Option (List Int × Int)
 | 0, _, _, _ => none
 | k + 1, x0, x1, x19 => if x19 = true then (some (([] : List Int), 1)) else ((windbreakref01_In.f k x0).bind fun t208 => ((windbreakref01_In.f k x1).bind fun t211 => ((windbreakref01_compare.f k t208 t211).bind fun t214 => (if t214 < 0 then (some (([] : List Int), 2)) else ((windbreakref01_sub.f k t208 t211).bind fun t215 => ((windbreakref01_told.f k t215).bind fun bt218 => (some (bt218.1, bt218.2))))))))
def windbreakref01_Sub.f (k : Nat) (l0 : List Int) (l1 : List Int) : Option (List Int × Int) := (windbreakref01_Right.f l0).bind fun t206 => ((windbreakref01_Right.f l1).bind fun t207 => (if t206 = true then (windbreakref01_Sub.j0 k l0 l1 (!t207)) else (windbreakref01_Sub.j0 k l0 l1 true)))
def windbreakref01_Cmp.j0 : Nat → List Int → List Int → Bool → Option (Int)
 | 0, _, _, _ => none
 | k + 1, x0, x1, x16 => if x16 = true then (some 0) else ((windbreakref01_In.f k x0).bind fun t329 => ((windbreakref01_In.f k x1).bind fun t332 => ((windbreakref01_compare.f k t329 t332).bind fun t335 => (some t335))))
def windbreakref01_Cmp.f (k : Nat) (l0 : List Int) (l1 : List Int) : Option (Int) := (windbreakref01_Right.f l0).bind fun t327 => ((windbreakref01_Right.f l1).bind fun t328 => (if t327 = true then (windbreakref01_Cmp.j0 k l0 l1 (!t328)) else (windbreakref01_Cmp.j0 k l0 l1 true)))
end Go.Proofs.Ytlkinjhmgljapab.F
end
section
namespace Go.Proofs.Ytlkinjhmgljapab.F
open Go.RowKit Go.Proofs.YtlkinjhmgljapabW.PrintWords Go.Proofs.YtlkinjhmgljapabW.PrintLast Go.Proofs.YtlkinjhmgljapabW.PrintMore
attribute [local go_sem] max2_int min2_int max_two min_two max_three min_three max_four min_four
set_option linter.unusedVariables false
set_option linter.unusedSimpArgs false
mutual
def windbreakref01_Bits.j0 : Nat → List Int → Bool → Option (Int)
 | 0, _, _ => none
 | k + 1, x0, x14 => if x14 = true then (some 0) else (if 0 ≤ (wrap64 ((x0.length : Int) - 1)) then (if (wrap64 ((x0.length : Int) - 1)) < (x0.length : Int) then (windbreakref01_Bits.l0 k x0 0 (rd x0 (wrap64 ((x0.length : Int) - 1)))) else (none)) else (none))
def windbreakref01_Bits.l0 : Nat → List Int → Int → Int → Option (Int)
 | 0, _, _, _ => none
 | k + 1, x0, x4, x5 => if x5 > 0 then (windbreakref01_Bits.l0 k x0 (wrap64 (x4 + 1)) (IntKind.u64.wrap (Int.tdiv x5 2))) else (some (wrap64 (x4 + (wrap64 (64 * (wrap64 ((x0.length : Int) - 1)))))))
end
def windbreakref01_Bits.f (k : Nat) (l0 : List Int) : Option (Int) := (windbreakref01_Right.f l0).bind fun t225 => (if t225 = true then (windbreakref01_Bits.j0 k l0 ((l0.length : Int) == 0)) else (windbreakref01_Bits.j0 k l0 true))
end Go.Proofs.Ytlkinjhmgljapab.F
end
section
namespace Go.Proofs.Ytlkinjhmgljapab.F
open Go.RowKit Go.Proofs.YtlkinjhmgljapabW.PrintWords Go.Proofs.YtlkinjhmgljapabW.PrintLast Go.Proofs.YtlkinjhmgljapabW.PrintMore
attribute [local go_sem] max2_int min2_int max_two min_two max_three min_three max_four min_four
set_option linter.unusedVariables false
set_option linter.unusedSimpArgs false
mutual
def windbreakref01_Read.j1 : Nat → List Int → Int → Option (List Int × Int)
 | 0, _, _ => none
 | k + 1, x0, x4 => if (wrap64 ((x0.length : Int) - x4)) > 512 then (some (([] : List Int), 4)) else (windbreakref01_Read.l1 k x0 x4 ([] : List Int) (wrap64 ((x0.length : Int) - 1)))
def windbreakref01_Read.l1 : Nat → List Int → Int → List Int → Int → Option (List Int × Int)
 | 0, _, _, _, _ => none
 | k + 1, x0, x4, x5, x6 => if x6 ≥ x4 then (if 0 ≤ x6 then (if x6 < (x0.length : Int) then (if (wrap64 (x6 - 1)) ≥ x4 then (if 0 ≤ (wrap64 (x6 - 1)) then (if (wrap64 (x6 - 1)) < (x0.length : Int) then (if x5.length < 17592186044416 then (windbreakref01_Read.l1 k x0 x4 (x5 ++ [IntKind.u64.wrap ((IntKind.u64.wrap (rd x0 x6)) + (IntKind.u64.wrap (256 * (IntKind.u64.wrap (rd x0 (wrap64 (x6 - 1)))))))]) (wrap64 (x6 - 2))) else (none)) else (none)) else (none)) else (if x5.length < 17592186044416 then (windbreakref01_Read.l1 k x0 x4 (x5 ++ [IntKind.u64.wrap (rd x0 x6)]) (wrap64 (x6 - 2))) else (none))) else (none)) else (none)) else ((windbreakref01_cut.f k x5).bind fun t239 => ((windbreakref01_told.f k t239).bind fun bt242 => (some (bt242.1, bt242.2))))
def windbreakref01_Read.l0 : Nat → List Int → Int → Option (List Int × Int)
 | 0, _, _ => none
 | k + 1, x0, x4 => if x4 < (x0.length : Int) then (if 0 ≤ x4 then (if (rd x0 x4) = 0 then (windbreakref01_Read.l0 k x0 (wrap64 (x4 + 1))) else (windbreakref01_Read.j1 k x0 x4)) else (none)) else (windbreakref01_Read.j1 k x0 x4)
end
def windbreakref01_Read.f (k : Nat) (l0 : List Int) : Option (List Int × Int) := windbreakref01_Read.l0 k l0 0
end Go.Proofs.Ytlkinjhmgljapab.F
end
section
namespace Go.Proofs.Ytlkinjhmgljapab.F
open Go.RowKit Go.Proofs.YtlkinjhmgljapabW.PrintWords Go.Proofs.YtlkinjhmgljapabW.PrintLast Go.Proofs.YtlkinjhmgljapabW.PrintMore
attribute [local go_sem] max2_int min2_int max_two min_two max_three min_three max_four min_four
set_option linter.unusedVariables false
set_option linter.unusedSimpArgs false
mutual
def windbreakref01_mul.l0 : Nat → List Int → List Int → List Int → Int → Option (List Int)
 | 0, _, _, _, _ => none
 | k + 1, x0, x1, x5, x6 => if x6 < (x0.length : Int) then (windbreakref01_mul.l1 k x0 x1 x5 x6 0 0) else ((windbreakref01_cut.f k x5).bind fun t249 => (some t249))
def windbreakref01_mul.l1 : Nat → List Int → List Int → List Int → Int → Int → Int → Option (List Int)
 | 0, _, _, _, _, _, _ => none
 | k + 1, x0, x1, x5, x6, x7, x8 => if x8 < (x1.length : Int) then (if 0 ≤ (wrap64 (x6 + x8)) then (if (wrap64 (x6 + x8)) < (x5.length : Int) then (if 0 ≤ x6 then (if x6 < (x0.length : Int) then (if 0 ≤ x8 then (windbreakref01_mul.l1 k x0 x1 (x5.set ((wrap64 (x6 + x8)) : Int).toNat (Int.tmod (IntKind.u64.wrap ((IntKind.u64.wrap ((rd x5 (wrap64 (x6 + x8))) + (IntKind.u64.wrap ((rd x0 x6) * (rd x1 x8))))) + x7)) 65536)) x6 (IntKind.u64.wrap (Int.tdiv (IntKind.u64.wrap ((IntKind.u64.wrap ((rd x5 (wrap64 (x6 + x8))) + (IntKind.u64.wrap ((rd x0 x6) * (rd x1 x8))))) + x7)) 65536)) (wrap64 (x8 + 1))) else (none)) else (none)) else (none)) else (none)) else (none)) else (if 0 ≤ (wrap64 (x6 + (x1.length : Int))) then (if (wrap64 (x6 + (x1.length : Int))) < (x5.length : Int) then (windbreakref01_mul.l0 k x0 x1 (x5.set ((wrap64 (x6 + (x1.length : Int))) : Int).toNat x7) (wrap64 (x6 + 1))) else (none)) else (none))
end
def windbreakref01_mul.f (k : Nat) (l0 : List Int) (l1 : List Int) : Option (List Int) := if 0 ≤ (wrap64 ((l0.length : Int) + (l1.length : Int))) then (if (wrap64 ((l0.length : Int) + (l1.length : Int)) : Int).toNat ≤ 35184372088832 then (windbreakref01_mul.l0 k l0 l1 (List.replicate (wrap64 ((l0.length : Int) + (l1.length : Int)) : Int).toNat 0) 0) else (none)) else (none)
end Go.Proofs.Ytlkinjhmgljapab.F
end
section
namespace Go.Proofs.Ytlkinjhmgljapab.F
open Go.RowKit Go.Proofs.YtlkinjhmgljapabW.PrintWords Go.Proofs.YtlkinjhmgljapabW.PrintLast Go.Proofs.YtlkinjhmgljapabW.PrintMore
attribute [local go_sem] max2_int min2_int max_two min_two max_three min_three max_four min_four
set_option linter.unusedVariables false
set_option linter.unusedSimpArgs false
mutual
def windbreakref01_div.l0 : Nat → List Int → List Int → List Int → List Int → Int → Option (List Int × List Int)
 | 0, _, _, _, _, _ => none
 | k + 1, x0, x1, x6, x7, x8 => if x8 ≥ 0 then (if 0 ≤ x8 then (if x8 < (x0.length : Int) then ((some (([rd x0 x8] : List Int) : List Int)).bind fun y264 => (if y264.length + x7.length < 17592186044416 then ((windbreakref01_cut.f k (y264 ++ x7)).bind fun t270 => (windbreakref01_div.l1 k x0 x1 x6 t270 x8 0 65535)) else (none))) else (none)) else (none)) else ((windbreakref01_cut.f k x6).bind fun t260 => (some (t260, x7)))
def windbreakref01_div.l1 : Nat → List Int → List Int → List Int → List Int → Int → Int → Int → Option (List Int × List Int)
 | 0, _, _, _, _, _, _, _ => none
 | k + 1, x0, x1, x6, x7, x8, x9, x10 => if x9 < x10 then ((windbreakref01_mul.f k x1 (([IntKind.u64.wrap (Int.tdiv (IntKind.u64.wrap ((IntKind.u64.wrap (x9 + x10)) + 1)) 2)] : List Int))).bind fun t286 => ((windbreakref01_compare.f k t286 x7).bind fun t289 => (if t289 ≤ 0 then (windbreakref01_div.l1 k x0 x1 x6 x7 x8 (IntKind.u64.wrap (Int.tdiv (IntKind.u64.wrap ((IntKind.u64.wrap (x9 + x10)) + 1)) 2)) x10) else (windbreakref01_div.l1 k x0 x1 x6 x7 x8 x9 (IntKind.u64.wrap ((IntKind.u64.wrap (Int.tdiv (IntKind.u64.wrap ((IntKind.u64.wrap (x9 + x10)) + 1)) 2)) - 1)))))) else (if 0 ≤ x8 then (if x8 < (x6.length : Int) then ((windbreakref01_mul.f k x1 (([x9] : List Int))).bind fun t277 => ((windbreakref01_sub.f k x7 t277).bind fun t280 => (windbreakref01_div.l0 k x0 x1 (x6.set (x8 : Int).toNat x9) t280 (wrap64 (x8 - 1))))) else (none)) else (none))
end
def windbreakref01_div.f (k : Nat) (l0 : List Int) (l1 : List Int) : Option (List Int × List Int) := if 0 ≤ (l0.length : Int) then (if ((l0.length : Int) : Int).toNat ≤ 35184372088832 then (windbreakref01_div.l0 k l0 l1 (List.replicate ((l0.length : Int) : Int).toNat 0) ([] : List Int) (wrap64 ((l0.length : Int) - 1))) else (none)) else (none)
end Go.Proofs.Ytlkinjhmgljapab.F
end
section
namespace Go.Proofs.Ytlkinjhmgljapab.F
open Go.RowKit Go.Proofs.YtlkinjhmgljapabW.PrintWords Go.Proofs.YtlkinjhmgljapabW.PrintLast Go.Proofs.YtlkinjhmgljapabW.PrintMore
attribute [local go_sem] max2_int min2_int max_two min_two max_three min_three max_four min_four
set_option linter.unusedVariables false
set_option linter.unusedSimpArgs false
def windbreakref01_Shr.j0 : Nat → List Int → Int → Bool → Option (List Int × Int)
 | 0, _, _, _ => none
 | k + 1, x0, x1, x16 => if x16 = true then (some (([] : List Int), 1)) else (if x1 ≥ 4096 then (some (([] : List Int), 0)) else ((windbreakref01_In.f k x0).bind fun t297 => ((windbreakref01_power.f k x1).bind fun t300 => ((windbreakref01_div.f k t297 t300).bind fun bt303 => ((windbreakref01_told.f k bt303.1).bind fun bt309 => (some (bt309.1, bt309.2)))))))
def windbreakref01_Shr.f (k : Nat) (l0 : List Int) (a1 : Int) : Option (List Int × Int) := (windbreakref01_Right.f l0).bind fun t296 => (if t296 = true then (windbreakref01_Shr.j0 k l0 a1 (decide (a1 < 0))) else (windbreakref01_Shr.j0 k l0 a1 true))
def windbreakref01_Shl.j0 : Nat → List Int → Int → Bool → Option (List Int × Int)
 | 0, _, _, _ => none
 | k + 1, x0, x1, x14 => if x14 = true then (some (([] : List Int), 1)) else (if (x0.length : Int) = 0 then (some (([] : List Int), 0)) else (if x1 > 4096 then (some (([] : List Int), 4)) else ((windbreakref01_In.f k x0).bind fun t314 => ((windbreakref01_power.f k x1).bind fun t317 => ((windbreakref01_mul.f k t314 t317).bind fun t320 => ((windbreakref01_told.f k t320).bind fun bt323 => (some (bt323.1, bt323.2))))))))
def windbreakref01_Shl.f (k : Nat) (l0 : List Int) (a1 : Int) : Option (List Int × Int) := (windbreakref01_Right.f l0).bind fun t313 => (if t313 = true then (windbreakref01_Shl.j0 k l0 a1 (decide (a1 < 0))) else (windbreakref01_Shl.j0 k l0 a1 true))
end Go.Proofs.Ytlkinjhmgljapab.F
end
section
namespace Go.Proofs.Ytlkinjhmgljapab.F
open Go.RowKit Go.Proofs.YtlkinjhmgljapabW.PrintWords Go.Proofs.YtlkinjhmgljapabW.PrintLast Go.Proofs.YtlkinjhmgljapabW.PrintMore
set_option linter.unusedVariables false
set_option linter.unusedSimpArgs false
def ref4_draw.f (z : Int) (n L : List Int) : Nat → Nat → Option (List Int × Int × Nat)
  | 0, _ => none
  | k + 1, u => if ((L.drop u).length : Int) < (z + 7) / 8 then some ([], 7, u) else (windbreakref01_Read.f k ((L.drop u).take ((z + 7) / 8).toNat)).bind fun x => (windbreakref01_Shr.f k x.1 z).bind fun t => (windbreakref01_Shl.f k t.1 z).bind fun h => (windbreakref01_Sub.f k x.1 h.1).bind fun y => (windbreakref01_Cmp.f k y.1 n).bind fun c => if c < 0 then some (y.1, 0, u + ((z + 7) / 8).toNat) else ref4_draw.f z n L k (u + ((z + 7) / 8).toNat)
def ref4_Below.f (k : Nat) (n L : List Int) (u : Nat) : Option (List Int × Int × Nat) :=
  (windbreakref01_Right.f n).bind fun b => if b = true ∧ n.length ≠ 0 then (windbreakref01_Of.f 1).bind fun o => (windbreakref01_Sub.f k n o).bind fun s => (windbreakref01_Bits.f k s.1).bind fun z => if z = 0 then some ([], 0, u) else if 0 < z ∧ z ≤ 4096 then ref4_draw.f z n L k u else none
  else some ([], 1, u)
def ref4_Small.f (k : Nat) (m : Int) (L : List Int) (u : Nat) : Option (Int × Int × Nat) :=
  if m < 1 then some (0, 1, u) else (windbreakref01_Of.f m).bind fun n => (ref4_Below.f k n L u).bind fun x => (windbreakref01_Small.f k x.1).bind fun z => some (wrap64 z.1, x.2.1, x.2.2)
def accR (x : Int) : List Int → Int
  | [] => x
  | c :: l => accR (IntKind.u64.wrap (IntKind.u64.wrap (x * 256) + IntKind.u64.wrap c)) l
def topR : Nat → Int → Int
  | 0, t => t
  | j + 1, t => topR j (IntKind.u64.wrap (t * 2))
def oddR (T x : Int) : Int := if Int.tmod (IntKind.u64.wrap (Int.tmod x T + T)) 2 = 0 then IntKind.u64.wrap (IntKind.u64.wrap (Int.tmod x T + T) + 1) else IntKind.u64.wrap (Int.tmod x T + T)
def rsearch.f (k : Nat) (z T : Int) (L : List Int) : Nat → Nat → Option (Int × Int × Nat)
  | 0, u => some (0, 8, u)
  | t + 1, u => if ((L.drop u).length : Int) < (z + 7) / 8 then some (0, 7, u) else (windbreakref05_least.f k (oddR T (accR 0 ((L.drop u).take ((z + 7) / 8).toNat)))).bind fun q => if q = oddR T (accR 0 ((L.drop u).take ((z + 7) / 8).toNat)) then some (q, 0, u + ((z + 7) / 8).toNat) else rsearch.f k z T L t (u + ((z + 7) / 8).toNat)
set_option maxHeartbeats 8000000 in
set_option maxRecDepth 100000 in
theorem rsearch.good (k : Nat) (g : Nat) (L : List Int) (u : Nat) (z T : Int) (n : Nat) (ok : Nat → Prop) (x : Int × Int × Nat) (w : World) (hT : Tp2 w g ok L (u : Int)) (hg : ¬ ok g) (hu : u ≤ L.length) (hL : L.length ≤ 65536) (hz0 : 8 ≤ z) (hz1 : z ≤ 40) (hn0 : 1 ≤ n) (hn1 : n ≤ 10000) (hTT : topR (z.toNat - 1) 1 = T) (hT0 : T ≠ 0) (h : rsearch.f k z T L n u = some x) :
    Calls Try.prog 23 #[.pointer (some ⟨g, 0, none⟩), .int .i64 z, .int .i64 (n : Int)] w fun e w' => e = .returned (.tuple #[.int .u64 x.1, .int .i64 x.2.1]) ∧ Tp2 w' g ok L (x.2.2 : Int) ∧ Stay w w' g := by
  have HT := Aside0.mk hT
  have HH := Aside0.mk h
  have HTT := Aside0.mk hTT
  have e1 : decide (z < 8) = false := decide_eq_false (by omega)
  have e2 : decide (40 < z) = false := decide_eq_false (by omega)
  have e3 : decide ((n : Int) < 1) = false := decide_eq_false (by omega)
  have e4 : decide ((10000 : Int) < (n : Int)) = false := decide_eq_false (by omega)
  have hm0 : 0 ≤ (z + 7) / 8 := by omega
  obtain ⟨zn, rfl⟩ := Int.eq_ofNat_of_zero_le (show 0 ≤ z by omega)
  have hT1 : (T == 0) = false := beq_eq_false_iff_ne.mpr hT0
  clear hT h hTT
  go_enter Try.func23, Try.ntmps23
  go_wp2
  go_loopg [8] n (fun gg v8 wr => ∃ (i u1 : Nat), v8 = .int .i64 (i : Int) ∧ i ≤ n ∧ n - i ≤ gg ∧ u1 ≤ L.length ∧ Aside0 (rsearch.f k (zn : Int) T L (n - i) u1 = some x) ∧ Aside0 (Tp2 wr g ok L (u1 : Int)) ∧ Aside0 (Stay w wr g))
  case atStart => exact ⟨0, u, rfl, by omega, by omega, hu, HH, HT, ⟨Stay.refl _ _⟩⟩
  case round =>
    obtain ⟨i, u1, rfl, hi, hgg, hu1, HK, HT1, HS⟩ := hrel
    by_cases hlt : i < n
    · have hltz : (i : Int) < (n : Int) := by omega
      have hK := HK.out
      have hdl : (L.drop u1).length = L.length - u1 := List.length_drop
      rw [show n - i = (n - (i + 1)) + 1 from by omega, rsearch.f] at hK
      by_cases hfew : ((L.drop u1).length : Int) < ((zn : Int) + 7) / 8
      · rw [if_pos hfew] at hK
        obtain rfl := Option.some.inj hK
        have HFEW := Aside0.mk (show (L.length : Int) - (u1 : Int) < ((zn : Int) + 7) / 8 from by omega)
        clear HK hfew hK hdl
        go_wp2_with (go_at_call 48; refine (tape_Take2.few g L u1 _ ok _ HT1.out (by omega) (by omega) hL (by omega) (by omega) HFEW.out).mono ?_; rintro e w' ⟨rfl, ⟨q, rfl⟩⟩)
        go_ret2
        exact ⟨rfl, HT1.out.below (by repeat (first | exact Below.refl _ _ | apply below_drew | apply pw_below_drewN)), HS.out.then (by repeat (first | exact Below.refl _ _ | apply below_drew | apply pw_below_drewN))⟩
      · rw [if_neg hfew] at hK
        have HFEW := Aside0.mk (show (u1 : Int) + ((zn : Int) + 7) / 8 ≤ (L.length : Int) from by omega)
        have HLEN := Aside0.mk (show ((L.drop u1).take (((zn : Int) + 7) / 8).toNat).length = (((zn : Int) + 7) / 8).toNat from by rw [List.length_take]; omega)
        generalize hX : (L.drop u1).take (((zn : Int) + 7) / 8).toNat = X at hK HLEN
        have HXX := Aside0.mk hX
        obtain ⟨y, hy⟩ : ∃ y, y = oddR T (accR 0 X) := ⟨_, rfl⟩
        rw [← hy] at hK
        have NY := Aside0.mk hy
        obtain ⟨q, hq, hK⟩ := Option.bind_eq_some_iff.mp hK
        have HQ := Aside0.mk hq
        have HK2 := Aside0.mk hK
        clear HK hfew hX hy hq hK hdl
        go_wp2_with (go_at_call 48; refine (tape_Take2.calls g L u1 (((zn : Int) + 7) / 8) ok _ HT1.out hg (by omega) (by omega) (by omega) HFEW.out hL).mono ?_; rintro e w2 ⟨v, rfl, hR, hT2, hk1, hk2, hk3, hk4⟩; rw [Int.toNat_natCast, HXX.out] at hR; obtain ⟨Av, cv, ev⟩ := Kd.R_slice hR; subst ev; have HV := Aside0.mk (Kd.R_reads' hR).2.2; have HT2 := Aside0.mk (show Tp2 w2 g ok L ((u1 + (((zn : Int) + 7) / 8).toNat : Nat) : Int) from by rw [show ((u1 + (((zn : Int) + 7) / 8).toNat : Nat) : Int) = (u1 : Int) + ((zn : Int) + 7) / 8 from by omega]; exact hT2); have HS2 := Aside0.mk (HS.out.trans ⟨hk1, hk2, hk3, hk4⟩); clear hR hT2 hk1 hk2 hk3 hk4)
        have HXB := Aside0.mk (show X.length ≤ 5 from by have := HLEN.out; omega)
        go_loopg [11, 12] X.length (fun gg v11 v12 wq => ∃ (j : Nat) (a : Int), v11 = .int .u64 a ∧ v12 = .int .i64 (j : Int) ∧ j ≤ X.length ∧ X.length - j ≤ gg ∧ Aside0 (accR a (X.drop j) = accR 0 X) ∧ wq = w2)
        case atStart => exact ⟨0, 0, rfl, rfl, by omega, by omega, ⟨by rw [List.drop_zero]⟩, rfl⟩
        case round =>
          obtain ⟨j, a, rfl, rfl, hj, hgg2, HA, rfl⟩ := hrel
          by_cases hjl : j < X.length
          · have hjz : (j : Int) < (X.length : Int) := by omega
            have hj0 : (0 : Int) ≤ (j : Int) := by omega
            obtain ⟨ad, hA, hx⟩ := Kd.at_int HV.out (j : Int) hj0 hjz
            subst hA
            simp only [Go.IntWalk.toNatUp] at hx
            have hrd : rd X (j : Int) = X.getD j 0 := rfl
            have hdr : X.drop j = X.getD j 0 :: X.drop (j + 1) := by
              rw [List.drop_eq_getElem_cons hjl, List.getD_eq_getElem?_getD, List.getElem?_eq_getElem hjl]
              rfl
            have hA2 := HA.out
            rw [hdr, accR] at hA2
            rw [hrd] at hx
            generalize X.getD j 0 = c at hx hA2
            have HA3 := Aside0.mk hA2
            clear hrd hdr hA2 HA
            go_wp2
            go_roundg (X.length - (j + 1))
            case measure => omega
            case rel => exact ⟨j + 1, _, rfl, by have h5 := HXB.out; congr 1; unfold wrap64; omega, by omega, by omega, HA3, rfl⟩
          · have hjz : ¬ (j : Int) < (X.length : Int) := by omega
            have HA2 := Aside0.mk (show a = accR 0 X from by have h := HA.out; rw [List.drop_of_length_le (by omega)] at h; exact h)
            clear HA
            go_wp2
            go_loopg [13, 14] zn (fun gg v13 v14 wq => ∃ (j : Nat) (t : Int), v13 = .int .u64 t ∧ v14 = .int .i64 (j : Int) ∧ 1 ≤ j ∧ j ≤ zn ∧ zn - j ≤ gg ∧ Aside0 (topR (zn - j) t = T) ∧ wq = wr)
            case atStart => exact ⟨1, 1, rfl, rfl, by omega, by omega, by omega, ⟨by have h := HTT.out; rw [Int.toNat_natCast] at h; exact h⟩, rfl⟩
            case round =>
              obtain ⟨j2, t, rfl, rfl, hj1, hj2, hgg3, HTP, rfl⟩ := hrel
              by_cases hjt : j2 < zn
              · have hjtz : (j2 : Int) < (zn : Int) := by omega
                have hT2 := HTP.out
                rw [show zn - j2 = (zn - (j2 + 1)) + 1 from by omega, topR] at hT2
                have HT3 := Aside0.mk hT2
                clear hT2 HTP
                go_wp2
                go_roundg (zn - (j2 + 1))
                case measure => omega
                case rel => exact ⟨j2 + 1, _, rfl, by go_num, by omega, by omega, by omega, HT3, rfl⟩
              · have hjtz : ¬ (j2 : Int) < (zn : Int) := by omega
                obtain rfl : t = T := by have h := HTP.out; rw [show zn - j2 = 0 from by omega] at h; exact h
                clear HTP
                have HA4 := Aside0.mk (show oddR t a = y from by rw [NY.out, HA2.out])
                have hyc : (Int.tmod (IntKind.u64.wrap (Int.tmod a t + t)) 2 = 0 ∧ IntKind.u64.wrap (IntKind.u64.wrap (Int.tmod a t + t) + 1) = y) ∨ (¬ Int.tmod (IntKind.u64.wrap (Int.tmod a t + t)) 2 = 0 ∧ IntKind.u64.wrap (Int.tmod a t + t) = y) := by
                  have h := HA4.out
                  unfold oddR at h
                  by_cases hb : Int.tmod (IntKind.u64.wrap (Int.tmod a t + t)) 2 = 0
                  · rw [if_pos hb] at h
                    exact .inl ⟨hb, h⟩
                  · rw [if_neg hb] at h
                    exact .inr ⟨hb, h⟩
                rcases hyc with ⟨hb, hy2⟩ | ⟨hb, hy2⟩
                · have hbb : (Int.tmod (IntKind.u64.wrap (Int.tmod a t + t)) 2 == 0) = true := beq_iff_eq.mpr hb
                  have HY2 := Aside0.mk hy2
                  clear hb hy2
                  by_cases hqy : q = y
                  · subst hqy
                    have hK3 := HK2.out
                    rw [if_pos rfl] at hK3
                    obtain rfl := Option.some.inj hK3
                    clear HK2 hK3
                    go_wp2_with (go_at_call 58; rw [HY2.out]; refine (windbreakref05_least.calls k _ _ _ HQ.out).mono ?_; rintro e w3 ⟨rfl, ⟨z3, rfl⟩⟩; have HT4 := Aside0.mk (HT2.out.below (pw_below_drewN (Below.refl _ _) z3)); have HS4 := Aside0.mk (HS2.out.then (pw_below_drewN (Below.refl _ _) z3)))
                    go_ret2
                    rw [show (u1 : Int) + max (((zn : Int) + 7) / 8) 0 = ((u1 + (((zn : Int) + 7) / 8).toNat : Nat) : Int) from by omega]
                    exact ⟨rfl, HT4.out, HS4.out⟩
                  · have hK3 := HK2.out
                    rw [if_neg hqy] at hK3
                    have HK4 := Aside0.mk hK3
                    have hqb : (q == y) = false := beq_eq_false_iff_ne.mpr hqy
                    clear HK2 hK3 hqy
                    go_wp2_with (go_at_call 58; rw [HY2.out]; refine (windbreakref05_least.calls k _ _ _ HQ.out).mono ?_; rintro e w3 ⟨rfl, ⟨z3, rfl⟩⟩; have HT4 := Aside0.mk (HT2.out.below (pw_below_drewN (Below.refl _ _) z3)); have HS4 := Aside0.mk (HS2.out.then (pw_below_drewN (Below.refl _ _) z3)))
                    go_roundg (n - (i + 1))
                    case measure => omega
                    case rel => exact ⟨i + 1, _, by go_num, by omega, by omega, by have := HFEW.out; omega, HK4, HT4, HS4⟩
                · have hbb : (Int.tmod (IntKind.u64.wrap (Int.tmod a t + t)) 2 == 0) = false := beq_eq_false_iff_ne.mpr hb
                  have HY2 := Aside0.mk hy2
                  clear hb hy2
                  by_cases hqy : q = y
                  · subst hqy
                    have hK3 := HK2.out
                    rw [if_pos rfl] at hK3
                    obtain rfl := Option.some.inj hK3
                    clear HK2 hK3
                    go_wp2_with (go_at_call 58; rw [HY2.out]; refine (windbreakref05_least.calls k _ _ _ HQ.out).mono ?_; rintro e w3 ⟨rfl, ⟨z3, rfl⟩⟩; have HT4 := Aside0.mk (HT2.out.below (pw_below_drewN (Below.refl _ _) z3)); have HS4 := Aside0.mk (HS2.out.then (pw_below_drewN (Below.refl _ _) z3)))
                    go_ret2
                    rw [show (u1 : Int) + max (((zn : Int) + 7) / 8) 0 = ((u1 + (((zn : Int) + 7) / 8).toNat : Nat) : Int) from by omega]
                    exact ⟨rfl, HT4.out, HS4.out⟩
                  · have hK3 := HK2.out
                    rw [if_neg hqy] at hK3
                    have HK4 := Aside0.mk hK3
                    have hqb : (q == y) = false := beq_eq_false_iff_ne.mpr hqy
                    clear HK2 hK3 hqy
                    go_wp2_with (go_at_call 58; rw [HY2.out]; refine (windbreakref05_least.calls k _ _ _ HQ.out).mono ?_; rintro e w3 ⟨rfl, ⟨z3, rfl⟩⟩; have HT4 := Aside0.mk (HT2.out.below (pw_below_drewN (Below.refl _ _) z3)); have HS4 := Aside0.mk (HS2.out.then (pw_below_drewN (Below.refl _ _) z3)))
                    go_roundg (n - (i + 1))
                    case measure => omega
                    case rel => exact ⟨i + 1, _, by go_num, by omega, by omega, by have := HFEW.out; omega, HK4, HT4, HS4⟩
    · have hltz : ¬ (i : Int) < (n : Int) := by omega
      obtain rfl : i = n := by omega
      have hK := HK.out
      rw [Nat.sub_self] at hK
      obtain rfl := Option.some.inj hK
      clear HK hK
      go_wp2
      go_ret2
      exact ⟨rfl, HT1.out, HS.out⟩
theorem topR_pow (j : Nat) : ∀ t : Nat, t * 2 ^ j < 18446744073709551616 → topR j (t : Int) = ((t * 2 ^ j : Nat) : Int) := by
  induction j with
  | zero => intro t _; simp [topR]
  | succ j ih =>
    intro t h
    rw [topR]
    have h1 : t * 2 ^ (j + 1) = t * 2 * 2 ^ j := by rw [Nat.pow_succ, Nat.mul_comm (2 ^ j) 2, Nat.mul_assoc]
    have h2 : t * 2 * 1 ≤ t * 2 * 2 ^ j := Nat.mul_le_mul_left _ (Nat.pow_pos (by omega))
    have e : IntKind.u64.wrap ((t : Int) * 2) = ((t * 2 : Nat) : Int) := by
      simp [IntKind.wrap, IntKind.bits, IntKind.signed]
      omega
    rw [e, ih (t * 2) (by omega), h1]
theorem top_is {z : Nat} (h1 : z ≤ 40) : topR (z - 1) 1 = ((2 ^ (z - 1) : Nat) : Int) := by
  have h := topR_pow (z - 1) 1 (by
    have : 2 ^ (z - 1) ≤ 2 ^ 39 := Nat.pow_le_pow_right (by omega) (by omega)
    omega)
  rw [Nat.one_mul] at h
  exact h
set_option maxHeartbeats 8000000 in
set_option maxRecDepth 100000 in
theorem rsearch.bad (p : Option Addr) (z n : Int) (w : World) (h : p = none ∨ z < 8 ∨ 40 < z ∨ n < 1 ∨ 10000 < n) :
    Calls Try.prog 23 #[.pointer p, .int .i64 z, .int .i64 n] w fun e w' => e = .returned (.tuple #[.int .u64 0, .int .i64 1]) ∧ w' = w := by
  have key : p = none ∨ (∃ a, p = some a) ∧ (decide (z < 8) = true ∨ (decide (z < 8) = false ∧ (decide (40 < z) = true ∨ (decide (40 < z) = false ∧ (decide (n < 1) = true ∨ (decide (n < 1) = false ∧ decide (10000 < n) = true)))))) := by
    cases p with
    | none => exact .inl rfl
    | some a =>
      refine .inr ⟨⟨a, rfl⟩, ?_⟩
      have h2 : z < 8 ∨ 40 < z ∨ n < 1 ∨ 10000 < n := by rcases h with h | h; cases h; exact h
      by_cases h3 : z < 8
      · exact .inl (decide_eq_true h3)
      · refine .inr ⟨decide_eq_false h3, ?_⟩
        by_cases h4 : 40 < z
        · exact .inl (decide_eq_true h4)
        · refine .inr ⟨decide_eq_false h4, ?_⟩
          by_cases h5 : n < 1
          · exact .inl (decide_eq_true h5)
          · exact .inr ⟨decide_eq_false h5, decide_eq_true (by omega)⟩
  clear h
  rcases key with rfl | ⟨⟨a, rfl⟩, h | ⟨h, h2 | ⟨h2, h3 | ⟨h3, h4⟩⟩⟩⟩
  all_goals
    go_enter Try.func23, Try.ntmps23
    go_wp2
    go_ret2
    exact ⟨rfl, rfl⟩
def rsearchF (k : Nat) (z n : Int) (L : List Int) (u : Nat) : Option (Int × Int × Nat) := if z < 8 ∨ 40 < z ∨ n < 1 ∨ 10000 < n then some (0, 1, u) else rsearch.f k z ((2 ^ (z.toNat - 1) : Nat) : Int) L n.toNat u
theorem rsearch.calls (k : Nat) (g : Nat) (L : List Int) (u : Nat) (z n : Int) (ok : Nat → Prop) (x : Int × Int × Nat) (w : World) (hT : Tp2 w g ok L (u : Int)) (hg : ¬ ok g) (hu : u ≤ L.length) (hL : L.length ≤ 65536) (h : rsearchF k z n L u = some x) :
    Calls Try.prog 23 #[.pointer (some ⟨g, 0, none⟩), .int .i64 z, .int .i64 n] w fun e w' => e = .returned (.tuple #[.int .u64 x.1, .int .i64 x.2.1]) ∧ Tp2 w' g ok L (x.2.2 : Int) ∧ Stay w w' g := by
  unfold rsearchF at h
  by_cases hb : z < 8 ∨ 40 < z ∨ n < 1 ∨ 10000 < n
  · rw [if_pos hb] at h
    obtain rfl := Option.some.inj h
    refine (rsearch.bad _ z n w (.inr hb)).mono ?_
    rintro e w' ⟨rfl, rfl⟩
    exact ⟨rfl, hT, Stay.refl _ _⟩
  · rw [if_neg hb] at h
    obtain ⟨m, rfl⟩ := Int.eq_ofNat_of_zero_le (show 0 ≤ n by omega)
    rw [Int.toNat_natCast] at h
    exact rsearch.good k g L u z _ m ok x w hT hg hu hL (by omega) (by omega) (by omega) (by omega) (top_is (by omega)) (by have := Nat.pow_pos (n := z.toNat - 1) (show 0 < 2 by omega); omega) h
end Go.Proofs.Ytlkinjhmgljapab.F
end
section
namespace Go.Proofs.Ytlkinjhmgljapab.F
open Go.RowKit Go.Proofs.YtlkinjhmgljapabW.PrintWords Go.Proofs.YtlkinjhmgljapabW.PrintLast Go.Proofs.YtlkinjhmgljapabW.PrintMore
attribute [local go_sem] max2_int min2_int max_two min_two max_three min_three max_four min_four
set_option linter.unusedVariables false
set_option linter.unusedSimpArgs false
def windbreaklaw05_PrimeSearches.Pure : Prop := ∀ (L : List Int) (z n : Int), L.length ≤ 65536 → (∀ x ∈ L, (Lit.int .u8 x).wf = true) → (Lit.int .i64 z).wf = true → (Lit.int .i64 n).wf = true → ∃ k v er u', searchF z (min n 300) L = some (v, er, L.drop u') ∧ rsearchF k z (min n 300) L 0 = some (v, er, u') ∧ u' ≤ L.length
theorem Tp2.stayP {w w1 : World} {g g1 : Nat} {ok : Nat → Prop} {l : List Int} {u : Int} (h : Tp2 w g ok l u) (hs : Stay w w1 g1) (hg : g ≠ g1) (hok : ∀ k, ok k → k ≠ g1) : Tp2 w1 g ok l u := h.keep hs.1 hg hok
theorem Tp.stayP {w w1 : World} {g g1 : Nat} {ok : Nat → Prop} {l : List Int} (h : Tp w g ok l) (hs : Stay w w1 g1) (hg : g ≠ g1) (hok : ∀ k, ok k → k ≠ g1) : Tp w1 g ok l := h.keep hs.1 hg hok
set_option maxHeartbeats 16000000 in
set_option maxRecDepth 100000 in
theorem windbreaklaw05_PrimeSearches.long (A0 : Option Addr) (c0 : Nat) (l0 : List Int) (z n : Int) (w : World) (hr0 : Kd.C (Kd.int .u8) w A0 l0.length l0) (hc0 : l0.length ≤ c0) (c2 : (l0.length : Int) > 65536) :
    Calls Try.prog 6 #[.slice A0 l0.length c0, .int .i64 z, .int .i64 n] w fun e w' => e = .returned (.bool true) ∧ Below w.heap.size w w' := by
  have HR0 := Aside0.mk hr0
  have HC0 := Aside0.mk hc0
  have HB := Aside0.mk (Below.refl w.heap.size w)
  have C2 := Aside0.mk c2
  clear hr0 hc0 c2
  go_enter Try.func6, Try.ntmps6
  go_wp2_with (first
    | (go_at_call 20; (with_reducible refine (tape_New.calls _ _ l0 _ ?side1 HC0.out).mono ?_); (case side1 => repeat (first | exact (Kd.C_below HR0.out HB.out) | (with_reducible refine Kd.C_alloc ?_ _) | (with_reducible refine Kd.C_drewN ?_ _) | (with_reducible refine Kd.C_drew ?_))); rintro e w1 ⟨p, rfl, hp, hb⟩; rw [if_pos C2.out] at hp ⊢; subst hp; have n1_ := Aside0.mk (below_step (by repeat (first | (with_reducible first | exact HB.out | apply below_alloc | apply pw_below_drewN | apply below_drew1) | exact HB.out)) hb); clear HB hb; have HB := n1_; clear n1_)
    | (go_at_call 21; (with_reducible refine (tape_New2.calls _ _ l0 _ ?side1 HC0.out).mono ?_); (case side1 => repeat (first | exact (Kd.C_below HR0.out HB.out) | (with_reducible refine Kd.C_alloc ?_ _) | (with_reducible refine Kd.C_drewN ?_ _) | (with_reducible refine Kd.C_drew ?_))); rintro e w2 ⟨p, rfl, hp, hb⟩; rw [if_pos C2.out] at hp ⊢; subst hp; have n1_ := Aside0.mk (below_step (by repeat (first | (with_reducible first | exact HB.out | apply below_alloc | apply pw_below_drewN | apply below_drew1) | exact HB.out)) hb); clear HB hb; have HB := n1_; clear n1_)
    | (go_at_call 22; refine (search.bad none z _ _ (.inl rfl)).mono ?_; rintro e w6 ⟨rfl, rfl⟩)
    | (go_at_call 23; refine (rsearch.bad none z _ _ (.inl rfl)).mono ?_; rintro e w7 ⟨rfl, rfl⟩))
  all_goals
    go_ret
    exact ⟨rfl, uB⟩
set_option maxHeartbeats 16000000 in
set_option maxRecDepth 100000 in
theorem windbreaklaw05_PrimeSearches.calls (A0 : Option Addr) (c0 : Nat) (l0 : List Int) (z n nn : Int) (k : Nat) (v er : Int) (u' : Nat) (w : World) (hr0 : Kd.C (Kd.int .u8) w A0 l0.length l0) (hc0 : l0.length ≤ c0) (hL : l0.length ≤ 65536) (hnn : (n ≤ 300 ∧ nn = n) ∨ (300 < n ∧ nn = 300)) (k1 : searchF z nn l0 = some (v, er, l0.drop u')) (k2 : rsearchF k z nn l0 0 = some (v, er, u')) (hu : u' ≤ l0.length) :
    Calls Try.prog 6 #[.slice A0 l0.length c0, .int .i64 z, .int .i64 n] w fun e w' => e = .returned (.bool true) ∧ Below w.heap.size w w' := by
  have HR0 := Aside0.mk hr0
  have HC0 := Aside0.mk hc0
  have HL0 := Aside0.mk hL
  have HB := Aside0.mk (Below.refl w.heap.size w)
  have C2 := Aside0.mk (show ¬ (l0.length : Int) > 65536 from by omega)
  have K1 := Aside0.mk k1
  have K2 := Aside0.mk k2
  have HU := Aside0.mk hu
  obtain ⟨M, hM⟩ : ∃ M : Nat, M = l0.length - u' := ⟨_, rfl⟩
  have NM := Aside0.mk hM
  clear hr0 hc0 hL k1 k2 hu hM
  rcases hnn with ⟨hle, rfl⟩ | ⟨hle, rfl⟩
  all_goals
   go_enter Try.func6, Try.ntmps6
   go_wp2_with (first
     | (go_at_call 20; (with_reducible refine (tape_New.calls _ _ l0 _ ?side1 HC0.out).mono ?_); (case side1 => repeat (first | exact (Kd.C_below HR0.out HB.out) | (with_reducible refine Kd.C_alloc ?_ _) | (with_reducible refine Kd.C_drewN ?_ _) | (with_reducible refine Kd.C_drew ?_))); rintro e w1 ⟨p, rfl, hp, hb⟩; rw [if_neg (c := (l0.length : Int) > 65536) (by have := C2.out; omega)] at hp; rw [if_neg (c := (l0.length : Int) > 65536) (by have := C2.out; omega)]; obtain ⟨g1, rfl, hg1, hT1⟩ := hp; have G1 := Aside0.mk (Nat.le_trans (below_size (by repeat (first | (with_reducible first | exact HB.out | apply below_alloc | apply pw_below_drewN | apply below_drew1) | exact HB.out))) hg1); have T1 := Aside0.mk (Tp.mono (ok' := fun k => k < g1) hT1 (fun k hk => hk.2)); have L1 := Aside0.mk (Tp.lt hT1); clear hg1 hT1; have n1_ := Aside0.mk (below_step (by repeat (first | (with_reducible first | exact HB.out | apply below_alloc | apply pw_below_drewN | apply below_drew1) | exact HB.out)) hb); clear HB hb; have HB := n1_; clear n1_)
     | (go_at_call 21; (with_reducible refine (tape_New2.calls _ _ l0 _ ?side1 HC0.out).mono ?_); (case side1 => repeat (first | exact (Kd.C_below HR0.out HB.out) | (with_reducible refine Kd.C_alloc ?_ _) | (with_reducible refine Kd.C_drewN ?_ _) | (with_reducible refine Kd.C_drew ?_))); rintro e w2 ⟨p, rfl, hp, hb⟩; rw [if_neg (c := (l0.length : Int) > 65536) (by have := C2.out; omega)] at hp; rw [if_neg (c := (l0.length : Int) > 65536) (by have := C2.out; omega)]; obtain ⟨g2, rfl, hg2, hT2⟩ := hp; have G2 := Aside0.mk (Nat.lt_of_lt_of_le L1.out hg2); have T2 := Aside0.mk (Tp2.mono (ok' := fun k => g1 < k ∧ k < g2) hT2 (fun k hk => ⟨Nat.lt_of_lt_of_le L1.out hk.1, hk.2⟩)); clear hg2 hT2 L1; have n2_ := Aside0.mk (T1.out.below hb); clear T1; have T1 := n2_; clear n2_; have n1_ := Aside0.mk (below_step (by repeat (first | (with_reducible first | exact HB.out | apply below_alloc | apply pw_below_drewN | apply below_drew1) | exact HB.out)) hb); clear HB hb; have HB := n1_; clear n1_)
     | (go_at_call 22; refine (search.calls g1 l0 z _ (fun k => k < g1) (v, er, l0.drop u') _ T1.out (Nat.lt_irrefl _) K1.out).mono ?_; rintro e w6 ⟨rfl, hT6, hS6⟩; have T6 := Aside0.mk hT6; have T26 := Aside0.mk (T2.out.stayP hS6 (Nat.ne_of_gt G2.out) (fun k hk => Nat.ne_of_gt hk.1)); have HB6 := Aside0.mk (hS6.below HB.out G1.out); clear T1 T2 HB hT6 hS6)
     | (go_at_call 23; refine (rsearch.calls k g2 l0 0 z _ (fun k => g1 < k ∧ k < g2) (v, er, u') _ T26.out (fun h => Nat.lt_irrefl _ h.2) (Nat.zero_le _) HL0.out K2.out).mono ?_; rintro e w7 ⟨rfl, hT7, hS7⟩; have T7 := Aside0.mk (T6.out.stayP hS7 (Nat.ne_of_lt G2.out) (fun k hk => Nat.ne_of_lt (Nat.lt_trans hk G2.out))); have T27 := Aside0.mk hT7; have HB7 := Aside0.mk (hS7.below HB6.out (Nat.le_of_lt (Nat.lt_of_le_of_lt G1.out G2.out))); clear T6 T26 HB6 hT7 hS7)
     | (go_at_call 18; obtain ⟨Al_, cl_, hl_⟩ := T7.out.cell; rw [List.length_drop, ← NM.out] at hl_; (with_reducible refine (tape_Left.calls _ _ _ _ _ hl_).mono ?_); clear hl_; rintro e w8 ⟨rfl, hd⟩; have hb := hd.below; have T28 := Aside0.mk (T27.out.below hb); have HB8 := Aside0.mk (below_step HB7.out hb); clear T7 T27 HB7 hb hd)
     | (go_at_call 19; obtain ⟨Am_, cm_, hl_, hm_⟩ := T28.out.cell; (have tk_ := tape_Left2.calls _ _ _ _ _ _ hl_ hm_); rw [show wrap64 ((l0.length : Int) - (u' : Int)) = (M : Int) from by have := HU.out; have := NM.out; have := HL0.out; unfold wrap64; omega] at tk_; (with_reducible refine tk_.mono ?_); clear hl_ hm_ tk_; rintro e w9 ⟨rfl, hd⟩; have hb := hd.below; have HB9 := Aside0.mk (below_step HB8.out hb); clear T28 HB8 hb hd))
   go_ret
   exact ⟨rfl, uB⟩
theorem windbreaklaw05_PrimeSearches.row (hp : windbreaklaw05_PrimeSearches.Pure) (w : World) (A0 : Option Addr) (n0 c0 : Nat) (x0 : List Int) (h0 : (Kd.slice 5 (Kd.int .u8)).K w x0 [.slice A0 n0 c0]) (o0 : x0.length ≤ maxLen ∧ ∀ x ∈ x0, (Lit.int .u8 x).wf = true) (z : Int) (x1 : Int) (h1 : (Kd.int .i64).K w x1 [.int .i64 z]) (o1 : (Lit.int .i64 x1).wf = true) (m : Int) (x2 : Int) (h2 : (Kd.int .i64).K w x2 [.int .i64 m]) (o2 : (Lit.int .i64 x2).wf = true) :
    Calls Try.prog 6 #[.slice A0 n0 c0, .int .i64 z, .int .i64 m] w fun e w' => e = .returned (.bool true) ∧ Below w.heap.size w w' := by
  obtain ⟨B0, d0, e0, l0, r0⟩ := h0
  have e1 : [Value.int .i64 z] = [.int .i64 x1] := h1
  have e2 : [Value.int .i64 m] = [.int .i64 x2] := h2
  simp only [List.cons.injEq, Value.slice.injEq, Value.int.injEq, and_true, true_and] at e0 e1 e2
  obtain ⟨rfl, rfl, rfl⟩ := e0
  subst e1
  subst e2
  by_cases hL : x0.length ≤ 65536
  · obtain ⟨k, v, er, u', k1, k2, hu⟩ := hp x0 z m hL o0.2 o1 o2
    exact windbreaklaw05_PrimeSearches.calls A0 c0 x0 z m (min m 300) k v er u' w r0 l0 hL (by omega) k1 k2 hu
  · exact windbreaklaw05_PrimeSearches.long A0 c0 x0 z m w r0 l0 (by omega)
end Go.Proofs.Ytlkinjhmgljapab.F
end
section
namespace Go.Proofs.Ytlkinjhmgljapab.F
open Go.RowKit Go.Deep Go.ChangeShapes Go.Proofs.YtlkinjhmgljapabW.PrintWords
set_option linter.unusedSimpArgs false
set_option linter.unusedVariables false
def Opens {α : Type} (P : Program) (t : TypeId) (d : Kd α) (ok : α → Prop) : Prop :=
  ∀ {H : Type} (enc : TypeId × Value → H) (w : World) (held : Bool) (fuel : Nat) (cs : List Value) (x : DataW H × List MemPlace), DataW.trod enc P w 0 (fun _ => true) held fuel t cs = some x → ∃ a : α, d.K w a cs ∧ ok a
theorem Opens.int {P : Program} {t : TypeId} {k : IntKind} (ht : P.underlying t = some (.int k)) : Opens P t (Kd.int k) (fun n => (Lit.int k n).wf = true) := by
  intro H enc w held fuel cs x h
  obtain ⟨n, rfl, _, hw⟩ := DataW.trod_int ht h
  exact ⟨n, rfl, hw⟩
theorem choose_list {α : Type} {n : Nat} {p : Nat → α → Prop} (h : ∀ i, i < n → ∃ x, p i x) : ∃ l : List α, l.length = n ∧ ∀ i x, l[i]? = some x → p i x := by
  induction n with
  | zero => exact ⟨[], rfl, fun i x hx => by simp at hx⟩
  | succ n ih =>
    obtain ⟨l, hl, hp⟩ := ih (fun i hi => h i (by omega))
    obtain ⟨x, hx⟩ := h n (by omega)
    refine ⟨l ++ [x], by simp [hl], fun i y hy => ?_⟩
    rcases Nat.lt_or_ge i l.length with hi | hi
    · rw [List.getElem?_append_left hi] at hy
      exact hp i y hy
    · rw [List.getElem?_append_right hi] at hy
      have h0 : i - l.length = 0 := by
        rcases Nat.eq_zero_or_pos (i - l.length) with h0 | h0
        · exact h0
        · rw [List.getElem?_eq_none (by simp; omega)] at hy; cases hy
      rw [h0] at hy
      obtain rfl : x = y := by simpa using hy
      obtain rfl : i = n := by omega
      exact hx
theorem Opens.slice {α : Type} {P : Program} {t e : TypeId} {d : Kd α} {ok : α → Prop} (ht : P.underlying t = some (.slice e)) (hs : P.cellsOf e = d.sz) (hd : Opens P e d ok) : Opens P t (Kd.slice e d) (fun xs => xs.length ≤ maxLen ∧ ∀ x ∈ xs, ok x) := by
  intro H enc w held fuel cs x h
  rcases open_slice ht h with ⟨rfl, _⟩ | ⟨a, len, cap, m, n, D, Pl, rfl, _, hlc, hcm, hm, _, hel⟩
  · exact ⟨[], ⟨none, 0, rfl, Nat.le_refl _, Kd.C_nil d w⟩, Nat.zero_le _, fun x hx => by cases hx⟩
  · have hlm : len ≤ m := by simp at hm; omega
    have h1 : ∀ i, i < len → ∃ y : α, (∃ c, c.length = d.sz ∧ d.K w y c ∧ ∀ j u, c[j]? = some u → w.cell? (a.add (i * d.sz + j)) = some u) ∧ ok y := by
      intro i hi
      obtain ⟨cs', hc, htr⟩ := hel i (by omega)
      obtain ⟨y, hK, hok⟩ := hd enc w held n cs' _ htr
      obtain ⟨_, hl, hcell⟩ := World.cells?_some hc
      refine ⟨y, ⟨cs', by rw [hl, hs], hK, fun j u hu => ?_⟩, hok⟩
      have hj : j < P.cellsOf e := by have := (List.getElem?_eq_some_iff.1 hu).1; omega
      have := hcell j hj
      rw [Go.Deep.add_add, hs, hu] at this
      exact this
    obtain ⟨xs, hxl, hxp⟩ := choose_list h1
    have hml : len ≤ maxLen := Nat.le_trans hlc hcm
    refine ⟨xs, ⟨some a, cap, by rw [hxl], by omega, ⟨rfl, ?_, fun hp => ⟨a, rfl, fun j p hj => (hxp j p hj).1⟩⟩⟩, by omega, fun x hx => ?_⟩
    · unfold maxLen at hml; omega
    · obtain ⟨i, hi⟩ := List.getElem?_of_mem hx
      exact (hxp i x hi).2
theorem Opens.elem {α : Type} {H : Type} {enc : TypeId × Value → H} {P : Program} {w : World} {held : Bool} {fuel : Nat} {t e : TypeId} {cs : List Value} {x : DataW H × List MemPlace} {n : Nat} (ht : P.underlying t = some (.array n e)) (h : DataW.trod enc P w 0 (fun _ => true) held fuel t cs = some x) {d : Kd α} {ok : α → Prop} (i : Nat) (hi : i < n) (hd : Opens P e d ok) :
    ∃ a : α, d.K w a ((cs.drop (i * P.cellsOf e)).take (P.cellsOf e)) ∧ ok a := by
  obtain ⟨xs, m, _, _, _, hl, hx⟩ := DataW.trod_array ht h
  have h1 := hx i hi
  rw [List.getElem?_eq_getElem (by omega)] at h1
  exact hd enc w held m _ _ h1
end Go.Proofs.Ytlkinjhmgljapab.F
end
section
namespace Go.Proofs.Ytlkinjhmgljapab.Z
open Go.RowKit Go.Proofs.YtlkinjhmgljapabW.PrintWords
set_option linter.unusedSimpArgs false
set_option linter.unusedVariables false
def Evt {α : Type} (g : Nat → Option α) (r : α) : Prop := ∃ n, ∀ k, n ≤ k → g k = some r
theorem Evt.pure {α : Type} (r : α) : Evt (fun _ => some r) r := ⟨0, fun _ _ => rfl⟩
theorem Evt.bind {α β : Type} {g : Nat → Option α} {h : α → Nat → Option β} {a : α} {b : β} (h1 : Evt g a) (h2 : Evt (h a) b) : Evt (fun k => (g k).bind fun x => h x k) b := by
  obtain ⟨n, hn⟩ := h1
  obtain ⟨m, hm⟩ := h2
  exact ⟨n + m, fun k hk => by simp only [hn k (by omega), Option.bind_some]; exact hm k (by omega)⟩
theorem Evt.succ {α : Type} {g : Nat → Option α} {r : α} (h : Evt (fun k => g (k + 1)) r) : Evt g r := by
  obtain ⟨n, hn⟩ := h
  refine ⟨n + 1, fun k hk => ?_⟩
  obtain ⟨m, rfl⟩ : ∃ m, k = m + 1 := ⟨k - 1, by omega⟩
  exact hn m (by omega)
theorem Evt.get {α : Type} {g : Nat → Option α} {r : α} (h : Evt g r) : ∃ k, g k = some r := by
  obtain ⟨n, hn⟩ := h
  exact ⟨n, hn n (Nat.le_refl _)⟩
theorem Evt.congr {α : Type} {g g' : Nat → Option α} {r r' : α} (h : Evt g r) (hg : ∀ k, g' k = g k) (hr : r = r') : Evt g' r' := by
  subst hr
  obtain ⟨n, hn⟩ := h
  exact ⟨n, fun k hk => (hg k).trans (hn k hk)⟩
theorem Evt.ite_pos {α : Type} {c : Prop} [Decidable c] {g h : Nat → Option α} {r : α} (hc : c) (hg : Evt g r) : Evt (fun k => if c then g k else h k) r := by
  obtain ⟨n, hn⟩ := hg
  exact ⟨n, fun k hk => (if_pos hc).trans (hn k hk)⟩
theorem Evt.ite_neg {α : Type} {c : Prop} [Decidable c] {g h : Nat → Option α} {r : α} (hc : ¬ c) (hg : Evt h r) : Evt (fun k => if c then g k else h k) r := by
  obtain ⟨n, hn⟩ := hg
  exact ⟨n, fun k hk => (if_neg hc).trans (hn k hk)⟩
theorem wu64 (x : Int) : IntKind.u64.wrap x = x % 18446744073709551616 := by simp [IntKind.wrap, IntKind.bits, IntKind.signed]
theorem wu64_of {x : Int} (h0 : 0 ≤ x) (h1 : x < 18446744073709551616) : IntKind.u64.wrap x = x := by rw [wu64]; omega
def val (B : Int) : List Int → Int
  | [] => 0
  | d :: l => d + B * val B l
def Dig (B : Int) (l : List Int) : Prop := ∀ x, x ∈ l → 0 ≤ x ∧ x < B
def Can (l : List Int) : Prop := ∀ h : l ≠ [], l.getLast h ≠ 0
theorem Dig.cons {B d : Int} {l : List Int} : Dig B (d :: l) ↔ (0 ≤ d ∧ d < B) ∧ Dig B l := by
  unfold Dig
  simp
theorem Dig.take {B : Int} {l : List Int} (h : Dig B l) (n : Nat) : Dig B (l.take n) := fun x hx => h x (List.mem_of_mem_take hx)
theorem Dig.drop {B : Int} {l : List Int} (h : Dig B l) (n : Nat) : Dig B (l.drop n) := fun x hx => h x (List.mem_of_mem_drop hx)
theorem Dig.getD {B : Int} {l : List Int} (h : Dig B l) (hB : 0 < B) (i : Nat) : 0 ≤ l.getD i 0 ∧ l.getD i 0 < B := by
  rw [List.getD_eq_getElem?_getD]
  cases he : l[i]? with
  | none => simp; omega
  | some x => simpa using h x (List.mem_of_getElem? he)
theorem Dig.set {B : Int} {l : List Int} (h : Dig B l) (i : Nat) {v : Int} (hv : 0 ≤ v ∧ v < B) : Dig B (l.set i v) := by
  intro x hx
  rcases List.mem_or_eq_of_mem_set hx with hx | rfl
  · exact h x hx
  · exact hv
theorem Dig.replicate {B : Int} (hB : 0 < B) (n : Nat) : Dig B (List.replicate n 0) := by
  intro x hx
  have := List.eq_of_mem_replicate hx
  omega
theorem val_append (B : Int) (l m : List Int) : val B (l ++ m) = val B l + B ^ l.length * val B m := by
  induction l with
  | nil => simp [val]
  | cons d l ih => simp only [List.cons_append, val, ih, List.length_cons, Int.pow_succ]; grind
theorem val_nonneg {B : Int} (hB : 0 < B) {l : List Int} (h : Dig B l) : 0 ≤ val B l := by
  induction l with
  | nil => simp [val]
  | cons d l ih =>
    have h' := Dig.cons.1 h
    have h1 := ih h'.2
    have : 0 ≤ B * val B l := Int.mul_nonneg (by omega) h1
    simp only [val]
    omega
theorem val_lt {B : Int} (hB : 0 < B) {l : List Int} (h : Dig B l) : val B l < B ^ l.length := by
  induction l with
  | nil => simp [val]
  | cons d l ih =>
    have h' := Dig.cons.1 h
    have h1 := ih h'.2
    have h2 : B * val B l ≤ B * (B ^ l.length - 1) := Int.mul_le_mul_of_nonneg_left (by omega) (by omega)
    have h3 : B * (B ^ l.length - 1) = B * B ^ l.length - B := by grind
    simp only [val, List.length_cons, Int.pow_succ]
    have h4 : B ^ l.length * B = B * B ^ l.length := Int.mul_comm _ _
    omega
theorem Can.cons {d : Int} {l : List Int} (h : Can l) (hl : l ≠ []) : Can (d :: l) := by
  intro _
  rw [List.getLast_cons hl]
  exact h hl
theorem pow_mono {B : Int} (hB : 0 < B) {m n : Nat} (h : m ≤ n) : B ^ m ≤ B ^ n := by
  induction n with
  | zero => have : m = 0 := by omega
            subst this
            exact Int.le_refl _
  | succ n ih =>
    by_cases e : m = n + 1
    · subst e
      exact Int.le_refl _
    · have h1 := ih (by omega)
      have h2 : 0 < B ^ n := Int.pow_pos hB
      have h3 : 1 * B ^ n ≤ B * B ^ n := Int.mul_le_mul_of_nonneg_right (by omega) (by omega)
      rw [Int.pow_succ, Int.mul_comm]
      omega
def rightB (l : List Int) : Bool := decide (l.length ≤ 64) && ((l.length == 0) || (l.getD (l.length - 1) 0 != 0))
theorem pow_cast (B n : Nat) : ((B : Int)) ^ n = ((B ^ n : Nat) : Int) := by simp
def b64 : Nat := 18446744073709551616
end Go.Proofs.Ytlkinjhmgljapab.Z
end
section
namespace Go.Proofs.Ytlkinjhmgljapab.Z
open Go.RowKit Go.Proofs.Ytlkinjhmgljapab.F Go.Proofs.YtlkinjhmgljapabW.PrintWords
set_option linter.unusedSimpArgs false
set_option linter.unusedVariables false
theorem ref5_least_loop (x : Nat) (hx : x < 1099511627776) (n : Nat) : ∀ d : Nat, d + n = 1048578 → 2 ≤ d → (d = 2 ∨ (d - 1) * (d - 1) ≤ x) → (∀ j, 2 ≤ j → j < d → x % j ≠ 0) →
    Evt (fun k => windbreakref05_least.l0 k (x : Int) (d : Int)) ((leastV x : Nat) : Int) := by
  induction n with
  | zero =>
    intro d hd h2 hs _
    exfalso
    have e : d - 1 = 1048577 := by omega
    rw [e] at hs
    omega
  | succ n ih =>
    intro d hd h2 hs hj
    have hdd : d * d ≤ 1048578 * 1048578 := Nat.mul_le_mul (by omega) (by omega)
    have c1 : ((d * d : Nat) : Int) = (d : Int) * (d : Int) := Int.natCast_mul d d
    refine Evt.succ ?_
    simp only [windbreakref05_least.l0]
    rw [wu64_of (x := (d : Int) * (d : Int)) (by omega) (by omega)]
    by_cases h : d * d ≤ x
    · refine Evt.ite_pos (by omega) (Evt.ite_neg (by omega) ?_)
      have e : Int.tmod (x : Int) (d : Int) = ((x % d : Nat) : Int) := by
        rw [Int.tmod_eq_emod_of_nonneg (by omega)]; rfl
      rw [e]
      by_cases hm : x % d = 0
      · refine Evt.ite_pos (by omega) ?_
        rw [leastV_some h2 h hm hj]
        exact Evt.pure _
      · refine Evt.ite_neg (by omega) ?_
        rw [wu64_of (x := (d : Int) + 1) (by omega) (by omega)]
        refine ih (d + 1) (by omega) (by omega) (Or.inr (by simpa using h)) (fun j a b => ?_)
        by_cases e : j = d
        · subst e; exact hm
        · exact hj j a (by omega)
    · refine Evt.ite_neg (by omega) ?_
      rw [leastV_none (fun j a b c => by
        rcases Nat.lt_or_ge j d with h' | h'
        · exact hj j a h' c
        · have := Nat.mul_le_mul h' h'
          omega)]
      exact Evt.pure _
theorem ref5_least_ev (x : Nat) (hx : x < 1099511627776) : Evt (fun k => windbreakref05_least.f k (x : Int)) ((leastV x : Nat) : Int) := by
  unfold windbreakref05_least.f
  exact ref5_least_loop x hx 1048576 2 (by omega) (Nat.le_refl _) (Or.inl rfl) (fun j a b => by omega)
end Go.Proofs.Ytlkinjhmgljapab.Z
end
section
namespace Go.Proofs.Ytlkinjhmgljapab.Z
open Go.RowKit Go.Proofs.Ytlkinjhmgljapab.F Go.Proofs.YtlkinjhmgljapabW.PrintWords Go.Proofs.YtlkinjhmgljapabW.PrintMore
set_option linter.unusedSimpArgs false
set_option linter.unusedVariables false
theorem wraps_u64 (n : Int) (h0 : 0 ≤ n) (h1 : n < 2 ^ 64) : IntKind.u64.wrap n = n := wu64_of h0 (by omega)
theorem or_u64 {x y : Int} (s : Nat) (hs : s ≤ 64) (hx0 : 0 ≤ x) (hx : x % 2 ^ s = 0) (hx1 : x < 18446744073709551616) (hy0 : 0 ≤ y) (hy : y < 2 ^ s) : Go.bits .or .u64 x y = x + y := by
  have h2 : (2 : Int) ^ s ≤ 2 ^ 64 := pow_mono (by omega) hs
  exact bits_join .u64 64 (by decide) wraps_u64 s x y hx0 hx (by omega) hy0 hy (by omega)
theorem or_comm_u64 {x y : Int} (hx0 : 0 ≤ x) (hx1 : x < 18446744073709551616) (hy0 : 0 ≤ y) (hy1 : y < 18446744073709551616) : Go.bits .or .u64 x y = Go.bits .or .u64 y x := by
  obtain ⟨a, rfl⟩ := Int.eq_ofNat_of_zero_le hx0
  obtain ⟨b, rfl⟩ := Int.eq_ofNat_of_zero_le hy0
  rw [(bits_nat .u64 64 (by decide) wraps_u64 a b (by omega) (by omega)).2, (bits_nat .u64 64 (by decide) wraps_u64 b a (by omega) (by omega)).2, Nat.or_comm]
end Go.Proofs.Ytlkinjhmgljapab.Z
end
section
namespace Go.Proofs.Ytlkinjhmgljapab.Z
open Go.RowKit Go.Proofs.YtlkinjhmgljapabW.PrintWords
set_option linter.unusedSimpArgs false
set_option linter.unusedVariables false
def b8 : Nat := 256
theorem b8_pos : (0 : Int) < (b8 : Int) := by decide
theorem b8_pow2 (m : Nat) : b8 ^ m = 2 ^ (8 * m) := by
  have h : b8 = 2 ^ 8 := by decide
  rw [h, ← Nat.pow_mul]
theorem tdiv_nat (i : Nat) (c : Nat) : Int.tdiv (i : Int) (c : Int) = ((i / c : Nat) : Int) := by
  rw [Int.tdiv_eq_ediv_of_nonneg (by omega)]; simp
theorem tmod_nat (i : Nat) (c : Nat) : Int.tmod (i : Int) (c : Int) = ((i % c : Nat) : Int) := by
  rw [Int.tmod_eq_emod_of_nonneg (by omega)]; simp
end Go.Proofs.Ytlkinjhmgljapab.Z
end
section
namespace Go.Proofs.Ytlkinjhmgljapab.Z
open Go.RowKit Go.Proofs.Ytlkinjhmgljapab.F Go.Proofs.YtlkinjhmgljapabW.PrintWords
set_option linter.unusedSimpArgs false
set_option linter.unusedVariables false
end Go.Proofs.Ytlkinjhmgljapab.Z
end
section
namespace Go.Proofs.Ytlkinjhmgljapab.Z
open Go.RowKit Go.Proofs.Ytlkinjhmgljapab.F Go.Proofs.YtlkinjhmgljapabW.PrintWords Go.Proofs.YtlkinjhmgljapabW.PrintMore
set_option linter.unusedSimpArgs false
set_option linter.unusedVariables false
def bv (b : List Int) : Nat := (val (b8 : Int) b.reverse).toNat
theorem bv_lt {b : List Int} (d : Dig (b8 : Int) b) : bv b < 2 ^ (8 * b.length) := by
  have h1 : Dig (b8 : Int) b.reverse := fun x hx => d x (List.mem_reverse.1 hx)
  have h2 := val_lt b8_pos h1
  rw [pow_cast, List.length_reverse] at h2
  have h3 := val_nonneg b8_pos h1
  rw [← b8_pow2]
  unfold bv
  omega
theorem bv_cons {x : Int} {b : List Int} (d : Dig (b8 : Int) (x :: b)) : bv (x :: b) = bv b + 2 ^ (8 * b.length) * x.toNat := by
  obtain ⟨dx, db⟩ := Dig.cons.1 d
  have h1 : Dig (b8 : Int) b.reverse := fun y hy => db y (List.mem_reverse.1 hy)
  have h3 := val_nonneg b8_pos h1
  unfold bv
  rw [List.reverse_cons, val_append, List.length_reverse, pow_cast, b8_pow2]
  simp only [val, Int.mul_zero, Int.add_zero]
  have h4 : (((2 ^ (8 * b.length) : Nat) : Int) * x) = ((2 ^ (8 * b.length) * x.toNat : Nat) : Int) := by
    rw [Int.natCast_mul, Int.toNat_of_nonneg dx.1]
  rw [h4]
  omega
theorem taken_facts {L : List Int} (dL : Dig (b8 : Int) L) {z : Nat} (u : Nat) (h1 : ¬ L.length - u < (z + 7) / 8) : Dig (b8 : Int) ((L.drop u).take ((z + 7) / 8)) ∧ ((L.drop u).take ((z + 7) / 8)).length = (z + 7) / 8 :=
  ⟨fun x hx => dL x (List.mem_of_mem_drop (List.mem_of_mem_take hx)), by rw [List.length_take, List.length_drop]; omega⟩
section
variable {n L : List Int} (hr : rightB n = true) (hn : n.length ≤ maxLen) (dn : Dig (b64 : Int) n) (dL : Dig (b8 : Int) L) {z : Nat} (hz : 0 < z) (hz2 : z ≤ 4096)
include hr hn dn dL hz hz2
end
end Go.Proofs.Ytlkinjhmgljapab.Z
end
section
namespace Go.Proofs.Ytlkinjhmgljapab.Z
open Go.RowKit Go.Proofs.Ytlkinjhmgljapab.F Go.Proofs.YtlkinjhmgljapabW.PrintWords Go.Proofs.YtlkinjhmgljapabW.PrintMore
set_option linter.unusedSimpArgs false
set_option linter.unusedVariables false
section
variable {n L : List Int} (hn : n.length ≤ maxLen) (dn : Dig (b64 : Int) n) (dL : Dig (b8 : Int) L)
include hn dn dL
end
section
variable {m : Int} (hm : m < 9223372036854775808) {L : List Int} (dL : Dig (b8 : Int) L)
include hm dL
end
end Go.Proofs.Ytlkinjhmgljapab.Z
end
section
namespace Go.Proofs.Ytlkinjhmgljapab.Z
open Go.RowKit Go.Proofs.Ytlkinjhmgljapab.F Go.Proofs.YtlkinjhmgljapabW.PrintWords Go.Proofs.YtlkinjhmgljapabW.PrintMore
set_option linter.unusedSimpArgs false
set_option linter.unusedVariables false
theorem bv_short {X : List Int} (d : Dig (b8 : Int) X) (h : X.length ≤ 5) : bv X < 1099511627776 := by
  have h1 := bv_lt d
  have h2 : 2 ^ (8 * X.length) ≤ 2 ^ 40 := Nat.pow_le_pow_right (by omega) (by omega)
  omega
theorem accR_bv (X : List Int) : ∀ a : Nat, Dig (b8 : Int) X → a * 2 ^ (8 * X.length) + bv X < 18446744073709551616 → accR (a : Int) X = ((a * 2 ^ (8 * X.length) + bv X : Nat) : Int) := by
  induction X with
  | nil =>
    intro a _ _
    simp [accR, bv, val]
  | cons c l ih =>
    intro a d h
    obtain ⟨dc, dl⟩ := Dig.cons.1 d
    have hb : (b8 : Int) = 256 := rfl
    rw [hb] at dc
    obtain ⟨n, rfl⟩ := Int.eq_ofNat_of_zero_le dc.1
    rw [bv_cons d] at h ⊢
    rw [Int.toNat_natCast] at h ⊢
    have e1 : 2 ^ (8 * ((n : Int) :: l).length) = 256 * 2 ^ (8 * l.length) := by
      rw [List.length_cons, show 8 * (l.length + 1) = 8 + 8 * l.length from by omega, Nat.pow_add]
    rw [e1] at h ⊢
    have hp : 0 < 2 ^ (8 * l.length) := Nat.pow_pos (by omega)
    generalize 2 ^ (8 * l.length) = P at h ih hp ⊢
    have e2 : a * (256 * P) + (bv l + P * n) = (a * 256 + n) * P + bv l := by
      rw [Nat.add_mul, Nat.mul_assoc, Nat.mul_comm P n]
      omega
    rw [e2] at h ⊢
    have h3 : (a * 256 + n) * 1 ≤ (a * 256 + n) * P := Nat.mul_le_mul_left _ hp
    rw [accR]
    have e3 : IntKind.u64.wrap (IntKind.u64.wrap ((a : Int) * 256) + IntKind.u64.wrap (n : Int)) = ((a * 256 + n : Nat) : Int) := by
      simp [IntKind.wrap, IntKind.bits, IntKind.signed]
      omega
    rw [e3]
    exact ih _ dl h
theorem accV_bv (X : List Int) : ∀ a : Nat, Dig (b8 : Int) X → a * 2 ^ (8 * X.length) + bv X < 18446744073709551616 → accV (a : Int) X = ((a * 2 ^ (8 * X.length) + bv X : Nat) : Int) := by
  induction X with
  | nil =>
    intro a _ _
    simp [accV, bv, val]
  | cons c l ih =>
    intro a d h
    obtain ⟨dc, dl⟩ := Dig.cons.1 d
    have hb : (b8 : Int) = 256 := rfl
    rw [hb] at dc
    obtain ⟨n, rfl⟩ := Int.eq_ofNat_of_zero_le dc.1
    rw [bv_cons d] at h ⊢
    rw [Int.toNat_natCast] at h ⊢
    have e1 : 2 ^ (8 * ((n : Int) :: l).length) = 256 * 2 ^ (8 * l.length) := by
      rw [List.length_cons, show 8 * (l.length + 1) = 8 + 8 * l.length from by omega, Nat.pow_add]
    rw [e1] at h ⊢
    have hp : 0 < 2 ^ (8 * l.length) := Nat.pow_pos (by omega)
    generalize 2 ^ (8 * l.length) = P at h ih hp ⊢
    have e2 : a * (256 * P) + (bv l + P * n) = (a * 256 + n) * P + bv l := by
      rw [Nat.add_mul, Nat.mul_assoc, Nat.mul_comm P n]
      omega
    rw [e2] at h ⊢
    have h3 : (a * 256 + n) * 1 ≤ (a * 256 + n) * P := Nat.mul_le_mul_left _ hp
    rw [accV]
    have e3 : IntKind.u64.wrap ((a : Int) * 256) = ((a * 256 : Nat) : Int) := by
      simp [IntKind.wrap, IntKind.bits, IntKind.signed]
      omega
    have e4 : IntKind.u64.wrap (n : Int) = (n : Int) := by
      simp [IntKind.wrap, IntKind.bits, IntKind.signed]
      omega
    rw [e3, e4, or_u64 8 (by omega) (by omega) (by omega) (by omega) (by omega) (by omega)]
    rw [show ((a * 256 : Nat) : Int) + (n : Int) = ((a * 256 + n : Nat) : Int) from by omega]
    exact ih _ dl h
def oddN (T x : Nat) : Nat := if (x % T + T) % 2 = 0 then x % T + T + 1 else x % T + T
theorem or_one {v : Nat} (h : v < 18446744073709551615) : Go.bits .or .u64 (v : Int) 1 = ((if v % 2 = 0 then v + 1 else v : Nat) : Int) := by
  by_cases hv : v % 2 = 0
  · rw [if_pos hv, or_u64 1 (by omega) (by omega) (by omega) (by omega) (by omega) (by omega)]
    omega
  · rw [if_neg hv]
    obtain ⟨a, rfl⟩ : ∃ a, v = a + 1 := ⟨v - 1, by omega⟩
    have e1 : Go.bits .or .u64 (a : Int) 1 = ((a + 1 : Nat) : Int) := by
      rw [or_u64 1 (by omega) (by omega) (by omega) (by omega) (by omega) (by omega)]
      omega
    have e2 : Go.bits .or .u64 (a : Int) ((1 : Nat) : Int) = ((a ||| 1 : Nat) : Int) := (bits_nat .u64 64 (by decide) wraps_u64 a 1 (by omega) (by omega)).2
    have e3 : a + 1 = a ||| 1 := by
      have : ((a + 1 : Nat) : Int) = ((a ||| 1 : Nat) : Int) := e1.symm.trans e2
      omega
    have e4 : Go.bits .or .u64 ((a + 1 : Nat) : Int) ((1 : Nat) : Int) = (((a + 1) ||| 1 : Nat) : Int) := (bits_nat .u64 64 (by decide) wraps_u64 (a + 1) 1 (by omega) (by omega)).2
    refine e4.trans ?_
    rw [e3, Nat.or_assoc, Nat.or_self]
theorem oddV_is {z x : Nat} (h1 : 8 ≤ z) (h2 : z ≤ 40) (hx : x < 1099511627776) : oddV (z : Int) (x : Int) = ((oddN (2 ^ (z - 1)) x : Nat) : Int) := by
  unfold oddV oddN
  rw [Int.toNat_natCast]
  have hT : 2 ^ (z - 1) ≤ 2 ^ 39 := Nat.pow_le_pow_right (by omega) (by omega)
  have hT0 : 0 < 2 ^ (z - 1) := Nat.pow_pos (by omega)
  have w1 : IntKind.u64.wrap (2 ^ (z - 1)) = ((2 ^ (z - 1) : Nat) : Int) := by
    have e : ((2 : Int) ^ (z - 1)) = ((2 ^ (z - 1) : Nat) : Int) := by simp
    rw [e, wraps_u64 _ (by omega) (by omega)]
  have w2 : IntKind.u64.wrap (IntKind.u64.wrap (2 ^ (z - 1)) - 1) = ((2 : Int) ^ (z - 1) - 1) := by
    have e : ((2 : Int) ^ (z - 1)) = ((2 ^ (z - 1) : Nat) : Int) := by simp
    rw [w1, e, wraps_u64 _ (by omega) (by omega)]
  rw [w2, w1, bits_mask .u64 64 (by decide) wraps_u64 (z - 1) (by omega) (x : Int) (by omega) (by omega)]
  have e3 : (x : Int) % 2 ^ (z - 1) = ((x % 2 ^ (z - 1) : Nat) : Int) := by simp
  rw [e3]
  have hr : x % 2 ^ (z - 1) < 2 ^ (z - 1) := Nat.mod_lt _ hT0
  have hpi : ((2 : Int) ^ (z - 1)) = ((2 ^ (z - 1) : Nat) : Int) := by simp
  have hm : ((2 ^ (z - 1) : Nat) : Int) % 2 ^ (z - 1) = 0 := by rw [hpi]; exact Int.emod_self
  have hr2 : ((x % 2 ^ (z - 1) : Nat) : Int) < 2 ^ (z - 1) := by rw [hpi]; exact Int.ofNat_lt.2 hr
  generalize hTe : 2 ^ (z - 1) = T at hr hT hT0 hm hr2 hpi ⊢
  rw [or_comm_u64 (x := ((x % T : Nat) : Int)) (y := (T : Int)) (by omega) (by omega) (by omega) (by omega), or_u64 (z - 1) (by omega) (by omega) hm (by omega) (by omega) hr2]
  rw [show (T : Int) + ((x % T : Nat) : Int) = ((x % T + T : Nat) : Int) from by omega, or_one (by omega)]
theorem oddR_is {T x : Nat} (hT : T ≤ 549755813888) (hT0 : 0 < T) : oddR (T : Int) (x : Int) = ((oddN T x : Nat) : Int) := by
  unfold oddR oddN
  have hr : x % T < T := Nat.mod_lt _ hT0
  have e1 : Int.tmod (x : Int) (T : Int) = ((x % T : Nat) : Int) := tmod_nat x T
  rw [e1]
  have e2 : IntKind.u64.wrap (((x % T : Nat) : Int) + (T : Int)) = ((x % T + T : Nat) : Int) := by
    rw [wraps_u64 _ (by omega) (by omega)]
    omega
  rw [e2]
  have e3 : Int.tmod ((x % T + T : Nat) : Int) 2 = (((x % T + T) % 2 : Nat) : Int) := tmod_nat (x % T + T) 2
  rw [e3]
  by_cases h : (x % T + T) % 2 = 0
  · rw [if_pos h, if_pos (by omega), wraps_u64 _ (by omega) (by omega)]
    omega
  · rw [if_neg h, if_neg (by omega)]
theorem oddN_lt {T x : Nat} (hT : T ≤ 549755813888) (hT0 : 0 < T) (h2 : T % 2 = 0) : oddN T x < 1099511627776 := by
  unfold oddN
  have hr : x % T < T := Nat.mod_lt _ hT0
  split <;> omega
def searchU (z : Nat) (L : List Int) : Nat → Nat → Int × Int × Nat
  | 0, u => (0, 8, u)
  | t + 1, u => if L.length - u < (z + 7) / 8 then (0, 7, u) else if leastV (oddN (2 ^ (z - 1)) (bv ((L.drop u).take ((z + 7) / 8)))) = oddN (2 ^ (z - 1)) (bv ((L.drop u).take ((z + 7) / 8))) then (((oddN (2 ^ (z - 1)) (bv ((L.drop u).take ((z + 7) / 8))) : Nat) : Int), 0, u + (z + 7) / 8) else searchU z L t (u + (z + 7) / 8)
theorem searchU_le {z : Nat} {L : List Int} (t : Nat) : ∀ u, u ≤ L.length → (searchU z L t u).2.2 ≤ L.length := by
  induction t with
  | zero => exact fun u hu => hu
  | succ t ih =>
    intro u hu
    rw [searchU]
    split
    · exact hu
    · split
      · show u + (z + 7) / 8 ≤ L.length
        omega
      · exact ih _ (by omega)
theorem pow_facts_s {z : Nat} (h1 : 8 ≤ z) (h2 : z ≤ 40) : 2 ^ (z - 1) ≤ 549755813888 ∧ 0 < 2 ^ (z - 1) ∧ 2 ^ (z - 1) % 2 = 0 := by
  have hT : 2 ^ (z - 1) ≤ 2 ^ 39 := Nat.pow_le_pow_right (by omega) (by omega)
  refine ⟨hT, Nat.pow_pos (by omega), ?_⟩
  rw [show z - 1 = (z - 2) + 1 from by omega, Nat.pow_succ]
  omega
section
variable {z : Nat} (h1 : 8 ≤ z) (h2 : z ≤ 40) {L : List Int} (dL : Dig (b8 : Int) L)
include h1 h2 dL
theorem search_is (t : Nat) : ∀ u, u ≤ L.length → search.f (z : Int) t (L.drop u) = some ((searchU z L t u).1, (searchU z L t u).2.1, L.drop (searchU z L t u).2.2) := by
  induction t with
  | zero => exact fun u hu => rfl
  | succ t ih =>
    intro u hu
    rw [search.f, searchU, show (((z : Int) + 7) / 8).toNat = (z + 7) / 8 from by omega]
    by_cases c1 : L.length - u < (z + 7) / 8
    · rw [if_pos c1, if_pos (by rw [List.length_drop]; omega)]
    · rw [if_neg c1, if_neg (by rw [List.length_drop]; omega)]
      obtain ⟨d1, l1⟩ := taken_facts dL u c1
      generalize (L.drop u).take ((z + 7) / 8) = X at d1 l1
      have hb := bv_short d1 (by omega)
      have ha := accV_bv X 0 d1 (by omega)
      rw [Nat.zero_mul, Nat.zero_add] at ha
      obtain ⟨p1, p2, p3⟩ := pow_facts_s h1 h2
      have hlt := oddN_lt (x := bv X) p1 p2 p3
      rw [show accV 0 X = ((bv X : Nat) : Int) from ha, oddV_is h1 h2 hb]
      have hl : prime_least.f ((oddN (2 ^ (z - 1)) (bv X) : Nat) : Int) = some ((leastV (oddN (2 ^ (z - 1)) (bv X)) : Nat) : Int) := by
        unfold prime_least.f
        rw [if_pos ⟨by omega, by omega⟩, Int.toNat_natCast]
      rw [hl]
      simp only [Option.bind_some]
      by_cases c2 : leastV (oddN (2 ^ (z - 1)) (bv X)) = oddN (2 ^ (z - 1)) (bv X)
      · rw [if_pos c2, if_pos (by omega), List.drop_drop, c2]
      · rw [if_neg c2, if_neg (by omega), List.drop_drop]
        exact ih _ (by omega)
theorem rsearch_ev (t : Nat) : ∀ u, u ≤ L.length → Evt (fun k => rsearch.f k (z : Int) ((2 ^ (z - 1) : Nat) : Int) L t u) (searchU z L t u) := by
  induction t with
  | zero => exact fun u hu => (Evt.pure _).congr (fun k => rfl) rfl
  | succ t ih =>
    intro u hu
    simp only [rsearch.f]
    rw [searchU, show (((z : Int) + 7) / 8).toNat = (z + 7) / 8 from by omega]
    by_cases c1 : L.length - u < (z + 7) / 8
    · rw [if_pos c1]
      exact Evt.ite_pos (by rw [List.length_drop]; omega) (Evt.pure _)
    · rw [if_neg c1]
      refine Evt.ite_neg (by rw [List.length_drop]; omega) ?_
      obtain ⟨d1, l1⟩ := taken_facts dL u c1
      generalize (L.drop u).take ((z + 7) / 8) = X at d1 l1
      have hb := bv_short d1 (by omega)
      have ha := accR_bv X 0 d1 (by omega)
      rw [Nat.zero_mul, Nat.zero_add] at ha
      obtain ⟨p1, p2, p3⟩ := pow_facts_s h1 h2
      have hlt := oddN_lt (x := bv X) p1 p2 p3
      rw [show accR 0 X = ((bv X : Nat) : Int) from ha, oddR_is p1 p2]
      refine Evt.bind (ref5_least_ev _ hlt) ?_
      by_cases c2 : leastV (oddN (2 ^ (z - 1)) (bv X)) = oddN (2 ^ (z - 1)) (bv X)
      · rw [if_pos c2]
        refine Evt.ite_pos (by omega) ?_
        rw [c2]
        exact Evt.pure _
      · rw [if_neg c2]
        exact Evt.ite_neg (by omega) (ih _ (by omega))
end
def searchAll (z n : Int) (L : List Int) : Int × Int × Nat := if z < 8 ∨ 40 < z ∨ n < 1 ∨ 10000 < n then (0, 1, 0) else searchU z.toNat L n.toNat 0
theorem search_both (z n : Int) {L : List Int} (dL : Dig (b8 : Int) L) : searchF z n L = some ((searchAll z n L).1, (searchAll z n L).2.1, L.drop (searchAll z n L).2.2) ∧ Evt (fun k => rsearchF k z n L 0) (searchAll z n L) ∧ (searchAll z n L).2.2 ≤ L.length := by
  unfold searchF rsearchF searchAll
  by_cases h : z < 8 ∨ 40 < z ∨ n < 1 ∨ 10000 < n
  · rw [if_pos h, if_pos h]
    exact ⟨rfl, Evt.ite_pos h (Evt.pure _), Nat.zero_le _⟩
  · rw [if_neg h, if_neg h]
    obtain ⟨m, rfl⟩ := Int.eq_ofNat_of_zero_le (show 0 ≤ z by omega)
    rw [Int.toNat_natCast]
    refine ⟨?_, Evt.ite_neg h ?_, searchU_le _ 0 (Nat.zero_le _)⟩
    · have e := search_is (z := m) (by omega) (by omega) dL n.toNat 0 (Nat.zero_le _)
      rw [List.drop_zero] at e
      exact e
    · exact rsearch_ev (z := m) (by omega) (by omega) dL n.toNat 0 (Nat.zero_le _)
end Go.Proofs.Ytlkinjhmgljapab.Z
end
section
namespace Go.Proofs.Ytlkinjhmgljapab.Pure
open Go.RowKit Go.Proofs.Ytlkinjhmgljapab.F Go.Proofs.Ytlkinjhmgljapab.Z
set_option linter.unusedSimpArgs false
set_option linter.unusedVariables false
theorem dig8p {L : List Int} (h : ∀ x ∈ L, (Lit.int .u8 x).wf = true) : Dig (b8 : Int) L := by
  intro x hx
  have h := h x hx
  simp [Lit.wf, IntKind.min, IntKind.max, IntKind.bits, IntKind.signed] at h
  exact ⟨by omega, show x < 256 by omega⟩
theorem PrimeSearches : windbreaklaw05_PrimeSearches.Pure := by
  intro L z n _ hw _ _
  obtain ⟨a, ⟨k, b⟩, c⟩ := search_both z (min n 300) (dig8p hw)
  exact ⟨k, _, _, _, a, b k (Nat.le_refl _), c⟩
end Go.Proofs.Ytlkinjhmgljapab.Pure
end
section
namespace Go.Proofs.YtlkinjhmgljapabW.PrintWords
open Go.ChangeShapes Go.WideShapes
end Go.Proofs.YtlkinjhmgljapabW.PrintWords
end
section
namespace Go.Proofs.Ytlkinjhmgljapab.primeSearches
open Go.ChangeShapes Go.WideShapes Go.ChangeAt Go.RowKit Go.Proofs.Ytlkinjhmgljapab.F Go.Proofs.YtlkinjhmgljapabW.PrintWords
set_option linter.unusedSimpArgs false
open Go.ChangeMaps (open_string shut_string)
set_option linter.unusedVariables false
theorem own : ownKnob Try.prog.godebug = none := by kernel_rfl
theorem laidOut : laidOutB Try.prog = true := by kernel_rfl
set_option maxRecDepth 100000 in
theorem lifted (os : Os) (started : os.Started) (H : Type) (enc : TypeId × Value → H) :
    ReturnsInHanded {} Try.checked os 6 .any (Rows.primeSearchesSpec.pre6 enc Try.prog Try.f6 Rows.primeSearchesRow.domain false) (Rows.primeSearchesSpec.post enc Try.prog Try.f6 false true false false) := by
  refine returnsInHanded_of_change_sized (C := Try.checked) own started (by kernel_rfl) Try.func6
    (ChangeSpec.witness6 (enc := enc) (C := Try.checked) false ⟨#[], #[.slice none 0 0, .int .i64 0, .int .i64 0], []⟩ 8 (by kernel_rfl) (by kernel_rfl) (by kernel_rfl) (by kernel_rfl)) ?_
  intro W base args ds gs before hval0 hW hcnd hsz0 _
  have hsz : (DataW.weightsEach Try.prog (Try.f6.params.toList ++ Rows.primeSearchesSpec.plain.varTypes Try.prog) (ds ++ gs)).all (· ≤ reachBytes) = true := hsz0
  have hval : ∀ (j : Nat) t v, Try.f6.params[j]? = some t → args[j]? = some v → Value.okWide Try.prog W .any base t v := hval0
  have hW' := hW
  obtain ⟨p, q, hA0, hV, rfl, hfz, hnd⟩ := hW
  have hA : DataW.TrodAll enc Try.prog W 0 (fun _ => true) true Try.f6.params.toList args.toList ds p := hA0
  rw [Try.params6] at hA hval hsz
  obtain ⟨v0, vs0, d0, ds0, p0, q0, hargs, rfl, rfl, h0, r0⟩ := trodAll_cons hA
  obtain ⟨v1, vs1, d1, ds1, p1, q1, rfl, rfl, rfl, h1, r1⟩ := trodAll_cons r0
  obtain ⟨v2, vs2, d2, ds2, p2, q2, rfl, rfl, rfl, h2, r2⟩ := trodAll_cons r1
  obtain ⟨rfl, rfl, rfl⟩ := trodAll_nil r2
  obtain rfl : args = #[v0, v1, v2] := by cases args; simp_all
  obtain ⟨rfl, rfl⟩ := trodVars_none hV
  obtain ⟨a0, len0, cap0, rfl⟩ := okWide_slice Try.underlying22 (hval 0 22 v0 rfl rfl)
  have k0 := h0
  have lt0 : ∀ x ∈ p0, x.block < W.heap.size := by obtain ⟨m, hm⟩ := k0; exact DataW.trod_lt m _ _ _ hm
  obtain ⟨m0, hm0⟩ := h0
  obtain ⟨x0, hK0, ok0⟩ := (Opens.slice Try.underlying22 (by kernel_rfl) (Opens.int Try.underlying5)) enc W true m0 _ _ hm0
  obtain ⟨n1, rfl⟩ := okWide_int Try.underlying3 (hval 1 3 v1 rfl rfl)
  have k1 := h1
  have lt1 : ∀ x ∈ p1, x.block < W.heap.size := by obtain ⟨m, hm⟩ := k1; exact DataW.trod_lt m _ _ _ hm
  obtain ⟨m1, hm1⟩ := h1
  obtain ⟨x1, hK1, ok1⟩ := (Opens.int Try.underlying3) enc W true m1 _ _ hm1
  obtain ⟨n2, rfl⟩ := okWide_int Try.underlying3 (hval 2 3 v2 rfl rfl)
  have k2 := h2
  have lt2 : ∀ x ∈ p2, x.block < W.heap.size := by obtain ⟨m, hm⟩ := k2; exact DataW.trod_lt m _ _ _ hm
  obtain ⟨m2, hm2⟩ := h2
  obtain ⟨x2, hK2, ok2⟩ := (Opens.int Try.underlying3) enc W true m2 _ _ hm2
  clear hA0 hval0 hsz0 hsz
  refine (F.windbreaklaw05_PrimeSearches.row Pure.PrimeSearches W a0 len0 cap0 x0 hK0 ok0 n1 x1 hK1 ok1 n2 x2 hK2 ok2).mono fun e W' ⟨he, bel⟩ => ?_
  subst he
  exact ⟨_, rfl, _, _, _, [], _, [], hW', trodAll_mk1 (shut_bool Try.underlying4 _), (trodAll_cons_mk (Below.trod laidOut (by kernel_rfl) (of_decide_eq_true (by kernel_rfl)) k0 bel lt0) (trodAll_cons_mk (Below.trod laidOut (by kernel_rfl) (of_decide_eq_true (by kernel_rfl)) k1 bel lt1) (trodAll_cons_mk (Below.trod laidOut (by kernel_rfl) (of_decide_eq_true (by kernel_rfl)) k2 bel lt2) trodAll_mk0))), rfl, bel.frame _, fun h => by cases h⟩
theorem over : Rows.primeSearchesRow.holds Try.pinned (OpenSpec.ofChange Rows.primeSearchesSpec) :=
  OpenClaim.holds_of_wide 6 Try.f6 rfl rfl rfl rfl rfl rfl rfl ⟨rfl, rfl, rfl, rfl, rfl⟩ rfl rfl rfl rfl rfl (by kernel_rfl) Try.func6 (by kernel_rfl)
    (of_decide_eq_true (by kernel_rfl)) (by unfold Func.isWrapper; first | (rw [if_pos (by decide +kernel)]; kernel_rfl) | (rw [if_neg (by decide +kernel)]; exact ⟨rfl, rfl⟩))
    (fun os started H enc _ => lifted os started H enc)
theorem proved : Rows.PrimeSearchesSaid := over
#print axioms proved
end Go.Proofs.Ytlkinjhmgljapab.primeSearches
namespace Go.Proofs.Ytlkinjhmgljapab
theorem primeSearches_holds : Rows.PrimeSearchesSaid := primeSearches.proved
end Go.Proofs.Ytlkinjhmgljapab
end
