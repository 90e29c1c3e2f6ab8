/- Proved: the law WireEncodes of layer 12: any message's bytes are the document's; for every input, without a condition. -/
import Derived.Below
import Derived.Deep.Draws
import Derived.Deep.AppendLies
import Derived.Maps.AppendAt
import Derived.OwnWalk
import Derived.Laws.BytesArg
import Derived.Laws.MakeOwn
import Derived.Laws.OwnMore
import Derived.Deep.OwnRows
import Derived.Tactics
import Derived.Lib.ConvBytes
import Derived.Laws.Slices
import Derived.WalkKit
import Derived.KernelRfl
import Derived.RowKit3
import Derived.Deep.LoopGhost
import Derived.Deep.QuietTactic
import Derived.BigQuiet
import Derived.WideLaws
import Derived.Deep.DeepCutAuto
import Derived.Deep.CutBlock
import Derived.Deep.RegionHeld3
import Derived.Laws.Rows
import Derived.Lib.AppendStr
import Derived.ArgAppend
import Derived.Laws.IdiomCopy
import Derived.RowKit
import Derived.OrdersHeld
import Derived.Laws.BitsLemmas
import Derived.Laws.StructEq
import Derived.OpenShut
import Derived.WideShapes
import Derived.Test.YtanmfddlncdncabProg
import Derived.Deep.Slices
import Derived.Lib.SmallJoins
import Derived.Laws.Tables
import Derived.Laws.CopyOwn
section
set_option linter.unusedVariables false
set_option linter.unusedSimpArgs false
namespace Go.Proofs.YtanmfddlncdncabW.PrintWords
open Go.RowKit
structure Aside0 (p : Prop) : Prop where mk :: (out : p)
structure Drawn0 (w w' : World) : Prop where mk :: (out : ∃ n, w' = w.drewN n)
theorem Drawn0.refl (w : World) : Drawn0 w w := ⟨⟨0, rfl⟩⟩
theorem Drawn0.step {w w' : World} (h : Drawn0 w w') (n : Nat) : Drawn0 w (w'.drewN n) := by
  obtain ⟨m, rfl⟩ := h
  exact ⟨⟨m + n, World.drewN_drewN ..⟩⟩
theorem Drawn0.below {w w' : World} (h : Drawn0 w w') : Below w.heap.size w w' := by
  obtain ⟨n, rfl⟩ := h
  induction n with
  | zero => exact Below.refl _ _
  | succ n ih => rw [← World.drew_drewN]; exact ih.drew
def rd (xs : List Int) (i : Int) : Int := xs.getD i.toNat 0
def bt (s : ByteArray) (i : Int) : Int := if h : i.toNat < s.size then ((s[i.toNat]'h).toNat : Int) else 0
theorem bt_at (s : ByteArray) (i : Int) : ∀ h : i.toNat < s.size, ((s[i.toNat]'h).toNat : Int) = bt s i := fun h => by simp [bt, h]
def nums (k : IntKind) (xs : List Int) : List Value := xs.map fun x => .int k x
theorem below_alloc {w W : World} (h : Below w.heap.size w W) (o : Obj) : Below w.heap.size w (W.alloc o) := h.alloc h.size o
theorem below_drew {B : Nat} {w W : World} (h : Below B w W) : Below B w W.drew := ⟨h.os, h.tape, h.output, h.size, h.block⟩
theorem pw_below_drewN {B : Nat} {w W : World} (h : Below B w W) (n : Nat) : Below B w (W.drewN n) := ⟨h.os, h.tape, h.output, h.size, h.block⟩
theorem below_then {B : Nat} {w w1 w2 : World} (h : Below B w w1) (hB : B ≤ w1.heap.size) (k : Below w1.heap.size w1 w2) : Below B w w2 :=
  h.trans ⟨k.os, k.tape, k.output, k.size, fun i hi => k.block i (Nat.lt_of_lt_of_le hi hB)⟩
theorem pw_cell_below {w w1 : World} (h : Below w.heap.size w w1) {a : Addr} {v : Value} (hc : w.cell? a = some v) : w1.cell? a = some v := (h.cell (World.block_lt_of_cell? w a hc)).trans hc
theorem add_plain (g j : Nat) : (⟨g, 0, none⟩ : Addr).add j = ⟨g, j, none⟩ := by unfold Addr.add; split <;> simp_all
def ReadsInt (w : World) (k : IntKind) (A : Option Addr) (n : Nat) (xs : List Int) : Prop :=
  xs.length = n ∧ n ≤ 9223372036854775807 ∧ (0 < n → ∃ ad, A = some ad ∧ ∀ j, j < n → w.cell? (ad.add j) = some (.int k (xs.getD j 0)))
theorem ReadsInt.at_ {w : World} {k : IntKind} {A : Option Addr} {n : Nat} {xs : List Int} (h : ReadsInt w k A n xs) (i : Int) (h0 : 0 ≤ i) (h1 : i < n) : ∃ ad, A = some ad ∧ w.cell? (ad.add i.toNat) = some (.int k (rd xs i)) := by
  obtain ⟨ad, e, hc⟩ := h.2.2 (by omega)
  exact ⟨ad, e, hc _ (by omega)⟩
theorem own_nil (W : World) (base : Nat) (e : TypeId) (size : Nat) : W.ownsRow base e size (.slice none 0 0) 0 [] := ⟨by simp, .inl ⟨rfl, rfl⟩⟩
theorem own_base {w : World} {base : Nat} {e : TypeId} {size n : Nat} {v : Value} {xs : List Value} (h : w.ownsRow base e size v n xs) (k : Nat) (hk : v.ownBlock = some k) : base ≤ k := by
  rcases h.2 with ⟨rfl, _⟩ | ⟨g, cap, cur, rfl, hb, _⟩
  · simp [Value.ownBlock] at hk
  · have : g = k := by simpa [Value.ownBlock] using hk
    omega
theorem own_lt {w : World} {base : Nat} {e : TypeId} {size n : Nat} {v : Value} {xs : List Value} (h : w.ownsRow base e size v n xs) (k : Nat) (hk : v.ownBlock = some k) : k < w.heap.size := by
  rcases h.2 with ⟨rfl, _⟩ | ⟨g, cap, cur, rfl, hb, hh, _⟩
  · simp [Value.ownBlock] at hk
  · have : g = k := by simpa [Value.ownBlock] using hk
    subst this
    exact (Array.getElem?_eq_some_iff.1 hh).1
theorem own_slice {w : World} {base n : Nat} {e : TypeId} {size : Nat} {v : Value} {xs : List Value} (h : w.ownsRow base e size v n xs) : ∃ A c, v = .slice A n c := by
  rcases h.2 with ⟨rfl, rfl⟩ | ⟨g, cap, cur, rfl, _⟩
  · exact ⟨none, 0, rfl⟩
  · exact ⟨_, cap, rfl⟩
theorem own_string {P : Program} {w : World} {base n : Nat} {e' src dst e : TypeId} {v : Value} {xs : List Int} (hs : P.underlying src = some (.slice e)) (he : P.underlying e = some (.int .u8)) (hd : P.underlying dst = some .string)
    (h : w.ownsRow base e' 1 v n (nums .u8 xs)) : (convert src dst v).run P w = .ok (.string (strOfNums xs)) w := by
  have hl : xs.length = n := by have := h.1; simp [nums] at this; exact this
  rcases h.2 with ⟨rfl, rfl⟩ | ⟨g, cap, cur, rfl, _⟩
  · obtain rfl : xs = [] := List.eq_nil_of_length_eq_zero hl
    exact run_convert_bytes_nil w src e hs he 0 0 dst hd
  · refine run_convert_bytes_arg w src e hs he g 0 n cap xs hl (fun i hi => ?_) dst hd
    have hc := h.cells (g := g) rfl i (.int .u8 (xs.getD i 0)) (by simp [nums, List.getElem?_eq_getElem (show i < xs.length by omega), List.getD_eq_getElem?_getD])
    have ha : (⟨g, 0, none⟩ : Addr).add i = ⟨g, 0 + i, none⟩ := by unfold Addr.add; split <;> simp_all
    rwa [ha] at hc
section
variable {P : Program} {ops : Array Oper} {rest : List Oper} {o : Oper} {a : Act} {Q : Exit → Act → World → Prop}
end
section
variable {P : Program}
end
section
variable {P : Program} {ops : Array Oper} {rest : List Oper} {o : Oper} {a : Act} {Q : Exit → Act → World → Prop}
end
def LeO {α : Type} (a b : Option α) : Prop := ∀ r, a = some r → b = some r
theorem LeO.none {α : Type} (b : Option α) : LeO Option.none b := fun _ h => by cases h
theorem LeO.trans {α : Type} {a b c : Option α} (h : LeO a b) (k : LeO b c) : LeO a c := fun r hr => k r (h r hr)
def Reps {α : Type} (R : α → List Value → Prop) (size : Nat) (ps : List α) (cs : List Value) : Prop :=
  cs.length = ps.length * size ∧ ∀ j p, ps[j]? = some p → R p ((cs.drop (j * size)).take size)
theorem Reps.none {α : Type} (R : α → List Value → Prop) (size : Nat) : Reps R size [] [] := ⟨by simp, fun j p h => by simp at h⟩
theorem Reps.snoc {α : Type} {R : α → List Value → Prop} {size : Nat} {ps : List α} {cs c : List Value} {p : α} (h : Reps R size ps cs) (hp : R p c) (hc : c.length = size) : Reps R size (ps ++ [p]) (cs ++ c) := by
  refine ⟨by rw [List.length_append, h.1, hc, List.length_append, List.length_singleton, Nat.add_mul, Nat.one_mul], fun j q hq => ?_⟩
  rcases Nat.lt_or_ge j ps.length with hj | hj
  · rw [List.getElem?_append_left hj] at hq
    have h1 : j * size + size ≤ cs.length := by rw [h.1, ← Nat.succ_mul]; exact Nat.mul_le_mul_right _ hj
    have h2 := h.2 j q hq
    rw [List.drop_append_of_le_length (by omega), List.take_append_of_le_length (by rw [List.length_drop]; omega)]
    exact h2
  · have hj' : j = ps.length := by
      have := (List.getElem?_eq_some_iff.1 hq).1
      rw [List.length_append, List.length_singleton] at this
      omega
    subst hj'
    have hq' : p = q := by simpa using hq
    subst hq'
    rw [← h.1, List.drop_left, ← hc, List.take_length]
    exact hp
theorem Reps.imp_ {α : Type} {R R' : α → List Value → Prop} {size : Nat} {ps : List α} {cs : List Value} (h : Reps R size ps cs) (hR : ∀ p c, R p c → R' p c) : Reps R' size ps cs := ⟨h.1, fun j p hj => hR _ _ (h.2 j p hj)⟩
def ReadsRow {α : Type} (R : α → List Value → Prop) (size : Nat) (w : World) (A : Option Addr) (n : Nat) (ps : List α) : Prop :=
  ps.length = n ∧ n ≤ 9223372036854775807 ∧ (0 < n → ∃ ad, A = some ad ∧ ∀ j p, ps[j]? = some p → ∃ c, c.length = size ∧ R p c ∧ ∀ i u, c[i]? = some u → w.cell? (ad.add (j * size + i)) = some u)
theorem ReadsRow.get_ {α : Type} {R : α → List Value → Prop} {size : Nat} {w : World} {A : Option Addr} {n : Nat} {ps : List α} (h : ReadsRow R size w A n ps) (d : α) (i : Int) (h0 : 0 ≤ i) (h1 : i < n) :
    ∃ ad c, A = some ad ∧ c.length = size ∧ R (ps.getD i.toNat d) c ∧ ∀ j u, c[j]? = some u → w.cell? (ad.add (i.toNat * size + j)) = some u := by
  obtain ⟨ad, e, hc⟩ := h.2.2 (by omega)
  have hl : i.toNat < ps.length := by have := h.1; omega
  obtain ⟨c, hs, hr, hcell⟩ := hc i.toNat _ (List.getElem?_eq_getElem hl)
  refine ⟨ad, c, e, hs, ?_, hcell⟩
  rw [List.getD_eq_getElem?_getD, List.getElem?_eq_getElem hl]
  exact hr
theorem ReadsRow.imp_ {α : Type} {R R' : α → List Value → Prop} {size : Nat} {w w1 : World} {A : Option Addr} {n : Nat} {ps : List α} (h : ReadsRow R size w A n ps) (hb : Below w.heap.size w w1) (hR : ∀ p c, R p c → R' p c) : ReadsRow R' size w1 A n ps :=
  ⟨h.1, h.2.1, fun hn => by
    obtain ⟨ad, e, hc⟩ := h.2.2 hn
    refine ⟨ad, e, fun j p hj => ?_⟩
    obtain ⟨c, hs, hr, hcell⟩ := hc j p hj
    exact ⟨c, hs, hR _ _ hr, fun i u hu => pw_cell_below hb (hcell i u hu)⟩⟩
theorem own_reads_row {α : Type} {R : α → List Value → Prop} {w : World} {base n size : Nat} {e : TypeId} {v : Value} {ps : List α} {cs : List Value} (h : w.ownsRow base e size v n cs) (hR : Reps R size ps cs) (hn : ps.length = n) :
    ∃ A c, v = .slice A n c ∧ ReadsRow R size w A n ps := by
  rcases Nat.eq_zero_or_pos n with h0 | h0
  · rcases h.2 with ⟨rfl, rfl⟩ | ⟨g, cap, cur, rfl, _⟩
    · exact ⟨none, 0, rfl, hn, by omega, fun hp => absurd hp (by omega)⟩
    · exact ⟨_, cap, rfl, hn, by omega, fun hp => absurd hp (by omega)⟩
  · obtain ⟨g, cap, rfl, _, _⟩ := h.form h0
    have hm : n ≤ 9223372036854775807 := by
      rcases h.2 with ⟨_, h1⟩ | ⟨g', cap', cur, he, _, _, h1, h2, _⟩
      · omega
      · simp only [maxLen] at h2
        omega
    refine ⟨_, cap, rfl, hn, hm, fun _ => ⟨_, rfl, fun j p hj => ⟨(cs.drop (j * size)).take size, ?_, hR.2 j p hj, fun i u hu => ?_⟩⟩⟩
    · have hjl := (List.getElem?_eq_some_iff.1 hj).1
      have h1 : j * size + size ≤ cs.length := by rw [hR.1, ← Nat.succ_mul]; exact Nat.mul_le_mul_right _ hjl
      rw [List.length_take, List.length_drop]
      omega
    · refine h.cells (g := g) rfl _ u ?_
      rw [List.getElem?_take] at hu
      split at hu
      · rw [List.getElem?_drop] at hu
        exact hu
      · cases hu
section
variable {P : Program} {ops : Array Oper} {rest : List Oper} {o : Oper} {a : Act} {Q : Exit → Act → World → Prop}
theorem print_append_cells {w0 W : World} (base : Nat) (hgd : o.guard = none) (s x : Operand) (t e : TypeId) (z : Value) (size bytes : Nat)
    (ho : o.op = .call { callee := .builtin .append, args := #[s, x], argTypes := #[t, t] })
    (ht : P.underlying t = some (.slice e)) (hinfo : (P.info? e).map (fun i => (i.zero, i.size, i.bytes)) = some (some z, size, bytes)) (hz : z.cells.size = size) (hs0 : 0 < size) (hb0 : 0 < bytes)
    (v : Value) (n : Nat) (xs ys : List Value) (hs : a.eval s = v) (hx : a.eval x = .slice (some ⟨W.heap.size, 0, none⟩) 1 1) (hys : ys.length = size) (h1 : ∀ u ∈ ys, u.oneCell' = true)
    (HO : W.ownsRow base e size v n xs) (HB : Below base w0 W) (hbase : base ≤ W.heap.size) (hl : (n + 1) * bytes ≤ 140737488355328)
    (h : ∀ v1 w1, w1.ownsRow base e size v1 (n + 1) (xs ++ ys) → Below base w0 w1 → W.grownBy w1 v.ownBlock → (v1.ownBlock = v.ownBlock ∨ ∃ b, v1.ownBlock = some b ∧ W.heap.size ≤ b) → wpList P ops Q rest (a.put o.dst v1) w1) :
    wpList P ops Q (o :: rest) a (W.alloc (.cells ys.toArray e)) := by
  obtain ⟨i0, hi, hzz⟩ := Option.map_eq_some_iff.1 hinfo
  simp only [Prod.mk.injEq] at hzz
  obtain ⟨hz0, hz1, hz2⟩ := hzz
  have hlen : n + 1 ≤ 140737488355328 := Nat.le_trans (Nat.le_mul_of_pos_right _ hb0) hl
  refine wpList_append_own_at (W.alloc (.cells ys.toArray e)) hgd s x t ho base e i0 z size bytes ht hi hz0 hz1 hz2 hz hs0 v n xs hs (HO.alloc _) ⟨W.heap.size, 0, none⟩ 1 1 ys hx (by rw [hys]; simp)
    (by simpa using World.news_of_block (cs := ys.toArray) (t := e) (fr := (0, 0)) (heap_alloc_new W (.cells ys.toArray e))) h1 (by simp only [maxLen]; omega) hl (by simp; omega) ?_
  intro v1 w1 hown hg _ hat
  refine h v1 w1 hown ((HB.alloc hbase _).grown hg (by simp; omega) (own_base HO)) (World.grownBy.trans (World.grownBy_alloc W _ _) hg) ?_
  rcases hat with hat | hat
  · exact .inl hat
  · exact .inr ⟨_, hat, by simp⟩
end
theorem own_ne {w : World} {base : Nat} {e t : TypeId} {size n g : Nat} {v : Value} {xs : List Value} {cs : Array Value} (h : w.ownsRow base e size v n xs) (hg : w.heap[g]? = some (.cells cs t (0, 0))) (hne : e ≠ t) : some g ≠ v.ownBlock := by
  rcases h.2 with ⟨rfl, _⟩ | ⟨g', cap, cur, rfl, _, hh, _⟩
  · simp [Value.ownBlock]
  · intro he
    have : g = g' := by simpa [Value.ownBlock] using he
    subst this
    rw [hg] at hh
    injection hh with hh
    injection hh with _ ht
    exact hne ht.symm
theorem blk_set {w : World} {g : Nat} {t : TypeId} {cs : Array Value} (h : w.heap[g]? = some (.cells cs t (0, 0))) (i : Nat) (u : Value) : (w.setCell ⟨g, i, none⟩ u).heap[g]? = some (.cells (cs.setIfInBounds i u) t (0, 0)) := by
  simp [World.setCell, Array.getElem?_modify, h]
theorem blk_lt {w : World} {g : Nat} {o : Obj} (h : w.heap[g]? = some o) : g < w.heap.size := (Array.getElem?_eq_some_iff.1 h).1
theorem blk_cell {w : World} {g : Nat} {t : TypeId} {cs : Array Value} (h : w.heap[g]? = some (.cells cs t (0, 0))) (i : Nat) : w.cell? ⟨g, i, none⟩ = cs[i]? := cell_of_row w g i cs t (0, 0) h
theorem blk_frozen {w : World} {g : Nat} {t : TypeId} {cs : Array Value} (h : w.heap[g]? = some (.cells cs t (0, 0))) (i : Nat) : w.frozen? ⟨g, i, none⟩ = false := by simp [World.frozen?, h]
theorem blk_grown {w w1 : World} {g : Nat} {o : Obj} {row : Option Nat} (h : w.heap[g]? = some o) (hg : w.grownBy w1 row) (hne : some g ≠ row) : w1.heap[g]? = some o := (hg.block g (blk_lt h) hne).trans h
def KeepBut (w w' : World) (g : Nat) (row : Option Nat) : Prop := w.heap.size ≤ w'.heap.size ∧ ∀ i, i < w.heap.size → i ≠ g → some i ≠ row → w'.heap[i]? = w.heap[i]?
theorem KeepBut.trans {w w1 w2 : World} {g : Nat} {row row1 : Option Nat} (h : KeepBut w w1 g row) (k : KeepBut w1 w2 g row1) (hr : row1 = row ∨ ∃ b, row1 = some b ∧ w.heap.size ≤ b) : KeepBut w w2 g row :=
  ⟨Nat.le_trans h.1 k.1, fun i hi hg hn => by
    refine (k.2 i (Nat.lt_of_lt_of_le hi h.1) hg ?_).trans (h.2 i hi hg hn)
    rcases hr with rfl | ⟨b, rfl, hb⟩
    · exact hn
    · intro e
      injection e with e
      omega⟩
section
variable {P : Program} {ops : Array Oper} {o : Oper} {a : Act} {Q : Exit → Act → World → Prop} {K : Act → World → Prop}
end
theorem own_weaken {w : World} {base base' : Nat} {e : TypeId} {size n : Nat} {v : Value} {xs : List Value} (h : w.ownsRow base e size v n xs) (hb : base' ≤ base) : w.ownsRow base' e size v n xs := by
  obtain ⟨h1, h2⟩ := h
  refine ⟨h1, ?_⟩
  rcases h2 with h2 | ⟨g, cap, cur, rfl, hg, r⟩
  · exact .inl h2
  · exact .inr ⟨g, cap, cur, rfl, Nat.le_trans hb hg, r⟩
section
variable {α : Type} {enc : α → Value} {d : α}
def encs (enc : α → Value) (xs : List α) : List Value := xs.map enc
def rdOf (d : α) (xs : List α) (i : Int) : α := xs.getD i.toNat d
theorem encs_length (xs : List α) : (encs enc xs).length = xs.length := by simp [encs]
theorem encs_get (xs : List α) (j : Nat) (h : j < xs.length) : (encs enc xs)[j]? = some (enc (xs.getD j d)) := by
  simp [encs, List.getElem?_eq_getElem h, List.getD_eq_getElem?_getD]
def ReadsOf (enc : α → Value) (d : α) (w : World) (A : Option Addr) (n : Nat) (xs : List α) : Prop :=
  xs.length = n ∧ n ≤ 9223372036854775807 ∧ (0 < n → ∃ ad, A = some ad ∧ ∀ j, j < n → w.cell? (ad.add j) = some (enc (xs.getD j d)))
theorem ReadsOf.at_ {w : World} {A : Option Addr} {n : Nat} {xs : List α} (h : ReadsOf enc d w A n xs) (i : Int) (h0 : 0 ≤ i) (h1 : i < n) : ∃ ad, A = some ad ∧ w.cell? (ad.add i.toNat) = some (enc (rdOf d xs i)) := by
  obtain ⟨ad, e, hc⟩ := h.2.2 (by omega)
  exact ⟨ad, e, hc _ (by omega)⟩
theorem own_at_of {W : World} {base g n cap : Nat} {e : TypeId} {xs : List α} (h : W.ownsRow base e 1 (.slice (some ⟨g, 0, none⟩) n cap) n (encs enc xs)) (i : Int) (h0 : 0 ≤ i) (h1 : i < n) :
    W.cell? ⟨g, i.toNat, none⟩ = some (enc (rdOf d xs i)) ∧ W.frozen? ⟨g, i.toNat, none⟩ = false := by
  have hl : xs.length = n := by have := h.1; simp [encs] at this; exact this
  constructor
  · have hc := h.cells (g := g) rfl i.toNat _ (encs_get (d := d) xs i.toNat (by omega))
    rwa [add_plain] at hc
  · rcases h.2 with ⟨h', _⟩ | ⟨g', cap', cur, h', _, hh, _⟩
    · cases h'
    · have : g = g' := by injection h' with h'; injection h' with h'; injection h' with h'
      subst this
      simp [World.frozen?, hh]
theorem own_store_of {W : World} {base g n cap : Nat} {e : TypeId} {xs : List α} (h : W.ownsRow base e 1 (.slice (some ⟨g, 0, none⟩) n cap) n (encs enc xs)) (i : Int) (x : α) :
    (W.setCell ⟨g, i.toNat, none⟩ (enc x)).ownsRow base e 1 (.slice (some ⟨g, 0, none⟩) n cap) n (encs enc (xs.set i.toNat x)) ∧ W.grownBy (W.setCell ⟨g, i.toNat, none⟩ (enc x)) (some g) := by
  have hs := h.stored i.toNat (enc x)
  have he : (encs enc xs).set i.toNat (enc x) = encs enc (xs.set i.toNat x) := by simp [encs, List.map_set]
  rwa [he] at hs
end
section
variable {α : Type} {P : Program} {ops : Array Oper} {rest : List Oper} {o : Oper} {a : Act} {Q : Exit → Act → World → Prop}
end
def NeRow (v v' : Value) : Prop := ∀ k, v.ownBlock = some k → v'.ownBlock ≠ some k
theorem ne_below {W w1 : World} {v1 v' : Value} {base n size n1 size1 : Nat} {e e1 : TypeId} {xs xs1 : List Value} (h1 : w1.ownsRow W.heap.size e1 size1 v1 n1 xs1) (ho : W.ownsRow base e size v' n xs) : NeRow v1 v' := by
  intro k hk hk'
  have h2 := own_base h1 k hk
  have h3 := own_lt ho k hk'
  omega
theorem blk_drew {w : World} {g : Nat} {o : Obj} (h : w.heap[g]? = some o) : w.drew.heap[g]? = some o := h
theorem blk_below {w w1 : World} {g : Nat} {o : Obj} (h : w.heap[g]? = some o) (hb : Below w.heap.size w w1) : w1.heap[g]? = some o := (hb.block g (blk_lt h)).trans h
theorem blk_new (w : World) (o : Obj) : (w.alloc o).heap[w.heap.size]? = some o := heap_alloc_new w o
section
variable {P : Program}
end
theorem own_le {w : World} {base n m c size : Nat} {e : TypeId} {A : Option Addr} {xs : List Value} (h : w.ownsRow base e size (.slice A m c) n xs) : m ≤ c := by
  rcases h.2 with ⟨he, _⟩ | ⟨g, cap, cur, he, _, _, hnc, _⟩
  · injection he with _ h2 h3
    omega
  · injection he with _ h2 h3
    omega
def OwnRow {α : Type} (R : α → List Value → Prop) (e : TypeId) (size : Nat) (w : World) (base : Nat) (v : Value) (ps : List α) : Prop :=
  ∃ inner, w.ownsRow base e size v ps.length inner ∧ Reps R size ps inner
section
variable {α : Type} {R R' : α → List Value → Prop} {e : TypeId} {size : Nat} {w w1 : World} {base : Nat} {v : Value} {ps : List α}
theorem OwnRow.none_ (R : α → List Value → Prop) (e : TypeId) (size : Nat) (w : World) (base : Nat) : OwnRow R e size w base (.slice none 0 0) [] := ⟨[], own_nil _ _ _ _, Reps.none _ _⟩
theorem OwnRow.imp_ (h : OwnRow R e size w base v ps) (hR : ∀ p c, R p c → R' p c) : OwnRow R' e size w base v ps := by
  obtain ⟨inner, ho, hr⟩ := h
  exact ⟨inner, ho, hr.imp_ hR⟩
theorem OwnRow.reads (h : OwnRow R e size w base v ps) : ∃ A c, v = .slice A ps.length c ∧ ps.length ≤ c ∧ ReadsRow R size w A ps.length ps := by
  obtain ⟨inner, ho, hr⟩ := h
  obtain ⟨A, c, rfl, hrow⟩ := own_reads_row ho hr rfl
  exact ⟨A, c, rfl, own_le ho, hrow⟩
theorem OwnRow.ne_block (h : OwnRow R e size w base v ps) {g : Nat} {t : TypeId} {cells : Array Value} (hb : w.heap[g]? = some (.cells cells t (0, 0))) (ht : e ≠ t) : some g ≠ v.ownBlock := by
  obtain ⟨inner, ho, hr⟩ := h
  exact own_ne ho hb ht
end
section
variable {P : Program} {ops : Array Oper} {rest : List Oper} {o : Oper} {a : Act} {Q : Exit → Act → World → Prop} {α : Type} {R : α → List Value → Prop}
end
section
variable {P : Program} {ops : Array Oper} {o : Oper} {a : Act} {Q : Exit → Act → World → Prop} {K : Act → World → Prop} {α : Type} {R : α → List Value → Prop}
end
theorem ReadsRow.inner_ {α : Type} {R : α → List Value → Prop} {size : Nat} {w : World} {ad : Addr} {n : Nat} {ps : List α} (h : ReadsRow R size w (some ad) n ps) :
    ∃ inner, Reps R size ps inner ∧ ∀ j u, inner[j]? = some u → w.cell? (ad.add j) = some u := by
  have key : ∀ m, m ≤ ps.length → ∃ inner, Reps R size (ps.take m) inner ∧ ∀ j u, inner[j]? = some u → w.cell? (ad.add j) = some u := by
    intro m
    induction m with
    | zero => exact fun _ => ⟨[], Reps.none _ _, fun j u hu => by simp at hu⟩
    | succ m ih =>
      intro hm
      obtain ⟨inner, hr, hc⟩ := ih (by omega)
      obtain ⟨ad', he, hcell⟩ := h.2.2 (by have := h.1; omega)
      injection he with he
      subst he
      obtain ⟨c, hcl, hp, hcc⟩ := hcell m _ (List.getElem?_eq_getElem (show m < ps.length by omega))
      refine ⟨inner ++ c, ?_, fun j u hu => ?_⟩
      · rw [List.take_succ_eq_append_getElem (show m < ps.length by omega)]
        exact hr.snoc hp hcl
      · have hil : inner.length = m * size := by rw [hr.1, List.length_take, Nat.min_eq_left (by omega)]
        rcases Nat.lt_or_ge j inner.length with hj | hj
        · rw [List.getElem?_append_left hj] at hu
          exact hc j u hu
        · rw [List.getElem?_append_right hj] at hu
          have := hcc (j - inner.length) u hu
          rwa [hil, Nat.add_sub_cancel' (by omega)] at this
  obtain ⟨inner, hr, hc⟩ := key ps.length (Nat.le_refl _)
  rw [List.take_length] at hr
  exact ⟨inner, hr, hc⟩
section
variable {α : Type} {P : Program}
end
section
variable {P : Program} {ops : Array Oper} {rest : List Oper} {o : Oper} {a : Act} {Q : Exit → Act → World → Prop}
end
structure Kd (α : Type) where
  sz : Nat
  E : List Nat
  K : World → α → List Value → Prop
  M : World → Nat → (Nat → Prop) → α → List Value → Prop
  K_len : ∀ {w x cs}, K w x cs → cs.length = sz
  K_one : ∀ {w x cs}, K w x cs → ∀ u ∈ cs, u.oneCell' = true
  K_below : ∀ {w w1 : World} {x cs}, Below w.heap.size w w1 → K w x cs → K w1 x cs
  K_of_M : ∀ {w base ok x cs}, M w base ok x cs → K w x cs
  M_mono : ∀ {w base ok ok' x cs}, (∀ k, ok k → ok' k) → M w base ok x cs → M w base ok' x cs
  M_bound : ∀ {w : World} {base ok x cs}, M w base ok x cs → M w base (fun k => ok k ∧ base ≤ k ∧ k < w.heap.size ∧ ∃ q, q ∈ E ∧ ∃ cells, w.heap[k]? = some (.cells cells q (0, 0))) x cs
  M_move : ∀ {w w1 : World} {base ok x cs}, (∀ k, ok k → w1.heap[k]? = w.heap[k]?) → M w base ok x cs → M w1 base ok x cs
  M_lower : ∀ {w base base' ok x cs}, base' ≤ base → M w base ok x cs → M w base' ok x cs
theorem own_move {w w1 : World} {base : Nat} {e : TypeId} {size n : Nat} {v : Value} {xs : List Value} (h : w.ownsRow base e size v n xs) (hm : ∀ k, v.ownBlock = some k → w1.heap[k]? = w.heap[k]?) : w1.ownsRow base e size v n xs := by
  obtain ⟨h1, h2⟩ := h
  refine ⟨h1, ?_⟩
  rcases h2 with h2 | ⟨g, cap, cur, rfl, hg, hh, r⟩
  · exact .inl h2
  · exact .inr ⟨g, cap, cur, rfl, hg, (hm g (by simp [Value.ownBlock])).trans hh, r⟩
theorem own_typed {w : World} {base : Nat} {e : TypeId} {size n : Nat} {v : Value} {xs : List Value} (h : w.ownsRow base e size v n xs) (k : Nat) (hk : v.ownBlock = some k) : ∃ cells, w.heap[k]? = some (.cells cells e (0, 0)) := by
  rcases h.2 with ⟨rfl, _⟩ | ⟨g, cap, cur, rfl, hg, hh, r⟩
  · simp [Value.ownBlock] at hk
  · have : g = k := by simpa [Value.ownBlock] using hk
    subst this
    exact ⟨cur, hh⟩
namespace Kd
def C {α : Type} (d : Kd α) (w : World) (A : Option Addr) (n : Nat) (xs : List α) : Prop := ReadsRow (d.K w) d.sz w A n xs
def R {α : Type} (d : Kd α) (e : Nat) (w : World) (base : Nat) (ok : Nat → Prop) (v : Value) (xs : List α) : Prop :=
  (∀ k, v.ownBlock = some k → ok k) ∧ OwnRow (d.M w base (fun k => ok k ∧ some k ≠ v.ownBlock)) e d.sz w base v xs
section
variable {α : Type} {d : Kd α} {e : Nat} {w w1 : World} {base : Nat} {ok ok' : Nat → Prop} {v : Value} {xs : List α}
theorem C_below {A : Option Addr} {n : Nat} (h : d.C w A n xs) (hb : Below w.heap.size w w1) : d.C w1 A n xs := ReadsRow.imp_ h hb (fun _ _ hp => d.K_below hb hp)
theorem R_nil (d : Kd α) (e : Nat) (w : World) (base : Nat) (ok : Nat → Prop) : d.R e w base ok (.slice none 0 0) [] := ⟨fun k hk => by simp [Value.ownBlock] at hk, OwnRow.none_ _ _ _ _ _⟩
theorem R_mono (h : d.R e w base ok v xs) (hok : ∀ k, ok k → ok' k) : d.R e w base ok' v xs := ⟨fun k hk => hok k (h.1 k hk), h.2.imp_ (fun _ _ hp => d.M_mono (fun k hk => ⟨hok k hk.1, hk.2⟩) hp)⟩
theorem R_bound (h : d.R e w base ok v xs) : d.R e w base (fun k => ok k ∧ base ≤ k ∧ k < w.heap.size ∧ ∃ q, q ∈ e :: d.E ∧ ∃ cells, w.heap[k]? = some (.cells cells q (0, 0))) v xs := by
  obtain ⟨h0, inner, ho, hr⟩ := h
  refine ⟨fun k hk => ?_, inner, ho, hr.imp_ (fun _ _ hp => d.M_mono (fun k hk => ?_) (d.M_bound hp))⟩
  · obtain ⟨cells, hc⟩ := own_typed ho k hk
    exact ⟨h0 k hk, own_base ho k hk, own_lt ho k hk, e, List.mem_cons_self, cells, hc⟩
  · obtain ⟨⟨h1, h2⟩, h3, h4, q, hq, hc⟩ := hk
    exact ⟨⟨h1, h3, h4, q, List.mem_cons_of_mem _ hq, hc⟩, h2⟩
theorem R_move (h : d.R e w base ok v xs) (hm : ∀ k, ok k → w1.heap[k]? = w.heap[k]?) : d.R e w1 base ok v xs := by
  obtain ⟨h0, inner, ho, hr⟩ := h
  exact ⟨h0, inner, own_move ho (fun k hk => hm k (h0 k hk)), hr.imp_ (fun _ _ hp => d.M_move (fun k hk => hm k hk.1) hp)⟩
theorem R_lower {base' : Nat} (h : d.R e w base ok v xs) (hb : base' ≤ base) : d.R e w base' ok v xs := by
  obtain ⟨h0, inner, ho, hr⟩ := h
  exact ⟨h0, inner, own_weaken ho hb, hr.imp_ (fun _ _ hp => d.M_lower hb hp)⟩
theorem R_step (h : d.R e w base ok v xs) (hm : ∀ k, ok k → k < w.heap.size → w1.heap[k]? = w.heap[k]?) : d.R e w1 base ok v xs :=
  R_mono (R_move (R_bound h) (fun k hk => hm k hk.1 hk.2.2.1)) (fun _ hk => hk.1)
theorem M_step {x : α} {cs : List Value} (h : d.M w base ok x cs) (hm : ∀ k, ok k → k < w.heap.size → w1.heap[k]? = w.heap[k]?) : d.M w1 base ok x cs :=
  d.M_mono (fun _ hk => hk.1) (d.M_move (fun k hk => hm k hk.1 hk.2.2.1) (d.M_bound h))
theorem R_below (h : d.R e w base ok v xs) (hb : Below w.heap.size w w1) : d.R e w1 base ok v xs := R_step h (fun k _ hk => hb.block k hk)
theorem M_below {x : α} {cs : List Value} (h : d.M w base ok x cs) (hb : Below w.heap.size w w1) : d.M w1 base ok x cs := M_step h (fun k _ hk => hb.block k hk)
theorem R_far (h : d.R e w base ok v xs) {p : Addr} (hok : ∀ k, ok k → k ≠ p.block) (u : Value) : d.R e (w.setCell p u) base ok v xs := R_step h (fun k ho _ => Below.heap_setCell w p u k (hok k ho))
theorem R_types (h : d.R e w base ok v xs) {g t : Nat} {cells : Array Value} (hb : w.heap[g]? = some (.cells cells t (0, 0))) (ht : ∀ q, q ∈ e :: d.E → q ≠ t) : d.R e w base (fun k => ok k ∧ k ≠ g) v xs :=
  R_mono (R_bound h) (fun k hk => ⟨hk.1, by
    obtain ⟨_, _, _, q, hq, cells', hc⟩ := hk
    rintro rfl
    rw [hc] at hb
    injection hb with hb
    injection hb with _ hb
    exact ht q hq hb⟩)
theorem R_reads (h : d.R e w base ok v xs) : ∃ A c, v = .slice A xs.length c ∧ xs.length ≤ c ∧ d.C w A xs.length xs := by
  obtain ⟨A, c, he, hl, hr⟩ := OwnRow.reads h.2
  exact ⟨A, c, he, hl, hr.imp_ (Below.refl _ _) (fun _ _ hp => d.K_of_M hp)⟩
theorem R_slice (h : d.R e w base ok v xs) : ∃ A c, v = .slice A xs.length c := by
  obtain ⟨A, c, he, _⟩ := R_reads h
  exact ⟨A, c, he⟩
theorem R_own (h : d.R e w base ok v xs) : ∃ inner, w.ownsRow base e d.sz v xs.length inner := by
  obtain ⟨_, inner, ho, _⟩ := h
  exact ⟨inner, ho⟩
theorem R_ne (h : d.R e w base ok v xs) {g t : Nat} {cells : Array Value} (hb : w.heap[g]? = some (.cells cells t (0, 0))) (ht : e ≠ t) : some g ≠ v.ownBlock := OwnRow.ne_block h.2 hb ht
end
def scalar {α : Type} (enc : α → Value) (h1 : ∀ x, (enc x).oneCell' = true) : Kd α where
  sz := 1
  E := []
  K := fun _ x cs => cs = [enc x]
  M := fun _ _ _ x cs => cs = [enc x]
  K_len := fun h => by rw [h]; rfl
  K_one := fun h u hu => by
    rw [h] at hu
    rw [List.mem_singleton.1 hu]
    exact h1 _
  K_below := fun _ h => h
  K_of_M := fun h => h
  M_mono := fun _ h => h
  M_bound := fun h => h
  M_move := fun _ h => h
  M_lower := fun _ h => h
def int (k : IntKind) : Kd Int := scalar (Value.int k) (fun _ => rfl)
def slice {α : Type} (e : Nat) (d : Kd α) : Kd (List α) where
  sz := 1
  E := e :: d.E
  K := fun w xs cs => ∃ A c, cs = [.slice A xs.length c] ∧ xs.length ≤ c ∧ d.C w A xs.length xs
  M := fun w base ok xs cs => ∃ v, cs = [v] ∧ d.R e w base ok v xs
  K_len := by
    rintro w x cs ⟨A, c, rfl, _⟩
    rfl
  K_one := by
    rintro w x cs ⟨A, c, rfl, _⟩ u hu
    rw [List.mem_singleton.1 hu]
    rfl
  K_below := by
    rintro w w1 x cs hb ⟨A, c, rfl, hl, hr⟩
    exact ⟨A, c, rfl, hl, C_below hr hb⟩
  K_of_M := by
    rintro w base ok x cs ⟨v, rfl, h⟩
    obtain ⟨A, c, rfl, hl, hr⟩ := R_reads h
    exact ⟨A, c, rfl, hl, hr⟩
  M_mono := by
    rintro w base ok ok' x cs hok ⟨v, rfl, h⟩
    exact ⟨v, rfl, R_mono h hok⟩
  M_bound := by
    rintro w base ok x cs ⟨v, rfl, h⟩
    exact ⟨v, rfl, R_bound h⟩
  M_move := by
    rintro w w1 base ok x cs hm ⟨v, rfl, h⟩
    exact ⟨v, rfl, R_move h hm⟩
  M_lower := by
    rintro w base base' ok x cs hb ⟨v, rfl, h⟩
    exact ⟨v, rfl, R_lower h hb⟩
def pair {α β : Type} (a : Kd α) (b : Kd β) : Kd (α × β) where
  sz := a.sz + b.sz
  E := a.E ++ b.E
  K := fun w x cs => ∃ c0 c1, cs = c0 ++ c1 ∧ a.K w x.1 c0 ∧ b.K w x.2 c1
  M := fun w base ok x cs => ∃ c0 c1, cs = c0 ++ c1 ∧ a.M w base ok x.1 c0 ∧ b.M w base ok x.2 c1
  K_len := by
    rintro w x cs ⟨c0, c1, rfl, h0, h1⟩
    rw [List.length_append, a.K_len h0, b.K_len h1]
  K_one := by
    rintro w x cs ⟨c0, c1, rfl, h0, h1⟩ u hu
    rcases List.mem_append.1 hu with hu | hu
    · exact a.K_one h0 u hu
    · exact b.K_one h1 u hu
  K_below := by
    rintro w w1 x cs hb ⟨c0, c1, rfl, h0, h1⟩
    exact ⟨c0, c1, rfl, a.K_below hb h0, b.K_below hb h1⟩
  K_of_M := by
    rintro w base ok x cs ⟨c0, c1, rfl, h0, h1⟩
    exact ⟨c0, c1, rfl, a.K_of_M h0, b.K_of_M h1⟩
  M_mono := by
    rintro w base ok ok' x cs hok ⟨c0, c1, rfl, h0, h1⟩
    exact ⟨c0, c1, rfl, a.M_mono hok h0, b.M_mono hok h1⟩
  M_bound := by
    rintro w base ok x cs ⟨c0, c1, rfl, h0, h1⟩
    refine ⟨c0, c1, rfl, a.M_mono ?_ (a.M_bound h0), b.M_mono ?_ (b.M_bound h1)⟩
    · rintro k ⟨h2, h3, h4, q, hq, hc⟩
      exact ⟨h2, h3, h4, q, List.mem_append_left _ hq, hc⟩
    · rintro k ⟨h2, h3, h4, q, hq, hc⟩
      exact ⟨h2, h3, h4, q, List.mem_append_right _ hq, hc⟩
  M_move := by
    rintro w w1 base ok x cs hm ⟨c0, c1, rfl, h0, h1⟩
    exact ⟨c0, c1, rfl, a.M_move hm h0, b.M_move hm h1⟩
  M_lower := by
    rintro w base base' ok x cs hb ⟨c0, c1, rfl, h0, h1⟩
    exact ⟨c0, c1, rfl, a.M_lower hb h0, b.M_lower hb h1⟩
def bot {α : Type} (sz : Nat) (E : List Nat) : Kd α where
  sz := sz
  E := E
  K := fun _ _ _ => False
  M := fun _ _ _ _ _ => False
  K_len := fun h => h.elim
  K_one := fun h => h.elim
  K_below := fun _ h => h
  K_of_M := fun h => h
  M_mono := fun _ h => h
  M_bound := fun h => h
  M_move := fun _ h => h
  M_lower := fun _ h => h
def upto {α : Type} (F : Kd α → Kd α) (sz : Nat) (E : List Nat) : Nat → Kd α
  | 0 => bot sz E
  | n + 1 => F (upto F sz E n)
theorem C_get {α : Type} {d : Kd α} {w : World} {A : Option Addr} {n : Nat} {xs : List α} (h : d.C w A n xs) (z : α) (i : Int) (h0 : 0 ≤ i) (h1 : i < n) :
    ∃ ad c, A = some ad ∧ c.length = d.sz ∧ d.K w (xs.getD i.toNat z) c ∧ ∀ j u, c[j]? = some u → w.cell? (ad.add (i.toNat * d.sz + j)) = some u := ReadsRow.get_ h z i h0 h1
theorem R_appended {α : Type} {d : Kd α} {e base : Nat} {ok okp : Nat → Prop} {W w1 : World} {v v1 : Value} {xs : List α} {p : α} {inner cs : List Value} (h0 : ∀ k, v.ownBlock = some k → ok k) (hr : Reps (d.M W base (fun k => ok k ∧ some k ≠ v.ownBlock)) d.sz xs inner) (hp : d.M W base okp p cs) (hokp : ∀ k, okp k → ok k ∧ some k ≠ v.ownBlock) (hfresh : ∀ k, W.heap.size ≤ k → ok k)
    (hown : w1.ownsRow base e d.sz v1 (xs.length + 1) (inner ++ cs)) (hg : W.grownBy w1 v.ownBlock) (hat : v1.ownBlock = v.ownBlock ∨ ∃ b, v1.ownBlock = some b ∧ W.heap.size ≤ b) : d.R e w1 base ok v1 (xs ++ [p]) := by
  have hne : ∀ k, some k ≠ v.ownBlock → k < W.heap.size → some k ≠ v1.ownBlock := by
    intro k hk hlt
    rcases hat with hat | ⟨b, hb, hle⟩
    · rw [hat]; exact hk
    · rw [hb]
      intro he
      injection he with he
      omega
  have step : ∀ {q : α} {c : List Value} {o : Nat → Prop}, d.M W base o q c → (∀ k, o k → ok k ∧ some k ≠ v.ownBlock) → d.M w1 base (fun k => ok k ∧ some k ≠ v1.ownBlock) q c := by
    intro q c o hq ho
    have h1 := d.M_move (w1 := w1) (fun k hk => hg.block k hk.2.2.1 (ho k hk.1).2) (d.M_bound hq)
    exact d.M_mono (fun k hk => ⟨(ho k hk.1).1, hne k (ho k hk.1).2 hk.2.2.1⟩) h1
  refine ⟨fun k hk => ?_, inner ++ cs, by rw [List.length_append, List.length_singleton]; exact hown, ?_⟩
  · rcases hat with hat | ⟨b, hb, hle⟩
    · exact h0 k (hat ▸ hk)
    · rw [hb] at hk
      injection hk with hk
      exact hfresh k (by omega)
  · exact (hr.imp_ (fun _ _ hq => step hq (fun _ hk => hk))).snoc (step hp hokp) (d.K_len (d.K_of_M hp))
section
variable {P : Program} {ops : Array Oper} {rest : List Oper} {o : Oper} {a : Act} {Q : Exit → Act → World → Prop} {α : Type}
theorem R_append (d : Kd α) {w0 W : World} (base : Nat) (hgd : o.guard = none) (s x : Operand) (t e : TypeId) (z : Value) (bytes : Nat)
    (ho : o.op = .call { callee := .builtin .append, args := #[s, x], argTypes := #[t, t] })
    (ht : P.underlying t = some (.slice e)) (hinfo : (P.info? e).map (fun i => (i.zero, i.size, i.bytes)) = some (some z, d.sz, bytes)) (hz : z.cells.size = d.sz) (hs0 : 0 < d.sz) (hb0 : 0 < bytes)
    (v : Value) (xs : List α) (p : α) (cs : List Value) (ok okp : Nat → Prop) (hs : a.eval s = v) (hx : a.eval x = .slice (some ⟨W.heap.size, 0, none⟩) 1 1) (hp : d.M W base okp p cs) (hokp : ∀ k, okp k → ok k ∧ some k ≠ v.ownBlock) (hfresh : ∀ k, W.heap.size ≤ k → ok k)
    (HO : d.R e W base ok v xs) (HB : Below base w0 W) (hbase : base ≤ W.heap.size) (hl : (xs.length + 1) * bytes ≤ 140737488355328)
    (h : ∀ v1 w1, d.R e w1 base ok v1 (xs ++ [p]) → Below base w0 w1 → W.grownBy w1 v.ownBlock → (v1.ownBlock = v.ownBlock ∨ ∃ b, v1.ownBlock = some b ∧ W.heap.size ≤ b) → wpList P ops Q rest (a.put o.dst v1) w1) :
    wpList P ops Q (o :: rest) a (W.alloc (.cells cs.toArray e)) := by
  obtain ⟨h0, inner, hown, hr⟩ := HO
  refine print_append_cells base hgd s x t e z d.sz bytes ho ht hinfo hz hs0 hb0 v xs.length inner cs hs hx (d.K_len (d.K_of_M hp)) (d.K_one (d.K_of_M hp)) hown HB hbase hl ?_
  intro v1 w1 hown1 hb1 hg1 hat1
  exact h v1 w1 (R_appended h0 hr hp hokp hfresh hown1 hg1 hat1) hb1 hg1 hat1
end
section
variable {P : Program} {ops : Array Oper} {o : Oper} {a : Act} {Q : Exit → Act → World → Prop} {Kc : Act → World → Prop} {α : Type}
end
theorem reps_scalar {α : Type} {enc : α → Value} (xs : List α) : Reps (fun (x : α) (cs : List Value) => cs = [enc x]) 1 xs (encs enc xs) := by
  refine ⟨by simp [encs], fun j p hj => ?_⟩
  obtain ⟨hl, hp⟩ := List.getElem?_eq_some_iff.1 hj
  have hl' : j < (encs enc xs).length := by rw [encs_length]; exact hl
  rw [Nat.mul_one, List.drop_eq_getElem_cons hl']
  simp [encs, hp]
theorem R_of_own {α : Type} {enc : α → Value} {h1 : ∀ x, (enc x).oneCell' = true} {e : Nat} {w : World} {base : Nat} {ok : Nat → Prop} {v : Value} {xs : List α} (ho : w.ownsRow base e 1 v xs.length (encs enc xs)) (hok : ∀ k, v.ownBlock = some k → ok k) : (scalar enc h1).R e w base ok v xs := ⟨hok, encs enc xs, ho, reps_scalar xs⟩
theorem own_of_R {α : Type} {enc : α → Value} {h1 : ∀ x, (enc x).oneCell' = true} {e : Nat} {w : World} {base : Nat} {ok : Nat → Prop} {v : Value} {xs : List α} (h : (scalar enc h1).R e w base ok v xs) : w.ownsRow base e 1 v xs.length (encs enc xs) := by
  obtain ⟨_, inner, ho, hr⟩ := h
  have : inner = encs enc xs := by
    apply List.ext_getElem?
    intro j
    rcases Nat.lt_or_ge j xs.length with hj | hj
    · have h2 := hr.2 j _ (List.getElem?_eq_getElem hj)
      have hl : j < inner.length := by have := hr.1; simp [scalar] at this; omega
      have h3 : (inner.drop (j * 1)).take 1 = [enc xs[j]] := h2
      rw [Nat.mul_one, List.drop_eq_getElem_cons hl] at h3
      have h4 : inner[j] = enc xs[j] := by
        have h5 := congrArg List.head? h3
        rw [List.take_succ_cons] at h5
        exact Option.some.inj h5
      rw [List.getElem?_eq_getElem hl, h4]
      simp [encs, List.getElem?_eq_getElem hj]
    · have h3 : inner.length = xs.length := by have := hr.1; simp [scalar] at this; omega
      rw [List.getElem?_eq_none (by omega), List.getElem?_eq_none (by rw [encs_length]; omega)]
  rw [← this]
  exact ho
theorem reads_of_C {α : Type} {enc : α → Value} {d : α} {h1 : ∀ x, (enc x).oneCell' = true} {w : World} {A : Option Addr} {n : Nat} {xs : List α} (h : (scalar enc h1).C w A n xs) : ReadsOf enc d w A n xs := by
  refine ⟨h.1, h.2.1, fun hn => ?_⟩
  obtain ⟨ad, e, hc⟩ := h.2.2 hn
  refine ⟨ad, e, fun j hj => ?_⟩
  have hl : j < xs.length := by have := h.1; omega
  obtain ⟨c, _, hK, hcell⟩ := hc j _ (List.getElem?_eq_getElem hl)
  have hK' : c = [enc xs[j]] := hK
  subst hK'
  have := hcell 0 _ rfl
  simpa [scalar, List.getD_eq_getElem?_getD, List.getElem?_eq_getElem hl] using this
end Kd
namespace Kd
section
variable {α : Type} {F : Kd α → Kd α} {sz : Nat} {E : List Nat} {hs : ∀ n, (upto F sz E n).sz = sz} {hE : ∀ n q, q ∈ (upto F sz E n).E → q ∈ E}
end
end Kd
namespace Kd
theorem R_after {α : Type} {d : Kd α} {e base : Nat} {ok : Nat → Prop} {W w1 : World} {u v v1 : Value} {xs : List α} (h : d.R e W base (fun k => ok k ∧ some k ≠ v.ownBlock) u xs) (hg : W.grownBy w1 v.ownBlock) (hat : v1.ownBlock = v.ownBlock ∨ ∃ b, v1.ownBlock = some b ∧ W.heap.size ≤ b) : d.R e w1 base (fun k => ok k ∧ some k ≠ v1.ownBlock) u xs := by
  refine R_mono (R_move (R_bound h) (fun k hk => hg.block k hk.2.2.1 hk.1.2)) (fun k hk => ⟨hk.1.1, ?_⟩)
  rcases hat with hat | ⟨b, hb, hle⟩
  · rw [hat]; exact hk.1.2
  · rw [hb]
    intro he
    injection he with he
    have := hk.2.2.1
    omega
end Kd
namespace Kd
section
variable {α β : Type} {d : Kd α} {d' : Kd β} {e e' : Nat} {w w1 W : World} {base b b' : Nat} {ok ok' okv oku : Nat → Prop} {v u : Value} {xs : List α} {ys : List β}
theorem R_drew (h : d.R e w base ok v xs) : d.R e w.drew base ok v xs := R_below h (below_drew (Below.refl _ _))
theorem C_nil (d : Kd α) (w : World) : d.C w none ([] : List α).length [] := ⟨rfl, by simp, fun h => absurd h (Nat.lt_irrefl 0)⟩
theorem R_reads' {A : Option Addr} {n c : Nat} (h : d.R e w base ok (.slice A n c) xs) : n = xs.length ∧ n ≤ c ∧ d.C w A xs.length xs := by
  obtain ⟨A', c', he, hl, hr⟩ := R_reads h
  injection he with h1 h2 h3
  subst h1
  exact ⟨h2, by omega, hr⟩
theorem R_lt (h : d.R e w base ok v xs) : ∀ k, v.ownBlock = some k → k < w.heap.size := by
  obtain ⟨inner, ho⟩ := R_own h
  exact own_lt ho
theorem R_base (h : d.R e w base ok v xs) : ∀ k, v.ownBlock = some k → base ≤ k := by
  obtain ⟨inner, ho⟩ := R_own h
  exact own_base ho
theorem R_form (h : d.R e w base ok v xs) (hp : 0 < xs.length) : ∃ g cap, v = .slice (some ⟨g, 0, none⟩) xs.length cap ∧ base ≤ g ∧ g < w.heap.size ∧ ∃ cells, w.heap[g]? = some (.cells cells e (0, 0)) := by
  obtain ⟨inner, ho⟩ := R_own h
  obtain ⟨g, cap, he, hb, hl⟩ := ho.form hp
  obtain ⟨cells, hc⟩ := own_typed ho g (by rw [he]; simp [Value.ownBlock])
  exact ⟨g, cap, he, hb, hl, cells, hc⟩
theorem R_elder (hu : d'.R e' W b oku u ys) (h : d.R e w1 W.heap.size okv v xs) (hb : Below W.heap.size W w1) : d'.R e' w1 b (fun k => oku k ∧ some k ≠ v.ownBlock) u ys := by
  obtain ⟨inner, ho⟩ := R_own h
  exact R_mono (R_move (R_bound hu) (fun k hk => hb.block k hk.2.2.1)) (fun k hk => ⟨hk.1, fun he => by have := own_base ho k he.symm; have := hk.2.2.1; omega⟩)
end
section
variable {w W : World} {A : Option Addr} {n : Nat}
theorem at_int {k : IntKind} {xs : List Int} (h : (Kd.int k).C w A n xs) (i : Int) (h0 : 0 ≤ i) (h1 : i < n) : ∃ ad, A = some ad ∧ w.cell? (ad.add i.toNat) = some (.int k (rd xs i)) :=
  ReadsOf.at_ (reads_of_C (enc := Value.int k) (d := (0 : Int)) (h1 := fun _ => rfl) h) i h0 h1
variable {α : Type} {enc : α → Value} {h1 : ∀ x, (enc x).oneCell' = true} {e base g cap : Nat} {ok : Nat → Prop} {xs : List α}
theorem R_cell (d : α) (h : (scalar enc h1).R e W base ok (.slice (some ⟨g, 0, none⟩) xs.length cap) xs) (i : Int) (h0 : 0 ≤ i) (hi : i < xs.length) : W.cell? ⟨g, i.toNat, none⟩ = some (enc (rdOf d xs i)) ∧ W.frozen? ⟨g, i.toNat, none⟩ = false := own_at_of (own_of_R h) i h0 hi
theorem R_put (h : (scalar enc h1).R e W base ok (.slice (some ⟨g, 0, none⟩) xs.length cap) xs) (i : Int) (x : α) : (scalar enc h1).R e (W.setCell ⟨g, i.toNat, none⟩ (enc x)) base ok (.slice (some ⟨g, 0, none⟩) xs.length cap) (xs.set i.toNat x) ∧ W.grownBy (W.setCell ⟨g, i.toNat, none⟩ (enc x)) (some g) := by
  obtain ⟨ho, hg⟩ := own_store_of (own_of_R h) i x
  exact ⟨R_of_own (by rw [List.length_set]; exact ho) h.1, hg⟩
end
section
variable {P : Program} {ops : Array Oper} {rest : List Oper} {o : Oper} {a : Act} {Q : Exit → Act → World → Prop}
theorem event_run {W w1 : World} {v : Value} (hgd : o.guard = none) (hrun : (execOp a.eval o).run P W = .ok (.value v) w1) (h : wpList P ops Q rest (a.put o.dst v) w1) : wpList P ops Q (o :: rest) a W := by
  refine wpList_plain hgd fun K hK => ?_
  unfold Oper.wp
  rw [hrun]
  exact hK _ _ h
variable {α : Type}
theorem R_lit (d : Kd α) {w0 W : World} (base e : Nat) (hgd : o.guard = none) {N : Tmp} (_hd : o.dst = some N) {xs : List α} {inner : List Value} {ok okp : Nat → Prop}
    (hrun : (execOp a.eval o).run P W = .ok (.value (.slice (some ⟨W.heap.size, 0, none⟩) xs.length xs.length)) (W.alloc (.cells inner.toArray e)))
    (hrep : Reps (d.M W base okp) d.sz xs inner) (hok : ∀ k, okp k → ok k) (hfresh : ok W.heap.size) (HB : Below base w0 W) (hbase : base ≤ W.heap.size) (hm : xs.length ≤ 9223372036854775807)
    (h : ∀ v1 w1, d.R e w1 base ok v1 xs → Below base w0 w1 → W.grownBy w1 none → (∃ b, v1.ownBlock = some b ∧ W.heap.size ≤ b) → wpList P ops Q rest (a.put o.dst v1) w1) : wpList P ops Q (o :: rest) a W := by
  refine event_run hgd hrun (h _ _ ⟨fun k hk => ?_, inner, ?_, ?_⟩ (HB.alloc hbase _) (World.grownBy_alloc W _ none) ⟨W.heap.size, by simp [Value.ownBlock], Nat.le_refl _⟩)
  · have : W.heap.size = k := by simpa [Value.ownBlock] using hk
    subst this
    exact hfresh
  · have h2 := World.ownsRow_lit (base := base) (e := e) (size := d.sz) W inner.toArray xs.length hbase (by simpa [maxLen] using hm) (by simpa using hrep.1)
    simpa using h2
  · refine hrep.imp_ (fun p c hp => d.M_mono (fun k hk => ⟨hok k hk.1, fun he => ?_⟩) (M_below (d.M_bound hp) (below_alloc (Below.refl _ _) _)))
    have h3 : k = W.heap.size := by simpa [Value.ownBlock] using he
    have := hk.2.2.1
    omega
theorem reps_made {α : Type} {R : α → List Value → Prop} {z : Value} {size : Nat} {z0 : α} (hz : z.cells.size = size) (hs : 0 < size) (h0 : R z0 z.cells.toList) (m : Nat) : Reps R size (List.replicate m z0) (madeCells z.cells (m * size)).toList := by
  refine ⟨by simp [size_madeCells], fun j p hj => ?_⟩
  obtain ⟨hjl, hp⟩ := List.getElem?_eq_some_iff.1 hj
  have hjm : j < m := by simpa using hjl
  have hp' : z0 = p := by simpa using hp
  subst hp'
  have hle : j * size + size ≤ m * size := by rw [← Nat.succ_mul]; exact Nat.mul_le_mul_right _ hjm
  have : ((madeCells z.cells (m * size)).toList.drop (j * size)).take size = z.cells.toList := by
    apply List.ext_getElem
    · simp [size_madeCells, hz]
      omega
    · intro i h1 h2
      have hi : i < size := by rw [Array.length_toList, hz] at h2; exact h2
      have hmod : (j * size + i) % size = i := by
        rw [Nat.mul_comm, Nat.mul_add_mod]
        exact Nat.mod_eq_of_lt hi
      simp [madeCells, hz, hmod]
      rw [getElem!_pos z.cells i (by omega)]
  rw [this]
  exact h0
theorem R_make (d : Kd α) {w0 W : World} (base e : Nat) (hgd : o.guard = none) {N : Tmp} (hd : o.dst = some N) (t : TypeId) (x y : Operand) (ho : o.op = .makeSlice t x y) (n : Int) (hx : a.eval x = .int .i64 n) (hy : a.eval y = .int .i64 n)
    (ht : P.underlying t = some (.slice e)) (z : Value) (bytes : Nat) (hinfo : (P.info? e).map (fun i => (i.zero, i.size, i.bytes)) = some (some z, d.sz, bytes)) (hz : z.cells.size = d.sz) (hs0 : 0 < d.sz) (hb0 : 0 < bytes)
    (z0 : α) {ok okp : Nat → Prop} (hzero : d.M W base okp z0 z.cells.toList) (hok : ∀ k, okp k → ok k) (hfresh : ok W.heap.size) (h0 : 0 ≤ n) (hl : n.toNat * bytes ≤ 281474976710656) (HB : Below base w0 W) (hbase : base ≤ W.heap.size)
    (h : ∀ v1 w1, d.R e w1 base ok v1 (List.replicate n.toNat z0) → Below base w0 w1 → W.grownBy w1 none → (∃ b, v1.ownBlock = some b ∧ W.heap.size ≤ b) → wpList P ops Q rest (a.put o.dst v1) w1) : wpList P ops Q (o :: rest) a W := by
  obtain ⟨m, rfl⟩ := Int.eq_ofNat_of_zero_le h0
  simp only [Int.toNat_natCast] at hl h
  obtain ⟨i0, hi, hzz⟩ := Option.map_eq_some_iff.1 hinfo
  simp only [Prod.mk.injEq] at hzz
  obtain ⟨hz0, hz1, hz2⟩ := hzz
  have hm : m ≤ 281474976710656 := Nat.le_trans (Nat.le_mul_of_pos_right _ hb0) hl
  have hr := run_make (P := P) W t e i0 z ht hi hz0 .i64 .i64 (m : Int) (m : Int) (by omega) (by omega)
    (by
      have h3 : ((i0.bytes * m : Nat) : Int) ≤ 281474976710656 := by rw [hz2, Nat.mul_comm]; omega
      rwa [Int.natCast_mul] at h3) (by omega)
  simp only [Int.toNat_natCast] at hr
  rw [hz1] at hr
  refine R_lit d base e hgd hd (xs := List.replicate m z0) (inner := (madeCells z.cells (m * d.sz)).toList) (okp := okp) (ok := ok) ?_ (reps_made hz hs0 hzero m) hok hfresh HB hbase (by simp; omega) h
  simp [execOp, ho, hx, hy, hr]
end
end Kd
theorem own_take {w : World} {base n m c size : Nat} {e : TypeId} {A : Option Addr} {xs : List Value} (h : w.ownsRow base e size (.slice A n c) n xs) (hm : m ≤ n) : w.ownsRow base e size (.slice A m c) m (xs.take (m * size)) := by
  obtain ⟨h1, h2⟩ := h
  refine ⟨by rw [List.length_take, h1]; exact Nat.min_eq_left (Nat.mul_le_mul_right _ hm), ?_⟩
  rcases h2 with ⟨he, h0⟩ | ⟨g, cap, cur, he, hb, hh, hnc, hcm, hcs, ht⟩
  · injection he with ha _ hc
    subst ha; subst hc
    exact .inl ⟨by rw [show m = 0 by omega], by omega⟩
  · injection he with ha _ hc
    subst ha; subst hc
    refine .inr ⟨g, c, cur, rfl, hb, hh, by omega, hcm, hcs, ?_⟩
    rw [← ht, List.take_take, Nat.min_eq_left (Nat.mul_le_mul_right _ hm)]
section
variable {P : Program}
theorem cut_to (t e : TypeId) (kh : IntKind) {i : TypeInfo} (ht : P.underlying t = some (.slice e)) (hi : P.info? e = some i) (A : Option Addr) (n c : Nat) (j : Int) (h0 : 0 ≤ j) (hm : j ≤ n) (hc : n ≤ c) :
    ∀ W : World, (Instr.slice t (.slice A n c) none (some (.int kh j)) none).run P W = .ok (.slice A j.toNat c) W := by
  intro W
  have hel : P.elem t = e := by simp [Program.elem, ht]
  have hu : P.underlying t = some (.slice (P.elem t)) := by rw [hel]; exact ht
  have ha : (A.map fun x => x.add 0) = A := by cases A <;> simp [Addr.add]
  rw [run_slice_h W t A n c hu kh j h0 (by omega), hel]
  simp [sizeOf, typeInfo, hi, sliced, Result.andThen, ha]
end
def QRow (w : World) (base : Nat) (e : TypeId) (size : Nat) (v : Value) (n : Nat) (xs : List Value) : Prop :=
  xs.length = n * size ∧
  ((n = 0 ∧ ∃ A, v = .slice A 0 0 ∧ ∀ a, A = some a → base ≤ a.block ∧ ∃ cur, w.heap[a.block]? = some (.cells cur e (0, 0))) ∨
   ∃ g off cap cur, v = .slice (some ⟨g, off * size, none⟩) n cap ∧ base ≤ g ∧ w.heap[g]? = some (.cells cur e (0, 0)) ∧ n ≤ cap ∧ off + cap ≤ maxLen ∧ cur.size = (off + cap) * size ∧ (cur.toList.drop (off * size)).take (n * size) = xs)
section
variable {w w1 : World} {base n size : Nat} {e : TypeId} {v : Value} {xs : List Value}
end
section
variable {P : Program}
end
namespace Kd
theorem reps_take {α : Type} {R : α → List Value → Prop} {size m : Nat} {ps : List α} {cs : List Value} (h : Reps R size ps cs) (hm : m ≤ ps.length) : Reps R size (ps.take m) (cs.take (m * size)) := by
  refine ⟨by rw [List.length_take, List.length_take, h.1, Nat.min_eq_left hm, Nat.min_eq_left (Nat.mul_le_mul_right _ hm)], fun j p hj => ?_⟩
  rw [List.getElem?_take] at hj
  split at hj
  · rename_i hjm
    have := h.2 j p hj
    have hle : j * size + size ≤ m * size := by rw [← Nat.succ_mul]; exact Nat.mul_le_mul_right _ hjm
    rw [List.drop_take, List.take_take, Nat.min_eq_left (by omega)]
    exact this
  · cases hj
theorem R_take {α : Type} {d : Kd α} {e m n c : Nat} {w : World} {base : Nat} {ok : Nat → Prop} {A : Option Addr} {xs : List α} (h : d.R e w base ok (.slice A n c) xs) (hm : m ≤ xs.length) : d.R e w base ok (.slice A m c) (xs.take m) := by
  obtain ⟨h0, inner, ho, hr⟩ := h
  have hn : n = xs.length := by
    obtain ⟨A', c', he⟩ := own_slice ho
    injection he
  subst hn
  have hb : ∀ x y : Nat, (Value.slice A x c).ownBlock = (Value.slice A y c).ownBlock := by
    intro x y
    cases A <;> rfl
  refine ⟨fun k hk => h0 k (by rw [hb _ m]; exact hk), inner.take (m * d.sz), ?_, ?_⟩
  · rw [List.length_take, Nat.min_eq_left hm]
    exact own_take ho hm
  · rw [hb m xs.length]
    exact reps_take hr hm
def Q {α : Type} (d : Kd α) (e : Nat) (w : World) (base : Nat) (ok : Nat → Prop) (v : Value) (xs : List α) : Prop :=
  (∀ k, v.ownBlock = some k → ok k) ∧ ∃ inner, QRow w base e d.sz v xs.length inner ∧ Reps (d.M w base (fun k => ok k ∧ some k ≠ v.ownBlock)) d.sz xs inner
section
variable {α : Type} {d : Kd α} {e : Nat} {w w1 W : World} {base : Nat} {ok ok' : Nat → Prop} {v : Value} {xs : List α}
end
section
variable {P : Program} {ops : Array Oper} {rest : List Oper} {o : Oper} {a : Act} {Q' : Exit → Act → World → Prop} {Kc : Act → World → Prop} {α : Type}
end
end Kd
namespace Kd
section
variable {α : Type} {d : Kd α} {e e' : Nat} {w w1 W : World} {base : Nat} {ok : Nat → Prop} {u v : Value} {xs : List α}
theorem R_typed (h : d.R e w base ok v xs) : ∀ k, v.ownBlock = some k → ∃ cells, w.heap[k]? = some (.cells cells e (0, 0)) := by
  obtain ⟨inner, ho⟩ := R_own h
  exact fun k hk => own_typed ho k hk
theorem R_over' (h : d.R e W base ok u xs) (hty : ∀ k, v.ownBlock = some k → ∃ cells, W.heap[k]? = some (.cells cells e' (0, 0))) (ht : ∀ q, q ∈ e :: d.E → q ≠ e') (hg : W.grownBy w1 v.ownBlock) : d.R e w1 base ok u xs := by
  refine R_mono (R_move (R_bound h) (fun k hk => hg.block k hk.2.2.1 (fun he => ?_))) (fun _ hk => hk.1)
  obtain ⟨_, _, _, q, hq, cells, hc⟩ := hk
  obtain ⟨cells', hc'⟩ := hty k he.symm
  rw [hc] at hc'
  injection hc' with hc'
  injection hc' with _ hc'
  exact ht q hq hc'
theorem R_elder' (hu : d.R e W base ok u xs) (hbase : ∀ k, v.ownBlock = some k → W.heap.size ≤ k) (hb : Below W.heap.size W w1) : d.R e w1 base (fun k => ok k ∧ some k ≠ v.ownBlock) u xs :=
  R_mono (R_move (R_bound hu) (fun k hk => hb.block k hk.2.2.1)) (fun k hk => ⟨hk.1, fun he => by have := hbase k he.symm; have := hk.2.2.1; omega⟩)
theorem R_new' (h : d.R e w1 W.heap.size ok v xs) (hlt : ∀ k, u.ownBlock = some k → k < W.heap.size) : d.R e w1 W.heap.size (fun k => ok k ∧ some k ≠ u.ownBlock) v xs :=
  R_mono (R_bound h) (fun k hk => ⟨hk.1, fun he => by have := hlt k he.symm; have := hk.2.1; omega⟩)
theorem fresh' (hlt : ∀ k, u.ownBlock = some k → k < W.heap.size) : ∀ k, W.heap.size ≤ k → some k ≠ u.ownBlock := fun k hk he => by have := hlt k he.symm; omega
end
end Kd
namespace Kd
section
variable {α : Type} {d : Kd α} {e base g n cap : Nat} {ok okp : Nat → Prop} {W : World} {xs : List α}
end
end Kd
namespace Kd
section
variable {α : Type} {F : Kd α → Kd α} {sz : Nat} {E : List Nat} {hs : ∀ n, (upto F sz E n).sz = sz} {hE : ∀ n q, q ∈ (upto F sz E n).E → q ∈ E}
end
end Kd
namespace Kd
theorem reps_append {α : Type} {R : α → List Value → Prop} {size : Nat} {ps qs : List α} {cs ds : List Value} (h : Reps R size ps cs) (h' : Reps R size qs ds) : Reps R size (ps ++ qs) (cs ++ ds) := by
  refine ⟨by rw [List.length_append, List.length_append, h.1, h'.1, Nat.add_mul], fun j p hj => ?_⟩
  rcases Nat.lt_or_ge j ps.length with hlt | hge
  · rw [List.getElem?_append_left hlt] at hj
    have hle : j * size + size ≤ cs.length := by rw [h.1, ← Nat.succ_mul]; exact Nat.mul_le_mul_right _ hlt
    rw [List.drop_append_of_le_length (by omega), List.take_append_of_le_length (by rw [List.length_drop]; omega)]
    exact h.2 j p hj
  · rw [List.getElem?_append_right hge] at hj
    have h2 := h'.2 (j - ps.length) p hj
    have hle : ps.length * size ≤ j * size := Nat.mul_le_mul_right _ hge
    rw [List.drop_append, List.drop_eq_nil_of_le (by rw [h.1]; exact hle), List.nil_append, h.1, ← Nat.sub_mul]
    exact h2
section
variable {P : Program} {ops : Array Oper} {rest : List Oper} {o : Oper} {a : Act} {Q : Exit → Act → World → Prop} {α : Type}
theorem R_append_rows (d : Kd α) {Rr : α → List Value → Prop} {w0 W : World} (base : Nat) (hgd : o.guard = none) (s x : Operand) (t e : TypeId) (z : Value) (bytes : Nat)
    (ho : o.op = .call { callee := .builtin .append, args := #[s, x], argTypes := #[t, t] })
    (ht : P.underlying t = some (.slice e)) (hinfo : (P.info? e).map (fun i => (i.zero, i.size, i.bytes)) = some (some z, d.sz, bytes)) (hz : z.cells.size = d.sz) (hs0 : 0 < d.sz) (hb0 : 0 < bytes)
    (v : Value) (xs ys : List α) (A : Option Addr) (m c : Nat) (ok okp : Nat → Prop) (hs : a.eval s = v) (hx : a.eval x = .slice A m c)
    (HO : d.R e W base ok v xs) (HR : ReadsRow Rr d.sz W A m ys) (hKM : ∀ x cs, Rr x cs → d.M W base okp x cs) (hokp : ∀ k, okp k → ok k ∧ some k ≠ v.ownBlock) (hfresh : ∀ k, W.heap.size ≤ k → ok k)
    (HB : Below base w0 W) (hbase : base ≤ W.heap.size) (hl : (xs.length + m) * bytes ≤ 140737488355328)
    (h : ∀ v1 w1, d.R e w1 base ok v1 (xs ++ ys) → Below base w0 w1 → W.grownBy w1 v.ownBlock → (v1.ownBlock = v.ownBlock ∨ ∃ b, v1.ownBlock = some b ∧ W.heap.size ≤ b) → wpList P ops Q rest (a.put o.dst v1) w1) :
    wpList P ops Q (o :: rest) a W := by
  obtain ⟨i0, hi, hzz⟩ := Option.map_eq_some_iff.1 hinfo
  simp only [Prod.mk.injEq] at hzz
  obtain ⟨hz0, hz1, hz2⟩ := hzz
  have hm : ys.length = m := HR.1
  have hlen : xs.length + m ≤ 140737488355328 := Nat.le_trans (Nat.le_mul_of_pos_right _ hb0) hl
  obtain ⟨hok, inner, hown, hr⟩ := HO
  have hrun : ∃ v1 w1, (Builtin.append_ #[t, t] o.type #[v, .slice A m c]).run P W = .ok v1 w1 ∧ d.R e w1 base ok v1 (xs ++ ys) ∧ W.grownBy w1 v.ownBlock ∧ (v1.ownBlock = v.ownBlock ∨ ∃ b, v1.ownBlock = some b ∧ W.heap.size ≤ b) := by
    rcases A with _ | ad
    · have h0 : m = 0 := by
        rcases Nat.eq_zero_or_pos m with h0 | h0
        · exact h0
        · obtain ⟨ad, h, _⟩ := HR.2.2 h0
          cases h
      subst h0
      obtain rfl : ys = [] := List.eq_nil_of_length_eq_zero hm
      refine ⟨v, W, ?_, by rw [List.append_nil]; exact ⟨hok, inner, hown, hr⟩, World.grownBy.refl W _, .inl rfl⟩
      rcases hown.2 with ⟨rfl, hn⟩ | ⟨g, cap, cur, rfl, _, _, hnc, _⟩
      · simp [Builtin.append_, run_underlying ht, sizeOf, typeInfo, hi, Builtin.lenOf, Builtin.firstCells]
      · simp [Builtin.append_, run_underlying ht, sizeOf, typeInfo, hi, Builtin.lenOf, Builtin.firstCells, hnc, storeCells]
    · obtain ⟨news, hnr, hnc⟩ := ReadsRow.inner_ HR
      have hnM : Reps (d.M W base okp) d.sz ys news := hnr.imp_ (fun p c hp => hKM p c hp)
      have hone : ∀ u ∈ news, u.oneCell' = true := by
        intro u hu
        obtain ⟨q, hq, rfl⟩ := List.mem_iff_getElem.1 hu
        have hql : q / d.sz < ys.length := by
          rw [Nat.div_lt_iff_lt_mul hs0]
          rw [← hnM.1]
          exact hq
        have hc := hnM.2 (q / d.sz) _ (List.getElem?_eq_getElem hql)
        refine d.K_one (d.K_of_M hc) _ ?_
        rw [List.mem_iff_getElem?]
        refine ⟨q % d.sz, ?_⟩
        rw [List.getElem?_take, if_pos (Nat.mod_lt _ hs0), List.getElem?_drop, Nat.mul_comm, Nat.div_add_mod, List.getElem?_eq_getElem hq]
      obtain ⟨v1, w1, hrun, h2, hg, _, hat⟩ := run_append_own_at (P := P) W base t o.type e i0 z d.sz bytes ht hi hz0 hz1 hz2 hz hs0 v xs.length inner hown ad m c news (by rw [hnM.1, hm]) hnc hone (by simp only [maxLen]; omega) hl hbase
      have hat' : v1.ownBlock = v.ownBlock ∨ ∃ b, v1.ownBlock = some b ∧ W.heap.size ≤ b := by
        rcases hat with hat | hat
        · exact .inl hat
        · exact .inr ⟨_, hat, Nat.le_refl _⟩
      have hne : ∀ k, some k ≠ v.ownBlock → k < W.heap.size → some k ≠ v1.ownBlock := by
        intro k hk hlt
        rcases hat' with hat | ⟨b, hb, hle⟩
        · rw [hat]; exact hk
        · rw [hb]
          intro he
          injection he with he
          omega
      have step : ∀ {q : α} {c : List Value} {o : Nat → Prop}, d.M W base o q c → (∀ k, o k → ok k ∧ some k ≠ v.ownBlock) → d.M w1 base (fun k => ok k ∧ some k ≠ v1.ownBlock) q c := by
        intro q c o hq ho
        have h1 := d.M_move (w1 := w1) (fun k hk => hg.block k hk.2.2.1 (ho k hk.1).2) (d.M_bound hq)
        exact d.M_mono (fun k hk => ⟨(ho k hk.1).1, hne k (ho k hk.1).2 hk.2.2.1⟩) h1
      refine ⟨v1, w1, hrun, ⟨fun k hk => ?_, inner ++ news, by rw [List.length_append, hm]; exact h2, reps_append (hr.imp_ (fun _ _ hq => step hq (fun _ hk => hk))) (hnM.imp_ (fun _ _ hq => step hq hokp))⟩, hg, hat'⟩
      rcases hat' with hat | ⟨b, hb, hle⟩
      · exact hok k (hat ▸ hk)
      · rw [hb] at hk
        injection hk with hk
        exact hfresh k (by omega)
  obtain ⟨v1, w1, hr1, h1, hg, hat⟩ := hrun
  refine wpList_plain hgd fun K hK => ?_
  unfold Oper.wp execOp
  simp only [ho, resolve, invoke, builtin, Sem.run_bind, Sem.run_pure, Result.andThen_ok, List.map_toArray, List.map_cons, List.map_nil, hs, hx, hr1]
  exact hK _ _ (h v1 w1 h1 (HB.grown hg hbase (own_base hown)) hg hat)
end
end Kd
namespace Kd
section
variable {P : Program} {ops : Array Oper} {rest : List Oper} {o : Oper} {a : Act} {Q : Exit → Act → World → Prop} {α : Type}
end
end Kd
theorem add_add (a : Addr) (i j : Nat) : (a.add i).add j = a.add (i + j) := by
  unfold Addr.add
  by_cases h1 : i = 0 <;> by_cases h2 : j = 0 <;> simp [h1, h2, Nat.add_assoc]
namespace Kd
section
variable {α : Type} {k : Kd α} {w : World} {A : Option Addr} {xs : List α} {m c : Nat}
end
end Kd
section
variable {P : Program}
end
theorem below_size {w W : World} (h : Below w.heap.size w W) : w.heap.size ≤ W.heap.size := h.size
theorem below_step {w W w2 : World} (h : Below w.heap.size w W) (k : Below W.heap.size W w2) : Below w.heap.size w w2 := below_then h h.size k
theorem below_set {w W : World} {g j : Nat} {v : Value} (h : Below w.heap.size w W) (hg : w.heap.size ≤ g) : Below w.heap.size w (W.setCell ⟨g, j, none⟩ v) := h.setCell hg _
theorem blk_put {w : World} {g : Nat} {t : TypeId} {cs cs' : Array Value} (h : w.heap[g]? = some (.cells cs t (0, 0))) (i : Nat) (u : Value) (e : cs.setIfInBounds i u = cs') : (w.setCell ⟨g, i, none⟩ u).heap[g]? = some (.cells cs' t (0, 0)) := e ▸ blk_set h i u
theorem below_drew1 {base : Nat} {w W : World} (h : Below base w W) : Below base w W.drew := h.drew
namespace Kd
section
variable {α β : Type} {d : Kd α} {d' : Kd β} {e e' base base' n : Nat} {ok ok' : Nat → Prop} {w W w1 W1 : World} {v u : Value} {xs : List α} {ys : List β} {A : Option Addr} {c : Nat}
end
section
variable {α : Type} {enc : α → Value} {h1 : ∀ x, (enc x).oneCell' = true} {w W : World} {A : Option Addr} {n g : Nat} {xs : List α}
end
end Kd
namespace Kd
section
variable {α : Type} {d : Kd α} {e base g : Nat} {ok : Nat → Prop} {w w1 : World} {v : Value} {xs : List α} {o : Obj}
end
end Kd
section
variable {P : Program} {ops : Array Oper} {rest : List Oper} {o : Oper} {a : Act} {Q : Exit → Act → World → Prop}
theorem box_event {W : World} (hgd : o.guard = none) {N : Tmp} (_hd : o.dst = some N) {cs : Array Value} {t : TypeId}
    (hrun : (execOp a.eval o).run P W = .ok (.value (.pointer (some ⟨W.heap.size, 0, none⟩))) (W.alloc (.cells cs t (0, 0))))
    (h : ∀ g, g = W.heap.size → ∀ w1, w1.heap[g]? = some (.cells cs t (0, 0)) → Below W.heap.size W w1 → wpList P ops Q rest (a.put o.dst (.pointer (some ⟨g, 0, none⟩))) w1) : wpList P ops Q (o :: rest) a W :=
  Kd.event_run hgd hrun (h _ rfl _ (blk_new W _) (below_alloc (Below.refl _ _) _))
end
namespace Kd
section
variable {α : Type} {enc : α → Value} {h1 : ∀ x, (enc x).oneCell' = true} {e base g n cap : Nat} {ok : Nat → Prop} {W : World} {xs : List α}
theorem R_celln (d : α) (h : (scalar enc h1).R e W base ok (.slice (some ⟨g, 0, none⟩) n cap) xs) (i : Int) (h0 : 0 ≤ i) (hi : i < n) : W.cell? ⟨g, i.toNat, none⟩ = some (enc (rdOf d xs i)) ∧ W.frozen? ⟨g, i.toNat, none⟩ = false := by
  obtain ⟨rfl, _⟩ := R_reads' h
  exact R_cell d h i h0 hi
end
end Kd
section
variable {P : Program} {ops : Array Oper} {rest : List Oper} {o : Oper} {a : Act} {Q : Exit → Act → World → Prop}
theorem store_event {W w1 : World} (hgd : o.guard = none) {t : TypeId} {p : Tmp} {v : Operand} (_ho : o.op = .store t (.tmp p) v) (hN : o.dst = none)
    (hrun : (execOp a.eval o).run P W = .ok .skip w1) (h : ∀ w', w' = w1 → wpList P ops Q rest a w') : wpList P ops Q (o :: rest) a W := by
  refine wpList_plain hgd fun K hK => ?_
  unfold Oper.wp
  rw [hrun]
  show K (a.put o.dst undef) w1
  rw [hN]
  exact hK _ _ (h _ rfl)
end
namespace Kd
section
variable {α : Type} {enc : α → Value} {h1 : ∀ x, (enc x).oneCell' = true} {e base g n cap : Nat} {ok : Nat → Prop} {W : World} {xs : List α}
theorem R_putg (h : (scalar enc h1).R e W base ok (.slice (some ⟨g, 0, none⟩) n cap) xs) (i : Int) (x : α) : (scalar enc h1).R e (W.setCell ⟨g, i.toNat, none⟩ (enc x)) base ok (.slice (some ⟨g, 0, none⟩) n cap) (xs.set i.toNat x) ∧ W.grownBy (W.setCell ⟨g, i.toNat, none⟩ (enc x)) (some g) := by
  obtain ⟨rfl, _⟩ := R_reads' h
  exact R_put h i x
end
end Kd
section
variable {P : Program} {ops : Array Oper} {rest : List Oper} {o : Oper} {a : Act} {Q : Exit → Act → World → Prop} {W : World}
theorem gate_dst {N : Tmp} (_hN : o.dst = some N) (h : wpList P ops Q (o :: rest) a W) : wpList P ops Q (o :: rest) a W := h
theorem gate_store {t : TypeId} {p : Tmp} {v : Operand} (_ho : o.op = .store t (.tmp p) v) (h : wpList P ops Q (o :: rest) a W) : wpList P ops Q (o :: rest) a W := h
end
section
variable {P : Program} {ops : Array Oper} {o : Oper} {a : Act} {Q : Exit → Act → World → Prop} {Kc : Act → World → Prop}
namespace Kd
variable {α : Type}
theorem R_append_rows_step (d : Kd α) {Rr : α → List Value → Prop} {w0 W : World} (base : Nat) (hw : Region.wanted o (yielded ops a.tmps) = true) (s x : Operand) (t e : TypeId) (z : Value) (bytes : Nat)
    (ho : o.op = .call { callee := .builtin .append, args := #[s, x], argTypes := #[t, t] })
    (ht : P.underlying t = some (.slice e)) (hinfo : (P.info? e).map (fun i => (i.zero, i.size, i.bytes)) = some (some z, d.sz, bytes)) (hz : z.cells.size = d.sz) (hs0 : 0 < d.sz) (hb0 : 0 < bytes)
    (v : Value) (xs ys : List α) (A : Option Addr) (m c : Nat) (ok okp : Nat → Prop) (hs : a.eval s = v) (hx : a.eval x = .slice A m c)
    (HO : d.R e W base ok v xs) (HR : ReadsRow Rr d.sz W A m ys) (hKM : ∀ x cs, Rr x cs → d.M W base okp x cs) (hokp : ∀ k, okp k → ok k ∧ some k ≠ v.ownBlock) (hfresh : ∀ k, W.heap.size ≤ k → ok k)
    (HB : Below base w0 W) (hbase : base ≤ W.heap.size) (hl : (xs.length + m) * bytes ≤ 140737488355328)
    (h : ∀ v1 w1, d.R e w1 base ok v1 (xs ++ ys) → Below base w0 w1 → W.grownBy w1 v.ownBlock → (v1.ownBlock = v.ownBlock ∨ ∃ b, v1.ownBlock = some b ∧ W.heap.size ≤ b) → Kc (a.put o.dst v1) w1) :
    if Region.wanted o (yielded ops a.tmps) = true then Oper.wp P o a W Kc Q else Kc (a.put o.dst undef) W := by
  obtain ⟨i0, hi, hzz⟩ := Option.map_eq_some_iff.1 hinfo
  simp only [Prod.mk.injEq] at hzz
  obtain ⟨hz0, hz1, hz2⟩ := hzz
  have hm : ys.length = m := HR.1
  have hlen : xs.length + m ≤ 140737488355328 := Nat.le_trans (Nat.le_mul_of_pos_right _ hb0) hl
  obtain ⟨hok, inner, hown, hr⟩ := HO
  have hrun : ∃ v1 w1, (Builtin.append_ #[t, t] o.type #[v, .slice A m c]).run P W = .ok v1 w1 ∧ d.R e w1 base ok v1 (xs ++ ys) ∧ W.grownBy w1 v.ownBlock ∧ (v1.ownBlock = v.ownBlock ∨ ∃ b, v1.ownBlock = some b ∧ W.heap.size ≤ b) := by
    rcases A with _ | ad
    · have h0 : m = 0 := by
        rcases Nat.eq_zero_or_pos m with h0 | h0
        · exact h0
        · obtain ⟨ad, h, _⟩ := HR.2.2 h0
          cases h
      subst h0
      obtain rfl : ys = [] := List.eq_nil_of_length_eq_zero hm
      refine ⟨v, W, ?_, by rw [List.append_nil]; exact ⟨hok, inner, hown, hr⟩, World.grownBy.refl W _, .inl rfl⟩
      rcases hown.2 with ⟨rfl, hn⟩ | ⟨g, cap, cur, rfl, _, _, hnc, _⟩
      · simp [Builtin.append_, run_underlying ht, sizeOf, typeInfo, hi, Builtin.lenOf, Builtin.firstCells]
      · simp [Builtin.append_, run_underlying ht, sizeOf, typeInfo, hi, Builtin.lenOf, Builtin.firstCells, hnc, storeCells]
    · obtain ⟨news, hnr, hnc⟩ := ReadsRow.inner_ HR
      have hnM : Reps (d.M W base okp) d.sz ys news := hnr.imp_ (fun p c hp => hKM p c hp)
      have hone : ∀ u ∈ news, u.oneCell' = true := by
        intro u hu
        obtain ⟨q, hq, rfl⟩ := List.mem_iff_getElem.1 hu
        have hql : q / d.sz < ys.length := by
          rw [Nat.div_lt_iff_lt_mul hs0]
          rw [← hnM.1]
          exact hq
        have hc := hnM.2 (q / d.sz) _ (List.getElem?_eq_getElem hql)
        refine d.K_one (d.K_of_M hc) _ ?_
        rw [List.mem_iff_getElem?]
        refine ⟨q % d.sz, ?_⟩
        rw [List.getElem?_take, if_pos (Nat.mod_lt _ hs0), List.getElem?_drop, Nat.mul_comm, Nat.div_add_mod, List.getElem?_eq_getElem hq]
      obtain ⟨v1, w1, hrun, h2, hg, _, hat⟩ := run_append_own_at (P := P) W base t o.type e i0 z d.sz bytes ht hi hz0 hz1 hz2 hz hs0 v xs.length inner hown ad m c news (by rw [hnM.1, hm]) hnc hone (by simp only [maxLen]; omega) hl hbase
      have hat' : v1.ownBlock = v.ownBlock ∨ ∃ b, v1.ownBlock = some b ∧ W.heap.size ≤ b := by
        rcases hat with hat | hat
        · exact .inl hat
        · exact .inr ⟨_, hat, Nat.le_refl _⟩
      have hne : ∀ k, some k ≠ v.ownBlock → k < W.heap.size → some k ≠ v1.ownBlock := by
        intro k hk hlt
        rcases hat' with hat | ⟨b, hb, hle⟩
        · rw [hat]; exact hk
        · rw [hb]
          intro he
          injection he with he
          omega
      have step : ∀ {q : α} {c : List Value} {o : Nat → Prop}, d.M W base o q c → (∀ k, o k → ok k ∧ some k ≠ v.ownBlock) → d.M w1 base (fun k => ok k ∧ some k ≠ v1.ownBlock) q c := by
        intro q c o hq ho
        have h1 := d.M_move (w1 := w1) (fun k hk => hg.block k hk.2.2.1 (ho k hk.1).2) (d.M_bound hq)
        exact d.M_mono (fun k hk => ⟨(ho k hk.1).1, hne k (ho k hk.1).2 hk.2.2.1⟩) h1
      refine ⟨v1, w1, hrun, ⟨fun k hk => ?_, inner ++ news, by rw [List.length_append, hm]; exact h2, reps_append (hr.imp_ (fun _ _ hq => step hq (fun _ hk => hk))) (hnM.imp_ (fun _ _ hq => step hq hokp))⟩, hg, hat'⟩
      rcases hat' with hat | ⟨b, hb, hle⟩
      · exact hok k (hat ▸ hk)
      · rw [hb] at hk
        injection hk with hk
        exact hfresh k (by omega)
  obtain ⟨v1, w1, hr1, h1, hg, hat⟩ := hrun
  rw [if_pos hw]
  unfold Oper.wp execOp
  simp only [ho, resolve, invoke, builtin, Sem.run_bind, Sem.run_pure, Result.andThen_ok, List.map_toArray, List.map_cons, List.map_nil, hs, hx, hr1]
  exact h v1 w1 h1 (HB.grown hg hbase (own_base hown)) hg hat
end Kd
end
section
variable {P : Program} {tmps : Array Value} {w : World}
end
namespace Kd
section
variable {P : Program} {α : Type}
end
section
variable {P : Program} {ops : Array Oper} {rest : List Oper} {o : Oper} {a : Act} {Q : Exit → Act → World → Prop} {Kc : Act → World → Prop} {α : Type}
end
end Kd
end Go.Proofs.YtanmfddlncdncabW.PrintWords
end
section
namespace Go.Proofs.YtanmfddlncdncabW.PrintLast
section
variable {P : Program} {ops : Array Oper} {Q : Exit → Act → World → Prop} {md : Region.Mode} {S : World → Prop} {ds : List Nat}
def Region.reachB (md : Region.Mode) (ops : Array Oper) (i : Nat) : Nat → Nat → Bool
  | 0, _ => false
  | fuel + 1, d => match ops[d]? with
    | some o => o.after.any fun e => Region.binds md e && (e.on == i || Region.reachB md ops i fuel e.on)
    | none => false
def Region.closedB (md : Region.Mode) (ops : Array Oper) (listed : Array Bool) : Bool :=
  (List.range ops.size).all fun j => !listed.getD j false || match ops[j]? with
    | some o => o.after.all fun e => !Region.binds md e || listed.getD e.on false
    | none => true
def Region.lastB (md : Region.Mode) (ops : Array Oper) (listed : Array Bool) (ds : List Nat) (i : Nat) : Bool :=
  ds.all fun d => listed.getD d true || Region.reachB md ops i ops.size d
def ListedClosed (md : Region.Mode) (ops : Array Oper) (listed : Array Bool) : Prop :=
  ∀ j oj, ops[j]? = some oj → listed.getD j false = true → ∀ e ∈ oj.after, Region.binds md e = true → listed.getD e.on false = true
theorem Region.closedB_spec {listed : Array Bool} (h : Region.closedB md ops listed = true) : ListedClosed md ops listed := by
  intro j oj hj hl e he hb
  have hlt : j < ops.size := (Array.getElem?_eq_some_iff.1 hj).1
  have h1 := List.all_eq_true.1 h j (List.mem_range.2 hlt)
  simp only [hl, hj, Bool.not_true, Bool.false_or] at h1
  have h2 := Array.all_eq_true_iff_forall_mem.1 h1 e he
  simpa [hb] using h2
theorem ListedClosed.set {listed : Array Bool} {i : Nat} (h : ListedClosed md ops listed) (hi : i ∈ Region.ready md ops listed) : ListedClosed md ops (listed.setIfInBounds i true) := by
  obtain ⟨_, oi, hoi, hall⟩ := mem_ready.1 hi
  intro j oj hj hl e he hb
  by_cases hij : i = j
  · subst hij
    have : oj = oi := Option.some.inj (hj.symm.trans hoi)
    subst this
    exact getD_set_true (hall e he hb)
  · rw [getD_set_ne false hij] at hl
    exact getD_set_true (h j oj hj hl e he hb)
theorem Region.reach_listed {listed : Array Bool} {i : Nat} (hc : ListedClosed md ops listed) : ∀ (fuel d : Nat), Region.reachB md ops i fuel d = true → listed.getD d false = true → listed.getD i false = true
  | 0, _, h, _ => by simp [Region.reachB] at h
  | fuel + 1, d, h, hl => by
    unfold Region.reachB at h
    cases ho : ops[d]? with
    | none => rw [ho] at h; simp at h
    | some o =>
      rw [ho] at h
      obtain ⟨e, he, h1⟩ := Array.any_eq_true'.1 h
      simp only [Bool.and_eq_true, Bool.or_eq_true, beq_iff_eq] at h1
      have hle := hc d o ho hl e he h1.1
      rcases h1.2 with h2 | h2
      · rw [← h2]; exact hle
      · exact Region.reach_listed hc fuel e.on h2 hle
theorem Region.reach_not_ready {listed : Array Bool} {i d fuel : Nat} (hc : ListedClosed md ops listed) (hr : Region.reachB md ops i fuel d = true) (hun : listed.getD i true = false) : d ∉ Region.ready md ops listed := by
  intro hd
  obtain ⟨_, o, ho, hall⟩ := mem_ready.1 hd
  have hi : listed.getD i false = true := by
    cases fuel with
    | zero => simp [Region.reachB] at hr
    | succ n =>
      unfold Region.reachB at hr
      rw [ho] at hr
      obtain ⟨e, he, h1⟩ := Array.any_eq_true'.1 hr
      simp only [Bool.and_eq_true, Bool.or_eq_true, beq_iff_eq] at h1
      have hle := hall e he h1.1
      rcases h1.2 with h2 | h2
      · rw [← h2]; exact hle
      · exact Region.reach_listed hc n e.on h2 hle
  rcases Nat.lt_or_ge i listed.size with h' | h'
  · simp [h'] at hun hi
    rw [hun] at hi
    cases hi
  · simp [Array.getElem?_eq_none h'] at hun
def wpAnyLast (P : Program) (md : Region.Mode) (ops : Array Oper) (Q : Exit → Act → World → Prop) (S : World → Prop) (ds : List Nat) : Nat → Array Bool → Act → World → Prop
  | 0, listed, a, w => Region.ready md ops listed = [] ∧ Q .normal a w
  | fuel + 1, listed, a, w =>
    (Region.ready md ops listed = [] → Q .normal a w) ∧
    ∀ i ∈ Region.ready md ops listed, wpOp P ops Q i (fun a' w' => (i ∉ ds → S w → S w') ∧ wpAnyLast P md ops Q S ds fuel (listed.setIfInBounds i true) a' w') a w
theorem wpAny_of_last : ∀ (fuel : Nat) (listed : Array Bool) (a : Act) (w : World), wpAnyLast P md ops Q S ds fuel listed a w → wpAny P md ops Q fuel listed a w
  | 0, _, _, _, h => h
  | fuel + 1, _, _, _, h => ⟨h.1, fun i hi => wpOp_mono (fun a' w' h' => wpAny_of_last fuel _ a' w' h'.2) (h.2 i hi)⟩
theorem wpAnyLast_first {i : Nat} {oi : Oper} {v : Value} (hi : ops[i]? = some oi) (hsel : ∀ (j : Nat) (o : Oper) cs b, ops[j]? = some o → o.op ≠ .select cs b)
    (hQ : ∀ c a w, Q (.panic c) (a.put oi.dst v) w → Q (.panic c) a w) (n : Nat) :
    ∀ (fuel : Nat) (listed : Array Bool) (a : Act) (w : World),
      (∀ j oj, ops[j]? = some oj → j ≠ i → listed.getD j true = false → (∀ e ∈ oj.after, Region.binds md e = true → e.on ≠ i) → oi.apart ops oj = true) →
      ListedClosed md ops listed → (∀ d ∈ ds, listed.getD d true = false → Region.reachB md ops i n d = true) →
      i ∈ Region.ready md ops listed → YieldsIf P ops S oi v a → S w →
      wpAnyLast P md ops Q S ds fuel (listed.setIfInBounds i true) (a.put oi.dst v) w → wpAnyLast P md ops Q S ds (fuel + 1) listed a w := by
  intro fuel
  induction fuel with
  | zero =>
    intro listed a w _ _ _ hr hy hS H
    refine ⟨fun h => (by rw [h] at hr; cases hr), fun j hj => ?_⟩
    by_cases hji : j = i
    · subst hji; exact hy.wpOp hi hS ⟨fun _ h => h, H⟩
    · have := ready_mono hj hji
      rw [H.1] at this
      cases this
  | succ fuel ih =>
    intro listed a w hfree hc hd hr hy hS H
    refine ⟨fun h => (by rw [h] at hr; cases hr), fun j hj => ?_⟩
    by_cases hji : j = i
    · subst hji; exact hy.wpOp hi hS ⟨fun _ h => h, H⟩
    · have h1 := H.2 j (ready_mono hj hji)
      obtain ⟨hjun, oj, hoj, hall⟩ := mem_ready.1 hj
      have hiun := (mem_ready.1 hr).1
      have hnot : ∀ e ∈ oj.after, Region.binds md e = true → e.on ≠ i := fun e he hb heq => by
        have h1 := hall e he hb
        rw [heq] at h1
        rcases Nat.lt_or_ge i listed.size with h' | h'
        · simp [h'] at hiun h1; rw [hiun] at h1; cases h1
        · simp [Array.getElem?_eq_none h'] at h1
      have hjd : j ∉ ds := fun hm => Region.reach_not_ready hc (hd j hm hjun) hiun hj
      have h2 := wpOp_putIf hoj (hfree j oj hoj hji hjun hnot) (fun cs b => hsel i oi cs b hi) (fun cs b => hsel j oj cs b hoj) hQ hy h1
      have hfree' : ∀ k ok, ops[k]? = some ok → k ≠ i → (listed.setIfInBounds j true).getD k true = false →
          (∀ e ∈ ok.after, Region.binds md e = true → e.on ≠ i) → oi.apart ops ok = true := fun k ok hk hki hun hno => by
        refine hfree k ok hk hki ?_ hno
        by_cases hjk : j = k
        · subst hjk; exact hjun
        · rw [getD_set_ne true hjk] at hun; exact hun
      have hd' : ∀ d ∈ ds, (listed.setIfInBounds j true).getD d true = false → Region.reachB md ops i n d = true := fun d hm hun => by
        refine hd d hm ?_
        by_cases hjk : j = d
        · subst hjk; exact hjun
        · rw [getD_set_ne true hjk] at hun; exact hun
      refine wpOp_mono (fun a' w' h3 => ⟨h3.2.1, ih (listed.setIfInBounds j true) a' w' hfree' (hc.set hj) hd' (ready_mono hr (Ne.symm hji)) h3.1 (h3.2.1 hjd hS) ?_⟩) h2
      rw [Array.setIfInBounds_comm _ _ hji]
      exact h3.2.2
theorem wpAnyLast_any {i : Nat} {oi : Oper} {v : Value} (hi : ops[i]? = some oi) (hsel : ∀ (j : Nat) (o : Oper) cs b, ops[j]? = some o → o.op ≠ .select cs b)
    (hQ : ∀ c a w, Q (.panic c) (a.put oi.dst v) w → Q (.panic c) a w) :
    ∀ (fuel : Nat) (listed : Array Bool) (a : Act) (w : World),
      (∀ j oj, ops[j]? = some oj → j ≠ i → listed.getD j true = false → (∀ e ∈ oj.after, Region.binds md e = true → e.on ≠ i) → oi.apart ops oj = true) →
      i ∈ Region.ready md ops listed → Yields P ops oi v a →
      wpAnyLast P md ops Q S ds fuel (listed.setIfInBounds i true) (a.put oi.dst v) w → wpAnyLast P md ops Q S ds (fuel + 1) listed a w := by
  intro fuel
  induction fuel with
  | zero =>
    intro listed a w _ hr hy H
    refine ⟨fun h => (by rw [h] at hr; cases hr), fun j hj => ?_⟩
    by_cases hji : j = i
    · subst hji; exact (hy.yieldsIf (S := fun _ => True)).wpOp hi trivial ⟨fun _ h => h, H⟩
    · have := ready_mono hj hji
      rw [H.1] at this
      cases this
  | succ fuel ih =>
    intro listed a w hfree hr hy H
    refine ⟨fun h => (by rw [h] at hr; cases hr), fun j hj => ?_⟩
    by_cases hji : j = i
    · subst hji; exact (hy.yieldsIf (S := fun _ => True)).wpOp hi trivial ⟨fun _ h => h, H⟩
    · have h1 := H.2 j (ready_mono hj hji)
      obtain ⟨hjun, oj, hoj, hall⟩ := mem_ready.1 hj
      have hiun := (mem_ready.1 hr).1
      have hnot : ∀ e ∈ oj.after, Region.binds md e = true → e.on ≠ i := fun e he hb heq => by
        have h1 := hall e he hb
        rw [heq] at h1
        rcases Nat.lt_or_ge i listed.size with h' | h'
        · simp [h'] at hiun h1; rw [hiun] at h1; cases h1
        · simp [Array.getElem?_eq_none h'] at h1
      have h2 := wpOp_put hoj (hfree j oj hoj hji hjun hnot) (fun cs b => hsel i oi cs b hi) (fun cs b => hsel j oj cs b hoj) hQ hy h1
      have hfree' : ∀ k ok, ops[k]? = some ok → k ≠ i → (listed.setIfInBounds j true).getD k true = false →
          (∀ e ∈ ok.after, Region.binds md e = true → e.on ≠ i) → oi.apart ops ok = true := fun k ok hk hki hun hno => by
        refine hfree k ok hk hki ?_ hno
        by_cases hjk : j = k
        · subst hjk; exact hjun
        · rw [getD_set_ne true hjk] at hun; exact hun
      refine wpOp_mono (fun a' w' h3 => ⟨h3.2.1, ih (listed.setIfInBounds j true) a' w' hfree' (ready_mono hr (Ne.symm hji)) h3.1 ?_⟩) h2
      rw [Array.setIfInBounds_comm _ _ hji]
      exact h3.2.2
theorem wpAnyLast_take {i : Nat} {oi : Oper} {v : Value} {fuel : Nat} {listed : Array Bool} {a : Act} {w : World} (hi : ops[i]? = some oi)
    (hs : Region.noSelect ops = true) (hf : Region.free md ops listed i = true) (hr : (Region.ready md ops listed).contains i = true)
    (hc : Region.closedB md ops listed = true) (hl : Region.lastB md ops listed ds i = true)
    (hQ : ∀ c a w, Q (.panic c) (a.put oi.dst v) w → Q (.panic c) a w) (hy : YieldsIf P ops S oi v a) (hS : S w)
    (h : wpAnyLast P md ops Q S ds fuel (listed.setIfInBounds i true) (a.put oi.dst v) w) : wpAnyLast P md ops Q S ds (fuel + 1) listed a w :=
  wpAnyLast_first hi (Region.noSelect_spec hs) hQ ops.size fuel listed a w (Region.free_spec hi hf) (Region.closedB_spec hc)
    (fun d hm hun => by have := List.all_eq_true.1 hl d hm; rw [hun] at this; simpa using this) (by simpa using hr) hy hS h
theorem wpAnyLast_all {rs : List Nat} {fuel : Nat} {listed : Array Bool} {a : Act} {w : World} (hr : Region.ready md ops listed = rs) (hne : rs ≠ [])
    (h : ∀ i ∈ rs, wpOp P ops Q i (fun a' w' => (i ∉ ds → S w → S w') ∧ wpAnyLast P md ops Q S ds fuel (listed.setIfInBounds i true) a' w') a w) : wpAnyLast P md ops Q S ds (fuel + 1) listed a w :=
  ⟨fun h0 => absurd (hr ▸ h0) hne, hr ▸ h⟩
theorem wpAnyLast_done {listed : Array Bool} {a : Act} {w : World} (hr : Region.ready md ops listed = []) (h : Q .normal a w) :
    ∀ fuel, wpAnyLast P md ops Q S ds fuel listed a w
  | 0 => ⟨hr, h⟩
  | _ + 1 => ⟨fun _ => h, by rw [hr]; simp⟩
theorem wp_region_last {id : Nat} {a : Act} {w : World} (hm : P.follows .mixedOrders = true)
    (h : wpAnyLast P .any ops Q S ds ops.size (Array.replicate ops.size false) a { w with drawn := w.drawn + 1 }) : (Code.region id ops true).wp P Q a w :=
  wp_region_any hm (wpAny_of_last _ _ _ _ h)
end
section
variable {P : Program} {ops : Array Oper} {Q : Exit → Act → World → Prop} {md : Region.Mode} {S : World → Prop} {ds : List Nat}
def AllReadyL (P : Program) (md : Region.Mode) (ops : Array Oper) (Q : Exit → Act → World → Prop) (S : World → Prop) (ds : List Nat) (fuel : Nat) (listed : Array Bool) (a : Act) (w : World) (rs : List Nat) : Prop :=
  ∀ i ∈ rs, wpOp P ops Q i (fun a' w' => (i ∉ ds → S w → S w') ∧ wpAnyLast P md ops Q S ds fuel (listed.setIfInBounds i true) a' w') a w
theorem AllReadyL.nil {fuel : Nat} {listed : Array Bool} {a : Act} {w : World} : AllReadyL P md ops Q S ds fuel listed a w [] := fun _ h => by cases h
theorem AllReadyL.cons {fuel : Nat} {listed : Array Bool} {a : Act} {w : World} {i : Nat} {o : Oper} {rs : List Nat} (ho : ops[i]? = some o) (hd : i ∉ ds)
    (h : ∀ K' : Act → World → Prop, Shut (∀ a w, S w → (S w → wpAnyLast P md ops Q S ds fuel (listed.setIfInBounds i true) a w) → K' a w) → if Region.wanted o (yielded ops a.tmps) = true then Oper.wp P o a w K' Q else K' (a.put o.dst undef) w)
    (hs : AllReadyL P md ops Q S ds fuel listed a w rs) : AllReadyL P md ops Q S ds fuel listed a w (i :: rs) := fun j hj => by
  rcases List.mem_cons.1 hj with rfl | hj
  · exact wpOp_step ho (fun K' hK => h K' (fun a w hS hW => hK a w ⟨fun _ _ => hS, hW hS⟩))
  · exact hs j hj
theorem AllReadyL.cons_last {fuel : Nat} {listed : Array Bool} {a : Act} {w : World} {i : Nat} {o : Oper} {rs : List Nat} (ho : ops[i]? = some o) (hd : i ∈ ds)
    (h : ∀ K' : Act → World → Prop, Shut (∀ a w, wpAnyLast P md ops Q S ds fuel (listed.setIfInBounds i true) a w → K' a w) → if Region.wanted o (yielded ops a.tmps) = true then Oper.wp P o a w K' Q else K' (a.put o.dst undef) w)
    (hs : AllReadyL P md ops Q S ds fuel listed a w rs) : AllReadyL P md ops Q S ds fuel listed a w (i :: rs) := fun j hj => by
  rcases List.mem_cons.1 hj with rfl | hj
  · exact wpOp_step ho (fun K' hK => h K' (fun a w hW => hK a w ⟨fun hn => absurd hd hn, hW⟩))
  · exact hs j hj
theorem wpAnyLast_ready {rs : List Nat} {fuel : Nat} {listed : Array Bool} {a : Act} {w : World} (hr : Region.ready md ops listed = rs) (hne : rs ≠ [])
    (h : AllReadyL P md ops Q S ds fuel listed a w rs) : wpAnyLast P md ops Q S ds (fuel + 1) listed a w := wpAnyLast_all hr hne h
theorem start_ {id n : Nat} {a : Act} {w : World} (l : Array Bool) (hm : P.follows .mixedOrders = true) (hn : ops.size = n) (hl : Array.replicate n false = l) (hS : S w.drew)
    (h : S w.drew → wpAnyLast P .any ops Q S ds n l a w.drew) : (Code.region id ops true).wp P Q a w := by
  subst hn
  subst hl
  exact wp_region_last hm (h hS)
def takeB (md : Region.Mode) (ops : Array Oper) (ds : List Nat) (l l' : Array Bool) (i : Nat) : Bool :=
  Region.noSelect ops && Region.free md ops l i && (Region.ready md ops l).contains i && Region.closedB md ops l && Region.lastB md ops l ds i && (l.setIfInBounds i true == l')
theorem take_ {i : Nat} {N : Option Tmp} {oi : Oper} {v : Value} {fuel : Nat} {l : Array Bool} {a : Act} {w : World} (l' : Array Bool) (hi : ops[i]? = some oi) (hN : oi.dst = N) (hc : takeB md ops ds l l' i = true)
    (hQ : ∀ c a w, Q (.panic c) (a.put oi.dst v) w → Q (.panic c) a w) (hy : YieldsIf P ops S oi v a) (hS : S w) {a' : Act} (ha : a.put N v = a')
    (h : wpAnyLast P md ops Q S ds fuel l' a' w) : wpAnyLast P md ops Q S ds (fuel + 1) l a w := by
  subst ha
  subst hN
  simp only [takeB, Bool.and_eq_true, beq_iff_eq] at hc
  obtain ⟨⟨⟨⟨⟨h1, h2⟩, h3⟩, h4⟩, h5⟩, h6⟩ := hc
  subst h6
  exact wpAnyLast_take hi h1 h2 h3 h4 h5 hQ hy hS h
def anyB (md : Region.Mode) (ops : Array Oper) (l l' : Array Bool) (i : Nat) : Bool :=
  Region.noSelect ops && Region.free md ops l i && (Region.ready md ops l).contains i && (l.setIfInBounds i true == l')
theorem pure_ {i : Nat} {N : Option Tmp} {oi : Oper} {v : Value} {fuel : Nat} {l : Array Bool} {a : Act} {w : World} (l' : Array Bool) (hi : ops[i]? = some oi) (hN : oi.dst = N) (hc : anyB md ops l l' i = true)
    (hQ : ∀ c a w, Q (.panic c) (a.put oi.dst v) w → Q (.panic c) a w) (hy : Yields P ops oi v a) {a' : Act} (ha : a.put N v = a')
    (h : wpAnyLast P md ops Q S ds fuel l' a' w) : wpAnyLast P md ops Q S ds (fuel + 1) l a w := by
  subst ha
  subst hN
  simp only [anyB, Bool.and_eq_true, beq_iff_eq] at hc
  obtain ⟨⟨⟨h1, h2⟩, h3⟩, h6⟩ := hc
  subst h6
  exact wpAnyLast_any hi (Region.noSelect_spec h1) hQ fuel l a w (Region.free_spec hi h2) (by simpa using h3) hy h
def readyB (md : Region.Mode) (ops : Array Oper) (l l' : Array Bool) (i : Nat) : Bool := (Region.ready md ops l == [i]) && (l.setIfInBounds i true == l')
theorem one_ {i : Nat} {N : Option Tmp} {oi : Oper} {fuel : Nat} {l : Array Bool} {a : Act} {w : World} (l' : Array Bool) (hi : ops[i]? = some oi) (hN : oi.dst = N) (hc : readyB md ops l l' i = true) (hd : i ∉ ds)
    (h : ∀ K : Act → World → Prop, Shut (∀ a' w', S w' → (S w' → wpAnyLast P md ops Q S ds fuel l' a' w') → K a' w') → if Region.wanted oi (yielded ops a.tmps) = true then Oper.wp P oi a w K Q else K (a.put N undef) w) :
    wpAnyLast P md ops Q S ds (fuel + 1) l a w := by
  subst hN
  simp only [readyB, Bool.and_eq_true, beq_iff_eq] at hc
  obtain ⟨h1, h2⟩ := hc
  subst h2
  exact wpAnyLast_ready h1 (by simp) (AllReadyL.cons hi hd (fun K hK => h K hK) AllReadyL.nil)
theorem last_ {i : Nat} {N : Option Tmp} {oi : Oper} {fuel : Nat} {l : Array Bool} {a : Act} {w : World} (l' : Array Bool) (hi : ops[i]? = some oi) (hN : oi.dst = N) (hc : readyB md ops l l' i = true) (hd : i ∈ ds)
    (h : ∀ K : Act → World → Prop, Shut (∀ a' w', wpAnyLast P md ops Q S ds fuel l' a' w' → K a' w') → if Region.wanted oi (yielded ops a.tmps) = true then Oper.wp P oi a w K Q else K (a.put N undef) w) :
    wpAnyLast P md ops Q S ds (fuel + 1) l a w := by
  subst hN
  simp only [readyB, Bool.and_eq_true, beq_iff_eq] at hc
  obtain ⟨h1, h2⟩ := hc
  subst h2
  exact wpAnyLast_ready h1 (by simp) (AllReadyL.cons_last hi hd (fun K hK => h K hK) AllReadyL.nil)
theorem done_ {l : Array Bool} {a : Act} {w : World} {n : Nat} (hr : (Region.ready md ops l == []) = true) (h : Q .normal a w) : wpAnyLast P md ops Q S ds n l a w := wpAnyLast_done (by simpa using hr) h n
theorem norm_ {fuel : Nat} {l : Array Bool} {a a' : Act} {w : World} (ha : a = a') (h : wpAnyLast P md ops Q S ds fuel l a' w) : wpAnyLast P md ops Q S ds fuel l a w := by
  subst ha
  exact h
theorem call_ {oi : Oper} {N : Option Tmp} {a : Act} {w : World} {K : Act → World → Prop} (f : FuncId) (args : Array Value) (hw : Region.wanted oi (yielded ops a.tmps) = true) (hN : oi.dst = N) (hrun : (execOp a.eval oi).run P w = .ok (.enter f args) w)
    (h : Calls P f args w fun e w' => ∃ v, e = .returned v ∧ K (a.put N v) w') : if Region.wanted oi (yielded ops a.tmps) = true then Oper.wp P oi a w K Q else K (a.put N undef) w := by
  rw [if_pos hw]
  subst hN
  unfold Oper.wp
  rw [hrun, Oper.upon_enter]
  refine h.mono fun e w'' hh => ?_
  obtain ⟨v, rfl, hk⟩ := hh
  exact hk
theorem enters_ {f : FuncId} {fn : Func} (hf : P.funcs[f]? = some fn) (hname : (fn.name == "runtime.NumGoroutine") = false) (hb : fn.body.isSome = true) (args : Array Value) (w : World) : (callFunc f args).run P w = .ok (.enter f args) w := by
  have h1 : fn.name ≠ "runtime.NumGoroutine" := by simpa using hname
  obtain ⟨c, hc⟩ := Option.isSome_iff_exists.1 hb
  simp [callFunc, hf, h1, hc]
theorem goes_ {oi : Oper} {N : Option Tmp} {a : Act} {w : World} {K : Act → World → Prop} {f : FuncId} {fn : Func} {as_ : Array Operand} {ts : Array TypeId} (hf : P.funcs[f]? = some fn) (hname : (fn.name == "runtime.NumGoroutine") = false) (hb : fn.body.isSome = true) (args : Array Value)
    (hw : Region.wanted oi (yielded ops a.tmps) = true) (hN : oi.dst = N) (hop : oi.op = .call { callee := .value (.func f), args := as_, argTypes := ts }) (hargs : as_.map a.eval = args)
    (h : Calls P f args w fun e w' => ∃ v, e = .returned v ∧ K (a.put N v) w') : if Region.wanted oi (yielded ops a.tmps) = true then Oper.wp P oi a w K Q else K (a.put N undef) w := by
  refine call_ f args hw hN ?_ h
  have he := enters_ hf hname hb args w
  unfold execOp
  simp [hop, resolve, Deferred.ofValue, invoke, Act.eval, hargs, he]
theorem goesL_ {rest : List Oper} {oi : Oper} {a : Act} {w : World} (N : Option Tmp) (hd : oi.dst = N) (hg : oi.guard = none) {f : FuncId} {fn : Func} {as_ : Array Operand} {ts : Array TypeId} (hf : P.funcs[f]? = some fn) (hname : (fn.name == "runtime.NumGoroutine") = false) (hb : fn.body.isSome = true) (args : Array Value)
    (hop : oi.op = .call { callee := .value (.func f), args := as_, argTypes := ts }) (hargs : as_.map a.eval = args)
    (h : Calls P f args w fun e w' => ∃ v, e = .returned v ∧ wpList P ops Q rest (a.put N v) w') : wpList P ops Q (oi :: rest) a w := by
  refine wpList_plain hg fun K hK => ?_
  have he := enters_ hf hname hb args w
  have hrun : (execOp a.eval oi).run P w = .ok (.enter f args) w := by
    unfold execOp
    simp [hop, resolve, Deferred.ofValue, invoke, Act.eval, hargs, he]
  unfold Oper.wp
  rw [hrun, Oper.upon_enter]
  refine h.mono fun e w'' hh => ?_
  obtain ⟨v, rfl, hk⟩ := hh
  subst hd
  exact hK _ _ hk
theorem skip_ {oi : Oper} {a : Act} {w w1 : World} {K : Act → World → Prop} (hw : Region.wanted oi (yielded ops a.tmps) = true) (hN : oi.dst = none) (hrun : (execOp a.eval oi).run P w = .ok .skip w1)
    (h : K a w1) : if Region.wanted oi (yielded ops a.tmps) = true then Oper.wp P oi a w K Q else K (a.put none undef) w := by
  rw [if_pos hw]
  unfold Oper.wp
  rw [hrun]
  show K (a.put oi.dst undef) w1
  rw [hN]
  exact h
theorem i64_w (n : Int) : IntKind.i64.wrap n = Go.RowKit.wrap64 n := by unfold Go.RowKit.wrap64; exact IntKind.wrap_i64 n
theorem i32_w (n : Int) : IntKind.i32.wrap n = Go.RowKit.wrap32 n := by unfold Go.RowKit.wrap32; exact IntKind.wrap_i32 n
end
end Go.Proofs.YtanmfddlncdncabW.PrintLast
end
section
namespace Go.Proofs.YtanmfddlncdncabW.PrintLast
open Go.Proofs.YtanmfddlncdncabW.PrintWords (Aside0)
section
variable {md : Region.Mode} {ops : Array Oper} {T : Bool × List (List Nat × List Nat)} {l l' li lj lk : Array Bool} {ds : List Nat} {i j k : Nat}
end
end Go.Proofs.YtanmfddlncdncabW.PrintLast
end
section
namespace Go.Proofs.YtanmfddlncdncabW.PrintLast
section
variable {P : Program} {ops : Array Oper} {Q : Exit → Act → World → Prop} {md : Region.Mode} {S : World → Prop} {ds : List Nat} {T : Bool × List (List Nat × List Nat)}
end
end Go.Proofs.YtanmfddlncdncabW.PrintLast
end
section
namespace Go.Proofs.YtanmfddlncdncabW.PrintWords
open Go.RowKit
namespace Kd
section
variable {α : Type} {d : Kd α} {e base g o n cap : Nat} {ok okp : Nat → Prop} {w W : World} {v : Value} {xs : List α}
end
section
variable {α : Type} {enc : α → Value} {h1 : ∀ x, (enc x).oneCell' = true} {e base g o n cap : Nat} {ok : Nat → Prop} {W : World} {xs : List α}
end
end Kd
end Go.Proofs.YtanmfddlncdncabW.PrintWords
end
section
namespace Go.Proofs.YtanmfddlncdncabW.PrintWords
open Go.RowKit
namespace Kd
def tag {α : Type} (f : Nat → Nat) (d : Kd α) : Kd (α × Nat) where
  sz := d.sz
  E := d.E
  K := fun w x cs => d.K w x.1 cs
  M := fun w base ok x cs => d.M w base (fun k => ok k ∧ f k = x.2) x.1 cs
  K_len := fun h => d.K_len h
  K_one := fun h => d.K_one h
  K_below := fun hb h => d.K_below hb h
  K_of_M := fun h => d.K_of_M h
  M_mono := fun hok h => d.M_mono (fun k hk => ⟨hok k hk.1, hk.2⟩) h
  M_bound := fun h => d.M_mono (fun _ hk => ⟨⟨hk.1.1, hk.2⟩, hk.1.2⟩) (d.M_bound h)
  M_move := fun hm h => d.M_move (fun k hk => hm k hk.1) h
  M_lower := fun hb h => d.M_lower hb h
def raw (sz : Nat) : Kd (List Value) where
  sz := sz
  E := []
  K := fun _ x cs => cs = x ∧ cs.length = sz ∧ ∀ u ∈ cs, u.oneCell' = true
  M := fun _ _ _ x cs => cs = x ∧ cs.length = sz ∧ ∀ u ∈ cs, u.oneCell' = true
  K_len := fun h => h.2.1
  K_one := fun h => h.2.2
  K_below := fun _ h => h
  K_of_M := fun h => h
  M_mono := fun _ h => h
  M_bound := fun h => h
  M_move := fun _ h => h
  M_lower := fun _ h => h
def S {α : Type} (d : Kd α) (e : Nat) (w : World) (base : Nat) (ok : Nat → Prop) (v : Value) (xs : List α) : Prop := ∃ f, (tag f d).R e w base ok v xs.zipIdx
section
variable {α β : Type} {d : Kd α} {d' : Kd β} {e e' : Nat} {w w1 W : World} {base b : Nat} {ok ok' okv oku : Nat → Prop} {u v : Value} {xs : List α} {ys : List β}
theorem R_tight (hE : d.E = []) (h : d.R e w base ok v xs) : d.R e w base (fun k => some k = v.ownBlock) v xs := by
  obtain ⟨h0, inner, ho, hr⟩ := h
  refine ⟨fun k hk => hk.symm, inner, ho, hr.imp_ (fun p c hp => d.M_mono (fun k hk => ?_) (d.M_bound hp))⟩
  obtain ⟨_, _, _, q, hq, _⟩ := hk
  rw [hE] at hq
  cases hq
end
section
variable {α β : Type} {d : Kd α} {d' : Kd β} {e e' g : Nat} {w w1 W : World} {base b : Nat} {ok ok' okv oku : Nat → Prop} {u v : Value} {xs : List α} {ys : List β}
end
section
open Classical in
variable {P : Program} {ops : Array Oper} {rest : List Oper} {o : Oper} {a : Act} {Q : Exit → Act → World → Prop} {Kc : Act → World → Prop} {α : Type}
end
def gap {α : Type} (f : Nat → Nat) (d : Kd α) (i : Nat) (c : List Value) : Kd (α × Nat) where
  sz := d.sz
  E := d.E
  K := fun w x cs => (x.2 = i → cs = c ∧ cs.length = d.sz ∧ ∀ u ∈ cs, u.oneCell' = true) ∧ (x.2 ≠ i → d.K w x.1 cs)
  M := fun w base ok x cs => (x.2 = i → cs = c ∧ cs.length = d.sz ∧ ∀ u ∈ cs, u.oneCell' = true) ∧ (x.2 ≠ i → d.M w base (fun k => ok k ∧ f k = x.2) x.1 cs)
  K_len := fun {w x cs} h => by
    by_cases hx : x.2 = i
    · exact (h.1 hx).2.1
    · exact d.K_len (h.2 hx)
  K_one := fun {w x cs} h => by
    by_cases hx : x.2 = i
    · exact (h.1 hx).2.2
    · exact d.K_one (h.2 hx)
  K_below := fun hb h => ⟨h.1, fun hx => d.K_below hb (h.2 hx)⟩
  K_of_M := fun h => ⟨h.1, fun hx => d.K_of_M (h.2 hx)⟩
  M_mono := fun hok h => ⟨h.1, fun hx => d.M_mono (fun k hk => ⟨hok k hk.1, hk.2⟩) (h.2 hx)⟩
  M_bound := fun h => ⟨h.1, fun hx => d.M_mono (fun _ hk => ⟨⟨hk.1.1, hk.2⟩, hk.1.2⟩) (d.M_bound (h.2 hx))⟩
  M_move := fun hm h => ⟨h.1, fun hx => d.M_move (fun k hk => hm k hk.1) (h.2 hx)⟩
  M_lower := fun hb h => ⟨h.1, fun hx => d.M_lower hb (h.2 hx)⟩
def H {α : Type} (d : Kd α) (e : Nat) (w : World) (base : Nat) (ok : Nat → Prop) (v : Value) (xs : List α) (i : Int) (oki : Nat → Prop) (c : List Value) : Prop :=
  (∀ k, oki k → ok k) ∧ ∃ f, (gap f d i.toNat c).R e w base (fun k => ok k ∧ ¬ oki k) v xs.zipIdx
section
variable {α β : Type} {d : Kd α} {e e' g n cap : Nat} {w w1 W : World} {base : Nat} {ok ok' oki okp : Nat → Prop} {u v : Value} {xs : List α} {i : Int} {c : List Value}
open Classical in
end
section
variable {P : Program} {ops : Array Oper} {rest : List Oper} {o : Oper} {a : Act} {Q : Exit → Act → World → Prop} {α : Type}
end
end Kd
end Go.Proofs.YtanmfddlncdncabW.PrintWords
end
section
namespace Go.Proofs.YtanmfddlncdncabW.PrintWords
open Go.RowKit
namespace Kd
section
variable {α : Type} {n : Nat} {d : Kd α} {hs : 0 < d.sz} {w : World} {base : Nat} {ok : Nat → Prop} {xs : List α} {cs : List Value}
end
section
variable {α : Type} {n : Nat} {enc : α → Value} {h1 : ∀ x, (enc x).oneCell' = true} {hs : 0 < (scalar enc h1).sz} {w : World} {base : Nat} {ok : Nat → Prop} {xs : List α} {cs : List Value}
end
end Kd
end Go.Proofs.YtanmfddlncdncabW.PrintWords
end
section
namespace Go.Proofs.YtanmfddlncdncabW.PrintWords
open Go.RowKit
section
variable {P : Program}
end
namespace Kd
section
variable {P : Program} {ops : Array Oper} {rest : List Oper} {o : Oper} {a : Act} {Q : Exit → Act → World → Prop} {Kc : Act → World → Prop} {α : Type}
end
section
variable {α : Type} {d : Kd α} {e : Nat} {w : World} {base : Nat} {ok : Nat → Prop} {v : Value} {xs : List α}
end
section
variable {P : Program} {ops : Array Oper} {rest : List Oper} {o : Oper} {a : Act} {Q : Exit → Act → World → Prop} {Kc : Act → World → Prop} {α : Type}
end
end Kd
end Go.Proofs.YtanmfddlncdncabW.PrintWords
end
section
namespace Go.Proofs.YtanmfddlncdncabW.PrintWords
open Go.RowKit
namespace Kd
structure Heap {α : Type} (d : Kd α) : Prop where
  K : ∀ {w w1 : World} {x : α} {cs : List Value}, (∀ k, k < w.heap.size → w1.heap[k]? = w.heap[k]?) → d.K w x cs → d.K w1 x cs
theorem cell_heap {w w1 : World} (hb : ∀ k, k < w.heap.size → w1.heap[k]? = w.heap[k]?) {a : Addr} {v : Value} (h : w.cell? a = some v) : w1.cell? a = some v := by
  have := hb a.block (World.block_lt_of_cell? w a h)
  simpa [World.cell?, this] using h
theorem Heap.C {α : Type} {d : Kd α} (hd : Heap d) {w w1 : World} {A : Option Addr} {n : Nat} {xs : List α} (hb : ∀ k, k < w.heap.size → w1.heap[k]? = w.heap[k]?) (h : d.C w A n xs) : d.C w1 A n xs :=
  ⟨h.1, h.2.1, fun hn => by
    obtain ⟨ad, e, hc⟩ := h.2.2 hn
    refine ⟨ad, e, fun j p hj => ?_⟩
    obtain ⟨c, hs, hr, hcell⟩ := hc j p hj
    exact ⟨c, hs, hd.K hb hr, fun i u hu => cell_heap hb (hcell i u hu)⟩⟩
section
variable {α : Type} {d : Kd α} {e base g n c : Nat} {ok : Nat → Prop} {w w0 W : World} {A : Option Addr} {xs : List α}
end
end Kd
end Go.Proofs.YtanmfddlncdncabW.PrintWords
end
section
namespace Go.Proofs.YtanmfddlncdncabW.PrintWords
open Go.RowKit
def Kept (w W : World) (S : Nat → Prop) : Prop := w.heap.size ≤ W.heap.size ∧ ∀ i, i < w.heap.size → ¬ S i → W.heap[i]? = w.heap[i]?
section
variable {w W W2 : World} {S S2 S' : Nat → Prop}
theorem Kept.refl (w : World) (S : Nat → Prop) : Kept w w S := ⟨Nat.le_refl _, fun _ _ _ => rfl⟩
theorem Kept.of_below (h : Below w.heap.size w W) (S : Nat → Prop) : Kept w W S := ⟨h.size, fun i hi _ => h.block i hi⟩
theorem Kept.then_ (h : Kept w W S) (k : Kept W W2 S2) (hs : ∀ k, S2 k → S k ∨ w.heap.size ≤ k) : Kept w W2 S :=
  ⟨Nat.le_trans h.1 k.1, fun i hi hn => (k.2 i (Nat.lt_of_lt_of_le hi h.1) (fun h2 => (hs i h2).elim hn (fun h3 => by omega))).trans (h.2 i hi hn)⟩
theorem Kept.setCell (h : Kept w W S) {p : Addr} (hp : S p.block ∨ w.heap.size ≤ p.block) (u : Value) : Kept w (W.setCell p u) S :=
  h.then_ (S2 := fun k => k = p.block) ⟨by simp [World.setCell], fun i _ hn => Below.heap_setCell W p u i hn⟩ (fun k hk => by rw [hk]; exact hp)
end
namespace Kd
section
variable {α : Type} {d : Kd α} {e base n c : Nat} {ok oki S S2 : Nat → Prop} {w w0 W W1 W2 : World} {v : Value} {A : Option Addr} {xs : List α} {i : Int} {cs : List Value}
end
end Kd
end Go.Proofs.YtanmfddlncdncabW.PrintWords
end
section
namespace Go.Proofs.YtanmfddlncdncabW.PrintWords
open Go.RowKit
def Foot (P : World → Prop) (W : World) (ok : Nat → Prop) : Prop := ∀ W' : World, (∀ k, ok k → k < W.heap.size → W'.heap[k]? = W.heap[k]?) → P W'
namespace Foot
variable {P Q : World → Prop} {W W1 : World} {ok ok' : Nat → Prop}
end Foot
namespace Kd
def F {α : Type} (d : Kd α) (W : World) (ok : Nat → Prop) (A : Option Addr) (n : Nat) (xs : List α) : Prop := Foot (fun W => d.C W A n xs) W ok
def FK {α : Type} (d : Kd α) (W : World) (ok : Nat → Prop) (x : α) (c : List Value) : Prop := Foot (fun W => d.K W x c) W ok
section
variable {α β : Type} {d : Kd α} {e base n n' cc g N : Nat} {ok ok' okp S : Nat → Prop} {w w0 w1 W W1 : World} {A A' : Option Addr} {u v v1 : Value} {xs : List α} {xs' : List β} {d' : Kd β} {x : α} {c : List Value}
end
end Kd
end Go.Proofs.YtanmfddlncdncabW.PrintWords
end
section
namespace Go.Proofs.YtanmfddlncdncabW.PrintWords
open Go.RowKit
namespace Kd
section
variable {α : Type} {d : Kd α} {e base n cc g : Nat} {ok ok' okp S : Nat → Prop} {w w1 W W1 : World} {A : Option Addr} {u v v1 : Value} {xs : List α} {x : α} {c : List Value}
def N {α : Type} (d : Kd α) (e : Nat) (w : World) (base : Nat) (ok : Nat → Prop) (v : Value) (xs : List α) : Prop :=
  (∀ k, v.ownBlock = some k → ok k) ∧ ∃ rows : List (List Value), rows.length = xs.length ∧ (raw d.sz).R e w base (fun k => some k = v.ownBlock) v rows ∧ ∀ (j : Nat) (x : α) (c : List Value), xs[j]? = some x → rows[j]? = some c → FK d w (fun k => ok k ∧ some k ≠ v.ownBlock) x c
end
end Kd
end Go.Proofs.YtanmfddlncdncabW.PrintWords
end
section
namespace Go.Proofs.YtanmfddlncdncabW.PrintWords
open Go.RowKit
namespace Kd
section
variable {α : Type} {d : Kd α} {W : World} {g n : Nat} {S ok : Nat → Prop} {A : Option Addr} {ad : Addr} {xs : List α}
end
end Kd
end Go.Proofs.YtanmfddlncdncabW.PrintWords
end
section
namespace Go.Proofs.YtanmfddlncdncabW.PrintWords
open Go.RowKit
section
variable {w w' u : World} {m B g : Nat} {o : Obj} {row : Option Nat} {S : Nat → Prop} {a : Addr} {v : Value}
end
namespace Kd
section
variable {α : Type} {d : Kd α} {e base n m : Nat} {ok : Nat → Prop} {w w' : World} {v : Value} {A : Option Addr} {xs : List α}
end
end Kd
end Go.Proofs.YtanmfddlncdncabW.PrintWords
end
section
namespace Go.Proofs.YtanmfddlncdncabW.PrintWords
open Go.RowKit
section
variable {P : Program} {d : Nat} {xs ys : Array Value} {f : Field} {fs : List Field} {a b : Value} {r s : Bool} {w : World}
end
end Go.Proofs.YtanmfddlncdncabW.PrintWords
end
section
namespace Go.Proofs.YtanmfddlncdncabW.PrintWords
theorem Reps.one {α : Type} {R : α → List Value → Prop} {ps : List α} {cs : List Value} {p : α} {v : Value} (hp : R p [v]) (h : Reps R 1 ps cs) : Reps R 1 (p :: ps) (v :: cs) := by
  refine ⟨by simp [h.1], fun j q hq => ?_⟩
  cases j with
  | zero =>
    simp only [List.getElem?_cons_zero, Option.some.injEq] at hq
    subst hq
    simpa using hp
  | succ j =>
    simp only [List.getElem?_cons_succ] at hq
    have h1 := h.2 j q hq
    simpa [Nat.mul_one] using h1
theorem Reps.front {α : Type} {R : α → List Value → Prop} {size : Nat} {ps : List α} {cs c all : List Value} {p : α} (hp : R p c) (hc : c.length = size) (h : Reps R size ps cs) (ha : c ++ cs = all) : Reps R size (p :: ps) all := by
  subst ha
  refine ⟨by rw [List.length_append, hc, h.1, List.length_cons, Nat.succ_mul, Nat.add_comm], fun j q hq => ?_⟩
  cases j with
  | zero =>
    simp only [List.getElem?_cons_zero, Option.some.injEq] at hq
    subst hq
    rw [Nat.zero_mul, List.drop_zero, List.take_append_of_le_length (by omega), List.take_of_length_le (by omega)]
    exact hp
  | succ j =>
    simp only [List.getElem?_cons_succ] at hq
    have h1 := h.2 j q hq
    rw [Nat.succ_mul, List.drop_append, List.drop_of_length_le (by rw [hc]; exact Nat.le_add_left _ _), List.nil_append, hc, Nat.add_sub_cancel]
    exact h1
theorem Reps.c2 {α : Type} {R : α → List Value → Prop} {ps : List α} {cs : List Value} {p : α} {va vb : Value} (hp : R p [va, vb]) (h : Reps R 2 ps cs) : Reps R 2 (p :: ps) (va :: vb :: cs) := Reps.front hp rfl h rfl
theorem Reps.c3 {α : Type} {R : α → List Value → Prop} {ps : List α} {cs : List Value} {p : α} {va vb vc : Value} (hp : R p [va, vb, vc]) (h : Reps R 3 ps cs) : Reps R 3 (p :: ps) (va :: vb :: vc :: cs) := Reps.front hp rfl h rfl
theorem Reps.c4 {α : Type} {R : α → List Value → Prop} {ps : List α} {cs : List Value} {p : α} {va vb vc vd : Value} (hp : R p [va, vb, vc, vd]) (h : Reps R 4 ps cs) : Reps R 4 (p :: ps) (va :: vb :: vc :: vd :: cs) := Reps.front hp rfl h rfl
theorem Reps.c5 {α : Type} {R : α → List Value → Prop} {ps : List α} {cs : List Value} {p : α} {va vb vc vd ve : Value} (hp : R p [va, vb, vc, vd, ve]) (h : Reps R 5 ps cs) : Reps R 5 (p :: ps) (va :: vb :: vc :: vd :: ve :: cs) := Reps.front hp rfl h rfl
theorem Reps.c6 {α : Type} {R : α → List Value → Prop} {ps : List α} {cs : List Value} {p : α} {va vb vc vd ve vf : Value} (hp : R p [va, vb, vc, vd, ve, vf]) (h : Reps R 6 ps cs) : Reps R 6 (p :: ps) (va :: vb :: vc :: vd :: ve :: vf :: cs) := Reps.front hp rfl h rfl
theorem Reps.c7 {α : Type} {R : α → List Value → Prop} {ps : List α} {cs : List Value} {p : α} {va vb vc vd ve vf vg : Value} (hp : R p [va, vb, vc, vd, ve, vf, vg]) (h : Reps R 7 ps cs) : Reps R 7 (p :: ps) (va :: vb :: vc :: vd :: ve :: vf :: vg :: cs) := Reps.front hp rfl h rfl
theorem Reps.c8 {α : Type} {R : α → List Value → Prop} {ps : List α} {cs : List Value} {p : α} {va vb vc vd ve vf vg vh : Value} (hp : R p [va, vb, vc, vd, ve, vf, vg, vh]) (h : Reps R 8 ps cs) : Reps R 8 (p :: ps) (va :: vb :: vc :: vd :: ve :: vf :: vg :: vh :: cs) := Reps.front hp rfl h rfl
theorem Reps.c9 {α : Type} {R : α → List Value → Prop} {ps : List α} {cs : List Value} {p : α} {va vb vc vd ve vf vg vh vi : Value} (hp : R p [va, vb, vc, vd, ve, vf, vg, vh, vi]) (h : Reps R 9 ps cs) : Reps R 9 (p :: ps) (va :: vb :: vc :: vd :: ve :: vf :: vg :: vh :: vi :: cs) := Reps.front hp rfl h rfl
theorem Reps.c10 {α : Type} {R : α → List Value → Prop} {ps : List α} {cs : List Value} {p : α} {va vb vc vd ve vf vg vh vi vj : Value} (hp : R p [va, vb, vc, vd, ve, vf, vg, vh, vi, vj]) (h : Reps R 10 ps cs) : Reps R 10 (p :: ps) (va :: vb :: vc :: vd :: ve :: vf :: vg :: vh :: vi :: vj :: cs) := Reps.front hp rfl h rfl
end Go.Proofs.YtanmfddlncdncabW.PrintWords
end
section
namespace Go.Proofs.YtanmfddlncdncabW.PrintLast
section
variable {P : Program} {ops : Array Oper} {Q : Exit → Act → World → Prop} {md : Region.Mode} {T : Bool × List (List Nat × List Nat)} {B : List Nat} {O : List Nat} {b : Nat → Bool} {i j n : Nat}
end
end Go.Proofs.YtanmfddlncdncabW.PrintLast
end
section
namespace Go.Proofs.YtanmfddlncdncabW.PrintWords
open Go.RowKit
end Go.Proofs.YtanmfddlncdncabW.PrintWords
namespace Go.Proofs.YtanmfddlncdncabW.PrintLast
section
variable {ops : Array Oper} {a : Act} {o og : Oper} {g : Nat} {t : Tmp} {u : Bool}
end
end Go.Proofs.YtanmfddlncdncabW.PrintLast
end
section
namespace Go.Proofs.YtanmfddlncdncabW.PrintWords
open Go.RowKit
section
variable {P : Program} {ops : Array Oper} {rest : List Oper} {o : Oper} {a : Act} {Q : Exit → Act → World → Prop} {W : World}
theorem gate_guard (hw : Region.wanted o (yielded ops a.tmps) = true) (h : wpList P ops Q ({ o with guard := none } :: rest) a W) : wpList P ops Q (o :: rest) a W := by
  have h1 : Region.wanted { o with guard := none } (yielded ops a.tmps) = true := rfl
  unfold wpList at h ⊢
  rw [if_pos h1] at h
  rw [if_pos hw]
  exact h
end
end Go.Proofs.YtanmfddlncdncabW.PrintWords
end
section
namespace Go.Proofs.YtanmfddlncdncabW.PrintWords
open Go.RowKit
namespace Kd
section
variable {α : Type} {d : Kd α} {e base n cap g : Nat} {ok ok' okp : Nat → Prop} {w w1 W : World} {v v1 : Value} {xs ys : List α}
end
section
variable {P : Program} {ops : Array Oper} {rest : List Oper} {o : Oper} {a : Act} {Q : Exit → Act → World → Prop} {Kc : Act → World → Prop} {α : Type}
end
end Kd
end Go.Proofs.YtanmfddlncdncabW.PrintWords
end
section
namespace Go.Proofs.YtanmfddlncdncabW.PrintMore
open Go.RowKit Go.Proofs.YtanmfddlncdncabW.PrintWords
namespace Kd
open Go.Proofs.YtanmfddlncdncabW.PrintWords.Kd
end Kd
namespace Kd
open Go.Proofs.YtanmfddlncdncabW.PrintWords.Kd
section
variable {α : Type} {d : Kd α} {e base g N : Nat} {ok : Nat → Prop} {W w1 : World} {u v : Value} {xs : List α}
end
end Kd
theorem max2_int (k k' : IntKind) (x y : Int) : Builtin.max2 (.int k x) (.int k' y) = pure (.int k (if x < y then y else x)) := by simp only [Builtin.max2, gt_iff_lt]
theorem min2_int (k k' : IntKind) (x y : Int) : Builtin.min2 (.int k x) (.int k' y) = pure (.int k (if y < x then y else x)) := by simp only [Builtin.min2]
theorem max_two (ats : Array TypeId) (ty : TypeId) (a b : Value) : Builtin.max_ ats ty #[a, b] = (Builtin.max2 a b >>= fun s => pure s) := by simp only [Builtin.max_, List.foldlM_cons, List.foldlM_nil]
theorem min_two (ats : Array TypeId) (ty : TypeId) (a b : Value) : Builtin.min_ ats ty #[a, b] = (Builtin.min2 a b >>= fun s => pure s) := by simp only [Builtin.min_, List.foldlM_cons, List.foldlM_nil]
theorem max_three (ats : Array TypeId) (ty : TypeId) (a b c : Value) : Builtin.max_ ats ty #[a, b, c] = (Builtin.max2 a b >>= fun s => Builtin.max2 s c >>= fun s => pure s) := by simp only [Builtin.max_, List.foldlM_cons, List.foldlM_nil]
theorem min_three (ats : Array TypeId) (ty : TypeId) (a b c : Value) : Builtin.min_ ats ty #[a, b, c] = (Builtin.min2 a b >>= fun s => Builtin.min2 s c >>= fun s => pure s) := by simp only [Builtin.min_, List.foldlM_cons, List.foldlM_nil]
theorem max_four (ats : Array TypeId) (ty : TypeId) (a b c d : Value) : Builtin.max_ ats ty #[a, b, c, d] = (Builtin.max2 a b >>= fun s => Builtin.max2 s c >>= fun s => Builtin.max2 s d >>= fun s => pure s) := by simp only [Builtin.max_, List.foldlM_cons, List.foldlM_nil]
theorem min_four (ats : Array TypeId) (ty : TypeId) (a b c d : Value) : Builtin.min_ ats ty #[a, b, c, d] = (Builtin.min2 a b >>= fun s => Builtin.min2 s c >>= fun s => Builtin.min2 s d >>= fun s => pure s) := by simp only [Builtin.min_, List.foldlM_cons, List.foldlM_nil]
end Go.Proofs.YtanmfddlncdncabW.PrintMore
namespace Go.Proofs.YtanmfddlncdncabW.PrintWords
open Go.RowKit
section
variable {P : Program} {ops : Array Oper} {rest : List Oper} {o : Oper} {a : Act} {Q : Exit → Act → World → Prop} {W : World}
theorem gate_callee {f : FuncId} {as_ : Array Operand} {ts : Array TypeId} (_ho : o.op = .call { callee := .value (.func f), args := as_, argTypes := ts }) (h : wpList P ops Q (o :: rest) a W) : wpList P ops Q (o :: rest) a W := h
theorem gate_builtin {b : Builtin} {xs : Array Operand} {ts : Array TypeId} (_ho : o.op = .call { callee := .builtin b, args := xs, argTypes := ts }) (h : wpList P ops Q (o :: rest) a W) : wpList P ops Q (o :: rest) a W := h
end
def shl (k : IntKind) (x y : Int) : Int := k.wrap (x * 2 ^ min y.toNat k.bits)
def shr (k : IntKind) (x y : Int) : Int := x / 2 ^ min y.toNat k.bits
theorem shl_small {k : IntKind} {x y j : Int} (h : shl k x y = j) (hy : y ≤ k.bits) : k.wrap (x * 2 ^ y.toNat) = j := by rw [← h]; unfold shl; rw [Nat.min_eq_left (by omega)]
theorem shr_small {k : IntKind} {x y j : Int} (h : shr k x y = j) (hy : y ≤ k.bits) : x / 2 ^ y.toNat = j := by rw [← h]; unfold shr; rw [Nat.min_eq_left (by omega)]
namespace Kd
section
variable {α : Type} {d : Kd α} {e base : Nat} {ok : Nat → Prop} {W w1 : World} {v : Value} {xs : List α}
end
section
variable {α : Type} {d : Kd α} {e base g n cap : Nat} {ok oki okp : Nat → Prop} {W : World} {xs : List α} {i : Int} {c : List Value}
end
section
variable {α : Type} {d : Kd α} {e base b b' g N : Nat} {ok ok1 : Nat → Prop} {W W2 w1 : World} {u v : Value} {xs ys : List α} {S : Nat → Prop}
end
end Kd
end Go.Proofs.YtanmfddlncdncabW.PrintWords
namespace Go.Proofs.YtanmfddlncdncabW.PrintWords
open Go.RowKit
namespace Kd
section
variable {α β : Type} {d : Kd α} {e base base' n m c g N' lo hi : Nat} {ok ok' S : Nat → Prop} {w W w1 : World} {A : Option Addr} {ad : Addr} {u v v1 : Value} {xs : List α}
end
end Kd
end Go.Proofs.YtanmfddlncdncabW.PrintWords
end
section
namespace Go.Proofs.Ytanmfddlncdncab.F
open Go.RowKit Go.Proofs.YtanmfddlncdncabW.PrintWords Go.Proofs.YtanmfddlncdncabW.PrintLast Go.Proofs.YtanmfddlncdncabW.PrintMore
attribute [local go_sem] max2_int min2_int max_two min_two max_three min_three max_four min_four
set_option linter.unusedVariables false
set_option linter.unusedSimpArgs false
def errW : Option Int → Value
  | none => .nilIface
  | some c => .iface 0 (.int .i64 c)
theorem errW_none : errW none = .nilIface := rfl
theorem errW_some (c : Int) : errW (some c) = .iface 0 (.int .i64 c) := rfl
theorem u64_u8 (z : Int) : IntKind.u64.wrap (IntKind.u8.wrap z) = z % 256 := by
  simp [IntKind.wrap, IntKind.bits, IntKind.signed]
  omega
theorem uB {b : Nat} {w W : World} (u : Below b w W := by repeat (first | (with_reducible first | exact Aside0.out (by assumption) | apply below_alloc | apply pw_below_drewN | apply below_drew1 | refine below_set ?_ (Aside0.out (by assumption))) | exact Aside0.out (by assumption))) : Below b w W := u
theorem uK {g : Nat} {o : Obj} {w W : World} (h : w.heap[g]? = some o) (u : Below w.heap.size w W := by repeat (first | (with_reducible first | exact Below.refl _ _ | apply below_alloc | apply pw_below_drewN | apply below_drew1))) : W.heap[g]? = some o := blk_below h u
theorem uR {α : Type} {d : Kd α} {e base : Nat} {ok : Nat → Prop} {v : Value} {xs : List α} {w W : World} (h : d.R e w base ok v xs) (u : Below w.heap.size w W := by repeat (first | (with_reducible first | exact Below.refl _ _ | apply below_alloc | apply pw_below_drewN | apply below_drew1))) : d.R e W base ok v xs := Kd.R_below h u
theorem uC {α : Type} {d : Kd α} {A : Option Addr} {n : Nat} {xs : List α} {w W : World} (h : Kd.C d w A n xs) (u : Below w.heap.size w W := by repeat (first | (with_reducible first | exact Below.refl _ _ | apply below_alloc | apply pw_below_drewN | apply below_drew1))) : Kd.C d W A n xs := Kd.C_below h u
theorem uM {α : Type} {a b : α} (u : a = b := by (try simp only [List.map_toArray, List.map_cons, List.map_nil]); first | done | rfl | (simp only [List.length_drop, List.length_take]; rfl)) : a = b := u
theorem uQ {a b : Act} (u : a = b := by simp only [Act.put, List.setIfInBounds_toArray, List.set_cons_zero, List.set_cons_succ, i64_w, i32_w]; rfl) : a = b := u
theorem ux {g : Nat} {o : Obj} {w W W' : World} (h : Aside0 (w.heap[g]? = some o)) (hb : Below W.heap.size W W') (u : Below w.heap.size w W := by repeat (first | (with_reducible first | exact Below.refl _ _ | apply below_alloc | apply pw_below_drewN | apply below_drew1))) : Aside0 (W'.heap[g]? = some o) := ⟨blk_below (blk_below h.out u) hb⟩
theorem uy {w W W' : World} (hb : Below W.heap.size W W') (u : Below w.heap.size w W := by repeat (first | (with_reducible first | exact Aside0.out (by assumption) | apply below_alloc | apply pw_below_drewN | apply below_drew1 | refine below_set ?_ (Aside0.out (by assumption))) | exact Aside0.out (by assumption))) : Aside0 (Below w.heap.size w W') := ⟨below_step u hb⟩
theorem us {g : Nat} {w W : World} (hg : g = W.heap.size) (u : Below w.heap.size w W := by repeat (first | (with_reducible first | exact Aside0.out (by assumption) | apply below_alloc | apply pw_below_drewN | apply below_drew1 | refine below_set ?_ (Aside0.out (by assumption))) | exact Aside0.out (by assumption))) : Aside0 (w.heap.size ≤ g) := ⟨hg ▸ below_size u⟩
theorem ueR {α β : Type} {d : Kd α} {d' : Kd β} {e e' base : Nat} {ok ok' : Nat → Prop} {u v : Value} {xs : List α} {ys : List β} {w W W' : World} (h : Aside0 (d.R e w base ok u xs)) (ho : d'.R e' W' W.heap.size ok' v ys) (hb : Below W.heap.size W W') (q : Below w.heap.size w W := by repeat (first | (with_reducible first | exact Below.refl _ _ | apply below_alloc | apply pw_below_drewN | apply below_drew1))) : Aside0 (d.R e W' base (fun k => ok k ∧ some k ≠ v.ownBlock) u xs) := ⟨Kd.R_elder' (Kd.R_below h.out q) (Kd.R_base ho) hb⟩
theorem uT {α : Type} {p : Prop} [Decidable p] {x : Option α} {r : α} (h : (if p then x else none) = some r) : p ∧ x = some r := by
  by_cases c : p
  · rw [if_pos c] at h; exact ⟨c, h⟩
  · rw [if_neg c] at h; cases h
theorem ub {α β : Type} {o : Option α} {f : α → Option β} {r : β} (h : o.bind f = some r) : ∃ a, Aside0 (o = some a) ∧ f a = some r := by
  obtain ⟨a, h1, h2⟩ := Option.bind_eq_some_iff.mp h
  exact ⟨a, ⟨h1⟩, h2⟩
theorem uF {α : Type} {a b : α} (u : a = b := by first | rfl | (simp [errW_none, errW_some] <;> rfl) | (simp [*, errW_none, errW_some] <;> rfl)) : a = b := u
theorem uG {α : Type} {a b : α} (u : a = b := by first | rfl | (simp; done) | (simp [*]; done)) : a = b := u
theorem uO {p : Prop} [Decidable p] (u : decide p = true := by first | (with_reducible assumption) | assumption) : p := of_decide_eq_true u
theorem uW {p : Prop} (u : p := by first | omega | exact Nat.le_refl _) : p := u
def uA (n m : Nat) : Array Bool := ((List.range n).map m.testBit).toArray
theorem info5 : (Try.prog.info? 5).map (fun i => (i.zero, i.size, i.bytes)) = some (some (.int .u8 0), 1, 1) := by kernel_rfl
theorem info37 : (Try.prog.info? 37).map (fun i => (i.zero, i.size, i.bytes)) = some (some (.int .u64 0), 1, 8) := by kernel_rfl
def rd_L3 (xs : List (List Int)) (i : Int) : (List Int) := xs.getD i.toNat ([] : List Int)
theorem at_L3 {w : World} {A : Option Addr} {n : Nat} {xs : List (List Int)} (h : Kd.C (Kd.slice 37 (Kd.int .u64)) w A n xs) (i : Int) (h0 : 0 ≤ i) (h1 : i < n) : ∃ ad A0 c0, A = some ad ∧ w.cell? (ad.add i.toNat) = some (.slice A0 (rd_L3 xs i).length c0) ∧ (rd_L3 xs i).length ≤ c0 ∧ (Kd.int .u64).C w A0 (rd_L3 xs i).length (rd_L3 xs i) := by
  obtain ⟨ad, c, e, _, hK, hc0⟩ := Kd.C_get h ([] : List Int) i h0 h1
  have hc : ∀ j u, c[j]? = some u → w.cell? (ad.add (i.toNat * 1 + j)) = some u := hc0
  obtain ⟨A0, c0, rfl, l0, g0⟩ := hK
  exact ⟨ad, A0, c0, e, by have hq := hc 0 _ rfl; rwa [Nat.mul_one, Nat.add_zero] at hq, l0, g0⟩
def nat_Right.f (l0 : List Int) : Option (Bool) := if (l0.length : Int) ≤ 64 then (if (l0.length : Int) = 0 then (some true) else (if 0 ≤ (wrap64 ((l0.length : Int) - 1)) then (if (wrap64 ((l0.length : Int) - 1)) < (l0.length : Int) then (some ((rd l0 (wrap64 ((l0.length : Int) - 1))) != 0)) else (none)) else (none))) else (some false)
set_option maxHeartbeats 8000000 in
set_option maxRecDepth 100000 in
theorem nat_Right.calls (A0 : Option Addr) (c0 : Nat) (l0 : List Int) (r : Bool) (w : World) (hr0 : Kd.C (Kd.int .u64) w A0 l0.length l0) (hc0 : l0.length ≤ c0) (h : nat_Right.f l0 = some r) :
  Calls Try.prog 40 #[.slice A0 l0.length c0] w fun e w' => e = .returned (.bool r) ∧ Drawn0 w w' := by
 have HR0 := Aside0.mk hr0; have HC0 := Aside0.mk hc0; clear hr0 hc0
 have H : (if (l0.length : Int) ≤ 64 then (if (l0.length : Int) = 0 then (some true) else (if 0 ≤ (wrap64 ((l0.length : Int) - 1)) then (if (wrap64 ((l0.length : Int) - 1)) < (l0.length : Int) then (some ((rd l0 (wrap64 ((l0.length : Int) - 1))) != 0)) else (none)) else (none))) else (some false)) = some r := h
 clear h
 by_cases c2 : (l0.length : Int) ≤ 64
 ·
  rw [if_pos c2] at H
  have c2b0 : decide ((l0.length : Int) ≤ 64) = true := decide_eq_true c2
  have c2b1 : decide (l0.length ≤ 64) = true := decide_eq_true (by omega)
  clear c2
  by_cases c3 : (l0.length : Int) = 0
  ·
   rw [if_pos c3] at H
   have c3b0 : ((l0.length : Int) == 0) = true := beq_iff_eq.mpr c3
   have c3b1 : ((l0.length : Int) != 0) = false := bne_eq_false_iff_eq.mpr c3
   clear c3
   obtain rfl := Option.some.inj H
   go_enter Try.func40, Try.ntmps40
   go_wp2
   go_ret
   exact ⟨by first | rfl | (simp; done) | (simp [*]; done), by repeat (first | exact Drawn0.refl _ | apply Drawn0.step)⟩
  rw [if_neg c3] at H
  have c3b0 : ((l0.length : Int) == 0) = false := beq_eq_false_iff_ne.mpr c3
  have c3b1 : ((l0.length : Int) != 0) = true := bne_iff_ne.mpr c3
  have c3b2 : ¬ (l0 = []) := fun h_ => c3 (by rw [h_]; rfl)
  obtain ⟨ji4, hji4⟩ : ∃ j_ : Int, (wrap64 ((l0.length : Int) - 1)) = j_ := ⟨_, rfl⟩
  first | rw [hji4] at H | simp only [hji4] at H
  have hji4w : (IntKind.i64.wrap ((l0.length : Int) - 1)) = ji4 := (i64_w _).trans hji4
  replace H := uT H; obtain ⟨c5, H⟩ := H
  have c5b0 : decide (0 ≤ (ji4)) = true := decide_eq_true c5
  clear c5
  replace H := uT H; obtain ⟨c6, H⟩ := H
  have c6b0 : decide ((ji4) < (l0.length : Int)) = true := decide_eq_true c6
  clear c6
  obtain rfl := Option.some.inj H
  have p101 : 0 ≤ ((ji4) : Int) := uO
  have q101 : (ji4) < (l0.length : Int) := uO
  obtain ⟨ad101, e101, hx101_0⟩ := Kd.at_int HR0.out (ji4) p101 q101
  cases e101
  replace p101 := eq_true p101
  replace q101 := eq_true q101
  go_enter Try.func40, Try.ntmps40
  go_wp2
  go_ret
  exact ⟨by first | rfl | (simp; done) | (simp only [← hji4] <;> (first | rfl | simp)) | (simp [*]; done), by repeat (first | exact Drawn0.refl _ | apply Drawn0.step)⟩
 rw [if_neg c2] at H
 have c2b0 : decide ((l0.length : Int) ≤ 64) = false := decide_eq_false c2
 have c2b1 : decide (l0.length ≤ 64) = false := decide_eq_false (by omega)
 clear c2
 obtain rfl := Option.some.inj H
 go_enter Try.func40, Try.ntmps40
 go_wp2
 go_ret
 exact ⟨by first | rfl | (simp; done) | (simp [*]; done), by repeat (first | exact Drawn0.refl _ | apply Drawn0.step)⟩
def wire_odd.f (a0 : Int) : Option (Bool) := if a0 < 0 then (some true) else (some (decide (a0 > 1073741824)))
set_option maxHeartbeats 8000000 in
set_option maxRecDepth 100000 in
theorem wire_odd.calls (a0 : Int) (r : Bool) (w : World) (h : wire_odd.f a0 = some r) :
  Calls Try.prog 38 #[.int .i64 a0] w fun e w' => e = .returned (.bool r) ∧ Drawn0 w w' := by
 have H : (if a0 < 0 then (some true) else (some (decide (a0 > 1073741824)))) = some r := h
 clear h
 by_cases c2 : a0 < 0
 ·
  rw [if_pos c2] at H
  have c2b0 : decide (a0 < 0) = true := decide_eq_true c2
  clear c2
  obtain rfl := Option.some.inj H
  go_enter Try.func38, Try.ntmps38
  go_wp2
  go_ret
  exact ⟨by first | rfl | (simp; done) | (simp [*]; done), by repeat (first | exact Drawn0.refl _ | apply Drawn0.step)⟩
 rw [if_neg c2] at H
 have c2b0 : decide (a0 < 0) = false := decide_eq_false c2
 clear c2
 obtain rfl := Option.some.inj H
 go_enter Try.func38, Try.ntmps38
 go_wp2
 go_ret
 exact ⟨by first | rfl | (simp; done) | (simp [*]; done), by repeat (first | exact Drawn0.refl _ | apply Drawn0.step)⟩
def codec_Number.l0 : Nat → Int → List Int → Option (List Int)
 | 0, _, _ => none
 | k + 1, x0, x3 => if x0 ≥ 128 then (if x3.length < 140737488355328 then (codec_Number.l0 k (x0 / 128) (x3 ++ [Go.bits .or .u8 ((x0) % 256) 128])) else (none)) else (if x3.length < 140737488355328 then (some (x3 ++ [(x0) % 256])) else (none))
def codec_Number.f (k : Nat) (a0 : Int) : Option (List Int) := codec_Number.l0 k a0 ([] : List Int)
set_option maxHeartbeats 8000000 in
set_option maxRecDepth 100000 in
theorem codec_Number.calls (k : Nat) (a0 : Int) (r : List Int) (w : World) (h : codec_Number.f k a0 = some r) :
  Calls Try.prog 14 #[.int .u64 a0] w fun e w' => ∃ v0_ : Value, e = .returned (v0_) ∧ Kd.R (Kd.int .u8) 5 w' w.heap.size (fun _ => True) v0_ r ∧ Below w.heap.size w w' := by
 have HB := Aside0.mk (Below.refl w.heap.size w)
 have H : (codec_Number.l0 k a0 ([] : List Int)) = some r := h
 clear h
 have H' := Aside0.mk H
 clear H
 go_enter Try.func14, Try.ntmps14
 go_wp2
 go_loopg [0, 3] k (fun kq v0 v3 w' => ∃ (x0_1 : Int) (x3_1 : List Int), v0 = .int .u64 x0_1 ∧ Aside0 (codec_Number.l0 kq x0_1 x3_1 = some r) ∧ Aside0 (kq ≤ k) ∧ Aside0 (Kd.R (Kd.int .u8) 5 w' w.heap.size (fun _ => True) v3 x3_1) ∧ Aside0 (Below w.heap.size w w'))
 case atStart => exact ⟨(a0), (([] : List Int)), uG, H', ⟨Nat.le_refl _⟩, ⟨by first | exact Kd.R_nil _ _ _ _ _ | exact Kd.N_nil _ _ _ _ _ | exact Kd.V_nil _ _ _ _ _ | exact Kd.Q_nil _ _ _ _ _ | exact Kd.S_nil _ _ _ _ _⟩, ⟨uB⟩⟩
 case round =>
  clear H'
  (try clear c1)
  obtain ⟨x0_1, x3_1, rfl, HA, HK1, HO_3, HB⟩ := hrel
  cases gk with
  | zero => exact absurd HA.out (by simp [codec_Number.l0])
  | succ k1 =>
   have H := HA.out
   clear HA
   simp only [codec_Number.l0] at H
   by_cases c2 : x0_1 ≥ 128
   ·
    rw [if_pos c2] at H
    have c2b0 : decide (128 ≤ x0_1) = true := decide_eq_true c2
    clear c2
    replace H := uT H; obtain ⟨c3, H⟩ := H
    have LMc3 := Aside0.mk c3; clear c3
    obtain ⟨y102, hy102⟩ : ∃ y_ : List Int, y_ = (x3_1 ++ [Go.bits .or .u8 ((x0_1) % 256) 128]) := ⟨_, rfl⟩
    replace H : (codec_Number.l0 k1 (x0_1 / 128) y102) = some r := by first | (rw [hy102]; with_reducible exact H) | (have H2_ := (Option.bind_some _ _).symm.trans H; rw [hy102]; with_reducible exact H2_) | (have H2_ := (Option.bind_some _ _).symm.trans H; with_reducible exact H2_) | with_reducible exact H | (rw [hy102]; exact H) | exact H
    have Ny102 := Aside0.mk hy102; clear hy102
    have H' := Aside0.mk H
    clear H
    go_wp2_with (first | ((with_reducible refine gate_builtin (b := .append) (xs := #[.tmp 8, .tmp 12]) rfl ?_); at_builtin; refine Kd.R_append (Kd.int .u8) (w0 := w) w.heap.size rfl (.tmp 8) (.tmp 12) 27 5 (.int .u8 0) 1 rfl Try.underlying27 info5 rfl (by decide) (by omega) u3 x3_1 (Go.bits .or .u8 ((x0_1) % 256) 128) [.int .u8 (Go.bits .or .u8 ((x0_1) % 256) 128)] (fun _ => True) (fun _ => False) rfl rfl ?aP (fun _ hk => hk.elim) ?aF ?aO ?aB ?aS ?aL ?_; (case aP => exact rfl); (case aB => exact uB); (case aF => exact (fun _ _ => trivial)); (case aO => exact (uR HO_3.out)); (case aS => exact (below_size uB)); (case aL => have := LMc3.out; omega); intro v103 w4 ho hb hg hat; rw [← Ny102.out] at ho; replace HB := Aside0.mk (hb); have HO104 := Aside0.mk (ho); clear HO_3; clear ho hb hg hat))
    go_roundg k1
    case measure => have := HK1.out; omega
    case rel => exact ⟨(x0_1 / 128), (y102), uG, H', ⟨by have := HK1.out; omega⟩, ⟨uR HO104.out⟩, ⟨uB⟩⟩
   rw [if_neg c2] at H
   have c2b0 : decide (128 ≤ x0_1) = false := decide_eq_false c2
   clear c2
   replace H := uT H; obtain ⟨c5, H⟩ := H
   have LMc5 := Aside0.mk c5; clear c5
   obtain ⟨y105, hy105⟩ : ∃ y_ : List Int, y_ = (x3_1 ++ [(x0_1) % 256]) := ⟨_, rfl⟩
   replace H : (some y105) = some r := by first | (rw [hy105]; with_reducible exact H) | (have H2_ := (Option.bind_some _ _).symm.trans H; rw [hy105]; with_reducible exact H2_) | (have H2_ := (Option.bind_some _ _).symm.trans H; with_reducible exact H2_) | with_reducible exact H | (rw [hy105]; exact H) | exact H
   have Ny105 := Aside0.mk hy105; clear hy105
   obtain rfl := Option.some.inj H
   go_wp2_with (first | ((with_reducible refine gate_builtin (b := .append) (xs := #[.tmp 14, .tmp 17]) rfl ?_); at_builtin; refine Kd.R_append (Kd.int .u8) (w0 := w) w.heap.size rfl (.tmp 14) (.tmp 17) 27 5 (.int .u8 0) 1 rfl Try.underlying27 info5 rfl (by decide) (by omega) u3 x3_1 ((x0_1) % 256) [.int .u8 ((x0_1) % 256)] (fun _ => True) (fun _ => False) rfl rfl ?aP (fun _ hk => hk.elim) ?aF ?aO ?aB ?aS ?aL ?_; (case aP => exact rfl); (case aB => exact uB); (case aF => exact (fun _ _ => trivial)); (case aO => exact (uR HO_3.out)); (case aS => exact (below_size uB)); (case aL => have := LMc5.out; omega); intro v106 w6 ho hb hg hat; rw [← Ny105.out] at ho; replace HB := Aside0.mk (hb); have HO107 := Aside0.mk (ho); clear HO_3; clear ho hb hg hat))
   go_ret
   exact ⟨_, uF, uR HO107.out, uB⟩
def codec_Bytes.f (k : Nat) (l0 : List Int) : Option (List Int) := (codec_Number.f k (IntKind.u64.wrap ((l0.length : Int)))).bind fun t108 => (if t108.length + l0.length < 140737488355328 then (some (t108 ++ l0)) else (none))
set_option maxHeartbeats 8000000 in
set_option maxRecDepth 100000 in
theorem codec_Bytes.calls (k : Nat) (A0 : Option Addr) (c0 : Nat) (l0 : List Int) (r : List Int) (w : World) (hr0 : Kd.C (Kd.int .u8) w A0 l0.length l0) (hc0 : l0.length ≤ c0) (h : codec_Bytes.f k l0 = some r) :
  Calls Try.prog 15 #[.slice A0 l0.length c0] w fun e w' => ∃ v0_ : Value, e = .returned (v0_) ∧ Kd.R (Kd.int .u8) 5 w' w.heap.size (fun _ => True) v0_ r ∧ Below w.heap.size w w' := by
 have HR0 := Aside0.mk hr0; have HC0 := Aside0.mk hc0; clear hr0 hc0
 have HB := Aside0.mk (Below.refl w.heap.size w)
 have H : ((codec_Number.f k (IntKind.u64.wrap ((l0.length : Int)))).bind fun t108 => (if t108.length + l0.length < 140737488355328 then (some (t108 ++ l0)) else (none))) = some r := h
 clear h
 replace H := ub H; obtain ⟨t108, A2, H⟩ := H
 replace H := uT H; obtain ⟨c3, H⟩ := H
 have LMc3 := Aside0.mk c3; clear c3
 obtain ⟨y111, hy111⟩ : ∃ y_ : List Int, y_ = (t108 ++ l0) := ⟨_, rfl⟩
 replace H : (some y111) = some r := by first | (rw [hy111]; with_reducible exact H) | (have H2_ := (Option.bind_some _ _).symm.trans H; rw [hy111]; with_reducible exact H2_) | (have H2_ := (Option.bind_some _ _).symm.trans H; with_reducible exact H2_) | with_reducible exact H | (rw [hy111]; exact H) | exact H
 have Ny111 := Aside0.mk hy111; clear hy111
 obtain rfl := Option.some.inj H
 go_enter Try.func15, Try.ntmps15
 go_wp2_with (first | ((with_reducible refine gate_callee (f := 14) rfl ?_); refine goesL_ (some 6) rfl rfl Try.func14 (by kernel_rfl) rfl #[.int .u64 (IntKind.u64.wrap ((l0.length : Int)))] rfl uM ?_; (with_reducible refine (codec_Number.calls k (IntKind.u64.wrap ((l0.length : Int))) t108 _ A2.out).mono ?_); rintro e w4 ⟨v109, rfl, ho0, hb⟩; refine ⟨_, rfl, ?_⟩; have HO110 := Aside0.mk (Kd.R_lower ho0 (below_size uB)); replace HB := uy hb; (try clear hb ho0)) | ((with_reducible refine gate_builtin (b := .append) (xs := #[.tmp 6, .tmp 7]) rfl ?_); at_builtin; refine Kd.R_append_rows (Kd.int .u8) (w0 := w) w.heap.size rfl (.tmp 6) (.tmp 7) 27 5 (.int .u8 0) 1 rfl Try.underlying27 info5 rfl (by decide) (by omega) v109 t108 l0 _ _ _ (fun _ => True) (fun _ => False) rfl rfl ?aO ?aR (fun _ _ h => h) (fun _ h => h.elim) ?aF ?aB ?aS ?aL ?_; (case aR => exact uC (Kd.C_below HR0.out HB.out)); (case aB => exact uB); (case aF => exact (fun _ _ => trivial)); (case aO => exact (uR HO110.out)); (case aS => exact (below_size uB)); (case aL => have := LMc3.out; omega); intro v112 w5 ho hb hg hat; rw [← Ny111.out] at ho; replace HB := Aside0.mk (hb); have HO113 := Aside0.mk (ho); clear HO110; clear ho hb hg hat))
 go_ret
 exact ⟨_, uF, uR HO113.out, uB⟩
def bits_Len64.j0 : Nat → Int → Int → Option (Int)
 | 0, _, _ => none
 | k + 1, x0, x2 => if x0 ≥ 65536 then (if (x0 / 65536) ≥ 256 then (if 0 ≤ (((x0 / 65536) / 256) % 256) then (if (((x0 / 65536) / 256) % 256) < 256 then (some (wrap64 ((wrap64 ((wrap64 (x2 + 16)) + 8)) + (wrap64 (bt (⟨#[0, 1, 2, 2, 3, 3, 3, 3, 4, 4, 4, 4, 4, 4, 4, 4, 5, 5, 5, 5, 5, 5, 5, 5, 5, 5, 5, 5, 5, 5, 5, 5, 6, 6, 6, 6, 6, 6, 6, 6, 6, 6, 6, 6, 6, 6, 6, 6, 6, 6, 6, 6, 6, 6, 6, 6, 6, 6, 6, 6, 6, 6, 6, 6, 7, 7, 7, 7, 7, 7, 7, 7, 7, 7, 7, 7, 7, 7, 7, 7, 7, 7, 7, 7, 7, 7, 7, 7, 7, 7, 7, 7, 7, 7, 7, 7, 7, 7, 7, 7, 7, 7, 7, 7, 7, 7, 7, 7, 7, 7, 7, 7, 7, 7, 7, 7, 7, 7, 7, 7, 7, 7, 7, 7, 7, 7, 7, 7, 8, 8, 8, 8, 8, 8, 8, 8, 8, 8, 8, 8, 8, 8, 8, 8, 8, 8, 8, 8, 8, 8, 8, 8, 8, 8, 8, 8, 8, 8, 8, 8, 8, 8, 8, 8, 8, 8, 8, 8, 8, 8, 8, 8, 8, 8, 8, 8, 8, 8, 8, 8, 8, 8, 8, 8, 8, 8, 8, 8, 8, 8, 8, 8, 8, 8, 8, 8, 8, 8, 8, 8, 8, 8, 8, 8, 8, 8, 8, 8, 8, 8, 8, 8, 8, 8, 8, 8, 8, 8, 8, 8, 8, 8, 8, 8, 8, 8, 8, 8, 8, 8, 8, 8, 8, 8, 8, 8, 8, 8, 8, 8, 8, 8, 8, 8, 8, 8, 8, 8, 8, 8, 8, 8, 8, 8, 8, 8]⟩ : ByteArray) (((x0 / 65536) / 256) % 256)))))) else (none)) else (none)) else (if 0 ≤ ((x0 / 65536) % 256) then (if ((x0 / 65536) % 256) < 256 then (some (wrap64 ((wrap64 (x2 + 16)) + (wrap64 (bt (⟨#[0, 1, 2, 2, 3, 3, 3, 3, 4, 4, 4, 4, 4, 4, 4, 4, 5, 5, 5, 5, 5, 5, 5, 5, 5, 5, 5, 5, 5, 5, 5, 5, 6, 6, 6, 6, 6, 6, 6, 6, 6, 6, 6, 6, 6, 6, 6, 6, 6, 6, 6, 6, 6, 6, 6, 6, 6, 6, 6, 6, 6, 6, 6, 6, 7, 7, 7, 7, 7, 7, 7, 7, 7, 7, 7, 7, 7, 7, 7, 7, 7, 7, 7, 7, 7, 7, 7, 7, 7, 7, 7, 7, 7, 7, 7, 7, 7, 7, 7, 7, 7, 7, 7, 7, 7, 7, 7, 7, 7, 7, 7, 7, 7, 7, 7, 7, 7, 7, 7, 7, 7, 7, 7, 7, 7, 7, 7, 7, 8, 8, 8, 8, 8, 8, 8, 8, 8, 8, 8, 8, 8, 8, 8, 8, 8, 8, 8, 8, 8, 8, 8, 8, 8, 8, 8, 8, 8, 8, 8, 8, 8, 8, 8, 8, 8, 8, 8, 8, 8, 8, 8, 8, 8, 8, 8, 8, 8, 8, 8, 8, 8, 8, 8, 8, 8, 8, 8, 8, 8, 8, 8, 8, 8, 8, 8, 8, 8, 8, 8, 8, 8, 8, 8, 8, 8, 8, 8, 8, 8, 8, 8, 8, 8, 8, 8, 8, 8, 8, 8, 8, 8, 8, 8, 8, 8, 8, 8, 8, 8, 8, 8, 8, 8, 8, 8, 8, 8, 8, 8, 8, 8, 8, 8, 8, 8, 8, 8, 8, 8, 8, 8, 8, 8, 8, 8, 8]⟩ : ByteArray) ((x0 / 65536) % 256)))))) else (none)) else (none))) else (if x0 ≥ 256 then (if 0 ≤ ((x0 / 256) % 256) then (if ((x0 / 256) % 256) < 256 then (some (wrap64 ((wrap64 (x2 + 8)) + (wrap64 (bt (⟨#[0, 1, 2, 2, 3, 3, 3, 3, 4, 4, 4, 4, 4, 4, 4, 4, 5, 5, 5, 5, 5, 5, 5, 5, 5, 5, 5, 5, 5, 5, 5, 5, 6, 6, 6, 6, 6, 6, 6, 6, 6, 6, 6, 6, 6, 6, 6, 6, 6, 6, 6, 6, 6, 6, 6, 6, 6, 6, 6, 6, 6, 6, 6, 6, 7, 7, 7, 7, 7, 7, 7, 7, 7, 7, 7, 7, 7, 7, 7, 7, 7, 7, 7, 7, 7, 7, 7, 7, 7, 7, 7, 7, 7, 7, 7, 7, 7, 7, 7, 7, 7, 7, 7, 7, 7, 7, 7, 7, 7, 7, 7, 7, 7, 7, 7, 7, 7, 7, 7, 7, 7, 7, 7, 7, 7, 7, 7, 7, 8, 8, 8, 8, 8, 8, 8, 8, 8, 8, 8, 8, 8, 8, 8, 8, 8, 8, 8, 8, 8, 8, 8, 8, 8, 8, 8, 8, 8, 8, 8, 8, 8, 8, 8, 8, 8, 8, 8, 8, 8, 8, 8, 8, 8, 8, 8, 8, 8, 8, 8, 8, 8, 8, 8, 8, 8, 8, 8, 8, 8, 8, 8, 8, 8, 8, 8, 8, 8, 8, 8, 8, 8, 8, 8, 8, 8, 8, 8, 8, 8, 8, 8, 8, 8, 8, 8, 8, 8, 8, 8, 8, 8, 8, 8, 8, 8, 8, 8, 8, 8, 8, 8, 8, 8, 8, 8, 8, 8, 8, 8, 8, 8, 8, 8, 8, 8, 8, 8, 8, 8, 8, 8, 8, 8, 8, 8, 8]⟩ : ByteArray) ((x0 / 256) % 256)))))) else (none)) else (none)) else (if 0 ≤ ((x0) % 256) then (if ((x0) % 256) < 256 then (some (wrap64 (x2 + (wrap64 (bt (⟨#[0, 1, 2, 2, 3, 3, 3, 3, 4, 4, 4, 4, 4, 4, 4, 4, 5, 5, 5, 5, 5, 5, 5, 5, 5, 5, 5, 5, 5, 5, 5, 5, 6, 6, 6, 6, 6, 6, 6, 6, 6, 6, 6, 6, 6, 6, 6, 6, 6, 6, 6, 6, 6, 6, 6, 6, 6, 6, 6, 6, 6, 6, 6, 6, 7, 7, 7, 7, 7, 7, 7, 7, 7, 7, 7, 7, 7, 7, 7, 7, 7, 7, 7, 7, 7, 7, 7, 7, 7, 7, 7, 7, 7, 7, 7, 7, 7, 7, 7, 7, 7, 7, 7, 7, 7, 7, 7, 7, 7, 7, 7, 7, 7, 7, 7, 7, 7, 7, 7, 7, 7, 7, 7, 7, 7, 7, 7, 7, 8, 8, 8, 8, 8, 8, 8, 8, 8, 8, 8, 8, 8, 8, 8, 8, 8, 8, 8, 8, 8, 8, 8, 8, 8, 8, 8, 8, 8, 8, 8, 8, 8, 8, 8, 8, 8, 8, 8, 8, 8, 8, 8, 8, 8, 8, 8, 8, 8, 8, 8, 8, 8, 8, 8, 8, 8, 8, 8, 8, 8, 8, 8, 8, 8, 8, 8, 8, 8, 8, 8, 8, 8, 8, 8, 8, 8, 8, 8, 8, 8, 8, 8, 8, 8, 8, 8, 8, 8, 8, 8, 8, 8, 8, 8, 8, 8, 8, 8, 8, 8, 8, 8, 8, 8, 8, 8, 8, 8, 8, 8, 8, 8, 8, 8, 8, 8, 8, 8, 8, 8, 8, 8, 8, 8, 8, 8, 8]⟩ : ByteArray) ((x0) % 256)))))) else (none)) else (none)))
def bits_Len64.f (k : Nat) (a0 : Int) : Option (Int) := if a0 ≥ 4294967296 then (bits_Len64.j0 k (a0 / 4294967296) 32) else (bits_Len64.j0 k a0 0)
set_option maxHeartbeats 8000000 in
set_option maxRecDepth 100000 in
theorem bits_Len64.calls (k : Nat) (a0 : Int) (r : Int) (w : World) (h : bits_Len64.f k a0 = some r) :
  Calls Try.prog 58 #[.int .u64 a0] w fun e w' => e = .returned (.int .i64 r) ∧ Drawn0 w w' := by
 have H : (if a0 ≥ 4294967296 then (bits_Len64.j0 k (a0 / 4294967296) 32) else (bits_Len64.j0 k a0 0)) = some r := h
 clear h; have HC2 := Aside0.mk H; clear H
 go_enter Try.func58, Try.ntmps58
 go_upto_if 4 with (fail)
 go_cut [0, 2] (fun v0 v2 wc => ∃ (kq : Nat) (x0_1 : Int) (x2_1 : Int), v0 = .int .u64 x0_1 ∧ v2 = .int .i64 x2_1 ∧ Aside0 (bits_Len64.j0 kq x0_1 x2_1 = some r) ∧ Aside0 (kq ≤ k) ∧ Drawn0 w wc)
 case first =>
  have H := HC2.out
  clear HC2
  by_cases c3 : a0 ≥ 4294967296
  ·
   rw [if_pos c3] at H
   have c3b0 : decide (4294967296 ≤ a0) = true := decide_eq_true c3
   clear c3
   (first | rw [c3b0] | (simp only [i64_w, i32_w]; rw [c3b0]) | skip)
   have H' := Aside0.mk H
   clear H
   go_wp2
   go_meet
   case rel => exact ⟨_, (a0 / 4294967296), (32), uG, uG, H', ⟨uW⟩, by repeat (first | exact Drawn0.refl _ | apply Drawn0.step)⟩
  rw [if_neg c3] at H
  have c3b0 : decide (4294967296 ≤ a0) = false := decide_eq_false c3
  clear c3
  (first | rw [c3b0] | (simp only [i64_w, i32_w]; rw [c3b0]) | skip)
  have H' := Aside0.mk H
  clear H
  go_wp2
  go_meet
  case rel => exact ⟨_, (a0), (0), uG, uG, H', ⟨uW⟩, by repeat (first | exact Drawn0.refl _ | apply Drawn0.step)⟩
 case rest =>
  clear HC2; (try clear p2); (try clear c3); (try clear c3b0)
  obtain ⟨kq, x0_1, x2_1, rfl, rfl, HA, HJ1, ⟨mc1, rfl⟩⟩ := hcut
  cases kq with
  | zero => exact absurd HA.out (by simp [bits_Len64.j0])
  | succ kj1 =>
   have H := HA.out
   clear HA
   simp only [bits_Len64.j0] at H
   by_cases c4 : x0_1 ≥ 65536
   ·
    rw [if_pos c4] at H
    have c4b0 : decide (65536 ≤ x0_1) = true := decide_eq_true c4
    clear c4
    by_cases c5 : (x0_1 / 65536) ≥ 256
    ·
     rw [if_pos c5] at H
     have c5b0 : decide (256 ≤ (x0_1 / 65536)) = true := decide_eq_true c5
     clear c5
     obtain ⟨ji6, hji6⟩ : ∃ j_ : Int, (((x0_1 / 65536) / 256) % 256) = j_ := ⟨_, rfl⟩
     first | rw [hji6] at H | simp only [hji6] at H
     replace H := uT H; obtain ⟨c7, H⟩ := H
     have c7b0 : decide (0 ≤ (ji6)) = true := decide_eq_true c7
     clear c7
     replace H := uT H; obtain ⟨c8, H⟩ := H
     have c8b0 : decide ((ji6) < 256) = true := decide_eq_true c8
     clear c8
     obtain rfl := Option.some.inj H
     have p9 : 0 ≤ ((ji6) : Int) := uO
     have q9 : (ji6) < (256 : Int) := uO
     have hx9 := bt_at (⟨#[0, 1, 2, 2, 3, 3, 3, 3, 4, 4, 4, 4, 4, 4, 4, 4, 5, 5, 5, 5, 5, 5, 5, 5, 5, 5, 5, 5, 5, 5, 5, 5, 6, 6, 6, 6, 6, 6, 6, 6, 6, 6, 6, 6, 6, 6, 6, 6, 6, 6, 6, 6, 6, 6, 6, 6, 6, 6, 6, 6, 6, 6, 6, 6, 7, 7, 7, 7, 7, 7, 7, 7, 7, 7, 7, 7, 7, 7, 7, 7, 7, 7, 7, 7, 7, 7, 7, 7, 7, 7, 7, 7, 7, 7, 7, 7, 7, 7, 7, 7, 7, 7, 7, 7, 7, 7, 7, 7, 7, 7, 7, 7, 7, 7, 7, 7, 7, 7, 7, 7, 7, 7, 7, 7, 7, 7, 7, 7, 8, 8, 8, 8, 8, 8, 8, 8, 8, 8, 8, 8, 8, 8, 8, 8, 8, 8, 8, 8, 8, 8, 8, 8, 8, 8, 8, 8, 8, 8, 8, 8, 8, 8, 8, 8, 8, 8, 8, 8, 8, 8, 8, 8, 8, 8, 8, 8, 8, 8, 8, 8, 8, 8, 8, 8, 8, 8, 8, 8, 8, 8, 8, 8, 8, 8, 8, 8, 8, 8, 8, 8, 8, 8, 8, 8, 8, 8, 8, 8, 8, 8, 8, 8, 8, 8, 8, 8, 8, 8, 8, 8, 8, 8, 8, 8, 8, 8, 8, 8, 8, 8, 8, 8, 8, 8, 8, 8, 8, 8, 8, 8, 8, 8, 8, 8, 8, 8, 8, 8, 8, 8, 8, 8, 8, 8, 8, 8]⟩ : ByteArray) (ji6)
     replace p9 := eq_true p9
     replace q9 := eq_true q9
     go_wp2
     go_ret
     exact ⟨by first | rfl | (simp; done) | (simp only [← hji6] <;> (first | rfl | simp)) | (simp [*]; done), by repeat (first | exact Drawn0.refl _ | apply Drawn0.step)⟩
    rw [if_neg c5] at H
    have c5b0 : decide (256 ≤ (x0_1 / 65536)) = false := decide_eq_false c5
    clear c5
    obtain ⟨ji10, hji10⟩ : ∃ j_ : Int, ((x0_1 / 65536) % 256) = j_ := ⟨_, rfl⟩
    first | rw [hji10] at H | simp only [hji10] at H
    replace H := uT H; obtain ⟨c11, H⟩ := H
    have c11b0 : decide (0 ≤ (ji10)) = true := decide_eq_true c11
    clear c11
    replace H := uT H; obtain ⟨c12, H⟩ := H
    have c12b0 : decide ((ji10) < 256) = true := decide_eq_true c12
    clear c12
    obtain rfl := Option.some.inj H
    have p13 : 0 ≤ ((ji10) : Int) := uO
    have q13 : (ji10) < (256 : Int) := uO
    have hx13 := bt_at (⟨#[0, 1, 2, 2, 3, 3, 3, 3, 4, 4, 4, 4, 4, 4, 4, 4, 5, 5, 5, 5, 5, 5, 5, 5, 5, 5, 5, 5, 5, 5, 5, 5, 6, 6, 6, 6, 6, 6, 6, 6, 6, 6, 6, 6, 6, 6, 6, 6, 6, 6, 6, 6, 6, 6, 6, 6, 6, 6, 6, 6, 6, 6, 6, 6, 7, 7, 7, 7, 7, 7, 7, 7, 7, 7, 7, 7, 7, 7, 7, 7, 7, 7, 7, 7, 7, 7, 7, 7, 7, 7, 7, 7, 7, 7, 7, 7, 7, 7, 7, 7, 7, 7, 7, 7, 7, 7, 7, 7, 7, 7, 7, 7, 7, 7, 7, 7, 7, 7, 7, 7, 7, 7, 7, 7, 7, 7, 7, 7, 8, 8, 8, 8, 8, 8, 8, 8, 8, 8, 8, 8, 8, 8, 8, 8, 8, 8, 8, 8, 8, 8, 8, 8, 8, 8, 8, 8, 8, 8, 8, 8, 8, 8, 8, 8, 8, 8, 8, 8, 8, 8, 8, 8, 8, 8, 8, 8, 8, 8, 8, 8, 8, 8, 8, 8, 8, 8, 8, 8, 8, 8, 8, 8, 8, 8, 8, 8, 8, 8, 8, 8, 8, 8, 8, 8, 8, 8, 8, 8, 8, 8, 8, 8, 8, 8, 8, 8, 8, 8, 8, 8, 8, 8, 8, 8, 8, 8, 8, 8, 8, 8, 8, 8, 8, 8, 8, 8, 8, 8, 8, 8, 8, 8, 8, 8, 8, 8, 8, 8, 8, 8, 8, 8, 8, 8, 8, 8]⟩ : ByteArray) (ji10)
    replace p13 := eq_true p13
    replace q13 := eq_true q13
    go_wp2
    go_ret
    exact ⟨by first | rfl | (simp; done) | (simp only [← hji10] <;> (first | rfl | simp)) | (simp [*]; done), by repeat (first | exact Drawn0.refl _ | apply Drawn0.step)⟩
   rw [if_neg c4] at H
   have c4b0 : decide (65536 ≤ x0_1) = false := decide_eq_false c4
   clear c4
   by_cases c14 : x0_1 ≥ 256
   ·
    rw [if_pos c14] at H
    have c14b0 : decide (256 ≤ x0_1) = true := decide_eq_true c14
    clear c14
    obtain ⟨ji15, hji15⟩ : ∃ j_ : Int, ((x0_1 / 256) % 256) = j_ := ⟨_, rfl⟩
    first | rw [hji15] at H | simp only [hji15] at H
    replace H := uT H; obtain ⟨c16, H⟩ := H
    have c16b0 : decide (0 ≤ (ji15)) = true := decide_eq_true c16
    clear c16
    replace H := uT H; obtain ⟨c17, H⟩ := H
    have c17b0 : decide ((ji15) < 256) = true := decide_eq_true c17
    clear c17
    obtain rfl := Option.some.inj H
    have p18 : 0 ≤ ((ji15) : Int) := uO
    have q18 : (ji15) < (256 : Int) := uO
    have hx18 := bt_at (⟨#[0, 1, 2, 2, 3, 3, 3, 3, 4, 4, 4, 4, 4, 4, 4, 4, 5, 5, 5, 5, 5, 5, 5, 5, 5, 5, 5, 5, 5, 5, 5, 5, 6, 6, 6, 6, 6, 6, 6, 6, 6, 6, 6, 6, 6, 6, 6, 6, 6, 6, 6, 6, 6, 6, 6, 6, 6, 6, 6, 6, 6, 6, 6, 6, 7, 7, 7, 7, 7, 7, 7, 7, 7, 7, 7, 7, 7, 7, 7, 7, 7, 7, 7, 7, 7, 7, 7, 7, 7, 7, 7, 7, 7, 7, 7, 7, 7, 7, 7, 7, 7, 7, 7, 7, 7, 7, 7, 7, 7, 7, 7, 7, 7, 7, 7, 7, 7, 7, 7, 7, 7, 7, 7, 7, 7, 7, 7, 7, 8, 8, 8, 8, 8, 8, 8, 8, 8, 8, 8, 8, 8, 8, 8, 8, 8, 8, 8, 8, 8, 8, 8, 8, 8, 8, 8, 8, 8, 8, 8, 8, 8, 8, 8, 8, 8, 8, 8, 8, 8, 8, 8, 8, 8, 8, 8, 8, 8, 8, 8, 8, 8, 8, 8, 8, 8, 8, 8, 8, 8, 8, 8, 8, 8, 8, 8, 8, 8, 8, 8, 8, 8, 8, 8, 8, 8, 8, 8, 8, 8, 8, 8, 8, 8, 8, 8, 8, 8, 8, 8, 8, 8, 8, 8, 8, 8, 8, 8, 8, 8, 8, 8, 8, 8, 8, 8, 8, 8, 8, 8, 8, 8, 8, 8, 8, 8, 8, 8, 8, 8, 8, 8, 8, 8, 8, 8, 8]⟩ : ByteArray) (ji15)
    replace p18 := eq_true p18
    replace q18 := eq_true q18
    go_wp2
    go_ret
    exact ⟨by first | rfl | (simp; done) | (simp only [← hji15] <;> (first | rfl | simp)) | (simp [*]; done), by repeat (first | exact Drawn0.refl _ | apply Drawn0.step)⟩
   rw [if_neg c14] at H
   have c14b0 : decide (256 ≤ x0_1) = false := decide_eq_false c14
   clear c14
   obtain ⟨ji19, hji19⟩ : ∃ j_ : Int, ((x0_1) % 256) = j_ := ⟨_, rfl⟩
   first | rw [hji19] at H | simp only [hji19] at H
   replace H := uT H; obtain ⟨c20, H⟩ := H
   have c20b0 : decide (0 ≤ (ji19)) = true := decide_eq_true c20
   clear c20
   replace H := uT H; obtain ⟨c21, H⟩ := H
   have c21b0 : decide ((ji19) < 256) = true := decide_eq_true c21
   clear c21
   obtain rfl := Option.some.inj H
   have p22 : 0 ≤ ((ji19) : Int) := uO
   have q22 : (ji19) < (256 : Int) := uO
   have hx22 := bt_at (⟨#[0, 1, 2, 2, 3, 3, 3, 3, 4, 4, 4, 4, 4, 4, 4, 4, 5, 5, 5, 5, 5, 5, 5, 5, 5, 5, 5, 5, 5, 5, 5, 5, 6, 6, 6, 6, 6, 6, 6, 6, 6, 6, 6, 6, 6, 6, 6, 6, 6, 6, 6, 6, 6, 6, 6, 6, 6, 6, 6, 6, 6, 6, 6, 6, 7, 7, 7, 7, 7, 7, 7, 7, 7, 7, 7, 7, 7, 7, 7, 7, 7, 7, 7, 7, 7, 7, 7, 7, 7, 7, 7, 7, 7, 7, 7, 7, 7, 7, 7, 7, 7, 7, 7, 7, 7, 7, 7, 7, 7, 7, 7, 7, 7, 7, 7, 7, 7, 7, 7, 7, 7, 7, 7, 7, 7, 7, 7, 7, 8, 8, 8, 8, 8, 8, 8, 8, 8, 8, 8, 8, 8, 8, 8, 8, 8, 8, 8, 8, 8, 8, 8, 8, 8, 8, 8, 8, 8, 8, 8, 8, 8, 8, 8, 8, 8, 8, 8, 8, 8, 8, 8, 8, 8, 8, 8, 8, 8, 8, 8, 8, 8, 8, 8, 8, 8, 8, 8, 8, 8, 8, 8, 8, 8, 8, 8, 8, 8, 8, 8, 8, 8, 8, 8, 8, 8, 8, 8, 8, 8, 8, 8, 8, 8, 8, 8, 8, 8, 8, 8, 8, 8, 8, 8, 8, 8, 8, 8, 8, 8, 8, 8, 8, 8, 8, 8, 8, 8, 8, 8, 8, 8, 8, 8, 8, 8, 8, 8, 8, 8, 8, 8, 8, 8, 8, 8, 8]⟩ : ByteArray) (ji19)
   replace p22 := eq_true p22
   replace q22 := eq_true q22
   go_wp2
   go_ret
   exact ⟨by first | rfl | (simp; done) | (simp only [← hji19] <;> (first | rfl | simp)) | (simp [*]; done), by repeat (first | exact Drawn0.refl _ | apply Drawn0.step)⟩
def nat_Bits.f (k : Nat) (l0 : List Int) : Option (Int) := (nat_Right.f l0).bind fun t114 => (if t114 = true then (if (l0.length : Int) = 0 then (some 0) else (if 0 ≤ (wrap64 ((l0.length : Int) - 1)) then (if (wrap64 ((l0.length : Int) - 1)) < (l0.length : Int) then ((bits_Len64.f k (rd l0 (wrap64 ((l0.length : Int) - 1)))).bind fun t116 => (some (wrap64 ((wrap64 (64 * (wrap64 ((l0.length : Int) - 1)))) + t116)))) else (none)) else (none))) else (some 0))
set_option maxHeartbeats 8000000 in
set_option maxRecDepth 100000 in
theorem nat_Bits.calls (k : Nat) (A0 : Option Addr) (c0 : Nat) (l0 : List Int) (r : Int) (w : World) (hr0 : Kd.C (Kd.int .u64) w A0 l0.length l0) (hc0 : l0.length ≤ c0) (h : nat_Bits.f k l0 = some r) :
  Calls Try.prog 43 #[.slice A0 l0.length c0] w fun e w' => e = .returned (.int .i64 r) ∧ Drawn0 w w' := by
 have HR0 := Aside0.mk hr0; have HC0 := Aside0.mk hc0; clear hr0 hc0
 have H : ((nat_Right.f l0).bind fun t114 => (if t114 = true then (if (l0.length : Int) = 0 then (some 0) else (if 0 ≤ (wrap64 ((l0.length : Int) - 1)) then (if (wrap64 ((l0.length : Int) - 1)) < (l0.length : Int) then ((bits_Len64.f k (rd l0 (wrap64 ((l0.length : Int) - 1)))).bind fun t116 => (some (wrap64 ((wrap64 (64 * (wrap64 ((l0.length : Int) - 1)))) + t116)))) else (none)) else (none))) else (some 0))) = some r := h
 clear h
 replace H := ub H; obtain ⟨t114, A2, H⟩ := H
 by_cases c3 : t114 = true
 ·
  subst c3
  have H1 : (if (l0.length : Int) = 0 then (some 0) else (if 0 ≤ (wrap64 ((l0.length : Int) - 1)) then (if (wrap64 ((l0.length : Int) - 1)) < (l0.length : Int) then ((bits_Len64.f k (rd l0 (wrap64 ((l0.length : Int) - 1)))).bind fun t116 => (some (wrap64 ((wrap64 (64 * (wrap64 ((l0.length : Int) - 1)))) + t116)))) else (none)) else (none))) = some r := by rw [if_pos rfl] at H; exact H
  clear H; have H := H1; clear H1
  by_cases c4 : (l0.length : Int) = 0
  ·
   rw [if_pos c4] at H
   have c4b0 : ((l0.length : Int) == 0) = true := beq_iff_eq.mpr c4
   have c4b1 : ((l0.length : Int) != 0) = false := bne_eq_false_iff_eq.mpr c4
   clear c4
   obtain rfl := Option.some.inj H
   go_enter Try.func43, Try.ntmps43
   go_wp2_with (first | ((with_reducible refine gate_callee (f := 40) rfl ?_); refine goesL_ (some 4) rfl rfl Try.func40 (by kernel_rfl) rfl #[.slice A0 l0.length c0] rfl uM ?_; (with_reducible refine (nat_Right.calls _ _ l0 true _ ?side1 ?side2 A2.out).mono ?_); (case side1 => exact uC HR0.out); (case side2 => exact HC0.out); rintro e w' ⟨rfl, ⟨nd, rfl⟩⟩; refine ⟨_, rfl, ?_⟩))
   go_ret
   exact ⟨by first | rfl | (simp; done) | (simp [*]; done), by repeat (first | exact Drawn0.refl _ | apply Drawn0.step)⟩
  rw [if_neg c4] at H
  have c4b0 : ((l0.length : Int) == 0) = false := beq_eq_false_iff_ne.mpr c4
  have c4b1 : ((l0.length : Int) != 0) = true := bne_iff_ne.mpr c4
  have c4b2 : ¬ (l0 = []) := fun h_ => c4 (by rw [h_]; rfl)
  obtain ⟨ji5, hji5⟩ : ∃ j_ : Int, (wrap64 ((l0.length : Int) - 1)) = j_ := ⟨_, rfl⟩
  first | rw [hji5] at H | simp only [hji5] at H
  (try rw [hji5] at A2)
  have hji5w : (IntKind.i64.wrap ((l0.length : Int) - 1)) = ji5 := (i64_w _).trans hji5
  replace H := uT H; obtain ⟨c6, H⟩ := H
  have c6b0 : decide (0 ≤ (ji5)) = true := decide_eq_true c6
  clear c6
  replace H := uT H; obtain ⟨c7, H⟩ := H
  have c7b0 : decide ((ji5) < (l0.length : Int)) = true := decide_eq_true c7
  clear c7
  replace H := ub H; obtain ⟨t116, A8, H⟩ := H
  obtain rfl := Option.some.inj H
  go_enter Try.func43, Try.ntmps43
  go_wp2_with (first | ((with_reducible refine gate_callee (f := 40) rfl ?_); refine goesL_ (some 4) rfl rfl Try.func40 (by kernel_rfl) rfl #[.slice A0 l0.length c0] rfl uM ?_; (with_reducible refine (nat_Right.calls _ _ l0 true _ ?side1 ?side2 A2.out).mono ?_); (case side1 => exact uC HR0.out); (case side2 => exact HC0.out); rintro e w' ⟨rfl, ⟨nd, rfl⟩⟩; refine ⟨_, rfl, ?_⟩; have p115 : 0 ≤ ((ji5) : Int) := uO; have q115 : (ji5) < (l0.length : Int) := uO; obtain ⟨ad115, e115, hx115_0⟩ := Kd.at_int HR0.out (ji5) p115 q115; cases e115; replace p115 := eq_true p115; replace q115 := eq_true q115) | ((with_reducible refine gate_callee (f := 58) rfl ?_); refine goesL_ (some 21) rfl rfl Try.func58 (by kernel_rfl) rfl #[.int .u64 (rd l0 (ji5))] rfl (by (try simp only [List.map_toArray, List.map_cons, List.map_nil]); first | done | (simp only [hji5]; rfl) | rfl | (simp only [List.length_drop, List.length_take]; rfl)) ?_; (with_reducible refine (bits_Len64.calls k (rd l0 (ji5)) t116 _ A8.out).mono ?_); rintro e w' ⟨rfl, ⟨nd, rfl⟩⟩; refine ⟨_, rfl, ?_⟩))
  go_ret
  exact ⟨by first | rfl | (simp; done) | (simp only [← hji5] <;> (first | rfl | simp)) | (simp [*]; done), by repeat (first | exact Drawn0.refl _ | apply Drawn0.step)⟩
 replace c3 := Bool.eq_false_iff.mpr c3
 subst c3
 have H1 : (some 0) = some r := by rw [if_neg (show ¬ (false = true) by decide)] at H; exact H
 clear H; have H := H1; clear H1
 obtain rfl := Option.some.inj H
 go_enter Try.func43, Try.ntmps43
 go_wp2_with (first | ((with_reducible refine gate_callee (f := 40) rfl ?_); refine goesL_ (some 4) rfl rfl Try.func40 (by kernel_rfl) rfl #[.slice A0 l0.length c0] rfl uM ?_; (with_reducible refine (nat_Right.calls _ _ l0 false _ ?side1 ?side2 A2.out).mono ?_); (case side1 => exact uC HR0.out); (case side2 => exact HC0.out); rintro e w' ⟨rfl, ⟨nd, rfl⟩⟩; refine ⟨_, rfl, ?_⟩))
 go_ret
 exact ⟨by first | rfl | (simp; done) | (simp [*]; done), by repeat (first | exact Drawn0.refl _ | apply Drawn0.step)⟩
def nat_Bytes.l0 : Nat → List Int → Int → List Int → Int → Int → Option (List Int)
 | 0, _, _, _, _, _ => none
 | k + 1, x0, x3, x4, x15, x16 => if x16 < x15 then (if 0 ≤ (wrap64 (Int.tdiv x16 8)) then (if (wrap64 (Int.tdiv x16 8)) < (x0.length : Int) then (if 0 ≤ (wrap64 (8 * (Int.tmod x16 8))) then (if 0 ≤ (wrap64 ((wrap64 (x3 - 1)) - x16)) then (if (wrap64 ((wrap64 (x3 - 1)) - x16)) < (x4.length : Int) then (nat_Bytes.l0 k x0 x3 (x4.set ((wrap64 ((wrap64 (x3 - 1)) - x16)) : Int).toNat ((shr .u64 (rd x0 (wrap64 (Int.tdiv x16 8))) (wrap64 (8 * (Int.tmod x16 8)))) % 256)) x15 (wrap64 (x16 + 1))) else (none)) else (none)) else (none)) else (none)) else (none)) else (some x4)
def nat_Bytes.f (k : Nat) (l0 : List Int) : Option (List Int) := (nat_Right.f l0).bind fun t117 => (if t117 = true then ((nat_Bits.f k l0).bind fun t118 => (if 0 ≤ (wrap64 (Int.tdiv (wrap64 (t118 + 7)) 8)) then (if (wrap64 (Int.tdiv (wrap64 (t118 + 7)) 8) : Int).toNat ≤ 281474976710656 then (nat_Bytes.l0 k l0 (wrap64 (Int.tdiv (wrap64 (t118 + 7)) 8)) (List.replicate (wrap64 (Int.tdiv (wrap64 (t118 + 7)) 8) : Int).toNat 0) (wrap64 (Int.tdiv (wrap64 (t118 + 7)) 8)) 0) else (none)) else (none))) else (some ([] : List Int)))
set_option maxHeartbeats 8000000 in
set_option maxRecDepth 100000 in
theorem nat_Bytes.calls (k : Nat) (A0 : Option Addr) (c0 : Nat) (l0 : List Int) (r : List Int) (w : World) (hr0 : Kd.C (Kd.int .u64) w A0 l0.length l0) (hc0 : l0.length ≤ c0) (h : nat_Bytes.f k l0 = some r) :
  Calls Try.prog 16 #[.slice A0 l0.length c0] w fun e w' => ∃ v0_ : Value, e = .returned (v0_) ∧ Kd.R (Kd.int .u8) 5 w' w.heap.size (fun _ => True) v0_ r ∧ Below w.heap.size w w' := by
 have HR0 := Aside0.mk hr0; have HC0 := Aside0.mk hc0; clear hr0 hc0
 have HB := Aside0.mk (Below.refl w.heap.size w)
 have H : ((nat_Right.f l0).bind fun t117 => (if t117 = true then ((nat_Bits.f k l0).bind fun t118 => (if 0 ≤ (wrap64 (Int.tdiv (wrap64 (t118 + 7)) 8)) then (if (wrap64 (Int.tdiv (wrap64 (t118 + 7)) 8) : Int).toNat ≤ 281474976710656 then (nat_Bytes.l0 k l0 (wrap64 (Int.tdiv (wrap64 (t118 + 7)) 8)) (List.replicate (wrap64 (Int.tdiv (wrap64 (t118 + 7)) 8) : Int).toNat 0) (wrap64 (Int.tdiv (wrap64 (t118 + 7)) 8)) 0) else (none)) else (none))) else (some ([] : List Int)))) = some r := h
 clear h
 replace H := ub H; obtain ⟨t117, A2, H⟩ := H
 by_cases c3 : t117 = true
 ·
  subst c3
  have H1 : ((nat_Bits.f k l0).bind fun t118 => (if 0 ≤ (wrap64 (Int.tdiv (wrap64 (t118 + 7)) 8)) then (if (wrap64 (Int.tdiv (wrap64 (t118 + 7)) 8) : Int).toNat ≤ 281474976710656 then (nat_Bytes.l0 k l0 (wrap64 (Int.tdiv (wrap64 (t118 + 7)) 8)) (List.replicate (wrap64 (Int.tdiv (wrap64 (t118 + 7)) 8) : Int).toNat 0) (wrap64 (Int.tdiv (wrap64 (t118 + 7)) 8)) 0) else (none)) else (none))) = some r := by rw [if_pos rfl] at H; exact H
  clear H; have H := H1; clear H1
  replace H := ub H; obtain ⟨t118, A4, H⟩ := H
  obtain ⟨ji5, hji5⟩ : ∃ j_ : Int, (wrap64 (Int.tdiv (wrap64 (t118 + 7)) 8)) = j_ := ⟨_, rfl⟩
  first | rw [hji5] at H | simp only [hji5] at H
  (try rw [hji5] at A2)
  (try rw [hji5] at A4)
  have hji5w : (IntKind.i64.wrap (Int.tdiv (wrap64 (t118 + 7)) 8)) = ji5 := (i64_w _).trans hji5
  replace H := uT H; obtain ⟨c6, H⟩ := H
  have c6b0 := eq_true c6
  have c6b1 : decide (0 ≤ (ji5)) = true := decide_eq_true c6
  clear c6
  replace H := uT H; obtain ⟨c7, H⟩ := H
  have c7b0 := eq_true c7
  have c7b1 : decide ((ji5 : Int).toNat ≤ 281474976710656) = true := decide_eq_true c7
  clear c7
  obtain ⟨y119, hy119⟩ : ∃ y_ : List Int, y_ = (List.replicate (ji5 : Int).toNat 0) := ⟨_, rfl⟩
  replace H : (nat_Bytes.l0 k l0 ji5 y119 ji5 0) = some r := by first | (rw [hy119]; with_reducible exact H) | (have H2_ := (Option.bind_some _ _).symm.trans H; rw [hy119]; with_reducible exact H2_) | (have H2_ := (Option.bind_some _ _).symm.trans H; with_reducible exact H2_) | with_reducible exact H | (rw [hy119]; exact H) | exact H
  have Ny119 := Aside0.mk hy119; clear hy119
  have H' := Aside0.mk H
  clear H
  go_enter Try.func16, Try.ntmps16
  go_wp2_with (first | ((with_reducible refine gate_callee (f := 40) rfl ?_); refine goesL_ (some 7) rfl rfl Try.func40 (by kernel_rfl) rfl #[.slice A0 l0.length c0] rfl uM ?_; (with_reducible refine (nat_Right.calls _ _ l0 true _ ?side1 ?side2 A2.out).mono ?_); (case side1 => exact uC HR0.out); (case side2 => exact HC0.out); rintro e w' ⟨rfl, ⟨nd, rfl⟩⟩; refine ⟨_, rfl, ?_⟩) | ((with_reducible refine gate_callee (f := 43) rfl ?_); refine goesL_ (some 10) rfl rfl Try.func43 (by kernel_rfl) rfl #[.slice A0 l0.length c0] rfl uM ?_; (with_reducible refine (nat_Bits.calls k _ _ l0 t118 _ ?side1 ?side2 A4.out).mono ?_); (case side1 => exact uC HR0.out); (case side2 => exact HC0.out); rintro e w' ⟨rfl, ⟨nd, rfl⟩⟩; refine ⟨_, rfl, ?_⟩) | ((with_reducible refine gate_dst (N := 14) rfl ?_); refine Kd.R_make (Kd.int .u8) _ 5 rfl (N := 14) rfl 27 _ _ rfl ji5 rfl rfl Try.underlying27 (.int .u8 0) 1 info5 rfl (by decide) (by omega) 0 (ok := fun _ => True) (okp := fun _ => True) rfl (fun _ hk => hk) trivial uO (Nat.le_trans (Nat.mul_le_mul_right _ (uO : ji5.toNat ≤ 281474976710656)) (by omega)) (Below.refl _ _) (Nat.le_refl _) ?_; intro v120 w8 ho9 hb hg_ hnew_; clear hg_ hnew_; (first | rw [← Ny119.out] at ho9 | (simp only [Int.reduceToNat] at ho9; rw [← Ny119.out] at ho9)); have HO121 := Aside0.mk (Kd.R_lower ho9 (below_size uB)); replace HB := uy hb; clear hb ho9))
  go_loopg [16] k (fun kq v16 w' => ∃ (x4_1 : List Int) (x16_1 : Int), v16 = .int .i64 x16_1 ∧ Aside0 (nat_Bytes.l0 kq l0 ji5 x4_1 ji5 x16_1 = some r) ∧ Aside0 (kq ≤ k) ∧ Aside0 (Kd.R (Kd.int .u8) 5 w' w.heap.size (fun _ => True) v120 x4_1) ∧ Aside0 (Below w.heap.size w w'))
  case atStart => exact ⟨(y119), (0), uG, H', ⟨Nat.le_refl _⟩, ⟨uR HO121.out⟩, ⟨uB⟩⟩
  case round =>
   clear H'
   (try clear c1); (try clear p2); (try clear c3); (try clear c4); (try clear c6); (try clear c6b0); (try clear c6b1); (try clear p6); (try clear c7); (try clear c7b0); (try clear c7b1)
   obtain ⟨x4_1, x16_1, rfl, HA, HK1, HO_4, HB⟩ := hrel
   cases gk with
   | zero => exact absurd HA.out (by simp [nat_Bytes.l0])
   | succ k1 =>
    have H := HA.out
    clear HA
    simp only [nat_Bytes.l0] at H
    by_cases c10 : x16_1 < ji5
    ·
     rw [if_pos c10] at H
     have c10b0 : decide (x16_1 < ji5) = true := decide_eq_true c10
     clear c10
     obtain ⟨ji11, hji11⟩ : ∃ j_ : Int, (wrap64 (Int.tdiv x16_1 8)) = j_ := ⟨_, rfl⟩
     first | rw [hji11] at H | simp only [hji11] at H
     have hji11w : (IntKind.i64.wrap (Int.tdiv x16_1 8)) = ji11 := (i64_w _).trans hji11
     replace H := uT H; obtain ⟨c12, H⟩ := H
     have c12b0 : decide (0 ≤ (ji11)) = true := decide_eq_true c12
     clear c12
     replace H := uT H; obtain ⟨c13, H⟩ := H
     have c13b0 : decide ((ji11) < (l0.length : Int)) = true := decide_eq_true c13
     clear c13
     obtain ⟨ji14, hji14⟩ : ∃ j_ : Int, (wrap64 (8 * (Int.tmod x16_1 8))) = j_ := ⟨_, rfl⟩
     first | rw [hji14] at H | simp only [hji14] at H
     have hji14w : (IntKind.i64.wrap (8 * (Int.tmod x16_1 8))) = ji14 := (i64_w _).trans hji14
     replace H := uT H; obtain ⟨c15, H⟩ := H
     have c15b0 := eq_true c15
     have c15b1 : decide (0 ≤ (ji14)) = true := decide_eq_true c15
     clear c15
     obtain ⟨ji16, hji16⟩ : ∃ j_ : Int, (shr .u64 (rd l0 (ji11)) (ji14)) = j_ := ⟨_, rfl⟩
     first | rw [hji16] at H | simp only [hji16] at H
     have hji16_ : ((rd l0 (ji11)) / 2 ^ min (ji14).toNat 64) = ji16 := hji16
     have hji16z : (ji14) ≤ 64 → ((rd l0 (ji11)) / 2 ^ (ji14).toNat) = ji16 := shr_small hji16
     obtain ⟨ji17, hji17⟩ : ∃ j_ : Int, (wrap64 ((wrap64 (ji5 - 1)) - x16_1)) = j_ := ⟨_, rfl⟩
     first | rw [hji17] at H | simp only [hji17] at H
     have hji17w : (IntKind.i64.wrap ((wrap64 (ji5 - 1)) - x16_1)) = ji17 := (i64_w _).trans hji17
     replace H := uT H; obtain ⟨c18, H⟩ := H
     have c18b0 : decide (0 ≤ (ji17)) = true := decide_eq_true c18
     clear c18
     replace H := uT H; obtain ⟨c19, H⟩ := H
     have c19b0 : decide ((ji17) < (x4_1.length : Int)) = true := decide_eq_true c19
     clear c19
     obtain ⟨y123, hy123⟩ : ∃ y_ : List Int, y_ = (x4_1.set ((ji17) : Int).toNat ((ji16) % 256)) := ⟨_, rfl⟩
     replace H : (nat_Bytes.l0 k1 l0 ji5 y123 ji5 (wrap64 (x16_1 + 1))) = some r := by first | (rw [hy123]; with_reducible exact H) | (have H2_ := (Option.bind_some _ _).symm.trans H; rw [hy123]; with_reducible exact H2_) | (have H2_ := (Option.bind_some _ _).symm.trans H; with_reducible exact H2_) | with_reducible exact H | (rw [hy123]; exact H) | exact H
     have Ny123 := Aside0.mk hy123; clear hy123
     have H' := Aside0.mk H
     clear H
     have p122 : 0 ≤ ((ji11) : Int) := uO
     have q122 : (ji11) < (l0.length : Int) := uO
     obtain ⟨ad122, e122, hx122_0⟩ := Kd.at_int HR0.out (ji11) p122 q122
     cases e122
     replace hx122_0 := (HB.out.cell (World.block_lt_of_cell? w _ hx122_0)).trans hx122_0
     replace p122 := eq_true p122
     replace q122 := eq_true q122
     have p20 : 0 ≤ ((ji17) : Int) := uO
     have q20 : ((ji17) : Int) < ((x4_1.length : Int) : Int) := uO
     obtain ⟨go20, co20, eo20, gb20, gl20, cl20, HG20⟩ := Kd.R_form HO_4.out (by omega)
     (first | cases eo20 | (injection eo20 with ea_ en_ ec_; (first | subst ea_ | (injection ea_ with ea_; subst ea_)); subst ec_; clear en_))
     have GB20 := Aside0.mk gb20; have GG20 := Aside0.mk HG20; clear gb20 gl20 HG20
     obtain ⟨hx20_0, hf20_0⟩ := Kd.R_celln 0 HO_4.out ((ji17) : Int) p20 q20
     replace p20 := eq_true p20
     replace q20 := eq_true q20
     have HP21 := Kd.R_putg HO_4.out ((ji17) : Int) ((ji16) % 256)
     go_wp2_with (first | ((with_reducible refine gate_store (t := 5) (p := 34) rfl ?_); refine store_event (t := 5) (p := 34) (v := ?vo_w22) (w1 := (wr.setCell ⟨go20, ((ji17) : Int).toNat, none⟩ (.int .u8 ((ji16) % 256)))) ?hg ?ho ?hn ?hr ?_; (case ho => rfl); (case hg => rfl); (case hn => rfl); (case hr => first | (go_simp; done) | (go_simp; rfl) | (obtain ⟨hy_, hz_⟩ := Kd.R_celln 0 HO_4.out ((ji17) : Int) uO uO; (try simp only [Go.IntWalk.toNatUp] at hy_ hz_); (try simp only [Int.reduceToNat, Int.toNat_zero, Int.toNat_ofNat] at hy_ hz_); first | (go_simp; done) | (go_simp; rfl))); intro w22 hw; have hg : wr.grownBy w22 (some go20) := (by rw [hw]; exact HP21.2); have hp_ : Kd.R (Kd.int .u8) 5 w22 w.heap.size (fun _ => True) (.slice (some ⟨go20, 0, none⟩) x4_1.length co20) y123 := (by rw [hw, Ny123.out]; exact HP21.1); clear HP21; replace HO_4 := Aside0.mk (hp_); replace HB := Aside0.mk ((by rw [hw]; exact below_set (HB.out) GB20.out : Below w.heap.size w w22)); clear hg hw hp_))
     first | go_roundg k1 | ((try simp only [← hji17] at H'); simp only [← hji17]; go_roundg k1) | ((try simp only [← hji16] at H'); simp only [← hji16]; go_roundg k1) | ((try simp only [← hji14] at H'); simp only [← hji14]; go_roundg k1) | ((try simp only [← hji11] at H'); simp only [← hji11]; go_roundg k1) | ((try simp only [← hji5] at H'); simp only [← hji5]; go_roundg k1)
     case measure => have := HK1.out; omega
     case rel => first | exact ⟨(y123), (wrap64 (x16_1 + 1)), uG, H', ⟨by have := HK1.out; omega⟩, ⟨uR HO_4.out⟩, ⟨uB⟩⟩ | (simp only [← hji17] at H'; exact ⟨(y123), (wrap64 (x16_1 + 1)), uG, H', ⟨by have := HK1.out; omega⟩, ⟨uR HO_4.out⟩, ⟨uB⟩⟩) | (simp only [← hji16] at H'; exact ⟨(y123), (wrap64 (x16_1 + 1)), uG, H', ⟨by have := HK1.out; omega⟩, ⟨uR HO_4.out⟩, ⟨uB⟩⟩) | (simp only [← hji14] at H'; exact ⟨(y123), (wrap64 (x16_1 + 1)), uG, H', ⟨by have := HK1.out; omega⟩, ⟨uR HO_4.out⟩, ⟨uB⟩⟩) | (simp only [← hji11] at H'; exact ⟨(y123), (wrap64 (x16_1 + 1)), uG, H', ⟨by have := HK1.out; omega⟩, ⟨uR HO_4.out⟩, ⟨uB⟩⟩) | (simp only [← hji5] at H'; exact ⟨(y123), (wrap64 (x16_1 + 1)), uG, H', ⟨by have := HK1.out; omega⟩, ⟨uR HO_4.out⟩, ⟨uB⟩⟩)
    rw [if_neg c10] at H
    have c10b0 : decide (x16_1 < ji5) = false := decide_eq_false c10
    clear c10
    obtain rfl := Option.some.inj H
    go_wp2
    go_ret
    exact ⟨_, by first | rfl | (simp [errW_none, errW_some] <;> rfl) | (simp only [← hji5]; first | rfl | (simp [errW_none, errW_some] <;> rfl)) | (simp [*, errW_none, errW_some] <;> rfl), uR HO_4.out, uB⟩
 replace c3 := Bool.eq_false_iff.mpr c3
 subst c3
 have H1 : (some ([] : List Int)) = some r := by rw [if_neg (show ¬ (false = true) by decide)] at H; exact H
 clear H; have H := H1; clear H1
 obtain rfl := Option.some.inj H
 go_enter Try.func16, Try.ntmps16
 go_wp2_with (first | ((with_reducible refine gate_callee (f := 40) rfl ?_); refine goesL_ (some 7) rfl rfl Try.func40 (by kernel_rfl) rfl #[.slice A0 l0.length c0] rfl uM ?_; (with_reducible refine (nat_Right.calls _ _ l0 false _ ?side1 ?side2 A2.out).mono ?_); (case side1 => exact uC HR0.out); (case side2 => exact HC0.out); rintro e w' ⟨rfl, ⟨nd, rfl⟩⟩; refine ⟨_, rfl, ?_⟩))
 go_ret
 exact ⟨_, by first | rfl | (simp [errW_none, errW_some] <;> rfl) | (simp [*, errW_none, errW_some] <;> rfl), by first | exact Kd.R_nil _ _ _ _ _ | exact Kd.N_nil _ _ _ _ _ | exact Kd.V_nil _ _ _ _ _ | exact Kd.Q_nil _ _ _ _ _ | exact Kd.S_nil _ _ _ _ _, uB⟩
def windbreakref09_Number.l0 : Nat → Int → List Int → Option (List Int)
 | 0, _, _ => none
 | k + 1, x0, x3 => if x0 ≥ 128 then (if x3.length < 140737488355328 then (windbreakref09_Number.l0 k (IntKind.u64.wrap (Int.tdiv x0 128)) (x3 ++ [(IntKind.u64.wrap ((Int.tmod x0 128) + 128)) % 256])) else (none)) else (if x3.length < 140737488355328 then (some (x3 ++ [(x0) % 256])) else (none))
def windbreakref09_Number.f (k : Nat) (a0 : Int) : Option (List Int) := windbreakref09_Number.l0 k a0 ([] : List Int)
set_option maxHeartbeats 8000000 in
set_option maxRecDepth 100000 in
theorem windbreakref09_Number.calls (k : Nat) (a0 : Int) (r : List Int) (w : World) (h : windbreakref09_Number.f k a0 = some r) :
  Calls Try.prog 18 #[.int .u64 a0] w fun e w' => ∃ v0_ : Value, e = .returned (v0_) ∧ Kd.R (Kd.int .u8) 5 w' w.heap.size (fun _ => True) v0_ r ∧ Below w.heap.size w w' := by
 have HB := Aside0.mk (Below.refl w.heap.size w)
 have H : (windbreakref09_Number.l0 k a0 ([] : List Int)) = some r := h
 clear h
 have H' := Aside0.mk H
 clear H
 go_enter Try.func18, Try.ntmps18
 go_wp2
 go_loopg [0, 3] k (fun kq v0 v3 w' => ∃ (x0_1 : Int) (x3_1 : List Int), v0 = .int .u64 x0_1 ∧ Aside0 (windbreakref09_Number.l0 kq x0_1 x3_1 = some r) ∧ Aside0 (kq ≤ k) ∧ Aside0 (Kd.R (Kd.int .u8) 5 w' w.heap.size (fun _ => True) v3 x3_1) ∧ Aside0 (Below w.heap.size w w'))
 case atStart => exact ⟨(a0), (([] : List Int)), uG, H', ⟨Nat.le_refl _⟩, ⟨by first | exact Kd.R_nil _ _ _ _ _ | exact Kd.N_nil _ _ _ _ _ | exact Kd.V_nil _ _ _ _ _ | exact Kd.Q_nil _ _ _ _ _ | exact Kd.S_nil _ _ _ _ _⟩, ⟨uB⟩⟩
 case round =>
  clear H'
  (try clear c1)
  obtain ⟨x0_1, x3_1, rfl, HA, HK1, HO_3, HB⟩ := hrel
  cases gk with
  | zero => exact absurd HA.out (by simp [windbreakref09_Number.l0])
  | succ k1 =>
   have H := HA.out
   clear HA
   simp only [windbreakref09_Number.l0] at H
   by_cases c2 : x0_1 ≥ 128
   ·
    rw [if_pos c2] at H
    have c2b0 : decide (128 ≤ x0_1) = true := decide_eq_true c2
    clear c2
    replace H := uT H; obtain ⟨c3, H⟩ := H
    have LMc3 := Aside0.mk c3; clear c3
    obtain ⟨y132, hy132⟩ : ∃ y_ : List Int, y_ = (x3_1 ++ [(IntKind.u64.wrap ((Int.tmod x0_1 128) + 128)) % 256]) := ⟨_, rfl⟩
    replace H : (windbreakref09_Number.l0 k1 (IntKind.u64.wrap (Int.tdiv x0_1 128)) y132) = some r := by first | (rw [hy132]; with_reducible exact H) | (have H2_ := (Option.bind_some _ _).symm.trans H; rw [hy132]; with_reducible exact H2_) | (have H2_ := (Option.bind_some _ _).symm.trans H; with_reducible exact H2_) | with_reducible exact H | (rw [hy132]; exact H) | exact H
    have Ny132 := Aside0.mk hy132; clear hy132
    have H' := Aside0.mk H
    clear H
    go_wp2_with (first | ((with_reducible refine gate_builtin (b := .append) (xs := #[.tmp 6, .tmp 11]) rfl ?_); at_builtin; refine Kd.R_append (Kd.int .u8) (w0 := w) w.heap.size rfl (.tmp 6) (.tmp 11) 27 5 (.int .u8 0) 1 rfl Try.underlying27 info5 rfl (by decide) (by omega) u3 x3_1 ((IntKind.u64.wrap ((Int.tmod x0_1 128) + 128)) % 256) [.int .u8 ((IntKind.u64.wrap ((Int.tmod x0_1 128) + 128)) % 256)] (fun _ => True) (fun _ => False) rfl rfl ?aP (fun _ hk => hk.elim) ?aF ?aO ?aB ?aS ?aL ?_; (case aP => exact rfl); (case aB => exact uB); (case aF => exact (fun _ _ => trivial)); (case aO => exact (uR HO_3.out)); (case aS => exact (below_size uB)); (case aL => have := LMc3.out; omega); intro v133 w4 ho hb hg hat; rw [← Ny132.out] at ho; replace HB := Aside0.mk (hb); have HO134 := Aside0.mk (ho); clear HO_3; clear ho hb hg hat))
    go_roundg k1
    case measure => have := HK1.out; omega
    case rel => exact ⟨(IntKind.u64.wrap (Int.tdiv x0_1 128)), (y132), uG, H', ⟨by have := HK1.out; omega⟩, ⟨uR HO134.out⟩, ⟨uB⟩⟩
   rw [if_neg c2] at H
   have c2b0 : decide (128 ≤ x0_1) = false := decide_eq_false c2
   clear c2
   replace H := uT H; obtain ⟨c5, H⟩ := H
   have LMc5 := Aside0.mk c5; clear c5
   obtain ⟨y135, hy135⟩ : ∃ y_ : List Int, y_ = (x3_1 ++ [(x0_1) % 256]) := ⟨_, rfl⟩
   replace H : (some y135) = some r := by first | (rw [hy135]; with_reducible exact H) | (have H2_ := (Option.bind_some _ _).symm.trans H; rw [hy135]; with_reducible exact H2_) | (have H2_ := (Option.bind_some _ _).symm.trans H; with_reducible exact H2_) | with_reducible exact H | (rw [hy135]; exact H) | exact H
   have Ny135 := Aside0.mk hy135; clear hy135
   obtain rfl := Option.some.inj H
   go_wp2_with (first | ((with_reducible refine gate_builtin (b := .append) (xs := #[.tmp 15, .tmp 18]) rfl ?_); at_builtin; refine Kd.R_append (Kd.int .u8) (w0 := w) w.heap.size rfl (.tmp 15) (.tmp 18) 27 5 (.int .u8 0) 1 rfl Try.underlying27 info5 rfl (by decide) (by omega) u3 x3_1 ((x0_1) % 256) [.int .u8 ((x0_1) % 256)] (fun _ => True) (fun _ => False) rfl rfl ?aP (fun _ hk => hk.elim) ?aF ?aO ?aB ?aS ?aL ?_; (case aP => exact rfl); (case aB => exact uB); (case aF => exact (fun _ _ => trivial)); (case aO => exact (uR HO_3.out)); (case aS => exact (below_size uB)); (case aL => have := LMc5.out; omega); intro v136 w6 ho hb hg hat; rw [← Ny135.out] at ho; replace HB := Aside0.mk (hb); have HO137 := Aside0.mk (ho); clear HO_3; clear ho hb hg hat))
   go_ret
   exact ⟨_, uF, uR HO137.out, uB⟩
def windbreakref12_list.l0 : Nat → List Int → List Int → Int → Option (List Int)
 | 0, _, _, _ => none
 | k + 1, x0, x3, x4 => if x4 < (x0.length : Int) then (if 0 ≤ x4 then ((windbreakref09_Number.f k (IntKind.u64.wrap (rd x0 x4))).bind fun t142 => (if x3.length + t142.length < 140737488355328 then (windbreakref12_list.l0 k x0 (x3 ++ t142) (wrap64 (x4 + 1))) else (none))) else (none)) else (some x3)
def windbreakref12_list.f (k : Nat) (l0 : List Int) : Option (List Int) := (windbreakref09_Number.f k (IntKind.u64.wrap ((l0.length : Int)))).bind fun t138 => (windbreakref12_list.l0 k l0 t138 0)
set_option maxHeartbeats 8000000 in
set_option maxRecDepth 100000 in
theorem windbreakref12_list.calls (k : Nat) (A0 : Option Addr) (c0 : Nat) (l0 : List Int) (r : List Int) (w : World) (hr0 : Kd.C (Kd.int .i64) w A0 l0.length l0) (hc0 : l0.length ≤ c0) (h : windbreakref12_list.f k l0 = some r) :
  Calls Try.prog 19 #[.slice A0 l0.length c0] w fun e w' => ∃ v0_ : Value, e = .returned (v0_) ∧ Kd.R (Kd.int .u8) 5 w' w.heap.size (fun _ => True) v0_ r ∧ Below w.heap.size w w' := by
 have HR0 := Aside0.mk hr0; have HC0 := Aside0.mk hc0; clear hr0 hc0
 have HB := Aside0.mk (Below.refl w.heap.size w)
 have H : ((windbreakref09_Number.f k (IntKind.u64.wrap ((l0.length : Int)))).bind fun t138 => (windbreakref12_list.l0 k l0 t138 0)) = some r := h
 clear h
 replace H := ub H; obtain ⟨t138, A2, H⟩ := H
 have H' := Aside0.mk H
 clear H
 go_enter Try.func19, Try.ntmps19
 go_wp2_with (first | ((with_reducible refine gate_callee (f := 18) rfl ?_); refine goesL_ (some 8) rfl rfl Try.func18 (by kernel_rfl) rfl #[.int .u64 (IntKind.u64.wrap ((l0.length : Int)))] rfl uM ?_; (with_reducible refine (windbreakref09_Number.calls k (IntKind.u64.wrap ((l0.length : Int))) t138 _ A2.out).mono ?_); rintro e w3 ⟨v139, rfl, ho0, hb⟩; refine ⟨_, rfl, ?_⟩; have HO140 := Aside0.mk (Kd.R_lower ho0 (below_size uB)); replace HB := uy hb; (try clear hb ho0)))
 go_loopg [3, 4] k (fun kq v3 v4 w' => ∃ (x3_1 : List Int) (x4_1 : Int), v4 = .int .i64 x4_1 ∧ Aside0 (windbreakref12_list.l0 kq l0 x3_1 x4_1 = some r) ∧ Aside0 (kq ≤ k) ∧ Aside0 (Kd.R (Kd.int .u8) 5 w' w.heap.size (fun _ => True) v3 x3_1) ∧ Aside0 (Below w.heap.size w w'))
 case atStart => exact ⟨(t138), (0), uG, H', ⟨Nat.le_refl _⟩, ⟨uR HO140.out⟩, ⟨uB⟩⟩
 case round =>
  clear H'
  (try clear c1); (try clear p2)
  obtain ⟨x3_1, x4_1, rfl, HA, HK1, HO_3, HB⟩ := hrel
  cases gk with
  | zero => exact absurd HA.out (by simp [windbreakref12_list.l0])
  | succ k1 =>
   have H := HA.out
   clear HA
   simp only [windbreakref12_list.l0] at H
   by_cases c4 : x4_1 < (l0.length : Int)
   ·
    rw [if_pos c4] at H
    have c4b0 : decide (x4_1 < (l0.length : Int)) = true := decide_eq_true c4
    clear c4
    replace H := uT H; obtain ⟨c5, H⟩ := H
    have c5b0 : decide (0 ≤ x4_1) = true := decide_eq_true c5
    clear c5
    replace H := ub H; obtain ⟨t142, A6, H⟩ := H
    replace H := uT H; obtain ⟨c7, H⟩ := H
    have LMc7 := Aside0.mk c7; clear c7
    obtain ⟨y145, hy145⟩ : ∃ y_ : List Int, y_ = (x3_1 ++ t142) := ⟨_, rfl⟩
    replace H : (windbreakref12_list.l0 k1 l0 y145 (wrap64 (x4_1 + 1))) = some r := by first | (rw [hy145]; with_reducible exact H) | (have H2_ := (Option.bind_some _ _).symm.trans H; rw [hy145]; with_reducible exact H2_) | (have H2_ := (Option.bind_some _ _).symm.trans H; with_reducible exact H2_) | with_reducible exact H | (rw [hy145]; exact H) | exact H
    have Ny145 := Aside0.mk hy145; clear hy145
    have H' := Aside0.mk H
    clear H
    have p141 : 0 ≤ (x4_1 : Int) := uO
    have q141 : x4_1 < (l0.length : Int) := uO
    obtain ⟨ad141, e141, hx141_0⟩ := Kd.at_int HR0.out x4_1 p141 q141
    cases e141
    replace hx141_0 := (HB.out.cell (World.block_lt_of_cell? w _ hx141_0)).trans hx141_0
    replace p141 := eq_true p141
    replace q141 := eq_true q141
    go_wp2_with (first | ((with_reducible refine gate_callee (f := 18) rfl ?_); refine goesL_ (some 21) rfl rfl Try.func18 (by kernel_rfl) rfl #[.int .u64 (IntKind.u64.wrap (rd l0 x4_1))] rfl uM ?_; (with_reducible refine (windbreakref09_Number.calls k1 (IntKind.u64.wrap (rd l0 x4_1)) t142 _ A6.out).mono ?_); rintro e w8 ⟨v143, rfl, ho0, hb⟩; refine ⟨_, rfl, ?_⟩; have HO144 := Aside0.mk (Kd.R_lower (Kd.R_new' ho0 (Kd.R_lt (uR HO_3.out))) (below_size uB)); replace HO_3 := ueR HO_3 ho0 hb; replace HB := uy hb; (try clear hb ho0); obtain ⟨Ao10, co10, eo10⟩ := Kd.R_slice HO144.out; subst eo10) | ((with_reducible refine gate_builtin (b := .append) (xs := #[.tmp 15, .tmp 21]) rfl ?_); at_builtin; refine Kd.R_append_rows (Kd.int .u8) (w0 := w) w.heap.size rfl (.tmp 15) (.tmp 21) 27 5 (.int .u8 0) 1 rfl Try.underlying27 info5 rfl (by decide) (by omega) u3 x3_1 t142 _ _ _ (fun k_ => some k_ ≠ (.slice Ao10 t142.length co10 : Value).ownBlock) (fun _ => False) rfl rfl ?aO ?aR (fun _ _ h => h) (fun _ h => h.elim) ?aF ?aB ?aS ?aL ?_; (case aR => exact uC (Kd.R_reads' HO144.out).2.2); (case aB => exact uB); (case aF => exact (fun k_ hk => Kd.fresh' (Kd.R_lt (uR HO144.out)) k_ hk)); (case aO => exact (uR (Kd.R_mono HO_3.out (fun _ hk => hk.2)))); (case aS => exact (below_size uB)); (case aL => have := LMc7.out; omega); intro v146 w9 ho hb hg hat; rw [← Ny145.out] at ho; replace HO144 := Aside0.mk (Kd.R_after (ok := (fun _ => True)) (uR HO144.out) hg hat); replace HB := Aside0.mk (hb); have HO147 := Aside0.mk (ho); clear HO_3; clear ho hb hg hat))
    go_roundg k1
    case measure => have := HK1.out; omega
    case rel => exact ⟨(y145), (wrap64 (x4_1 + 1)), uG, H', ⟨by have := HK1.out; omega⟩, ⟨by (with_reducible repeat (first | apply Kd.R_alloc | apply Kd.R_drewN | apply Kd.R_drew)); exact Kd.R_mono HO147.out (fun _ hk => trivial)⟩, ⟨uB⟩⟩
   rw [if_neg c4] at H
   have c4b0 : decide (x4_1 < (l0.length : Int)) = false := decide_eq_false c4
   clear c4
   obtain rfl := Option.some.inj H
   go_wp2
   go_ret
   exact ⟨_, uF, uR HO_3.out, uB⟩
def windbreakref09_Bytes.f (k : Nat) (l0 : List Int) : Option (List Int) := (windbreakref09_Number.f k (IntKind.u64.wrap ((l0.length : Int)))).bind fun t148 => (if t148.length + l0.length < 140737488355328 then (some (t148 ++ l0)) else (none))
set_option maxHeartbeats 8000000 in
set_option maxRecDepth 100000 in
theorem windbreakref09_Bytes.calls (k : Nat) (A0 : Option Addr) (c0 : Nat) (l0 : List Int) (r : List Int) (w : World) (hr0 : Kd.C (Kd.int .u8) w A0 l0.length l0) (hc0 : l0.length ≤ c0) (h : windbreakref09_Bytes.f k l0 = some r) :
  Calls Try.prog 20 #[.slice A0 l0.length c0] w fun e w' => ∃ v0_ : Value, e = .returned (v0_) ∧ Kd.R (Kd.int .u8) 5 w' w.heap.size (fun _ => True) v0_ r ∧ Below w.heap.size w w' := by
 have HR0 := Aside0.mk hr0; have HC0 := Aside0.mk hc0; clear hr0 hc0
 have HB := Aside0.mk (Below.refl w.heap.size w)
 have H : ((windbreakref09_Number.f k (IntKind.u64.wrap ((l0.length : Int)))).bind fun t148 => (if t148.length + l0.length < 140737488355328 then (some (t148 ++ l0)) else (none))) = some r := h
 clear h
 replace H := ub H; obtain ⟨t148, A2, H⟩ := H
 replace H := uT H; obtain ⟨c3, H⟩ := H
 have LMc3 := Aside0.mk c3; clear c3
 obtain ⟨y151, hy151⟩ : ∃ y_ : List Int, y_ = (t148 ++ l0) := ⟨_, rfl⟩
 replace H : (some y151) = some r := by first | (rw [hy151]; with_reducible exact H) | (have H2_ := (Option.bind_some _ _).symm.trans H; rw [hy151]; with_reducible exact H2_) | (have H2_ := (Option.bind_some _ _).symm.trans H; with_reducible exact H2_) | with_reducible exact H | (rw [hy151]; exact H) | exact H
 have Ny151 := Aside0.mk hy151; clear hy151
 obtain rfl := Option.some.inj H
 go_enter Try.func20, Try.ntmps20
 go_wp2_with (first | ((with_reducible refine gate_callee (f := 18) rfl ?_); refine goesL_ (some 6) rfl rfl Try.func18 (by kernel_rfl) rfl #[.int .u64 (IntKind.u64.wrap ((l0.length : Int)))] rfl uM ?_; (with_reducible refine (windbreakref09_Number.calls k (IntKind.u64.wrap ((l0.length : Int))) t148 _ A2.out).mono ?_); rintro e w4 ⟨v149, rfl, ho0, hb⟩; refine ⟨_, rfl, ?_⟩; have HO150 := Aside0.mk (Kd.R_lower ho0 (below_size uB)); replace HB := uy hb; (try clear hb ho0)) | ((with_reducible refine gate_builtin (b := .append) (xs := #[.tmp 6, .tmp 7]) rfl ?_); at_builtin; refine Kd.R_append_rows (Kd.int .u8) (w0 := w) w.heap.size rfl (.tmp 6) (.tmp 7) 27 5 (.int .u8 0) 1 rfl Try.underlying27 info5 rfl (by decide) (by omega) v149 t148 l0 _ _ _ (fun _ => True) (fun _ => False) rfl rfl ?aO ?aR (fun _ _ h => h) (fun _ h => h.elim) ?aF ?aB ?aS ?aL ?_; (case aR => exact uC (Kd.C_below HR0.out HB.out)); (case aB => exact uB); (case aF => exact (fun _ _ => trivial)); (case aO => exact (uR HO150.out)); (case aS => exact (below_size uB)); (case aL => have := LMc3.out; omega); intro v152 w5 ho hb hg hat; rw [← Ny151.out] at ho; replace HB := Aside0.mk (hb); have HO153 := Aside0.mk (ho); clear HO150; clear ho hb hg hat))
 go_ret
 exact ⟨_, uF, uR HO153.out, uB⟩
def windbreakref01_Right.f (l0 : List Int) : Option (Bool) := if (l0.length : Int) ≤ 64 then (if (l0.length : Int) = 0 then (some true) else (if 0 ≤ (wrap64 ((l0.length : Int) - 1)) then (if (wrap64 ((l0.length : Int) - 1)) < (l0.length : Int) then (some ((rd l0 (wrap64 ((l0.length : Int) - 1))) != 0)) else (none)) else (none))) else (some false)
set_option maxHeartbeats 8000000 in
set_option maxRecDepth 100000 in
theorem windbreakref01_Right.calls (A0 : Option Addr) (c0 : Nat) (l0 : List Int) (r : Bool) (w : World) (hr0 : Kd.C (Kd.int .u64) w A0 l0.length l0) (hc0 : l0.length ≤ c0) (h : windbreakref01_Right.f l0 = some r) :
  Calls Try.prog 45 #[.slice A0 l0.length c0] w fun e w' => e = .returned (.bool r) ∧ Drawn0 w w' := by
 have HR0 := Aside0.mk hr0; have HC0 := Aside0.mk hc0; clear hr0 hc0
 have H : (if (l0.length : Int) ≤ 64 then (if (l0.length : Int) = 0 then (some true) else (if 0 ≤ (wrap64 ((l0.length : Int) - 1)) then (if (wrap64 ((l0.length : Int) - 1)) < (l0.length : Int) then (some ((rd l0 (wrap64 ((l0.length : Int) - 1))) != 0)) else (none)) else (none))) else (some false)) = some r := h
 clear h
 by_cases c2 : (l0.length : Int) ≤ 64
 ·
  rw [if_pos c2] at H
  have c2b0 : decide ((l0.length : Int) ≤ 64) = true := decide_eq_true c2
  have c2b1 : decide (l0.length ≤ 64) = true := decide_eq_true (by omega)
  clear c2
  by_cases c3 : (l0.length : Int) = 0
  ·
   rw [if_pos c3] at H
   have c3b0 : ((l0.length : Int) == 0) = true := beq_iff_eq.mpr c3
   have c3b1 : ((l0.length : Int) != 0) = false := bne_eq_false_iff_eq.mpr c3
   clear c3
   obtain rfl := Option.some.inj H
   go_enter Try.func45, Try.ntmps45
   go_wp2
   go_ret
   exact ⟨by first | rfl | (simp; done) | (simp [*]; done), by repeat (first | exact Drawn0.refl _ | apply Drawn0.step)⟩
  rw [if_neg c3] at H
  have c3b0 : ((l0.length : Int) == 0) = false := beq_eq_false_iff_ne.mpr c3
  have c3b1 : ((l0.length : Int) != 0) = true := bne_iff_ne.mpr c3
  have c3b2 : ¬ (l0 = []) := fun h_ => c3 (by rw [h_]; rfl)
  obtain ⟨ji4, hji4⟩ : ∃ j_ : Int, (wrap64 ((l0.length : Int) - 1)) = j_ := ⟨_, rfl⟩
  first | rw [hji4] at H | simp only [hji4] at H
  have hji4w : (IntKind.i64.wrap ((l0.length : Int) - 1)) = ji4 := (i64_w _).trans hji4
  replace H := uT H; obtain ⟨c5, H⟩ := H
  have c5b0 : decide (0 ≤ (ji4)) = true := decide_eq_true c5
  clear c5
  replace H := uT H; obtain ⟨c6, H⟩ := H
  have c6b0 : decide ((ji4) < (l0.length : Int)) = true := decide_eq_true c6
  clear c6
  obtain rfl := Option.some.inj H
  have p131 : 0 ≤ ((ji4) : Int) := uO
  have q131 : (ji4) < (l0.length : Int) := uO
  obtain ⟨ad131, e131, hx131_0⟩ := Kd.at_int HR0.out (ji4) p131 q131
  cases e131
  replace p131 := eq_true p131
  replace q131 := eq_true q131
  go_enter Try.func45, Try.ntmps45
  go_wp2
  go_ret
  exact ⟨by first | rfl | (simp; done) | (simp only [← hji4] <;> (first | rfl | simp)) | (simp [*]; done), by repeat (first | exact Drawn0.refl _ | apply Drawn0.step)⟩
 rw [if_neg c2] at H
 have c2b0 : decide ((l0.length : Int) ≤ 64) = false := decide_eq_false c2
 have c2b1 : decide (l0.length ≤ 64) = false := decide_eq_false (by omega)
 clear c2
 obtain rfl := Option.some.inj H
 go_enter Try.func45, Try.ntmps45
 go_wp2
 go_ret
 exact ⟨by first | rfl | (simp; done) | (simp [*]; done), by repeat (first | exact Drawn0.refl _ | apply Drawn0.step)⟩
def windbreakref01_cut.l0 : Nat → List Int → Int → Option (List Int)
 | 0, _, _ => none
 | k + 1, x0, x3 => if x3 > 0 then (if 0 ≤ (wrap64 (x3 - 1)) then (if (wrap64 (x3 - 1)) < (x0.length : Int) then (if (rd x0 (wrap64 (x3 - 1))) = 0 then (windbreakref01_cut.l0 k x0 (wrap64 (x3 - 1))) else (if 0 ≤ x3 then (if x3 ≤ (x0.length : Int) then (some (x0.take (x3 : Int).toNat)) else (none)) else (none))) else (none)) else (none)) else (if 0 ≤ x3 then (if x3 ≤ (x0.length : Int) then (some (x0.take (x3 : Int).toNat)) else (none)) else (none))
def windbreakref01_cut.f (k : Nat) (l0 : List Int) : Option (List Int) := windbreakref01_cut.l0 k l0 (l0.length : Int)
set_option maxHeartbeats 8000000 in
set_option maxRecDepth 100000 in
theorem windbreakref01_cut.calls (k : Nat) (P0_ : Nat → Prop) (u9000_ : Value) (l0 : List Int) (r : List Int) (w0 w : World) (hB : Below w0.heap.size w0 w) (ho0 : Kd.R (Kd.int .u64) 37 w w0.heap.size P0_ u9000_ l0) (h : windbreakref01_cut.f k l0 = some r) :
  Calls Try.prog 54 #[u9000_] w fun e w' => ∃ v0_ : Value, e = .returned (v0_) ∧ Kd.R (Kd.int .u64) 37 w' w0.heap.size (fun k_ => (P0_ k_ ∨ w.heap.size ≤ k_)) v0_ r ∧ Below w0.heap.size w0 w' ∧ Kept w w' (fun k_ => P0_ k_) := by
 have HO0 := Aside0.mk (show Kd.R (Kd.int .u64) 37 w w0.heap.size (fun k_ => (P0_ k_ ∨ w.heap.size ≤ k_)) u9000_ l0 from Kd.R_mono ho0 (fun k_ hk => (.inl hk)))
 have HK := Aside0.mk (Kept.refl w (fun k_ => P0_ k_))
 have HW0 := Aside0.mk hB.size
 have HB := Aside0.mk hB; clear hB
 have H : (windbreakref01_cut.l0 k l0 (l0.length : Int)) = some r := h
 clear h
 have H' := Aside0.mk H
 clear H
 obtain ⟨Ao2, co2, eo2⟩ := Kd.R_slice HO0.out
 subst eo2
 go_enter Try.func54, Try.ntmps54
 go_wp2
 go_loopg [3] k (fun kq v3 w' => ∃ (x3_1 : Int), v3 = .int .i64 x3_1 ∧ Aside0 (windbreakref01_cut.l0 kq l0 x3_1 = some r) ∧ Aside0 (kq ≤ k) ∧ Aside0 (Kd.R (Kd.int .u64) 37 w' w0.heap.size (fun k_ => (P0_ k_ ∨ w.heap.size ≤ k_)) (.slice Ao2 l0.length co2) l0) ∧ Aside0 (Kept w w' (fun k_ => P0_ k_)) ∧ Aside0 (Below w0.heap.size w0 w'))
 case atStart => exact ⟨((l0.length : Int)), uG, H', ⟨Nat.le_refl _⟩, ⟨uR HO0.out⟩, ⟨by repeat (first | (with_reducible first | exact HK.out | apply Kept.alloc | apply Kept.drewN | apply Kept.drew) | exact HK.out)⟩, ⟨uB⟩⟩
 case round =>
  clear H'
  (try clear p2)
  obtain ⟨x3_1, rfl, HA, HK1, HO_0, HK, HB⟩ := hrel
  cases gk with
  | zero => exact absurd HA.out (by simp [windbreakref01_cut.l0])
  | succ k1 =>
   have H := HA.out
   clear HA
   simp only [windbreakref01_cut.l0] at H
   by_cases c3 : x3_1 > 0
   ·
    rw [if_pos c3] at H
    have c3b0 : decide (0 < x3_1) = true := decide_eq_true c3
    clear c3
    obtain ⟨ji4, hji4⟩ : ∃ j_ : Int, (wrap64 (x3_1 - 1)) = j_ := ⟨_, rfl⟩
    first | rw [hji4] at H | simp only [hji4] at H
    have hji4w : (IntKind.i64.wrap (x3_1 - 1)) = ji4 := (i64_w _).trans hji4
    replace H := uT H; obtain ⟨c5, H⟩ := H
    have c5b0 : decide (0 ≤ (ji4)) = true := decide_eq_true c5
    clear c5
    replace H := uT H; obtain ⟨c6, H⟩ := H
    have c6b0 : decide ((ji4) < (l0.length : Int)) = true := decide_eq_true c6
    clear c6
    by_cases c7 : (rd l0 (ji4)) = 0
    ·
     rw [if_pos c7] at H
     have c7b0 : ((rd l0 (ji4)) == 0) = true := beq_iff_eq.mpr c7
     have c7b1 : ((rd l0 (ji4)) != 0) = false := bne_eq_false_iff_eq.mpr c7
     clear c7
     have H' := Aside0.mk H
     clear H
     have p154 : 0 ≤ ((ji4) : Int) := uO
     have q154 : (ji4) < (l0.length : Int) := uO
     obtain ⟨ad154, e154, hx154_0⟩ := Kd.at_int (Kd.R_reads' HO_0.out).2.2 (ji4) p154 q154
     cases e154
     replace p154 := eq_true p154
     replace q154 := eq_true q154
     go_wp2
     first | go_roundg k1 | ((try simp only [← hji4] at H'); simp only [← hji4]; go_roundg k1)
     case measure => have := HK1.out; omega
     case rel => first | exact ⟨(ji4), (by first | rfl | (simp; done) | (simp only [← hji4] <;> (first | rfl | simp)) | (simp [*]; done)), H', ⟨by have := HK1.out; omega⟩, ⟨uR HO_0.out⟩, ⟨by repeat (first | (with_reducible first | exact HK.out | apply Kept.alloc | apply Kept.drewN | apply Kept.drew) | exact HK.out)⟩, ⟨uB⟩⟩ | (simp only [← hji4] at H'; exact ⟨(ji4), (by first | rfl | (simp; done) | (simp only [← hji4] <;> (first | rfl | simp)) | (simp [*]; done)), H', ⟨by have := HK1.out; omega⟩, ⟨uR HO_0.out⟩, ⟨by repeat (first | (with_reducible first | exact HK.out | apply Kept.alloc | apply Kept.drewN | apply Kept.drew) | exact HK.out)⟩, ⟨uB⟩⟩)
    rw [if_neg c7] at H
    have c7b0 : ((rd l0 (ji4)) == 0) = false := beq_eq_false_iff_ne.mpr c7
    have c7b1 : ((rd l0 (ji4)) != 0) = true := bne_iff_ne.mpr c7
    replace H := uT H; obtain ⟨c8, H⟩ := H
    have c8b0 := eq_true c8
    have c8b1 : decide (0 ≤ x3_1) = true := decide_eq_true c8
    clear c8
    replace H := uT H; obtain ⟨c9, H⟩ := H
    have c9b0 := eq_true c9
    have c9b1 : decide (x3_1 ≤ (l0.length : Int)) = true := decide_eq_true c9
    clear c9
    obtain ⟨y155, hy155⟩ : ∃ y_ : List Int, y_ = (l0.take (x3_1 : Int).toNat) := ⟨_, rfl⟩
    replace H : (some y155) = some r := by first | (rw [hy155]; with_reducible exact H) | (have H2_ := (Option.bind_some _ _).symm.trans H; rw [hy155]; with_reducible exact H2_) | (have H2_ := (Option.bind_some _ _).symm.trans H; with_reducible exact H2_) | with_reducible exact H | (rw [hy155]; exact H) | exact H
    have Ny155 := Aside0.mk hy155; clear hy155
    obtain rfl := Option.some.inj H
    have p154 : 0 ≤ ((ji4) : Int) := uO
    have q154 : (ji4) < (l0.length : Int) := uO
    obtain ⟨ad154, e154, hx154_0⟩ := Kd.at_int (Kd.R_reads' HO_0.out).2.2 (ji4) p154 q154
    cases e154
    replace p154 := eq_true p154
    replace q154 := eq_true q154
    have q10 : (x3_1 : Int) ≤ ((l0.length : Int) : Int) := uO
    obtain ⟨i010, hi010, _, hsz10, _⟩ := info_parts info37
    have hcut10 := cut_to (P := Try.prog) 80 37 .i64 Try.underlying80 hi010 (some ad154) l0.length co2 x3_1 uO q10 (Kd.R_reads' HO_0.out).2.1
    have hr10 := Kd.R_take (m := (x3_1 : Int).toNat) HO_0.out (by omega)
    have hy10 : y155.length = (x3_1 : Int).toNat := (by rw [Ny155.out, List.length_take]; omega)
    rw [← Ny155.out] at hr10
    rw [← hy10] at hr10 hcut10
    clear hy10 hi010 hsz10 HO_0; have HO157 := Aside0.mk hr10; clear hr10
    replace q10 := eq_true q10
    go_wp2
    go_ret
    exact ⟨_, by first | rfl | (simp [errW_none, errW_some] <;> rfl) | (simp only [← hji4]; first | rfl | (simp [errW_none, errW_some] <;> rfl)) | (simp [*, errW_none, errW_some] <;> rfl), uR HO157.out, uB, by repeat (first | (with_reducible first | exact HK.out | apply Kept.alloc | apply Kept.drewN | apply Kept.drew) | exact HK.out)⟩
   rw [if_neg c3] at H
   have c3b0 : decide (0 < x3_1) = false := decide_eq_false c3
   clear c3
   replace H := uT H; obtain ⟨c11, H⟩ := H
   have c11b0 := eq_true c11
   have c11b1 : decide (0 ≤ x3_1) = true := decide_eq_true c11
   clear c11
   replace H := uT H; obtain ⟨c12, H⟩ := H
   have c12b0 := eq_true c12
   have c12b1 : decide (x3_1 ≤ (l0.length : Int)) = true := decide_eq_true c12
   clear c12
   obtain ⟨y158, hy158⟩ : ∃ y_ : List Int, y_ = (l0.take (x3_1 : Int).toNat) := ⟨_, rfl⟩
   replace H : (some y158) = some r := by first | (rw [hy158]; with_reducible exact H) | (have H2_ := (Option.bind_some _ _).symm.trans H; rw [hy158]; with_reducible exact H2_) | (have H2_ := (Option.bind_some _ _).symm.trans H; with_reducible exact H2_) | with_reducible exact H | (rw [hy158]; exact H) | exact H
   have Ny158 := Aside0.mk hy158; clear hy158
   obtain rfl := Option.some.inj H
   have q13 : (x3_1 : Int) ≤ ((l0.length : Int) : Int) := uO
   obtain ⟨i013, hi013, _, hsz13, _⟩ := info_parts info37
   have hcut13 := cut_to (P := Try.prog) 80 37 .i64 Try.underlying80 hi013 Ao2 l0.length co2 x3_1 uO q13 (Kd.R_reads' HO_0.out).2.1
   have hr13 := Kd.R_take (m := (x3_1 : Int).toNat) HO_0.out (by omega)
   have hy13 : y158.length = (x3_1 : Int).toNat := (by rw [Ny158.out, List.length_take]; omega)
   rw [← Ny158.out] at hr13
   rw [← hy13] at hr13 hcut13
   clear hy13 hi013 hsz13 HO_0; have HO160 := Aside0.mk hr13; clear hr13
   replace q13 := eq_true q13
   go_wp2
   go_ret
   exact ⟨_, uF, uR HO160.out, uB, by repeat (first | (with_reducible first | exact HK.out | apply Kept.alloc | apply Kept.drewN | apply Kept.drew) | exact HK.out)⟩
end Go.Proofs.Ytanmfddlncdncab.F
end
section
namespace Go.Proofs.Ytanmfddlncdncab.F
open Go.RowKit Go.Deep Go.ChangeShapes Go.Proofs.YtanmfddlncdncabW.PrintWords
set_option linter.unusedSimpArgs false
set_option linter.unusedVariables false
def Opens {α : Type} (P : Program) (t : TypeId) (d : Kd α) (ok : α → Prop) : Prop :=
  ∀ {H : Type} (enc : TypeId × Value → H) (w : World) (held : Bool) (fuel : Nat) (cs : List Value) (x : DataW H × List MemPlace), DataW.trod enc P w 0 (fun _ => true) held fuel t cs = some x → ∃ a : α, d.K w a cs ∧ ok a
theorem Opens.int {P : Program} {t : TypeId} {k : IntKind} (ht : P.underlying t = some (.int k)) : Opens P t (Kd.int k) (fun n => (Lit.int k n).wf = true) := by
  intro H enc w held fuel cs x h
  obtain ⟨n, rfl, _, hw⟩ := DataW.trod_int ht h
  exact ⟨n, rfl, hw⟩
theorem choose_list {α : Type} {n : Nat} {p : Nat → α → Prop} (h : ∀ i, i < n → ∃ x, p i x) : ∃ l : List α, l.length = n ∧ ∀ i x, l[i]? = some x → p i x := by
  induction n with
  | zero => exact ⟨[], rfl, fun i x hx => by simp at hx⟩
  | succ n ih =>
    obtain ⟨l, hl, hp⟩ := ih (fun i hi => h i (by omega))
    obtain ⟨x, hx⟩ := h n (by omega)
    refine ⟨l ++ [x], by simp [hl], fun i y hy => ?_⟩
    rcases Nat.lt_or_ge i l.length with hi | hi
    · rw [List.getElem?_append_left hi] at hy
      exact hp i y hy
    · rw [List.getElem?_append_right hi] at hy
      have h0 : i - l.length = 0 := by
        rcases Nat.eq_zero_or_pos (i - l.length) with h0 | h0
        · exact h0
        · rw [List.getElem?_eq_none (by simp; omega)] at hy; cases hy
      rw [h0] at hy
      obtain rfl : x = y := by simpa using hy
      obtain rfl : i = n := by omega
      exact hx
theorem Opens.slice {α : Type} {P : Program} {t e : TypeId} {d : Kd α} {ok : α → Prop} (ht : P.underlying t = some (.slice e)) (hs : P.cellsOf e = d.sz) (hd : Opens P e d ok) : Opens P t (Kd.slice e d) (fun xs => xs.length ≤ maxLen ∧ ∀ x ∈ xs, ok x) := by
  intro H enc w held fuel cs x h
  rcases open_slice ht h with ⟨rfl, _⟩ | ⟨a, len, cap, m, n, D, Pl, rfl, _, hlc, hcm, hm, _, hel⟩
  · exact ⟨[], ⟨none, 0, rfl, Nat.le_refl _, Kd.C_nil d w⟩, Nat.zero_le _, fun x hx => by cases hx⟩
  · have hlm : len ≤ m := by simp at hm; omega
    have h1 : ∀ i, i < len → ∃ y : α, (∃ c, c.length = d.sz ∧ d.K w y c ∧ ∀ j u, c[j]? = some u → w.cell? (a.add (i * d.sz + j)) = some u) ∧ ok y := by
      intro i hi
      obtain ⟨cs', hc, htr⟩ := hel i (by omega)
      obtain ⟨y, hK, hok⟩ := hd enc w held n cs' _ htr
      obtain ⟨_, hl, hcell⟩ := World.cells?_some hc
      refine ⟨y, ⟨cs', by rw [hl, hs], hK, fun j u hu => ?_⟩, hok⟩
      have hj : j < P.cellsOf e := by have := (List.getElem?_eq_some_iff.1 hu).1; omega
      have := hcell j hj
      rw [Go.Deep.add_add, hs, hu] at this
      exact this
    obtain ⟨xs, hxl, hxp⟩ := choose_list h1
    have hml : len ≤ maxLen := Nat.le_trans hlc hcm
    refine ⟨xs, ⟨some a, cap, by rw [hxl], by omega, ⟨rfl, ?_, fun hp => ⟨a, rfl, fun j p hj => (hxp j p hj).1⟩⟩⟩, by omega, fun x hx => ?_⟩
    · unfold maxLen at hml; omega
    · obtain ⟨i, hi⟩ := List.getElem?_of_mem hx
      exact (hxp i x hi).2
theorem Opens.field {α : Type} {H : Type} {enc : TypeId × Value → H} {P : Program} {w : World} {held : Bool} {fuel : Nat} {t : TypeId} {cs : List Value} {x : DataW H × List MemPlace} {fs : Array Field} (ht : P.underlying t = some (.struct fs)) (h : DataW.trod enc P w 0 (fun _ => true) held fuel t cs = some x) {d : Kd α} {ok : α → Prop} (i : Nat) (f : Field) (hf : fs[i]? = some f) (hd : Opens P f.type d ok) :
    ∃ a : α, d.K w a ((cs.drop f.offset).take (P.cellsOf f.type)) ∧ ok a := by
  obtain ⟨xs, n, _, _, _, hl, hx⟩ := DataW.trod_struct ht h
  have h1 := hx i f hf
  have hi : i < fs.size := by
    rcases Nat.lt_or_ge i fs.size with h2 | h2
    · exact h2
    · rw [Array.getElem?_eq_none h2] at hf; cases hf
  rw [List.getElem?_eq_getElem (by omega)] at h1
  exact hd enc w held n _ _ h1
theorem Opens.elem {α : Type} {H : Type} {enc : TypeId × Value → H} {P : Program} {w : World} {held : Bool} {fuel : Nat} {t e : TypeId} {cs : List Value} {x : DataW H × List MemPlace} {n : Nat} (ht : P.underlying t = some (.array n e)) (h : DataW.trod enc P w 0 (fun _ => true) held fuel t cs = some x) {d : Kd α} {ok : α → Prop} (i : Nat) (hi : i < n) (hd : Opens P e d ok) :
    ∃ a : α, d.K w a ((cs.drop (i * P.cellsOf e)).take (P.cellsOf e)) ∧ ok a := by
  obtain ⟨xs, m, _, _, _, hl, hx⟩ := DataW.trod_array ht h
  have h1 := hx i hi
  rw [List.getElem?_eq_getElem (by omega)] at h1
  exact hd enc w held m _ _ h1
theorem Opens.struct_len {H : Type} {enc : TypeId × Value → H} {P : Program} {w : World} {held : Bool} {fuel : Nat} {t : TypeId} {cs : List Value} {x : DataW H × List MemPlace} {fs : Array Field} (ht : P.underlying t = some (.struct fs)) (h : DataW.trod enc P w 0 (fun _ => true) held fuel t cs = some x) : cs.length = P.cellsOf t := by
  obtain ⟨xs, n, _, _, hl, _⟩ := DataW.trod_struct ht h
  exact hl
theorem Opens.struct7 {α1 α2 α3 α4 α5 α6 α7 : Type} {P : Program} {t : TypeId} {d1 : Kd α1} {d2 : Kd α2} {d3 : Kd α3} {d4 : Kd α4} {d5 : Kd α5} {d6 : Kd α6} {d7 : Kd α7} {ok1 : α1 → Prop} {ok2 : α2 → Prop} {ok3 : α3 → Prop} {ok4 : α4 → Prop} {ok5 : α5 → Prop} {ok6 : α6 → Prop} {ok7 : α7 → Prop} {f1 f2 f3 f4 f5 f6 f7 : Field} (ht : P.underlying t = some (.struct #[f1, f2, f3, f4, f5, f6, f7])) (hc : P.cellsOf t = 7) (o1 : f1.offset = 0) (n1 : P.cellsOf f1.type = 1) (o2 : f2.offset = 1) (n2 : P.cellsOf f2.type = 1) (o3 : f3.offset = 2) (n3 : P.cellsOf f3.type = 1) (o4 : f4.offset = 3) (n4 : P.cellsOf f4.type = 1) (o5 : f5.offset = 4) (n5 : P.cellsOf f5.type = 1) (o6 : f6.offset = 5) (n6 : P.cellsOf f6.type = 1) (o7 : f7.offset = 6) (n7 : P.cellsOf f7.type = 1) (hd1 : Opens P f1.type d1 ok1) (hd2 : Opens P f2.type d2 ok2) (hd3 : Opens P f3.type d3 ok3) (hd4 : Opens P f4.type d4 ok4) (hd5 : Opens P f5.type d5 ok5) (hd6 : Opens P f6.type d6 ok6) (hd7 : Opens P f7.type d7 ok7) : Opens P t (Kd.pair d1 (Kd.pair d2 (Kd.pair d3 (Kd.pair d4 (Kd.pair d5 (Kd.pair d6 d7)))))) (fun p => ok1 p.1 ∧ ok2 p.2.1 ∧ ok3 p.2.2.1 ∧ ok4 p.2.2.2.1 ∧ ok5 p.2.2.2.2.1 ∧ ok6 p.2.2.2.2.2.1 ∧ ok7 p.2.2.2.2.2.2) := by
  intro H enc w held fuel cs x h
  have hl := Opens.struct_len ht h
  rw [hc] at hl
  obtain ⟨x1, hx1, ox1⟩ := Opens.field ht h 0 f1 rfl hd1
  rw [o1, n1] at hx1
  obtain ⟨x2, hx2, ox2⟩ := Opens.field ht h 1 f2 rfl hd2
  rw [o2, n2] at hx2
  obtain ⟨x3, hx3, ox3⟩ := Opens.field ht h 2 f3 rfl hd3
  rw [o3, n3] at hx3
  obtain ⟨x4, hx4, ox4⟩ := Opens.field ht h 3 f4 rfl hd4
  rw [o4, n4] at hx4
  obtain ⟨x5, hx5, ox5⟩ := Opens.field ht h 4 f5 rfl hd5
  rw [o5, n5] at hx5
  obtain ⟨x6, hx6, ox6⟩ := Opens.field ht h 5 f6 rfl hd6
  rw [o6, n6] at hx6
  obtain ⟨x7, hx7, ox7⟩ := Opens.field ht h 6 f7 rfl hd7
  rw [o7, n7] at hx7
  match cs, hl with
  | [c1, c2, c3, c4, c5, c6, c7], _ => exact ⟨(x1, (x2, (x3, (x4, (x5, (x6, x7)))))), ⟨[c1], [c2, c3, c4, c5, c6, c7], rfl, hx1, ⟨[c2], [c3, c4, c5, c6, c7], rfl, hx2, ⟨[c3], [c4, c5, c6, c7], rfl, hx3, ⟨[c4], [c5, c6, c7], rfl, hx4, ⟨[c5], [c6, c7], rfl, hx5, ⟨[c6], [c7], rfl, hx6, hx7⟩⟩⟩⟩⟩⟩, ox1, ox2, ox3, ox4, ox5, ox6, ox7⟩
end Go.Proofs.Ytanmfddlncdncab.F
end
section
namespace Go.Proofs.Ytanmfddlncdncab.F
open Go.RowKit Go.Proofs.YtanmfddlncdncabW.PrintWords Go.Proofs.YtanmfddlncdncabW.PrintLast Go.Proofs.YtanmfddlncdncabW.PrintMore
set_option linter.unusedVariables false
set_option linter.unusedSimpArgs false
def wire_nats.one (l : List Int) : Option Bool := (nat_Right.f l).bind fun b => some (b && decide ((l.length : Int) ≤ 4))
def wire_nats.f : List (List Int) → Option Bool
  | [] => some true
  | a :: l => (wire_nats.one a).bind fun b => if b = true then wire_nats.f l else some false
def wire_nats.ix : List (List Int) → Option Nat
  | [] => some 0
  | a :: l => (wire_nats.one a).bind fun b => if b = true then (wire_nats.ix l).map (· + 1) else some 0
theorem wire_nats.ix_of {l : List (List Int)} {r : Bool} (h : wire_nats.f l = some r) : ∃ k, wire_nats.ix l = some k ∧ k ≤ l.length ∧ (r = true ↔ k = l.length) ∧ (∀ j, j < k → wire_nats.one (l.getD j []) = some true) ∧ (k < l.length → wire_nats.one (l.getD k []) = some false) := by
  induction l generalizing r with
  | nil =>
    simp only [wire_nats.f, Option.some.injEq] at h
    exact ⟨0, rfl, Nat.le_refl _, by simp [← h], fun j hj => absurd hj (Nat.not_lt_zero _), fun hj => absurd hj (Nat.not_lt_zero _)⟩
  | cons a l ih =>
    simp only [wire_nats.f] at h
    cases hb : wire_nats.one a with
    | none => rw [hb] at h; simp at h
    | some b =>
      rw [hb] at h
      simp only [Option.bind_some] at h
      cases b with
      | true =>
        simp only [if_true] at h
        obtain ⟨k, hk, hle, hr, hj, hl⟩ := ih h
        refine ⟨k + 1, by simp [wire_nats.ix, hb, hk], by simp; omega, by simp [hr], ?_, ?_⟩
        · intro j hjk
          cases j with
          | zero => simpa using hb
          | succ j => simpa using hj j (by omega)
        · intro hlt
          simpa using hl (by simpa using hlt)
      | false =>
        simp at h
        refine ⟨0, by simp [wire_nats.ix, hb], Nat.zero_le _, ?_, fun j hj => absurd hj (Nat.not_lt_zero _), fun _ => by simpa using hb⟩
        simp [← h]
set_option maxHeartbeats 4000000 in
theorem wire_nats.closure (A0 : Option Addr) (c0 : Nat) (l0 : List Int) (r : Bool) (w : World) (hr0 : Kd.C (Kd.int .u64) w A0 l0.length l0) (hc0 : l0.length ≤ c0) (h : wire_nats.one l0 = some r) :
    Calls Try.prog 39 #[.slice A0 l0.length c0] w fun e w' => e = .returned (.bool (!r)) ∧ Drawn0 w w' := by
  unfold wire_nats.one at h
  obtain ⟨b, hb, h⟩ := Option.bind_eq_some_iff.mp h
  have HC := Aside0.mk (nat_Right.calls A0 c0 l0 b w hr0 hc0 hb)
  clear hr0 hc0 hb
  obtain rfl := Option.some.inj h
  clear h
  cases b
  all_goals
    go_enter Try.func39, Try.ntmps39
    go_wp2_with (go_at_call 40; refine HC.out.mono ?_; rintro e w' ⟨rfl, hd⟩; have HD := Aside0.mk hd; clear hd)
    go_ret
    exact ⟨by first | rfl | (simp; done) | (by_cases h4 : (l0.length : Int) ≤ 4 <;> simp [h4] <;> omega), HD.out⟩
set_option maxHeartbeats 8000000 in
set_option maxRecDepth 100000 in
theorem wire_nats.index (A0 : Option Addr) (c0 : Nat) (l0 : List (List Int)) (r : Bool) (w : World) (hr0 : Kd.C (Kd.slice 37 (Kd.int .u64)) w A0 l0.length l0) (hc0 : l0.length ≤ c0) (h : wire_nats.f l0 = some r) :
    Calls Try.prog 62 #[.slice A0 l0.length c0, .func (.func 39) #[] #[]] w fun e w' => (∃ k : Int, e = .returned (.int .i64 k) ∧ decide (0 ≤ k) = !r) ∧ Drawn0 w w' := by
  have HR0 := Aside0.mk hr0
  obtain ⟨k, hk, hle, hr, hj, hl⟩ := wire_nats.ix_of h
  have hbig : l0.length ≤ 9223372036854775807 := hr0.2.1
  have HJ := Aside0.mk hj
  have HL := Aside0.mk hl
  have HRR := Aside0.mk hr
  clear hr0 hc0 hj hl hk h hr
  go_enter Try.func62, Try.ntmps62
  go_wp2
  go_loopg [5, 8] l0.length (fun gg _ s8 wr => ∃ kk : Nat, kk ≤ k ∧ l0.length - kk ≤ gg ∧ s8 = .int .i64 kk ∧ Aside0 (Drawn0 w wr))
  case atStart => exact ⟨0, Nat.zero_le _, by omega, rfl, ⟨Drawn0.refl _⟩⟩
  case round =>
    obtain ⟨kk, hkk, hg, rfl, D⟩ := hrel
    by_cases hlt : kk < l0.length
    · have hltz : (kk : Int) < (l0.length : Int) := by omega
      have hC1 : Kd.C (Kd.slice 37 (Kd.int .u64)) wr A0 l0.length l0 := Kd.C_below HR0.out D.out.below
      have h0k : (0 : Int) ≤ (kk : Int) := Int.natCast_nonneg kk
      obtain ⟨ad, c, hA, _, hK, hc⟩ := Kd.C_get hC1 ([] : List Int) (kk : Int) h0k hltz
      obtain ⟨A1, c1, rfl, hl1, hi1⟩ := hK
      subst hA
      have hcell := hc 0 _ rfl
      rw [Nat.add_zero, show (Kd.slice 37 (Kd.int .u64)).sz = 1 from rfl, Nat.mul_one] at hcell
      simp only [Go.IntWalk.toNatUp] at hcell hl1 hi1
      have HX := HJ.out kk
      have HY := HL.out
      clear hc hC1
      generalize hx : l0.getD kk [] = x at hcell hl1 hi1 HX
      by_cases hlast : kk < k
      · have hcall := Aside0.mk (wire_nats.closure A1 c1 x true wr hi1 hl1 (HX hlast))
        have D2 := D
        clear D hi1 HX HY hx
        go_wp2_with (go_at_call 39; refine hcall.out.mono ?_; rintro e w' ⟨rfl, ⟨q, rfl⟩⟩)
        go_roundg (l0.length - (kk + 1))
        case measure => omega
        case rel => exact ⟨kk + 1, by omega, by omega, by go_num, ⟨D2.out.step _⟩⟩
      · have hkk' : kk = k := by omega
        subst hkk'
        have HZ := HY hlt
        rw [hx] at HZ
        have hcall := Aside0.mk (wire_nats.closure A1 c1 x false wr hi1 hl1 HZ)
        have hr : r = false := by
          cases r with
          | false => rfl
          | true => have := HRR.out.1 rfl; omega
        have HR := Aside0.mk hr
        have D2 := D
        clear D hi1 HX HY hx HZ hr
        go_wp2_with (go_at_call 39; refine hcall.out.mono ?_; rintro e w' ⟨rfl, ⟨q, rfl⟩⟩)
        go_ret
        exact ⟨⟨_, rfl, by rw [HR.out]; simp⟩, D2.out.step _⟩
    · have hltz : ¬ (kk : Int) < (l0.length : Int) := by omega
      have hr : r = true := HRR.out.2 (by omega)
      have HR := Aside0.mk hr
      clear hr
      go_wp2
      go_ret
      exact ⟨⟨_, rfl, by rw [HR.out]; simp⟩, D.out⟩
set_option maxHeartbeats 8000000 in
set_option maxRecDepth 100000 in
theorem wire_nats.contains (A0 : Option Addr) (c0 : Nat) (l0 : List (List Int)) (r : Bool) (w : World) (hr0 : Kd.C (Kd.slice 37 (Kd.int .u64)) w A0 l0.length l0) (hc0 : l0.length ≤ c0) (h : wire_nats.f l0 = some r) :
    Calls Try.prog 57 #[.slice A0 l0.length c0, .func (.func 39) #[] #[]] w fun e w' => e = .returned (.bool (!r)) ∧ Drawn0 w w' := by
  have hcall := Aside0.mk (wire_nats.index A0 c0 l0 r w hr0 hc0 h)
  clear hr0 hc0 h
  go_enter Try.func57, Try.ntmps57
  go_wp2_with (go_at_call 62; refine hcall.out.mono ?_; rintro e w' ⟨⟨k, rfl, hk⟩, hd⟩; have HK := Aside0.mk hk; have HD := Aside0.mk hd; clear hk hd)
  go_ret
  exact ⟨by rw [← HK.out]; rfl, HD.out⟩
def wire_ints.f (l : List Int) : Bool := l.all fun x => decide (0 ≤ x) && decide (x ≤ 1073741824)
theorem wire_ints.odd (x : Int) : wire_odd.f x = some (!(decide (0 ≤ x) && decide (x ≤ 1073741824))) := by
  unfold wire_odd.f
  by_cases h : x < 0
  · rw [if_pos h, decide_eq_false (show ¬ 0 ≤ x by omega)]
    rfl
  · rw [if_neg h, decide_eq_true (show 0 ≤ x by omega)]
    by_cases h2 : x ≤ 1073741824
    · rw [decide_eq_true h2, decide_eq_false (show ¬ x > 1073741824 by omega)]
      rfl
    · rw [decide_eq_false h2, decide_eq_true (show x > 1073741824 by omega)]
      rfl
theorem wire_ints.ix_of {l : List Int} {r : Bool} (h : wire_ints.f l = r) : ∃ k, k ≤ l.length ∧ (r = true ↔ k = l.length) ∧ (∀ j, j < k → wire_odd.f (l.getD j 0) = some false) ∧ (k < l.length → wire_odd.f (l.getD k 0) = some true) := by
  subst h
  induction l with
  | nil => exact ⟨0, Nat.le_refl _, by simp [wire_ints.f], fun j hj => absurd hj (Nat.not_lt_zero _), fun hj => absurd hj (Nat.not_lt_zero _)⟩
  | cons a l ih =>
    have e : wire_ints.f (a :: l) = ((decide (0 ≤ a) && decide (a ≤ 1073741824)) && wire_ints.f l) := by simp [wire_ints.f]
    have ho := wire_ints.odd a
    cases hb : (decide (0 ≤ a) && decide (a ≤ 1073741824)) with
    | true =>
      rw [hb] at ho
      obtain ⟨k, hle, hr, hj, hl⟩ := ih
      refine ⟨k + 1, by simp; omega, ?_, ?_, ?_⟩
      · rw [e, hb, Bool.true_and, hr]
        simp
      · intro j hjk
        cases j with
        | zero => simpa using ho
        | succ j => simpa using hj j (by omega)
      · intro hlt
        simpa using hl (by simpa using hlt)
    | false =>
      rw [hb] at ho
      refine ⟨0, Nat.zero_le _, ?_, fun j hj => absurd hj (Nat.not_lt_zero _), fun _ => by simpa using ho⟩
      rw [e, hb]
      simp
set_option maxHeartbeats 8000000 in
set_option maxRecDepth 100000 in
theorem wire_ints.index (A0 : Option Addr) (c0 : Nat) (l0 : List Int) (r : Bool) (w : World) (hr0 : Kd.C (Kd.int .i64) w A0 l0.length l0) (hc0 : l0.length ≤ c0) (h : wire_ints.f l0 = r) :
    Calls Try.prog 61 #[.slice A0 l0.length c0, .func (.func 38) #[] #[]] w fun e w' => (∃ k : Int, e = .returned (.int .i64 k) ∧ decide (0 ≤ k) = !r) ∧ Drawn0 w w' := by
  have HR0 := Aside0.mk hr0
  obtain ⟨k, hle, hr, hj, hl⟩ := wire_ints.ix_of h
  have hbig : l0.length ≤ 9223372036854775807 := hr0.2.1
  have HJ := Aside0.mk hj
  have HL := Aside0.mk hl
  have HRR := Aside0.mk hr
  clear hr0 hc0 hj hl h hr
  go_enter Try.func61, Try.ntmps61
  go_wp2
  go_loopg [5, 8] l0.length (fun gg _ s8 wr => ∃ kk : Nat, kk ≤ k ∧ l0.length - kk ≤ gg ∧ s8 = .int .i64 kk ∧ Aside0 (Drawn0 w wr))
  case atStart => exact ⟨0, Nat.zero_le _, by omega, rfl, ⟨Drawn0.refl _⟩⟩
  case round =>
    obtain ⟨kk, hkk, hg, rfl, D⟩ := hrel
    by_cases hlt : kk < l0.length
    · have hltz : (kk : Int) < (l0.length : Int) := by omega
      have hC1 : Kd.C (Kd.int .i64) wr A0 l0.length l0 := Kd.C_below HR0.out D.out.below
      have h0k : (0 : Int) ≤ (kk : Int) := Int.natCast_nonneg kk
      obtain ⟨ad, hA, hcell⟩ := Kd.at_int hC1 (kk : Int) h0k hltz
      subst hA
      simp only [Go.IntWalk.toNatUp] at hcell
      rw [show rd l0 (kk : Int) = l0.getD kk 0 from rfl] at hcell
      have HX := HJ.out kk
      have HY := HL.out
      clear hC1
      generalize hx : l0.getD kk 0 = x at hcell HX
      by_cases hlast : kk < k
      · have hcall := Aside0.mk (wire_odd.calls x false wr (HX hlast))
        have D2 := D
        clear D HX HY hx
        go_wp2_with (go_at_call 38; refine hcall.out.mono ?_; rintro e w' ⟨rfl, ⟨q, rfl⟩⟩)
        go_roundg (l0.length - (kk + 1))
        case measure => omega
        case rel => exact ⟨kk + 1, by omega, by omega, by go_num, ⟨D2.out.step _⟩⟩
      · have hkk' : kk = k := by omega
        subst hkk'
        have HZ := HY hlt
        rw [hx] at HZ
        have hcall := Aside0.mk (wire_odd.calls x true wr HZ)
        have hr : r = false := by
          cases r with
          | false => rfl
          | true => have := HRR.out.1 rfl; omega
        have HR := Aside0.mk hr
        have D2 := D
        clear D HX HY hx HZ hr
        go_wp2_with (go_at_call 38; refine hcall.out.mono ?_; rintro e w' ⟨rfl, ⟨q, rfl⟩⟩)
        go_ret
        exact ⟨⟨_, rfl, by rw [HR.out]; simp⟩, D2.out.step _⟩
    · have hltz : ¬ (kk : Int) < (l0.length : Int) := by omega
      have hr : r = true := HRR.out.2 (by omega)
      have HR := Aside0.mk hr
      clear hr
      go_wp2
      go_ret
      exact ⟨⟨_, rfl, by rw [HR.out]; simp⟩, D.out⟩
set_option maxHeartbeats 8000000 in
set_option maxRecDepth 100000 in
theorem wire_ints.contains (A0 : Option Addr) (c0 : Nat) (l0 : List Int) (r : Bool) (w : World) (hr0 : Kd.C (Kd.int .i64) w A0 l0.length l0) (hc0 : l0.length ≤ c0) (h : wire_ints.f l0 = r) :
    Calls Try.prog 56 #[.slice A0 l0.length c0, .func (.func 38) #[] #[]] w fun e w' => e = .returned (.bool (!r)) ∧ Drawn0 w w' := by
  have hcall := Aside0.mk (wire_ints.index A0 c0 l0 r w hr0 hc0 h)
  clear hr0 hc0 h
  go_enter Try.func56, Try.ntmps56
  go_wp2_with (go_at_call 61; refine hcall.out.mono ?_; rintro e w' ⟨⟨k, rfl, hk⟩, hd⟩; have HK := Aside0.mk hk; have HD := Aside0.mk hd; clear hk hd)
  go_ret
  exact ⟨by rw [← HK.out]; rfl, HD.out⟩
set_option maxHeartbeats 8000000 in
set_option maxRecDepth 100000 in
theorem wire_list.ints (A0 : Option Addr) (c0 : Nat) (l0 : List Int) (may r : Bool) (w : World) (hr0 : Kd.C (Kd.int .i64) w A0 l0.length l0) (hc0 : l0.length ≤ c0) (h : (decide (l0.length ≤ 16384) && (may || decide (l0.length = 0)) && wire_ints.f l0) = r) :
    Calls Try.prog 41 #[.slice A0 l0.length c0, .bool may, .func (.func 38) #[] #[]] w fun e w' => e = .returned (.bool r) ∧ Drawn0 w w' := by
  have hcall := Aside0.mk (fun q => wire_ints.contains A0 c0 l0 (wire_ints.f l0) (w.drewN q) (Kd.C_below hr0 (Drawn0.below ⟨⟨q, rfl⟩⟩)) hc0 rfl)
  clear hr0 hc0
  by_cases h1 : l0.length ≤ 16384
  · have z1 : decide ((l0.length : Int) ≤ 16384) = true := decide_eq_true (by omega)
    rw [decide_eq_true h1] at h
    cases may with
    | true =>
      have HH := Aside0.mk h
      clear h h1
      go_enter Try.func41, Try.ntmps41
      go_wp2_with (go_at_call 56; refine (hcall.out 0).mono ?_; rintro e w' ⟨rfl, hd⟩; have HD := Aside0.mk hd; clear hd)
      go_ret
      exact ⟨by rw [← HH.out]; simp, HD.out⟩
    | false =>
      by_cases h2 : l0.length = 0
      · have z2 : ((l0.length : Int) == 0) = true := beq_iff_eq.mpr (by omega)
        rw [decide_eq_true h2] at h
        have HH := Aside0.mk h
        clear h h1 h2
        go_enter Try.func41, Try.ntmps41
        go_wp2_with (go_at_call 56; refine (hcall.out 0).mono ?_; rintro e w' ⟨rfl, hd⟩; have HD := Aside0.mk hd; clear hd)
        go_ret
        exact ⟨by rw [← HH.out]; simp, HD.out⟩
      · have z2 : ((l0.length : Int) == 0) = false := beq_eq_false_iff_ne.mpr (by omega)
        rw [decide_eq_false h2] at h
        have HH := Aside0.mk h
        clear h h1 h2
        go_enter Try.func41, Try.ntmps41
        go_wp2
        go_ret
        exact ⟨by rw [← HH.out]; simp, Drawn0.refl _⟩
  · have z1 : decide ((l0.length : Int) ≤ 16384) = false := decide_eq_false (by omega)
    rw [decide_eq_false h1] at h
    have HH := Aside0.mk h
    clear h h1
    go_enter Try.func41, Try.ntmps41
    go_wp2
    go_ret
    exact ⟨by rw [← HH.out]; simp, Drawn0.refl _⟩
set_option maxHeartbeats 8000000 in
set_option maxRecDepth 100000 in
theorem wire_list.nats (A0 : Option Addr) (c0 : Nat) (l0 : List (List Int)) (may b r : Bool) (w : World) (hr0 : Kd.C (Kd.slice 37 (Kd.int .u64)) w A0 l0.length l0) (hc0 : l0.length ≤ c0) (h : (decide (l0.length ≤ 16384) && (may || decide (l0.length = 0)) && b) = r) (hb : wire_nats.f l0 = some b) :
    Calls Try.prog 42 #[.slice A0 l0.length c0, .bool may, .func (.func 39) #[] #[]] w fun e w' => e = .returned (.bool r) ∧ Drawn0 w w' := by
  have hcall := Aside0.mk (fun q => wire_nats.contains A0 c0 l0 b (w.drewN q) (Kd.C_below hr0 (Drawn0.below ⟨⟨q, rfl⟩⟩)) hc0 hb)
  clear hr0 hc0 hb
  by_cases h1 : l0.length ≤ 16384
  · have z1 : decide ((l0.length : Int) ≤ 16384) = true := decide_eq_true (by omega)
    rw [decide_eq_true h1] at h
    cases may with
    | true =>
      have HH := Aside0.mk h
      clear h h1
      go_enter Try.func42, Try.ntmps42
      go_wp2_with (go_at_call 57; refine (hcall.out 0).mono ?_; rintro e w' ⟨rfl, hd⟩; have HD := Aside0.mk hd; clear hd)
      go_ret
      exact ⟨by rw [← HH.out]; simp, HD.out⟩
    | false =>
      by_cases h2 : l0.length = 0
      · have z2 : ((l0.length : Int) == 0) = true := beq_iff_eq.mpr (by omega)
        rw [decide_eq_true h2] at h
        have HH := Aside0.mk h
        clear h h1 h2
        go_enter Try.func42, Try.ntmps42
        go_wp2_with (go_at_call 57; refine (hcall.out 0).mono ?_; rintro e w' ⟨rfl, hd⟩; have HD := Aside0.mk hd; clear hd)
        go_ret
        exact ⟨by rw [← HH.out]; simp, HD.out⟩
      · have z2 : ((l0.length : Int) == 0) = false := beq_eq_false_iff_ne.mpr (by omega)
        rw [decide_eq_false h2] at h
        have HH := Aside0.mk h
        clear h h1 h2
        go_enter Try.func42, Try.ntmps42
        go_wp2
        go_ret
        exact ⟨by rw [← HH.out]; simp, Drawn0.refl _⟩
  · have z1 : decide ((l0.length : Int) ≤ 16384) = false := decide_eq_false (by omega)
    rw [decide_eq_false h1] at h
    have HH := Aside0.mk h
    clear h h1
    go_enter Try.func42, Try.ntmps42
    go_wp2
    go_ret
    exact ⟨by rw [← HH.out]; simp, Drawn0.refl _⟩
def wire_kindOf : Nat → Int × Bool × Bool × Bool
  | 1 => (2, false, false, true)
  | 2 => (2, false, false, false)
  | 3 => (1, false, false, true)
  | 4 => (2, false, true, false)
  | 5 => (2, true, false, true)
  | 6 => (2, true, false, false)
  | 7 => (3, false, true, false)
  | 8 => (2, false, false, false)
  | 9 => (3, false, false, false)
  | 10 => (1, false, false, false)
  | 11 => (1, false, false, false)
  | _ => (0, false, false, false)
def wire_cells (p : Int × Bool × Bool × Bool) : List Value := [.int .i64 p.1, .bool p.2.1, .bool p.2.2.1, .bool p.2.2.2]
def wire_tab : Array Value := ((List.range 12).flatMap fun i => wire_cells (wire_kindOf i)).toArray
def wire_zero : Array Value := ((List.range 12).flatMap fun i => wire_cells (wire_kindOf 0)).toArray
theorem wire_tab_at (i : Nat) (hi : i < 12) : wire_tab[i * 4]? = some (.int .i64 (wire_kindOf i).1) ∧ wire_tab[i * 4 + 1]? = some (.bool (wire_kindOf i).2.1) ∧ wire_tab[i * 4 + 2]? = some (.bool (wire_kindOf i).2.2.1) ∧ wire_tab[i * 4 + 3]? = some (.bool (wire_kindOf i).2.2.2) := by
  match i, hi with
  | 0, _ => exact ⟨rfl, rfl, rfl, rfl⟩
  | 1, _ => exact ⟨rfl, rfl, rfl, rfl⟩
  | 2, _ => exact ⟨rfl, rfl, rfl, rfl⟩
  | 3, _ => exact ⟨rfl, rfl, rfl, rfl⟩
  | 4, _ => exact ⟨rfl, rfl, rfl, rfl⟩
  | 5, _ => exact ⟨rfl, rfl, rfl, rfl⟩
  | 6, _ => exact ⟨rfl, rfl, rfl, rfl⟩
  | 7, _ => exact ⟨rfl, rfl, rfl, rfl⟩
  | 8, _ => exact ⟨rfl, rfl, rfl, rfl⟩
  | 9, _ => exact ⟨rfl, rfl, rfl, rfl⟩
  | 10, _ => exact ⟨rfl, rfl, rfl, rfl⟩
  | 11, _ => exact ⟨rfl, rfl, rfl, rfl⟩
  | n + 12, h => omega
set_option maxHeartbeats 8000000 in
set_option maxRecDepth 100000 in
theorem wire_kinds.calls (w : World) :
    Calls Try.prog 37 #[] w fun e w' => e = .returned (.agg wire_tab) ∧ Below w.heap.size w w' := by
  go_enter Try.func37, Try.ntmps37
  go_wp2_with (first
    | ((with_reducible refine gate_dst (N := 0) rfl ?_); refine box_event ?hg (N := 0) ?hd (cs := wire_zero) (t := 71) ?hr ?_; (case hd => rfl); (case hg => rfl); (case hr => kernel_rfl); intro g hg w1 hbox hb; have BK := Aside0.mk hbox; have HB := Aside0.mk hb; have HG := Aside0.mk (show w.heap.size ≤ g from Nat.le_of_eq hg.symm); clear hbox hb hg)
    | ((with_reducible refine gate_dst (N := 12) rfl ?_); refine Kd.event_run (v := .agg wire_tab) (w1 := w1) ?hg ?hr ?_; (case hg => rfl); (case hr => kernel_rfl))
    | ((with_reducible refine gate_store (t := 71) (p := 0) rfl ?_); refine wpList_store_row rfl 71 (.tmp 0) (.tmp 12) rfl g wire_tab rfl rfl 71 wire_zero BK.out (by kernel_rfl) (by kernel_rfl) (by kernel_rfl) ?_; have BK2 := Aside0.mk (setRow_heap w1 g _ wire_tab _ _ BK.out); have HB2 := Aside0.mk (below_setRow HB.out HG.out wire_tab); generalize w1.setRow g wire_tab = w2 at BK2 HB2 ⊢; clear BK HB))
  refine bodyPost_ret (results_cell_row rfl _ _ g 71 wire_tab (0, 0) _ rfl BK2.out Try.underlying71 rfl (by kernel_rfl)) rfl ⟨rfl, HB2.out⟩
def wire_ok (x : Int) : Bool := decide (0 ≤ x) && decide (x ≤ 1073741824)
def wire_okAt (nk a1 a2 a3 : Int) (i : Nat) : Bool := decide ((i : Int) < nk) || ([a1, a2, a3].getD i 0 == 0)
def wire_noughts (nk a1 a2 a3 : Int) : Bool := wire_okAt nk a1 a2 a3 0 && wire_okAt nk a1 a2 a3 1 && wire_okAt nk a1 a2 a3 2
def wire_may (n : Nat) (may ok : Bool) : Bool := decide (n ≤ 16384) && (may || decide (n = 0)) && ok
def wire_incr (l : List Int) : Bool := decide (∀ j, j < l.length → 0 < j → l.getD (j - 1) 0 < l.getD j 0)
def wire_last (a0 a3 : Int) (l4 : List Int) (l6 : List (List Int)) : Bool := if a0 = 1 then decide (l6.length = 1) else if a0 = 5 then decide (l6.length = l4.length) else if a0 = 6 then decide (0 < l4.length) else if a0 = 9 then decide (a3 ≤ 1) else true
def Rd1 (w : World) (A : Option Addr) (c : Nat) (l : List Int) : Prop := Kd.C (Kd.int .i64) w A l.length l ∧ l.length ≤ c
theorem Rd1.below {w w' : World} {A : Option Addr} {c : Nat} {l : List Int} (h : Rd1 w A c l) (hb : Below w.heap.size w w') : Rd1 w' A c l := ⟨Kd.C_below h.1 hb, h.2⟩
theorem Rd1.C {w : World} {A : Option Addr} {c : Nat} {l : List Int} (h : Rd1 w A c l) : Kd.C (Kd.int .i64) w A l.length l := h.1
theorem Rd1.le {w : World} {A : Option Addr} {c : Nat} {l : List Int} (h : Rd1 w A c l) : l.length ≤ c := h.2
theorem wire_one (nk : Int) (ik rk tk : Bool) : (#[Value.int .i64 nk, .bool ik, .bool rk, .bool tk]).all (·.oneCell') = true := by simp [Value.oneCell']
theorem wire_noughts_true {nk a1 a2 a3 : Int} (h : ∀ j, j < 3 → wire_okAt nk a1 a2 a3 j = true) : wire_noughts nk a1 a2 a3 = true := by
  unfold wire_noughts
  rw [h 0 (by omega), h 1 (by omega), h 2 (by omega)]
  rfl
theorem wire_noughts_false {nk a1 a2 a3 : Int} {j : Nat} (hj : j < 3) (h : wire_okAt nk a1 a2 a3 j = false) : wire_noughts nk a1 a2 a3 = false := by
  unfold wire_noughts
  match j, hj with
  | 0, _ => rw [h]; rfl
  | 1, _ => rw [h]; simp
  | 2, _ => rw [h]; simp
theorem wire_info : (Try.prog.info? 70).map (·.size) = some 4 := by kernel_rfl
theorem wire_ret {a b : Bool} (h : a = b) : Ending.returned (.bool a) = .returned (.bool b) := by rw [h]
def wire_Right.g (p : Int × Bool × Bool × Bool) (a0 a1 a2 a3 : Int) (l4 l5 : List Int) (l6 : List (List Int)) : Option Bool :=
  if wire_noughts p.1 a1 a2 a3 = true then (if wire_may l4.length p.2.1 (wire_ints.f l4) = true then (if wire_may l5.length p.2.2.1 (wire_ints.f l5) = true then ((wire_nats.f l6).bind fun b => if wire_may l6.length p.2.2.2 b = true then some (wire_incr l5 && wire_last a0 a3 l4 l6) else some false) else some false) else some false) else some false
def wire_Right.f (a0 a1 a2 a3 : Int) (l4 l5 : List Int) (l6 : List (List Int)) : Option Bool :=
  if 1 ≤ a0 ∧ a0 < 12 ∧ wire_ok a1 = true ∧ wire_ok a2 = true ∧ wire_ok a3 = true then wire_Right.g (wire_kindOf a0.toNat) a0 a1 a2 a3 l4 l5 l6 else some false
theorem wire_incr_of {l : List Int} (h : ∀ j, j < l.length → 0 < j → l.getD (j - 1) 0 < l.getD j 0) : wire_incr l = true := decide_eq_true h
theorem wire_incr_not {l : List Int} {j : Nat} (h1 : j < l.length) (h2 : 0 < j) (h : l.getD j 0 ≤ l.getD (j - 1) 0) : wire_incr l = false := decide_eq_false (fun H => by have := H j h1 h2; omega)
set_option maxHeartbeats 8000000 in
set_option maxRecDepth 100000 in
theorem wire_Right.bad (a0 a1 a2 a3 : Int) (A4 : Option Addr) (c4 : Nat) (l4 : List Int) (A5 : Option Addr) (c5 : Nat) (l5 : List Int) (A6 : Option Addr) (c6 : Nat) (l6 : List (List Int)) (w : World) (h : ¬ (1 ≤ a0 ∧ a0 < 12 ∧ wire_ok a1 = true ∧ wire_ok a2 = true ∧ wire_ok a3 = true)) :
    Calls Try.prog 12 #[.agg #[.int .i64 a0, .int .i64 a1, .int .i64 a2, .int .i64 a3, .slice A4 l4.length c4, .slice A5 l5.length c5, .slice A6 l6.length c6]] w fun e w' => e = .returned (.bool false) ∧ Below w.heap.size w w' := by
  have key : decide (a0 < 1) = true ∨ decide (a0 < 1) = false ∧ (decide ((12 : Int) ≤ a0) = true ∨ decide ((12 : Int) ≤ a0) = false ∧ (wire_odd.f a1 = some true ∨ wire_odd.f a1 = some false ∧ (wire_odd.f a2 = some true ∨ wire_odd.f a2 = some false ∧ wire_odd.f a3 = some true))) := by
    rw [wire_ints.odd, wire_ints.odd, wire_ints.odd]
    change ¬ (1 ≤ a0 ∧ a0 < 12 ∧ (decide (0 ≤ a1) && decide (a1 ≤ 1073741824)) = true ∧ (decide (0 ≤ a2) && decide (a2 ≤ 1073741824)) = true ∧ (decide (0 ≤ a3) && decide (a3 ≤ 1073741824)) = true) at h
    by_cases h1 : a0 < 1
    · exact .inl (decide_eq_true h1)
    · refine .inr ⟨decide_eq_false h1, ?_⟩
      by_cases h2 : 12 ≤ a0
      · exact .inl (decide_eq_true h2)
      · refine .inr ⟨decide_eq_false h2, ?_⟩
        cases g1 : (decide (0 ≤ a1) && decide (a1 ≤ 1073741824)) with
        | false => exact .inl rfl
        | true =>
          refine .inr ⟨rfl, ?_⟩
          cases g2 : (decide (0 ≤ a2) && decide (a2 ≤ 1073741824)) with
          | false => exact .inl rfl
          | true =>
            refine .inr ⟨rfl, ?_⟩
            cases g3 : (decide (0 ≤ a3) && decide (a3 ≤ 1073741824)) with
            | false => rfl
            | true => exact absurd ⟨by omega, by omega, g1, g2, g3⟩ h
  have HB := Aside0.mk (Below.refl w.heap.size w)
  clear h
  rcases key with h1 | ⟨h1, h2 | ⟨h2, h3 | ⟨h3, h4 | ⟨h4, h5⟩⟩⟩⟩
  all_goals
    go_enter Try.func12, Try.ntmps12
    go_wp2_with (first
      | ((with_reducible refine gate_dst (N := 1) rfl ?_); refine box_event ?hg (N := 1) ?hd (cs := #[.int .i64 a0, .int .i64 a1, .int .i64 a2, .int .i64 a3, .slice A4 l4.length c4, .slice A5 l5.length c5, .slice A6 l6.length c6]) (t := 25) ?hr ?_; (case hd => rfl); (case hg => rfl); (case hr => first | (go_simp; done) | (go_simp; rfl)); intro gm hg w1 hbox hb; have BM := Aside0.mk hbox; have HB1 := Aside0.mk (below_step HB.out hb); have HGM := Aside0.mk (show w.heap.size ≤ gm from hg ▸ below_size HB.out); clear HB hb hbox hg)
      | (go_at_call 37; refine (wire_kinds.calls _).mono ?_; rintro e w2 ⟨rfl, hb⟩; have BM2 := Aside0.mk (blk_below BM.out hb); have HB2 := Aside0.mk (below_step HB1.out hb); clear BM HB1 hb)
      | ((with_reducible refine gate_dst (N := 3) rfl ?_); refine box_event ?hg (N := 3) ?hd (cs := wire_zero) (t := 71) ?hr ?_; (case hd => rfl); (case hg => rfl); (case hr => kernel_rfl); intro gk hg w3 hbox hb; have BK := Aside0.mk hbox; have BM3 := Aside0.mk (blk_below BM2.out hb); have HB3 := Aside0.mk (below_step HB2.out hb); have HGK := Aside0.mk (show w.heap.size ≤ gk from hg ▸ below_size HB2.out); have HKM := Aside0.mk (show gm ≠ gk from by have := blk_lt BM2.out; omega); clear HB2 BM2 hb hbox hg)
      | ((with_reducible refine gate_store (t := 71) (p := 3) rfl ?_); refine wpList_store_row rfl 71 (.tmp 3) (.tmp 9) rfl gk wire_tab rfl rfl 71 wire_zero BK.out (by kernel_rfl) (by kernel_rfl) (by kernel_rfl) ?_; have BK4 := Aside0.mk (setRow_heap w3 gk _ wire_tab _ _ BK.out); have BM4 := Aside0.mk ((setRow_other w3 gk gm wire_tab HKM.out).trans BM3.out); have HB4 := Aside0.mk (below_setRow HB3.out HGK.out wire_tab); generalize w3.setRow gk wire_tab = w4 at BK4 BM4 HB4 ⊢; clear BK HB3 BM3; have hm0 := (blk_cell BM4.out 0).trans rfl; have hm1 := (blk_cell BM4.out 1).trans rfl; have hm2 := (blk_cell BM4.out 2).trans rfl; have hm3 := (blk_cell BM4.out 3).trans rfl)
      | (go_at_call 38; refine (wire_odd.calls _ _ _ (by assumption)).mono ?_; rintro e w' ⟨rfl, ⟨z1, rfl⟩⟩))
    go_ret
    exact ⟨rfl, uB⟩
set_option maxHeartbeats 8000000 in
set_option maxRecDepth 100000 in
theorem wire_Right.good (n : Nat) (nk : Int) (ik rk tk : Bool) (a1 a2 a3 : Int) (A4 : Option Addr) (c4 : Nat) (l4 : List Int) (A5 : Option Addr) (c5 : Nat) (l5 : List Int) (A6 : Option Addr) (c6 : Nat) (l6 : List (List Int)) (w : World) (hn1 : 1 ≤ n) (hn2 : n < 12) (h1 : wire_odd.f a1 = some false) (h2 : wire_odd.f a2 = some false) (h3 : wire_odd.f a3 = some false) (hp : wire_kindOf n = (nk, ik, rk, tk)) (r : Bool) (hg : wire_Right.g (nk, ik, rk, tk) (n : Int) a1 a2 a3 l4 l5 l6 = some r) (h4 : Rd1 w A4 c4 l4) (h5 : Rd1 w A5 c5 l5) (h6 : Kd.C (Kd.slice 37 (Kd.int .u64)) w A6 l6.length l6 ∧ l6.length ≤ c6) :
    Calls Try.prog 12 #[.agg #[.int .i64 (n : Int), .int .i64 a1, .int .i64 a2, .int .i64 a3, .slice A4 l4.length c4, .slice A5 l5.length c5, .slice A6 l6.length c6]] w fun e w' => e = .returned (.bool r) ∧ Below w.heap.size w w' := by
  have HB := Aside0.mk (Below.refl w.heap.size w)
  have HP := Aside0.mk hp
  have HG := Aside0.mk hg
  have H4 := Aside0.mk h4
  have H5 := Aside0.mk h5
  have H6 := Aside0.mk h6
  clear hp hg h4 h5 h6
  have z1 : decide ((n : Int) < 1) = false := decide_eq_false (by omega)
  have z2 : decide ((12 : Int) ≤ (n : Int)) = false := decide_eq_false (by omega)
  have y1 : (0 : Int) ≤ (n : Int) := by omega
  have y2 : (n : Int) < 12 := by omega
  go_enter Try.func12, Try.ntmps12
  go_wp2_with (first
    | ((with_reducible refine gate_dst (N := 1) rfl ?_); refine box_event ?hg (N := 1) ?hd (cs := #[.int .i64 (n : Int), .int .i64 a1, .int .i64 a2, .int .i64 a3, .slice A4 l4.length c4, .slice A5 l5.length c5, .slice A6 l6.length c6]) (t := 25) ?hr ?_; (case hd => rfl); (case hg => rfl); (case hr => first | (go_simp; done) | (go_simp; rfl)); intro gm hg w1 hbox hb; have BM := Aside0.mk hbox; have HB1 := Aside0.mk (below_step HB.out hb); have HGM := Aside0.mk (show w.heap.size ≤ gm from hg ▸ below_size HB.out); clear HB hb hbox hg)
    | (go_at_call 37; refine (wire_kinds.calls _).mono ?_; rintro e w2 ⟨rfl, hb⟩; have BM2 := Aside0.mk (blk_below BM.out hb); have HB2 := Aside0.mk (below_step HB1.out hb); clear BM HB1 hb)
    | ((with_reducible refine gate_dst (N := 3) rfl ?_); refine box_event ?hg (N := 3) ?hd (cs := wire_zero) (t := 71) ?hr ?_; (case hd => rfl); (case hg => rfl); (case hr => kernel_rfl); intro gk hg w3 hbox hb; have BK := Aside0.mk hbox; have BM3 := Aside0.mk (blk_below BM2.out hb); have HB3 := Aside0.mk (below_step HB2.out hb); have HGK := Aside0.mk (show w.heap.size ≤ gk from hg ▸ below_size HB2.out); have HKM := Aside0.mk (show gm ≠ gk from by have := blk_lt BM2.out; omega); clear HB2 BM2 hb hbox hg)
    | ((with_reducible refine gate_store (t := 71) (p := 3) rfl ?_); refine wpList_store_row rfl 71 (.tmp 3) (.tmp 9) rfl gk wire_tab rfl rfl 71 wire_zero BK.out (by kernel_rfl) (by kernel_rfl) (by kernel_rfl) ?_; have BK4 := Aside0.mk (setRow_heap w3 gk _ wire_tab _ _ BK.out); have BM4 := Aside0.mk ((setRow_other w3 gk gm wire_tab HKM.out).trans BM3.out); have HB4 := Aside0.mk (below_setRow HB3.out HGK.out wire_tab); generalize w3.setRow gk wire_tab = w4 at BK4 BM4 HB4 ⊢; clear BK HB3 BM3; have hm0 := (blk_cell BM4.out 0).trans rfl; obtain ⟨ht0, ht1, ht2, ht3⟩ := wire_tab_at n (by omega); rw [HP.out] at ht0 ht1 ht2 ht3; have hk0 := (blk_cell BK4.out (n * 4)).trans ht0; have hk1 := (blk_cell BK4.out (n * 4 + 1)).trans ht1; have hk2 := (blk_cell BK4.out (n * 4 + 2)).trans ht2; have hk3 := (blk_cell BK4.out (n * 4 + 3)).trans ht3; clear ht0 ht1 ht2 ht3; have hm1 := (blk_cell BM4.out 1).trans rfl; have hm2 := (blk_cell BM4.out 2).trans rfl; have hm3 := (blk_cell BM4.out 3).trans rfl)
    | (go_at_call 38; refine (wire_odd.calls _ _ _ (by assumption)).mono ?_; rintro e w' ⟨rfl, ⟨z1, rfl⟩⟩)
    | ((with_reducible refine gate_dst (N := 4) rfl ?_); refine box_event ?hg (N := 4) ?hd (cs := #[.int .i64 0, .bool false, .bool false, .bool false]) (t := 70) ?hr ?_; (case hd => rfl); (case hg => rfl); (case hr => first | (go_simp; done) | (go_simp; rfl)); intro gp hg w5 hbox hb; have BP := Aside0.mk hbox; have BM5 := Aside0.mk (blk_below (uK BM4.out) hb); have HB5 := Aside0.mk (below_step uB hb); have HGP := Aside0.mk (show w.heap.size ≤ gp from hg ▸ below_size uB); have HPM := Aside0.mk (show gm ≠ gp from by rw [hg]; exact Nat.ne_of_lt (blk_lt (uK BM4.out))); clear HB4 BM4 BK4 hm0 hm1 hm2 hm3 hk0 hk1 hk2 hk3 hb hbox hg)
    | ((with_reducible refine gate_store (t := 70) (p := 4) rfl ?_); refine wpList_store_row rfl 70 (.tmp 4) (.tmp 36) rfl gp #[.int .i64 nk, .bool ik, .bool rk, .bool tk] rfl rfl 70 #[.int .i64 0, .bool false, .bool false, .bool false] BP.out wire_info rfl (wire_one nk ik rk tk) ?_; have BP6 := Aside0.mk (setRow_heap w5 gp _ #[.int .i64 nk, .bool ik, .bool rk, .bool tk] _ _ BP.out); have BM6 := Aside0.mk ((setRow_other w5 gp gm #[.int .i64 nk, .bool ik, .bool rk, .bool tk] HPM.out).trans BM5.out); have HB6 := Aside0.mk (below_setRow HB5.out HGP.out #[.int .i64 nk, .bool ik, .bool rk, .bool tk]); generalize w5.setRow gp #[.int .i64 nk, .bool ik, .bool rk, .bool tk] = w6 at BP6 BM6 HB6 ⊢; clear BP HB5 BM5; have hm1 := (blk_cell BM6.out 1).trans rfl; have hm2 := (blk_cell BM6.out 2).trans rfl; have hm3 := (blk_cell BM6.out 3).trans rfl)
    | ((with_reducible refine gate_dst (N := 43) rfl ?_); refine Kd.R_lit (Kd.int .i64) _ 3 ?hg (N := 43) ?hd (xs := ([a1, a2, a3] : List Int)) (inner := [.int .i64 a1, .int .i64 a2, .int .i64 a3]) (ok := fun _ => True) (okp := fun _ => True) ?hr ?hp (fun _ hk => hk) trivial (Below.refl _ _) (Nat.le_refl _) (by simp) ?_; (case hd => rfl); (case hg => rfl); (case hr => first | (go_simp; done) | (go_simp; rfl)); (case hp => exact Reps.one (show Kd.M (Kd.int .i64) _ _ _ a1 [.int .i64 a1] from rfl) (Reps.one (show Kd.M (Kd.int .i64) _ _ _ a2 [.int .i64 a2] from rfl) (Reps.one (show Kd.M (Kd.int .i64) _ _ _ a3 [.int .i64 a3] from rfl) (Reps.none _ _)))); intro v7 w7 ho hb hg_ hnew_; clear hg_ hnew_; obtain ⟨A7, c7, e7⟩ := Kd.R_slice ho; subst e7; have HL7 := Aside0.mk (Kd.R_reads' ho).2.2; have BM7 := Aside0.mk (blk_below BM6.out hb); have BP7 := Aside0.mk (blk_below BP6.out hb); have HB7 := Aside0.mk (below_step HB6.out hb); clear HB6 hb ho BM6 BP6 hm1 hm2 hm3))
  go_loopg [45] 3 (fun gg v45 wr => ∃ i : Nat, v45 = .int .i64 (i : Int) ∧ i ≤ 3 ∧ 3 - i ≤ gg ∧ Aside0 (∀ j, j < i → wire_okAt nk a1 a2 a3 j = true) ∧ wr = w7)
  case atStart => exact ⟨0, rfl, by omega, by omega, ⟨fun j hj => absurd hj (Nat.not_lt_zero _)⟩, rfl⟩
  case round =>
    obtain ⟨i, rfl, hi, hgg, HOK, rfl⟩ := hrel
    by_cases hlt : i < 3
    · have hltz : (i : Int) < 3 := by omega
      have h0z : (0 : Int) ≤ (i : Int) := by omega
      obtain ⟨ad, hA, hcell⟩ := Kd.at_int HL7.out (i : Int) h0z (by simp; omega)
      subst hA
      simp only [Go.IntWalk.toNatUp] at hcell
      rw [show rd [a1, a2, a3] (i : Int) = [a1, a2, a3].getD i 0 from rfl] at hcell
      have hp0 : wr.cell? ⟨gp, 0, none⟩ = some (.int .i64 nk) := (blk_cell BP7.out 0).trans rfl
      have hok : wire_okAt nk a1 a2 a3 i = (decide ((i : Int) < nk) || ([a1, a2, a3].getD i 0 == 0)) := rfl
      generalize [a1, a2, a3].getD i 0 = x at hcell hok
      by_cases hk : (i : Int) < nk
      · have hkz : decide (nk ≤ (i : Int)) = false := decide_eq_false (by omega)
        have HN := Aside0.mk (show wire_okAt nk a1 a2 a3 i = true from by rw [hok, decide_eq_true hk]; rfl)
        clear hok hk
        go_wp2
        go_roundg (3 - (i + 1))
        case measure => omega
        case rel => exact ⟨i + 1, by go_num, by omega, by omega, ⟨fun j hj => by rcases Nat.lt_succ_iff_lt_or_eq.mp hj with h | h; exact HOK.out j h; rw [h]; exact HN.out⟩, rfl⟩
      · have hkz : decide (nk ≤ (i : Int)) = true := decide_eq_true (by omega)
        rw [decide_eq_false hk, Bool.false_or] at hok
        by_cases hx : x = 0
        · have hxz : (x != 0) = false := by rw [hx]; rfl
          have HN := Aside0.mk (show wire_okAt nk a1 a2 a3 i = true from by rw [hok, hx]; rfl)
          clear hok hk hx
          go_wp2
          go_roundg (3 - (i + 1))
          case measure => omega
          case rel => exact ⟨i + 1, by go_num, by omega, by omega, ⟨fun j hj => by rcases Nat.lt_succ_iff_lt_or_eq.mp hj with h | h; exact HOK.out j h; rw [h]; exact HN.out⟩, rfl⟩
        · have hxz : (x != 0) = true := by simp [hx]
          have HN := wire_noughts_false hlt (show wire_okAt nk a1 a2 a3 i = false from by rw [hok]; simp [hx])
          have hG := HG.out
          unfold wire_Right.g at hG
          rw [if_neg (by rw [HN]; decide)] at hG
          obtain rfl := Option.some.inj hG
          clear hok hk hx HN hG HG
          go_wp2
          go_ret
          exact ⟨rfl, uB⟩
    · have hltz : ¬ (i : Int) < 3 := by omega
      have HN := wire_noughts_true (fun j hj => HOK.out j (by omega))
      have hG := HG.out
      unfold wire_Right.g at hG
      rw [if_pos HN] at hG
      have hm4 := (blk_cell BM7.out 4).trans rfl
      have hm5 := (blk_cell BM7.out 5).trans rfl
      have hm6 := (blk_cell BM7.out 6).trans rfl
      have hp1 := (blk_cell BP7.out 1).trans rfl
      have hp2 := (blk_cell BP7.out 2).trans rfl
      have hp3 := (blk_cell BP7.out 3).trans rfl
      clear HG HN
      by_cases q4 : wire_may l4.length ik (wire_ints.f l4) = true
      · rw [if_pos q4] at hG
        have Q4 := Aside0.mk (show (decide (l4.length ≤ 16384) && (ik || decide (l4.length = 0)) && wire_ints.f l4) = true from q4)
        clear q4
        by_cases q5 : wire_may l5.length rk (wire_ints.f l5) = true
        · rw [if_pos q5] at hG
          obtain ⟨b, hb, hG⟩ := Option.bind_eq_some_iff.mp hG
          have Q5 := Aside0.mk (show (decide (l5.length ≤ 16384) && (rk || decide (l5.length = 0)) && wire_ints.f l5) = true from q5)
          have HBN := Aside0.mk hb
          clear q5 hb
          by_cases q6 : wire_may l6.length tk b = true
          · rw [if_pos q6] at hG
            have Q6 := Aside0.mk (show (decide (l6.length ≤ 16384) && (tk || decide (l6.length = 0)) && b) = true from q6)
            have HR := Aside0.mk (Option.some.inj hG)
            clear q6 hG
            go_wp2_with (first
              | (go_at_call 41; ((with_reducible refine (wire_list.ints A4 c4 l4 ik true _ (H4.out.below uB).C H4.out.le Q4.out).mono ?_); rintro e w' ⟨rfl, ⟨y4, rfl⟩⟩))
              | (go_at_call 41; ((with_reducible refine (wire_list.ints A5 c5 l5 rk true _ (H5.out.below uB).C H5.out.le Q5.out).mono ?_); rintro e w' ⟨rfl, ⟨y5, rfl⟩⟩))
              | (go_at_call 42; ((with_reducible refine (wire_list.nats A6 c6 l6 tk b true _ (Kd.C_below H6.out.1 uB) H6.out.2 Q6.out HBN.out).mono ?_); rintro e w' ⟨rfl, ⟨y6, rfl⟩⟩)))
            have BM8 := Aside0.mk (uK BM7.out (W := _) (by repeat (first | exact Below.refl _ _ | apply pw_below_drewN)))
            go_loopg [85] l5.length (fun gg v85 wr => ∃ i : Nat, v85 = .int .i64 (i : Int) ∧ i ≤ l5.length ∧ l5.length - i ≤ gg ∧ Aside0 (∀ j, j < i → 0 < j → l5.getD (j - 1) 0 < l5.getD j 0) ∧ Aside0 (wr.heap[gm]? = some (.cells #[.int .i64 (n : Int), .int .i64 a1, .int .i64 a2, .int .i64 a3, .slice A4 l4.length c4, .slice A5 l5.length c5, .slice A6 l6.length c6] 25 (0, 0))) ∧ Aside0 (Below w.heap.size w wr))
            case atStart => exact ⟨0, rfl, by omega, by omega, ⟨fun j hj => absurd hj (Nat.not_lt_zero _)⟩, BM8, ⟨uB⟩⟩
            case round =>
              clear hm4 hm5 hm6 hp1 hp2 hp3 BM8
              obtain ⟨i, rfl, hi, hgg, HJ, BM9, HB9⟩ := hrel
              have hbig : l5.length ≤ 9223372036854775807 := H5.out.C.2.1
              by_cases hlt : i < l5.length
              · have hltz : (i : Int) < (l5.length : Int) := by omega
                have hm5 := (blk_cell BM9.out 5).trans rfl
                by_cases h0 : i = 0
                · have h0z : decide ((0 : Int) < (i : Int)) = false := decide_eq_false (by omega)
                  have h0y : decide (0 < i) = false := decide_eq_false (by omega)
                  have HI := Aside0.mk h0
                  clear h0
                  go_wp2
                  go_quiet (fail)
                  go_wp2
                  go_roundg (l5.length - (i + 1))
                  case measure => omega
                  case rel => exact ⟨i + 1, by go_num, by omega, by omega, ⟨fun j hj hj0 => by have := HI.out; omega⟩, ⟨uK BM9.out⟩, ⟨uB⟩⟩
                · obtain ⟨j, hj⟩ : ∃ j, i = j + 1 := ⟨i - 1, by omega⟩
                  have h0z : decide ((0 : Int) < (i : Int)) = true := decide_eq_true (by omega)
                  have h0y : decide (0 < i) = true := decide_eq_true (by omega)
                  have hC := (H5.out.below HB9.out).C
                  obtain ⟨ad, hA, hc1⟩ := Kd.at_int hC (i : Int) (by omega) hltz
                  subst hA
                  obtain ⟨ad2, hA2, hc2⟩ := Kd.at_int hC ((i : Int) - 1) (by omega) (by omega)
                  obtain rfl : ad = ad2 := by injection hA2
                  clear hA2 hC
                  rw [show ((i : Int) - 1).toNat = i - 1 from by omega] at hc2
                  simp only [Go.IntWalk.toNatUp] at hc1
                  rw [show rd l5 (i : Int) = l5.getD i 0 from rfl] at hc1
                  rw [show rd l5 ((i : Int) - 1) = l5.getD (i - 1) 0 from by show l5.getD ((i : Int) - 1).toNat 0 = _; rw [show ((i : Int) - 1).toNat = i - 1 from by omega]] at hc2
                  obtain ⟨x, hx⟩ : ∃ x, x = l5.getD i 0 := ⟨_, rfl⟩
                  obtain ⟨y, hy⟩ : ∃ y, y = l5.getD (i - 1) 0 := ⟨_, rfl⟩
                  rw [← hx] at hc1
                  rw [← hy] at hc2
                  have HX := Aside0.mk hx
                  have HY := Aside0.mk hy
                  have HJE := Aside0.mk hj
                  have p0 : (0 : Int) ≤ (i : Int) := by omega
                  have p1 : (0 : Int) ≤ (i : Int) - 1 := by omega
                  have p2 : (i : Int) - 1 < (l5.length : Int) := by omega
                  have p3 : ((i : Int) - 1).toNat = i - 1 := by omega
                  have p4 : IntKind.i64.wrap ((i : Int) - 1) = (i : Int) - 1 := by rw [i64_w]; unfold wrap64; omega
                  clear hx hy hj h0
                  by_cases hxy : x ≤ y
                  · have hxz : decide (x ≤ y) = true := decide_eq_true hxy
                    have HIN := wire_incr_not hlt (by have := HJE.out; omega) (show l5.getD i 0 ≤ l5.getD (i - 1) 0 from by rw [← HX.out, ← HY.out]; exact hxy)
                    have hR := HR.out
                    rw [HIN, Bool.false_and] at hR
                    subst hR
                    clear hxy HIN HR
                    go_wp2
                    go_quiet (fail)
                    go_wp2
                    go_ret
                    exact ⟨rfl, uB⟩
                  · have hxz : decide (x ≤ y) = false := decide_eq_false hxy
                    have HLT := Aside0.mk (show l5.getD (i - 1) 0 < l5.getD i 0 from by rw [← HX.out, ← HY.out]; omega)
                    clear hxy
                    go_wp2
                    go_quiet (fail)
                    clear p4
                    go_wp2
                    go_roundg (l5.length - (i + 1))
                    case measure => omega
                    case rel => exact ⟨i + 1, by go_num, by omega, by omega, ⟨fun j hj hj0 => by rcases Nat.lt_succ_iff_lt_or_eq.mp hj with h | h; exact HJ.out j h hj0; rw [h]; exact HLT.out⟩, ⟨uK BM9.out⟩, ⟨uB⟩⟩
              · have hltz : ¬ (i : Int) < (l5.length : Int) := by omega
                have HIN := wire_incr_of (l := l5) (fun j hj hj0 => HJ.out j (by omega) hj0)
                have hR := HR.out
                rw [HIN, Bool.true_and] at hR
                have HR2 := Aside0.mk hR
                have hm0 := (blk_cell BM9.out 0).trans rfl
                have hm3 := (blk_cell BM9.out 3).trans rfl
                have hm4 := (blk_cell BM9.out 4).trans rfl
                have hm6 := (blk_cell BM9.out 6).trans rfl
                have key : ((n : Int) == 1) = true ∧ r = decide (l6.length = 1) ∨ ((n : Int) == 1) = false ∧ (((n : Int) == 5) = true ∧ r = decide (l6.length = l4.length) ∨ ((n : Int) == 5) = false ∧ (((n : Int) == 6) = true ∧ r = decide (0 < l4.length) ∨ ((n : Int) == 6) = false ∧ (((n : Int) == 9) = true ∧ r = decide (a3 ≤ 1) ∨ ((n : Int) == 9) = false ∧ r = true))) := by
                  rw [← hR]
                  unfold wire_last
                  by_cases e1 : (n : Int) = 1
                  · exact .inl ⟨by simp [e1], by rw [if_pos e1]⟩
                  · refine .inr ⟨by simp [e1], ?_⟩
                    rw [if_neg e1]
                    by_cases e2 : (n : Int) = 5
                    · exact .inl ⟨by simp [e2], by rw [if_pos e2]⟩
                    · refine .inr ⟨by simp [e2], ?_⟩
                      rw [if_neg e2]
                      by_cases e3 : (n : Int) = 6
                      · exact .inl ⟨by simp [e3], by rw [if_pos e3]⟩
                      · refine .inr ⟨by simp [e3], ?_⟩
                        rw [if_neg e3]
                        by_cases e4 : (n : Int) = 9
                        · exact .inl ⟨by simp [e4], by rw [if_pos e4]⟩
                        · exact .inr ⟨by simp [e4], by rw [if_neg e4]⟩
                clear hR HR HR2 HIN
                rcases key with ⟨e1, hr⟩ | ⟨e1, ⟨e2, hr⟩ | ⟨e2, ⟨e3, hr⟩ | ⟨e3, ⟨e4, hr⟩ | ⟨e4, hr⟩⟩⟩⟩
                all_goals
                  have HRR := Aside0.mk hr
                  clear hr
                  go_wp2
                  go_ret
                  exact ⟨wire_ret (by rw [HRR.out]; (try rw [Bool.eq_iff_iff]; simp); (try omega)), uB⟩
          · rw [if_neg q6] at hG
            obtain rfl := Option.some.inj hG
            have Q6 := Aside0.mk (show (decide (l6.length ≤ 16384) && (tk || decide (l6.length = 0)) && b) = false from Bool.eq_false_iff.mpr q6)
            clear q6 hG
            go_wp2_with (first
              | (go_at_call 41; ((with_reducible refine (wire_list.ints A4 c4 l4 ik true _ (H4.out.below uB).C H4.out.le Q4.out).mono ?_); rintro e w' ⟨rfl, ⟨y4, rfl⟩⟩))
              | (go_at_call 41; ((with_reducible refine (wire_list.ints A5 c5 l5 rk true _ (H5.out.below uB).C H5.out.le Q5.out).mono ?_); rintro e w' ⟨rfl, ⟨y5, rfl⟩⟩))
              | (go_at_call 42; ((with_reducible refine (wire_list.nats A6 c6 l6 tk b false _ (Kd.C_below H6.out.1 uB) H6.out.2 Q6.out HBN.out).mono ?_); rintro e w' ⟨rfl, ⟨y6, rfl⟩⟩)))
            go_ret
            exact ⟨rfl, uB⟩
        · rw [if_neg q5] at hG
          obtain rfl := Option.some.inj hG
          have Q5 := Aside0.mk (show (decide (l5.length ≤ 16384) && (rk || decide (l5.length = 0)) && wire_ints.f l5) = false from Bool.eq_false_iff.mpr q5)
          clear q5 hG
          go_wp2_with (first
            | (go_at_call 41; ((with_reducible refine (wire_list.ints A4 c4 l4 ik true _ (H4.out.below uB).C H4.out.le Q4.out).mono ?_); rintro e w' ⟨rfl, ⟨y4, rfl⟩⟩))
            | (go_at_call 41; ((with_reducible refine (wire_list.ints A5 c5 l5 rk false _ (H5.out.below uB).C H5.out.le Q5.out).mono ?_); rintro e w' ⟨rfl, ⟨y5, rfl⟩⟩)))
          go_ret
          exact ⟨rfl, uB⟩
      · rw [if_neg q4] at hG
        obtain rfl := Option.some.inj hG
        have Q4 := Aside0.mk (show (decide (l4.length ≤ 16384) && (ik || decide (l4.length = 0)) && wire_ints.f l4) = false from Bool.eq_false_iff.mpr q4)
        clear q4 hG
        go_wp2_with (go_at_call 41; ((with_reducible refine (wire_list.ints A4 c4 l4 ik false _ (H4.out.below uB).C H4.out.le Q4.out).mono ?_); rintro e w' ⟨rfl, ⟨y4, rfl⟩⟩))
        go_ret
        exact ⟨rfl, uB⟩
theorem wire_ok_odd {x : Int} (h : wire_ok x = true) : wire_odd.f x = some false := by
  rw [wire_ints.odd]
  unfold wire_ok at h
  rw [h]
  rfl
theorem wire_Right.call7 (a0 a1 a2 a3 : Int) (A4 : Option Addr) (c4 : Nat) (l4 : List Int) (A5 : Option Addr) (c5 : Nat) (l5 : List Int) (A6 : Option Addr) (c6 : Nat) (l6 : List (List Int)) (r : Bool) (w : World) (h4 : Rd1 w A4 c4 l4) (h5 : Rd1 w A5 c5 l5) (h6 : Kd.C (Kd.slice 37 (Kd.int .u64)) w A6 l6.length l6 ∧ l6.length ≤ c6) (h : wire_Right.f a0 a1 a2 a3 l4 l5 l6 = some r) :
    Calls Try.prog 12 #[.agg #[.int .i64 a0, .int .i64 a1, .int .i64 a2, .int .i64 a3, .slice A4 l4.length c4, .slice A5 l5.length c5, .slice A6 l6.length c6]] w fun e w' => e = .returned (.bool r) ∧ Below w.heap.size w w' := by
  unfold wire_Right.f at h
  by_cases hc : 1 ≤ a0 ∧ a0 < 12 ∧ wire_ok a1 = true ∧ wire_ok a2 = true ∧ wire_ok a3 = true
  · rw [if_pos hc] at h
    obtain ⟨h0, h0', q1, q2, q3⟩ := hc
    obtain ⟨n, rfl⟩ := Int.eq_ofNat_of_zero_le (show 0 ≤ a0 by omega)
    rw [Int.toNat_natCast] at h
    obtain ⟨nk, ik, rk, tk⟩ : Int × Bool × Bool × Bool := wire_kindOf n
    exact wire_Right.good n (wire_kindOf n).1 (wire_kindOf n).2.1 (wire_kindOf n).2.2.1 (wire_kindOf n).2.2.2 a1 a2 a3 A4 c4 l4 A5 c5 l5 A6 c6 l6 w (by omega) (by omega) (wire_ok_odd q1) (wire_ok_odd q2) (wire_ok_odd q3) rfl r h h4 h5 h6
  · rw [if_neg hc] at h
    obtain rfl := Option.some.inj h
    exact wire_Right.bad a0 a1 a2 a3 A4 c4 l4 A5 c5 l5 A6 c6 l6 w hc
def IsBytes (w : World) (k : Nat) : Prop := ∃ cells, w.heap[k]? = some (.cells cells 5 (0, 0))
def Kp (w w' : World) (gb : Nat) : Prop := Kept w w' (fun k => k = gb ∨ IsBytes w k)
theorem Kp.of_below {w w' : World} (h : Below w.heap.size w w') (gb : Nat) : Kp w w' gb := Kept.of_below h _
theorem Kp.trans {w w1 w2 : World} {gb : Nat} (h : Kp w w1 gb) (k : Kp w1 w2 gb) : Kp w w2 gb := by
  refine ⟨Nat.le_trans h.1 k.1, fun i hi hn => ?_⟩
  have e1 := h.2 i hi hn
  refine (k.2 i (Nat.lt_of_lt_of_le hi h.1) (fun hs => hn ?_)).trans e1
  rcases hs with hs | ⟨cs, hs⟩
  · exact .inl hs
  · exact .inr ⟨cs, by rw [← e1]; exact hs⟩
theorem Kp.blk {w w' : World} {gb g t : Nat} {cs : Array Value} (h : Kp w w' gb) (hb : w.heap[g]? = some (.cells cs t (0, 0))) (hg : g ≠ gb) (ht : t ≠ 5) : w'.heap[g]? = some (.cells cs t (0, 0)) := by
  refine (h.2 g (blk_lt hb) (fun hs => ?_)).trans hb
  rcases hs with hs | ⟨cs', hs⟩
  · exact hg hs
  · rw [hb] at hs
    injection hs with hs
    injection hs with h1 h2
    exact ht h2
theorem Kp.set {w w1 : World} {gb : Nat} (h : Kp w w1 gb) (i : Nat) (u : Value) : Kp w (w1.setCell ⟨gb, i, none⟩ u) gb := Kept.setCell h (.inl (.inl rfl)) u
theorem Kp.grown {w w1 w2 : World} {gb base : Nat} {v : Value} {xs : List Int} {ok : Nat → Prop} (h : Kp w w1 gb) (hR : Kd.R (Kd.int .u8) 5 w1 base ok v xs) (hg : w1.grownBy w2 v.ownBlock) : Kp w w2 gb := by
  refine h.trans ⟨hg.size, fun i hi hn => hg.block i hi (fun he => hn (.inr ?_))⟩
  obtain ⟨_, _, _, q, hq, cells, hc⟩ := (Kd.R_bound hR).1 i he.symm
  have hq' : q = 5 := by
    rcases List.mem_cons.1 hq with h | h
    · exact h
    · exact absurd h (by simp [Kd.int, Kd.scalar])
  exact ⟨cells, by rw [hc, hq']⟩
def OutAt (w : World) (base gb : Nat) (xs : List Int) : Prop := ∃ v, w.heap[gb]? = some (.cells #[v] 27 (0, 0)) ∧ Kd.R (Kd.int .u8) 5 w base (fun _ => True) v xs
theorem OutAt.below {w w' : World} {base gb : Nat} {xs : List Int} (h : OutAt w base gb xs) (hb : Below w.heap.size w w') : OutAt w' base gb xs := by
  obtain ⟨v, h1, h2⟩ := h
  exact ⟨v, blk_below h1 hb, Kd.R_below h2 hb⟩
theorem OutAt.lt {w : World} {base gb : Nat} {xs : List Int} (h : OutAt w base gb xs) : gb < w.heap.size := by
  obtain ⟨v, h1, _⟩ := h
  exact blk_lt h1
theorem R_off1 {base g i : Nat} {ok : Nat → Prop} {v u : Value} {xs : List Int} {w : World} {t : Nat} {cs : Array Value} (h : Kd.R (Kd.int .u8) 5 w base ok v xs) (hb : w.heap[g]? = some (.cells cs t (0, 0))) (ht : 5 ≠ t) : Kd.R (Kd.int .u8) 5 (w.setCell ⟨g, i, none⟩ u) base ok v xs :=
  Kd.R_mono (Kd.R_far (p := ⟨g, i, none⟩) (Kd.R_types h hb (by intro q hq; rcases List.mem_cons.1 hq with e | e; rw [e]; exact ht; exact absurd e (by simp [Kd.int, Kd.scalar]))) (fun _ hk => hk.2) u) (fun _ hk => hk.1)
set_option maxHeartbeats 8000000 in
set_option maxRecDepth 100000 in
theorem wire_number.calls (k : Nat) (gb : Nat) (n : Int) (xs d : List Int) (w0 w : World) (hB : Below w0.heap.size w0 w) (hgb : w0.heap.size ≤ gb) (hO : OutAt w w0.heap.size gb xs) (h : codec_Number.f k (IntKind.u64.wrap n) = some d) (hl : xs.length + d.length < 140737488355328) :
    Calls Try.prog 13 #[.int .i64 n, .pointer (some ⟨gb, 0, none⟩)] w fun e w' => e = .returned (.tuple #[]) ∧ OutAt w' w0.heap.size gb (xs ++ d) ∧ Below w0.heap.size w0 w' ∧ Kp w w' gb := by
  obtain ⟨v, hb1, hb2⟩ := hO
  have HB := Aside0.mk hB
  have BG := Aside0.mk hb1
  have HV := Aside0.mk hb2
  have HH := Aside0.mk h
  have HL := Aside0.mk hl
  have hs : w.cell? ⟨gb, 0, none⟩ = some v := (blk_cell hb1 0).trans rfl
  clear hB hb1 hb2 h hl
  go_enter Try.func13, Try.ntmps13
  refine start_ (n := 6) (S := fun w' => w'.cell? ⟨gb, 0, none⟩ = some v) (ds := [5]) (.replicate 6 false) (by kernel_rfl) rfl rfl hs (fun hHeld => ?_)
  replace HB := Aside0.mk (below_drew1 HB.out)
  replace BG := Aside0.mk (blk_drew BG.out)
  replace HV := Aside0.mk (Kd.R_drew HV.out)
  have HK := Aside0.mk (Kp.of_below (below_drew1 (Below.refl w.heap.size w)) gb)
  have hfz := blk_frozen BG.out 0
  clear hs
  generalize w.drew = w1 at HB BG HV HK hHeld hfz ⊢
  refine pure_ (i := 1) (N := some 4) (v := ?_) (a' := ?_) (uA 6 2) rfl rfl (by kernel_rfl) (fun _ _ _ h => h) (Or.inl ⟨by rfl, ?_⟩) ?_ ?_
  rotate_left
  · intro w'
    go_simp
    with_reducible rfl
  rotate_left
  · exact uQ
  refine pure_ (i := 2) (N := some 5) (v := ?_) (a' := ?_) (uA 6 6) rfl rfl (by kernel_rfl) (fun _ _ _ h => h) (Or.inl ⟨by rfl, ?_⟩) ?_ ?_
  rotate_left
  · intro w'
    go_simp
    with_reducible rfl
  rotate_left
  · exact uQ
  refine take_ (i := 0) (N := some 3) (v := ?_) (a' := ?_) (uA 6 7) rfl rfl (by kernel_rfl) (fun _ _ _ h => h) (Or.inl ⟨by rfl, ?_⟩) hHeld ?_ ?_
  rotate_left
  · rintro w' s0
    go_simp
    with_reducible rfl
  rotate_left
  · exact uQ
  refine one_ (i := 3) (N := some 6) (uA 6 15) rfl rfl (by kernel_rfl) (by decide) (fun K hK => ?_)
  refine goes_ Try.func14 (by kernel_rfl) rfl #[.int .u64 (IntKind.u64.wrap n)] (by rfl) rfl rfl uM ?_
  refine (codec_Number.calls k (IntKind.u64.wrap n) d _ HH.out).mono ?_
  rintro e w2 ⟨v2, rfl, ho, hb⟩
  refine ⟨_, rfl, ?_⟩
  obtain ⟨A2, c2, e2⟩ := Kd.R_slice ho
  subst e2
  have HO := Aside0.mk ho
  replace HB := Aside0.mk (below_step HB.out hb)
  replace BG := Aside0.mk (blk_below BG.out hb)
  have HLT := Aside0.mk (Kd.R_lt HV.out)
  replace HV := Aside0.mk (Kd.R_below HV.out hb)
  replace HK := Aside0.mk (HK.out.trans (Kp.of_below hb gb))
  clear ho hb hfz
  refine hK.out _ _ ((blk_cell BG.out 0).trans rfl) (fun hHeld => ?_)
  clear hK K
  refine norm_ (a' := ?_) ?_ ?_; rotate_left
  · exact uQ
  refine one_ (i := 4) (N := some 7) (uA 6 31) rfl rfl (by kernel_rfl) (by decide) (fun K hK => ?_)
  refine Kd.R_append_rows_step (Kd.int .u8) (w0 := w0) w0.heap.size (by rfl) (.tmp 3) (.tmp 6) 27 5 (.int .u8 0) 1 rfl Try.underlying27 info5 rfl (by decide) (by omega) v xs d A2 d.length c2 (fun k_ => some k_ ≠ (.slice A2 d.length c2 : Value).ownBlock) (fun _ => False) rfl rfl ?aO ?aR (fun _ _ h => h) (fun _ h => h.elim) ?aF ?aB ?aS ?aL ?_
  case aR => exact (Kd.R_reads' HO.out).2.2
  case aB => exact HB.out
  case aF => exact fun k_ hk he => by have := Kd.R_lt HO.out k_ he.symm; omega
  case aO => exact Kd.R_mono (Kd.R_tight rfl HV.out) (fun k_ hk he => by have h1 := HLT.out k_ hk.symm; have h2 := Kd.R_base HO.out k_ he.symm; omega)
  case aS => exact below_size HB.out
  case aL => have := HL.out; omega
  intro v3 w3 ho hb hg hat
  obtain ⟨A3, c3, e3⟩ := Kd.R_slice ho
  subst e3
  have HO3 := Aside0.mk ho
  have BG3 := Aside0.mk (blk_grown BG.out hg (fun he => by obtain ⟨_, _, _, q, hq, cells, hc⟩ := (Kd.R_bound HV.out).1 gb he.symm; rw [BG.out] at hc; injection hc with hc; injection hc with _ hq2; subst hq2; rcases List.mem_cons.1 hq with h | h; exact absurd h (by decide); exact absurd h (by simp [Kd.int, Kd.scalar])))
  have HK3 := Aside0.mk (HK.out.grown HV.out hg)
  have HB3 := Aside0.mk hb
  clear ho hb hg hat HB HK HV BG HO HLT
  refine hK.out _ _ ((blk_cell BG3.out 0).trans rfl) (fun hHeld => ?_)
  clear hK K
  refine norm_ (a' := ?_) ?_ ?_; rotate_left
  · exact uQ
  have hs3 : w3.cell? ⟨gb, 0, none⟩ = some v := (blk_cell BG3.out 0).trans rfl
  have hf3 := blk_frozen BG3.out 0
  refine last_ (i := 5) (N := none) (uA 6 63) rfl rfl (by kernel_rfl) (by decide) (fun K hK => ?_)
  refine skip_ (w1 := ?_) (by rfl) rfl ?_ ?_
  rotate_left
  · go_simp
    rfl
  refine hK.out _ _ ?_; clear hK K
  refine done_ (by kernel_rfl) ?_
  first | go_end0 | ((try simp only [Exit.inBlock, Exit.then]); refine bodyPost_ret (results_none rfl _ _ _) rfl ?_)
  have HO4 := HO3.out
  rw [List.length_append] at HO4
  exact ⟨rfl, ⟨_, blk_put (cs := #[v]) BG3.out 0 _ rfl, Kd.R_mono (R_off1 HO4 BG3.out (by decide)) (fun _ _ => trivial)⟩, HB3.out.setCell (p := ⟨gb, 0, none⟩) hgb _, HK3.out.set 0 _⟩
def wire_Encode.nums (k : Nat) : List Int → List Int → Option (List Int)
  | [], xs => some xs
  | n :: l, xs => (codec_Number.f k (IntKind.u64.wrap n)).bind fun d => if xs.length + d.length < 140737488355328 then wire_Encode.nums k l (xs ++ d) else none
def wire_Encode.lists (k : Nat) : List (List Int) → List Int → Option (List Int)
  | [], xs => some xs
  | l :: ls, xs => (wire_Encode.nums k ((l.length : Int) :: l) xs).bind fun ys => wire_Encode.lists k ls ys
def wire_Encode.nats (k : Nat) : List (List Int) → List Int → Option (List Int)
  | [], xs => some xs
  | a :: l, xs => (nat_Bytes.f k a).bind fun b => (codec_Bytes.f k b).bind fun d => if xs.length + d.length < 140737488355328 then wire_Encode.nats k l (xs ++ d) else none
def wire_Encode.f (k : Nat) (a0 a1 a2 a3 : Int) (l4 l5 : List Int) (l6 : List (List Int)) : Option (List Int × Int) :=
  (wire_Right.f a0 a1 a2 a3 l4 l5 l6).bind fun r => if r = true then ((wire_Encode.nums k [a0, a1, a2, a3] []).bind fun x1 => (wire_Encode.lists k [l4, l5] x1).bind fun x2 => (wire_Encode.nums k [(l6.length : Int)] x2).bind fun x3 => (wire_Encode.nats k l6 x3).bind fun x4 => some (if x4.length > 1048576 then ([], 16) else (x4, 0))) else some ([], 16)
theorem slice_event {P : Program} {ops : Array Oper} {rest : List Oper} {o : Oper} {a : Act} {Q : Exit → Act → World → Prop} {W : World} (hgd : o.guard = none) {N : Tmp} (_hd : o.dst = some N) {cs : Array Value} {t : TypeId} {n : Nat}
    (hrun : (execOp a.eval o).run P W = .ok (.value (.slice (some ⟨W.heap.size, 0, none⟩) n n)) (W.alloc (.cells cs t (0, 0))))
    (h : ∀ g, g = W.heap.size → ∀ w1, w1.heap[g]? = some (.cells cs t (0, 0)) → Below W.heap.size W w1 → wpList P ops Q rest (a.put o.dst (.slice (some ⟨g, 0, none⟩) n n)) w1) : wpList P ops Q (o :: rest) a W :=
  Kd.event_run hgd hrun (h _ rfl _ (blk_new W _) (below_alloc (Below.refl _ _) _))
theorem lit_get {L : List Int} {w : World} {g t : Nat} (h : w.heap[g]? = some (.cells (L.map (Value.int .i64)).toArray t (0, 0))) (i : Nat) (hi : i < L.length) : w.cell? ⟨g, i, none⟩ = some (.int .i64 (L.getD i 0)) := by
  rw [blk_cell h i]
  simp [List.getElem?_map, List.getElem?_eq_getElem hi, List.getD_eq_getElem?_getD]
theorem nums_drop {k : Nat} {L xs r : List Int} {i : Nat} (hi : i < L.length) (h : wire_Encode.nums k (L.drop i) xs = some r) : ∃ d, codec_Number.f k (IntKind.u64.wrap (L.getD i 0)) = some d ∧ xs.length + d.length < 140737488355328 ∧ wire_Encode.nums k (L.drop (i + 1)) (xs ++ d) = some r := by
  rw [List.drop_eq_getElem_cons hi, wire_Encode.nums] at h
  obtain ⟨d, h1, h2⟩ := Option.bind_eq_some_iff.mp h
  obtain ⟨c, h2⟩ := uT h2
  refine ⟨d, ?_, c, h2⟩
  rw [← h1, List.getD_eq_getElem?_getD, List.getElem?_eq_getElem hi]
  rfl
theorem nums_done {k : Nat} {L xs r : List Int} {i : Nat} (hi : ¬ i < L.length) (h : wire_Encode.nums k (L.drop i) xs = some r) : xs = r := by
  rw [List.drop_of_length_le (by omega), wire_Encode.nums] at h
  exact Option.some.inj h
theorem nats_drop {k : Nat} {L : List (List Int)} {xs r : List Int} {i : Nat} (hi : i < L.length) (h : wire_Encode.nats k (L.drop i) xs = some r) : ∃ b d, nat_Bytes.f k (L.getD i []) = some b ∧ codec_Bytes.f k b = some d ∧ xs.length + d.length < 140737488355328 ∧ wire_Encode.nats k (L.drop (i + 1)) (xs ++ d) = some r := by
  rw [List.drop_eq_getElem_cons hi, wire_Encode.nats] at h
  obtain ⟨b, h1, h2⟩ := Option.bind_eq_some_iff.mp h
  obtain ⟨d, h3, h2⟩ := Option.bind_eq_some_iff.mp h2
  obtain ⟨c, h2⟩ := uT h2
  refine ⟨b, d, ?_, h3, c, h2⟩
  rw [← h1, List.getD_eq_getElem?_getD, List.getElem?_eq_getElem hi]
  rfl
theorem not_bytes {w : World} {g t base : Nat} {cs : Array Value} {ok : Nat → Prop} {v : Value} {xs : List Int} (hb : w.heap[g]? = some (.cells cs t (0, 0))) (ht : t ≠ 5) (h : Kd.R (Kd.int .u8) 5 w base ok v xs) : some g ≠ v.ownBlock := by
  intro he
  obtain ⟨_, _, _, q, hq, cells, hc⟩ := (Kd.R_bound h).1 g he.symm
  rw [hb] at hc
  injection hc with hc
  injection hc with _ hq2
  subst hq2
  rcases List.mem_cons.1 hq with h | h
  · exact ht h
  · exact absurd h (by simp [Kd.int, Kd.scalar])
set_option maxHeartbeats 16000000 in
set_option maxRecDepth 100000 in
theorem wire_Encode.good (k : Nat) (a0 a1 a2 a3 : Int) (A4 : Option Addr) (c4 : Nat) (l4 : List Int) (A5 : Option Addr) (c5 : Nat) (l5 : List Int) (A6 : Option Addr) (c6 : Nat) (l6 : List (List Int)) (x1 x2 x3 x4 r1 : List Int) (r2 : Int) (w : World) (h4 : Rd1 w A4 c4 l4) (h5 : Rd1 w A5 c5 l5) (h6 : Kd.C (Kd.slice 37 (Kd.int .u64)) w A6 l6.length l6 ∧ l6.length ≤ c6) (hr : wire_Right.f a0 a1 a2 a3 l4 l5 l6 = some true) (e1 : wire_Encode.nums k [a0, a1, a2, a3] [] = some x1) (e2 : wire_Encode.lists k [l4, l5] x1 = some x2) (e3 : wire_Encode.nums k [(l6.length : Int)] x2 = some x3) (e4 : wire_Encode.nats k l6 x3 = some x4) (hres : (if x4.length > 1048576 then (([] : List Int), (16 : Int)) else (x4, 0)) = (r1, r2)) :
    Calls Try.prog 7 #[.agg #[.int .i64 a0, .int .i64 a1, .int .i64 a2, .int .i64 a3, .slice A4 l4.length c4, .slice A5 l5.length c5, .slice A6 l6.length c6]] w fun e w' => ∃ v0_ : Value, e = .returned (.tuple #[v0_, .int .i64 r2]) ∧ Kd.R (Kd.int .u8) 5 w' w.heap.size (fun _ => True) v0_ r1 ∧ Below w.heap.size w w' := by
  have HB := Aside0.mk (Below.refl w.heap.size w)
  have H4 := Aside0.mk h4
  have H5 := Aside0.mk h5
  have H6 := Aside0.mk h6
  have HR := Aside0.mk hr
  have E1 := Aside0.mk e1
  have E2 := Aside0.mk e2
  have E3 := Aside0.mk e3
  have E4 := Aside0.mk e4
  have HRES := Aside0.mk hres
  clear h4 h5 h6 hr e1 e2 e3 e4 hres
  go_enter Try.func7, Try.ntmps7
  go_wp2_with (first
    | ((with_reducible refine gate_dst (N := 1) rfl ?_); refine box_event ?hg (N := 1) ?hd (cs := #[.int .i64 a0, .int .i64 a1, .int .i64 a2, .int .i64 a3, .slice A4 l4.length c4, .slice A5 l5.length c5, .slice A6 l6.length c6]) (t := 25) ?hr ?_; (case hd => rfl); (case hg => rfl); (case hr => first | (go_simp; done) | (go_simp; rfl)); intro gm hg w1 hbox hb; have BM := Aside0.mk hbox; have HB1 := Aside0.mk (below_step HB.out hb); have hm0 := (blk_cell hbox 0).trans rfl; have hm1 := (blk_cell hbox 1).trans rfl; have hm2 := (blk_cell hbox 2).trans rfl; have hm3 := (blk_cell hbox 3).trans rfl; have hm4 := (blk_cell hbox 4).trans rfl; have hm5 := (blk_cell hbox 5).trans rfl; have hm6 := (blk_cell hbox 6).trans rfl; clear HB hb hbox hg)
    | (go_at_call 12; ((with_reducible refine (wire_Right.call7 a0 a1 a2 a3 A4 c4 l4 A5 c5 l5 A6 c6 l6 true _ (H4.out.below uB) (H5.out.below uB) ⟨Kd.C_below H6.out.1 uB, H6.out.2⟩ HR.out).mono ?_); rintro e w2 ⟨rfl, hb⟩; have BM2 := Aside0.mk (blk_below BM.out hb); have HB2 := Aside0.mk (below_step HB1.out hb); clear hm0 hm1 hm2 hm3 hm4 hm5 hm6 BM HB1 hb))
    | ((with_reducible refine gate_dst (N := 4) rfl ?_); refine box_event ?hg (N := 4) ?hd (cs := #[.slice none 0 0]) (t := 27) ?hr ?_; (case hd => rfl); (case hg => rfl); (case hr => first | (go_simp; done) | (go_simp; rfl)); intro gb hg w3 hbox hb; have HO3 := Aside0.mk (show OutAt w3 w.heap.size gb [] from ⟨_, hbox, Kd.R_nil _ _ _ _ _⟩); have BM3 := Aside0.mk (blk_below BM2.out hb); have HB3 := Aside0.mk (below_step HB2.out hb); have HGB := Aside0.mk (show w.heap.size ≤ gb from hg ▸ below_size HB2.out); have HMB := Aside0.mk (show gm ≠ gb from by rw [hg]; exact Nat.ne_of_lt (blk_lt BM2.out)); have hm0 := (blk_cell BM3.out 0).trans rfl; have hm1 := (blk_cell BM3.out 1).trans rfl; have hm2 := (blk_cell BM3.out 2).trans rfl; have hm3 := (blk_cell BM3.out 3).trans rfl; clear HB2 BM2 hb hbox hg)
    | ((with_reducible refine gate_dst (N := 26) rfl ?_); refine slice_event ?hg (N := 26) ?hd (cs := #[.int .i64 a0, .int .i64 a1, .int .i64 a2, .int .i64 a3]) (n := 4) (t := 3) ?hr ?_; (case hd => rfl); (case hg => rfl); (case hr => first | (go_simp; done) | (go_simp; rfl)); intro gl hg w4 hbox hb; have BL := Aside0.mk (show w4.heap[gl]? = some (.cells ([a0, a1, a2, a3].map (Value.int .i64)).toArray 3 (0, 0)) from hbox); have HO4 := Aside0.mk (HO3.out.below hb); have BM4 := Aside0.mk (blk_below BM3.out hb); have HB4 := Aside0.mk (below_step HB3.out hb); have HLB := Aside0.mk (show gl ≠ gb from by rw [hg]; exact Nat.ne_of_gt HO3.out.lt); clear hm0 hm1 hm2 hm3 HB3 BM3 HO3 hb hbox hg))
  go_loopg [28] 4 (fun gg v28 wr => ∃ (i : Nat) (xs : List Int), v28 = .int .i64 (i : Int) ∧ i ≤ 4 ∧ 4 - i ≤ gg ∧ Aside0 (wire_Encode.nums k ([a0, a1, a2, a3].drop i) xs = some x1) ∧ Aside0 (OutAt wr w.heap.size gb xs) ∧ Aside0 (wr.heap[gm]? = some (.cells #[.int .i64 a0, .int .i64 a1, .int .i64 a2, .int .i64 a3, .slice A4 l4.length c4, .slice A5 l5.length c5, .slice A6 l6.length c6] 25 (0, 0))) ∧ Aside0 (wr.heap[gl]? = some (.cells ([a0, a1, a2, a3].map (Value.int .i64)).toArray 3 (0, 0))) ∧ Aside0 (Below w.heap.size w wr))
  case atStart => exact ⟨0, [], rfl, by omega, by omega, E1, HO4, BM4, BL, HB4⟩
  case round =>
    clear BL HO4 BM4 HB4
    obtain ⟨i, xs, rfl, hi, hgg, HK, HO5, BM5, BL5, HB5⟩ := hrel
    by_cases hlt : i < 4
    · have hltz : (i : Int) < 4 := by omega
      have h0z : (0 : Int) ≤ (i : Int) := by omega
      obtain ⟨d, hd, hl, hK⟩ := nums_drop (by simp; omega) HK.out
      have hcl := lit_get BL5.out i (by simp; omega)
      generalize [a0, a1, a2, a3].getD i 0 = x at hcl hd
      have HD := Aside0.mk hd
      have HL := Aside0.mk hl
      have HK6 := Aside0.mk hK
      clear hd hl hK HK
      go_wp2_with (go_at_call 13; refine (wire_number.calls k gb x xs d w _ uB HGB.out (HO5.out.below (by repeat (first | exact Below.refl _ _ | apply pw_below_drewN))) HD.out HL.out).mono ?_; rintro e w6 ⟨rfl, hO_, hb_, hk_⟩; have HO6 := Aside0.mk hO_; have HB6 := Aside0.mk hb_; have BM6 := Aside0.mk (hk_.blk BM5.out HMB.out (by decide)); have BL6 := Aside0.mk (hk_.blk BL5.out HLB.out (by decide)); clear HO5 HB5 BM5 BL5 hcl; clear hO_ hb_ hk_)
      go_roundg (4 - (i + 1))
      case measure => omega
      case rel => exact ⟨i + 1, xs ++ d, by go_num, by omega, by omega, HK6, HO6, BM6, BL6, HB6⟩
    · have hltz : ¬ (i : Int) < 4 := by omega
      obtain rfl := nums_done (by simp; omega) HK.out
      have hm4 := (blk_cell BM5.out 4).trans rfl
      have hm5 := (blk_cell BM5.out 5).trans rfl
      clear HK BL5 E1
      go_wp2_with (first
        | ((with_reducible refine gate_dst (N := 40) rfl ?_); refine slice_event ?hg (N := 40) ?hd (cs := #[.slice A4 l4.length c4, .slice A5 l5.length c5]) (n := 2) (t := 22) ?hr ?_; (case hd => rfl); (case hg => rfl); (case hr => first | (go_simp; done) | (go_simp; rfl)); intro gs hg w6 hbox hb; have BS := Aside0.mk hbox; have HO6 := Aside0.mk (HO5.out.below hb); have BM6 := Aside0.mk (blk_below BM5.out hb); have HB6 := Aside0.mk (below_step HB5.out hb); have HSB := Aside0.mk (show gs ≠ gb from by rw [hg]; exact Nat.ne_of_gt HO5.out.lt); clear hm4 hm5 HB5 BM5 HO5 hb hbox hg))
      go_loopg [42] 2 (fun gg v42 wr => ∃ (q : Nat) (xs : List Int), v42 = .int .i64 (q : Int) ∧ q ≤ 2 ∧ 2 - q ≤ gg ∧ Aside0 (wire_Encode.lists k ([l4, l5].drop q) xs = some x2) ∧ Aside0 (OutAt wr w.heap.size gb xs) ∧ Aside0 (wr.heap[gm]? = some (.cells #[.int .i64 a0, .int .i64 a1, .int .i64 a2, .int .i64 a3, .slice A4 l4.length c4, .slice A5 l5.length c5, .slice A6 l6.length c6] 25 (0, 0))) ∧ Aside0 (wr.heap[gs]? = some (.cells #[.slice A4 l4.length c4, .slice A5 l5.length c5] 22 (0, 0))) ∧ Aside0 (Below w.heap.size w wr))
      case atStart => exact ⟨0, xs, rfl, by omega, by omega, E2, HO6, BM6, BS, HB6⟩
      case round =>
        clear BS HO6 BM6 HB6
        obtain ⟨q, ys, rfl, hq, hgq, HK, HO7, BM7, BS7, HB7⟩ := hrel
        by_cases hlq : q < 2
        · have hlqz : (q : Int) < 2 := by omega
          have h0q : (0 : Int) ≤ (q : Int) := by omega
          obtain ⟨Aq, cq, lq, hcq, hrq, hdq⟩ : ∃ (Aq : Option Addr) (cq : Nat) (lq : List Int), (#[Value.slice A4 l4.length c4, .slice A5 l5.length c5] : Array Value)[q]? = some (.slice Aq lq.length cq) ∧ Rd1 w Aq cq lq ∧ [l4, l5].drop q = lq :: [l4, l5].drop (q + 1) := by
            match q, hlq with
            | 0, _ => exact ⟨A4, c4, l4, rfl, H4.out, rfl⟩
            | 1, _ => exact ⟨A5, c5, l5, rfl, H5.out, rfl⟩
          have hcl := (blk_cell BS7.out q).trans hcq
          have hK := HK.out
          rw [hdq, wire_Encode.lists] at hK
          obtain ⟨zs, hz, hK⟩ := Option.bind_eq_some_iff.mp hK
          obtain ⟨d, hd, hl, hz⟩ := nums_drop (L := (lq.length : Int) :: lq) (i := 0) (by simp) hz
          have hd : codec_Number.f k (IntKind.u64.wrap (lq.length : Int)) = some d := hd
          have HD := Aside0.mk hd
          have HL := Aside0.mk hl
          have HZ := Aside0.mk (show wire_Encode.nums k (lq.drop 0) (ys ++ d) = some zs from hz)
          have HRQ := Aside0.mk hrq
          have HK8 := Aside0.mk hK
          clear hd hl hK HK hz hrq hcq hdq
          go_wp2_with (go_at_call 13; refine (wire_number.calls k gb (lq.length : Int) ys d w _ uB HGB.out (HO7.out.below (by repeat (first | exact Below.refl _ _ | apply pw_below_drewN))) HD.out HL.out).mono ?_; rintro e w8 ⟨rfl, hO_, hb_, hk_⟩; have HO8 := Aside0.mk hO_; have HB8 := Aside0.mk hb_; have BM8 := Aside0.mk (hk_.blk BM7.out HMB.out (by decide)); have BS8 := Aside0.mk (hk_.blk BS7.out HSB.out (by decide)); clear HO7 HB7 BM7 BS7 hcl; clear hO_ hb_ hk_)
          go_loopg [52] lq.length (fun gg v52 wr => ∃ (j : Nat) (xs : List Int), v52 = .int .i64 (j : Int) ∧ j ≤ lq.length ∧ lq.length - j ≤ gg ∧ Aside0 (wire_Encode.nums k (lq.drop j) xs = some zs) ∧ Aside0 (OutAt wr w.heap.size gb xs) ∧ Aside0 (wr.heap[gm]? = some (.cells #[.int .i64 a0, .int .i64 a1, .int .i64 a2, .int .i64 a3, .slice A4 l4.length c4, .slice A5 l5.length c5, .slice A6 l6.length c6] 25 (0, 0))) ∧ Aside0 (wr.heap[gs]? = some (.cells #[.slice A4 l4.length c4, .slice A5 l5.length c5] 22 (0, 0))) ∧ Aside0 (Below w.heap.size w wr))
          case atStart => exact ⟨0, ys ++ d, rfl, by omega, by omega, HZ, HO8, BM8, BS8, HB8⟩
          case round =>
            clear BS8 HO8 BM8 HB8 HZ
            obtain ⟨j, us, rfl, hj, hgj, HK, HO9, BM9, BS9, HB9⟩ := hrel
            by_cases hlj : j < lq.length
            · have hljz : (j : Int) < (lq.length : Int) := by omega
              have h0j : (0 : Int) ≤ (j : Int) := by omega
              have hbig : lq.length ≤ 9223372036854775807 := HRQ.out.C.2.1
              obtain ⟨d2, hd, hl, hK⟩ := nums_drop hlj HK.out
              obtain ⟨ad, hA, hcl⟩ := Kd.at_int (HRQ.out.below HB9.out).C (j : Int) h0j hljz
              subst hA
              simp only [Go.IntWalk.toNatUp] at hcl
              rw [show rd lq (j : Int) = lq.getD j 0 from rfl] at hcl
              generalize lq.getD j 0 = x at hcl hd
              have HD2 := Aside0.mk hd
              have HL2 := Aside0.mk hl
              have HK10 := Aside0.mk hK
              clear hd hl hK HK
              go_wp2_with (go_at_call 13; refine (wire_number.calls k gb x us d2 w _ uB HGB.out (HO9.out.below (by repeat (first | exact Below.refl _ _ | apply pw_below_drewN))) HD2.out HL2.out).mono ?_; rintro e w10 ⟨rfl, hO_, hb_, hk_⟩; have HO10 := Aside0.mk hO_; have HB10 := Aside0.mk hb_; have BM10 := Aside0.mk (hk_.blk BM9.out HMB.out (by decide)); have BS10 := Aside0.mk (hk_.blk BS9.out HSB.out (by decide)); clear HO9 HB9 BM9 BS9 hcl; clear hO_ hb_ hk_)
              go_roundg (lq.length - (j + 1))
              case measure => omega
              case rel => exact ⟨j + 1, us ++ d2, by go_num, by omega, by omega, HK10, HO10, BM10, BS10, HB10⟩
            · have hljz : ¬ (j : Int) < (lq.length : Int) := by omega
              obtain rfl := nums_done hlj HK.out
              clear HK
              go_wp2
              go_roundg (2 - (q + 1))
              case measure => omega
              case rel => exact ⟨q + 1, us, by go_num, by omega, by omega, HK8, HO9, BM9, BS9, HB9⟩
        · have hlqz : ¬ (q : Int) < 2 := by omega
          obtain rfl : ys = x2 := by
            have hK := HK.out
            rw [List.drop_of_length_le (by simp; omega), wire_Encode.lists] at hK
            exact Option.some.inj hK
          obtain ⟨d, hd, hl, hz⟩ := nums_drop (L := [(l6.length : Int)]) (i := 0) (by simp) E3.out
          have hd : codec_Number.f k (IntKind.u64.wrap (l6.length : Int)) = some d := hd
          obtain rfl : ys ++ d = x3 := Option.some.inj hz
          have HD := Aside0.mk hd
          have HL := Aside0.mk hl
          have hm6 := (blk_cell BM7.out 6).trans rfl
          clear HK hd hl hz E2 E3 BS7
          go_wp2_with (go_at_call 13; refine (wire_number.calls k gb (l6.length : Int) ys d w _ uB HGB.out (HO7.out.below (by repeat (first | exact Below.refl _ _ | apply pw_below_drewN))) HD.out HL.out).mono ?_; rintro e w8 ⟨rfl, hO_, hb_, hk_⟩; have HO8 := Aside0.mk hO_; have HB8 := Aside0.mk hb_; have BM8 := Aside0.mk (hk_.blk BM7.out HMB.out (by decide)); clear HO7 HB7 BM7 hm6; have hm6 := (blk_cell BM8.out 6).trans rfl; clear hO_ hb_ hk_)
          go_loopg [69] l6.length (fun gg v69 wr => ∃ (i : Nat) (xs : List Int), v69 = .int .i64 (i : Int) ∧ i ≤ l6.length ∧ l6.length - i ≤ gg ∧ Aside0 (wire_Encode.nats k (l6.drop i) xs = some x4) ∧ Aside0 (OutAt wr w.heap.size gb xs) ∧ Aside0 (Below w.heap.size w wr))
          case atStart => exact ⟨0, ys ++ d, rfl, by omega, by omega, E4, HO8, HB8⟩
          case round =>
            clear HO8 BM8 HB8 E4 hm6
            obtain ⟨i, xs, rfl, hi, hgg, HK, HO9, HB9⟩ := hrel
            by_cases hlt : i < l6.length
            · have hltz : (i : Int) < (l6.length : Int) := by omega
              have h0z : (0 : Int) ≤ (i : Int) := by omega
              have hbig : l6.length ≤ 9223372036854775807 := H6.out.1.2.1
              obtain ⟨b, d2, hb, hd, hl, hK⟩ := nats_drop hlt HK.out
              obtain ⟨ad, c, hA, _, hKK, hc⟩ := Kd.C_get (Kd.C_below H6.out.1 HB9.out) ([] : List Int) (i : Int) h0z hltz
              obtain ⟨Ae, ce, rfl, hle, hie⟩ := hKK
              subst hA
              have hcl := hc 0 _ rfl
              rw [Nat.add_zero, show (Kd.slice 37 (Kd.int .u64)).sz = 1 from rfl, Nat.mul_one] at hcl
              simp only [Go.IntWalk.toNatUp] at hcl hle hie
              generalize l6.getD i [] = x at hcl hle hie hb
              have HE := Aside0.mk (And.intro hie hle)
              have HBB := Aside0.mk hb
              have HD2 := Aside0.mk hd
              have HL2 := Aside0.mk hl
              have HK10 := Aside0.mk hK
              obtain ⟨v, hb1, hb2⟩ := HO9.out
              have hs : wr.cell? ⟨gb, 0, none⟩ = some v := (blk_cell hb1 0).trans rfl
              have BG := Aside0.mk (blk_drew hb1)
              have HV := Aside0.mk (Kd.R_drew hb2)
              have HBd := Aside0.mk (below_drew1 HB9.out)
              have HLT := Aside0.mk (Kd.R_lt HV.out)
              replace HE := Aside0.mk (And.intro (Kd.C_below HE.out.1 (below_drew1 (Below.refl wr.heap.size wr))) HE.out.2)
              clear hb hd hl hK HK hie hle hc hb1 hb2 HO9
              go_wp2
              refine start_ (n := 6) (S := fun w' => w'.cell? ⟨gb, 0, none⟩ = some v) (ds := [5]) (.replicate 6 false) (by kernel_rfl) rfl rfl hs (fun hHeld => ?_)
              clear hs hcl
              generalize wr.drew = w9 at BG HV HBd HE HLT hHeld ⊢
              refine pure_ (i := 1) (N := some 74) (v := ?_) (a' := ?_) (uA 6 2) rfl rfl (by kernel_rfl) (fun _ _ _ h => h) (Or.inl ⟨by rfl, ?_⟩) ?_ ?_
              rotate_left
              · intro w'
                go_simp
                with_reducible rfl
              rotate_left
              · exact uQ
              refine take_ (i := 0) (N := some 73) (v := ?_) (a' := ?_) (uA 6 3) rfl rfl (by kernel_rfl) (fun _ _ _ h => h) (Or.inl ⟨by rfl, ?_⟩) hHeld ?_ ?_
              rotate_left
              · rintro w' s0
                go_simp
                with_reducible rfl
              rotate_left
              · exact uQ
              refine one_ (i := 2) (N := some 75) (uA 6 7) rfl rfl (by kernel_rfl) (by decide) (fun K hK => ?_)
              refine goes_ Try.func16 (by kernel_rfl) rfl #[.slice Ae x.length ce] (by rfl) rfl rfl uM ?_
              refine (nat_Bytes.calls k Ae ce x b _ HE.out.1 HE.out.2 HBB.out).mono ?_
              rintro e w10 ⟨v2, rfl, ho, hb⟩
              refine ⟨_, rfl, ?_⟩
              obtain ⟨A2, c2, e2⟩ := Kd.R_slice ho
              subst e2
              have HO2 := Aside0.mk ho
              have HB10 := Aside0.mk (below_step HBd.out hb)
              have BG10 := Aside0.mk (blk_below BG.out hb)
              have HV10 := Aside0.mk (Kd.R_below HV.out hb)
              have HLE := Aside0.mk (below_size hb)
              clear ho hb HBd BG HV
              refine hK.out _ _ ((blk_cell BG10.out 0).trans rfl) (fun hHeld => ?_)
              clear hK K
              refine norm_ (a' := ?_) ?_ ?_; rotate_left
              · exact uQ
              refine one_ (i := 3) (N := some 76) (uA 6 15) rfl rfl (by kernel_rfl) (by decide) (fun K hK => ?_)
              refine goes_ Try.func15 (by kernel_rfl) rfl #[.slice A2 b.length c2] (by rfl) rfl rfl uM ?_
              refine (codec_Bytes.calls k A2 c2 b d2 _ (Kd.R_reads' HO2.out).2.2 (Kd.R_reads' HO2.out).2.1 HD2.out).mono ?_
              rintro e w11 ⟨v3, rfl, ho, hb⟩
              refine ⟨_, rfl, ?_⟩
              obtain ⟨A3, c3, e3⟩ := Kd.R_slice ho
              subst e3
              have HO3 := Aside0.mk ho
              have HB11 := Aside0.mk (below_step HB10.out hb)
              have BG11 := Aside0.mk (blk_below BG10.out hb)
              have HV11 := Aside0.mk (Kd.R_below HV10.out hb)
              clear ho hb HB10 BG10 HV10 HO2
              refine hK.out _ _ ((blk_cell BG11.out 0).trans rfl) (fun hHeld => ?_)
              clear hK K
              refine norm_ (a' := ?_) ?_ ?_; rotate_left
              · exact uQ
              refine one_ (i := 4) (N := some 77) (uA 6 31) rfl rfl (by kernel_rfl) (by decide) (fun K hK => ?_)
              refine Kd.R_append_rows_step (Kd.int .u8) (w0 := w) w.heap.size (by rfl) (.tmp 73) (.tmp 76) 27 5 (.int .u8 0) 1 rfl Try.underlying27 info5 rfl (by decide) (by omega) v xs d2 A3 d2.length c3 (fun k_ => some k_ ≠ (.slice A3 d2.length c3 : Value).ownBlock) (fun _ => False) rfl rfl ?aO ?aR (fun _ _ h => h) (fun _ h => h.elim) ?aF ?aB ?aS ?aL ?_
              case aR => exact (Kd.R_reads' HO3.out).2.2
              case aB => exact HB11.out
              case aF => exact fun k_ hk he => by have := Kd.R_lt HO3.out k_ he.symm; omega
              case aO => exact Kd.R_mono (Kd.R_tight rfl HV11.out) (fun k_ hk he => by have h1 := HLT.out k_ hk.symm; have h2 := Kd.R_base HO3.out k_ he.symm; have h3 := HLE.out; omega)
              case aS => exact below_size HB11.out
              case aL => have := HL2.out; omega
              intro v4 w12 ho hb hg hat
              obtain ⟨A4', c4', e4⟩ := Kd.R_slice ho
              subst e4
              have HO4 := Aside0.mk ho
              have BG12 := Aside0.mk (blk_grown BG11.out hg (not_bytes BG11.out (by decide) HV11.out))
              have HB12 := Aside0.mk hb
              clear ho hb hg hat HB11 HV11 BG11 HO3 HLT HLE
              refine hK.out _ _ ((blk_cell BG12.out 0).trans rfl) (fun hHeld => ?_)
              clear hK K
              refine norm_ (a' := ?_) ?_ ?_; rotate_left
              · exact uQ
              have hs3 : w12.cell? ⟨gb, 0, none⟩ = some v := (blk_cell BG12.out 0).trans rfl
              have hf3 := blk_frozen BG12.out 0
              refine last_ (i := 5) (N := none) (uA 6 63) rfl rfl (by kernel_rfl) (by decide) (fun K hK => ?_)
              refine skip_ (w1 := ?_) (by rfl) rfl ?_ ?_
              rotate_left
              · go_simp
                rfl
              refine hK.out _ _ ?_; clear hK K
              refine done_ (by kernel_rfl) ?_
              clear hs3 hf3
              go_wp2
              go_roundg (l6.length - (i + 1))
              case measure => omega
              case rel =>
                have HO5 := HO4.out
                rw [List.length_append] at HO5
                exact ⟨i + 1, xs ++ d2, by go_num, by omega, by omega, HK10, ⟨_, blk_put (cs := #[v]) BG12.out 0 _ rfl, Kd.R_mono (R_off1 HO5 BG12.out (by decide)) (fun _ _ => trivial)⟩, ⟨HB12.out.setCell (p := ⟨gb, 0, none⟩) HGB.out _⟩⟩
            · have hltz : ¬ (i : Int) < (l6.length : Int) := by omega
              obtain rfl : xs = x4 := by
                have hK := HK.out
                rw [List.drop_of_length_le (by omega), wire_Encode.nats] at hK
                exact Option.some.inj hK
              obtain ⟨v, hb1, hb2⟩ := HO9.out
              obtain ⟨Av, cv, ev⟩ := Kd.R_slice hb2
              subst ev
              have hs : wr.cell? ⟨gb, 0, none⟩ = some (.slice Av xs.length cv) := (blk_cell hb1 0).trans rfl
              have HV := Aside0.mk hb2
              clear HK hb1 hb2 HO9
              by_cases hbg : xs.length > 1048576
              · have hbz : decide ((1048576 : Int) < (xs.length : Int)) = true := decide_eq_true (by omega)
                have hres := HRES.out
                rw [if_pos hbg] at hres
                obtain ⟨rfl, rfl⟩ := Prod.mk.inj hres
                clear hbg hres HRES
                go_wp2
                go_ret2
                exact ⟨_, rfl, Kd.R_nil _ _ _ _ _, HB9.out⟩
              · have hbz : decide ((1048576 : Int) < (xs.length : Int)) = false := decide_eq_false (by omega)
                have hres := HRES.out
                rw [if_neg hbg] at hres
                obtain ⟨rfl, rfl⟩ := Prod.mk.inj hres
                clear hbg hres HRES
                go_wp2
                go_ret2
                exact ⟨_, rfl, HV.out, HB9.out⟩
set_option maxHeartbeats 8000000 in
set_option maxRecDepth 100000 in
theorem wire_Encode.bad (a0 a1 a2 a3 : Int) (A4 : Option Addr) (c4 : Nat) (l4 : List Int) (A5 : Option Addr) (c5 : Nat) (l5 : List Int) (A6 : Option Addr) (c6 : Nat) (l6 : List (List Int)) (w : World) (h4 : Rd1 w A4 c4 l4) (h5 : Rd1 w A5 c5 l5) (h6 : Kd.C (Kd.slice 37 (Kd.int .u64)) w A6 l6.length l6 ∧ l6.length ≤ c6) (hr : wire_Right.f a0 a1 a2 a3 l4 l5 l6 = some false) :
    Calls Try.prog 7 #[.agg #[.int .i64 a0, .int .i64 a1, .int .i64 a2, .int .i64 a3, .slice A4 l4.length c4, .slice A5 l5.length c5, .slice A6 l6.length c6]] w fun e w' => e = .returned (.tuple #[.slice none 0 0, .int .i64 16]) ∧ Below w.heap.size w w' := by
  have HB := Aside0.mk (Below.refl w.heap.size w)
  have H4 := Aside0.mk h4
  have H5 := Aside0.mk h5
  have H6 := Aside0.mk h6
  have HR := Aside0.mk hr
  clear h4 h5 h6 hr
  go_enter Try.func7, Try.ntmps7
  go_wp2_with (first
    | ((with_reducible refine gate_dst (N := 1) rfl ?_); refine box_event ?hg (N := 1) ?hd (cs := #[.int .i64 a0, .int .i64 a1, .int .i64 a2, .int .i64 a3, .slice A4 l4.length c4, .slice A5 l5.length c5, .slice A6 l6.length c6]) (t := 25) ?hr ?_; (case hd => rfl); (case hg => rfl); (case hr => first | (go_simp; done) | (go_simp; rfl)); intro gm hg w1 hbox hb; have BM := Aside0.mk hbox; have HB1 := Aside0.mk (below_step HB.out hb); have hm0 := (blk_cell hbox 0).trans rfl; have hm1 := (blk_cell hbox 1).trans rfl; have hm2 := (blk_cell hbox 2).trans rfl; have hm3 := (blk_cell hbox 3).trans rfl; have hm4 := (blk_cell hbox 4).trans rfl; have hm5 := (blk_cell hbox 5).trans rfl; have hm6 := (blk_cell hbox 6).trans rfl; clear HB hb hbox hg)
    | (go_at_call 12; ((with_reducible refine (wire_Right.call7 a0 a1 a2 a3 A4 c4 l4 A5 c5 l5 A6 c6 l6 false _ (H4.out.below uB) (H5.out.below uB) ⟨Kd.C_below H6.out.1 uB, H6.out.2⟩ HR.out).mono ?_); rintro e w2 ⟨rfl, hb⟩; have BM2 := Aside0.mk (blk_below BM.out hb); have HB2 := Aside0.mk (below_step HB1.out hb); clear hm0 hm1 hm2 hm3 hm4 hm5 hm6 BM HB1 hb)))
  go_ret2
  exact ⟨rfl, uB⟩
theorem wire_Encode.call7 (k : Nat) (a0 a1 a2 a3 : Int) (A4 : Option Addr) (c4 : Nat) (l4 : List Int) (A5 : Option Addr) (c5 : Nat) (l5 : List Int) (A6 : Option Addr) (c6 : Nat) (l6 : List (List Int)) (r1 : List Int) (r2 : Int) (w : World) (h4 : Rd1 w A4 c4 l4) (h5 : Rd1 w A5 c5 l5) (h6 : Kd.C (Kd.slice 37 (Kd.int .u64)) w A6 l6.length l6 ∧ l6.length ≤ c6) (h : wire_Encode.f k a0 a1 a2 a3 l4 l5 l6 = some (r1, r2)) :
    Calls Try.prog 7 #[.agg #[.int .i64 a0, .int .i64 a1, .int .i64 a2, .int .i64 a3, .slice A4 l4.length c4, .slice A5 l5.length c5, .slice A6 l6.length c6]] w fun e w' => ∃ v0_ : Value, e = .returned (.tuple #[v0_, .int .i64 r2]) ∧ Kd.R (Kd.int .u8) 5 w' w.heap.size (fun _ => True) v0_ r1 ∧ Below w.heap.size w w' := by
  unfold wire_Encode.f at h
  obtain ⟨r, hr, h⟩ := Option.bind_eq_some_iff.mp h
  cases r with
  | true =>
    rw [if_pos rfl] at h
    obtain ⟨x1, e1, h⟩ := Option.bind_eq_some_iff.mp h
    obtain ⟨x2, e2, h⟩ := Option.bind_eq_some_iff.mp h
    obtain ⟨x3, e3, h⟩ := Option.bind_eq_some_iff.mp h
    obtain ⟨x4, e4, h⟩ := Option.bind_eq_some_iff.mp h
    exact wire_Encode.good k a0 a1 a2 a3 A4 c4 l4 A5 c5 l5 A6 c6 l6 x1 x2 x3 x4 r1 r2 w h4 h5 h6 hr e1 e2 e3 e4 (Option.some.inj h)
  | false =>
    rw [if_neg (by decide)] at h
    obtain ⟨rfl, rfl⟩ := Prod.mk.inj (Option.some.inj h)
    refine (wire_Encode.bad a0 a1 a2 a3 A4 c4 l4 A5 c5 l5 A6 c6 l6 w h4 h5 h6 hr).mono ?_
    rintro e w' ⟨rfl, hb⟩
    exact ⟨_, rfl, Kd.R_nil _ _ _ _ _, hb⟩
theorem wire_Encode.calls (k : Nat) (a0 a1 a2 a3 : Int) (A4 : Option Addr) (c4 : Nat) (l4 : List Int) (A5 : Option Addr) (c5 : Nat) (l5 : List Int) (A6 : Option Addr) (c6 : Nat) (l6 : List (List Int)) (r1 : List Int) (r2 : Int) (w : World) (hr4 : Kd.C (Kd.int .i64) w A4 l4.length l4) (hc4 : l4.length ≤ c4) (hr5 : Kd.C (Kd.int .i64) w A5 l5.length l5) (hc5 : l5.length ≤ c5) (hr6 : Kd.C (Kd.slice 37 (Kd.int .u64)) w A6 l6.length l6) (hc6 : l6.length ≤ c6) (h : wire_Encode.f k a0 a1 a2 a3 l4 l5 l6 = some (r1, r2)) :
    Calls Try.prog 7 #[.agg #[.int .i64 a0, .int .i64 a1, .int .i64 a2, .int .i64 a3, .slice A4 l4.length c4, .slice A5 l5.length c5, .slice A6 l6.length c6]] w fun e w' => ∃ v0_ : Value, e = .returned (.tuple #[v0_, .int .i64 r2]) ∧ Kd.R (Kd.int .u8) 5 w' w.heap.size (fun _ => True) v0_ r1 ∧ Below w.heap.size w w' :=
  wire_Encode.call7 k a0 a1 a2 a3 A4 c4 l4 A5 c5 l5 A6 c6 l6 r1 r2 w ⟨hr4, hc4⟩ ⟨hr5, hc5⟩ ⟨hr6, hc6⟩ h
end Go.Proofs.Ytanmfddlncdncab.F
end
section
namespace Go.Proofs.Ytanmfddlncdncab.F
open Go.RowKit Go.Proofs.YtanmfddlncdncabW.PrintWords Go.Proofs.YtanmfddlncdncabW.PrintLast Go.Proofs.YtanmfddlncdncabW.PrintMore
attribute [local go_sem] max2_int min2_int max_two min_two max_three min_three max_four min_four
set_option linter.unusedVariables false
set_option linter.unusedSimpArgs false
def windbreaklaw12_awake.f (k : Nat)  : Option (Bool) := (wire_Encode.f k 2 4 2 0 ([] : List Int) ([] : List Int) ([] : List (List Int))).bind fun bt124 => (if bt124.2 = 0 then (some ((strOfNums bt124.1).toList == (strOfNums (([2, 4, 2, 0, 0, 0, 0] : List Int))).toList)) else (some false))
set_option maxHeartbeats 8000000 in
set_option maxRecDepth 100000 in
theorem windbreaklaw12_awake.calls (k : Nat)  (r : Bool) (w : World) (h : windbreaklaw12_awake.f k  = some r) :
  Calls Try.prog 6 #[] w fun e w' => e = .returned (.bool r) ∧ Below w.heap.size w w' := by
 have hu25 := Try.underlying25
 have HB := Aside0.mk (Below.refl w.heap.size w)
 have H : ((wire_Encode.f k 2 4 2 0 ([] : List Int) ([] : List Int) ([] : List (List Int))).bind fun bt124 => (if bt124.2 = 0 then (some ((strOfNums bt124.1).toList == (strOfNums (([2, 4, 2, 0, 0, 0, 0] : List Int))).toList)) else (some false))) = some r := h
 clear h
 replace H := ub H; obtain ⟨⟨t124, t127⟩, A1, H⟩ := H
 (try dsimp only at H)
 by_cases c2 : t127 = 0
 ·
  rw [if_pos c2] at H
  have c2b0 : (t127 == 0) = true := beq_iff_eq.mpr c2
  have c2b1 : (t127 != 0) = false := bne_eq_false_iff_eq.mpr c2
  clear c2
  obtain ⟨y128, hy128⟩ : ∃ y_ : List Int, y_ = (([2, 4, 2, 0, 0, 0, 0] : List Int)) := ⟨_, rfl⟩
  replace H : (some ((strOfNums t124).toList == (strOfNums y128).toList)) = some r := by first | (rw [hy128]; with_reducible exact H) | (have H2_ := (Option.bind_some _ _).symm.trans H; rw [hy128]; with_reducible exact H2_) | (have H2_ := (Option.bind_some _ _).symm.trans H; with_reducible exact H2_) | with_reducible exact H | (rw [hy128]; exact H) | exact H
  have Ny128 := Aside0.mk hy128; clear hy128
  obtain rfl := Option.some.inj H
  go_enter Try.func6, Try.ntmps6
  go_wp2_with (first | ((with_reducible refine gate_callee (f := 7) rfl ?_); refine goesL_ (some 5) rfl rfl Try.func7 (by kernel_rfl) rfl #[.agg #[.int .i64 2, .int .i64 4, .int .i64 2, .int .i64 0, .slice none 0 0, .slice none 0 0, .slice none 0 0]] rfl uM ?_; (refine (wire_Encode.calls k 2 4 2 0 _ _ ([] : List Int) _ _ ([] : List Int) _ _ ([] : List (List Int)) t124 t127 _ ?side1 ?side2 ?side3 ?side4 ?side5 ?side6 A1.out).mono ?_); (case side1 => exact Kd.C_nil _ _); (case side2 => exact Nat.le_refl _); (case side3 => exact Kd.C_nil _ _); (case side4 => exact Nat.le_refl _); (case side5 => exact Kd.C_nil _ _); (case side6 => exact Nat.le_refl _); rintro e w3 ⟨v125, rfl, ho0, hb⟩; refine ⟨_, rfl, ?_⟩; have HO126 := Aside0.mk (Kd.R_lower ho0 (below_size uB)); replace HB := uy hb; (try clear hb ho0); have hcv4 := own_string (P := Try.prog) Try.underlying27 Try.underlying5 Try.underlying9 (Kd.own_of_R HO126.out)) | ((with_reducible refine gate_dst (N := 13) rfl ?_); (try (refine gate_guard (by rfl) ?_; dsimp only)); refine Kd.R_lit (Kd.int .u8) _ 5 ?hg (N := 13) ?hd (xs := ([2, 4, 2, 0, 0, 0, 0] : List Int)) (inner := [.int .u8 2, .int .u8 4, .int .u8 2, .int .u8 0, .int .u8 0, .int .u8 0, .int .u8 0]) (ok := fun _ => True) (okp := fun _ => True) ?hr ?hp (fun _ hk => hk) trivial (Below.refl _ _) (Nat.le_refl _) (by simp) ?_; (case hd => rfl); (case hg => rfl); (case hr => first | (go_simp; done) | (go_simp; rfl) | (go_simp; simp only [u64_u8]; done) | (go_simp; simp only [u64_u8]; rfl)); (case hp => exact (Reps.one (show Kd.M (Kd.int .u8) _ _ _ 2 [.int .u8 2] from rfl) (Reps.one (show Kd.M (Kd.int .u8) _ _ _ 4 [.int .u8 4] from rfl) (Reps.one (show Kd.M (Kd.int .u8) _ _ _ 2 [.int .u8 2] from rfl) (Reps.one (show Kd.M (Kd.int .u8) _ _ _ 0 [.int .u8 0] from rfl) (Reps.one (show Kd.M (Kd.int .u8) _ _ _ 0 [.int .u8 0] from rfl) (Reps.one (show Kd.M (Kd.int .u8) _ _ _ 0 [.int .u8 0] from rfl) (Reps.one (show Kd.M (Kd.int .u8) _ _ _ 0 [.int .u8 0] from rfl) (Reps.none _ _))))))))); intro v129 w5 ho6 hb hg_ hnew_; clear hg_ hnew_; (first | rw [← Ny128.out] at ho6 | (simp only [Int.reduceToNat] at ho6; rw [← Ny128.out] at ho6)); have HO130 := Aside0.mk (Kd.R_lower (Kd.R_new' ho6 (Kd.R_lt (uR HO126.out))) (below_size uB)); replace HO126 := ueR HO126 ho6 hb; replace HB := uy hb; clear hb ho6; have hcv7 := own_string (P := Try.prog) Try.underlying27 Try.underlying5 Try.underlying9 (Kd.own_of_R HO130.out)))
  go_ret
  exact ⟨uF, uB⟩
 rw [if_neg c2] at H
 have c2b0 : (t127 == 0) = false := beq_eq_false_iff_ne.mpr c2
 have c2b1 : (t127 != 0) = true := bne_iff_ne.mpr c2
 obtain rfl := Option.some.inj H
 go_enter Try.func6, Try.ntmps6
 go_wp2_with (first | ((with_reducible refine gate_callee (f := 7) rfl ?_); refine goesL_ (some 5) rfl rfl Try.func7 (by kernel_rfl) rfl #[.agg #[.int .i64 2, .int .i64 4, .int .i64 2, .int .i64 0, .slice none 0 0, .slice none 0 0, .slice none 0 0]] rfl uM ?_; (refine (wire_Encode.calls k 2 4 2 0 _ _ ([] : List Int) _ _ ([] : List Int) _ _ ([] : List (List Int)) t124 t127 _ ?side1 ?side2 ?side3 ?side4 ?side5 ?side6 A1.out).mono ?_); (case side1 => exact Kd.C_nil _ _); (case side2 => exact Nat.le_refl _); (case side3 => exact Kd.C_nil _ _); (case side4 => exact Nat.le_refl _); (case side5 => exact Kd.C_nil _ _); (case side6 => exact Nat.le_refl _); rintro e w8 ⟨v125, rfl, ho0, hb⟩; refine ⟨_, rfl, ?_⟩; have HO126 := Aside0.mk (Kd.R_lower ho0 (below_size uB)); replace HB := uy hb; (try clear hb ho0)))
 go_ret
 exact ⟨uF, uB⟩
end Go.Proofs.Ytanmfddlncdncab.F
end
