/- Proved: the law PrimeParts of layer 5: each number is a product of primes, of which each is the least one of what is left; for every input, without a condition. -/
import Derived.Laws.Externs
import Derived.Test.YteabkedhdgnhgaaProg
import Derived.Below
import Derived.Deep.Draws
import Derived.Deep.AppendLies
import Derived.Maps.AppendAt
import Derived.OwnWalk
import Derived.Laws.BytesArg
import Derived.Laws.MakeOwn
import Derived.Laws.OwnMore
import Derived.Deep.OwnRows
import Derived.Tactics
import Derived.Lib.ConvBytes
import Derived.Laws.Slices
import Derived.WalkKit
import Derived.KernelRfl
import Derived.RowKit3
import Derived.Deep.LoopGhost
import Derived.Deep.QuietTactic
import Derived.BigQuiet
import Derived.WideLaws
import Derived.Deep.DeepCutAuto
import Derived.Deep.CutBlock
import Derived.Deep.RegionHeld3
import Derived.Laws.Rows
import Derived.Lib.AppendStr
import Derived.ArgAppend
import Derived.Laws.IdiomCopy
import Derived.OrdersHeld
import Derived.Laws.BitsLemmas
import Derived.RowKit
import Derived.Test.YteabkedhdgnhgaaWWords
import Derived.Test.YteabkedhdgnhgaaWLast
import Derived.Test.YteabkedhdgnhgaaWTab
import Derived.Test.YteabkedhdgnhgaaWFour
import Derived.Test.YteabkedhdgnhgaaWQPut
import Derived.Test.YteabkedhdgnhgaaWApart
import Derived.Test.YteabkedhdgnhgaaWArr
import Derived.Test.YteabkedhdgnhgaaWZeros
import Derived.Test.YteabkedhdgnhgaaWFoot
import Derived.Test.YteabkedhdgnhgaaWKept
import Derived.Test.YteabkedhdgnhgaaWShare
import Derived.Test.YteabkedhdgnhgaaWN
import Derived.Test.YteabkedhdgnhgaaWFootNe
import Derived.Test.YteabkedhdgnhgaaWAt
import Derived.Test.YteabkedhdgnhgaaWEqStruct
import Derived.Test.YteabkedhdgnhgaaWRepsOne
import Derived.Test.YteabkedhdgnhgaaWInv
import Derived.Test.YteabkedhdgnhgaaWInvWords
import Derived.Test.YteabkedhdgnhgaaWGuard
import Derived.Test.YteabkedhdgnhgaaWNEv
import Derived.Test.YteabkedhdgnhgaaWMore
import Derived.RangeFuncFrom
import Derived.RangeFuncLeaves
import Derived.Shelf.Abstract
import Derived.OwnWalkIn
import Derived.TacticsInMore
import Derived.LoopNIn
import Derived.LoopIn
import Derived.Test.YteabkedhdgnhgaaRows
import Derived.ProofKit
import Derived.OpenShut
import Derived.ShutString
import Derived.ChangeOld
import Derived.SizedLaws

namespace Go.Proofs.Yteabkedhdgnhgaa.F
open Go.RowKit Go.Proofs.YteabkedhdgnhgaaW.PrintWords Go.Proofs.YteabkedhdgnhgaaW.PrintLast Go.Proofs.YteabkedhdgnhgaaW.PrintMore
attribute [local go_sem] max2_int min2_int max_two min_two max_three min_three max_four min_four   -- for this text's walks alone
set_option linter.unusedVariables false
set_option linter.unusedSimpArgs false



def errW : Option Int → Value
  | none => .nilIface
  | some c => .iface 0 (.int .i64 c)
theorem errW_none : errW none = .nilIface := rfl
theorem errW_some (c : Int) : errW (some c) = .iface 0 (.int .i64 c) := rfl

/-- make([]T, 0, c): nothing yet, with room. -/
theorem R_make0 {P : Program} {ops : Array Oper} {rest : List Oper} {o : Oper} {a : Act} {Q : Exit → Act → World → Prop} {α : Type} (d : Kd α) {w0 W : World} (base e : Nat) (hgd : o.guard = none) {N : Tmp} (_hd : o.dst = some N) (t : TypeId) (x y : Operand) (ho : o.op = .makeSlice t x y) (c : Nat) (hx : a.eval x = .int .i64 0) (hy : a.eval y = .int .i64 (c : Int))
    (ht : P.underlying t = some (.slice e)) (z : Value) (bytes : Nat) (hinfo : (P.info? e).map (fun i => (i.zero, i.size, i.bytes)) = some (some z, d.sz, bytes)) (z0 : α) {ok : Nat → Prop} (hfresh : ok W.heap.size) (hl : c * bytes ≤ 281474976710656) (hc : c ≤ 9223372036854775807) (HB : Below base w0 W) (hbase : base ≤ W.heap.size)
    (h : ∀ v1 w1, d.R e w1 base ok v1 (List.replicate (0 : Int).toNat z0) → Below base w0 w1 → W.grownBy w1 none → (∃ b, v1.ownBlock = some b ∧ W.heap.size ≤ b) → wpList P ops Q rest (a.put o.dst v1) w1) : wpList P ops Q (o :: rest) a W := by
  obtain ⟨i0, hi, hzz⟩ := Option.map_eq_some_iff.1 hinfo
  simp only [Prod.mk.injEq] at hzz
  obtain ⟨hz0, hz1, hz2⟩ := hzz
  have hr := run_make (P := P) W t e i0 z ht hi hz0 .i64 .i64 0 (c : Int) (Int.le_refl _) (by omega)
    (by
      have h3 : ((i0.bytes * c : Nat) : Int) ≤ 281474976710656 := by rw [hz2, Nat.mul_comm]; omega
      rwa [Int.natCast_mul] at h3) (by omega)
  simp only [Int.toNat_natCast] at hr
  rw [hz1] at hr
  refine Kd.event_run hgd (w1 := W.alloc (.cells (madeCells z.cells (c * d.sz)) e)) (v := .slice (some ⟨W.heap.size, 0, none⟩) 0 c) ?_ (h _ _ ⟨fun k hk => ?_, [], ?_, ?_⟩ (HB.alloc hbase _) (World.grownBy_alloc W _ none) ⟨W.heap.size, by simp [Value.ownBlock], Nat.le_refl _⟩)
  · simp [execOp, ho, hx, hy, hr]
  · have : W.heap.size = k := by simpa [Value.ownBlock] using hk
    subst this
    exact hfresh
  · simpa using World.ownsRow_made (base := base) (e := e) (size := d.sz) W _ c hbase (by simpa [maxLen] using hc) (size_madeCells _ _)
  · exact ⟨by simp, fun j p hj => by simp at hj⟩

/-- A slice against nil. -/
theorem clone_eq {P : Program} (w : World) (d : Nat) (t e : TypeId) (a : Option Addr) (n c n' c' : Nat) (h : P.underlying t = some (.slice e)) : (Op.equalIn (d + 1) t (.slice a n c) (.slice none n' c')).run P w = .ok a.isNone w := by
  cases a <;> simp [Op.equalIn, run_underlying h]
theorem clone_nil {P : Program} {t e : TypeId} (h : P.underlying t = some (.slice e)) (w : World) (a : Option Addr) (n c n' c' : Nat) : (binOp .eql t (.slice a n c) (.slice none n' c')).run P w = .ok (.bool a.isNone) w := by
  simp only [binOp]
  simp [Op.equal, Op.maxDepth, clone_eq w 9999 t e a n c n' c' h]

/-- '[]byte(s)': a row that is read only (its block bears the conversion's mark), told by the blocks it lies in: all of them new. -/
theorem V_bytes {P : Program} {ops : Array Oper} {rest : List Oper} {o : Oper} {a : Act} {Q : Exit → Act → World → Prop} {w0 W : World} (base e : Nat) (hgd : o.guard = none) {N : Tmp} (_hd : o.dst = some N) (s : ByteArray) (hs : s.size ≤ 9223372036854775807)
    (hrun : (execOp a.eval o).run P W = .ok (.value (.slice (some ⟨W.heap.size, 0, none⟩) s.size (grownCap W s.size 0 e))) (Go.Lib.bytesWorld W e s)) (HB : Below base w0 W) (hbase : base ≤ W.heap.size)
    (h : ∀ v1 w1, Kd.V (Kd.int .u8) e w1 base (fun k_ => W.heap.size ≤ k_) v1 (bytesOf s) → Below base w0 w1 → W.grownBy w1 none → (∀ k, v1.ownBlock = some k → W.heap.size ≤ k) → wpList P ops Q rest (a.put o.dst v1) w1) : wpList P ops Q (o :: rest) a W := by
  have hb : Below W.heap.size W (Go.Lib.bytesWorld W e s) := bytes_below (Below.refl _ _) (Nat.le_refl _) e s
  refine Kd.event_run hgd hrun (h _ _ ⟨some ⟨W.heap.size, 0, none⟩, grownCap W s.size 0 e, by rw [bytesOf_length], by rw [bytesOf_length]; exact grownCap_ge W s.size 0 e, ?_⟩ (bytes_below HB hbase e s) (grown_of_below hb none) ?_)
  · intro W' hW
    have hr := bytes_reads W e s hs
    refine Kd.C_of_reads (d := (0 : Int)) (h1 := fun _ => rfl) ⟨rfl, by rw [bytesOf_length]; exact hs, fun hn => ⟨_, rfl, fun j hj => ?_⟩⟩
    rw [bytesOf_length] at hj
    obtain ⟨ad, he, hc⟩ := hr.2.2 (by omega)
    obtain rfl := Option.some.inj he
    have h2 := hc j hj
    have h3 : W'.heap[W.heap.size]? = (Go.Lib.bytesWorld W e s).heap[W.heap.size]? := hW _ (Nat.le_refl _) (by rw [Go.Lib.bytesWorld_size]; omega)
    rw [add_plain] at h2 ⊢
    rw [← h2]
    simp only [World.cell?, h3]
  · intro k hk
    have : W.heap.size = k := by simpa [Value.ownBlock] using hk
    omega

theorem u64_u8 (z : Int) : IntKind.u64.wrap (IntKind.u8.wrap z) = z % 256 := by
  simp [IntKind.wrap, IntKind.bits, IntKind.signed]
  omega

/-- A carry that may be. -/
def carry01 (c : Int) : Bool := decide (c = 0 ∨ c = 1)
def add64_s (x y c : Int) : Int := ((x.toNat + y.toNat + c.toNat) % 18446744073709551616 : Nat)
def add64_c (x y c : Int) : Int := ((x.toNat + y.toNat + c.toNat) / 18446744073709551616 : Nat)
def sub64_s (x y c : Int) : Int := ((x.toNat + 18446744073709551616 - y.toNat - c.toNat) % 18446744073709551616 : Nat)
def sub64_c (x y c : Int) : Int := (if x.toNat < y.toNat + c.toNat then 1 else 0 : Nat)
def add64Entry_ : Array Value → Sem Value := (Extern.MathBitsCarry.rows.get ⟨0, by decide⟩).2
def sub64Entry_ : Array Value → Sem Value := (Extern.MathBitsCarry.rows.get ⟨1, by decide⟩).2
theorem carry_cases {c : Int} (h : carry01 c = true) : c = 0 ∨ c = 1 := of_decide_eq_true h
theorem add64_any {P : Program} {f : FuncId} {fn : Func} (hf : P.funcs[f]? = some fn) (hname : (fn.name == "runtime.NumGoroutine") = false) (hb : fn.body.isNone = true) (hn : Extern.findNext fn = none) (he : Extern.find fn = some add64Entry_) (x y c : Int) (w : World) (h : carry01 c = true) :
    (callFunc f #[.int .u64 x, .int .u64 y, .int .u64 c]).run P w = .ok (.value (.tuple #[.int .u64 (add64_s x y c), .int .u64 (add64_c x y c)])) w := by
  rw [run_callFunc_extern hf hname hb hn he]
  rcases carry_cases h with rfl | rfl <;> rfl
theorem sub64_any {P : Program} {f : FuncId} {fn : Func} (hf : P.funcs[f]? = some fn) (hname : (fn.name == "runtime.NumGoroutine") = false) (hb : fn.body.isNone = true) (hn : Extern.findNext fn = none) (he : Extern.find fn = some sub64Entry_) (x y c : Int) (w : World) (h : carry01 c = true) :
    (callFunc f #[.int .u64 x, .int .u64 y, .int .u64 c]).run P w = .ok (.value (.tuple #[.int .u64 (sub64_s x y c), .int .u64 (sub64_c x y c)])) w := by
  rw [run_callFunc_extern hf hname hb hn he]
  rcases carry_cases h with rfl | rfl <;> rfl

theorem add64_run (x y c : Int) (w : World) (h : carry01 c = true) : (callFunc 27 #[.int .u64 x, .int .u64 y, .int .u64 c]).run Try.prog w = .ok (.value (.tuple #[.int .u64 (add64_s x y c), .int .u64 (add64_c x y c)])) w := add64_any Try.func27 (by kernel_rfl) (by kernel_rfl) (by kernel_rfl) (by kernel_rfl) x y c w h
theorem info5 : (Try.prog.info? 5).map (fun i => (i.zero, i.size, i.bytes)) = some (some (.int .u8 0), 1, 1) := by kernel_rfl
theorem info34 : (Try.prog.info? 34).map (fun i => (i.zero, i.size, i.bytes)) = some (some (.int .u64 0), 1, 8) := by kernel_rfl
-- the values' own types
def rd_L1 (xs : List (List Int)) (i : Int) : (List Int) := xs.getD i.toNat ([] : List Int)
theorem at_L1 {w : World} {A : Option Addr} {n : Nat} {xs : List (List Int)} (h : Kd.C (Kd.slice 5 (Kd.int .u8)) w A n xs) (i : Int) (h0 : 0 ≤ i) (h1 : i < n) : ∃ ad A0 c0, A = some ad ∧ w.cell? (ad.add i.toNat) = some (.slice A0 (rd_L1 xs i).length c0) ∧ (rd_L1 xs i).length ≤ c0 ∧ (Kd.int .u8).C w A0 (rd_L1 xs i).length (rd_L1 xs i) := by
  obtain ⟨ad, c, e, _, hK, hc0⟩ := Kd.C_get h ([] : List Int) i h0 h1
  have hc : ∀ j u, c[j]? = some u → w.cell? (ad.add (i.toNat * 1 + j)) = some u := hc0
  obtain ⟨A0, c0, rfl, l0, g0⟩ := hK
  exact ⟨ad, A0, c0, e, by have hq := hc 0 _ rfl; rwa [Nat.mul_one, Nat.add_zero] at hq, l0, g0⟩

def rd_L4 (xs : List (List Int)) (i : Int) : (List Int) := xs.getD i.toNat ([] : List Int)
theorem at_L4 {w : World} {A : Option Addr} {n : Nat} {xs : List (List Int)} (h : Kd.C (Kd.slice 3 (Kd.int .i64)) w A n xs) (i : Int) (h0 : 0 ≤ i) (h1 : i < n) : ∃ ad A0 c0, A = some ad ∧ w.cell? (ad.add i.toNat) = some (.slice A0 (rd_L4 xs i).length c0) ∧ (rd_L4 xs i).length ≤ c0 ∧ (Kd.int .i64).C w A0 (rd_L4 xs i).length (rd_L4 xs i) := by
  obtain ⟨ad, c, e, _, hK, hc0⟩ := Kd.C_get h ([] : List Int) i h0 h1
  have hc : ∀ j u, c[j]? = some u → w.cell? (ad.add (i.toNat * 1 + j)) = some u := hc0
  obtain ⟨A0, c0, rfl, l0, g0⟩ := hK
  exact ⟨ad, A0, c0, e, by have hq := hc 0 _ rfl; rwa [Nat.mul_one, Nat.add_zero] at hq, l0, g0⟩

end Go.Proofs.Yteabkedhdgnhgaa.F

namespace Go.Proofs.Yteabkedhdgnhgaa.F
open Go.RowKit Go.Shelf
set_option linter.unusedVariables false
set_option linter.unusedSimpArgs false
attribute [local go_sem] Oper.semAt_some
/-- 2, 3, and what neither divides. -/
def wheel (i : Nat) : Nat := if i = 0 then 2 else if i = 1 then 3 else 5 + 6 * ((i - 2) / 2) + 2 * ((i - 2) % 2)
theorem wheel_even (j : Nat) : wheel (2 + 2 * j) = 5 + 6 * j := by
  unfold wheel
  rw [if_neg (by omega), if_neg (by omega)]
  omega
theorem wheel_odd (j : Nat) : wheel (3 + 2 * j) = 7 + 6 * j := by
  unfold wheel
  rw [if_neg (by omega), if_neg (by omega)]
  omega
theorem wheel_mono {i j : Nat} (h : i < j) : wheel i < wheel j := by
  unfold wheel
  repeat' split
  all_goals omega
theorem wheel_le {i j : Nat} (h : i ≤ j) : wheel i ≤ wheel j := by
  rcases Nat.lt_or_eq_of_le h with h | rfl
  · exact Nat.le_of_lt (wheel_mono h)
  · exact Nat.le_refl _
theorem wheel_two (i : Nat) : 2 ≤ wheel i := wheel_le (i := 0) (Nat.zero_le i)
/-- What a round is handed: a number from 2 on. -/
abbrev Wn := { y : Int // 2 ≤ y }
def wheelS (i : Nat) : Wn := ⟨(wheel i : Int), by have := wheel_two i; omega⟩
def uptoW (k : Nat) : List Wn := (List.range k).map wheelS
theorem uptoW_succ (k : Nat) : uptoW (k + 1) = uptoW k ++ [wheelS k] := by simp [uptoW, List.range_succ]
theorem uptoW_length (k : Nat) : (uptoW k).length = k := by simp [uptoW]
/-- m of the wheel's numbers have a square of at most n. -/
def Many (n m : Nat) : Prop := (∀ i, i < m → wheel i * wheel i ≤ n) ∧ n < wheel m * wheel m
theorem Many.lt {n m i : Nat} (h : Many n m) (hi : wheel i * wheel i ≤ n) : i < m := by
  rcases Nat.lt_or_ge i m with h1 | h1
  · exact h1
  · have := Nat.mul_le_mul (wheel_le h1) (wheel_le h1)
    have := h.2
    omega
theorem Many.ge {n m i : Nat} (h : Many n m) (hi : n < wheel i * wheel i) : m ≤ i := by
  rcases Nat.lt_or_ge i m with h1 | h1
  · have := h.1 i h1
    omega
  · exact h1
theorem wheel_ge (i : Nat) : i ≤ wheel i := by
  unfold wheel
  repeat' split
  all_goals omega
theorem many_ex (n : Nat) : ∃ m, Many n m := by
  have h : ∀ k : Nat, (∃ m, m ≤ k ∧ Many n m) ∨ (∀ i, i < k → wheel i * wheel i ≤ n) := by
    intro k
    induction k with
    | zero => exact Or.inr (fun i hi => absurd hi (Nat.not_lt_zero _))
    | succ k ih =>
      rcases ih with ⟨m, h1, h2⟩ | h1
      · exact Or.inl ⟨m, by omega, h2⟩
      · by_cases h2 : wheel k * wheel k ≤ n
        · refine Or.inr (fun i hi => ?_)
          by_cases e : i = k
          · subst e; exact h2
          · exact h1 i (by omega)
        · exact Or.inl ⟨k, by omega, h1, by omega⟩
  rcases h (n + 2) with ⟨m, _, h2⟩ | h1
  · exact ⟨m, h2⟩
  · have h2 := h1 (n + 1) (by omega)
    have h3 := wheel_ge (n + 1)
    have h4 := Nat.mul_le_mul h3 h3
    have : n + 1 ≤ (n + 1) * (n + 1) := Nat.le_mul_of_pos_left _ (by omega)
    omega
/-- All blocks of cells lie as they lay. -/
def KeepsCells (W W' : World) : Prop := ∀ (b : Nat) (cs : Array Value) (t : TypeId) (z : Nat × Nat), W.heap[b]? = some (.cells cs t z) → W'.heap[b]? = some (.cells cs t z)
theorem KeepsCells.refl (W : World) : KeepsCells W W := fun _ _ _ _ h => h
theorem KeepsCells.t {A B C : World} (h : KeepsCells A B) (k : KeepsCells B C) : KeepsCells A C := fun b cs t z hb => k b cs t z (h b cs t z hb)
theorem KeepsCells.b {w : World} (W : World) (l : Nat) (o o' : Obj) (_ : w.heap.size ≤ l) (h : W.heap[l]? = some o) (hc : o.isCells = false) (_ : o.isWalk = false) : KeepsCells W (W.putObj l o') := by
  intro b cs t z hb
  have hne : l ≠ b := by
    intro e
    subst e
    rw [h] at hb
    cases hb
    simp [Obj.isCells] at hc
  have := (grownBy_putObj' W l o').block b (Array.getElem?_eq_some_iff.1 hb).1 (by intro e; cases e; exact hne rfl)
  rw [this]; exact hb
theorem KeepsCells.of_alloc (W : World) (o : Obj) : KeepsCells W (W.alloc o) := fun b cs t z hb => (World.grownBy_alloc W o none).block b (Array.getElem?_eq_some_iff.1 hb).1 (by intro e; cases e) ▸ hb
theorem cell_of {W : World} {b i : Nat} {cs : Array Value} {t : TypeId} {z : Nat × Nat} {v : Value} (h : W.heap[b]? = some (.cells cs t z)) (hv : cs[i]? = some v) : W.cell? ⟨b, i, none⟩ = some v := by simp [World.cell?, h, hv]
set_option maxHeartbeats 2000000 in
set_option maxRecDepth 100000 in
theorem divisors.calls (F : Fence) (k : Nat) (hf : F.fn 33) (hro : F.round = none) (n : Int) (w : World) :
    CallsIn F k Try.prog 33 #[.int .u64 n] w fun e w' => e = .returned (.func (.func 37) #[] #[.pointer (some ⟨w.heap.size, 0, none⟩)]) ∧ w' = w.alloc (.cells #[.int .u64 n] 34) := by
  refine callsIn_of_wp Try.func33 rfl hf ?_ hro
  simp only [Try.ntmps33, List.size_toArray, List.length_cons, List.length_nil, Nat.reduceAdd, Nat.reduceSub, Array.replicate_succ, Array.replicate_zero, List.push_toArray, List.append_toArray, List.nil_append, List.cons_append]
  gi_wp2
  go_ret
  exact ⟨rfl, rfl⟩
end Go.Proofs.Yteabkedhdgnhgaa.F

namespace Go.Proofs.Yteabkedhdgnhgaa.F
open Go.RowKit Go.Shelf Go.Proofs.YteabkedhdgnhgaaW.PrintWords
set_option linter.unusedVariables false
set_option linter.unusedSimpArgs false
attribute [local go_sem] Oper.semAt_some
set_option maxHeartbeats 2000000 in
set_option maxRecDepth 100000 in
theorem divisors1.calls (F : Fence) (n : Nat) (h6 : F.fn 37) (hro : F.round = none) (hn : 1 ≤ n) (l Bn : Nat) (x m : Nat) (hx : x < 1099511627776) (hm : Many x m) (J Jx : List Wn → World → Prop)
    (hY : ∀ pre y W, J pre W → pre.length < m → YieldAt F (n - 1) Try.prog l #[.int .u64 y.1] W fun e W' =>
      (e = .returned (.bool true) ∧ J (pre ++ [y]) W' ∧ KeepsCells W W') ∨ (e = .returned (.bool false) ∧ Jx (pre ++ [y]) W'))
    (W : World) (hJ : AbidesFrom W.heap.size J) (hBn : W.heap[Bn]? = some (.cells #[.int .u64 (x : Int)] 34 (0, 0))) (h0 : J [] W) :
    CallsIn F n Try.prog 37 #[.func (.yield l) #[] #[], .pointer (some ⟨Bn, 0, none⟩)] W fun e W' => (∃ v, e = .returned v) ∧
      ((∃ ys, ys = uptoW m ∧ J ys W') ∨ (∃ pre, (∃ k, k ≤ m ∧ pre = uptoW k) ∧ Jx pre W')) := by
  refine callsIn_of_wp Try.func37 rfl h6 ?_ hro
  simp only [Try.ntmps37, List.size_toArray, List.length_cons, List.length_nil, Nat.reduceAdd, Nat.reduceSub, Array.replicate_succ, Array.replicate_zero, List.push_toArray, List.append_toArray, List.nil_append, List.cons_append]
  have hlit : (W.alloc (.cells #[.int .u64 2, .int .u64 3] 34)).heap[W.heap.size]? = some (.cells #[.int .u64 2, .int .u64 3] 34 (0, 0)) := World.alloc_heap_new W _
  have hBn1 := KeepsCells.of_alloc W (.cells #[.int .u64 2, .int .u64 3] 34) Bn _ _ _ hBn
  have h01 : J [] (W.alloc (.cells #[.int .u64 2, .int .u64 3] 34)) := hJ _ _ _ none h0 (World.grownBy_alloc W _ none) (fun r e => by cases e)
  gi_wp2
  gi_loopw [8] (fun i wr => ∃ k : Nat, k ≤ 2 ∧ k ≤ m ∧ i = .int .i64 (k : Int) ∧ J (uptoW k) wr ∧ wr.heap[W.heap.size]? = some (.cells #[.int .u64 2, .int .u64 3] 34 (0, 0)) ∧ wr.heap[Bn]? = some (.cells #[.int .u64 (x : Int)] 34 (0, 0))) (fun i _ => 2 - (intOf i).toNat)
  case atStart => exact ⟨0, by omega, by omega, rfl, h01, hlit, hBn1⟩
  case round =>
    obtain ⟨k, hk, hkm, rfl, hJs, hl, hb⟩ := hrel
    have hn0 : wr.cell? ⟨Bn, 0, none⟩ = some (.int .u64 (x : Int)) := cell_of hb rfl
    have hc0 : wr.cell? ⟨W.heap.size, 0, none⟩ = some (.int .u64 2) := cell_of hl rfl
    have hc1 : wr.cell? ⟨W.heap.size, 1, none⟩ = some (.int .u64 3) := cell_of hl rfl
    obtain rfl | rfl | rfl : k = 0 ∨ k = 1 ∨ k = 2 := by omega
    · by_cases h4 : x < 4
      · have h4z : decide ((x : Int) < 4) = true := decide_eq_true (by omega)
        have hm0 : m = 0 := by have := hm.ge (i := 0) (by show x < 2 * 2; omega); omega
        subst hm0
        gi_wp2
        refine ⟨fun _ h => (by cases h), ?_⟩
        gi_wp2
        refine bodyPost_ret (results_none rfl _ _ _) rfl ?_
        exact ⟨⟨_, rfl⟩, .inl ⟨_, rfl, hJs⟩⟩
      · have h4z : decide ((x : Int) < 4) = false := decide_eq_false (by omega)
        have hm0 : 0 < m := hm.lt (i := 0) (by show 2 * 2 ≤ x; omega)
        obtain ⟨fn, tmps, assign, body, hy, hR⟩ := hY _ (wheelS 0) wr hJs (by rw [uptoW_length]; exact hm0)
        rw [show (wheelS 0).1 = 2 from rfl] at hy
        gi_wp2
        refine hR.mono ?_
        rintro e W3 (⟨rfl, hJ3, hk3⟩ | ⟨rfl, hJx3⟩)
        · gi_wp2
          go_roundw
          case rel => exact ⟨0 + 1, by omega, by omega, by first | rfl | simp, by rw [uptoW_succ]; exact hJ3, hk3 _ _ _ _ hl, hk3 _ _ _ _ hb⟩
          case measure => simp [intOf]
        · gi_wp2
          refine bodyPost_ret (results_none rfl _ _ _) rfl ?_
          exact ⟨⟨_, rfl⟩, .inr ⟨_, ⟨0 + 1, by omega, (uptoW_succ _).symm⟩, hJx3⟩⟩
    · by_cases h4 : x < 9
      · have h4z : decide ((x : Int) < 9) = true := decide_eq_true (by omega)
        have hm0 : m = 1 := by have := hm.ge (i := 1) (by show x < 3 * 3; omega); omega
        subst hm0
        gi_wp2
        refine ⟨fun _ h => (by cases h), ?_⟩
        gi_wp2
        refine bodyPost_ret (results_none rfl _ _ _) rfl ?_
        exact ⟨⟨_, rfl⟩, .inl ⟨_, rfl, hJs⟩⟩
      · have h4z : decide ((x : Int) < 9) = false := decide_eq_false (by omega)
        have hm0 : 1 < m := hm.lt (i := 1) (by show 3 * 3 ≤ x; omega)
        obtain ⟨fn, tmps, assign, body, hy, hR⟩ := hY _ (wheelS 1) wr hJs (by rw [uptoW_length]; exact hm0)
        rw [show (wheelS 1).1 = 3 from rfl] at hy
        gi_wp2
        refine hR.mono ?_
        rintro e W3 (⟨rfl, hJ3, hk3⟩ | ⟨rfl, hJx3⟩)
        · gi_wp2
          go_roundw
          case rel => exact ⟨1 + 1, by omega, by omega, by first | rfl | simp, by rw [uptoW_succ]; exact hJ3, hk3 _ _ _ _ hl, hk3 _ _ _ _ hb⟩
          case measure => simp [intOf]
        · gi_wp2
          refine bodyPost_ret (results_none rfl _ _ _) rfl ?_
          exact ⟨⟨_, rfl⟩, .inr ⟨_, ⟨1 + 1, by omega, (uptoW_succ _).symm⟩, hJx3⟩⟩
    · gi_wp2
      gi_loopw [5] (fun d wr => ∃ (D i k : Nat), d = .int .u64 (D : Int) ∧ D = 5 + 6 * i ∧ D ≤ 1048600 ∧ k ≤ m ∧ (k = 2 + 2 * i ∨ (k = m ∧ m + 1 = 2 + 2 * i)) ∧ J (uptoW k) wr ∧ wr.heap[Bn]? = some (.cells #[.int .u64 (x : Int)] 34 (0, 0))) (fun d _ => 2000000 - (intOf d).toNat)
      case atStart => exact ⟨5, 0, 2, rfl, rfl, by omega, hkm, Or.inl rfl, hJs, hb⟩
      case round =>
        clear hJs hl hb hn0 hc0 hc1
        obtain ⟨D, i, k, rfl, hD, hDm, hk2, hkk, hJs, hb⟩ := hrel
        have hn0 : wr.cell? ⟨Bn, 0, none⟩ = some (.int .u64 (x : Int)) := cell_of hb rfl
        have hw1 : wheel (2 + 2 * i) = D := by rw [wheel_even, hD]
        have hw2 : wheel (3 + 2 * i) = D + 2 := by rw [wheel_odd, hD]; omega
        have HD := Aside0.mk hD
        clear hD
        have hDD : D * D ≤ 1048600 * 1048600 := Nat.mul_le_mul hDm hDm
        have hDE : (D + 2) * (D + 2) ≤ 1048602 * 1048602 := Nat.mul_le_mul (by omega) (by omega)
        have c1 : ((D * D : Nat) : Int) = (D : Int) * (D : Int) := Int.natCast_mul D D
        have c2 : (((D + 2) * (D + 2) : Nat) : Int) = ((D : Int) + 2) * ((D : Int) + 2) := by simp
        have e1 : IntKind.u64.wrap ((D : Int) * (D : Int)) = (D : Int) * (D : Int) := by
          simp [IntKind.wrap, IntKind.bits, IntKind.signed]; omega
        have e2 : IntKind.u64.wrap ((D : Int) + 2) = (D : Int) + 2 := by
          simp [IntKind.wrap, IntKind.bits, IntKind.signed]; omega
        have e3 : IntKind.u64.wrap (((D : Int) + 2) * ((D : Int) + 2)) = ((D : Int) + 2) * ((D : Int) + 2) := by
          simp [IntKind.wrap, IntKind.bits, IntKind.signed]; omega
        have e4 : IntKind.u64.wrap ((D : Int) + 6) = (D : Int) + 6 := by
          simp [IntKind.wrap, IntKind.bits, IntKind.signed]; omega
        by_cases hd : D * D ≤ x
        · have hdz : decide ((D : Int) * (D : Int) ≤ (x : Int)) = true := decide_eq_true (by omega)
          have hlt : 2 + 2 * i < m := hm.lt (by rw [hw1]; exact hd)
          obtain rfl : k = 2 + 2 * i := by omega
          have hDs : D < 1048576 := by
            rcases Nat.lt_or_ge D 1048576 with h | h
            · exact h
            · have := Nat.mul_le_mul h h
              omega
          obtain ⟨fn, tmps, assign, body, hy, hR⟩ := hY _ (wheelS (2 + 2 * i)) wr hJs (by rw [uptoW_length]; exact hlt)
          rw [show (wheelS (2 + 2 * i)).1 = (D : Int) from by rw [← hw1]; rfl] at hy
          gi_wp2
          refine hR.mono ?_
          rintro e W3 (⟨rfl, hJ3, hk3⟩ | ⟨rfl, hJx3⟩)
          · have hb3 := hk3 _ _ _ _ hb
            have hn3 : W3.cell? ⟨Bn, 0, none⟩ = some (.int .u64 (x : Int)) := cell_of hb3 rfl
            have hJ3' : J (uptoW (3 + 2 * i)) W3 := by
              rw [show 3 + 2 * i = 2 + 2 * i + 1 from by omega, uptoW_succ]; exact hJ3
            clear hn0 hy hR
            by_cases hd2 : (D + 2) * (D + 2) ≤ x
            · have hdz2 : decide (((D : Int) + 2) * ((D : Int) + 2) ≤ (x : Int)) = true := decide_eq_true (by omega)
              have hlt2 : 3 + 2 * i < m := hm.lt (by rw [hw2]; exact hd2)
              obtain ⟨fn2, tmps2, assign2, body2, hy2, hR2⟩ := hY _ (wheelS (3 + 2 * i)) W3 hJ3' (by rw [uptoW_length]; exact hlt2)
              rw [show (wheelS (3 + 2 * i)).1 = (D : Int) + 2 from by show ((wheel (3 + 2 * i) : Nat) : Int) = _; rw [hw2]; simp] at hy2
              gi_wp2
              refine hR2.mono ?_
              rintro e W4 (⟨rfl, hJ4, hk4⟩ | ⟨rfl, hJx4⟩)
              · gi_wp2
                refine ⟨?_, ?measure⟩
                iterate 28 (apply Exists.intro)
                refine ⟨?rel, rfl⟩
                case rel => exact ⟨D + 6, i + 1, 4 + 2 * i, by simp, by have := HD.out; omega, by omega, by omega, Or.inl (by omega), by rw [show 4 + 2 * i = 3 + 2 * i + 1 from by omega, uptoW_succ]; exact hJ4, hk4 _ _ _ _ hb3⟩
                case measure => simp [intOf]; omega
              · gi_wp2
                refine bodyPost_ret (results_none rfl _ _ _) rfl ?_
                exact ⟨⟨_, rfl⟩, .inr ⟨_, ⟨3 + 2 * i + 1, by omega, by rw [uptoW_succ]⟩, hJx4⟩⟩
            · have hdz2 : decide (((D : Int) + 2) * ((D : Int) + 2) ≤ (x : Int)) = false := decide_eq_false (by omega)
              have hge2 : m ≤ 3 + 2 * i := hm.ge (by rw [hw2]; omega)
              gi_wp2
              refine ⟨fun _ h => (by cases h), ?_⟩
              gi_wp2
              refine ⟨?_, ?measure⟩
              iterate 28 (apply Exists.intro)
              refine ⟨?rel, rfl⟩
              case rel => exact ⟨D + 6, i + 1, 3 + 2 * i, by simp, by have := HD.out; omega, by omega, by omega, Or.inr ⟨by omega, by omega⟩, hJ3', hb3⟩
              case measure => simp [intOf]; omega
          · gi_wp2
            · exfalso
              have hq_ : ∃ b, some undef = some (Value.bool b) := ⟨_, by assumption⟩
              obtain ⟨b, hq_⟩ := hq_
              simp [undef] at hq_
            · exfalso
              have hq_ : ∃ b, some undef = some (Value.bool b) := ⟨_, by assumption⟩
              obtain ⟨b, hq_⟩ := hq_
              simp [undef] at hq_
            refine ⟨fun _ h => (by cases h), ?_⟩
            gi_wp2
            refine bodyPost_ret (results_none rfl _ _ _) rfl ?_
            exact ⟨⟨_, rfl⟩, .inr ⟨_, ⟨2 + 2 * i + 1, by omega, by rw [uptoW_succ]⟩, hJx3⟩⟩
        · have hdz : decide ((D : Int) * (D : Int) ≤ (x : Int)) = false := decide_eq_false (by omega)
          have hge : m ≤ 2 + 2 * i := hm.ge (by rw [hw1]; omega)
          obtain rfl : k = m := by omega
          gi_wp2
          go_end0
          first | exact ⟨⟨_, rfl⟩, .inl ⟨_, rfl, hJs⟩⟩ | exact ⟨⟨_, rfl⟩, .inl hJs⟩ | exact .inl hJs
end Go.Proofs.Yteabkedhdgnhgaa.F

namespace Go.Proofs.Yteabkedhdgnhgaa.F
open Go.RowKit Go.Shelf Go.Proofs.YteabkedhdgnhgaaW.PrintWords
set_option linter.unusedVariables false
set_option linter.unusedSimpArgs false
attribute [local go_sem] Oper.semAt_some
/-- The least divisor above 1. -/
def leastV (x : Nat) : Nat := ((List.range (x + 1)).find? fun d => decide (2 ≤ d ∧ d * d ≤ x ∧ x % d = 0)).getD x
theorem find_range {p : Nat → Bool} (k : Nat) : ∀ n : Nat, k < n → p k = true → (∀ j, j < k → p j = false) → (List.range n).find? p = some k := by
  intro n
  induction n with
  | zero => intro h; omega
  | succ n ih =>
    intro h hp hn
    rw [List.range_succ, List.find?_append]
    by_cases e : k = n
    · subst e
      have : (List.range k).find? p = none := by
        rw [List.find?_eq_none]
        intro j hj
        have := hn j (List.mem_range.1 hj)
        simp [this]
      rw [this]
      simp [hp]
    · rw [ih (by omega) hp hn]
      rfl
theorem leastV_none {x : Nat} (h : ∀ d, 2 ≤ d → d * d ≤ x → x % d ≠ 0) : leastV x = x := by
  unfold leastV
  have : (List.range (x + 1)).find? (fun d => decide (2 ≤ d ∧ d * d ≤ x ∧ x % d = 0)) = none := by
    rw [List.find?_eq_none]
    intro d _
    simp only [decide_eq_true_eq]
    rintro ⟨h1, h2, h3⟩
    exact h d h1 h2 h3
  rw [this]
  rfl
theorem leastV_some {x d : Nat} (h1 : 2 ≤ d) (h2 : d * d ≤ x) (h3 : x % d = 0) (h : ∀ j, 2 ≤ j → j < d → x % j ≠ 0) : leastV x = d := by
  unfold leastV
  have hdx : d ≤ d * d := Nat.le_mul_of_pos_left d (by omega)
  rw [find_range d (x + 1) (by omega) (by simp only [decide_eq_true_eq]; exact ⟨h1, h2, h3⟩) (fun j hj => ?_)]
  · rfl
  · simp only [decide_eq_false_iff_not]
    rintro ⟨a1, a2, a3⟩
    exact h j a1 hj a3
/-- Each divisor from 2 on has one of the wheel's numbers as a divisor that is no greater. -/
theorem wheel_div {x d : Nat} (h1 : 2 ≤ d) (h3 : x % d = 0) : ∃ i, wheel i ≤ d ∧ x % wheel i = 0 := by
  have hd : d ∣ x := Nat.dvd_of_mod_eq_zero h3
  by_cases e2 : d % 2 = 0
  · refine ⟨0, h1, ?_⟩
    exact Nat.mod_eq_zero_of_dvd (Nat.dvd_trans (Nat.dvd_of_mod_eq_zero e2) hd)
  · by_cases e3 : d % 3 = 0
    · refine ⟨1, ?_, ?_⟩
      · show 3 ≤ d
        omega
      · exact Nat.mod_eq_zero_of_dvd (Nat.dvd_trans (Nat.dvd_of_mod_eq_zero e3) hd)
    · have h6 : d % 6 = 1 ∨ d % 6 = 5 := by omega
      rcases h6 with h6 | h6
      · refine ⟨3 + 2 * (d / 6 - 1), ?_, ?_⟩ <;> rw [wheel_odd, show 7 + 6 * (d / 6 - 1) = d from by omega]
        · exact Nat.le_refl _
        · exact h3
      · refine ⟨2 + 2 * (d / 6), ?_, ?_⟩ <;> rw [wheel_even, show 5 + 6 * (d / 6) = d from by omega]
        · exact Nat.le_refl _
        · exact h3
theorem least_all {x m : Nat} (hm : Many x m) (h : ∀ i, i < m → x % wheel i ≠ 0) : leastV x = x := by
  refine leastV_none (fun d h1 h2 h3 => ?_)
  obtain ⟨i, hi, hx⟩ := wheel_div h1 h3
  have h4 := Nat.mul_le_mul hi hi
  exact h i (hm.lt (by omega)) hx
theorem least_at {x m k : Nat} (hm : Many x m) (hk : k < m) (h : ∀ i, i < k → x % wheel i ≠ 0) (hx : x % wheel k = 0) : leastV x = wheel k := by
  refine leastV_some (wheel_two k) (hm.1 k hk) hx (fun j h1 h2 h3 => ?_)
  obtain ⟨i, hi, hx⟩ := wheel_div h1 h3
  refine h i ?_ hx
  rcases Nat.lt_or_ge i k with h | h
  · exact h
  · have := wheel_le h
    omega
theorem cell_of_box_l {W : World} {B : Nat} {v : Value} {t : TypeId} (h : W.heap[B]? = some (.cells #[v] t (0, 0))) : W.cell? ⟨B, 0, none⟩ = some v ∧ W.frozen? ⟨B, 0, none⟩ = false := by
  constructor <;> simp [World.cell?, World.frozen?, h]
theorem cell_new_l (W : World) (v : Value) (t : TypeId) : (W.alloc (.cells #[v] t)).cell? ⟨W.heap.size, 0, none⟩ = some v ∧ (W.alloc (.cells #[v] t)).frozen? ⟨W.heap.size, 0, none⟩ = false :=
  cell_of_box_l (World.alloc_heap_new W _)
theorem cell_alloc_l {W : World} {a : Addr} {v : Value} (o : Obj) (h : W.cell? a = some v) : (W.alloc o).cell? a = some v := cell_kept h (World.grownBy_alloc W o none) (fun r e => by cases e)
theorem frozen_alloc_l {W : World} {a : Addr} {v : Value} (o : Obj) (h : W.cell? a = some v) (hf : W.frozen? a = false) : (W.alloc o).frozen? a = false := (frozen_kept h (World.grownBy_alloc W o none) (fun r e => by cases e)).trans hf
theorem divisors_stops (F : Fence) (n : Nat) (h6 : F.fn 37) (hro : F.round = none) (hn : 1 ≤ n) (Bn : Nat) (x m : Nat) (hx : x < 1099511627776) (hm : Many x m) (w : World) (hc : w.heap[Bn]? = some (.cells #[.int .u64 (x : Int)] 34 (0, 0))) :
    SeqStopsK F n Try.prog 37 #[.pointer (some ⟨Bn, 0, none⟩)] (fun y : Wn => #[Value.int .u64 y.1]) KeepsCells (fun ys => ys = uptoW m) (fun pre => ∃ k, k ≤ m ∧ pre = uptoW k) m w := fun l J Jx W hW hJ _ hY h0 =>
  divisors1.calls F n h6 hro hn l Bn x m hx hm J Jx hY W hJ ((hW.block Bn (Array.getElem?_eq_some_iff.1 hc).1).trans hc) h0
set_option maxRecDepth 100000 in
set_option maxHeartbeats 2000000 in
theorem least_in (F : Fence) (n : Nat) (h4 : F.fn 24) (h5 : F.fn 33) (h6 : F.fn 37) (hro : F.round = none) (hn : 3 ≤ n) (x : Nat) (hx : x < 1099511627776) (w : World) :
    CallsIn F n Try.prog 24 #[.int .u64 (x : Int)] w fun e W' => e = .returned (.int .u64 ((leastV x : Nat) : Int)) ∧ Below w.heap.size w W' := by
  have h1 : 1 ≤ n := by omega
  obtain ⟨m, hm⟩ := many_ex x
  refine callsIn_of_wp_marks Try.func24 rfl h4 ?_ hro
  simp only [Try.ntmps24, List.size_toArray, List.length_cons, List.length_nil, Nat.reduceAdd, Nat.reduceSub, Array.replicate_succ, Array.replicate_zero, List.push_toArray, List.append_toArray, List.nil_append, List.cons_append]
  have c0 := cell_new_l w (.int .u64 (x : Int)) 34
  have hq0 := cell_alloc_l (.cells #[.int .u64 0] 34) c0.1
  gi_wp2_with (gi_at_call 33; refine (divisors.calls F (n - 1) h5 hro _ _).mono ?_; rintro e w' ⟨rfl, rfl⟩)
  clear hq0
  have c1 := cell_new_l (w.alloc (.cells #[.int .u64 (x : Int)] 34)) (.int .u64 0) 34
  have c2 := World.alloc_heap_new ((w.alloc (.cells #[.int .u64 (x : Int)] 34)).alloc (.cells #[.int .u64 0] 34)) (.cells #[.int .u64 (x : Int)] 34)
  simp only [World.size_alloc] at c1 c2
  have hB0 : Below w.heap.size w (((w.alloc (.cells #[.int .u64 (x : Int)] 34)).alloc (.cells #[.int .u64 0] 34)).alloc (.cells #[.int .u64 (x : Int)] 34)) := (((Below.refl _ w).alloc (Nat.le_refl _) _).alloc (by simp) _).alloc (by simp; omega) _
  refine wpIn_rangeFunc_ownF hro h1 (gf := 37) (lb := #[.pointer (some ⟨w.heap.size + 1 + 1, 0, none⟩)]) rfl h6 (enters_of Try.func37 (by kernel_rfl) rfl)
    (divisors_stops F (n - 1) h6 hro (by omega) (w.heap.size + 1 + 1) x m hx hm _ c2) KeepsCells.t KeepsCells.b (Below.refl _ _) (fun _ => rfl)
    (fun pre W => ((∀ y ∈ pre, (x : Int) % y.1 ≠ 0) ∧ W.cell? ⟨w.heap.size, 0, none⟩ = some (.int .u64 (x : Int)) ∧ W.cell? ⟨w.heap.size + 1, 0, none⟩ = some (.int .u64 0) ∧ W.frozen? ⟨w.heap.size + 1, 0, none⟩ = false) ∧ Below w.heap.size w W)
    (fun c pre W => (c = .ret ∧ ∃ (p0 : List Wn) (y : Wn), pre = p0 ++ [y] ∧ (∀ z ∈ p0, (x : Int) % z.1 ≠ 0) ∧ (x : Int) % y.1 = 0 ∧ W.cell? ⟨w.heap.size + 1, 0, none⟩ = some (.int .u64 y.1)) ∧ Below w.heap.size w W)
    (OwnFrom.and (Own.from (fun s A B row hs hg hr => ⟨hs.1, cell_kept hs.2.1 hg hr, cell_kept hs.2.2.1 hg hr, (frozen_kept hs.2.2.1 hg hr).trans hs.2.2.2⟩) _) (ownFrom_below (Nat.le_refl _) (by simp; omega)))
    (fun c => OwnFrom.and (Own.from (fun s A B row hs hg hr => by obtain ⟨q1, p0, y, q2, q3, q4, q5⟩ := hs; exact ⟨q1, p0, y, q2, q3, q4, cell_kept q5 hg hr⟩) _) (ownFrom_below (Nat.le_refl _) (by simp; omega)))
    ⟨⟨by simp, cell_alloc_l _ (cell_alloc_l _ c0.1), cell_alloc_l _ c1.1, frozen_alloc_l _ c1.1 c1.2⟩, hB0⟩
    (fun y => { tmps := #[.int .u64 (x : Int), .pointer (some ⟨w.heap.size, 0, none⟩), .pointer (some ⟨w.heap.size + 1, 0, none⟩), .int .u64 y.1, .int .u64 (x : Int), .func (.func 37) #[] #[.pointer (some ⟨w.heap.size + 1 + 1, 0, none⟩)], .int .u64 y.1, undef, undef, undef, undef, undef, undef], defers := [] }) ?assign ?body ?done ?stop
  case assign =>
    intro l y W K hK
    gi_wp2
    exact hK
  case body =>
    rintro l pre ⟨y, hy2⟩ W ⟨⟨hp, hcw, hcr, hfr⟩, hB⟩ _
    have hy0 : (y == 0) = false := by simp; omega
    have hy1 : ¬ y = 0 := by omega
    gi_wp2
    · rename_i hxy
      have hxy' : (x : Int) % y = 0 := eq_of_beq hxy
      exact ⟨KeepsOthers.setCell _ _ _, ⟨rfl, pre, ⟨y, hy2⟩, rfl, hp, hxy', World.cell?_setCell_same' _ _ _ (by rw [hcr]; rfl)⟩, hB.setCell (p := ⟨w.heap.size + 1, 0, none⟩) (by simp) _⟩
    · rename_i hxy
      have hxy' : (x : Int) % y ≠ 0 := by simpa using hxy
      exact ⟨KeepsOthers.refl _, KeepsCells.refl _, ⟨fun z hz => (List.mem_append.1 hz).elim (hp z) (fun e => by simp at e; subst e; exact hxy'), hcw, hcr, hfr⟩, hB⟩
  case done =>
    rintro D ys W hD rfl ⟨⟨hne, hcw, hcr, hfr⟩, hB⟩ hK
    have hleast : leastV x = x := least_all hm (fun i hi h => hne (wheelS i) (List.mem_map.2 ⟨i, List.mem_range.2 hi, rfl⟩) (by
      show (x : Int) % ((wheel i : Nat) : Int) = 0
      omega))
    gi_wp2
    rw [hleast]
    have hK' := (KeepsOthers.setCell W ⟨w.heap.size + 1, 0, none⟩ (.int .u64 (x : Int))).same D _ hK rfl
    refine ⟨by simp, .inl ⟨_, _, rfl, run_takeDeferred hK', ?_⟩⟩
    have hc5 := cell_kept (World.cell?_setCell_same' W ⟨w.heap.size + 1, 0, none⟩ (.int .u64 (x : Int)) (by rw [hcr]; rfl)) (grownBy_putObj' _ D (.deferred none)) (fun r e => by cases e; exact ⟨_, hK', rfl⟩)
    refine ⟨.int .u64 (x : Int), ?_, rfl, (hB.setCell (p := ⟨w.heap.size + 1, 0, none⟩) (by simp) _).trans (belowK_b (w := w) (Nat.le_refl _) _ D _ _ (by simp at hD; omega) hK' rfl rfl)⟩
    simp [results, Try.f24, go_sem, hc5]
  case stop =>
    rintro D c pre W hD ⟨k, hkm, hpre⟩ ⟨⟨rfl, p0, y, hpy, hp0, hy, hcr⟩, hB⟩ hK
    have hk : ∃ k', k = k' + 1 ∧ p0 = uptoW k' ∧ y = wheelS k' := by
      cases k with
      | zero =>
        rw [hpre] at hpy
        have := congrArg List.length hpy
        simp [uptoW] at this
      | succ k' =>
        rw [hpre, uptoW_succ] at hpy
        obtain ⟨e1, e2⟩ := List.append_inj' hpy rfl
        exact ⟨k', rfl, e1.symm, by simpa using e2.symm⟩
    obtain ⟨k', rfl, rfl, rfl⟩ := hk
    have hleast : leastV x = wheel k' := least_at hm (by omega) (fun i hi h => hp0 (wheelS i) (List.mem_map.2 ⟨i, List.mem_range.2 hi, rfl⟩) (by
      show (x : Int) % ((wheel i : Nat) : Int) = 0
      omega)) (by
      have : (x : Int) % ((wheel k' : Nat) : Int) = 0 := hy
      omega)
    gi_wp2
    rw [hleast]
    refine ⟨by simp, .inl ⟨_, _, rfl, run_takeDeferred hK, ?_⟩⟩
    have hc5 := cell_kept hcr (grownBy_putObj' _ D (.deferred none)) (fun r e => by cases e; exact ⟨_, hK, rfl⟩)
    refine ⟨.int .u64 ((wheel k' : Nat) : Int), ?_, rfl, hB.trans (belowK_b (w := w) (Nat.le_refl _) W D _ _ (by simp at hD; omega) hK rfl rfl)⟩
    have hc6 : (W.putObj D (.deferred none)).cell? ⟨w.heap.size + 1, 0, none⟩ = some (.int .u64 ((wheel k' : Nat) : Int)) := hc5
    simp [results, Try.f24, go_sem, hc6]
def prime_least.f (x : Int) : Option Int := if 0 ≤ x ∧ x < 1099511627776 then some ((leastV x.toNat : Nat) : Int) else none
theorem prime_least.calls (a0 : Int) (r : Int) (w : World) (h : prime_least.f a0 = some r) :
    Calls Try.prog 24 #[.int .u64 a0] w fun e w' => e = .returned (.int .u64 r) ∧ Below w.heap.size w w' := by
  unfold prime_least.f at h
  by_cases hx : 0 ≤ a0 ∧ a0 < 1099511627776
  · rw [if_pos hx] at h
    obtain rfl := Option.some.inj h
    have e : a0 = ((a0.toNat : Nat) : Int) := by omega
    have hh := least_in .wide 3 trivial trivial trivial rfl (Nat.le_refl _) a0.toNat (by omega) w
    rw [← e] at hh
    exact (callsIn_wide (n := 3)).1 hh
  · rw [if_neg hx] at h
    cases h
end Go.Proofs.Yteabkedhdgnhgaa.F

namespace Go.Proofs.Yteabkedhdgnhgaa.F
open Go.RowKit Go.Proofs.YteabkedhdgnhgaaW.PrintWords Go.Proofs.YteabkedhdgnhgaaW.PrintLast Go.Proofs.YteabkedhdgnhgaaW.PrintMore
attribute [local go_sem] max2_int min2_int max_two min_two max_three min_three max_four min_four   -- for this text's walks alone
set_option linter.unusedVariables false
set_option linter.unusedSimpArgs false

/-! ### prime_Is: function 14 -/
def prime_Is.f (a0 : Int) : Option (Bool × Int) := if a0 ≥ 1099511627776 then (some (false, 1)) else (if a0 > 1 then ((prime_least.f a0).bind fun t110 => (some ((t110 == a0), 0))) else (some (false, 0)))
set_option maxHeartbeats 8000000 in
set_option maxRecDepth 100000 in
theorem prime_Is.calls (a0 : Int) (r1 : Bool) (r2 : Int) (w : World) (h : prime_Is.f a0 = some (r1, r2)) :
    Calls Try.prog 14 #[.int .u64 a0] w fun e w' => e = .returned (.tuple #[.bool r1, .int .i64 r2]) ∧ Below w.heap.size w w' := by
  have HB := Aside0.mk (Below.refl w.heap.size w)
  have H : (if a0 ≥ 1099511627776 then (some (false, 1)) else (if a0 > 1 then ((prime_least.f a0).bind fun t110 => (some ((t110 == a0), 0))) else (some (false, 0)))) = some (r1, r2) := h
  clear h
  by_cases c2 : a0 ≥ 1099511627776
  · rw [if_pos c2] at H
    have c2b0 : decide (1099511627776 ≤ a0) = true := decide_eq_true c2
    clear c2
    simp only [Option.some.injEq, Prod.mk.injEq] at H
    obtain ⟨rfl, rfl⟩ := H
    go_enter Try.func14, Try.ntmps14
    go_wp2
    go_ret2
    exact ⟨by first | rfl | (simp [errW_none, errW_some] <;> rfl) | (simp [*, errW_none, errW_some] <;> rfl), by repeat (first | (with_reducible first | exact HB.out | apply below_alloc | apply pw_below_drewN | apply below_drew1) | exact HB.out)⟩
  · rw [if_neg c2] at H
    have c2b0 : decide (1099511627776 ≤ a0) = false := decide_eq_false c2
    clear c2
    by_cases c3 : a0 > 1
    · rw [if_pos c3] at H
      have c3b0 : decide (1 < a0) = true := decide_eq_true c3
      clear c3
      replace H := Option.bind_eq_some_iff.mp H
      obtain ⟨t110, A40, H⟩ := H
      replace H : (some ((t110 == a0), 0)) = some (r1, r2) := H
      have A4 := Aside0.mk A40
      clear A40
      simp only [Option.some.injEq, Prod.mk.injEq] at H
      obtain ⟨rfl, rfl⟩ := H
      go_enter Try.func14, Try.ntmps14
      go_wp2_with (first | (go_at_call 24; (with_reducible refine (prime_least.calls a0 t110 _ A4.out).mono ?_); rintro e w5 ⟨rfl, hb⟩; have n0_ := Aside0.mk (below_step (by repeat (first | (with_reducible first | exact HB.out | apply below_alloc | apply pw_below_drewN | apply below_drew1) | exact HB.out)) hb); clear HB; have HB := n0_; clear n0_; (try clear hb); (try clear hb2); (try clear hk); (try clear hi)))
      go_ret2
      exact ⟨by first | rfl | (simp [errW_none, errW_some] <;> rfl) | (simp [*, errW_none, errW_some] <;> rfl), by repeat (first | (with_reducible first | exact HB.out | apply below_alloc | apply pw_below_drewN | apply below_drew1) | exact HB.out)⟩
    · rw [if_neg c3] at H
      have c3b0 : decide (1 < a0) = false := decide_eq_false c3
      clear c3
      simp only [Option.some.injEq, Prod.mk.injEq] at H
      obtain ⟨rfl, rfl⟩ := H
      go_enter Try.func14, Try.ntmps14
      go_wp2
      go_ret2
      exact ⟨by first | rfl | (simp [errW_none, errW_some] <;> rfl) | (simp [*, errW_none, errW_some] <;> rfl), by repeat (first | (with_reducible first | exact HB.out | apply below_alloc | apply pw_below_drewN | apply below_drew1) | exact HB.out)⟩

end Go.Proofs.Yteabkedhdgnhgaa.F

namespace Go.Proofs.Yteabkedhdgnhgaa.F
open Go.RowKit Go.Proofs.YteabkedhdgnhgaaW.PrintWords Go.Proofs.YteabkedhdgnhgaaW.PrintLast Go.Proofs.YteabkedhdgnhgaaW.PrintMore
attribute [local go_sem] max2_int min2_int max_two min_two max_three min_three max_four min_four   -- for this text's walks alone
set_option linter.unusedVariables false
set_option linter.unusedSimpArgs false

/-! ### prime_Least: function 16 -/
def prime_Least.f (a0 : Int) : Option (Int × Int) := if a0 < 2 then (some (0, 1)) else (if a0 ≥ 1099511627776 then (some (0, 1)) else ((prime_least.f a0).bind fun t118 => (some (t118, 0))))
set_option maxHeartbeats 8000000 in
set_option maxRecDepth 100000 in
theorem prime_Least.calls (a0 : Int) (r1 : Int) (r2 : Int) (w : World) (h : prime_Least.f a0 = some (r1, r2)) :
    Calls Try.prog 16 #[.int .u64 a0] w fun e w' => e = .returned (.tuple #[.int .u64 r1, .int .i64 r2]) ∧ Below w.heap.size w w' := by
  have HB := Aside0.mk (Below.refl w.heap.size w)
  have H : (if a0 < 2 then (some (0, 1)) else (if a0 ≥ 1099511627776 then (some (0, 1)) else ((prime_least.f a0).bind fun t118 => (some (t118, 0))))) = some (r1, r2) := h
  clear h
  by_cases c2 : a0 < 2
  · rw [if_pos c2] at H
    have c2b0 : decide (a0 < 2) = true := decide_eq_true c2
    clear c2
    simp only [Option.some.injEq, Prod.mk.injEq] at H
    obtain ⟨rfl, rfl⟩ := H
    go_enter Try.func16, Try.ntmps16
    go_wp2
    go_ret2
    exact ⟨by first | rfl | (simp [errW_none, errW_some] <;> rfl) | (simp [*, errW_none, errW_some] <;> rfl), by repeat (first | (with_reducible first | exact HB.out | apply below_alloc | apply pw_below_drewN | apply below_drew1) | exact HB.out)⟩
  · rw [if_neg c2] at H
    have c2b0 : decide (a0 < 2) = false := decide_eq_false c2
    clear c2
    by_cases c3 : a0 ≥ 1099511627776
    · rw [if_pos c3] at H
      have c3b0 : decide (1099511627776 ≤ a0) = true := decide_eq_true c3
      clear c3
      simp only [Option.some.injEq, Prod.mk.injEq] at H
      obtain ⟨rfl, rfl⟩ := H
      go_enter Try.func16, Try.ntmps16
      go_wp2
      go_ret2
      exact ⟨by first | rfl | (simp [errW_none, errW_some] <;> rfl) | (simp [*, errW_none, errW_some] <;> rfl), by repeat (first | (with_reducible first | exact HB.out | apply below_alloc | apply pw_below_drewN | apply below_drew1) | exact HB.out)⟩
    · rw [if_neg c3] at H
      have c3b0 : decide (1099511627776 ≤ a0) = false := decide_eq_false c3
      clear c3
      replace H := Option.bind_eq_some_iff.mp H
      obtain ⟨t118, A40, H⟩ := H
      replace H : (some (t118, 0)) = some (r1, r2) := H
      have A4 := Aside0.mk A40
      clear A40
      simp only [Option.some.injEq, Prod.mk.injEq] at H
      obtain ⟨rfl, rfl⟩ := H
      go_enter Try.func16, Try.ntmps16
      go_wp2_with (first | ((with_reducible refine gate_callee (f := 24) rfl ?_); refine goesL_ (some 11) rfl rfl Try.func24 (by kernel_rfl) rfl #[.int .u64 a0] rfl (by (try simp only [List.map_toArray, List.map_cons, List.map_nil]); first | done | rfl | (simp only [List.length_drop, List.length_take]; rfl)) ?_; (with_reducible refine (prime_least.calls a0 t118 _ A4.out).mono ?_); rintro e w5 ⟨rfl, hb⟩; refine ⟨_, rfl, ?_⟩; have n0_ := Aside0.mk (below_step (by repeat (first | (with_reducible first | exact HB.out | apply below_alloc | apply pw_below_drewN | apply below_drew1) | exact HB.out)) hb); clear HB; have HB := n0_; clear n0_; (try clear hb); (try clear hb2); (try clear hk); (try clear hi)))
      go_ret2
      exact ⟨by first | rfl | (simp [errW_none, errW_some] <;> rfl) | (simp [*, errW_none, errW_some] <;> rfl), by repeat (first | (with_reducible first | exact HB.out | apply below_alloc | apply pw_below_drewN | apply below_drew1) | exact HB.out)⟩

end Go.Proofs.Yteabkedhdgnhgaa.F

namespace Go.Proofs.Yteabkedhdgnhgaa.F
open Go.RowKit Go.Proofs.YteabkedhdgnhgaaW.PrintWords Go.Proofs.YteabkedhdgnhgaaW.PrintLast Go.Proofs.YteabkedhdgnhgaaW.PrintMore
attribute [local go_sem] max2_int min2_int max_two min_two max_three min_three max_four min_four   -- for this text's walks alone
set_option linter.unusedVariables false
set_option linter.unusedSimpArgs false

/-! ### windbreaklaw05_PrimeParts: function 7 -/
mutual
def windbreaklaw05_PrimeParts.j0 : Nat → Int → Bool → Option (Bool)
  | 0, _, _ => none
  | k + 1, x0, x15 => if x15 = true then (some true) else (windbreaklaw05_PrimeParts.l0 k x0 2 0)
def windbreaklaw05_PrimeParts.l0 : Nat → Int → Int → Int → Option (Bool)
  | 0, _, _, _ => none
  | k + 1, x3, x4, x5 => if x5 < 64 then (windbreaklaw05_PrimeParts.j2 k x3 x4 x5 (decide (x3 > 1))) else (windbreaklaw05_PrimeParts.j2 k x3 x4 x5 false)
def windbreaklaw05_PrimeParts.j2 : Nat → Int → Int → Int → Bool → Option (Bool)
  | 0, _, _, _, _ => none
  | k + 1, x3, x4, x5, x22 => if x22 = true then ((prime_Least.f x3).bind fun bt126 => (if bt126.2 = 0 then (if bt126.1 < x4 then (windbreaklaw05_PrimeParts.j3 k x3 x5 bt126.1 true) else (if bt126.1 = 0 then (none) else (windbreaklaw05_PrimeParts.j3 k x3 x5 bt126.1 ((Int.tmod x3 bt126.1) != 0)))) else (windbreaklaw05_PrimeParts.j3 k x3 x5 bt126.1 true))) else (some (x3 == 1))
def windbreaklaw05_PrimeParts.j3 : Nat → Int → Int → Int → Bool → Option (Bool)
  | 0, _, _, _, _ => none
  | k + 1, x3, x5, x6, x42 => if x42 = true then (some false) else ((prime_Is.f x6).bind fun bt128 => (if bt128.2 = 0 then (if bt128.1 = true then (if x6 = 0 then (none) else (windbreaklaw05_PrimeParts.l0 k (IntKind.u64.wrap (Int.tdiv x3 x6)) x6 (wrap64 (x5 + 1)))) else (some false)) else (some false)))
end
def windbreaklaw05_PrimeParts.f (k : Nat) (a0 : Int) : Option (Bool) := if a0 < 2 then (windbreaklaw05_PrimeParts.j0 k a0 true) else (windbreaklaw05_PrimeParts.j0 k a0 (decide (a0 ≥ 1099511627776)))
theorem windbreaklaw05_PrimeParts.mono_l : ∀ k, (∀ y0 y1, LeO (windbreaklaw05_PrimeParts.j0 k y0 y1) (windbreaklaw05_PrimeParts.j0 (k + 1) y0 y1)) ∧ (∀ y0 y1 y2, LeO (windbreaklaw05_PrimeParts.l0 k y0 y1 y2) (windbreaklaw05_PrimeParts.l0 (k + 1) y0 y1 y2)) ∧ (∀ y0 y1 y2 y3, LeO (windbreaklaw05_PrimeParts.j2 k y0 y1 y2 y3) (windbreaklaw05_PrimeParts.j2 (k + 1) y0 y1 y2 y3)) ∧ (∀ y0 y1 y2 y3, LeO (windbreaklaw05_PrimeParts.j3 k y0 y1 y2 y3) (windbreaklaw05_PrimeParts.j3 (k + 1) y0 y1 y2 y3))
  | 0 => ⟨fun _ _ r h => by simp [windbreaklaw05_PrimeParts.j0] at h, fun _ _ _ r h => by simp [windbreaklaw05_PrimeParts.l0] at h, fun _ _ _ _ r h => by simp [windbreaklaw05_PrimeParts.j2] at h, fun _ _ _ _ r h => by simp [windbreaklaw05_PrimeParts.j3] at h⟩
  | k + 1 => by
    obtain ⟨ih0, ih1, ih2, ih3⟩ := windbreaklaw05_PrimeParts.mono_l k
    refine ⟨?_, ?_, ?_, ?_⟩
    · intro y0 y1
      unfold windbreaklaw05_PrimeParts.j0
      repeat' first
      | (with_reducible exact ih0 _ _)
      | (with_reducible exact ih1 _ _ _)
      | (with_reducible exact ih2 _ _ _ _)
      | (with_reducible exact ih3 _ _ _ _)
      | (with_reducible exact LeO.refl _)
      | (with_reducible exact LeO.none _)
      | (with_reducible refine LeO.ite ?_ ?_)
      | (with_reducible refine LeO.bind ?_ (fun _ => ?_))
      | exact ih0 _ _
      | exact ih1 _ _ _
      | exact ih2 _ _ _ _
      | exact ih3 _ _ _ _
      | exact LeO.none _
      | refine LeO.ite ?_ ?_
      | refine LeO.bind ?_ (fun _ => ?_)
    · intro y0 y1 y2
      unfold windbreaklaw05_PrimeParts.l0
      repeat' first
      | (with_reducible exact ih0 _ _)
      | (with_reducible exact ih1 _ _ _)
      | (with_reducible exact ih2 _ _ _ _)
      | (with_reducible exact ih3 _ _ _ _)
      | (with_reducible exact LeO.refl _)
      | (with_reducible exact LeO.none _)
      | (with_reducible refine LeO.ite ?_ ?_)
      | (with_reducible refine LeO.bind ?_ (fun _ => ?_))
      | exact ih0 _ _
      | exact ih1 _ _ _
      | exact ih2 _ _ _ _
      | exact ih3 _ _ _ _
      | exact LeO.none _
      | refine LeO.ite ?_ ?_
      | refine LeO.bind ?_ (fun _ => ?_)
    · intro y0 y1 y2 y3
      unfold windbreaklaw05_PrimeParts.j2
      repeat' first
      | (with_reducible exact ih0 _ _)
      | (with_reducible exact ih1 _ _ _)
      | (with_reducible exact ih2 _ _ _ _)
      | (with_reducible exact ih3 _ _ _ _)
      | (with_reducible exact LeO.refl _)
      | (with_reducible exact LeO.none _)
      | (with_reducible refine LeO.ite ?_ ?_)
      | (with_reducible refine LeO.bind ?_ (fun _ => ?_))
      | exact ih0 _ _
      | exact ih1 _ _ _
      | exact ih2 _ _ _ _
      | exact ih3 _ _ _ _
      | exact LeO.none _
      | refine LeO.ite ?_ ?_
      | refine LeO.bind ?_ (fun _ => ?_)
    · intro y0 y1 y2 y3
      unfold windbreaklaw05_PrimeParts.j3
      repeat' first
      | (with_reducible exact ih0 _ _)
      | (with_reducible exact ih1 _ _ _)
      | (with_reducible exact ih2 _ _ _ _)
      | (with_reducible exact ih3 _ _ _ _)
      | (with_reducible exact LeO.refl _)
      | (with_reducible exact LeO.none _)
      | (with_reducible refine LeO.ite ?_ ?_)
      | (with_reducible refine LeO.bind ?_ (fun _ => ?_))
      | exact ih0 _ _
      | exact ih1 _ _ _
      | exact ih2 _ _ _ _
      | exact ih3 _ _ _ _
      | exact LeO.none _
      | refine LeO.ite ?_ ?_
      | refine LeO.bind ?_ (fun _ => ?_)
theorem windbreaklaw05_PrimeParts.mono : ∀ a0 k, LeO (windbreaklaw05_PrimeParts.f k a0) (windbreaklaw05_PrimeParts.f (k + 1) a0) := by
  intro a0 k
  obtain ⟨ih0, ih1, ih2, ih3⟩ := windbreaklaw05_PrimeParts.mono_l k
  unfold windbreaklaw05_PrimeParts.f
  repeat' first
      | (with_reducible exact ih0 _ _)
      | (with_reducible exact ih1 _ _ _)
      | (with_reducible exact ih2 _ _ _ _)
      | (with_reducible exact ih3 _ _ _ _)
      | (with_reducible exact LeO.refl _)
      | (with_reducible exact LeO.none _)
      | (with_reducible refine LeO.ite ?_ ?_)
      | (with_reducible refine LeO.bind ?_ (fun _ => ?_))
      | exact ih0 _ _
      | exact ih1 _ _ _
      | exact ih2 _ _ _ _
      | exact ih3 _ _ _ _
      | exact LeO.none _
      | refine LeO.ite ?_ ?_
      | refine LeO.bind ?_ (fun _ => ?_)
set_option maxHeartbeats 8000000 in
set_option maxRecDepth 100000 in
theorem windbreaklaw05_PrimeParts.calls (k : Nat) (a0 : Int) (r : Bool) (w : World) (h : windbreaklaw05_PrimeParts.f k a0 = some r) :
    Calls Try.prog 7 #[.int .u64 a0] w fun e w' => e = .returned (.bool r) ∧ Below w.heap.size w w' := by
  have HB := Aside0.mk (Below.refl w.heap.size w)
  have H : (if a0 < 2 then (windbreaklaw05_PrimeParts.j0 k a0 true) else (windbreaklaw05_PrimeParts.j0 k a0 (decide (a0 ≥ 1099511627776)))) = some r := h
  clear h
  have HC2 := Aside0.mk H
  clear H
  go_enter Try.func7, Try.ntmps7
  go_upto_region 1 with (fail)
  go_cut [15] (fun v15 wc => ∃ (kq : Nat) (x15_1 : Bool), v15 = .bool x15_1 ∧ Aside0 (windbreaklaw05_PrimeParts.j0 kq a0 x15_1 = some r) ∧ Aside0 (kq ≤ k) ∧ Aside0 (Below w.heap.size w wc))
  case first =>
    have H := HC2.out
    clear HC2
    by_cases c3 : a0 < 2
    · rw [if_pos c3] at H
      have c3b0 : decide (a0 < 2) = true := decide_eq_true c3
      clear c3
      (first | rw [c3b0] | (simp only [i64_w, i32_w]; rw [c3b0]) | skip)
      have H' := Aside0.mk H
      clear H
      go_wp2
      go_meet
      case rel => exact ⟨_, (true), (by first | rfl | (simp; done) | (simp [*]; done)), H', ⟨by first | omega | exact Nat.le_refl _⟩, ⟨by repeat (first | (with_reducible first | exact HB.out | apply below_alloc | apply pw_below_drewN | apply below_drew1) | exact HB.out)⟩⟩
    · rw [if_neg c3] at H
      have c3b0 : decide (a0 < 2) = false := decide_eq_false c3
      clear c3
      (first | rw [c3b0] | (simp only [i64_w, i32_w]; rw [c3b0]) | skip)
      have H' := Aside0.mk H
      clear H
      go_wp2
      go_meet
      case rel => exact ⟨_, (decide (a0 ≥ 1099511627776)), (by first | rfl | (simp; done) | (simp [*]; done)), H', ⟨by first | omega | exact Nat.le_refl _⟩, ⟨by repeat (first | (with_reducible first | exact HB.out | apply below_alloc | apply pw_below_drewN | apply below_drew1) | exact HB.out)⟩⟩
  case rest =>
    clear HC2
    try clear p2
    try clear c3
    try clear c3b0
    obtain ⟨kq, x15_1, rfl, HA, HJ1, HB⟩ := hcut
    cases kq with
    | zero => exact absurd HA.out (by simp [windbreaklaw05_PrimeParts.j0])
    | succ kj1 =>
      have H := HA.out
      clear HA
      simp only [windbreaklaw05_PrimeParts.j0] at H
      by_cases c4 : x15_1 = true
      · subst c4
        have H1 : (some true) = some r := by rw [if_pos rfl] at H; exact H
        clear H
        have H := H1
        clear H1
        obtain rfl := Option.some.inj H
        go_wp2
        go_ret
        exact ⟨by first | rfl | (simp [errW_none, errW_some] <;> rfl) | (simp [*, errW_none, errW_some] <;> rfl), by repeat (first | (with_reducible first | exact HB.out | apply below_alloc | apply pw_below_drewN | apply below_drew1) | exact HB.out)⟩
      · replace c4 := Bool.eq_false_iff.mpr c4
        subst c4
        have H1 : (windbreaklaw05_PrimeParts.l0 kj1 a0 2 0) = some r := by rw [if_neg (show ¬ (false = true) by decide)] at H; exact H
        clear H
        have H := H1
        clear H1
        have H' := Aside0.mk H
        clear H
        go_wp2
        go_loopg [3, 4, 5] kj1 (fun kq v3 v4 v5 w' => ∃ (x3_2 : Int) (x4_2 : Int) (x5_2 : Int), v3 = .int .u64 x3_2 ∧ v4 = .int .u64 x4_2 ∧ v5 = .int .i64 x5_2 ∧ Aside0 (windbreaklaw05_PrimeParts.l0 kq x3_2 x4_2 x5_2 = some r) ∧ Aside0 (kq ≤ kj1) ∧ Aside0 (Below w.heap.size w w'))
        case atStart => exact ⟨(a0), (2), (0), (by first | rfl | (simp; done) | (simp [*]; done)), (by first | rfl | (simp; done) | (simp [*]; done)), (by first | rfl | (simp; done) | (simp [*]; done)), H', ⟨Nat.le_refl _⟩, ⟨by repeat (first | (with_reducible first | exact HB.out | apply below_alloc | apply pw_below_drewN | apply below_drew1) | exact HB.out)⟩⟩
        case round =>
          clear H'
          try clear p2
          try clear c3
          try clear c3b0
          try clear c4
          try clear p2
          obtain ⟨x3_2, x4_2, x5_2, rfl, rfl, rfl, HA, HK2, HB⟩ := hrel
          cases gk with
          | zero => exact absurd HA.out (by simp [windbreaklaw05_PrimeParts.l0])
          | succ k2 =>
            have H := HA.out
            clear HA
            simp only [windbreaklaw05_PrimeParts.l0] at H
            have HC5 := Aside0.mk H
            clear H
            go_upto_region 6 with (fail)
            go_cut [22] (fun v22 wc => ∃ (kq : Nat) (x22_4 : Bool), v22 = .bool x22_4 ∧ Aside0 (windbreaklaw05_PrimeParts.j2 kq x3_2 x4_2 x5_2 x22_4 = some r) ∧ Aside0 (kq ≤ k2) ∧ Aside0 (Below w.heap.size w wc))
            case first =>
              have H := HC5.out
              clear HC5
              by_cases c6 : x5_2 < 64
              · rw [if_pos c6] at H
                have c6b0 : decide (x5_2 < 64) = true := decide_eq_true c6
                clear c6
                (first | rw [c6b0] | (simp only [i64_w, i32_w]; rw [c6b0]) | skip)
                have H' := Aside0.mk H
                clear H
                go_wp2
                go_meet
                case rel => exact ⟨_, (decide (x3_2 > 1)), (by first | rfl | (simp; done) | (simp [*]; done)), H', ⟨by have := HJ1.out; have := HK2.out; first | omega | exact Nat.le_refl _⟩, ⟨by repeat (first | (with_reducible first | exact HB.out | apply below_alloc | apply pw_below_drewN | apply below_drew1) | exact HB.out)⟩⟩
              · rw [if_neg c6] at H
                have c6b0 : decide (x5_2 < 64) = false := decide_eq_false c6
                clear c6
                (first | rw [c6b0] | (simp only [i64_w, i32_w]; rw [c6b0]) | skip)
                have H' := Aside0.mk H
                clear H
                go_wp2
                go_meet
                case rel => exact ⟨_, (false), (by first | rfl | (simp; done) | (simp [*]; done)), H', ⟨by have := HJ1.out; have := HK2.out; first | omega | exact Nat.le_refl _⟩, ⟨by repeat (first | (with_reducible first | exact HB.out | apply below_alloc | apply pw_below_drewN | apply below_drew1) | exact HB.out)⟩⟩
            case rest =>
              clear HC5
              try clear p2
              try clear c3
              try clear c3b0
              try clear c4
              try clear c6
              try clear c6b0
              try clear p2
              obtain ⟨kq, x22_4, rfl, HA, HJ4, HB⟩ := hcut
              cases kq with
              | zero => exact absurd HA.out (by simp [windbreaklaw05_PrimeParts.j2])
              | succ kj4 =>
                have H := HA.out
                clear HA
                simp only [windbreaklaw05_PrimeParts.j2] at H
                by_cases c7 : x22_4 = true
                · subst c7
                  have H1 : ((prime_Least.f x3_2).bind fun bt126 => (if bt126.2 = 0 then (if bt126.1 < x4_2 then (windbreaklaw05_PrimeParts.j3 kj4 x3_2 x5_2 bt126.1 true) else (if bt126.1 = 0 then (none) else (windbreaklaw05_PrimeParts.j3 kj4 x3_2 x5_2 bt126.1 ((Int.tmod x3_2 bt126.1) != 0)))) else (windbreaklaw05_PrimeParts.j3 kj4 x3_2 x5_2 bt126.1 true))) = some r := by rw [if_pos rfl] at H; exact H
                  clear H
                  have H := H1
                  clear H1
                  replace H := Option.bind_eq_some_iff.mp H
                  obtain ⟨⟨t126, t127⟩, A80, H⟩ := H
                  replace H : (if t127 = 0 then (if t126 < x4_2 then (windbreaklaw05_PrimeParts.j3 kj4 x3_2 x5_2 t126 true) else (if t126 = 0 then (none) else (windbreaklaw05_PrimeParts.j3 kj4 x3_2 x5_2 t126 ((Int.tmod x3_2 t126) != 0)))) else (windbreaklaw05_PrimeParts.j3 kj4 x3_2 x5_2 t126 true)) = some r := H
                  have A8 := Aside0.mk A80
                  clear A80
                  have HC9 := Aside0.mk H
                  clear H
                  go_upto_region 9 with (first | ((with_reducible refine gate_callee (f := 16) rfl ?_); refine goesL_ (some 27) rfl rfl Try.func16 (by kernel_rfl) rfl #[.int .u64 x3_2] rfl (by (try simp only [List.map_toArray, List.map_cons, List.map_nil]); first | done | rfl | (simp only [List.length_drop, List.length_take]; rfl)) ?_; (with_reducible refine (prime_Least.calls x3_2 t126 t127 _ A8.out).mono ?_); rintro e w10 ⟨rfl, hb⟩; refine ⟨_, rfl, ?_⟩; have n0_ := Aside0.mk (below_step (by repeat (first | (with_reducible first | exact HB.out | apply below_alloc | apply pw_below_drewN | apply below_drew1) | exact HB.out)) hb); clear HB; have HB := n0_; clear n0_; (try clear hb); (try clear hb2); (try clear hk); (try clear hi)))
                  (try simp only [Act.put, List.setIfInBounds_toArray, List.set_cons_zero, List.set_cons_succ])
                  go_cut [42] (fun v42 wc => ∃ (kq : Nat) (x42_8 : Bool), v42 = .bool x42_8 ∧ Aside0 (windbreaklaw05_PrimeParts.j3 kq x3_2 x5_2 t126 x42_8 = some r) ∧ Aside0 (kq ≤ kj4) ∧ Aside0 (Below w.heap.size w wc))
                  case first =>
                    have H := HC9.out
                    clear HC9
                    by_cases c11 : t127 = 0
                    · rw [if_pos c11] at H
                      have c11b0 : (t127 == 0) = true := beq_iff_eq.mpr c11
                      have c11b1 : (t127 != 0) = false := bne_eq_false_iff_eq.mpr c11
                      clear c11
                      (first | rw [c11b0] | (simp only [i64_w, i32_w]; rw [c11b0]) | skip)
                      by_cases c12 : t126 < x4_2
                      · rw [if_pos c12] at H
                        have c12b0 : decide (t126 < x4_2) = true := decide_eq_true c12
                        clear c12
                        have H' := Aside0.mk H
                        clear H
                        go_wp2
                        go_meet
                        case rel => exact ⟨_, (true), (by first | rfl | (simp; done) | (simp [*]; done)), H', ⟨by have := HJ1.out; have := HK2.out; have := HJ4.out; first | omega | exact Nat.le_refl _⟩, ⟨by repeat (first | (with_reducible first | exact HB.out | apply below_alloc | apply pw_below_drewN | apply below_drew1) | exact HB.out)⟩⟩
                      · rw [if_neg c12] at H
                        have c12b0 : decide (t126 < x4_2) = false := decide_eq_false c12
                        clear c12
                        by_cases c13 : t126 = 0
                        · rw [if_pos c13] at H
                          exact absurd H (by simp)
                        · rw [if_neg c13] at H
                          have c13b0 : (t126 == 0) = false := beq_eq_false_iff_ne.mpr c13
                          have c13b1 : (t126 != 0) = true := bne_iff_ne.mpr c13
                          have H' := Aside0.mk H
                          clear H
                          go_wp2
                          go_meet
                          case rel => exact ⟨_, (((Int.tmod x3_2 t126) != 0)), (by first | rfl | (simp; done) | (simp [*]; done)), H', ⟨by have := HJ1.out; have := HK2.out; have := HJ4.out; first | omega | exact Nat.le_refl _⟩, ⟨by repeat (first | (with_reducible first | exact HB.out | apply below_alloc | apply pw_below_drewN | apply below_drew1) | exact HB.out)⟩⟩
                    · rw [if_neg c11] at H
                      have c11b0 : (t127 == 0) = false := beq_eq_false_iff_ne.mpr c11
                      have c11b1 : (t127 != 0) = true := bne_iff_ne.mpr c11
                      (first | rw [c11b0] | (simp only [i64_w, i32_w]; rw [c11b0]) | skip)
                      have H' := Aside0.mk H
                      clear H
                      go_wp2
                      go_meet
                      case rel => exact ⟨_, (true), (by first | rfl | (simp; done) | (simp [*]; done)), H', ⟨by have := HJ1.out; have := HK2.out; have := HJ4.out; first | omega | exact Nat.le_refl _⟩, ⟨by repeat (first | (with_reducible first | exact HB.out | apply below_alloc | apply pw_below_drewN | apply below_drew1) | exact HB.out)⟩⟩
                  case rest =>
                    clear HC9
                    try clear c1
                    try clear p2
                    try clear c3
                    try clear c3b0
                    try clear c4
                    try clear c6
                    try clear c6b0
                    try clear c7
                    try clear c11
                    try clear c11b0
                    try clear c11b1
                    try clear c12
                    try clear c12b0
                    try clear c13
                    try clear c13b0
                    try clear c13b1
                    try clear p2
                    obtain ⟨kq, x42_8, rfl, HA, HJ8, HB⟩ := hcut
                    cases kq with
                    | zero => exact absurd HA.out (by simp [windbreaklaw05_PrimeParts.j3])
                    | succ kj8 =>
                      have H := HA.out
                      clear HA
                      simp only [windbreaklaw05_PrimeParts.j3] at H
                      by_cases c14 : x42_8 = true
                      · subst c14
                        have H1 : (some false) = some r := by rw [if_pos rfl] at H; exact H
                        clear H
                        have H := H1
                        clear H1
                        obtain rfl := Option.some.inj H
                        go_wp2
                        go_ret
                        exact ⟨by first | rfl | (simp [errW_none, errW_some] <;> rfl) | (simp [*, errW_none, errW_some] <;> rfl), by repeat (first | (with_reducible first | exact HB.out | apply below_alloc | apply pw_below_drewN | apply below_drew1) | exact HB.out)⟩
                      · replace c14 := Bool.eq_false_iff.mpr c14
                        subst c14
                        have H1 : ((prime_Is.f t126).bind fun bt128 => (if bt128.2 = 0 then (if bt128.1 = true then (if t126 = 0 then (none) else (windbreaklaw05_PrimeParts.l0 kj8 (IntKind.u64.wrap (Int.tdiv x3_2 t126)) t126 (wrap64 (x5_2 + 1)))) else (some false)) else (some false))) = some r := by rw [if_neg (show ¬ (false = true) by decide)] at H; exact H
                        clear H
                        have H := H1
                        clear H1
                        replace H := Option.bind_eq_some_iff.mp H
                        obtain ⟨⟨t128, t129⟩, A150, H⟩ := H
                        replace H : (if t129 = 0 then (if t128 = true then (if t126 = 0 then (none) else (windbreaklaw05_PrimeParts.l0 kj8 (IntKind.u64.wrap (Int.tdiv x3_2 t126)) t126 (wrap64 (x5_2 + 1)))) else (some false)) else (some false)) = some r := H
                        have A15 := Aside0.mk A150
                        clear A150
                        by_cases c16 : t129 = 0
                        · rw [if_pos c16] at H
                          have c16b0 : (t129 == 0) = true := beq_iff_eq.mpr c16
                          have c16b1 : (t129 != 0) = false := bne_eq_false_iff_eq.mpr c16
                          clear c16
                          by_cases c17 : t128 = true
                          · subst c17
                            have H1 : (if t126 = 0 then (none) else (windbreaklaw05_PrimeParts.l0 kj8 (IntKind.u64.wrap (Int.tdiv x3_2 t126)) t126 (wrap64 (x5_2 + 1)))) = some r := by rw [if_pos rfl] at H; exact H
                            clear H
                            have H := H1
                            clear H1
                            by_cases c18 : t126 = 0
                            · rw [if_pos c18] at H
                              exact absurd H (by simp)
                            · rw [if_neg c18] at H
                              have c18b0 : (t126 == 0) = false := beq_eq_false_iff_ne.mpr c18
                              have c18b1 : (t126 != 0) = true := bne_iff_ne.mpr c18
                              have H' := Aside0.mk H
                              clear H
                              go_wp2_with (first | ((with_reducible refine gate_callee (f := 14) rfl ?_); refine goesL_ (some 45) rfl rfl Try.func14 (by kernel_rfl) rfl #[.int .u64 t126] rfl (by (try simp only [List.map_toArray, List.map_cons, List.map_nil]); first | done | rfl | (simp only [List.length_drop, List.length_take]; rfl)) ?_; (with_reducible refine (prime_Is.calls t126 true t129 _ A15.out).mono ?_); rintro e w19 ⟨rfl, hb⟩; refine ⟨_, rfl, ?_⟩; have n0_ := Aside0.mk (below_step (by repeat (first | (with_reducible first | exact HB.out | apply below_alloc | apply pw_below_drewN | apply below_drew1) | exact HB.out)) hb); clear HB; have HB := n0_; clear n0_; (try clear hb); (try clear hb2); (try clear hk); (try clear hi)))
                              go_roundg kj8
                              case measure => have := HJ1.out; have := HK2.out; have := HJ4.out; have := HJ8.out; omega
                              case rel => exact ⟨(IntKind.u64.wrap (Int.tdiv x3_2 t126)), (t126), (wrap64 (x5_2 + 1)), (by first | rfl | (simp; done) | (simp [*]; done)), (by first | rfl | (simp; done) | (simp [*]; done)), (by first | rfl | (simp; done) | (simp [*]; done)), H', ⟨by have := HJ1.out; have := HK2.out; have := HJ4.out; have := HJ8.out; omega⟩, ⟨by repeat (first | (with_reducible first | exact HB.out | apply below_alloc | apply pw_below_drewN | apply below_drew1) | exact HB.out)⟩⟩
                          · replace c17 := Bool.eq_false_iff.mpr c17
                            subst c17
                            have H1 : (some false) = some r := by rw [if_neg (show ¬ (false = true) by decide)] at H; exact H
                            clear H
                            have H := H1
                            clear H1
                            obtain rfl := Option.some.inj H
                            go_wp2_with (first | ((with_reducible refine gate_callee (f := 14) rfl ?_); refine goesL_ (some 45) rfl rfl Try.func14 (by kernel_rfl) rfl #[.int .u64 t126] rfl (by (try simp only [List.map_toArray, List.map_cons, List.map_nil]); first | done | rfl | (simp only [List.length_drop, List.length_take]; rfl)) ?_; (with_reducible refine (prime_Is.calls t126 false t129 _ A15.out).mono ?_); rintro e w20 ⟨rfl, hb⟩; refine ⟨_, rfl, ?_⟩; have n0_ := Aside0.mk (below_step (by repeat (first | (with_reducible first | exact HB.out | apply below_alloc | apply pw_below_drewN | apply below_drew1) | exact HB.out)) hb); clear HB; have HB := n0_; clear n0_; (try clear hb); (try clear hb2); (try clear hk); (try clear hi)))
                            go_ret
                            exact ⟨by first | rfl | (simp [errW_none, errW_some] <;> rfl) | (simp [*, errW_none, errW_some] <;> rfl), by repeat (first | (with_reducible first | exact HB.out | apply below_alloc | apply pw_below_drewN | apply below_drew1) | exact HB.out)⟩
                        · rw [if_neg c16] at H
                          have c16b0 : (t129 == 0) = false := beq_eq_false_iff_ne.mpr c16
                          have c16b1 : (t129 != 0) = true := bne_iff_ne.mpr c16
                          obtain rfl := Option.some.inj H
                          go_wp2_with (first | ((with_reducible refine gate_callee (f := 14) rfl ?_); refine goesL_ (some 45) rfl rfl Try.func14 (by kernel_rfl) rfl #[.int .u64 t126] rfl (by (try simp only [List.map_toArray, List.map_cons, List.map_nil]); first | done | rfl | (simp only [List.length_drop, List.length_take]; rfl)) ?_; (with_reducible refine (prime_Is.calls t126 t128 t129 _ A15.out).mono ?_); rintro e w21 ⟨rfl, hb⟩; refine ⟨_, rfl, ?_⟩; have n0_ := Aside0.mk (below_step (by repeat (first | (with_reducible first | exact HB.out | apply below_alloc | apply pw_below_drewN | apply below_drew1) | exact HB.out)) hb); clear HB; have HB := n0_; clear n0_; (try clear hb); (try clear hb2); (try clear hk); (try clear hi)))
                          go_ret
                          exact ⟨by first | rfl | (simp [errW_none, errW_some] <;> rfl) | (simp [*, errW_none, errW_some] <;> rfl), by repeat (first | (with_reducible first | exact HB.out | apply below_alloc | apply pw_below_drewN | apply below_drew1) | exact HB.out)⟩
                · replace c7 := Bool.eq_false_iff.mpr c7
                  subst c7
                  have H1 : (some (x3_2 == 1)) = some r := by rw [if_neg (show ¬ (false = true) by decide)] at H; exact H
                  clear H
                  have H := H1
                  clear H1
                  obtain rfl := Option.some.inj H
                  go_wp2
                  go_ret
                  exact ⟨by first | rfl | (simp [errW_none, errW_some] <;> rfl) | (simp [*, errW_none, errW_some] <;> rfl), by repeat (first | (with_reducible first | exact HB.out | apply below_alloc | apply pw_below_drewN | apply below_drew1) | exact HB.out)⟩

/-- THE ONE PURE STATEMENT of windbreaklaw05_PrimeParts: yours. -/
def windbreaklaw05_PrimeParts.Pure : Prop := ∀ (a0 : Int), (Lit.int .u64 a0).wf = true → ∃ k, windbreaklaw05_PrimeParts.f k a0 = some true
theorem windbreaklaw05_PrimeParts.walk (P : windbreaklaw05_PrimeParts.Pure) (a0 : Int) (w : World) (w0 : (Lit.int .u64 a0).wf = true) :
    Calls Try.prog 7 #[.int .u64 a0] w fun e w' => e = .returned (.bool true) ∧ Below w.heap.size w w' := by
  obtain ⟨k, h⟩ := P a0 w0
  refine (windbreaklaw05_PrimeParts.calls k a0 true w h).mono ?_
  rintro e w' ⟨rfl, hd⟩
  exact ⟨rfl, hd⟩

end Go.Proofs.Yteabkedhdgnhgaa.F

namespace Go.Proofs.Yteabkedhdgnhgaa.Z
open Go.RowKit Go.Proofs.YteabkedhdgnhgaaW.PrintWords
set_option linter.unusedSimpArgs false
set_option linter.unusedVariables false

/-! ### Rounds: from some number on the answer is r -/
def Evt {α : Type} (g : Nat → Option α) (r : α) : Prop := ∃ n, ∀ k, n ≤ k → g k = some r
theorem Evt.of {α : Type} {g : Nat → Option α} {r : α} (h : ∀ k, g k = some r) : Evt g r := ⟨0, fun k _ => h k⟩
theorem Evt.pure {α : Type} (r : α) : Evt (fun _ => some r) r := ⟨0, fun _ _ => rfl⟩
theorem Evt.bind {α β : Type} {g : Nat → Option α} {h : α → Nat → Option β} {a : α} {b : β} (h1 : Evt g a) (h2 : Evt (h a) b) : Evt (fun k => (g k).bind fun x => h x k) b := by
  obtain ⟨n, hn⟩ := h1
  obtain ⟨m, hm⟩ := h2
  exact ⟨n + m, fun k hk => by simp only [hn k (by omega), Option.bind_some]; exact hm k (by omega)⟩
theorem Evt.succ {α : Type} {g : Nat → Option α} {r : α} (h : Evt (fun k => g (k + 1)) r) : Evt g r := by
  obtain ⟨n, hn⟩ := h
  refine ⟨n + 1, fun k hk => ?_⟩
  obtain ⟨m, rfl⟩ : ∃ m, k = m + 1 := ⟨k - 1, by omega⟩
  exact hn m (by omega)
theorem Evt.get {α : Type} {g : Nat → Option α} {r : α} (h : Evt g r) : ∃ k, g k = some r := by
  obtain ⟨n, hn⟩ := h
  exact ⟨n, hn n (Nat.le_refl _)⟩
theorem Evt.congr {α : Type} {g g' : Nat → Option α} {r r' : α} (h : Evt g r) (hg : ∀ k, g' k = g k) (hr : r = r') : Evt g' r' := by
  subst hr
  obtain ⟨n, hn⟩ := h
  exact ⟨n, fun k hk => (hg k).trans (hn k hk)⟩
theorem Evt.ite_pos {α : Type} {c : Prop} [Decidable c] {g h : Nat → Option α} {r : α} (hc : c) (hg : Evt g r) : Evt (fun k => if c then g k else h k) r := by
  obtain ⟨n, hn⟩ := hg
  exact ⟨n, fun k hk => (if_pos hc).trans (hn k hk)⟩
theorem Evt.ite_neg {α : Type} {c : Prop} [Decidable c] {g h : Nat → Option α} {r : α} (hc : ¬ c) (hg : Evt h r) : Evt (fun k => if c then g k else h k) r := by
  obtain ⟨n, hn⟩ := hg
  exact ⟨n, fun k hk => (if_neg hc).trans (hn k hk)⟩
theorem Evt.cond {α : Type} {c : Prop} [Decidable c] {g h : Nat → Option α} {r s : α} (hg : c → Evt g r) (hh : ¬ c → Evt h s) : Evt (fun k => if c then g k else h k) (if c then r else s) := by
  by_cases hc : c
  · rw [if_pos hc]; exact Evt.ite_pos hc (hg hc)
  · rw [if_neg hc]; exact Evt.ite_neg hc (hh hc)

theorem Evt.cond' {α : Type} {c : Prop} [Decidable c] {g h : Nat → Option α} {r : α} (hg : c → Evt g r) (hh : ¬ c → Evt h r) : Evt (fun k => if c then g k else h k) r := by
  by_cases hc : c
  · exact Evt.ite_pos hc (hg hc)
  · exact Evt.ite_neg hc (hh hc)

/-! ### Numbers of a machine -/
theorem w64 {x : Int} (h0 : -9223372036854775808 ≤ x) (h1 : x < 9223372036854775808) : wrap64 x = x := by unfold wrap64; omega
theorem wu64 (x : Int) : IntKind.u64.wrap x = x % 18446744073709551616 := by simp [IntKind.wrap, IntKind.bits, IntKind.signed]
theorem wu64_of {x : Int} (h0 : 0 ≤ x) (h1 : x < 18446744073709551616) : IntKind.u64.wrap x = x := by rw [wu64]; omega
theorem wf_u64 {x : Int} (h : (Lit.int .u64 x).wf = true) : 0 ≤ x ∧ x < 18446744073709551616 := by
  simp [Lit.wf, IntKind.min, IntKind.max, IntKind.bits, IntKind.signed] at h
  omega
theorem wf_i64 {x : Int} (h : (Lit.int .i64 x).wf = true) : -9223372036854775808 ≤ x ∧ x < 9223372036854775808 := by
  simp [Lit.wf, IntKind.min, IntKind.max, IntKind.bits, IntKind.signed] at h
  omega
theorem rd_getD (l : List Int) (i : Int) : rd l i = l.getD i.toNat 0 := rfl
theorem rd_nat (l : List Int) (i : Nat) : rd l (i : Int) = l.getD i 0 := rfl

/-! ### Digits -/
/-- The number of digits, the lowest first. -/
def val (B : Int) : List Int → Int
  | [] => 0
  | d :: l => d + B * val B l
/-- All are digits. -/
def Dig (B : Int) (l : List Int) : Prop := ∀ x, x ∈ l → 0 ≤ x ∧ x < B
/-- The last digit is not 0. -/
def Can (l : List Int) : Prop := ∀ h : l ≠ [], l.getLast h ≠ 0
/-- Without noughts behind. -/
def strip : List Int → List Int
  | [] => []
  | d :: l => if strip l = [] then (if d = 0 then [] else [d]) else d :: strip l

theorem Dig.nil {B : Int} : Dig B [] := fun _ h => by simp at h
theorem Dig.cons {B d : Int} {l : List Int} : Dig B (d :: l) ↔ (0 ≤ d ∧ d < B) ∧ Dig B l := by
  unfold Dig
  simp
theorem Dig.append {B : Int} {l m : List Int} : Dig B (l ++ m) ↔ Dig B l ∧ Dig B m := by
  unfold Dig
  constructor
  · intro h
    exact ⟨fun x hx => h x (by simp [hx]), fun x hx => h x (by simp [hx])⟩
  · intro h x hx
    rcases List.mem_append.1 hx with hx | hx
    · exact h.1 x hx
    · exact h.2 x hx
theorem Dig.take {B : Int} {l : List Int} (h : Dig B l) (n : Nat) : Dig B (l.take n) := fun x hx => h x (List.mem_of_mem_take hx)
theorem Dig.drop {B : Int} {l : List Int} (h : Dig B l) (n : Nat) : Dig B (l.drop n) := fun x hx => h x (List.mem_of_mem_drop hx)
theorem Dig.getD {B : Int} {l : List Int} (h : Dig B l) (hB : 0 < B) (i : Nat) : 0 ≤ l.getD i 0 ∧ l.getD i 0 < B := by
  rw [List.getD_eq_getElem?_getD]
  cases he : l[i]? with
  | none => simp; omega
  | some x => simpa using h x (List.mem_of_getElem? he)
theorem Dig.set {B : Int} {l : List Int} (h : Dig B l) (i : Nat) {v : Int} (hv : 0 ≤ v ∧ v < B) : Dig B (l.set i v) := by
  intro x hx
  rcases List.mem_or_eq_of_mem_set hx with hx | rfl
  · exact h x hx
  · exact hv
theorem Dig.replicate {B : Int} (hB : 0 < B) (n : Nat) : Dig B (List.replicate n 0) := by
  intro x hx
  have := List.eq_of_mem_replicate hx
  omega

theorem val_append (B : Int) (l m : List Int) : val B (l ++ m) = val B l + B ^ l.length * val B m := by
  induction l with
  | nil => simp [val]
  | cons d l ih => simp only [List.cons_append, val, ih, List.length_cons, Int.pow_succ]; grind
theorem val_replicate (B : Int) (n : Nat) : val B (List.replicate n 0) = 0 := by
  induction n with
  | zero => rfl
  | succ n ih => simp [List.replicate_succ, val, ih]
theorem val_nonneg {B : Int} (hB : 0 < B) {l : List Int} (h : Dig B l) : 0 ≤ val B l := by
  induction l with
  | nil => simp [val]
  | cons d l ih =>
    have h' := Dig.cons.1 h
    have h1 := ih h'.2
    have : 0 ≤ B * val B l := Int.mul_nonneg (by omega) h1
    simp only [val]
    omega
theorem val_lt {B : Int} (hB : 0 < B) {l : List Int} (h : Dig B l) : val B l < B ^ l.length := by
  induction l with
  | nil => simp [val]
  | cons d l ih =>
    have h' := Dig.cons.1 h
    have h1 := ih h'.2
    have h2 : B * val B l ≤ B * (B ^ l.length - 1) := Int.mul_le_mul_of_nonneg_left (by omega) (by omega)
    have h3 : B * (B ^ l.length - 1) = B * B ^ l.length - B := by grind
    simp only [val, List.length_cons, Int.pow_succ]
    have h4 : B ^ l.length * B = B * B ^ l.length := Int.mul_comm _ _
    omega
theorem Can.nil : Can [] := fun h => absurd rfl h
theorem Can.tail {d : Int} {l : List Int} (h : Can (d :: l)) : Can l := by
  intro hl
  have := h (by simp)
  rwa [List.getLast_cons hl] at this
theorem Can.one {d : Int} (h : d ≠ 0) : Can [d] := fun _ => by simpa using h
theorem Can.cons {d : Int} {l : List Int} (h : Can l) (hl : l ≠ []) : Can (d :: l) := by
  intro _
  rw [List.getLast_cons hl]
  exact h hl
theorem val_pos {B : Int} (hB : 0 < B) {l : List Int} (h : Dig B l) (hc : Can l) (hl : l ≠ []) : B ^ (l.length - 1) ≤ val B l := by
  induction l with
  | nil => exact absurd rfl hl
  | cons d l ih =>
    have h' := Dig.cons.1 h
    by_cases e : l = []
    · subst e
      have := hc (by simp)
      simp [val] at this ⊢
      omega
    · have h1 := ih h'.2 hc.tail e
      have h2 : l.length - 1 + 1 = l.length := by have := List.length_pos_iff.2 e; omega
      simp only [val, List.length_cons, Nat.add_sub_cancel]
      rw [← h2, Int.pow_succ, Int.mul_comm]
      have : B * B ^ (l.length - 1) ≤ B * val B l := Int.mul_le_mul_of_nonneg_left h1 (by omega)
      omega
theorem val_zero {B : Int} (hB : 0 < B) {l : List Int} (h : Dig B l) (hc : Can l) (h0 : val B l = 0) : l = [] := by
  by_cases e : l = []
  · exact e
  · have := val_pos hB h hc e
    have h2 : 0 < B ^ (l.length - 1) := Int.pow_pos hB
    omega
theorem val_inj {B : Int} (hB : 0 < B) {l m : List Int} (hl : Dig B l) (hm : Dig B m) (cl : Can l) (cm : Can m) (h : val B l = val B m) : l = m := by
  induction l generalizing m with
  | nil => exact (val_zero hB hm cm h.symm).symm
  | cons d l ih =>
    cases m with
    | nil => exact val_zero hB hl cl h
    | cons e m =>
      have h1 := Dig.cons.1 hl
      have h2 := Dig.cons.1 hm
      simp only [val] at h
      have h3 : d = e := by
        have a1 : (d + B * val B l) % B = d := by rw [Int.add_mul_emod_self_left]; exact Int.emod_eq_of_lt h1.1.1 h1.1.2
        have a2 : (e + B * val B m) % B = e := by rw [Int.add_mul_emod_self_left]; exact Int.emod_eq_of_lt h2.1.1 h2.1.2
        rw [← a1, ← a2, h]
      subst h3
      have h4 : val B l = val B m := by
        have : B * val B l = B * val B m := by omega
        exact Int.eq_of_mul_eq_mul_left (by omega) this
      rw [ih h1.2 h2.2 cl.tail cm.tail h4]
theorem strip_val (B : Int) (l : List Int) : val B (strip l) = val B l := by
  induction l with
  | nil => rfl
  | cons d l ih =>
    simp only [strip]
    split
    · rename_i h
      rw [h] at ih
      simp only [val] at ih
      split
      · rename_i h0; simp [val, ← ih, h0]
      · simp [val, ← ih]
    · simp [val, ih]
theorem strip_can (l : List Int) : Can (strip l) := by
  induction l with
  | nil => exact Can.nil
  | cons d l ih =>
    simp only [strip]
    split
    · split
      · exact Can.nil
      · rename_i h; exact Can.one h
    · rename_i h; exact ih.cons h
theorem strip_dig {B : Int} {l : List Int} (h : Dig B l) : Dig B (strip l) := by
  induction l with
  | nil => exact Dig.nil
  | cons d l ih =>
    have h' := Dig.cons.1 h
    simp only [strip]
    split
    · split
      · exact Dig.nil
      · exact Dig.cons.2 ⟨h'.1, Dig.nil⟩
    · exact Dig.cons.2 ⟨h'.1, ih h'.2⟩
theorem strip_length (l : List Int) : (strip l).length ≤ l.length := by
  induction l with
  | nil => simp [strip]
  | cons d l ih =>
    simp only [strip]
    split
    · split <;> simp
    · simp; omega
theorem strip_of_can {l : List Int} (h : Can l) : strip l = l := by
  induction l with
  | nil => rfl
  | cons d l ih =>
    simp only [strip]
    rw [ih h.tail]
    split
    · rename_i e
      subst e
      have := h (by simp)
      simp at this
      simp [this]
    · rfl
theorem strip_snoc_zero (l : List Int) : strip (l ++ [0]) = strip l := by
  induction l with
  | nil => simp [strip]
  | cons d l ih => simp only [List.cons_append, strip, ih]
theorem strip_snoc {l : List Int} {d : Int} (h : d ≠ 0) : strip (l ++ [d]) = l ++ [d] := by
  apply strip_of_can
  intro hl
  simpa using h
/-- The number of stripped digits tells them. -/
theorem strip_unique {B : Int} (hB : 0 < B) {l m : List Int} (hl : Dig B l) (hm : Dig B m) (h : val B l = val B m) : strip l = strip m :=
  val_inj hB (strip_dig hl) (strip_dig hm) (strip_can l) (strip_can m) (by rw [strip_val, strip_val, h])
theorem pow_mono {B : Int} (hB : 0 < B) {m n : Nat} (h : m ≤ n) : B ^ m ≤ B ^ n := by
  induction n with
  | zero => have : m = 0 := by omega
            subst this
            exact Int.le_refl _
  | succ n ih =>
    by_cases e : m = n + 1
    · subst e
      exact Int.le_refl _
    · have h1 := ih (by omega)
      have h2 : 0 < B ^ n := Int.pow_pos hB
      have h3 : 1 * B ^ n ≤ B * B ^ n := Int.mul_le_mul_of_nonneg_right (by omega) (by omega)
      rw [Int.pow_succ, Int.mul_comm]
      omega
/-- Longer numbers are greater. -/
theorem val_lt_of_length {B : Int} (hB : 0 < B) {l m : List Int} (hl : Dig B l) (hm : Dig B m) (cm : Can m) (h : l.length < m.length) : val B l < val B m := by
  have h1 := val_lt hB hl
  have h2 := val_pos hB hm cm (by intro e; subst e; simp at h)
  have h3 : B ^ l.length ≤ B ^ (m.length - 1) := pow_mono hB (by omega)
  omega
/-- Are limbs a number's? -/
def rightB (l : List Int) : Bool := decide (l.length ≤ 64) && ((l.length == 0) || (l.getD (l.length - 1) 0 != 0))
theorem can_iff (l : List Int) : Can l ↔ ((l.length == 0) || (l.getD (l.length - 1) 0 != 0)) = true := by
  cases l with
  | nil => simp [Can]
  | cons d l =>
    have h : (d :: l).getLast (by simp) = (d :: l).getD ((d :: l).length - 1) 0 := by
      rw [List.getLast_eq_getElem]
      simp
    unfold Can
    simp only [List.length_cons, Nat.add_one_ne_zero, beq_iff_eq, Bool.or_eq_true, bne_iff_ne, false_or]
    constructor
    · intro hc
      have := hc (by simp)
      rw [h] at this
      exact this
    · intro hc _
      rw [h]
      exact hc
theorem rightB_iff (l : List Int) : rightB l = true ↔ l.length ≤ 64 ∧ Can l := by
  unfold rightB
  rw [Bool.and_eq_true, decide_eq_true_iff, ← can_iff]
/-- A number as a small one. -/
def smallV (l : List Int) : Int × Bool := if rightB l = true ∧ l.length ≤ 1 then (l.getD 0 0, true) else (0, false)
end Go.Proofs.Yteabkedhdgnhgaa.Z

namespace Go.Proofs.Yteabkedhdgnhgaa.Z
open Go.RowKit Go.Proofs.YteabkedhdgnhgaaW.PrintWords
set_option linter.unusedSimpArgs false
set_option linter.unusedVariables false

/-! ### The digits of a number -/
def toD (B : Nat) (v : Nat) : List Int := if h : 2 ≤ B ∧ 0 < v then ((v % B : Nat) : Int) :: toD B (v / B) else []
termination_by v
decreasing_by exact Nat.div_lt_self h.2 (by omega)
theorem toD_zero (B : Nat) : toD B 0 = [] := by rw [toD]; simp
theorem toD_pos {B v : Nat} (hB : 2 ≤ B) (hv : 0 < v) : toD B v = ((v % B : Nat) : Int) :: toD B (v / B) := by rw [toD]; simp [hB, hv]
theorem toD_dig {B : Nat} (hB : 2 ≤ B) (v : Nat) : Dig (B : Int) (toD B v) := by
  induction v using Nat.strongRecOn with
  | _ v ih =>
    by_cases hv : v = 0
    · subst hv; rw [toD_zero]; exact Dig.nil
    · rw [toD_pos hB (by omega)]
      have := Nat.mod_lt v (show B > 0 by omega)
      exact Dig.cons.2 ⟨by omega, ih _ (Nat.div_lt_self (by omega) (by omega))⟩
theorem toD_eq_nil {B v : Nat} (hB : 2 ≤ B) : toD B v = [] ↔ v = 0 := by
  constructor
  · intro h
    by_cases hv : v = 0
    · exact hv
    · rw [toD_pos hB (by omega)] at h; cases h
  · rintro rfl; exact toD_zero B
theorem toD_can {B : Nat} (hB : 2 ≤ B) (v : Nat) : Can (toD B v) := by
  induction v using Nat.strongRecOn with
  | _ v ih =>
    by_cases hv : v = 0
    · subst hv; rw [toD_zero]; exact Can.nil
    · rw [toD_pos hB (by omega)]
      by_cases hq : v / B = 0
      · rw [hq, toD_zero]
        have hlt : v < B := (Nat.div_eq_zero_iff_lt (by omega)).1 hq
        rw [Nat.mod_eq_of_lt hlt]
        exact Can.one (by omega)
      · exact (ih _ (Nat.div_lt_self (by omega) (by omega))).cons (fun e => hq ((toD_eq_nil hB).1 e))
theorem val_toD {B : Nat} (hB : 2 ≤ B) (v : Nat) : val (B : Int) (toD B v) = (v : Int) := by
  induction v using Nat.strongRecOn with
  | _ v ih =>
    by_cases hv : v = 0
    · subst hv; rw [toD_zero]; rfl
    · rw [toD_pos hB (by omega)]
      simp only [val]
      rw [ih _ (Nat.div_lt_self (by omega) (by omega))]
      have h2 := Nat.mod_add_div v B
      have h3 : ((v % B + B * (v / B) : Nat) : Int) = (v : Int) := by rw [h2]
      simpa using h3
/-- What all noughts are taken off is the digits of the number. -/
theorem strip_toD {B : Nat} (hB : 2 ≤ B) {l : List Int} (h : Dig (B : Int) l) : strip l = toD B (val (B : Int) l).toNat := by
  have h0 : (0 : Int) < (B : Int) := by omega
  refine val_inj h0 (strip_dig h) (toD_dig hB _) (strip_can l) (toD_can hB _) ?_
  rw [strip_val, val_toD hB]
  have := val_nonneg h0 h
  omega
theorem can_toD {B : Nat} (hB : 2 ≤ B) {l : List Int} (h : Dig (B : Int) l) (hc : Can l) : l = toD B (val (B : Int) l).toNat := by
  rw [← strip_toD hB h, strip_of_can hc]
theorem pow_cast (B n : Nat) : ((B : Int)) ^ n = ((B ^ n : Nat) : Int) := by simp
theorem toD_len_le {B : Nat} (hB : 2 ≤ B) {v n : Nat} (h : v < B ^ n) : (toD B v).length ≤ n := by
  by_cases hv : v = 0
  · subst hv; rw [toD_zero]; simp
  · have h1 := val_pos (show (0 : Int) < (B : Int) by omega) (toD_dig hB v) (toD_can hB v) (fun e => hv ((toD_eq_nil hB).1 e))
    rw [val_toD hB, pow_cast] at h1
    have h2 : B ^ ((toD B v).length - 1) ≤ v := by omega
    have h3 : B ^ ((toD B v).length - 1) < B ^ n := by omega
    have h4 := (Nat.pow_lt_pow_iff_right (show 1 < B by omega)).1 h3
    omega
theorem toD_lt_pow {B : Nat} (hB : 2 ≤ B) (v : Nat) : v < B ^ (toD B v).length := by
  have h1 := val_lt (show (0 : Int) < (B : Int) by omega) (toD_dig hB v)
  rw [val_toD hB, pow_cast] at h1
  omega
theorem toD_len_iff {B : Nat} (hB : 2 ≤ B) (v n : Nat) : (toD B v).length ≤ n ↔ v < B ^ n :=
  ⟨fun h => Nat.lt_of_lt_of_le (toD_lt_pow hB v) (Nat.pow_le_pow_right (by omega) h), toD_len_le hB⟩

/-! ### Two bases: limbs of 64 bits, digits of 16 -/
def b64 : Nat := 18446744073709551616
def b16 : Nat := 65536
theorem b64_two : 2 ≤ b64 := by decide
theorem b16_two : 2 ≤ b16 := by decide
theorem b64_pow : b64 = b16 ^ 4 := by decide
/-- The number of limbs. -/
def num (l : List Int) : Nat := (val (b64 : Int) l).toNat
def num16 (l : List Int) : Nat := (val (b16 : Int) l).toNat
abbrev limbs (v : Nat) : List Int := toD b64 v
abbrev digs (v : Nat) : List Int := toD b16 v
theorem b64_pos : (0 : Int) < (b64 : Int) := by decide
theorem b16_pos : (0 : Int) < (b16 : Int) := by decide
theorem num_val {l : List Int} (h : Dig (b64 : Int) l) : (num l : Int) = val (b64 : Int) l := by
  have := val_nonneg b64_pos h
  unfold num; omega
theorem num16_val {l : List Int} (h : Dig (b16 : Int) l) : (num16 l : Int) = val (b16 : Int) l := by
  have := val_nonneg b16_pos h
  unfold num16; omega
theorem num_limbs (v : Nat) : num (limbs v) = v := by unfold num limbs; rw [val_toD b64_two]; omega
theorem num16_digs (v : Nat) : num16 (digs v) = v := by unfold num16 digs; rw [val_toD b16_two]; omega
theorem limbs_num {l : List Int} (h : Dig (b64 : Int) l) (hc : Can l) : limbs (num l) = l := (can_toD b64_two h hc).symm
theorem digs_num {l : List Int} (h : Dig (b16 : Int) l) (hc : Can l) : digs (num16 l) = l := (can_toD b16_two h hc).symm
theorem strip_limbs {l : List Int} (h : Dig (b64 : Int) l) : strip l = limbs (num l) := strip_toD b64_two h
theorem strip_digs {l : List Int} (h : Dig (b16 : Int) l) : strip l = digs (num16 l) := strip_toD b16_two h
theorem limbs_inj {v w : Nat} (h : limbs v = limbs w) : v = w := by rw [← num_limbs v, h, num_limbs]
theorem dig_of_wf {l : List Int} (h : ∀ x ∈ l, (Lit.int .u64 x).wf = true) : Dig (b64 : Int) l := fun x hx => wf_u64 (h x hx)
theorem num_lt {l : List Int} (h : Dig (b64 : Int) l) : num l < b64 ^ l.length := by
  have h1 := val_lt b64_pos h
  rw [← num_val h, pow_cast] at h1
  omega
theorem num16_lt {l : List Int} (h : Dig (b16 : Int) l) : num16 l < b16 ^ l.length := by
  have h1 := val_lt b16_pos h
  rw [← num16_val h, pow_cast] at h1
  omega
theorem num_nil : num [] = 0 := rfl
theorem num_one {x : Int} (h : 0 ≤ x) : num [x] = x.toNat := by simp [num, val]
theorem num16_nil : num16 [] = 0 := rfl
theorem num_cons {d : Int} {l : List Int} (h : Dig (b64 : Int) (d :: l)) : num (d :: l) = d.toNat + b64 * num l := by
  have h1 := Dig.cons.1 h
  have h2 := num_val h
  have h3 := num_val h1.2
  have h4 : ((d.toNat + b64 * num l : Nat) : Int) = d + (b64 : Int) * val (b64 : Int) l := by
    rw [← h3]; simp; omega
  have h5 : val (b64 : Int) (d :: l) = d + (b64 : Int) * val (b64 : Int) l := rfl
  omega
/-- No number of ours comes to that. -/
def thousand : Nat := 1000
def lim : Nat := b64 ^ thousand
theorem lim_pow {n : Nat} (h : n ≤ 1000) : b64 ^ n ≤ lim := Nat.pow_le_pow_right (by decide) (show n ≤ thousand from h)
theorem pow_lt_lim {n : Nat} (h : n < 1000) : b64 ^ n + b64 ^ n ≤ lim := by
  have h1 : b64 ^ (n + 1) ≤ lim := lim_pow h
  have h2 : b64 ^ n * 2 ≤ b64 ^ n * b64 := Nat.mul_le_mul_left _ b64_two
  rw [Nat.pow_succ] at h1
  omega
theorem num_lt_lim {l : List Int} (h : Dig (b64 : Int) l) (hl : l.length ≤ 1000) : num l < lim := Nat.lt_of_lt_of_le (num_lt h) (lim_pow hl)
theorem digs_len {v : Nat} (hv : v < lim) : (digs v).length ≤ 4000 := by
  have h : lim = b16 ^ (4 * thousand) := by
    unfold lim
    rw [b64_pow, ← Nat.pow_mul]
  rw [h] at hv
  have h2 := toD_len_le b16_two hv
  exact Nat.le_trans h2 (by decide)
theorem b64_pow2 (m : Nat) : b64 ^ m = 2 ^ (64 * m) := by
  have h : b64 = 2 ^ 64 := by decide
  rw [h, ← Nat.pow_mul]
theorem pow2_le_b64 {n m : Nat} (h : n ≤ 64 * m) : 2 ^ n ≤ b64 ^ m := by
  rw [b64_pow2]
  exact Nat.pow_le_pow_right (by decide) h
theorem b64_le_pow2 {n m : Nat} (h : 64 * m ≤ n) : b64 ^ m ≤ 2 ^ n := by
  rw [b64_pow2]
  exact Nat.pow_le_pow_right (by decide) h
theorem num_lt_p {a : List Int} (da : Dig (b64 : Int) a) (ha : a.length ≤ 64) : num a < b64 ^ 64 := Nat.lt_of_lt_of_le (num_lt da) (Nat.pow_le_pow_right (show b64 > 0 by decide) ha)
/-- Three ways. -/
def cmpN (x y : Nat) : Int := if x < y then -1 else if x = y then 0 else 1
/-- Too long an answer. -/
def toldV (v : Nat) : List Int × Int := if v < b64 ^ 64 then (limbs v, 0) else ([], 4)
theorem limbs_long (v : Nat) : (limbs v).length ≤ 64 ↔ v < b64 ^ 64 := toD_len_iff b64_two v 64
/-- The number of what a number's digits are, limb by limb. -/
theorem val_base (l : List Int) (hl : Dig (b64 : Int) l) : ∃ m, Dig (b16 : Int) m ∧ m.length = 4 * l.length ∧ val (b16 : Int) m = val (b64 : Int) l ∧ m = l.flatMap (fun x => [x % 65536, x / 65536 % 65536, x / 65536 / 65536 % 65536, x / 65536 / 65536 / 65536 % 65536]) := by
  induction l with
  | nil => exact ⟨[], Dig.nil, rfl, rfl, rfl⟩
  | cons d l ih =>
    have h1 := Dig.cons.1 hl
    obtain ⟨m, hm, hlen, hv, he⟩ := ih h1.2
    refine ⟨[d % 65536, d / 65536 % 65536, d / 65536 / 65536 % 65536, d / 65536 / 65536 / 65536 % 65536] ++ m, ?_, ?_, ?_, ?_⟩
    · refine Dig.append.2 ⟨?_, hm⟩
      intro x hx
      simp only [List.mem_cons, List.not_mem_nil, or_false] at hx
      simp only [b16]
      omega
    · simp only [List.length_append, List.length_cons, List.length_nil, hlen]; omega
    · rw [val_append, hv]
      have h2 := h1.1
      simp only [b64] at h2 ⊢
      simp only [val, b16, List.length_cons, List.length_nil]
      omega
    · simp only [List.flatMap_cons, ← he]
end Go.Proofs.Yteabkedhdgnhgaa.Z

namespace Go.Proofs.Yteabkedhdgnhgaa.Z
open Go.RowKit Go.Proofs.Yteabkedhdgnhgaa.F Go.Proofs.YteabkedhdgnhgaaW.PrintWords
set_option linter.unusedSimpArgs false
set_option linter.unusedVariables false
theorem least_div (x : Nat) (hx : 2 ≤ x) : ∃ p, 2 ≤ p ∧ x % p = 0 ∧ ∀ j, 2 ≤ j → j < p → x % j ≠ 0 := by
  have h : ∀ n : Nat, (∃ p, p ≤ n ∧ 2 ≤ p ∧ x % p = 0 ∧ ∀ j, 2 ≤ j → j < p → x % j ≠ 0) ∨ (∀ j, 2 ≤ j → j ≤ n → x % j ≠ 0) := by
    intro n
    induction n with
    | zero => exact Or.inr (fun j h1 h2 => by omega)
    | succ n ih =>
      rcases ih with ⟨p, h1, h2⟩ | h1
      · exact Or.inl ⟨p, by omega, h2⟩
      · by_cases h2 : 2 ≤ n + 1 ∧ x % (n + 1) = 0
        · exact Or.inl ⟨n + 1, Nat.le_refl _, h2.1, h2.2, fun j a b => h1 j a (by omega)⟩
        · refine Or.inr (fun j a b => ?_)
          by_cases e : j = n + 1
          · subst e; exact fun h3 => h2 ⟨a, h3⟩
          · exact h1 j a (by omega)
  rcases h x with ⟨p, _, h2⟩ | h1
  · exact ⟨p, h2⟩
  · exact absurd (Nat.mod_self x) (h1 x hx (Nat.le_refl _))
/-- It is the least divisor above 1. -/
theorem leastV_char (x : Nat) (hx : 2 ≤ x) : 2 ≤ leastV x ∧ x % leastV x = 0 ∧ ∀ j, 2 ≤ j → j < leastV x → x % j ≠ 0 := by
  obtain ⟨p, h1, h2, h3⟩ := least_div x hx
  have e : leastV x = p := by
    by_cases hp : p * p ≤ x
    · exact leastV_some h1 hp h2 h3
    · have hn : leastV x = x := leastV_none (fun d a b c => by
        rcases Nat.lt_or_ge d p with h | h
        · exact h3 d a h c
        · have := Nat.mul_le_mul h h
          omega)
      rw [hn]
      obtain ⟨q, hq⟩ := Nat.dvd_of_mod_eq_zero h2
      have hq0 : 0 < q := by
        rcases Nat.eq_zero_or_pos q with h | h
        · subst h; omega
        · exact h
      by_cases hq1 : q = 1
      · subst hq1; omega
      · exfalso
        have hqp : p ≤ q := by
          rcases Nat.lt_or_ge q p with h | h
          · exact absurd (Nat.mod_eq_zero_of_dvd ⟨p, by rw [hq, Nat.mul_comm]⟩) (h3 q (by omega) h)
          · exact h
        have := Nat.mul_le_mul_left p hqp
        omega
  rw [e]
  exact ⟨h1, h2, h3⟩
theorem leastV_le {x d : Nat} (hx : 2 ≤ x) (hd : 2 ≤ d) (h : x % d = 0) : leastV x ≤ d := by
  rcases Nat.lt_or_ge d (leastV x) with h1 | h1
  · exact absurd h ((leastV_char x hx).2.2 d hd h1)
  · exact h1
def limP : Int := 1099511627776
/-- Whether a number is a prime. -/
def isV (x : Int) : Bool × Int := if x ≥ 1099511627776 then (false, 1) else if x > 1 then (((leastV x.toNat : Nat) : Int) == x, 0) else (false, 0)
def lstV (x : Int) : Int × Int := if x < 2 then (0, 1) else if x ≥ 1099511627776 then (0, 1) else (((leastV x.toNat : Nat) : Int), 0)
theorem prime_Is_eq (x : Int) (hx : 0 ≤ x) : prime_Is.f x = some (isV x) := by
  unfold prime_Is.f isV
  by_cases h1 : x ≥ 1099511627776
  · rw [if_pos h1, if_pos h1]
  · rw [if_neg h1, if_neg h1]
    by_cases h2 : x > 1
    · rw [if_pos h2, if_pos h2]
      unfold prime_least.f
      rw [if_pos ⟨hx, by omega⟩]
      rfl
    · rw [if_neg h2, if_neg h2]
theorem prime_Least_eq (x : Int) (hx : 0 ≤ x) : prime_Least.f x = some (lstV x) := by
  unfold prime_Least.f lstV
  by_cases h1 : x < 2
  · rw [if_pos h1, if_pos h1]
  · rw [if_neg h1, if_neg h1]
    by_cases h2 : x ≥ 1099511627776
    · rw [if_pos h2, if_pos h2]
    · rw [if_neg h2, if_neg h2]
      unfold prime_least.f
      rw [if_pos ⟨hx, by omega⟩]
      rfl
theorem leastV_two : leastV 2 = 2 := leastV_none (fun d a b => by
  have := Nat.mul_le_mul a a
  omega)
end Go.Proofs.Yteabkedhdgnhgaa.Z

namespace Go.Proofs.Yteabkedhdgnhgaa.Pure
open Go.RowKit Go.Proofs.Yteabkedhdgnhgaa.F Go.Proofs.Yteabkedhdgnhgaa.Z
set_option linter.unusedSimpArgs false
set_option linter.unusedVariables false
theorem parts_l0 (n : Nat) : ∀ (left last i : Nat), 1 ≤ left → left < 1099511627776 → left ≤ 2 ^ n → i + n ≤ 40 → (∀ d, 2 ≤ d → left % d = 0 → last ≤ d) →
    Evt (fun k => windbreaklaw05_PrimeParts.l0 k (left : Int) (last : Int) (i : Int)) true := by
  induction n with
  | zero =>
    intro left last i h1 hm h2 hi hd
    obtain rfl : left = 1 := by simp at h2; omega
    refine Evt.succ ?_
    simp only [windbreaklaw05_PrimeParts.l0]
    refine Evt.ite_pos (by omega) (Evt.succ ?_)
    simp only [windbreaklaw05_PrimeParts.j2]
    refine Evt.ite_neg (by simp) ?_
    exact Evt.pure true
  | succ n ih =>
    intro left last i h1 hm h2 hi hd
    by_cases h : left = 1
    · subst h
      refine Evt.succ ?_
      simp only [windbreaklaw05_PrimeParts.l0]
      refine Evt.ite_pos (by omega) (Evt.succ ?_)
      simp only [windbreaklaw05_PrimeParts.j2]
      refine Evt.ite_neg (by simp) ?_
      exact Evt.pure true
    · have hx : 2 ≤ left := by omega
      obtain ⟨p1, p2, p3⟩ := leastV_char left hx
      have hle : leastV left ≤ left := Nat.le_of_dvd (by omega) (Nat.dvd_of_mod_eq_zero p2)
      have hlast := hd _ p1 p2
      have eL : lstV (left : Int) = (((leastV left : Nat) : Int), 0) := by
        unfold lstV
        rw [if_neg (by omega), if_neg (by omega), Int.toNat_natCast]
      have hp : leastV (leastV left) = leastV left := by
        obtain ⟨q1, q2, q3⟩ := leastV_char (leastV left) p1
        have q4 : leastV (leastV left) ≤ leastV left := Nat.le_of_dvd (by omega) (Nat.dvd_of_mod_eq_zero q2)
        have q5 : left % leastV (leastV left) = 0 := Nat.mod_eq_zero_of_dvd (Nat.dvd_trans (Nat.dvd_of_mod_eq_zero q2) (Nat.dvd_of_mod_eq_zero p2))
        have := leastV_le hx q1 q5
        omega
      have eI : isV ((leastV left : Nat) : Int) = (true, 0) := by
        unfold isV
        rw [if_neg (by omega), if_pos (by omega), Int.toNat_natCast, hp]
        simp
      refine Evt.succ ?_
      simp only [windbreaklaw05_PrimeParts.l0]
      refine Evt.ite_pos (by omega) (Evt.succ ?_)
      simp only [windbreaklaw05_PrimeParts.j2]
      refine Evt.ite_pos (decide_eq_true (by omega)) ?_
      refine Evt.bind (Evt.of fun _ => (prime_Least_eq (left : Int) (by omega)).trans (by rw [eL])) ?_
      refine Evt.ite_pos rfl (Evt.ite_neg (by show ¬ ((leastV left : Nat) : Int) < (last : Int); omega) (Evt.ite_neg (by show ¬ ((leastV left : Nat) : Int) = 0; omega) (Evt.succ ?_)))
      simp only [windbreaklaw05_PrimeParts.j3]
      have em : Int.tmod (left : Int) ((leastV left : Nat) : Int) = 0 := by
        rw [Int.tmod_eq_emod_of_nonneg (by omega)]
        omega
      rw [em]
      refine Evt.ite_neg (by simp) ?_
      refine Evt.bind (Evt.of fun _ => (prime_Is_eq _ (by omega)).trans (by rw [eI])) ?_
      refine Evt.ite_pos rfl (Evt.ite_pos rfl (Evt.ite_neg (by omega) ?_))
      have eq : Int.tdiv (left : Int) ((leastV left : Nat) : Int) = ((left / leastV left : Nat) : Int) := by
        rw [Int.tdiv_eq_ediv_of_nonneg (by omega)]
        rfl
      have hq1 : left / leastV left ≤ left := Nat.div_le_self _ _
      have hq2 : 1 ≤ left / leastV left := Nat.div_pos hle (by omega)
      have hq3 : left / leastV left ≤ 2 ^ n := by
        have : left / leastV left ≤ left / 2 := Nat.div_le_div_left p1 (by omega)
        rw [Nat.pow_succ] at h2
        omega
      rw [eq, wu64_of (by omega) (by omega), w64 (by omega) (by omega)]
      have hh := ih (left / leastV left) (leastV left) (i + 1) hq2 (by omega) hq3 (by omega) (fun e a b => by
        have hdv : e ∣ left := Nat.dvd_trans (Nat.dvd_of_mod_eq_zero b) (Nat.div_dvd_of_dvd (Nat.dvd_of_mod_eq_zero p2))
        exact leastV_le hx a (Nat.mod_eq_zero_of_dvd hdv))
      exact hh
theorem PrimeParts : windbreaklaw05_PrimeParts.Pure := by
  intro x wx
  apply Evt.get
  have hx := (wf_u64 wx).1
  unfold windbreaklaw05_PrimeParts.f
  by_cases h1 : x < 2
  · refine Evt.ite_pos h1 (Evt.succ ?_)
    simp only [windbreaklaw05_PrimeParts.j0]
    exact Evt.ite_pos trivial (Evt.pure _)
  · refine Evt.ite_neg h1 (Evt.succ ?_)
    simp only [windbreaklaw05_PrimeParts.j0]
    by_cases h2 : x ≥ 1099511627776
    · exact Evt.ite_pos (decide_eq_true h2) (Evt.pure _)
    · refine Evt.ite_neg (by simpa using h2) ?_
      have h := parts_l0 40 x.toNat 2 0 (by omega) (by omega) (by omega) (by omega) (fun d a _ => a)
      rw [Int.toNat_of_nonneg hx] at h
      exact h
end Go.Proofs.Yteabkedhdgnhgaa.Pure

namespace Go.Proofs.Yteabkedhdgnhgaa.primeParts
open Go.ChangeShapes Go.WideShapes Go.ChangeAt Go.RowKit
open Go.ChangeMaps (open_string shut_string)
set_option linter.unusedVariables false
theorem own : ownKnob Try.prog.godebug = none := by kernel_rfl
set_option maxRecDepth 100000 in
theorem lifted (os : Os) (started : os.Started) (H : Type) (enc : TypeId × Value → H) :
    ReturnsInHanded {} Try.checked os 7 .any (Rows.primePartsSpec.pre6 enc Try.prog Try.f7 Rows.primePartsRow.domain false) (Rows.primePartsSpec.post enc Try.prog Try.f7 false true false false) := by
  refine returnsInHanded_of_change_sized (C := Try.checked) own started (by kernel_rfl) Try.func7
    (ChangeSpec.witness6 (enc := enc) (C := Try.checked) false ⟨#[], #[.int .u64 0], []⟩ 8 (by kernel_rfl) (by kernel_rfl) (by kernel_rfl) (by kernel_rfl)) ?_
  intro W base args ds gs before hval0 hW hcnd hsz0 _
  have hsz : (DataW.weightsEach Try.prog (Try.f7.params.toList ++ Rows.primePartsSpec.plain.varTypes Try.prog) (ds ++ gs)).all (· ≤ reachBytes) = true := hsz0
  have hval : ∀ (j : Nat) t v, Try.f7.params[j]? = some t → args[j]? = some v → Value.okWide Try.prog W .any base t v := hval0
  have hW' := hW
  obtain ⟨p, q, hA0, hV, rfl, hfz, hnd⟩ := hW
  have hA : DataW.TrodAll enc Try.prog W 0 (fun _ => true) true Try.f7.params.toList args.toList ds p := hA0
  rw [Try.params7] at hA hval hsz
  obtain ⟨v0, vs0, d0, ds0, p0, q0, hargs, rfl, rfl, h0, r0⟩ := trodAll_cons hA
  obtain ⟨rfl, rfl, rfl⟩ := trodAll_nil r0
  obtain rfl : args = #[v0] := by cases args; simp_all
  obtain ⟨rfl, rfl⟩ := trodVars_none hV
  obtain ⟨a0, rfl, rfl, rfl, w0⟩ := open_int Try.underlying34 (hval 0 34 v0 rfl rfl) h0
  clear hA0 hval0 hsz0 hsz
  refine (F.windbreaklaw05_PrimeParts.walk Pure.PrimeParts a0 W w0).mono fun e W' ⟨he, bel⟩ => ?_
  subst he
  exact ⟨_, rfl, _, _, _, [], _, [], hW', trodAll_mk1 (shut_bool Try.underlying4 _), (trodAll_cons_mk (shut_int Try.underlying34 w0) trodAll_mk0), rfl, bel.frame _, fun h => by cases h⟩
theorem over : Rows.primePartsRow.holds Try.pinned (OpenSpec.ofChange Rows.primePartsSpec) :=
  OpenClaim.holds_of_wide 7 Try.f7 rfl rfl rfl rfl rfl rfl rfl ⟨rfl, rfl, rfl, rfl, rfl⟩ rfl rfl rfl rfl rfl (by kernel_rfl) Try.func7 (by kernel_rfl)
    (of_decide_eq_true (by kernel_rfl)) (by unfold Func.isWrapper; first | (rw [if_pos (by decide +kernel)]; kernel_rfl) | (rw [if_neg (by decide +kernel)]; exact ⟨rfl, rfl⟩))
    (fun os started H enc _ => lifted os started H enc)
theorem proved : Rows.PrimePartsSaid := over
#print axioms proved
end Go.Proofs.Yteabkedhdgnhgaa.primeParts
namespace Go.Proofs.Yteabkedhdgnhgaa
/-- The row, under a short name, for the claim. -/
theorem primeParts_holds : Rows.PrimePartsSaid := primeParts.proved
end Go.Proofs.Yteabkedhdgnhgaa
