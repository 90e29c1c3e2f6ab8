/- Proved: the law NatSpreads of layer 1: a product with a sum is the sum of the products; for every input, without a condition. -/
import Derived.Laws.Externs
import Derived.Test.YteabkedhdgnhgabProg
import Derived.Below
import Derived.Deep.Draws
import Derived.Deep.AppendLies
import Derived.Maps.AppendAt
import Derived.OwnWalk
import Derived.Laws.BytesArg
import Derived.Laws.MakeOwn
import Derived.Laws.OwnMore
import Derived.Deep.OwnRows
import Derived.Tactics
import Derived.Lib.ConvBytes
import Derived.Laws.Slices
import Derived.WalkKit
import Derived.KernelRfl
import Derived.RowKit3
import Derived.Deep.LoopGhost
import Derived.Deep.QuietTactic
import Derived.BigQuiet
import Derived.WideLaws
import Derived.Deep.DeepCutAuto
import Derived.Deep.CutBlock
import Derived.Deep.RegionHeld3
import Derived.Laws.Rows
import Derived.Lib.AppendStr
import Derived.ArgAppend
import Derived.Laws.IdiomCopy
import Derived.OrdersHeld
import Derived.Laws.BitsLemmas
import Derived.RowKit
import Derived.Test.YteabkedhdgnhgabWWords
import Derived.Test.YteabkedhdgnhgabWLast
import Derived.Test.YteabkedhdgnhgabWTab
import Derived.Test.YteabkedhdgnhgabWFour
import Derived.Test.YteabkedhdgnhgabWQPut
import Derived.Test.YteabkedhdgnhgabWApart
import Derived.Test.YteabkedhdgnhgabWArr
import Derived.Test.YteabkedhdgnhgabWZeros
import Derived.Test.YteabkedhdgnhgabWFoot
import Derived.Test.YteabkedhdgnhgabWKept
import Derived.Test.YteabkedhdgnhgabWShare
import Derived.Test.YteabkedhdgnhgabWN
import Derived.Test.YteabkedhdgnhgabWFootNe
import Derived.Test.YteabkedhdgnhgabWAt
import Derived.Test.YteabkedhdgnhgabWEqStruct
import Derived.Test.YteabkedhdgnhgabWRepsOne
import Derived.Test.YteabkedhdgnhgabWInv
import Derived.Test.YteabkedhdgnhgabWInvWords
import Derived.Test.YteabkedhdgnhgabWGuard
import Derived.Test.YteabkedhdgnhgabWNEv
import Derived.Test.YteabkedhdgnhgabWMore

namespace Go.Proofs.Yteabkedhdgnhgab.F
open Go.RowKit Go.Proofs.YteabkedhdgnhgabW.PrintWords Go.Proofs.YteabkedhdgnhgabW.PrintLast Go.Proofs.YteabkedhdgnhgabW.PrintMore
attribute [local go_sem] max2_int min2_int max_two min_two max_three min_three max_four min_four   -- for this text's walks alone
set_option linter.unusedVariables false
set_option linter.unusedSimpArgs false



def errW : Option Int → Value
  | none => .nilIface
  | some c => .iface 0 (.int .i64 c)
theorem errW_none : errW none = .nilIface := rfl
theorem errW_some (c : Int) : errW (some c) = .iface 0 (.int .i64 c) := rfl

/-- make([]T, 0, c): nothing yet, with room. -/
theorem R_make0 {P : Program} {ops : Array Oper} {rest : List Oper} {o : Oper} {a : Act} {Q : Exit → Act → World → Prop} {α : Type} (d : Kd α) {w0 W : World} (base e : Nat) (hgd : o.guard = none) {N : Tmp} (_hd : o.dst = some N) (t : TypeId) (x y : Operand) (ho : o.op = .makeSlice t x y) (c : Nat) (hx : a.eval x = .int .i64 0) (hy : a.eval y = .int .i64 (c : Int))
    (ht : P.underlying t = some (.slice e)) (z : Value) (bytes : Nat) (hinfo : (P.info? e).map (fun i => (i.zero, i.size, i.bytes)) = some (some z, d.sz, bytes)) (z0 : α) {ok : Nat → Prop} (hfresh : ok W.heap.size) (hl : c * bytes ≤ 281474976710656) (hc : c ≤ 9223372036854775807) (HB : Below base w0 W) (hbase : base ≤ W.heap.size)
    (h : ∀ v1 w1, d.R e w1 base ok v1 (List.replicate (0 : Int).toNat z0) → Below base w0 w1 → W.grownBy w1 none → (∃ b, v1.ownBlock = some b ∧ W.heap.size ≤ b) → wpList P ops Q rest (a.put o.dst v1) w1) : wpList P ops Q (o :: rest) a W := by
  obtain ⟨i0, hi, hzz⟩ := Option.map_eq_some_iff.1 hinfo
  simp only [Prod.mk.injEq] at hzz
  obtain ⟨hz0, hz1, hz2⟩ := hzz
  have hr := run_make (P := P) W t e i0 z ht hi hz0 .i64 .i64 0 (c : Int) (Int.le_refl _) (by omega)
    (by
      have h3 : ((i0.bytes * c : Nat) : Int) ≤ 281474976710656 := by rw [hz2, Nat.mul_comm]; omega
      rwa [Int.natCast_mul] at h3) (by omega)
  simp only [Int.toNat_natCast] at hr
  rw [hz1] at hr
  refine Kd.event_run hgd (w1 := W.alloc (.cells (madeCells z.cells (c * d.sz)) e)) (v := .slice (some ⟨W.heap.size, 0, none⟩) 0 c) ?_ (h _ _ ⟨fun k hk => ?_, [], ?_, ?_⟩ (HB.alloc hbase _) (World.grownBy_alloc W _ none) ⟨W.heap.size, by simp [Value.ownBlock], Nat.le_refl _⟩)
  · simp [execOp, ho, hx, hy, hr]
  · have : W.heap.size = k := by simpa [Value.ownBlock] using hk
    subst this
    exact hfresh
  · simpa using World.ownsRow_made (base := base) (e := e) (size := d.sz) W _ c hbase (by simpa [maxLen] using hc) (size_madeCells _ _)
  · exact ⟨by simp, fun j p hj => by simp at hj⟩

/-- A slice against nil. -/
theorem clone_eq {P : Program} (w : World) (d : Nat) (t e : TypeId) (a : Option Addr) (n c n' c' : Nat) (h : P.underlying t = some (.slice e)) : (Op.equalIn (d + 1) t (.slice a n c) (.slice none n' c')).run P w = .ok a.isNone w := by
  cases a <;> simp [Op.equalIn, run_underlying h]
theorem clone_nil {P : Program} {t e : TypeId} (h : P.underlying t = some (.slice e)) (w : World) (a : Option Addr) (n c n' c' : Nat) : (binOp .eql t (.slice a n c) (.slice none n' c')).run P w = .ok (.bool a.isNone) w := by
  simp only [binOp]
  simp [Op.equal, Op.maxDepth, clone_eq w 9999 t e a n c n' c' h]

/-- '[]byte(s)': a row that is read only (its block bears the conversion's mark), told by the blocks it lies in: all of them new. -/
theorem V_bytes {P : Program} {ops : Array Oper} {rest : List Oper} {o : Oper} {a : Act} {Q : Exit → Act → World → Prop} {w0 W : World} (base e : Nat) (hgd : o.guard = none) {N : Tmp} (_hd : o.dst = some N) (s : ByteArray) (hs : s.size ≤ 9223372036854775807)
    (hrun : (execOp a.eval o).run P W = .ok (.value (.slice (some ⟨W.heap.size, 0, none⟩) s.size (grownCap W s.size 0 e))) (Go.Lib.bytesWorld W e s)) (HB : Below base w0 W) (hbase : base ≤ W.heap.size)
    (h : ∀ v1 w1, Kd.V (Kd.int .u8) e w1 base (fun k_ => W.heap.size ≤ k_) v1 (bytesOf s) → Below base w0 w1 → W.grownBy w1 none → (∀ k, v1.ownBlock = some k → W.heap.size ≤ k) → wpList P ops Q rest (a.put o.dst v1) w1) : wpList P ops Q (o :: rest) a W := by
  have hb : Below W.heap.size W (Go.Lib.bytesWorld W e s) := bytes_below (Below.refl _ _) (Nat.le_refl _) e s
  refine Kd.event_run hgd hrun (h _ _ ⟨some ⟨W.heap.size, 0, none⟩, grownCap W s.size 0 e, by rw [bytesOf_length], by rw [bytesOf_length]; exact grownCap_ge W s.size 0 e, ?_⟩ (bytes_below HB hbase e s) (grown_of_below hb none) ?_)
  · intro W' hW
    have hr := bytes_reads W e s hs
    refine Kd.C_of_reads (d := (0 : Int)) (h1 := fun _ => rfl) ⟨rfl, by rw [bytesOf_length]; exact hs, fun hn => ⟨_, rfl, fun j hj => ?_⟩⟩
    rw [bytesOf_length] at hj
    obtain ⟨ad, he, hc⟩ := hr.2.2 (by omega)
    obtain rfl := Option.some.inj he
    have h2 := hc j hj
    have h3 : W'.heap[W.heap.size]? = (Go.Lib.bytesWorld W e s).heap[W.heap.size]? := hW _ (Nat.le_refl _) (by rw [Go.Lib.bytesWorld_size]; omega)
    rw [add_plain] at h2 ⊢
    rw [← h2]
    simp only [World.cell?, h3]
  · intro k hk
    have : W.heap.size = k := by simpa [Value.ownBlock] using hk
    omega

theorem u64_u8 (z : Int) : IntKind.u64.wrap (IntKind.u8.wrap z) = z % 256 := by
  simp [IntKind.wrap, IntKind.bits, IntKind.signed]
  omega

/-- A carry that may be. -/
def carry01 (c : Int) : Bool := decide (c = 0 ∨ c = 1)
def add64_s (x y c : Int) : Int := ((x.toNat + y.toNat + c.toNat) % 18446744073709551616 : Nat)
def add64_c (x y c : Int) : Int := ((x.toNat + y.toNat + c.toNat) / 18446744073709551616 : Nat)
def sub64_s (x y c : Int) : Int := ((x.toNat + 18446744073709551616 - y.toNat - c.toNat) % 18446744073709551616 : Nat)
def sub64_c (x y c : Int) : Int := (if x.toNat < y.toNat + c.toNat then 1 else 0 : Nat)
def add64Entry_ : Array Value → Sem Value := (Extern.MathBitsCarry.rows.get ⟨0, by decide⟩).2
def sub64Entry_ : Array Value → Sem Value := (Extern.MathBitsCarry.rows.get ⟨1, by decide⟩).2
theorem carry_cases {c : Int} (h : carry01 c = true) : c = 0 ∨ c = 1 := of_decide_eq_true h
theorem add64_any {P : Program} {f : FuncId} {fn : Func} (hf : P.funcs[f]? = some fn) (hname : (fn.name == "runtime.NumGoroutine") = false) (hb : fn.body.isNone = true) (hn : Extern.findNext fn = none) (he : Extern.find fn = some add64Entry_) (x y c : Int) (w : World) (h : carry01 c = true) :
    (callFunc f #[.int .u64 x, .int .u64 y, .int .u64 c]).run P w = .ok (.value (.tuple #[.int .u64 (add64_s x y c), .int .u64 (add64_c x y c)])) w := by
  rw [run_callFunc_extern hf hname hb hn he]
  rcases carry_cases h with rfl | rfl <;> rfl
theorem sub64_any {P : Program} {f : FuncId} {fn : Func} (hf : P.funcs[f]? = some fn) (hname : (fn.name == "runtime.NumGoroutine") = false) (hb : fn.body.isNone = true) (hn : Extern.findNext fn = none) (he : Extern.find fn = some sub64Entry_) (x y c : Int) (w : World) (h : carry01 c = true) :
    (callFunc f #[.int .u64 x, .int .u64 y, .int .u64 c]).run P w = .ok (.value (.tuple #[.int .u64 (sub64_s x y c), .int .u64 (sub64_c x y c)])) w := by
  rw [run_callFunc_extern hf hname hb hn he]
  rcases carry_cases h with rfl | rfl <;> rfl

theorem add64_run (x y c : Int) (w : World) (h : carry01 c = true) : (callFunc 36 #[.int .u64 x, .int .u64 y, .int .u64 c]).run Try.prog w = .ok (.value (.tuple #[.int .u64 (add64_s x y c), .int .u64 (add64_c x y c)])) w := add64_any Try.func36 (by kernel_rfl) (by kernel_rfl) (by kernel_rfl) (by kernel_rfl) x y c w h
theorem sub64_run (x y c : Int) (w : World) (h : carry01 c = true) : (callFunc 63 #[.int .u64 x, .int .u64 y, .int .u64 c]).run Try.prog w = .ok (.value (.tuple #[.int .u64 (sub64_s x y c), .int .u64 (sub64_c x y c)])) w := sub64_any Try.func63 (by kernel_rfl) (by kernel_rfl) (by kernel_rfl) (by kernel_rfl) x y c w h
theorem info5 : (Try.prog.info? 5).map (fun i => (i.zero, i.size, i.bytes)) = some (some (.int .u8 0), 1, 1) := by kernel_rfl
theorem info23 : (Try.prog.info? 23).map (fun i => (i.zero, i.size, i.bytes)) = some (some (.slice none 0 0), 1, 24) := by kernel_rfl
theorem info29 : (Try.prog.info? 29).map (fun i => (i.zero, i.size, i.bytes)) = some (some (.int .u64 0), 1, 8) := by kernel_rfl
-- the values' own types
def rd_L1 (xs : List (List Int)) (i : Int) : (List Int) := xs.getD i.toNat ([] : List Int)
theorem at_L1 {w : World} {A : Option Addr} {n : Nat} {xs : List (List Int)} (h : Kd.C (Kd.slice 29 (Kd.int .u64)) w A n xs) (i : Int) (h0 : 0 ≤ i) (h1 : i < n) : ∃ ad A0 c0, A = some ad ∧ w.cell? (ad.add i.toNat) = some (.slice A0 (rd_L1 xs i).length c0) ∧ (rd_L1 xs i).length ≤ c0 ∧ (Kd.int .u64).C w A0 (rd_L1 xs i).length (rd_L1 xs i) := by
  obtain ⟨ad, c, e, _, hK, hc0⟩ := Kd.C_get h ([] : List Int) i h0 h1
  have hc : ∀ j u, c[j]? = some u → w.cell? (ad.add (i.toNat * 1 + j)) = some u := hc0
  obtain ⟨A0, c0, rfl, l0, g0⟩ := hK
  exact ⟨ad, A0, c0, e, by have hq := hc 0 _ rfl; rwa [Nat.mul_one, Nat.add_zero] at hq, l0, g0⟩

def rd_L2 (xs : List (List (List Int))) (i : Int) : (List (List Int)) := xs.getD i.toNat ([] : List (List Int))
theorem at_L2 {w : World} {A : Option Addr} {n : Nat} {xs : List (List (List Int))} (h : Kd.C (Kd.slice 23 (Kd.slice 29 (Kd.int .u64))) w A n xs) (i : Int) (h0 : 0 ≤ i) (h1 : i < n) : ∃ ad A0 c0, A = some ad ∧ w.cell? (ad.add i.toNat) = some (.slice A0 (rd_L2 xs i).length c0) ∧ (rd_L2 xs i).length ≤ c0 ∧ (Kd.slice 29 (Kd.int .u64)).C w A0 (rd_L2 xs i).length (rd_L2 xs i) := by
  obtain ⟨ad, c, e, _, hK, hc0⟩ := Kd.C_get h ([] : List (List Int)) i h0 h1
  have hc : ∀ j u, c[j]? = some u → w.cell? (ad.add (i.toNat * 1 + j)) = some u := hc0
  obtain ⟨A0, c0, rfl, l0, g0⟩ := hK
  exact ⟨ad, A0, c0, e, by have hq := hc 0 _ rfl; rwa [Nat.mul_one, Nat.add_zero] at hq, l0, g0⟩

end Go.Proofs.Yteabkedhdgnhgab.F

namespace Go.Proofs.Yteabkedhdgnhgab.F
open Go.RowKit Go.Proofs.YteabkedhdgnhgabW.PrintWords Go.Proofs.YteabkedhdgnhgabW.PrintLast Go.Proofs.YteabkedhdgnhgabW.PrintMore
attribute [local go_sem] max2_int min2_int max_two min_two max_three min_three max_four min_four   -- for this text's walks alone
set_option linter.unusedVariables false
set_option linter.unusedSimpArgs false

/-! ### windbreaklaw01_few: function 9 -/
def windbreaklaw01_few.l0 : Nat → List (List Int) → Int → Option (Bool)
  | 0, _, _ => none
  | k + 1, x0, x3 => if x3 < (x0.length : Int) then (if 0 ≤ x3 then (if ((rd_L1 x0 x3).length : Int) > 70 then (some false) else (windbreaklaw01_few.l0 k x0 (wrap64 (x3 + 1)))) else (none)) else (some true)
def windbreaklaw01_few.f (k : Nat) (l0 : List (List Int)) : Option (Bool) := windbreaklaw01_few.l0 k l0 0
theorem windbreaklaw01_few.mono_l : ∀ k, (∀ y0 y1, LeO (windbreaklaw01_few.l0 k y0 y1) (windbreaklaw01_few.l0 (k + 1) y0 y1))
  | 0 => fun _ _ r h => by simp [windbreaklaw01_few.l0] at h
  | k + 1 => by
    have ih0 := windbreaklaw01_few.mono_l k
    · intro y0 y1
      unfold windbreaklaw01_few.l0
      repeat' first
      | (with_reducible exact ih0 _ _)
      | (with_reducible exact LeO.refl _)
      | (with_reducible exact LeO.none _)
      | (with_reducible refine LeO.ite ?_ ?_)
      | (with_reducible refine LeO.bind ?_ (fun _ => ?_))
      | exact ih0 _ _
      | exact LeO.none _
      | refine LeO.ite ?_ ?_
      | refine LeO.bind ?_ (fun _ => ?_)
theorem windbreaklaw01_few.mono : ∀ a0 k, LeO (windbreaklaw01_few.f k a0) (windbreaklaw01_few.f (k + 1) a0) := by
  intro a0 k
  have ih0 := windbreaklaw01_few.mono_l k
  unfold windbreaklaw01_few.f
  repeat' first
      | (with_reducible exact ih0 _ _)
      | (with_reducible exact LeO.refl _)
      | (with_reducible exact LeO.none _)
      | (with_reducible refine LeO.ite ?_ ?_)
      | (with_reducible refine LeO.bind ?_ (fun _ => ?_))
      | exact ih0 _ _
      | exact LeO.none _
      | refine LeO.ite ?_ ?_
      | refine LeO.bind ?_ (fun _ => ?_)
set_option maxHeartbeats 8000000 in
set_option maxRecDepth 100000 in
theorem windbreaklaw01_few.calls (k : Nat) (A0 : Option Addr) (c0 : Nat) (l0 : List (List Int)) (r : Bool) (w : World) (hr0 : Kd.C (Kd.slice 29 (Kd.int .u64)) w A0 l0.length l0) (hc0 : l0.length ≤ c0) (h : windbreaklaw01_few.f k l0 = some r) :
    Calls Try.prog 9 #[.slice A0 l0.length c0] w fun e w' => e = .returned (.bool r) ∧ Drawn0 w w' := by
  have HR0 := Aside0.mk hr0
  have HC0 := Aside0.mk hc0
  clear hr0 hc0
  have H : (windbreaklaw01_few.l0 k l0 0) = some r := h
  clear h
  have H' := Aside0.mk H
  clear H
  go_enter Try.func9, Try.ntmps9
  go_wp2
  go_loopg [3] k (fun kq v3 w' => ∃ (x3_1 : Int), v3 = .int .i64 x3_1 ∧ Aside0 (windbreaklaw01_few.l0 kq l0 x3_1 = some r) ∧ Aside0 (kq ≤ k) ∧ Drawn0 w w')
  case atStart => exact ⟨(0), (by first | rfl | (simp; done) | (simp [*]; done)), H', ⟨Nat.le_refl _⟩, by repeat (first | exact Drawn0.refl _ | apply Drawn0.step)⟩
  case round =>
    clear H'
    obtain ⟨x3_1, rfl, HA, HK1, ⟨m1, rfl⟩⟩ := hrel
    cases gk with
    | zero => exact absurd HA.out (by simp [windbreaklaw01_few.l0])
    | succ k1 =>
      have H := HA.out
      clear HA
      simp only [windbreaklaw01_few.l0] at H
      by_cases c2 : x3_1 < (l0.length : Int)
      · rw [if_pos c2] at H
        have c2b0 : decide (x3_1 < (l0.length : Int)) = true := decide_eq_true c2
        clear c2
        by_cases c3 : 0 ≤ x3_1
        · rw [if_pos c3] at H
          have c3b0 : decide (0 ≤ x3_1) = true := decide_eq_true c3
          clear c3
          by_cases c4 : ((rd_L1 l0 x3_1).length : Int) > 70
          · rw [if_pos c4] at H
            have c4b0 : decide (70 < ((rd_L1 l0 x3_1).length : Int)) = true := decide_eq_true c4
            have c4b1 : decide (70 < (rd_L1 l0 x3_1).length) = true := decide_eq_true (by omega)
            clear c4
            obtain rfl := Option.some.inj H
            have p101 : 0 ≤ (x3_1 : Int) := of_decide_eq_true (by first | (with_reducible assumption) | assumption)
            have q101 : x3_1 < (l0.length : Int) := of_decide_eq_true (by first | (with_reducible assumption) | assumption)
            obtain ⟨ad101, A101_0, c101_0, e101, hx101_0, hl101_0, hi101_0⟩ := at_L1 HR0.out x3_1 p101 q101
            cases e101
            have HR101_0 := Aside0.mk hi101_0
            have HC101_0 := Aside0.mk hl101_0
            clear hi101_0 hl101_0
            replace p101 := eq_true p101
            replace q101 := eq_true q101
            go_wp2
            go_ret
            exact ⟨by first | rfl | (simp; done) | (simp [*]; done), by repeat (first | exact Drawn0.refl _ | apply Drawn0.step)⟩
          · rw [if_neg c4] at H
            have c4b0 : decide (70 < ((rd_L1 l0 x3_1).length : Int)) = false := decide_eq_false c4
            have c4b1 : decide (70 < (rd_L1 l0 x3_1).length) = false := decide_eq_false (by omega)
            clear c4
            have H' := Aside0.mk H
            clear H
            have p101 : 0 ≤ (x3_1 : Int) := of_decide_eq_true (by first | (with_reducible assumption) | assumption)
            have q101 : x3_1 < (l0.length : Int) := of_decide_eq_true (by first | (with_reducible assumption) | assumption)
            obtain ⟨ad101, A101_0, c101_0, e101, hx101_0, hl101_0, hi101_0⟩ := at_L1 HR0.out x3_1 p101 q101
            cases e101
            have HR101_0 := Aside0.mk hi101_0
            have HC101_0 := Aside0.mk hl101_0
            clear hi101_0 hl101_0
            replace p101 := eq_true p101
            replace q101 := eq_true q101
            go_wp2
            go_roundg k1
            case measure => have := HK1.out; omega
            case rel => exact ⟨(wrap64 (x3_1 + 1)), (by first | rfl | (simp; done) | (simp [*]; done)), H', ⟨by have := HK1.out; omega⟩, by repeat (first | exact Drawn0.refl _ | apply Drawn0.step)⟩
        · rw [if_neg c3] at H
          exact absurd H (by simp)
      · rw [if_neg c2] at H
        have c2b0 : decide (x3_1 < (l0.length : Int)) = false := decide_eq_false c2
        clear c2
        obtain rfl := Option.some.inj H
        go_wp2
        go_ret
        exact ⟨by first | rfl | (simp; done) | (simp [*]; done), by repeat (first | exact Drawn0.refl _ | apply Drawn0.step)⟩

end Go.Proofs.Yteabkedhdgnhgab.F

namespace Go.Proofs.Yteabkedhdgnhgab.F
open Go.RowKit Go.Proofs.YteabkedhdgnhgabW.PrintWords Go.Proofs.YteabkedhdgnhgabW.PrintLast Go.Proofs.YteabkedhdgnhgabW.PrintMore
attribute [local go_sem] max2_int min2_int max_two min_two max_three min_three max_four min_four   -- for this text's walks alone
set_option linter.unusedVariables false
set_option linter.unusedSimpArgs false

/-! ### nat_trim: function 48 -/
def nat_trim.l0 : Nat → List Int → Int → Option (List Int)
  | 0, _, _ => none
  | k + 1, x0, x3 => if x3 > 0 then (if 0 ≤ (wrap64 (x3 - 1)) then (if (wrap64 (x3 - 1)) < (x0.length : Int) then (if (rd x0 (wrap64 (x3 - 1))) = 0 then (nat_trim.l0 k x0 (wrap64 (x3 - 1))) else (if 0 ≤ x3 then (if x3 ≤ (x0.length : Int) then (some (x0.take (x3 : Int).toNat)) else (none)) else (none))) else (none)) else (none)) else (if 0 ≤ x3 then (if x3 ≤ (x0.length : Int) then (some (x0.take (x3 : Int).toNat)) else (none)) else (none))
def nat_trim.f (k : Nat) (l0 : List Int) : Option (List Int) := nat_trim.l0 k l0 (l0.length : Int)
theorem nat_trim.mono_l : ∀ k, (∀ y0 y1, LeO (nat_trim.l0 k y0 y1) (nat_trim.l0 (k + 1) y0 y1))
  | 0 => fun _ _ r h => by simp [nat_trim.l0] at h
  | k + 1 => by
    have ih0 := nat_trim.mono_l k
    · intro y0 y1
      unfold nat_trim.l0
      repeat' first
      | (with_reducible exact ih0 _ _)
      | (with_reducible exact LeO.refl _)
      | (with_reducible exact LeO.none _)
      | (with_reducible refine LeO.ite ?_ ?_)
      | (with_reducible refine LeO.bind ?_ (fun _ => ?_))
      | exact ih0 _ _
      | exact LeO.none _
      | refine LeO.ite ?_ ?_
      | refine LeO.bind ?_ (fun _ => ?_)
theorem nat_trim.mono : ∀ a0 k, LeO (nat_trim.f k a0) (nat_trim.f (k + 1) a0) := by
  intro a0 k
  have ih0 := nat_trim.mono_l k
  unfold nat_trim.f
  repeat' first
      | (with_reducible exact ih0 _ _)
      | (with_reducible exact LeO.refl _)
      | (with_reducible exact LeO.none _)
      | (with_reducible refine LeO.ite ?_ ?_)
      | (with_reducible refine LeO.bind ?_ (fun _ => ?_))
      | exact ih0 _ _
      | exact LeO.none _
      | refine LeO.ite ?_ ?_
      | refine LeO.bind ?_ (fun _ => ?_)
set_option maxHeartbeats 8000000 in
set_option maxRecDepth 100000 in
theorem nat_trim.calls (k : Nat) (P0_ : Nat → Prop) (u9000_ : Value) (l0 : List Int) (r : List Int) (w0 w : World) (hB : Below w0.heap.size w0 w) (ho0 : Kd.R (Kd.int .u64) 29 w w0.heap.size P0_ u9000_ l0) (h : nat_trim.f k l0 = some r) :
    Calls Try.prog 48 #[u9000_] w fun e w' => ∃ v0_ : Value, e = .returned (v0_) ∧ Kd.R (Kd.int .u64) 29 w' w0.heap.size (fun k_ => (P0_ k_ ∨ w.heap.size ≤ k_)) v0_ r ∧ Below w0.heap.size w0 w' ∧ Kept w w' (fun k_ => P0_ k_) := by
  have HO0 := Aside0.mk (show Kd.R (Kd.int .u64) 29 w w0.heap.size (fun k_ => (P0_ k_ ∨ w.heap.size ≤ k_)) u9000_ l0 from Kd.R_mono ho0 (fun k_ hk => (.inl hk)))
  have HK := Aside0.mk (Kept.refl w (fun k_ => P0_ k_))
  have HW0 := Aside0.mk hB.size
  have HB := Aside0.mk hB
  clear hB
  have H : (nat_trim.l0 k l0 (l0.length : Int)) = some r := h
  clear h
  have H' := Aside0.mk H
  clear H
  obtain ⟨Ao2, co2, eo2⟩ := Kd.R_slice HO0.out
  subst eo2
  go_enter Try.func48, Try.ntmps48
  go_wp2
  go_loopg [3] k (fun kq v3 w' => ∃ (x3_1 : Int), v3 = .int .i64 x3_1 ∧ Aside0 (nat_trim.l0 kq l0 x3_1 = some r) ∧ Aside0 (kq ≤ k) ∧ Aside0 (Kd.R (Kd.int .u64) 29 w' w0.heap.size (fun k_ => (P0_ k_ ∨ w.heap.size ≤ k_)) (.slice Ao2 l0.length co2) l0) ∧ Aside0 (Kept w w' (fun k_ => P0_ k_)) ∧ Aside0 (Below w0.heap.size w0 w'))
  case atStart => exact ⟨((l0.length : Int)), (by first | rfl | (simp; done) | (simp [*]; done)), H', ⟨Nat.le_refl _⟩, ⟨by (with_reducible repeat (first | apply Kd.R_alloc | apply Kd.R_drewN | apply Kd.R_drew)); exact HO0.out⟩, ⟨by repeat (first | (with_reducible first | exact HK.out | apply Kept.alloc | apply Kept.drewN | apply Kept.drew) | exact HK.out)⟩, ⟨by repeat (first | (with_reducible first | exact HB.out | apply below_alloc | apply pw_below_drewN | apply below_drew1) | exact HB.out)⟩⟩
  case round =>
    clear H'
    try clear p2
    obtain ⟨x3_1, rfl, HA, HK1, HO_0, HK, HB⟩ := hrel
    cases gk with
    | zero => exact absurd HA.out (by simp [nat_trim.l0])
    | succ k1 =>
      have H := HA.out
      clear HA
      simp only [nat_trim.l0] at H
      by_cases c3 : x3_1 > 0
      · rw [if_pos c3] at H
        have c3b0 : decide (0 < x3_1) = true := decide_eq_true c3
        clear c3
        obtain ⟨ji4, hji4⟩ : ∃ j_ : Int, (wrap64 (x3_1 - 1)) = j_ := ⟨_, rfl⟩
        replace H : (if 0 ≤ (ji4) then (if (ji4) < (l0.length : Int) then (if (rd l0 (ji4)) = 0 then (nat_trim.l0 k1 l0 ji4) else (if 0 ≤ x3_1 then (if x3_1 ≤ (l0.length : Int) then (some (l0.take (x3_1 : Int).toNat)) else (none)) else (none))) else (none)) else (none)) = some r := by first | (rw [hji4] at H; exact H) | (simp only [hji4] at H ⊢; exact H)
        have hji4w : (IntKind.i64.wrap (x3_1 - 1)) = ji4 := (i64_w _).trans hji4
        by_cases c5 : 0 ≤ (ji4)
        · rw [if_pos c5] at H
          have c5b0 : decide (0 ≤ (ji4)) = true := decide_eq_true c5
          clear c5
          by_cases c6 : (ji4) < (l0.length : Int)
          · rw [if_pos c6] at H
            have c6b0 : decide ((ji4) < (l0.length : Int)) = true := decide_eq_true c6
            clear c6
            by_cases c7 : (rd l0 (ji4)) = 0
            · rw [if_pos c7] at H
              have c7b0 : ((rd l0 (ji4)) == 0) = true := beq_iff_eq.mpr c7
              have c7b1 : ((rd l0 (ji4)) != 0) = false := bne_eq_false_iff_eq.mpr c7
              clear c7
              have H' := Aside0.mk H
              clear H
              have p103 : 0 ≤ ((ji4) : Int) := of_decide_eq_true (by first | (with_reducible assumption) | assumption)
              have q103 : (ji4) < (l0.length : Int) := of_decide_eq_true (by first | (with_reducible assumption) | assumption)
              obtain ⟨ad103, e103, hx103_0⟩ := Kd.at_int (Kd.R_reads' HO_0.out).2.2 (ji4) p103 q103
              cases e103
              replace p103 := eq_true p103
              replace q103 := eq_true q103
              go_wp2
              first | go_roundg k1 | ((try simp only [← hji4] at H'); simp only [← hji4]; go_roundg k1)
              case measure => have := HK1.out; omega
              case rel => first | exact ⟨(ji4), (by first | rfl | (simp; done) | (simp only [← hji4] <;> (first | rfl | simp)) | (simp [*]; done)), H', ⟨by have := HK1.out; omega⟩, ⟨by (with_reducible repeat (first | apply Kd.R_alloc | apply Kd.R_drewN | apply Kd.R_drew)); exact HO_0.out⟩, ⟨by repeat (first | (with_reducible first | exact HK.out | apply Kept.alloc | apply Kept.drewN | apply Kept.drew) | exact HK.out)⟩, ⟨by repeat (first | (with_reducible first | exact HB.out | apply below_alloc | apply pw_below_drewN | apply below_drew1) | exact HB.out)⟩⟩ | (simp only [← hji4] at H'; exact ⟨(ji4), (by first | rfl | (simp; done) | (simp only [← hji4] <;> (first | rfl | simp)) | (simp [*]; done)), H', ⟨by have := HK1.out; omega⟩, ⟨by (with_reducible repeat (first | apply Kd.R_alloc | apply Kd.R_drewN | apply Kd.R_drew)); exact HO_0.out⟩, ⟨by repeat (first | (with_reducible first | exact HK.out | apply Kept.alloc | apply Kept.drewN | apply Kept.drew) | exact HK.out)⟩, ⟨by repeat (first | (with_reducible first | exact HB.out | apply below_alloc | apply pw_below_drewN | apply below_drew1) | exact HB.out)⟩⟩)
            · rw [if_neg c7] at H
              have c7b0 : ((rd l0 (ji4)) == 0) = false := beq_eq_false_iff_ne.mpr c7
              have c7b1 : ((rd l0 (ji4)) != 0) = true := bne_iff_ne.mpr c7
              by_cases c8 : 0 ≤ x3_1
              · rw [if_pos c8] at H
                have c8b0 := eq_true c8
                have c8b1 : decide (0 ≤ x3_1) = true := decide_eq_true c8
                clear c8
                by_cases c9 : x3_1 ≤ (l0.length : Int)
                · rw [if_pos c9] at H
                  have c9b0 := eq_true c9
                  have c9b1 : decide (x3_1 ≤ (l0.length : Int)) = true := decide_eq_true c9
                  clear c9
                  obtain ⟨y104, hy104⟩ : ∃ y_ : List Int, y_ = (l0.take (x3_1 : Int).toNat) := ⟨_, rfl⟩
                  replace H : (some y104) = some r := by first | (rw [hy104]; with_reducible exact H) | (have H2_ := (Option.bind_some _ _).symm.trans H; rw [hy104]; with_reducible exact H2_) | (have H2_ := (Option.bind_some _ _).symm.trans H; with_reducible exact H2_) | with_reducible exact H | (rw [hy104]; exact H) | exact H
                  have Ny104 := Aside0.mk hy104
                  clear hy104
                  obtain rfl := Option.some.inj H
                  have p103 : 0 ≤ ((ji4) : Int) := of_decide_eq_true (by first | (with_reducible assumption) | assumption)
                  have q103 : (ji4) < (l0.length : Int) := of_decide_eq_true (by first | (with_reducible assumption) | assumption)
                  obtain ⟨ad103, e103, hx103_0⟩ := Kd.at_int (Kd.R_reads' HO_0.out).2.2 (ji4) p103 q103
                  cases e103
                  replace p103 := eq_true p103
                  replace q103 := eq_true q103
                  have q10 : (x3_1 : Int) ≤ ((l0.length : Int) : Int) := of_decide_eq_true (by first | (with_reducible assumption) | assumption)
                  obtain ⟨i010, hi010, _, hsz10, _⟩ := info_parts info29
                  have hcut10 := cut_to (P := Try.prog) 23 29 .i64 Try.underlying23 hi010 (some ad103) l0.length co2 x3_1 (of_decide_eq_true (by first | (with_reducible assumption) | assumption)) q10 (Kd.R_reads' HO_0.out).2.1
                  have hr10 := Kd.R_take (m := (x3_1 : Int).toNat) HO_0.out (by omega)
                  have hy10 : y104.length = (x3_1 : Int).toNat := (by rw [Ny104.out, List.length_take]; omega)
                  rw [← Ny104.out] at hr10
                  rw [← hy10] at hr10 hcut10
                  clear hy10 hi010 hsz10 HO_0
                  have HO106 := Aside0.mk hr10
                  clear hr10
                  replace q10 := eq_true q10
                  go_wp2
                  go_ret
                  exact ⟨_, by first | rfl | (simp [errW_none, errW_some] <;> rfl) | (simp only [← hji4]; first | rfl | (simp [errW_none, errW_some] <;> rfl)) | (simp [*, errW_none, errW_some] <;> rfl), by (with_reducible repeat (first | apply Kd.R_alloc | apply Kd.R_drewN | apply Kd.R_drew)); exact HO106.out, by repeat (first | (with_reducible first | exact HB.out | apply below_alloc | apply pw_below_drewN | apply below_drew1) | exact HB.out), by repeat (first | (with_reducible first | exact HK.out | apply Kept.alloc | apply Kept.drewN | apply Kept.drew) | exact HK.out)⟩
                · rw [if_neg c9] at H
                  exact absurd H (by simp)
              · rw [if_neg c8] at H
                exact absurd H (by simp)
          · rw [if_neg c6] at H
            exact absurd H (by simp)
        · rw [if_neg c5] at H
          exact absurd H (by simp)
      · rw [if_neg c3] at H
        have c3b0 : decide (0 < x3_1) = false := decide_eq_false c3
        clear c3
        by_cases c11 : 0 ≤ x3_1
        · rw [if_pos c11] at H
          have c11b0 := eq_true c11
          have c11b1 : decide (0 ≤ x3_1) = true := decide_eq_true c11
          clear c11
          by_cases c12 : x3_1 ≤ (l0.length : Int)
          · rw [if_pos c12] at H
            have c12b0 := eq_true c12
            have c12b1 : decide (x3_1 ≤ (l0.length : Int)) = true := decide_eq_true c12
            clear c12
            obtain ⟨y107, hy107⟩ : ∃ y_ : List Int, y_ = (l0.take (x3_1 : Int).toNat) := ⟨_, rfl⟩
            replace H : (some y107) = some r := by first | (rw [hy107]; with_reducible exact H) | (have H2_ := (Option.bind_some _ _).symm.trans H; rw [hy107]; with_reducible exact H2_) | (have H2_ := (Option.bind_some _ _).symm.trans H; with_reducible exact H2_) | with_reducible exact H | (rw [hy107]; exact H) | exact H
            have Ny107 := Aside0.mk hy107
            clear hy107
            obtain rfl := Option.some.inj H
            have q13 : (x3_1 : Int) ≤ ((l0.length : Int) : Int) := of_decide_eq_true (by first | (with_reducible assumption) | assumption)
            obtain ⟨i013, hi013, _, hsz13, _⟩ := info_parts info29
            have hcut13 := cut_to (P := Try.prog) 23 29 .i64 Try.underlying23 hi013 Ao2 l0.length co2 x3_1 (of_decide_eq_true (by first | (with_reducible assumption) | assumption)) q13 (Kd.R_reads' HO_0.out).2.1
            have hr13 := Kd.R_take (m := (x3_1 : Int).toNat) HO_0.out (by omega)
            have hy13 : y107.length = (x3_1 : Int).toNat := (by rw [Ny107.out, List.length_take]; omega)
            rw [← Ny107.out] at hr13
            rw [← hy13] at hr13 hcut13
            clear hy13 hi013 hsz13 HO_0
            have HO109 := Aside0.mk hr13
            clear hr13
            replace q13 := eq_true q13
            go_wp2
            go_ret
            exact ⟨_, by first | rfl | (simp [errW_none, errW_some] <;> rfl) | (simp [*, errW_none, errW_some] <;> rfl), by (with_reducible repeat (first | apply Kd.R_alloc | apply Kd.R_drewN | apply Kd.R_drew)); exact HO109.out, by repeat (first | (with_reducible first | exact HB.out | apply below_alloc | apply pw_below_drewN | apply below_drew1) | exact HB.out), by repeat (first | (with_reducible first | exact HK.out | apply Kept.alloc | apply Kept.drewN | apply Kept.drew) | exact HK.out)⟩
          · rw [if_neg c12] at H
            exact absurd H (by simp)
        · rw [if_neg c11] at H
          exact absurd H (by simp)

end Go.Proofs.Yteabkedhdgnhgab.F

namespace Go.Proofs.Yteabkedhdgnhgab.F
open Go.RowKit Go.Proofs.YteabkedhdgnhgabW.PrintWords Go.Proofs.YteabkedhdgnhgabW.PrintLast Go.Proofs.YteabkedhdgnhgabW.PrintMore
attribute [local go_sem] max2_int min2_int max_two min_two max_three min_three max_four min_four   -- for this text's walks alone
set_option linter.unusedVariables false
set_option linter.unusedSimpArgs false

/-! ### nat_told: function 25 -/
def nat_told.f (k : Nat) (l0 : List Int) : Option (List Int × Int) := (nat_trim.f k l0).bind fun t110 => (if (t110.length : Int) > 64 then (some (([] : List Int), 4)) else (some (t110, 0)))
theorem nat_told.mono : ∀ a0 k, LeO (nat_told.f k a0) (nat_told.f (k + 1) a0) := by
  intro a0 k
  unfold nat_told.f
  repeat' first
      | (with_reducible exact nat_trim.mono _ _)
      | (with_reducible exact LeO.refl _)
      | (with_reducible exact LeO.none _)
      | (with_reducible refine LeO.ite ?_ ?_)
      | (with_reducible refine LeO.bind ?_ (fun _ => ?_))
      | exact nat_trim.mono _ _
      | exact LeO.none _
      | refine LeO.ite ?_ ?_
      | refine LeO.bind ?_ (fun _ => ?_)
set_option maxHeartbeats 8000000 in
set_option maxRecDepth 100000 in
theorem nat_told.calls (k : Nat) (P0_ : Nat → Prop) (u9000_ : Value) (l0 : List Int) (r1 : List Int) (r2 : Int) (w0 w : World) (hB : Below w0.heap.size w0 w) (ho0 : Kd.R (Kd.int .u64) 29 w w0.heap.size P0_ u9000_ l0) (h : nat_told.f k l0 = some (r1, r2)) :
    Calls Try.prog 25 #[u9000_] w fun e w' => ∃ v0_ : Value, e = .returned (.tuple #[v0_, .int .i64 r2]) ∧ Kd.R (Kd.int .u64) 29 w' w0.heap.size (fun k_ => (P0_ k_ ∨ w.heap.size ≤ k_)) v0_ r1 ∧ Below w0.heap.size w0 w' ∧ Kept w w' (fun k_ => P0_ k_) := by
  have HO0 := Aside0.mk (show Kd.R (Kd.int .u64) 29 w w0.heap.size (fun k_ => (P0_ k_ ∨ w.heap.size ≤ k_)) u9000_ l0 from Kd.R_mono ho0 (fun k_ hk => (.inl hk)))
  have HK := Aside0.mk (Kept.refl w (fun k_ => P0_ k_))
  have HW0 := Aside0.mk hB.size
  have HB := Aside0.mk hB
  clear hB
  have H : ((nat_trim.f k l0).bind fun t110 => (if (t110.length : Int) > 64 then (some (([] : List Int), 4)) else (some (t110, 0)))) = some (r1, r2) := h
  clear h
  replace H := Option.bind_eq_some_iff.mp H
  obtain ⟨t110, A20, H⟩ := H
  replace H : (if (t110.length : Int) > 64 then (some (([] : List Int), 4)) else (some (t110, 0))) = some (r1, r2) := H
  have A2 := Aside0.mk A20
  clear A20
  by_cases c3 : (t110.length : Int) > 64
  · rw [if_pos c3] at H
    have c3b0 : decide (64 < (t110.length : Int)) = true := decide_eq_true c3
    have c3b1 : decide (64 < t110.length) = true := decide_eq_true (by omega)
    clear c3
    simp only [Option.some.injEq, Prod.mk.injEq] at H
    obtain ⟨rfl, rfl⟩ := H
    obtain ⟨Ao4, co4, eo4⟩ := Kd.R_slice HO0.out
    subst eo4
    go_enter Try.func25, Try.ntmps25
    go_wp2_with (first | ((with_reducible refine gate_callee (f := 48) rfl ?_); refine goesL_ (some 5) rfl rfl Try.func48 (by kernel_rfl) rfl #[.slice Ao4 l0.length co4] rfl (by (try simp only [List.map_toArray, List.map_cons, List.map_nil]); first | done | rfl | (simp only [List.length_drop, List.length_take]; rfl)) ?_; (with_reducible refine (nat_trim.calls k (fun k_ => some k_ = (.slice Ao4 l0.length co4 : Value).ownBlock) (.slice Ao4 l0.length co4) l0 t110 w0 _ ?side1 ?side2 A2.out).mono ?_); (case side1 => repeat (first | (with_reducible first | exact HB.out | apply below_alloc | apply pw_below_drewN | apply below_drew1) | exact HB.out)); (case side2 => exact Kd.R_tight rfl HO0.out); rintro e w5 ⟨v111, rfl, ho0, hb, hkp⟩; refine ⟨_, rfl, ?_⟩; have n0_ := Aside0.mk (Kd.R_mono (ok' := fun k_ => (P0_ k_ ∨ w.heap.size ≤ k_)) ho0 (fun k_ hk_ => Or.elim hk_ (fun hs_ => (HO0.out.1 k_ (hs_).symm)) (fun hn_ => (.inr (Nat.le_trans (by first | exact HK.out.1 | exact (show Kept w _ (fun k_ => P0_ k_) from by repeat (first | (with_reducible first | exact HK.out | apply Kept.alloc | apply Kept.drewN | apply Kept.drew) | exact HK.out)).1) hn_))))); have n1_ := Aside0.mk (Kept.then_ (S := (fun k_ => P0_ k_)) (by repeat (first | (with_reducible first | exact HK.out | apply Kept.alloc | apply Kept.drewN | apply Kept.drew) | exact HK.out)) hkp (fun k_ hs_ => (fun e_ => (HO0.out.1 k_ e_.symm)) hs_)); have n2_ := Aside0.mk (hb); clear HK; clear HB; clear HO0; have HO112 := n0_; have HK := n1_; have HB := n2_; clear n0_ n1_ n2_; (try clear hb); (try clear hkp); (try clear ho0); obtain ⟨Ao6, co6, eo6⟩ := Kd.R_slice HO112.out; subst eo6))
    go_ret2
    exact ⟨_, by first | rfl | (simp [errW_none, errW_some] <;> rfl) | (simp [*, errW_none, errW_some] <;> rfl), by first | exact Kd.R_nil _ _ _ _ _ | exact Kd.N_nil _ _ _ _ _ | exact Kd.V_nil _ _ _ _ _ | exact Kd.Q_nil _ _ _ _ _ | exact Kd.S_nil _ _ _ _ _, by repeat (first | (with_reducible first | exact HB.out | apply below_alloc | apply pw_below_drewN | apply below_drew1) | exact HB.out), by repeat (first | (with_reducible first | exact HK.out | apply Kept.alloc | apply Kept.drewN | apply Kept.drew) | exact HK.out)⟩
  · rw [if_neg c3] at H
    have c3b0 : decide (64 < (t110.length : Int)) = false := decide_eq_false c3
    have c3b1 : decide (64 < t110.length) = false := decide_eq_false (by omega)
    clear c3
    simp only [Option.some.injEq, Prod.mk.injEq] at H
    obtain ⟨rfl, rfl⟩ := H
    obtain ⟨Ao7, co7, eo7⟩ := Kd.R_slice HO0.out
    subst eo7
    go_enter Try.func25, Try.ntmps25
    go_wp2_with (first | ((with_reducible refine gate_callee (f := 48) rfl ?_); refine goesL_ (some 5) rfl rfl Try.func48 (by kernel_rfl) rfl #[.slice Ao7 l0.length co7] rfl (by (try simp only [List.map_toArray, List.map_cons, List.map_nil]); first | done | rfl | (simp only [List.length_drop, List.length_take]; rfl)) ?_; (with_reducible refine (nat_trim.calls k (fun k_ => some k_ = (.slice Ao7 l0.length co7 : Value).ownBlock) (.slice Ao7 l0.length co7) l0 t110 w0 _ ?side1 ?side2 A2.out).mono ?_); (case side1 => repeat (first | (with_reducible first | exact HB.out | apply below_alloc | apply pw_below_drewN | apply below_drew1) | exact HB.out)); (case side2 => exact Kd.R_tight rfl HO0.out); rintro e w8 ⟨v111, rfl, ho0, hb, hkp⟩; refine ⟨_, rfl, ?_⟩; have n0_ := Aside0.mk (Kd.R_mono (ok' := fun k_ => (P0_ k_ ∨ w.heap.size ≤ k_)) ho0 (fun k_ hk_ => Or.elim hk_ (fun hs_ => (HO0.out.1 k_ (hs_).symm)) (fun hn_ => (.inr (Nat.le_trans (by first | exact HK.out.1 | exact (show Kept w _ (fun k_ => P0_ k_) from by repeat (first | (with_reducible first | exact HK.out | apply Kept.alloc | apply Kept.drewN | apply Kept.drew) | exact HK.out)).1) hn_))))); have n1_ := Aside0.mk (Kept.then_ (S := (fun k_ => P0_ k_)) (by repeat (first | (with_reducible first | exact HK.out | apply Kept.alloc | apply Kept.drewN | apply Kept.drew) | exact HK.out)) hkp (fun k_ hs_ => (fun e_ => (HO0.out.1 k_ e_.symm)) hs_)); have n2_ := Aside0.mk (hb); clear HK; clear HB; clear HO0; have HO112 := n0_; have HK := n1_; have HB := n2_; clear n0_ n1_ n2_; (try clear hb); (try clear hkp); (try clear ho0); obtain ⟨Ao9, co9, eo9⟩ := Kd.R_slice HO112.out; subst eo9))
    go_ret2
    exact ⟨_, by first | rfl | (simp [errW_none, errW_some] <;> rfl) | (simp [*, errW_none, errW_some] <;> rfl), by (with_reducible repeat (first | apply Kd.R_alloc | apply Kd.R_drewN | apply Kd.R_drew)); exact HO112.out, by repeat (first | (with_reducible first | exact HB.out | apply below_alloc | apply pw_below_drewN | apply below_drew1) | exact HB.out), by repeat (first | (with_reducible first | exact HK.out | apply Kept.alloc | apply Kept.drewN | apply Kept.drew) | exact HK.out)⟩

end Go.Proofs.Yteabkedhdgnhgab.F

namespace Go.Proofs.Yteabkedhdgnhgab.Z
open Go.RowKit Go.Proofs.YteabkedhdgnhgabW.PrintWords
set_option linter.unusedSimpArgs false
set_option linter.unusedVariables false

/-! ### Rounds: from some number on the answer is r -/
def Evt {α : Type} (g : Nat → Option α) (r : α) : Prop := ∃ n, ∀ k, n ≤ k → g k = some r
theorem Evt.of {α : Type} {g : Nat → Option α} {r : α} (h : ∀ k, g k = some r) : Evt g r := ⟨0, fun k _ => h k⟩
theorem Evt.pure {α : Type} (r : α) : Evt (fun _ => some r) r := ⟨0, fun _ _ => rfl⟩
theorem Evt.bind {α β : Type} {g : Nat → Option α} {h : α → Nat → Option β} {a : α} {b : β} (h1 : Evt g a) (h2 : Evt (h a) b) : Evt (fun k => (g k).bind fun x => h x k) b := by
  obtain ⟨n, hn⟩ := h1
  obtain ⟨m, hm⟩ := h2
  exact ⟨n + m, fun k hk => by simp only [hn k (by omega), Option.bind_some]; exact hm k (by omega)⟩
theorem Evt.succ {α : Type} {g : Nat → Option α} {r : α} (h : Evt (fun k => g (k + 1)) r) : Evt g r := by
  obtain ⟨n, hn⟩ := h
  refine ⟨n + 1, fun k hk => ?_⟩
  obtain ⟨m, rfl⟩ : ∃ m, k = m + 1 := ⟨k - 1, by omega⟩
  exact hn m (by omega)
theorem Evt.get {α : Type} {g : Nat → Option α} {r : α} (h : Evt g r) : ∃ k, g k = some r := by
  obtain ⟨n, hn⟩ := h
  exact ⟨n, hn n (Nat.le_refl _)⟩
theorem Evt.congr {α : Type} {g g' : Nat → Option α} {r r' : α} (h : Evt g r) (hg : ∀ k, g' k = g k) (hr : r = r') : Evt g' r' := by
  subst hr
  obtain ⟨n, hn⟩ := h
  exact ⟨n, fun k hk => (hg k).trans (hn k hk)⟩
theorem Evt.ite_pos {α : Type} {c : Prop} [Decidable c] {g h : Nat → Option α} {r : α} (hc : c) (hg : Evt g r) : Evt (fun k => if c then g k else h k) r := by
  obtain ⟨n, hn⟩ := hg
  exact ⟨n, fun k hk => (if_pos hc).trans (hn k hk)⟩
theorem Evt.ite_neg {α : Type} {c : Prop} [Decidable c] {g h : Nat → Option α} {r : α} (hc : ¬ c) (hg : Evt h r) : Evt (fun k => if c then g k else h k) r := by
  obtain ⟨n, hn⟩ := hg
  exact ⟨n, fun k hk => (if_neg hc).trans (hn k hk)⟩
theorem Evt.cond {α : Type} {c : Prop} [Decidable c] {g h : Nat → Option α} {r s : α} (hg : c → Evt g r) (hh : ¬ c → Evt h s) : Evt (fun k => if c then g k else h k) (if c then r else s) := by
  by_cases hc : c
  · rw [if_pos hc]; exact Evt.ite_pos hc (hg hc)
  · rw [if_neg hc]; exact Evt.ite_neg hc (hh hc)

theorem Evt.cond' {α : Type} {c : Prop} [Decidable c] {g h : Nat → Option α} {r : α} (hg : c → Evt g r) (hh : ¬ c → Evt h r) : Evt (fun k => if c then g k else h k) r := by
  by_cases hc : c
  · exact Evt.ite_pos hc (hg hc)
  · exact Evt.ite_neg hc (hh hc)

/-! ### Numbers of a machine -/
theorem w64 {x : Int} (h0 : -9223372036854775808 ≤ x) (h1 : x < 9223372036854775808) : wrap64 x = x := by unfold wrap64; omega
theorem wu64 (x : Int) : IntKind.u64.wrap x = x % 18446744073709551616 := by simp [IntKind.wrap, IntKind.bits, IntKind.signed]
theorem wu64_of {x : Int} (h0 : 0 ≤ x) (h1 : x < 18446744073709551616) : IntKind.u64.wrap x = x := by rw [wu64]; omega
theorem wf_u64 {x : Int} (h : (Lit.int .u64 x).wf = true) : 0 ≤ x ∧ x < 18446744073709551616 := by
  simp [Lit.wf, IntKind.min, IntKind.max, IntKind.bits, IntKind.signed] at h
  omega
theorem wf_i64 {x : Int} (h : (Lit.int .i64 x).wf = true) : -9223372036854775808 ≤ x ∧ x < 9223372036854775808 := by
  simp [Lit.wf, IntKind.min, IntKind.max, IntKind.bits, IntKind.signed] at h
  omega
theorem rd_getD (l : List Int) (i : Int) : rd l i = l.getD i.toNat 0 := rfl
theorem rd_nat (l : List Int) (i : Nat) : rd l (i : Int) = l.getD i 0 := rfl

/-! ### Digits -/
/-- The number of digits, the lowest first. -/
def val (B : Int) : List Int → Int
  | [] => 0
  | d :: l => d + B * val B l
/-- All are digits. -/
def Dig (B : Int) (l : List Int) : Prop := ∀ x, x ∈ l → 0 ≤ x ∧ x < B
/-- The last digit is not 0. -/
def Can (l : List Int) : Prop := ∀ h : l ≠ [], l.getLast h ≠ 0
/-- Without noughts behind. -/
def strip : List Int → List Int
  | [] => []
  | d :: l => if strip l = [] then (if d = 0 then [] else [d]) else d :: strip l

theorem Dig.nil {B : Int} : Dig B [] := fun _ h => by simp at h
theorem Dig.cons {B d : Int} {l : List Int} : Dig B (d :: l) ↔ (0 ≤ d ∧ d < B) ∧ Dig B l := by
  unfold Dig
  simp
theorem Dig.append {B : Int} {l m : List Int} : Dig B (l ++ m) ↔ Dig B l ∧ Dig B m := by
  unfold Dig
  constructor
  · intro h
    exact ⟨fun x hx => h x (by simp [hx]), fun x hx => h x (by simp [hx])⟩
  · intro h x hx
    rcases List.mem_append.1 hx with hx | hx
    · exact h.1 x hx
    · exact h.2 x hx
theorem Dig.take {B : Int} {l : List Int} (h : Dig B l) (n : Nat) : Dig B (l.take n) := fun x hx => h x (List.mem_of_mem_take hx)
theorem Dig.drop {B : Int} {l : List Int} (h : Dig B l) (n : Nat) : Dig B (l.drop n) := fun x hx => h x (List.mem_of_mem_drop hx)
theorem Dig.getD {B : Int} {l : List Int} (h : Dig B l) (hB : 0 < B) (i : Nat) : 0 ≤ l.getD i 0 ∧ l.getD i 0 < B := by
  rw [List.getD_eq_getElem?_getD]
  cases he : l[i]? with
  | none => simp; omega
  | some x => simpa using h x (List.mem_of_getElem? he)
theorem Dig.set {B : Int} {l : List Int} (h : Dig B l) (i : Nat) {v : Int} (hv : 0 ≤ v ∧ v < B) : Dig B (l.set i v) := by
  intro x hx
  rcases List.mem_or_eq_of_mem_set hx with hx | rfl
  · exact h x hx
  · exact hv
theorem Dig.replicate {B : Int} (hB : 0 < B) (n : Nat) : Dig B (List.replicate n 0) := by
  intro x hx
  have := List.eq_of_mem_replicate hx
  omega

theorem val_append (B : Int) (l m : List Int) : val B (l ++ m) = val B l + B ^ l.length * val B m := by
  induction l with
  | nil => simp [val]
  | cons d l ih => simp only [List.cons_append, val, ih, List.length_cons, Int.pow_succ]; grind
theorem val_replicate (B : Int) (n : Nat) : val B (List.replicate n 0) = 0 := by
  induction n with
  | zero => rfl
  | succ n ih => simp [List.replicate_succ, val, ih]
theorem val_nonneg {B : Int} (hB : 0 < B) {l : List Int} (h : Dig B l) : 0 ≤ val B l := by
  induction l with
  | nil => simp [val]
  | cons d l ih =>
    have h' := Dig.cons.1 h
    have h1 := ih h'.2
    have : 0 ≤ B * val B l := Int.mul_nonneg (by omega) h1
    simp only [val]
    omega
theorem val_lt {B : Int} (hB : 0 < B) {l : List Int} (h : Dig B l) : val B l < B ^ l.length := by
  induction l with
  | nil => simp [val]
  | cons d l ih =>
    have h' := Dig.cons.1 h
    have h1 := ih h'.2
    have h2 : B * val B l ≤ B * (B ^ l.length - 1) := Int.mul_le_mul_of_nonneg_left (by omega) (by omega)
    have h3 : B * (B ^ l.length - 1) = B * B ^ l.length - B := by grind
    simp only [val, List.length_cons, Int.pow_succ]
    have h4 : B ^ l.length * B = B * B ^ l.length := Int.mul_comm _ _
    omega
theorem Can.nil : Can [] := fun h => absurd rfl h
theorem Can.tail {d : Int} {l : List Int} (h : Can (d :: l)) : Can l := by
  intro hl
  have := h (by simp)
  rwa [List.getLast_cons hl] at this
theorem Can.one {d : Int} (h : d ≠ 0) : Can [d] := fun _ => by simpa using h
theorem Can.cons {d : Int} {l : List Int} (h : Can l) (hl : l ≠ []) : Can (d :: l) := by
  intro _
  rw [List.getLast_cons hl]
  exact h hl
theorem val_pos {B : Int} (hB : 0 < B) {l : List Int} (h : Dig B l) (hc : Can l) (hl : l ≠ []) : B ^ (l.length - 1) ≤ val B l := by
  induction l with
  | nil => exact absurd rfl hl
  | cons d l ih =>
    have h' := Dig.cons.1 h
    by_cases e : l = []
    · subst e
      have := hc (by simp)
      simp [val] at this ⊢
      omega
    · have h1 := ih h'.2 hc.tail e
      have h2 : l.length - 1 + 1 = l.length := by have := List.length_pos_iff.2 e; omega
      simp only [val, List.length_cons, Nat.add_sub_cancel]
      rw [← h2, Int.pow_succ, Int.mul_comm]
      have : B * B ^ (l.length - 1) ≤ B * val B l := Int.mul_le_mul_of_nonneg_left h1 (by omega)
      omega
theorem val_zero {B : Int} (hB : 0 < B) {l : List Int} (h : Dig B l) (hc : Can l) (h0 : val B l = 0) : l = [] := by
  by_cases e : l = []
  · exact e
  · have := val_pos hB h hc e
    have h2 : 0 < B ^ (l.length - 1) := Int.pow_pos hB
    omega
theorem val_inj {B : Int} (hB : 0 < B) {l m : List Int} (hl : Dig B l) (hm : Dig B m) (cl : Can l) (cm : Can m) (h : val B l = val B m) : l = m := by
  induction l generalizing m with
  | nil => exact (val_zero hB hm cm h.symm).symm
  | cons d l ih =>
    cases m with
    | nil => exact val_zero hB hl cl h
    | cons e m =>
      have h1 := Dig.cons.1 hl
      have h2 := Dig.cons.1 hm
      simp only [val] at h
      have h3 : d = e := by
        have a1 : (d + B * val B l) % B = d := by rw [Int.add_mul_emod_self_left]; exact Int.emod_eq_of_lt h1.1.1 h1.1.2
        have a2 : (e + B * val B m) % B = e := by rw [Int.add_mul_emod_self_left]; exact Int.emod_eq_of_lt h2.1.1 h2.1.2
        rw [← a1, ← a2, h]
      subst h3
      have h4 : val B l = val B m := by
        have : B * val B l = B * val B m := by omega
        exact Int.eq_of_mul_eq_mul_left (by omega) this
      rw [ih h1.2 h2.2 cl.tail cm.tail h4]
theorem strip_val (B : Int) (l : List Int) : val B (strip l) = val B l := by
  induction l with
  | nil => rfl
  | cons d l ih =>
    simp only [strip]
    split
    · rename_i h
      rw [h] at ih
      simp only [val] at ih
      split
      · rename_i h0; simp [val, ← ih, h0]
      · simp [val, ← ih]
    · simp [val, ih]
theorem strip_can (l : List Int) : Can (strip l) := by
  induction l with
  | nil => exact Can.nil
  | cons d l ih =>
    simp only [strip]
    split
    · split
      · exact Can.nil
      · rename_i h; exact Can.one h
    · rename_i h; exact ih.cons h
theorem strip_dig {B : Int} {l : List Int} (h : Dig B l) : Dig B (strip l) := by
  induction l with
  | nil => exact Dig.nil
  | cons d l ih =>
    have h' := Dig.cons.1 h
    simp only [strip]
    split
    · split
      · exact Dig.nil
      · exact Dig.cons.2 ⟨h'.1, Dig.nil⟩
    · exact Dig.cons.2 ⟨h'.1, ih h'.2⟩
theorem strip_length (l : List Int) : (strip l).length ≤ l.length := by
  induction l with
  | nil => simp [strip]
  | cons d l ih =>
    simp only [strip]
    split
    · split <;> simp
    · simp; omega
theorem strip_of_can {l : List Int} (h : Can l) : strip l = l := by
  induction l with
  | nil => rfl
  | cons d l ih =>
    simp only [strip]
    rw [ih h.tail]
    split
    · rename_i e
      subst e
      have := h (by simp)
      simp at this
      simp [this]
    · rfl
theorem strip_snoc_zero (l : List Int) : strip (l ++ [0]) = strip l := by
  induction l with
  | nil => simp [strip]
  | cons d l ih => simp only [List.cons_append, strip, ih]
theorem strip_snoc {l : List Int} {d : Int} (h : d ≠ 0) : strip (l ++ [d]) = l ++ [d] := by
  apply strip_of_can
  intro hl
  simpa using h
/-- The number of stripped digits tells them. -/
theorem strip_unique {B : Int} (hB : 0 < B) {l m : List Int} (hl : Dig B l) (hm : Dig B m) (h : val B l = val B m) : strip l = strip m :=
  val_inj hB (strip_dig hl) (strip_dig hm) (strip_can l) (strip_can m) (by rw [strip_val, strip_val, h])
theorem pow_mono {B : Int} (hB : 0 < B) {m n : Nat} (h : m ≤ n) : B ^ m ≤ B ^ n := by
  induction n with
  | zero => have : m = 0 := by omega
            subst this
            exact Int.le_refl _
  | succ n ih =>
    by_cases e : m = n + 1
    · subst e
      exact Int.le_refl _
    · have h1 := ih (by omega)
      have h2 : 0 < B ^ n := Int.pow_pos hB
      have h3 : 1 * B ^ n ≤ B * B ^ n := Int.mul_le_mul_of_nonneg_right (by omega) (by omega)
      rw [Int.pow_succ, Int.mul_comm]
      omega
/-- Longer numbers are greater. -/
theorem val_lt_of_length {B : Int} (hB : 0 < B) {l m : List Int} (hl : Dig B l) (hm : Dig B m) (cm : Can m) (h : l.length < m.length) : val B l < val B m := by
  have h1 := val_lt hB hl
  have h2 := val_pos hB hm cm (by intro e; subst e; simp at h)
  have h3 : B ^ l.length ≤ B ^ (m.length - 1) := pow_mono hB (by omega)
  omega
/-- Are limbs a number's? -/
def rightB (l : List Int) : Bool := decide (l.length ≤ 64) && ((l.length == 0) || (l.getD (l.length - 1) 0 != 0))
theorem can_iff (l : List Int) : Can l ↔ ((l.length == 0) || (l.getD (l.length - 1) 0 != 0)) = true := by
  cases l with
  | nil => simp [Can]
  | cons d l =>
    have h : (d :: l).getLast (by simp) = (d :: l).getD ((d :: l).length - 1) 0 := by
      rw [List.getLast_eq_getElem]
      simp
    unfold Can
    simp only [List.length_cons, Nat.add_one_ne_zero, beq_iff_eq, Bool.or_eq_true, bne_iff_ne, false_or]
    constructor
    · intro hc
      have := hc (by simp)
      rw [h] at this
      exact this
    · intro hc _
      rw [h]
      exact hc
theorem rightB_iff (l : List Int) : rightB l = true ↔ l.length ≤ 64 ∧ Can l := by
  unfold rightB
  rw [Bool.and_eq_true, decide_eq_true_iff, ← can_iff]
/-- A number as a small one. -/
def smallV (l : List Int) : Int × Bool := if rightB l = true ∧ l.length ≤ 1 then (l.getD 0 0, true) else (0, false)
end Go.Proofs.Yteabkedhdgnhgab.Z

namespace Go.Proofs.Yteabkedhdgnhgab.Z
open Go.RowKit Go.Proofs.YteabkedhdgnhgabW.PrintWords
set_option linter.unusedSimpArgs false
set_option linter.unusedVariables false

/-! ### The digits of a number -/
def toD (B : Nat) (v : Nat) : List Int := if h : 2 ≤ B ∧ 0 < v then ((v % B : Nat) : Int) :: toD B (v / B) else []
termination_by v
decreasing_by exact Nat.div_lt_self h.2 (by omega)
theorem toD_zero (B : Nat) : toD B 0 = [] := by rw [toD]; simp
theorem toD_pos {B v : Nat} (hB : 2 ≤ B) (hv : 0 < v) : toD B v = ((v % B : Nat) : Int) :: toD B (v / B) := by rw [toD]; simp [hB, hv]
theorem toD_dig {B : Nat} (hB : 2 ≤ B) (v : Nat) : Dig (B : Int) (toD B v) := by
  induction v using Nat.strongRecOn with
  | _ v ih =>
    by_cases hv : v = 0
    · subst hv; rw [toD_zero]; exact Dig.nil
    · rw [toD_pos hB (by omega)]
      have := Nat.mod_lt v (show B > 0 by omega)
      exact Dig.cons.2 ⟨by omega, ih _ (Nat.div_lt_self (by omega) (by omega))⟩
theorem toD_eq_nil {B v : Nat} (hB : 2 ≤ B) : toD B v = [] ↔ v = 0 := by
  constructor
  · intro h
    by_cases hv : v = 0
    · exact hv
    · rw [toD_pos hB (by omega)] at h; cases h
  · rintro rfl; exact toD_zero B
theorem toD_can {B : Nat} (hB : 2 ≤ B) (v : Nat) : Can (toD B v) := by
  induction v using Nat.strongRecOn with
  | _ v ih =>
    by_cases hv : v = 0
    · subst hv; rw [toD_zero]; exact Can.nil
    · rw [toD_pos hB (by omega)]
      by_cases hq : v / B = 0
      · rw [hq, toD_zero]
        have hlt : v < B := (Nat.div_eq_zero_iff_lt (by omega)).1 hq
        rw [Nat.mod_eq_of_lt hlt]
        exact Can.one (by omega)
      · exact (ih _ (Nat.div_lt_self (by omega) (by omega))).cons (fun e => hq ((toD_eq_nil hB).1 e))
theorem val_toD {B : Nat} (hB : 2 ≤ B) (v : Nat) : val (B : Int) (toD B v) = (v : Int) := by
  induction v using Nat.strongRecOn with
  | _ v ih =>
    by_cases hv : v = 0
    · subst hv; rw [toD_zero]; rfl
    · rw [toD_pos hB (by omega)]
      simp only [val]
      rw [ih _ (Nat.div_lt_self (by omega) (by omega))]
      have h2 := Nat.mod_add_div v B
      have h3 : ((v % B + B * (v / B) : Nat) : Int) = (v : Int) := by rw [h2]
      simpa using h3
/-- What all noughts are taken off is the digits of the number. -/
theorem strip_toD {B : Nat} (hB : 2 ≤ B) {l : List Int} (h : Dig (B : Int) l) : strip l = toD B (val (B : Int) l).toNat := by
  have h0 : (0 : Int) < (B : Int) := by omega
  refine val_inj h0 (strip_dig h) (toD_dig hB _) (strip_can l) (toD_can hB _) ?_
  rw [strip_val, val_toD hB]
  have := val_nonneg h0 h
  omega
theorem can_toD {B : Nat} (hB : 2 ≤ B) {l : List Int} (h : Dig (B : Int) l) (hc : Can l) : l = toD B (val (B : Int) l).toNat := by
  rw [← strip_toD hB h, strip_of_can hc]
theorem pow_cast (B n : Nat) : ((B : Int)) ^ n = ((B ^ n : Nat) : Int) := by simp
theorem toD_len_le {B : Nat} (hB : 2 ≤ B) {v n : Nat} (h : v < B ^ n) : (toD B v).length ≤ n := by
  by_cases hv : v = 0
  · subst hv; rw [toD_zero]; simp
  · have h1 := val_pos (show (0 : Int) < (B : Int) by omega) (toD_dig hB v) (toD_can hB v) (fun e => hv ((toD_eq_nil hB).1 e))
    rw [val_toD hB, pow_cast] at h1
    have h2 : B ^ ((toD B v).length - 1) ≤ v := by omega
    have h3 : B ^ ((toD B v).length - 1) < B ^ n := by omega
    have h4 := (Nat.pow_lt_pow_iff_right (show 1 < B by omega)).1 h3
    omega
theorem toD_lt_pow {B : Nat} (hB : 2 ≤ B) (v : Nat) : v < B ^ (toD B v).length := by
  have h1 := val_lt (show (0 : Int) < (B : Int) by omega) (toD_dig hB v)
  rw [val_toD hB, pow_cast] at h1
  omega
theorem toD_len_iff {B : Nat} (hB : 2 ≤ B) (v n : Nat) : (toD B v).length ≤ n ↔ v < B ^ n :=
  ⟨fun h => Nat.lt_of_lt_of_le (toD_lt_pow hB v) (Nat.pow_le_pow_right (by omega) h), toD_len_le hB⟩

/-! ### Two bases: limbs of 64 bits, digits of 16 -/
def b64 : Nat := 18446744073709551616
def b16 : Nat := 65536
theorem b64_two : 2 ≤ b64 := by decide
theorem b16_two : 2 ≤ b16 := by decide
theorem b64_pow : b64 = b16 ^ 4 := by decide
/-- The number of limbs. -/
def num (l : List Int) : Nat := (val (b64 : Int) l).toNat
def num16 (l : List Int) : Nat := (val (b16 : Int) l).toNat
abbrev limbs (v : Nat) : List Int := toD b64 v
abbrev digs (v : Nat) : List Int := toD b16 v
theorem b64_pos : (0 : Int) < (b64 : Int) := by decide
theorem b16_pos : (0 : Int) < (b16 : Int) := by decide
theorem num_val {l : List Int} (h : Dig (b64 : Int) l) : (num l : Int) = val (b64 : Int) l := by
  have := val_nonneg b64_pos h
  unfold num; omega
theorem num16_val {l : List Int} (h : Dig (b16 : Int) l) : (num16 l : Int) = val (b16 : Int) l := by
  have := val_nonneg b16_pos h
  unfold num16; omega
theorem num_limbs (v : Nat) : num (limbs v) = v := by unfold num limbs; rw [val_toD b64_two]; omega
theorem num16_digs (v : Nat) : num16 (digs v) = v := by unfold num16 digs; rw [val_toD b16_two]; omega
theorem limbs_num {l : List Int} (h : Dig (b64 : Int) l) (hc : Can l) : limbs (num l) = l := (can_toD b64_two h hc).symm
theorem digs_num {l : List Int} (h : Dig (b16 : Int) l) (hc : Can l) : digs (num16 l) = l := (can_toD b16_two h hc).symm
theorem strip_limbs {l : List Int} (h : Dig (b64 : Int) l) : strip l = limbs (num l) := strip_toD b64_two h
theorem strip_digs {l : List Int} (h : Dig (b16 : Int) l) : strip l = digs (num16 l) := strip_toD b16_two h
theorem limbs_inj {v w : Nat} (h : limbs v = limbs w) : v = w := by rw [← num_limbs v, h, num_limbs]
theorem dig_of_wf {l : List Int} (h : ∀ x ∈ l, (Lit.int .u64 x).wf = true) : Dig (b64 : Int) l := fun x hx => wf_u64 (h x hx)
theorem num_lt {l : List Int} (h : Dig (b64 : Int) l) : num l < b64 ^ l.length := by
  have h1 := val_lt b64_pos h
  rw [← num_val h, pow_cast] at h1
  omega
theorem num16_lt {l : List Int} (h : Dig (b16 : Int) l) : num16 l < b16 ^ l.length := by
  have h1 := val_lt b16_pos h
  rw [← num16_val h, pow_cast] at h1
  omega
theorem num_nil : num [] = 0 := rfl
theorem num_one {x : Int} (h : 0 ≤ x) : num [x] = x.toNat := by simp [num, val]
theorem num16_nil : num16 [] = 0 := rfl
theorem num_cons {d : Int} {l : List Int} (h : Dig (b64 : Int) (d :: l)) : num (d :: l) = d.toNat + b64 * num l := by
  have h1 := Dig.cons.1 h
  have h2 := num_val h
  have h3 := num_val h1.2
  have h4 : ((d.toNat + b64 * num l : Nat) : Int) = d + (b64 : Int) * val (b64 : Int) l := by
    rw [← h3]; simp; omega
  have h5 : val (b64 : Int) (d :: l) = d + (b64 : Int) * val (b64 : Int) l := rfl
  omega
/-- No number of ours comes to that. -/
def thousand : Nat := 1000
def lim : Nat := b64 ^ thousand
theorem lim_pow {n : Nat} (h : n ≤ 1000) : b64 ^ n ≤ lim := Nat.pow_le_pow_right (by decide) (show n ≤ thousand from h)
theorem pow_lt_lim {n : Nat} (h : n < 1000) : b64 ^ n + b64 ^ n ≤ lim := by
  have h1 : b64 ^ (n + 1) ≤ lim := lim_pow h
  have h2 : b64 ^ n * 2 ≤ b64 ^ n * b64 := Nat.mul_le_mul_left _ b64_two
  rw [Nat.pow_succ] at h1
  omega
theorem num_lt_lim {l : List Int} (h : Dig (b64 : Int) l) (hl : l.length ≤ 1000) : num l < lim := Nat.lt_of_lt_of_le (num_lt h) (lim_pow hl)
theorem digs_len {v : Nat} (hv : v < lim) : (digs v).length ≤ 4000 := by
  have h : lim = b16 ^ (4 * thousand) := by
    unfold lim
    rw [b64_pow, ← Nat.pow_mul]
  rw [h] at hv
  have h2 := toD_len_le b16_two hv
  exact Nat.le_trans h2 (by decide)
theorem b64_pow2 (m : Nat) : b64 ^ m = 2 ^ (64 * m) := by
  have h : b64 = 2 ^ 64 := by decide
  rw [h, ← Nat.pow_mul]
theorem pow2_le_b64 {n m : Nat} (h : n ≤ 64 * m) : 2 ^ n ≤ b64 ^ m := by
  rw [b64_pow2]
  exact Nat.pow_le_pow_right (by decide) h
theorem b64_le_pow2 {n m : Nat} (h : 64 * m ≤ n) : b64 ^ m ≤ 2 ^ n := by
  rw [b64_pow2]
  exact Nat.pow_le_pow_right (by decide) h
theorem num_lt_p {a : List Int} (da : Dig (b64 : Int) a) (ha : a.length ≤ 64) : num a < b64 ^ 64 := Nat.lt_of_lt_of_le (num_lt da) (Nat.pow_le_pow_right (show b64 > 0 by decide) ha)
/-- Three ways. -/
def cmpN (x y : Nat) : Int := if x < y then -1 else if x = y then 0 else 1
/-- Too long an answer. -/
def toldV (v : Nat) : List Int × Int := if v < b64 ^ 64 then (limbs v, 0) else ([], 4)
theorem limbs_long (v : Nat) : (limbs v).length ≤ 64 ↔ v < b64 ^ 64 := toD_len_iff b64_two v 64
/-- The number of what a number's digits are, limb by limb. -/
theorem val_base (l : List Int) (hl : Dig (b64 : Int) l) : ∃ m, Dig (b16 : Int) m ∧ m.length = 4 * l.length ∧ val (b16 : Int) m = val (b64 : Int) l ∧ m = l.flatMap (fun x => [x % 65536, x / 65536 % 65536, x / 65536 / 65536 % 65536, x / 65536 / 65536 / 65536 % 65536]) := by
  induction l with
  | nil => exact ⟨[], Dig.nil, rfl, rfl, rfl⟩
  | cons d l ih =>
    have h1 := Dig.cons.1 hl
    obtain ⟨m, hm, hlen, hv, he⟩ := ih h1.2
    refine ⟨[d % 65536, d / 65536 % 65536, d / 65536 / 65536 % 65536, d / 65536 / 65536 / 65536 % 65536] ++ m, ?_, ?_, ?_, ?_⟩
    · refine Dig.append.2 ⟨?_, hm⟩
      intro x hx
      simp only [List.mem_cons, List.not_mem_nil, or_false] at hx
      simp only [b16]
      omega
    · simp only [List.length_append, List.length_cons, List.length_nil, hlen]; omega
    · rw [val_append, hv]
      have h2 := h1.1
      simp only [b64] at h2 ⊢
      simp only [val, b16, List.length_cons, List.length_nil]
      omega
    · simp only [List.flatMap_cons, ← he]
end Go.Proofs.Yteabkedhdgnhgab.Z

namespace Go.Proofs.Yteabkedhdgnhgab.F
open Go.RowKit Go.Proofs.YteabkedhdgnhgabW.PrintWords Go.Proofs.YteabkedhdgnhgabW.PrintLast Go.Proofs.YteabkedhdgnhgabW.PrintMore
attribute [local go_sem] max2_int min2_int max_two min_two max_three min_three max_four min_four
set_option linter.unusedVariables false
set_option linter.unusedSimpArgs false
open Go.Proofs.Yteabkedhdgnhgab.Z (strip)
theorem strip_take (l : List Int) : ∃ k : Nat, k ≤ l.length ∧ strip l = l.take k ∧ (∀ j, k ≤ j → j < l.length → l.getD j 0 = 0) ∧ (0 < k → l.getD (k - 1) 0 ≠ 0) := by
  induction l with
  | nil => exact ⟨0, Nat.le_refl _, rfl, fun j _ hj => absurd hj (Nat.not_lt_zero _), fun h => absurd h (Nat.lt_irrefl _)⟩
  | cons d l ih =>
    obtain ⟨k, h1, h2, h3, h4⟩ := ih
    by_cases hk : k = 0
    · subst hk
      have hs : strip l = [] := by rw [h2]; rfl
      by_cases hd : d = 0
      · refine ⟨0, Nat.zero_le _, ?_, fun j _ hj => ?_, fun h => absurd h (Nat.lt_irrefl _)⟩
        · simp [strip, hs, hd]
        · cases j with
          | zero => simpa using hd
          | succ j => simpa using h3 j (Nat.zero_le _) (by simpa using hj)
      · refine ⟨1, by simp, ?_, fun j hj1 hj => ?_, fun _ => by simpa using hd⟩
        · simp [strip, hs, hd]
        · cases j with
          | zero => omega
          | succ j => simpa using h3 j (Nat.zero_le _) (by simpa using hj)
    · have hne : strip l ≠ [] := by
        rw [h2]
        intro e
        have := congrArg List.length e
        rw [List.length_take, List.length_nil] at this
        omega
      refine ⟨k + 1, by simp; omega, ?_, fun j hj1 hj => ?_, fun _ => ?_⟩
      · rw [List.take_succ_cons, ← h2]
        simp [strip, hne]
      · cases j with
        | zero => omega
        | succ j => simpa using h3 j (by omega) (by simpa using hj)
      · have := h4 (by omega)
        rw [show k + 1 - 1 = (k - 1) + 1 from by omega]
        simpa using this
set_option maxHeartbeats 4000000 in
set_option maxRecDepth 100000 in
/-- trim of what is only read: the same slice, shorter. -/
theorem nat_trimC.calls (A0 : Option Addr) (c0 : Nat) (l0 : List Int) (w : World) (hr0 : Kd.C (Kd.int .u64) w A0 l0.length l0) (hc0 : l0.length ≤ c0) :
    Calls Try.prog 48 #[.slice A0 l0.length c0] w fun e w' => e = .returned (.slice A0 (strip l0).length c0) ∧ Drawn0 w w' := by
  have HR0 := Aside0.mk hr0
  obtain ⟨k, hk, hs, hz, hn⟩ := strip_take l0
  have hlen : (strip l0).length = k := by rw [hs, List.length_take]; omega
  rw [hlen]
  have hbig : l0.length ≤ 9223372036854775807 := hr0.2.1
  have HZ := Aside0.mk hz
  have HN := Aside0.mk hn
  have HC0 := Aside0.mk hc0
  clear hr0 hz hn hs hlen
  obtain ⟨i0, hi0, _, hsz, _⟩ := info_parts info29
  have hcut := fun W => cut_to (P := Try.prog) 23 29 .i64 Try.underlying23 hi0 A0 l0.length c0 (k : Int) (Int.natCast_nonneg k) (by omega) HC0.out W
  rw [Int.toNat_natCast] at hcut
  have HCUT := Aside0.mk hcut
  clear hcut hi0 hsz
  go_enter Try.func48, Try.ntmps48
  go_wp2
  go_loopg [3] l0.length (fun gg s3 wr => ∃ n : Nat, k ≤ n ∧ n ≤ l0.length ∧ n - k ≤ gg ∧ s3 = .int .i64 (n : Int) ∧ Aside0 (Drawn0 w wr))
  case atStart => exact ⟨l0.length, hk, Nat.le_refl _, by omega, rfl, ⟨Drawn0.refl _⟩⟩
  case round =>
    obtain ⟨n, hkn, hnl, hg, rfl, D⟩ := hrel
    by_cases hn0 : n = 0
    · subst hn0
      obtain rfl : k = 0 := by omega
      have hcut2 := HCUT.out
      go_wp2
      go_ret
      exact ⟨rfl, D.out⟩
    · obtain ⟨m, rfl⟩ : ∃ m, n = m + 1 := ⟨n - 1, by omega⟩
      have hpos : decide ((0 : Int) < ((m + 1 : Nat) : Int)) = true := decide_eq_true (by omega)
      have e1 : ((m + 1 : Nat) : Int) - 1 = (m : Int) := by omega
      have hC1 : Kd.C (Kd.int .u64) wr A0 l0.length l0 := Kd.C_below HR0.out D.out.below
      obtain ⟨ad, hA, hcell⟩ := Kd.at_int hC1 (m : Int) (Int.natCast_nonneg m) (by omega)
      subst hA
      simp only [Go.IntWalk.toNatUp] at hcell
      have HX := HZ.out m
      have HY := HN.out
      clear hC1
      rw [show rd l0 (m : Int) = l0.getD m 0 from rfl] at hcell
      generalize hx : l0.getD m 0 = x at hcell HX
      have D2 := D
      have hcut2 := HCUT.out
      by_cases hlast : k ≤ m
      · have hx0 : (x == 0) = true := by rw [HX hlast (by omega)]; rfl
        clear D HX HY hx hcut2
        go_wp2
        go_roundg (m - k)
        case measure => omega
        case rel => exact ⟨m, hlast, by omega, by omega, rfl, D2⟩
      · obtain rfl : k = m + 1 := by omega
        have hx0 : (x == 0) = false := by
          have := HY (by omega)
          rw [Nat.add_sub_cancel, hx] at this
          simpa using this
        clear D HX HY hx
        go_wp2
        go_ret
        exact ⟨rfl, D2.out⟩
set_option maxHeartbeats 4000000 in
set_option maxRecDepth 100000 in
/-- low: the first n limbs, trimmed. -/
theorem nat_low.calls (A0 : Option Addr) (c0 : Nat) (l0 : List Int) (gn n : Nat) (w : World) (hr0 : Kd.C (Kd.int .u64) w A0 l0.length l0) (hc0 : l0.length ≤ c0) (hg : w.heap[gn]? = some (.cells #[.int .i64 (n : Int)] 3 (0, 0))) :
    Calls Try.prog 51 #[.slice A0 l0.length c0, .pointer (some ⟨gn, 0, none⟩)] w fun e w' => e = .returned (.slice A0 (strip (l0.take n)).length c0) ∧ Drawn0 w w' := by
  have HR0 := Aside0.mk hr0
  have HC0 := Aside0.mk hc0
  have hcell := (blk_cell hg 0).trans rfl
  obtain ⟨i0, hi0, _, hsz, _⟩ := info_parts info29
  obtain ⟨m, hm⟩ : ∃ m : Nat, m = min n l0.length := ⟨_, rfl⟩
  have hml : m ≤ l0.length := by omega
  have htk : l0.take n = l0.take m := by
    rcases Nat.le_total n l0.length with h | h
    · rw [show m = n from by omega]
    · rw [show m = l0.length from by omega, List.take_of_length_le h, List.take_length]
  rw [htk]
  have hcut := fun W => cut_to (P := Try.prog) 23 29 .i64 Try.underlying23 hi0 A0 l0.length c0 (m : Int) (Int.natCast_nonneg m) (by omega) W
  rw [Int.toNat_natCast] at hcut
  have hC1 : Kd.C (Kd.int .u64) w A0 (l0.take m).length (l0.take m) := Kd.C_take hr0 hml
  have hl1 : (l0.take m).length = m := by rw [List.length_take]; omega
  have HT := Aside0.mk (nat_trimC.calls A0 c0 (l0.take m) w hC1 (by omega))
  rw [hl1] at HT
  have HCUT := Aside0.mk hcut
  have HM := Aside0.mk hm
  have HML := Aside0.mk hml
  clear hr0 hc0 hg hi0 hsz hcut hC1 hl1 hm htk hml
  by_cases hlt : (l0.length : Int) < (n : Int)
  · have h1 : decide ((l0.length : Int) < (n : Int)) = true := decide_eq_true hlt
    have h1N : (l0.length < n) = True := eq_true (by omega)
    obtain rfl : m = l0.length := by have := HM.out; omega
    rw [List.take_length] at HT ⊢
    have hcut2 := HCUT.out
    have hq1 := eq_true (show ((l0.length : Nat) : Int) ≤ (c0 : Int) by have := HC0.out; have := HML.out; omega)
    have hq2 := eq_true (show l0.length ≤ c0 by have := HC0.out; have := HML.out; omega)
    clear hlt
    go_enter Try.func51, Try.ntmps51
    go_wp2_with (go_at_call 48; (with_reducible refine HT.out.mono ?_); rintro e w' ⟨rfl, hd⟩)
    go_ret
    exact ⟨rfl, hd⟩
  · have h1 : decide ((l0.length : Int) < (n : Int)) = false := decide_eq_false hlt
    have h1N : (l0.length < n) = False := eq_false (by omega)
    obtain rfl : m = n := by have := HM.out; omega
    have hcut2 := HCUT.out
    have hq1 := eq_true (show ((m : Nat) : Int) ≤ (c0 : Int) by have := HC0.out; have := HML.out; omega)
    have hq2 := eq_true (show m ≤ c0 by have := HC0.out; have := HML.out; omega)
    clear hlt
    go_enter Try.func51, Try.ntmps51
    go_wp2_with (go_at_call 48; (with_reducible refine HT.out.mono ?_); rintro e w' ⟨rfl, hd⟩)
    go_ret
    exact ⟨rfl, hd⟩
set_option maxHeartbeats 4000000 in
set_option maxRecDepth 100000 in
/-- high: the limbs behind the first n. -/
theorem nat_high.calls (A0 : Option Addr) (c0 : Nat) (l0 : List Int) (gn n : Nat) (w : World) (hc0 : l0.length ≤ c0) (hg : w.heap[gn]? = some (.cells #[.int .i64 (n : Int)] 3 (0, 0))) :
    Calls Try.prog 52 #[.slice A0 l0.length c0, .pointer (some ⟨gn, 0, none⟩)] w fun e w' => ∃ (A1 : Option Addr) (c1 : Nat), e = .returned (.slice A1 (l0.drop n).length c1) ∧ (l0.drop n).length ≤ c1 ∧ (∀ W : World, Kd.C (Kd.int .u64) W A0 l0.length l0 → Kd.C (Kd.int .u64) W A1 (l0.drop n).length (l0.drop n)) ∧ Drawn0 w w' := by
  have HC0 := Aside0.mk hc0
  have hcell := (blk_cell hg 0).trans rfl
  obtain ⟨i0, hi0, _, hsz, _⟩ := info_parts info29
  obtain ⟨m, hm⟩ : ∃ m : Nat, m = min n l0.length := ⟨_, rfl⟩
  have hml : m ≤ l0.length := by omega
  have hdr : l0.drop n = l0.drop m := by
    rcases Nat.le_total n l0.length with h | h
    · rw [show m = n from by omega]
    · rw [List.drop_of_length_le h, List.drop_of_length_le (by omega)]
  rw [hdr]
  obtain ⟨A2, c2, hc2, hA2, hcut⟩ : ∃ (A2 : Option Addr) (c2 : Nat), (l0.drop m).length ≤ c2 ∧ (∀ W : World, Kd.C (Kd.int .u64) W A0 l0.length l0 → Kd.C (Kd.int .u64) W A2 (l0.drop m).length (l0.drop m)) ∧ ∀ W : World, (Instr.slice 23 (.slice A0 l0.length c0) (some (.int .i64 (m : Int))) none none).run Try.prog W = .ok (.slice A2 (l0.drop m).length c2) W := by
    refine ⟨if c0 = (m : Int).toNat then A0 else A0.map (·.add ((m : Int).toNat * 1)), c0 - (m : Int).toNat, ?_, fun W h => ?_, fun W => ?_⟩
    · rw [List.length_drop, Int.toNat_natCast]; omega
    · rw [Int.toNat_natCast]
      exact Kd.C_drop h (by omega) hc0
    · rw [List.length_drop]
      have h3 := cut_from (P := Try.prog) 23 29 .i64 Try.underlying23 hi0 1 hsz A0 l0.length c0 (m : Int) (Int.natCast_nonneg m) (by omega) W
      rw [Int.toNat_natCast] at h3 ⊢
      exact h3
  obtain ⟨Y, hY⟩ : ∃ Y, Y = l0.drop m := ⟨_, rfl⟩
  rw [← hY] at hcut hA2 hc2 ⊢
  have HCUT := Aside0.mk hcut
  have HA := Aside0.mk hA2
  have HC2 := Aside0.mk hc2
  have HM := Aside0.mk hm
  have HML := Aside0.mk hml
  clear hc0 hg hi0 hsz hcut hA2 hc2 hm hdr hml hY
  by_cases hlt : (l0.length : Int) < (n : Int)
  · have h1 : decide ((l0.length : Int) < (n : Int)) = true := decide_eq_true hlt
    have h1N : (l0.length < n) = True := eq_true (by omega)
    obtain rfl : m = l0.length := by have := HM.out; omega
    have hcut2 := HCUT.out
    have hq1 := eq_true (show ((l0.length : Nat) : Int) ≤ (c0 : Int) by have := HC0.out; have := HML.out; omega)
    have hq2 := eq_true (show l0.length ≤ c0 by have := HC0.out; have := HML.out; omega)
    clear hlt
    go_enter Try.func52, Try.ntmps52
    go_wp2
    go_ret
    exact ⟨A2, c2, rfl, HC2.out, HA.out, Drawn0.refl _⟩
  · have h1 : decide ((l0.length : Int) < (n : Int)) = false := decide_eq_false hlt
    have h1N : (l0.length < n) = False := eq_false (by omega)
    obtain rfl : m = n := by have := HM.out; omega
    have hcut2 := HCUT.out
    have hq1 := eq_true (show ((m : Nat) : Int) ≤ (c0 : Int) by have := HC0.out; have := HML.out; omega)
    have hq2 := eq_true (show m ≤ c0 by have := HC0.out; have := HML.out; omega)
    clear hlt
    go_enter Try.func52, Try.ntmps52
    go_wp2
    go_ret
    exact ⟨A2, c2, rfl, HC2.out, HA.out, Drawn0.refl _⟩
end Go.Proofs.Yteabkedhdgnhgab.F

namespace Go.Proofs.Yteabkedhdgnhgab.Z
open Go.RowKit Go.Proofs.Yteabkedhdgnhgab.F Go.Proofs.YteabkedhdgnhgabW.PrintWords
set_option linter.unusedSimpArgs false
set_option linter.unusedVariables false
theorem nat_trim_loop (l : List Int) (h : l.length ≤ maxLen) : ∀ n : Nat, n ≤ l.length → Evt (fun k => nat_trim.l0 k l (n : Int)) (strip (l.take n)) := by
  unfold maxLen at h
  intro n
  induction n with
  | zero =>
    intro _
    refine Evt.succ ?_
    simp only [nat_trim.l0]
    refine Evt.ite_neg (by omega) (Evt.ite_pos (by omega) (Evt.ite_pos (by omega) ?_))
    simp [strip]
    exact Evt.pure _
  | succ n ih =>
    intro hn
    refine Evt.succ ?_
    simp only [nat_trim.l0]
    rw [w64 (by omega) (by omega), show ((n + 1 : Nat) : Int) - 1 = (n : Int) from by omega]
    refine Evt.ite_pos (by omega) (Evt.ite_pos (by omega) (Evt.ite_pos (by omega) ?_))
    rw [rd_nat, List.take_succ_eq_append_getElem (show n < l.length by omega)]
    have hg : l.getD n 0 = l[n] := by simp [show n < l.length by omega]
    rw [hg]
    by_cases h0 : l[n] = 0
    · rw [h0, strip_snoc_zero]
      exact Evt.ite_pos rfl (ih (by omega))
    · rw [strip_snoc h0]
      refine Evt.ite_neg h0 (Evt.ite_pos (by omega) (Evt.ite_pos (by omega) ?_))
      rw [← List.take_succ_eq_append_getElem (show n < l.length by omega)]
      exact Evt.pure _
theorem nat_trim_ev (l : List Int) (h : l.length ≤ maxLen) : Evt (fun k => nat_trim.f k l) (strip l) := by
  have := nat_trim_loop l h l.length (Nat.le_refl _)
  exact this.congr (fun k => rfl) (by rw [List.take_length])
end Go.Proofs.Yteabkedhdgnhgab.Z

namespace Go.Proofs.Yteabkedhdgnhgab.Z
open Go.RowKit Go.Proofs.Yteabkedhdgnhgab.F Go.Proofs.YteabkedhdgnhgabW.PrintWords
set_option linter.unusedSimpArgs false
set_option linter.unusedVariables false
theorem set_at {α : Type} (p : List α) (x v : α) (r : List α) : (p ++ x :: r).set p.length v = p ++ v :: r := by simp
end Go.Proofs.Yteabkedhdgnhgab.Z

namespace Go.Proofs.Yteabkedhdgnhgab.Z
open Go.RowKit Go.Proofs.Yteabkedhdgnhgab.F Go.Proofs.YteabkedhdgnhgabW.PrintWords Go.Proofs.YteabkedhdgnhgabW.PrintMore
set_option linter.unusedSimpArgs false
set_option linter.unusedVariables false
theorem val_set (B : Int) (l : List Int) : ∀ (i : Nat) (v : Int), i < l.length → val B (l.set i v) = val B l + B ^ i * (v - l.getD i 0) := by
  induction l with
  | nil => intro i v h; simp at h
  | cons d l ih =>
    intro i v h
    cases i with
    | zero => simp [val]; omega
    | succ i =>
      have h2 := ih i v (by simpa using h)
      simp only [List.set_cons_succ, val, h2, Int.pow_succ, List.getD_cons_succ]
      generalize l.getD i 0 = y
      generalize B ^ i = P
      generalize val B l = V
      grind
theorem dig_append_zero {B : Int} (hB : 0 < B) {l : List Int} (h : Dig B l) (n : Nat) : Dig B (l ++ List.replicate n 0) := Dig.append.2 ⟨h, Dig.replicate hB n⟩
theorem val_append_zero (B : Int) (l : List Int) (n : Nat) : val B (l ++ List.replicate n 0) = val B l := by rw [val_append, val_replicate, Int.mul_zero, Int.add_zero]
theorem getD_append_left {l m : List Int} {i : Nat} (h : i < l.length) : (l ++ m).getD i 0 = l.getD i 0 := by
  simp [List.getD_eq_getElem?_getD, List.getElem?_append_left h]
theorem set_append_left {l m : List Int} {i : Nat} {v : Int} (h : i < l.length) : (l ++ m).set i v = l.set i v ++ m := by
  rw [List.set_append, if_pos h]
theorem val_take_step (B : Int) (l : List Int) (i : Nat) (h : i < l.length) : val B (l.take (i + 1)) = val B (l.take i) + B ^ i * l[i] := by
  rw [List.take_succ_eq_append_getElem h, val_append]
  simp only [val, List.length_take]
  rw [show min i l.length = i from by omega, Int.mul_zero, Int.add_zero]
/-! ### Bits -/
theorem wraps_u64 (n : Int) (h0 : 0 ≤ n) (h1 : n < 2 ^ 64) : IntKind.u64.wrap n = n := wu64_of h0 (by omega)
theorem or_u64 {x y : Int} (s : Nat) (hs : s ≤ 64) (hx0 : 0 ≤ x) (hx : x % 2 ^ s = 0) (hx1 : x < 18446744073709551616) (hy0 : 0 ≤ y) (hy : y < 2 ^ s) : Go.bits .or .u64 x y = x + y := by
  have h2 : (2 : Int) ^ s ≤ 2 ^ 64 := pow_mono (by omega) hs
  exact bits_join .u64 64 (by decide) wraps_u64 s x y hx0 hx (by omega) hy0 hy (by omega)
theorem or_comm_u64 {x y : Int} (hx0 : 0 ≤ x) (hx1 : x < 18446744073709551616) (hy0 : 0 ≤ y) (hy1 : y < 18446744073709551616) : Go.bits .or .u64 x y = Go.bits .or .u64 y x := by
  obtain ⟨a, rfl⟩ := Int.eq_ofNat_of_zero_le hx0
  obtain ⟨b, rfl⟩ := Int.eq_ofNat_of_zero_le hy0
  rw [(bits_nat .u64 64 (by decide) wraps_u64 a b (by omega) (by omega)).2, (bits_nat .u64 64 (by decide) wraps_u64 b a (by omega) (by omega)).2, Nat.or_comm]
theorem shl_u64 (x : Int) (s : Nat) (hs : s ≤ 64) : shl .u64 x (s : Int) = (x * 2 ^ s) % 18446744073709551616 := by
  unfold shl
  rw [wu64]
  simp only [IntKind.bits, Int.toNat_natCast]
  rw [show min s 64 = s from by omega]
theorem shr_u64 (x : Int) (s : Nat) (hs : s ≤ 64) : shr .u64 x (s : Int) = x / 2 ^ s := by
  unfold shr
  simp only [IntKind.bits, Int.toNat_natCast]
  rw [show min s 64 = s from by omega]
theorem pow64_split {s : Nat} (hs : s ≤ 64) : (2 : Int) ^ s * 2 ^ (64 - s) = 18446744073709551616 := by
  rw [← Int.pow_add, show s + (64 - s) = 64 from by omega]
  decide
theorem pow2_pos (s : Nat) : (0 : Int) < 2 ^ s := Int.pow_pos (by omega)
/-- What a limb's bits, moved up, leave in the limb. -/
theorem shl_facts {x : Int} (hx : 0 ≤ x ∧ x < 18446744073709551616) {s : Nat} (hs : s ≤ 64) :
    (x * 2 ^ s) % 18446744073709551616 + 18446744073709551616 * (x / 2 ^ (64 - s)) = x * 2 ^ s ∧ ((x * 2 ^ s) % 18446744073709551616) % 2 ^ s = 0 ∧ 0 ≤ x / 2 ^ (64 - s) ∧ x / 2 ^ (64 - s) < 2 ^ s := by
  have hp := pow64_split hs
  have h1 := pow2_pos s
  have h2 := pow2_pos (64 - s)
  generalize (2 : Int) ^ s = P at *
  generalize (2 : Int) ^ (64 - s) = Q at *
  have h3 : (x * P) / 18446744073709551616 = x / Q := by
    rw [← hp, Int.mul_comm x P, Int.mul_ediv_mul_of_pos _ _ h1]
  refine ⟨?_, ?_, Int.ediv_nonneg hx.1 (by omega), ?_⟩
  · have := Int.emod_add_mul_ediv (x * P) 18446744073709551616
    rw [h3] at this
    exact this
  · rw [← hp]
    have := Int.mul_emod_mul_of_pos (a := P) x Q h1
    rw [Int.mul_comm x P, this]
    exact Int.mul_emod_right P _
  · apply Int.ediv_lt_of_lt_mul h2
    rw [hp]
    exact hx.2
end Go.Proofs.Yteabkedhdgnhgab.Z

namespace Go.Proofs.Yteabkedhdgnhgab.F
open Go.RowKit Go.Proofs.YteabkedhdgnhgabW.PrintWords Go.Proofs.YteabkedhdgnhgabW.PrintLast Go.Proofs.YteabkedhdgnhgabW.PrintMore
attribute [local go_sem] max2_int min2_int max_two min_two max_three min_three max_four min_four   -- for this text's walks alone
set_option linter.unusedVariables false
set_option linter.unusedSimpArgs false

/-! ### bits_Mul64: function 35 -/
def bits_Mul64.f (a0 : Int) (a1 : Int) : Option (Int × Int) := some (IntKind.u64.wrap ((IntKind.u64.wrap ((IntKind.u64.wrap ((a0 / 4294967296) * (a1 / 4294967296))) + ((IntKind.u64.wrap ((IntKind.u64.wrap ((a0 / 4294967296) * (Go.bits .and .u64 a1 4294967295))) + ((IntKind.u64.wrap ((Go.bits .and .u64 a0 4294967295) * (Go.bits .and .u64 a1 4294967295))) / 4294967296))) / 4294967296))) + ((IntKind.u64.wrap ((Go.bits .and .u64 (IntKind.u64.wrap ((IntKind.u64.wrap ((a0 / 4294967296) * (Go.bits .and .u64 a1 4294967295))) + ((IntKind.u64.wrap ((Go.bits .and .u64 a0 4294967295) * (Go.bits .and .u64 a1 4294967295))) / 4294967296))) 4294967295) + (IntKind.u64.wrap ((Go.bits .and .u64 a0 4294967295) * (a1 / 4294967296))))) / 4294967296)), IntKind.u64.wrap (a0 * a1))
set_option maxHeartbeats 8000000 in
set_option maxRecDepth 100000 in
theorem bits_Mul64.calls (a0 : Int) (a1 : Int) (r1 : Int) (r2 : Int) (w : World) (h : bits_Mul64.f a0 a1 = some (r1, r2)) :
    Calls Try.prog 35 #[.int .u64 a0, .int .u64 a1] w fun e w' => e = .returned (.tuple #[.int .u64 r1, .int .u64 r2]) ∧ Drawn0 w w' := by
  have H : (some (IntKind.u64.wrap ((IntKind.u64.wrap ((IntKind.u64.wrap ((a0 / 4294967296) * (a1 / 4294967296))) + ((IntKind.u64.wrap ((IntKind.u64.wrap ((a0 / 4294967296) * (Go.bits .and .u64 a1 4294967295))) + ((IntKind.u64.wrap ((Go.bits .and .u64 a0 4294967295) * (Go.bits .and .u64 a1 4294967295))) / 4294967296))) / 4294967296))) + ((IntKind.u64.wrap ((Go.bits .and .u64 (IntKind.u64.wrap ((IntKind.u64.wrap ((a0 / 4294967296) * (Go.bits .and .u64 a1 4294967295))) + ((IntKind.u64.wrap ((Go.bits .and .u64 a0 4294967295) * (Go.bits .and .u64 a1 4294967295))) / 4294967296))) 4294967295) + (IntKind.u64.wrap ((Go.bits .and .u64 a0 4294967295) * (a1 / 4294967296))))) / 4294967296)), IntKind.u64.wrap (a0 * a1))) = some (r1, r2) := h
  clear h
  simp only [Option.some.injEq, Prod.mk.injEq] at H
  obtain ⟨rfl, rfl⟩ := H
  go_enter Try.func35, Try.ntmps35
  go_wp2
  go_ret2
  exact ⟨by first | rfl | (simp; done) | (simp [*]; done), by repeat (first | exact Drawn0.refl _ | apply Drawn0.step)⟩

end Go.Proofs.Yteabkedhdgnhgab.F

namespace Go.Proofs.Yteabkedhdgnhgab.Z
open Go.RowKit Go.Proofs.Yteabkedhdgnhgab.F Go.Proofs.YteabkedhdgnhgabW.PrintWords
set_option linter.unusedSimpArgs false
set_option linter.unusedVariables false
theorem mask32m {x : Int} (h0 : 0 ≤ x) (h1 : x < 18446744073709551616) : Go.bits .and .u64 x 4294967295 = x % 4294967296 := by
  have h := bits_mask .u64 64 (by decide) wraps_u64 32 (by decide) x h0 (by omega)
  rw [show (2 : Int) ^ 32 = 4294967296 from by decide] at h
  exact h
theorem half_mul {x y : Int} (hx : 0 ≤ x ∧ x < 4294967296) (hy : 0 ≤ y ∧ y < 4294967296) : 0 ≤ x * y ∧ x * y ≤ 18446744065119617025 := by
  refine ⟨Int.mul_nonneg hx.1 hy.1, ?_⟩
  have : x * y ≤ 4294967295 * 4294967295 := Int.mul_le_mul (by omega) (by omega) hy.1 (by omega)
  omega
/-- The product of two limbs: the high limb and the low one. -/
theorem bits_Mul64_eq {x y : Int} (hx : 0 ≤ x ∧ x < 18446744073709551616) (hy : 0 ≤ y ∧ y < 18446744073709551616) :
    ∃ hi lo : Int, bits_Mul64.f x y = some (hi, lo) ∧ hi * 18446744073709551616 + lo = x * y ∧ (0 ≤ hi ∧ hi < 18446744073709551616) ∧ (0 ≤ lo ∧ lo < 18446744073709551616) := by
  unfold bits_Mul64.f
  have ex : x = x / 4294967296 * 4294967296 + x % 4294967296 := by omega
  have ey : y = y / 4294967296 * 4294967296 + y % 4294967296 := by omega
  have xl : 0 ≤ x % 4294967296 ∧ x % 4294967296 < 4294967296 := by omega
  have yl : 0 ≤ y % 4294967296 ∧ y % 4294967296 < 4294967296 := by omega
  have xh : 0 ≤ x / 4294967296 ∧ x / 4294967296 < 4294967296 := by omega
  have yh : 0 ≤ y / 4294967296 ∧ y / 4294967296 < 4294967296 := by omega
  rw [mask32m hx.1 hx.2, mask32m hy.1 hy.2]
  have p1 := half_mul xh yh
  have p2 := half_mul xh yl
  have p3 := half_mul xl yh
  have p4 := half_mul xl yl
  have e : x * y = (x / 4294967296 * (y / 4294967296)) * 18446744073709551616 + (x / 4294967296 * (y % 4294967296) + x % 4294967296 * (y / 4294967296)) * 4294967296 + x % 4294967296 * (y % 4294967296) := by
    generalize x / 4294967296 = a at *
    generalize x % 4294967296 = b at *
    generalize y / 4294967296 = c at *
    generalize y % 4294967296 = d at *
    subst ex ey
    grind
  rw [e]
  generalize x / 4294967296 * (y / 4294967296) = A at *
  generalize x / 4294967296 * (y % 4294967296) = B at *
  generalize x % 4294967296 * (y / 4294967296) = C at *
  generalize x % 4294967296 * (y % 4294967296) = D at *
  clear e ex ey xl yl xh yh hx hy
  rw [wu64_of (x := A) p1.1 (by omega), wu64_of (x := B) p2.1 (by omega), wu64_of (x := C) p3.1 (by omega), wu64_of (x := D) p4.1 (by omega)]
  rw [wu64_of (x := B + D / 4294967296) (by omega) (by omega)]
  rw [mask32m (x := B + D / 4294967296) (by omega) (by omega)]
  rw [wu64_of (x := (B + D / 4294967296) % 4294967296 + C) (by omega) (by omega)]
  rw [wu64_of (x := A + (B + D / 4294967296) / 4294967296) (by omega) (by omega)]
  rw [wu64_of (x := A + (B + D / 4294967296) / 4294967296 + _) (by omega) (by omega)]
  exact ⟨_, _, rfl, by rw [wu64]; omega, by omega, by rw [wu64]; omega⟩
end Go.Proofs.Yteabkedhdgnhgab.Z

namespace Go.Proofs.Yteabkedhdgnhgab.Z
open Go.RowKit Go.Proofs.Yteabkedhdgnhgab.F Go.Proofs.YteabkedhdgnhgabW.PrintWords
set_option linter.unusedSimpArgs false
set_option linter.unusedVariables false
theorem carry_of {c : Int} (h : c = 0 ∨ c = 1) : carry01 c = true := decide_eq_true h
end Go.Proofs.Yteabkedhdgnhgab.Z

namespace Go.Proofs.Yteabkedhdgnhgab.F
open Go.RowKit Go.Proofs.YteabkedhdgnhgabW.PrintWords Go.Proofs.YteabkedhdgnhgabW.PrintLast Go.Proofs.YteabkedhdgnhgabW.PrintMore
attribute [local go_sem] max2_int min2_int max_two min_two max_three min_three max_four min_four   -- for this text's walks alone
set_option linter.unusedVariables false
set_option linter.unusedSimpArgs false

attribute [local go_sem] add64_run
/-! ### nat_school: function 50 -/
mutual
def nat_school.l0 : Nat → List Int → List Int → List Int → Int → Int → Option (List Int)
  | 0, _, _, _, _, _ => none
  | k + 1, x1, x5, x20, x21, x22 => if x22 < x21 then (if 0 ≤ x22 then (if x22 < (x20.length : Int) then (nat_school.l1 k x1 x5 x22 (rd x20 x22) 0 x20 x21 x22 x1 (x1.length : Int) 0) else (none)) else (none)) else ((nat_trim.f k x5).bind fun t134 => (some t134))
def nat_school.l1 : Nat → List Int → List Int → Int → Int → Int → List Int → Int → Int → List Int → Int → Int → Option (List Int)
  | 0, _, _, _, _, _, _, _, _, _, _, _ => none
  | k + 1, x1, x5, x6, x7, x8, x20, x21, x22, x27, x28, x29 => if x29 < x28 then (if 0 ≤ x29 then (if x29 < (x27.length : Int) then ((bits_Mul64.f x7 (rd x27 x29)).bind fun bt139 => (if 0 ≤ (wrap64 (x6 + x29)) then (if (wrap64 (x6 + x29)) < (x5.length : Int) then (if carry01 0 = true then (nat_school.l1 k x1 (x5.set ((wrap64 (x6 + x29)) : Int).toNat (add64_s (add64_s bt139.2 (rd x5 (wrap64 (x6 + x29))) 0) x8 0)) x6 x7 (IntKind.u64.wrap ((IntKind.u64.wrap (bt139.1 + (add64_c bt139.2 (rd x5 (wrap64 (x6 + x29))) 0))) + (add64_c (add64_s bt139.2 (rd x5 (wrap64 (x6 + x29))) 0) x8 0))) x20 x21 x22 x27 x28 (wrap64 (x29 + 1))) else (none)) else (none)) else (none))) else (none)) else (none)) else (if 0 ≤ (wrap64 (x6 + (x1.length : Int))) then (if (wrap64 (x6 + (x1.length : Int))) < (x5.length : Int) then (nat_school.l0 k x1 (x5.set ((wrap64 (x6 + (x1.length : Int))) : Int).toNat x8) x20 x21 (wrap64 (x22 + 1))) else (none)) else (none))
end
def nat_school.f (k : Nat) (l0 : List Int) (l1 : List Int) : Option (List Int) := if 0 ≤ (wrap64 ((l0.length : Int) + (l1.length : Int))) then (if (wrap64 ((l0.length : Int) + (l1.length : Int)) : Int).toNat ≤ 35184372088832 then (nat_school.l0 k l1 (List.replicate (wrap64 ((l0.length : Int) + (l1.length : Int)) : Int).toNat 0) l0 (l0.length : Int) 0) else (none)) else (none)
theorem nat_school.mono_l : ∀ k, (∀ y0 y1 y2 y3 y4, LeO (nat_school.l0 k y0 y1 y2 y3 y4) (nat_school.l0 (k + 1) y0 y1 y2 y3 y4)) ∧ (∀ y0 y1 y2 y3 y4 y5 y6 y7 y8 y9 y10, LeO (nat_school.l1 k y0 y1 y2 y3 y4 y5 y6 y7 y8 y9 y10) (nat_school.l1 (k + 1) y0 y1 y2 y3 y4 y5 y6 y7 y8 y9 y10))
  | 0 => ⟨fun _ _ _ _ _ r h => by simp [nat_school.l0] at h, fun _ _ _ _ _ _ _ _ _ _ _ r h => by simp [nat_school.l1] at h⟩
  | k + 1 => by
    obtain ⟨ih0, ih1⟩ := nat_school.mono_l k
    refine ⟨?_, ?_⟩
    · intro y0 y1 y2 y3 y4
      unfold nat_school.l0
      repeat' first
      | (with_reducible exact ih0 _ _ _ _ _)
      | (with_reducible exact ih1 _ _ _ _ _ _ _ _ _ _ _)
      | (with_reducible exact nat_trim.mono _ _)
      | (with_reducible exact LeO.refl _)
      | (with_reducible exact LeO.none _)
      | (with_reducible refine LeO.ite ?_ ?_)
      | (with_reducible refine LeO.bind ?_ (fun _ => ?_))
      | exact ih0 _ _ _ _ _
      | exact ih1 _ _ _ _ _ _ _ _ _ _ _
      | exact nat_trim.mono _ _
      | exact LeO.none _
      | refine LeO.ite ?_ ?_
      | refine LeO.bind ?_ (fun _ => ?_)
    · intro y0 y1 y2 y3 y4 y5 y6 y7 y8 y9 y10
      unfold nat_school.l1
      repeat' first
      | (with_reducible exact ih0 _ _ _ _ _)
      | (with_reducible exact ih1 _ _ _ _ _ _ _ _ _ _ _)
      | (with_reducible exact nat_trim.mono _ _)
      | (with_reducible exact LeO.refl _)
      | (with_reducible exact LeO.none _)
      | (with_reducible refine LeO.ite ?_ ?_)
      | (with_reducible refine LeO.bind ?_ (fun _ => ?_))
      | exact ih0 _ _ _ _ _
      | exact ih1 _ _ _ _ _ _ _ _ _ _ _
      | exact nat_trim.mono _ _
      | exact LeO.none _
      | refine LeO.ite ?_ ?_
      | refine LeO.bind ?_ (fun _ => ?_)
theorem nat_school.mono : ∀ a0 a1 k, LeO (nat_school.f k a0 a1) (nat_school.f (k + 1) a0 a1) := by
  intro a0 a1 k
  obtain ⟨ih0, ih1⟩ := nat_school.mono_l k
  unfold nat_school.f
  repeat' first
      | (with_reducible exact ih0 _ _ _ _ _)
      | (with_reducible exact ih1 _ _ _ _ _ _ _ _ _ _ _)
      | (with_reducible exact nat_trim.mono _ _)
      | (with_reducible exact LeO.refl _)
      | (with_reducible exact LeO.none _)
      | (with_reducible refine LeO.ite ?_ ?_)
      | (with_reducible refine LeO.bind ?_ (fun _ => ?_))
      | exact ih0 _ _ _ _ _
      | exact ih1 _ _ _ _ _ _ _ _ _ _ _
      | exact nat_trim.mono _ _
      | exact LeO.none _
      | refine LeO.ite ?_ ?_
      | refine LeO.bind ?_ (fun _ => ?_)
set_option maxHeartbeats 8000000 in
set_option maxRecDepth 100000 in
theorem nat_school.calls (k : Nat) (A0 : Option Addr) (c0 : Nat) (l0 : List Int) (A1 : Option Addr) (c1 : Nat) (l1 : List Int) (r : List Int) (w : World) (hr0 : Kd.C (Kd.int .u64) w A0 l0.length l0) (hc0 : l0.length ≤ c0) (hr1 : Kd.C (Kd.int .u64) w A1 l1.length l1) (hc1 : l1.length ≤ c1) (h : nat_school.f k l0 l1 = some r) :
    Calls Try.prog 50 #[.slice A0 l0.length c0, .slice A1 l1.length c1] w fun e w' => ∃ v0_ : Value, e = .returned (v0_) ∧ Kd.R (Kd.int .u64) 29 w' w.heap.size (fun _ => True) v0_ r ∧ Below w.heap.size w w' := by
  have HR0 := Aside0.mk hr0
  have HC0 := Aside0.mk hc0
  clear hr0 hc0
  have HR1 := Aside0.mk hr1
  have HC1 := Aside0.mk hc1
  clear hr1 hc1
  have HB := Aside0.mk (Below.refl w.heap.size w)
  have H : (if 0 ≤ (wrap64 ((l0.length : Int) + (l1.length : Int))) then (if (wrap64 ((l0.length : Int) + (l1.length : Int)) : Int).toNat ≤ 35184372088832 then (nat_school.l0 k l1 (List.replicate (wrap64 ((l0.length : Int) + (l1.length : Int)) : Int).toNat 0) l0 (l0.length : Int) 0) else (none)) else (none)) = some r := h
  clear h
  obtain ⟨ji3, hji3⟩ : ∃ j_ : Int, (wrap64 ((l0.length : Int) + (l1.length : Int))) = j_ := ⟨_, rfl⟩
  replace H : (if 0 ≤ (ji3) then (if (ji3 : Int).toNat ≤ 35184372088832 then (nat_school.l0 k l1 (List.replicate (ji3 : Int).toNat 0) l0 (l0.length : Int) 0) else (none)) else (none)) = some r := by first | (rw [hji3] at H; exact H) | (simp only [hji3] at H ⊢; exact H)
  have hji3w : (IntKind.i64.wrap ((l0.length : Int) + (l1.length : Int))) = ji3 := (i64_w _).trans hji3
  by_cases c4 : 0 ≤ (ji3)
  · rw [if_pos c4] at H
    have c4b0 := eq_true c4
    have c4b1 : decide (0 ≤ (ji3)) = true := decide_eq_true c4
    clear c4
    by_cases c5 : (ji3 : Int).toNat ≤ 35184372088832
    · rw [if_pos c5] at H
      have c5b0 := eq_true c5
      have c5b1 : decide ((ji3 : Int).toNat ≤ 35184372088832) = true := decide_eq_true c5
      clear c5
      obtain ⟨y131, hy131⟩ : ∃ y_ : List Int, y_ = (List.replicate (ji3 : Int).toNat 0) := ⟨_, rfl⟩
      replace H : (nat_school.l0 k l1 y131 l0 (l0.length : Int) 0) = some r := by first | (rw [hy131]; with_reducible exact H) | (have H2_ := (Option.bind_some _ _).symm.trans H; rw [hy131]; with_reducible exact H2_) | (have H2_ := (Option.bind_some _ _).symm.trans H; with_reducible exact H2_) | with_reducible exact H | (rw [hy131]; exact H) | exact H
      have Ny131 := Aside0.mk hy131
      clear hy131
      have H' := Aside0.mk H
      clear H
      go_enter Try.func50, Try.ntmps50
      go_wp2_with (first | ((with_reducible refine gate_dst (N := 19) rfl ?_); refine Kd.R_make (Kd.int .u64) _ 29 rfl (N := 19) rfl 23 _ _ rfl ji3 rfl rfl Try.underlying23 (.int .u64 0) 8 info29 rfl (by decide) (by omega) 0 (ok := fun _ => True) (okp := fun _ => True) rfl (fun _ hk => hk) trivial (of_decide_eq_true (by first | (with_reducible assumption) | assumption)) (Nat.le_trans (Nat.mul_le_mul_right _ (of_decide_eq_true (by first | (with_reducible assumption) | assumption) : ji3.toNat ≤ 35184372088832)) (by omega)) (Below.refl _ _) (Nat.le_refl _) ?_; intro v132 w6 ho7 hb hg_ hnew_; clear hg_ hnew_; (first | rw [← Ny131.out] at ho7 | (simp only [Int.reduceToNat] at ho7; rw [← Ny131.out] at ho7)); have n0_ := Aside0.mk (Kd.R_lower ho7 (below_size (by repeat (first | (with_reducible first | exact HB.out | apply below_alloc | apply pw_below_drewN | apply below_drew1) | exact HB.out)))); have n1_ := Aside0.mk (below_step (by repeat (first | (with_reducible first | exact HB.out | apply below_alloc | apply pw_below_drewN | apply below_drew1) | exact HB.out)) hb); clear HB; have HO133 := n0_; have HB := n1_; clear n0_ n1_; clear hb ho7))
      go_loopg [22] k (fun kq v22 w' => ∃ (x5_1 : List Int) (x22_1 : Int), v22 = .int .i64 x22_1 ∧ Aside0 (nat_school.l0 kq l1 x5_1 l0 (l0.length : Int) x22_1 = some r) ∧ Aside0 (kq ≤ k) ∧ Aside0 (Kd.R (Kd.int .u64) 29 w' w.heap.size (fun _ => True) v132 x5_1) ∧ Aside0 (Below w.heap.size w w'))
      case atStart => exact ⟨(y131), (0), (by first | rfl | (simp; done) | (simp [*]; done)), H', ⟨Nat.le_refl _⟩, ⟨by (with_reducible repeat (first | apply Kd.R_alloc | apply Kd.R_drewN | apply Kd.R_drew)); exact HO133.out⟩, ⟨by repeat (first | (with_reducible first | exact HB.out | apply below_alloc | apply pw_below_drewN | apply below_drew1) | exact HB.out)⟩⟩
      case round =>
        clear H'
        try clear c1
        try clear p2
        try clear c4
        try clear c4b0
        try clear c4b1
        try clear c5
        try clear c5b0
        try clear c5b1
        try clear p6
        obtain ⟨x5_1, x22_1, rfl, HA, HK1, HO_5, HB⟩ := hrel
        cases gk with
        | zero => exact absurd HA.out (by simp [nat_school.l0])
        | succ k1 =>
          have H := HA.out
          clear HA
          simp only [nat_school.l0] at H
          by_cases c8 : x22_1 < (l0.length : Int)
          · rw [if_pos c8] at H
            have c8b0 : decide (x22_1 < (l0.length : Int)) = true := decide_eq_true c8
            clear c8
            by_cases c9 : 0 ≤ x22_1
            · rw [if_pos c9] at H
              have c9b0 : decide (0 ≤ x22_1) = true := decide_eq_true c9
              clear c9
              by_cases c10 : x22_1 < (l0.length : Int)
              · rw [if_pos c10] at H
                have c10b0 : decide (x22_1 < (l0.length : Int)) = true := decide_eq_true c10
                clear c10
                have H' := Aside0.mk H
                clear H
                have p137 : 0 ≤ (x22_1 : Int) := of_decide_eq_true (by first | (with_reducible assumption) | assumption)
                have q137 : x22_1 < (l0.length : Int) := of_decide_eq_true (by first | (with_reducible assumption) | assumption)
                obtain ⟨ad137, e137, hx137_0⟩ := Kd.at_int HR0.out x22_1 p137 q137
                cases e137
                replace hx137_0 := (HB.out.cell (World.block_lt_of_cell? w _ hx137_0)).trans hx137_0
                replace p137 := eq_true p137
                replace q137 := eq_true q137
                go_wp2
                go_loopg [8, 29] k1 (fun kq v8 v29 w' => ∃ (x5_2 : List Int) (x8_2 : Int) (x29_2 : Int), v8 = .int .u64 x8_2 ∧ v29 = .int .i64 x29_2 ∧ Aside0 (nat_school.l1 kq l1 x5_2 x22_1 (rd l0 x22_1) x8_2 l0 (l0.length : Int) x22_1 l1 (l1.length : Int) x29_2 = some r) ∧ Aside0 (kq ≤ k1) ∧ Aside0 (Kd.R (Kd.int .u64) 29 w' w.heap.size (fun _ => True) v132 x5_2) ∧ Aside0 (Below w.heap.size w w'))
                case atStart => exact ⟨(x5_1), (0), (0), (by first | rfl | (simp; done) | (simp [*]; done)), (by first | rfl | (simp; done) | (simp [*]; done)), H', ⟨Nat.le_refl _⟩, ⟨by (with_reducible repeat (first | apply Kd.R_alloc | apply Kd.R_drewN | apply Kd.R_drew)); exact HO_5.out⟩, ⟨by repeat (first | (with_reducible first | exact HB.out | apply below_alloc | apply pw_below_drewN | apply below_drew1) | exact HB.out)⟩⟩
                case round =>
                  clear H'
                  try clear c1
                  try clear p1
                  try clear q1
                  try clear hx1
                  try clear p2
                  try clear c4
                  try clear c4b0
                  try clear c4b1
                  try clear c5
                  try clear c5b0
                  try clear c5b1
                  try clear p6
                  try clear c8
                  try clear c8b0
                  try clear c9
                  try clear c9b0
                  try clear c10
                  try clear c10b0
                  try clear hx137_0
                  try clear p137
                  try clear p2
                  try clear p6
                  try clear q137
                  obtain ⟨x5_2, x8_2, x29_2, rfl, rfl, HA, HK2, HO_5, HB⟩ := hrel
                  cases gk with
                  | zero => exact absurd HA.out (by simp [nat_school.l1])
                  | succ k2 =>
                    have H := HA.out
                    clear HA
                    simp only [nat_school.l1] at H
                    by_cases c11 : x29_2 < (l1.length : Int)
                    · rw [if_pos c11] at H
                      have c11b0 : decide (x29_2 < (l1.length : Int)) = true := decide_eq_true c11
                      clear c11
                      by_cases c12 : 0 ≤ x29_2
                      · rw [if_pos c12] at H
                        have c12b0 : decide (0 ≤ x29_2) = true := decide_eq_true c12
                        clear c12
                        by_cases c13 : x29_2 < (l1.length : Int)
                        · rw [if_pos c13] at H
                          have c13b0 : decide (x29_2 < (l1.length : Int)) = true := decide_eq_true c13
                          clear c13
                          replace H := Option.bind_eq_some_iff.mp H
                          obtain ⟨⟨t139, t140⟩, A140, H⟩ := H
                          replace H : (if 0 ≤ (wrap64 (x22_1 + x29_2)) then (if (wrap64 (x22_1 + x29_2)) < (x5_2.length : Int) then (if carry01 0 = true then (nat_school.l1 k2 l1 (x5_2.set ((wrap64 (x22_1 + x29_2)) : Int).toNat (add64_s (add64_s t140 (rd x5_2 (wrap64 (x22_1 + x29_2))) 0) x8_2 0)) x22_1 (rd l0 x22_1) (IntKind.u64.wrap ((IntKind.u64.wrap (t139 + (add64_c t140 (rd x5_2 (wrap64 (x22_1 + x29_2))) 0))) + (add64_c (add64_s t140 (rd x5_2 (wrap64 (x22_1 + x29_2))) 0) x8_2 0))) l0 (l0.length : Int) x22_1 l1 (l1.length : Int) (wrap64 (x29_2 + 1))) else (none)) else (none)) else (none)) = some r := H
                          have A14 := Aside0.mk A140
                          clear A140
                          obtain ⟨ji15, hji15⟩ : ∃ j_ : Int, (wrap64 (x22_1 + x29_2)) = j_ := ⟨_, rfl⟩
                          replace H : (if 0 ≤ (ji15) then (if (ji15) < (x5_2.length : Int) then (if carry01 0 = true then (nat_school.l1 k2 l1 (x5_2.set ((ji15) : Int).toNat (add64_s (add64_s t140 (rd x5_2 (ji15)) 0) x8_2 0)) x22_1 (rd l0 x22_1) (IntKind.u64.wrap ((IntKind.u64.wrap (t139 + (add64_c t140 (rd x5_2 (ji15)) 0))) + (add64_c (add64_s t140 (rd x5_2 (ji15)) 0) x8_2 0))) l0 (l0.length : Int) x22_1 l1 (l1.length : Int) (wrap64 (x29_2 + 1))) else (none)) else (none)) else (none)) = some r := by first | (rw [hji15] at H; exact H) | (simp only [hji15] at H ⊢; exact H)
                          (try rw [hji15] at A14)
                          have hji15w : (IntKind.i64.wrap (x22_1 + x29_2)) = ji15 := (i64_w _).trans hji15
                          by_cases c16 : 0 ≤ (ji15)
                          · rw [if_pos c16] at H
                            have c16b0 : decide (0 ≤ (ji15)) = true := decide_eq_true c16
                            clear c16
                            by_cases c17 : (ji15) < (x5_2.length : Int)
                            · rw [if_pos c17] at H
                              have c17b0 : decide ((ji15) < (x5_2.length : Int)) = true := decide_eq_true c17
                              clear c17
                              by_cases c18 : carry01 0 = true
                              · rw [if_pos c18] at H
                                have c18b0 : carry01 0 = true := c18
                                clear c18
                                obtain ⟨y142, hy142⟩ : ∃ y_ : List Int, y_ = (x5_2.set ((ji15) : Int).toNat (add64_s (add64_s t140 (rd x5_2 (ji15)) 0) x8_2 0)) := ⟨_, rfl⟩
                                replace H : (nat_school.l1 k2 l1 y142 x22_1 (rd l0 x22_1) (IntKind.u64.wrap ((IntKind.u64.wrap (t139 + (add64_c t140 (rd x5_2 (ji15)) 0))) + (add64_c (add64_s t140 (rd x5_2 (ji15)) 0) x8_2 0))) l0 (l0.length : Int) x22_1 l1 (l1.length : Int) (wrap64 (x29_2 + 1))) = some r := by first | (rw [hy142]; with_reducible exact H) | (have H2_ := (Option.bind_some _ _).symm.trans H; rw [hy142]; with_reducible exact H2_) | (have H2_ := (Option.bind_some _ _).symm.trans H; with_reducible exact H2_) | with_reducible exact H | (rw [hy142]; exact H) | exact H
                                have Ny142 := Aside0.mk hy142
                                clear hy142
                                have H' := Aside0.mk H
                                clear H
                                have p138 : 0 ≤ (x29_2 : Int) := of_decide_eq_true (by first | (with_reducible assumption) | assumption)
                                have q138 : x29_2 < (l1.length : Int) := of_decide_eq_true (by first | (with_reducible assumption) | assumption)
                                obtain ⟨ad138, e138, hx138_0⟩ := Kd.at_int HR1.out x29_2 p138 q138
                                cases e138
                                replace hx138_0 := (HB.out.cell (World.block_lt_of_cell? w _ hx138_0)).trans hx138_0
                                replace p138 := eq_true p138
                                replace q138 := eq_true q138
                                go_wp2_with (first | ((with_reducible refine gate_callee (f := 35) rfl ?_); refine goesL_ (some 37) rfl rfl Try.func35 (by kernel_rfl) rfl #[.int .u64 (rd l0 x22_1), .int .u64 (rd l1 x29_2)] rfl (by (try simp only [List.map_toArray, List.map_cons, List.map_nil]); first | done | rfl | (simp only [List.length_drop, List.length_take]; rfl)) ?_; (with_reducible refine (bits_Mul64.calls (rd l0 x22_1) (rd l1 x29_2) t139 t140 _ A14.out).mono ?_); rintro e w' ⟨rfl, ⟨nd, rfl⟩⟩; refine ⟨_, rfl, ?_⟩; (try (rw [drewN_self wr]; generalize hq_ : World.drewN wr _ = wr; have n0_ : Aside0 (Kd.R (Kd.int .u64) 29 wr w.heap.size (fun _ => True) v132 x5_2) := ⟨by rw [← hq_]; exact (by (with_reducible repeat (first | apply Kd.R_alloc | apply Kd.R_drewN | apply Kd.R_drew)); exact HO_5.out)⟩; have n1_ : Aside0 (Below w.heap.size w wr) := ⟨by rw [← hq_]; exact (by repeat (first | (with_reducible first | exact HB.out | apply below_alloc | apply pw_below_drewN | apply below_drew1) | exact HB.out))⟩; clear HO_5 HB hq_; have HO_5 := n0_; have HB := n1_; clear n0_ n1_)); obtain ⟨Ao20, co20, eo20⟩ := Kd.R_slice HO_5.out; subst eo20; have p141 : 0 ≤ ((ji15) : Int) := of_decide_eq_true (by first | (with_reducible assumption) | assumption); have q141 : (ji15) < (x5_2.length : Int) := of_decide_eq_true (by first | (with_reducible assumption) | assumption); obtain ⟨ad141, e141, hx141_0⟩ := Kd.at_int (Kd.R_reads' HO_5.out).2.2 (ji15) p141 q141; cases e141; replace p141 := eq_true p141; replace q141 := eq_true q141; have p19 : 0 ≤ ((ji15) : Int) := of_decide_eq_true (by first | (with_reducible assumption) | assumption); have q19 : ((ji15) : Int) < ((x5_2.length : Int) : Int) := of_decide_eq_true (by first | (with_reducible assumption) | assumption); obtain ⟨go19, co19, eo19, gb19, gl19, cl19, HG19⟩ := Kd.R_form HO_5.out (by omega); (first | cases eo19 | (injection eo19 with ea_ en_ ec_; (first | subst ea_ | (injection ea_ with ea_; subst ea_)); subst ec_; clear en_)); have GB19 := Aside0.mk gb19; have GG19 := Aside0.mk HG19; clear gb19 gl19 HG19; (first | simp only [add_plain] at hx141_0 | skip); obtain ⟨hx19_0, hf19_0⟩ := Kd.R_celln 0 HO_5.out ((ji15) : Int) p19 q19; replace p19 := eq_true p19; replace q19 := eq_true q19; obtain ⟨hy21_, hz21_⟩ := Kd.R_celln 0 HO_5.out ((ji15) : Int) (of_decide_eq_true (by first | (with_reducible assumption) | assumption)) (of_decide_eq_true (by first | (with_reducible assumption) | assumption)); have HP21 := Kd.R_putg HO_5.out ((ji15) : Int) (add64_s (add64_s t140 (rd x5_2 (ji15)) 0) x8_2 0)) | ((with_reducible refine gate_store (t := 29) (p := 68) rfl ?_); refine store_event (t := 29) (p := 68) (v := ?vo_w22) (w1 := (wr.setCell ⟨go19, ((ji15) : Int).toNat, none⟩ (.int .u64 (add64_s (add64_s t140 (rd x5_2 (ji15)) 0) x8_2 0)))) ?hg ?ho ?hn ?hr ?_; (case ho => rfl); (case hg => rfl); (case hn => rfl); (case hr => first | (go_simp; done) | (go_simp; rfl) | (obtain ⟨hy_, hz_⟩ := Kd.R_celln 0 HO_5.out ((ji15) : Int) (of_decide_eq_true (by first | (with_reducible assumption) | assumption)) (of_decide_eq_true (by first | (with_reducible assumption) | assumption)); (try simp only [Go.IntWalk.toNatUp] at hy_ hz_); (try simp only [Int.reduceToNat, Int.toNat_zero, Int.toNat_ofNat] at hy_ hz_); first | (go_simp; done) | (go_simp; rfl))); intro w22 hw; have hg : wr.grownBy w22 (some go19) := (by rw [hw]; exact HP21.2); have hp_ : Kd.R (Kd.int .u64) 29 w22 w.heap.size (fun _ => True) (.slice (some ⟨go19, 0, none⟩) x5_2.length co20) y142 := (by rw [hw, Ny142.out]; exact HP21.1); clear HP21; have n0_ := Aside0.mk (hp_); have n1_ := Aside0.mk ((by rw [hw]; exact below_set (HB.out) GB19.out : Below w.heap.size w w22)); clear HO_5; clear HB; have HO_5 := n0_; have HB := n1_; clear n0_ n1_; clear hg hw hp_))
                                first | go_roundg k2 | ((try simp only [← hji15] at H'); simp only [← hji15]; go_roundg k2) | ((try simp only [← hji3] at H'); simp only [← hji3]; go_roundg k2)
                                case measure => have := HK1.out; have := HK2.out; omega
                                case rel => first | exact ⟨(y142), (IntKind.u64.wrap ((IntKind.u64.wrap (t139 + (add64_c t140 (rd x5_2 (ji15)) 0))) + (add64_c (add64_s t140 (rd x5_2 (ji15)) 0) x8_2 0))), (wrap64 (x29_2 + 1)), (by first | rfl | (simp; done) | (simp only [← hji15] <;> (first | rfl | simp)) | (simp [*]; done)), (by first | rfl | (simp; done) | (simp [*]; done)), H', ⟨by have := HK1.out; have := HK2.out; omega⟩, ⟨by (with_reducible repeat (first | apply Kd.R_alloc | apply Kd.R_drewN | apply Kd.R_drew)); exact HO_5.out⟩, ⟨by repeat (first | (with_reducible first | exact HB.out | apply below_alloc | apply pw_below_drewN | apply below_drew1) | exact HB.out)⟩⟩ | (simp only [← hji15] at H'; exact ⟨(y142), (IntKind.u64.wrap ((IntKind.u64.wrap (t139 + (add64_c t140 (rd x5_2 (ji15)) 0))) + (add64_c (add64_s t140 (rd x5_2 (ji15)) 0) x8_2 0))), (wrap64 (x29_2 + 1)), (by first | rfl | (simp; done) | (simp only [← hji15] <;> (first | rfl | simp)) | (simp [*]; done)), (by first | rfl | (simp; done) | (simp [*]; done)), H', ⟨by have := HK1.out; have := HK2.out; omega⟩, ⟨by (with_reducible repeat (first | apply Kd.R_alloc | apply Kd.R_drewN | apply Kd.R_drew)); exact HO_5.out⟩, ⟨by repeat (first | (with_reducible first | exact HB.out | apply below_alloc | apply pw_below_drewN | apply below_drew1) | exact HB.out)⟩⟩) | (simp only [← hji3] at H'; exact ⟨(y142), (IntKind.u64.wrap ((IntKind.u64.wrap (t139 + (add64_c t140 (rd x5_2 (ji15)) 0))) + (add64_c (add64_s t140 (rd x5_2 (ji15)) 0) x8_2 0))), (wrap64 (x29_2 + 1)), (by first | rfl | (simp; done) | (simp only [← hji15] <;> (first | rfl | simp)) | (simp [*]; done)), (by first | rfl | (simp; done) | (simp [*]; done)), H', ⟨by have := HK1.out; have := HK2.out; omega⟩, ⟨by (with_reducible repeat (first | apply Kd.R_alloc | apply Kd.R_drewN | apply Kd.R_drew)); exact HO_5.out⟩, ⟨by repeat (first | (with_reducible first | exact HB.out | apply below_alloc | apply pw_below_drewN | apply below_drew1) | exact HB.out)⟩⟩)
                              · rw [if_neg c18] at H
                                exact absurd H (by simp)
                            · rw [if_neg c17] at H
                              exact absurd H (by simp)
                          · rw [if_neg c16] at H
                            exact absurd H (by simp)
                        · rw [if_neg c13] at H
                          exact absurd H (by simp)
                      · rw [if_neg c12] at H
                        exact absurd H (by simp)
                    · rw [if_neg c11] at H
                      have c11b0 : decide (x29_2 < (l1.length : Int)) = false := decide_eq_false c11
                      clear c11
                      obtain ⟨ji23, hji23⟩ : ∃ j_ : Int, (wrap64 (x22_1 + (l1.length : Int))) = j_ := ⟨_, rfl⟩
                      replace H : (if 0 ≤ (ji23) then (if (ji23) < (x5_2.length : Int) then (nat_school.l0 k2 l1 (x5_2.set ((ji23) : Int).toNat x8_2) l0 (l0.length : Int) (wrap64 (x22_1 + 1))) else (none)) else (none)) = some r := by first | (rw [hji23] at H; exact H) | (simp only [hji23] at H ⊢; exact H)
                      have hji23w : (IntKind.i64.wrap (x22_1 + (l1.length : Int))) = ji23 := (i64_w _).trans hji23
                      by_cases c24 : 0 ≤ (ji23)
                      · rw [if_pos c24] at H
                        have c24b0 : decide (0 ≤ (ji23)) = true := decide_eq_true c24
                        clear c24
                        by_cases c25 : (ji23) < (x5_2.length : Int)
                        · rw [if_pos c25] at H
                          have c25b0 : decide ((ji23) < (x5_2.length : Int)) = true := decide_eq_true c25
                          clear c25
                          obtain ⟨y143, hy143⟩ : ∃ y_ : List Int, y_ = (x5_2.set ((ji23) : Int).toNat x8_2) := ⟨_, rfl⟩
                          replace H : (nat_school.l0 k2 l1 y143 l0 (l0.length : Int) (wrap64 (x22_1 + 1))) = some r := by first | (rw [hy143]; with_reducible exact H) | (have H2_ := (Option.bind_some _ _).symm.trans H; rw [hy143]; with_reducible exact H2_) | (have H2_ := (Option.bind_some _ _).symm.trans H; with_reducible exact H2_) | with_reducible exact H | (rw [hy143]; exact H) | exact H
                          have Ny143 := Aside0.mk hy143
                          clear hy143
                          have H' := Aside0.mk H
                          clear H
                          have p26 : 0 ≤ ((ji23) : Int) := of_decide_eq_true (by first | (with_reducible assumption) | assumption)
                          have q26 : ((ji23) : Int) < ((x5_2.length : Int) : Int) := of_decide_eq_true (by first | (with_reducible assumption) | assumption)
                          obtain ⟨go26, co26, eo26, gb26, gl26, cl26, HG26⟩ := Kd.R_form HO_5.out (by omega)
                          (first | cases eo26 | (injection eo26 with ea_ en_ ec_; (first | subst ea_ | (injection ea_ with ea_; subst ea_)); subst ec_; clear en_))
                          have GB26 := Aside0.mk gb26
                          have GG26 := Aside0.mk HG26
                          clear gb26 gl26 HG26
                          obtain ⟨hx26_0, hf26_0⟩ := Kd.R_celln 0 HO_5.out ((ji23) : Int) p26 q26
                          replace p26 := eq_true p26
                          replace q26 := eq_true q26
                          have HP27 := Kd.R_putg HO_5.out ((ji23) : Int) x8_2
                          go_wp2_with (first | ((with_reducible refine gate_store (t := 29) (p := 76) rfl ?_); refine store_event (t := 29) (p := 76) (v := ?vo_w28) (w1 := (wr.setCell ⟨go26, ((ji23) : Int).toNat, none⟩ (.int .u64 x8_2))) ?hg ?ho ?hn ?hr ?_; (case ho => rfl); (case hg => rfl); (case hn => rfl); (case hr => first | (go_simp; done) | (go_simp; rfl) | (obtain ⟨hy_, hz_⟩ := Kd.R_celln 0 HO_5.out ((ji23) : Int) (of_decide_eq_true (by first | (with_reducible assumption) | assumption)) (of_decide_eq_true (by first | (with_reducible assumption) | assumption)); (try simp only [Go.IntWalk.toNatUp] at hy_ hz_); (try simp only [Int.reduceToNat, Int.toNat_zero, Int.toNat_ofNat] at hy_ hz_); first | (go_simp; done) | (go_simp; rfl))); intro w28 hw; have hg : wr.grownBy w28 (some go26) := (by rw [hw]; exact HP27.2); have hp_ : Kd.R (Kd.int .u64) 29 w28 w.heap.size (fun _ => True) (.slice (some ⟨go26, 0, none⟩) x5_2.length co26) y143 := (by rw [hw, Ny143.out]; exact HP27.1); clear HP27; have n0_ := Aside0.mk (hp_); have n1_ := Aside0.mk ((by rw [hw]; exact below_set (HB.out) GB26.out : Below w.heap.size w w28)); clear HO_5; clear HB; have HO_5 := n0_; have HB := n1_; clear n0_ n1_; clear hg hw hp_))
                          first | go_roundg k2 | ((try simp only [← hji23] at H'); simp only [← hji23]; go_roundg k2) | ((try simp only [← hji15] at H'); simp only [← hji15]; go_roundg k2) | ((try simp only [← hji3] at H'); simp only [← hji3]; go_roundg k2)
                          case measure => have := HK1.out; have := HK2.out; omega
                          case rel => first | exact ⟨(y143), (wrap64 (x22_1 + 1)), (by first | rfl | (simp; done) | (simp [*]; done)), H', ⟨by have := HK1.out; have := HK2.out; omega⟩, ⟨by (with_reducible repeat (first | apply Kd.R_alloc | apply Kd.R_drewN | apply Kd.R_drew)); exact HO_5.out⟩, ⟨by repeat (first | (with_reducible first | exact HB.out | apply below_alloc | apply pw_below_drewN | apply below_drew1) | exact HB.out)⟩⟩ | (simp only [← hji23] at H'; exact ⟨(y143), (wrap64 (x22_1 + 1)), (by first | rfl | (simp; done) | (simp [*]; done)), H', ⟨by have := HK1.out; have := HK2.out; omega⟩, ⟨by (with_reducible repeat (first | apply Kd.R_alloc | apply Kd.R_drewN | apply Kd.R_drew)); exact HO_5.out⟩, ⟨by repeat (first | (with_reducible first | exact HB.out | apply below_alloc | apply pw_below_drewN | apply below_drew1) | exact HB.out)⟩⟩) | (simp only [← hji15] at H'; exact ⟨(y143), (wrap64 (x22_1 + 1)), (by first | rfl | (simp; done) | (simp [*]; done)), H', ⟨by have := HK1.out; have := HK2.out; omega⟩, ⟨by (with_reducible repeat (first | apply Kd.R_alloc | apply Kd.R_drewN | apply Kd.R_drew)); exact HO_5.out⟩, ⟨by repeat (first | (with_reducible first | exact HB.out | apply below_alloc | apply pw_below_drewN | apply below_drew1) | exact HB.out)⟩⟩) | (simp only [← hji3] at H'; exact ⟨(y143), (wrap64 (x22_1 + 1)), (by first | rfl | (simp; done) | (simp [*]; done)), H', ⟨by have := HK1.out; have := HK2.out; omega⟩, ⟨by (with_reducible repeat (first | apply Kd.R_alloc | apply Kd.R_drewN | apply Kd.R_drew)); exact HO_5.out⟩, ⟨by repeat (first | (with_reducible first | exact HB.out | apply below_alloc | apply pw_below_drewN | apply below_drew1) | exact HB.out)⟩⟩)
                        · rw [if_neg c25] at H
                          exact absurd H (by simp)
                      · rw [if_neg c24] at H
                        exact absurd H (by simp)
              · rw [if_neg c10] at H
                exact absurd H (by simp)
            · rw [if_neg c9] at H
              exact absurd H (by simp)
          · rw [if_neg c8] at H
            have c8b0 : decide (x22_1 < (l0.length : Int)) = false := decide_eq_false c8
            clear c8
            replace H := Option.bind_eq_some_iff.mp H
            obtain ⟨t134, A290, H⟩ := H
            replace H : (some t134) = some r := H
            have A29 := Aside0.mk A290
            clear A290
            obtain rfl := Option.some.inj H
            obtain ⟨Ao30, co30, eo30⟩ := Kd.R_slice HO_5.out
            subst eo30
            go_wp2_with (first | ((with_reducible refine gate_callee (f := 48) rfl ?_); refine goesL_ (some 79) rfl rfl Try.func48 (by kernel_rfl) rfl #[.slice Ao30 x5_1.length co30] rfl (by (try simp only [List.map_toArray, List.map_cons, List.map_nil]); first | done | rfl | (simp only [List.length_drop, List.length_take]; rfl)) ?_; (with_reducible refine (nat_trim.calls k1 (fun k_ => some k_ = (.slice Ao30 x5_1.length co30 : Value).ownBlock) (.slice Ao30 x5_1.length co30) x5_1 t134 w _ ?side1 ?side2 A29.out).mono ?_); (case side1 => repeat (first | (with_reducible first | exact HB.out | apply below_alloc | apply pw_below_drewN | apply below_drew1) | exact HB.out)); (case side2 => exact Kd.R_tight rfl HO_5.out); rintro e w31 ⟨v135, rfl, ho0, hb, hkp⟩; refine ⟨_, rfl, ?_⟩; have n0_ := Aside0.mk (Kd.R_mono (ok' := fun k_ => True) ho0 (fun k_ hk_ => trivial)); have n1_ := Aside0.mk (hb); clear HB; clear HO_5; have HO136 := n0_; have HB := n1_; clear n0_ n1_; (try clear hb); (try clear hkp); (try clear ho0)))
            go_ret
            exact ⟨_, by first | rfl | (simp [errW_none, errW_some] <;> rfl) | (simp only [← hji3]; first | rfl | (simp [errW_none, errW_some] <;> rfl)) | (simp [*, errW_none, errW_some] <;> rfl), by (with_reducible repeat (first | apply Kd.R_alloc | apply Kd.R_drewN | apply Kd.R_drew)); exact HO136.out, by repeat (first | (with_reducible first | exact HB.out | apply below_alloc | apply pw_below_drewN | apply below_drew1) | exact HB.out)⟩
    · rw [if_neg c5] at H
      exact absurd H (by simp)
  · rw [if_neg c4] at H
    exact absurd H (by simp)

end Go.Proofs.Yteabkedhdgnhgab.F

namespace Go.Proofs.Yteabkedhdgnhgab.Z
open Go.RowKit Go.Proofs.Yteabkedhdgnhgab.F Go.Proofs.YteabkedhdgnhgabW.PrintWords
set_option linter.unusedSimpArgs false
set_option linter.unusedVariables false
theorem add0_of {x y : Int} (hx : 0 ≤ x ∧ x < 18446744073709551616) (hy : 0 ≤ y ∧ y < 18446744073709551616) :
    add64_s x y 0 + 18446744073709551616 * add64_c x y 0 = x + y ∧ (0 ≤ add64_s x y 0 ∧ add64_s x y 0 < 18446744073709551616) ∧ (add64_c x y 0 = 0 ∨ add64_c x y 0 = 1) := by
  unfold add64_s add64_c
  omega
theorem getD_set_ne {l : List Int} {i j : Nat} {v : Int} (h : i ≠ j) : (l.set i v).getD j 0 = l.getD j 0 := by
  rw [List.getD_eq_getElem?_getD, List.getElem?_set_ne h, ← List.getD_eq_getElem?_getD]
theorem school_key {W p t B x y c o s Q : Int} (h : s + B * Q = x * y + o + c) : p + W * (s - o) + W * B * (x * t + Q) = p + W * (x * (y + B * t) + c) := by
  have e9 : W * (x * (y + B * t) + c) = W * (x * y + o + c) - W * o + W * (B * (x * t)) := by grind
  rw [e9, ← h]
  grind
theorem school_digit {x y hi lo o c s1 q1 s2 q2 : Int} (hx : 0 ≤ x ∧ x < 18446744073709551616) (hy : 0 ≤ y ∧ y < 18446744073709551616) (h3 : 0 ≤ hi ∧ hi < 18446744073709551616) (e2 : hi * 18446744073709551616 + lo = x * y) (ho : 0 ≤ o ∧ o < 18446744073709551616) (hc : 0 ≤ c ∧ c < 18446744073709551616)
    (a1 : s1 + 18446744073709551616 * q1 = lo + o) (a3 : q1 = 0 ∨ q1 = 1) (b1 : s2 + 18446744073709551616 * q2 = s1 + c) (b2 : 0 ≤ s2) (b3 : q2 = 0 ∨ q2 = 1) :
    0 ≤ hi + q1 ∧ hi + q1 < 18446744073709551616 ∧ 0 ≤ hi + q1 + q2 ∧ hi + q1 + q2 < 18446744073709551616 ∧ s2 + 18446744073709551616 * (hi + q1 + q2) = x * y + o + c := by
  have hxy : x * y ≤ 18446744073709551615 * 18446744073709551615 := Int.mul_le_mul (by omega) (by omega) hy.1 (by omega)
  have h0 : (18446744073709551615 : Int) * 18446744073709551615 = 340282366920938463426481119284349108225 := by decide
  rw [h0] at hxy
  generalize x * y = z at *
  omega
/-- One row of the product by hand: x times the limbs, added from place i on. -/
theorem school_l1 (l0 l1 : List Int) (i : Nat) (x m : Int) (hx : 0 ≤ x ∧ x < 18446744073709551616) (d1 : Dig (b64 : Int) l1) {res : List Int} : ∀ (S P out : List Int) (c : Int), l1 = P ++ S → out.length ≤ 1000000 → i + l1.length < out.length → Dig (b64 : Int) out → 0 ≤ c ∧ c < 18446744073709551616 → out.getD (i + l1.length) 0 = 0 →
    (∀ out' : List Int, out'.length = out.length → Dig (b64 : Int) out' → (∀ j, i + l1.length < j → out'.getD j 0 = out.getD j 0) → val (b64 : Int) out' = val (b64 : Int) out + (b64 : Int) ^ (i + P.length) * (x * val (b64 : Int) S + c) →
      Evt (fun k => nat_school.l0 k l1 out' l0 m (wrap64 ((i : Int) + 1))) res) →
    Evt (fun k => nat_school.l1 k l1 out (i : Int) x c l0 m (i : Int) l1 (l1.length : Int) (P.length : Int)) res := by
  intro S
  induction S with
  | nil =>
    intro P out c hl hlen hfit dO hc h0 cont
    obtain rfl : l1 = P := by simpa using hl
    refine Evt.succ ?_
    simp only [nat_school.l1]
    rw [w64 (x := (i : Int) + (l1.length : Int)) (by omega) (by omega)]
    refine Evt.ite_neg (by omega) (Evt.ite_pos (by omega) (Evt.ite_pos (by omega) ?_))
    have e : ((i : Int) + (l1.length : Int)).toNat = i + l1.length := by omega
    rw [e]
    have hB : (b64 : Int) = 18446744073709551616 := rfl
    refine cont _ (by simp) (dO.set _ (by rw [hB]; exact hc)) (fun j hj => getD_set_ne (by omega)) ?_
    rw [val_set _ _ _ _ hfit, h0]
    simp [val]
  | cons y S ih =>
    intro P out c hl hlen hfit dO hc h0 cont
    have hB : (b64 : Int) = 18446744073709551616 := rfl
    have hll : l1.length = P.length + (S.length + 1) := by rw [hl]; simp
    have hy : 0 ≤ y ∧ y < 18446744073709551616 := by
      have := d1 y (by rw [hl]; simp)
      rwa [hB] at this
    refine Evt.succ ?_
    simp only [nat_school.l1]
    refine Evt.ite_pos (by omega) (Evt.ite_pos (by omega) (Evt.ite_pos (by omega) ?_))
    have er : rd l1 (P.length : Int) = y := by rw [rd_nat, hl]; simp
    rw [er]
    obtain ⟨hi, lo, e1, e2, h3, h4⟩ := bits_Mul64_eq hx hy
    refine Evt.bind (Evt.of fun _ => e1) ?_
    rw [w64 (x := (i : Int) + (P.length : Int)) (by omega) (by omega)]
    refine Evt.ite_pos (by omega) (Evt.ite_pos (by omega) (Evt.ite_pos (carry_of (Or.inl rfl)) ?_))
    rw [show (i : Int) + (P.length : Int) = ((i + P.length : Nat) : Int) from by omega, rd_nat, Int.toNat_natCast]
    have ho := dO.getD b64_pos (i + P.length)
    rw [hB] at ho
    generalize hO : out.getD (i + P.length) 0 = o at *
    obtain ⟨a1, a2, a3⟩ := add0_of h4 ho
    generalize add64_s lo o 0 = s1 at *
    generalize add64_c lo o 0 = q1 at *
    obtain ⟨b1, b2, b3⟩ := add0_of a2 hc
    generalize add64_s s1 c 0 = s2 at *
    generalize add64_c s1 c 0 = q2 at *
    obtain ⟨k0, hq1, k1, hq2, k2⟩ := school_digit hx hy h3 e2 ho hc a1 a3 b1 b2.1 b3
    rw [wu64_of (x := hi + q1) k0 hq1, wu64_of (x := hi + q1 + q2) k1 hq2, w64 (x := (P.length : Int) + 1) (by omega) (by omega)]
    have h := ih (P ++ [y]) (out.set (i + P.length) s2) (hi + q1 + q2) (by rw [hl]; simp) (by simpa using hlen) (by simpa using hfit) (dO.set _ (by rw [hB]; exact b2)) ⟨k1, hq2⟩ (by rw [getD_set_ne (by omega)]; exact h0) ?_
    · rw [show ((P ++ [y]).length : Int) = (P.length : Int) + 1 from by simp] at h
      exact h
    · intro out' hl' d' hj' hv
      refine cont out' (by rw [hl']; simp) d' (fun j hj => by rw [hj' j hj, getD_set_ne (by omega)]) ?_
      rw [hv, val_set _ _ _ _ (by omega), hO, List.length_append, List.length_singleton, ← Nat.add_assoc, Int.pow_succ]
      simp only [val]
      exact school_key (by rw [hB]; exact k2)
theorem school_l0 (l0 l1 : List Int) (h0 : l0.length ≤ 100000) (h1 : l1.length ≤ 100000) (d0 : Dig (b64 : Int) l0) (d1 : Dig (b64 : Int) l1) (n : Nat) : ∀ (i : Nat) (out : List Int), i + n = l0.length → out.length = l0.length + l1.length → Dig (b64 : Int) out → (∀ j, i + l1.length ≤ j → out.getD j 0 = 0) → val (b64 : Int) out = val (b64 : Int) (l0.take i) * val (b64 : Int) l1 →
    Evt (fun k => nat_school.l0 k l1 out l0 (l0.length : Int) (i : Int)) (limbs (num l0 * num l1)) := by
  induction n with
  | zero =>
    intro i out hi hl dO _ hv
    refine Evt.succ ?_
    simp only [nat_school.l0]
    refine Evt.ite_neg (by omega) ?_
    refine Evt.bind (nat_trim_ev out (by simp [maxLen]; omega)) ?_
    rw [strip_limbs dO]
    have e : num out = num l0 * num l1 := by
      have e1 := num_val dO
      rw [hv, List.take_of_length_le (by omega), ← num_val d0, ← num_val d1, ← Int.natCast_mul] at e1
      omega
    rw [e]
    exact Evt.pure _
  | succ n ih =>
    intro i out hi hl dO hz hv
    have hil : i < l0.length := by omega
    refine Evt.succ ?_
    simp only [nat_school.l0]
    refine Evt.ite_pos (by omega) (Evt.ite_pos (by omega) (Evt.ite_pos (by omega) ?_))
    rw [rd_nat]
    have hx := d0.getD b64_pos i
    have hx' : 0 ≤ l0.getD i 0 ∧ l0.getD i 0 < 18446744073709551616 := hx
    have hg : l0.getD i 0 = l0[i] := by simp [hil]
    refine school_l1 l0 l1 i (l0.getD i 0) (l0.length : Int) hx' d1 l1 [] out 0 rfl (by omega) (by omega) dO (by omega) (hz _ (Nat.le_refl _)) ?_
    intro out' hl' d' hj' hv'
    rw [w64 (by omega) (by omega)]
    refine ih (i + 1) out' (by omega) (by omega) d' (fun j hj => by rw [hj' j (by omega), hz j (by omega)]) ?_
    rw [hv', hv, val_take_step _ _ _ hil, ← hg]
    simp only [List.length_nil, Nat.add_zero, Int.add_zero]
    grind
theorem nat_school_ev (l0 l1 : List Int) (h0 : l0.length ≤ 100000) (h1 : l1.length ≤ 100000) (d0 : Dig (b64 : Int) l0) (d1 : Dig (b64 : Int) l1) : Evt (fun k => nat_school.f k l0 l1) (limbs (num l0 * num l1)) := by
  unfold nat_school.f
  rw [w64 (by omega) (by omega), show ((l0.length : Int) + (l1.length : Int)).toNat = l0.length + l1.length from by omega]
  refine Evt.ite_pos (by omega) (Evt.ite_pos (by omega) ?_)
  refine school_l0 l0 l1 h0 h1 d0 d1 l0.length 0 _ (by omega) (by simp) (Dig.replicate b64_pos _) (fun j _ => ?_) ?_
  · rw [List.getD_eq_getElem?_getD, List.getElem?_replicate]
    split <;> rfl
  · rw [val_replicate]
    simp [val]
end Go.Proofs.Yteabkedhdgnhgab.Z

namespace Go.Proofs.Yteabkedhdgnhgab.F
open Go.RowKit Go.Proofs.YteabkedhdgnhgabW.PrintWords Go.Proofs.YteabkedhdgnhgabW.PrintLast Go.Proofs.YteabkedhdgnhgabW.PrintMore
attribute [local go_sem] max2_int min2_int max_two min_two max_three min_three max_four min_four   -- for this text's walks alone
set_option linter.unusedVariables false
set_option linter.unusedSimpArgs false

attribute [local go_sem] add64_run
/-! ### nat_into: function 54 -/
mutual
def nat_into.l0 : Nat → List Int → List Int → Int → Int → Int → Option (List Int)
  | 0, _, _, _, _, _ => none
  | k + 1, x0, x1, x2, x6, x7 => if x7 < (x0.length : Int) then (if (wrap64 (x7 - x2)) < (x1.length : Int) then (nat_into.j1 k x0 x1 x2 x6 x7 true) else (nat_into.j1 k x0 x1 x2 x6 x7 (decide (x6 > 0)))) else (nat_into.j1 k x0 x1 x2 x6 x7 false)
def nat_into.j1 : Nat → List Int → List Int → Int → Int → Int → Bool → Option (List Int)
  | 0, _, _, _, _, _, _ => none
  | k + 1, x0, x1, x2, x6, x7, x25 => if x25 = true then (if (wrap64 (x7 - x2)) < (x1.length : Int) then (if 0 ≤ (wrap64 (x7 - x2)) then (if 0 ≤ x7 then (if x7 < (x0.length : Int) then (if carry01 x6 = true then (nat_into.l0 k (x0.set (x7 : Int).toNat (add64_s (rd x0 x7) (rd x1 (wrap64 (x7 - x2))) x6)) x1 x2 (add64_c (rd x0 x7) (rd x1 (wrap64 (x7 - x2))) x6) (wrap64 (x7 + 1))) else (none)) else (none)) else (none)) else (none)) else (if 0 ≤ x7 then (if x7 < (x0.length : Int) then (if carry01 x6 = true then (nat_into.l0 k (x0.set (x7 : Int).toNat (add64_s (rd x0 x7) 0 x6)) x1 x2 (add64_c (rd x0 x7) 0 x6) (wrap64 (x7 + 1))) else (none)) else (none)) else (none))) else (some x0)
end
def nat_into.f (k : Nat) (l0 : List Int) (l1 : List Int) (a2 : Int) : Option (List Int) := nat_into.l0 k l0 l1 a2 0 a2
theorem nat_into.mono_l : ∀ k, (∀ y0 y1 y2 y3 y4, LeO (nat_into.l0 k y0 y1 y2 y3 y4) (nat_into.l0 (k + 1) y0 y1 y2 y3 y4)) ∧ (∀ y0 y1 y2 y3 y4 y5, LeO (nat_into.j1 k y0 y1 y2 y3 y4 y5) (nat_into.j1 (k + 1) y0 y1 y2 y3 y4 y5))
  | 0 => ⟨fun _ _ _ _ _ r h => by simp [nat_into.l0] at h, fun _ _ _ _ _ _ r h => by simp [nat_into.j1] at h⟩
  | k + 1 => by
    obtain ⟨ih0, ih1⟩ := nat_into.mono_l k
    refine ⟨?_, ?_⟩
    · intro y0 y1 y2 y3 y4
      unfold nat_into.l0
      repeat' first
      | (with_reducible exact ih0 _ _ _ _ _)
      | (with_reducible exact ih1 _ _ _ _ _ _)
      | (with_reducible exact LeO.refl _)
      | (with_reducible exact LeO.none _)
      | (with_reducible refine LeO.ite ?_ ?_)
      | (with_reducible refine LeO.bind ?_ (fun _ => ?_))
      | exact ih0 _ _ _ _ _
      | exact ih1 _ _ _ _ _ _
      | exact LeO.none _
      | refine LeO.ite ?_ ?_
      | refine LeO.bind ?_ (fun _ => ?_)
    · intro y0 y1 y2 y3 y4 y5
      unfold nat_into.j1
      repeat' first
      | (with_reducible exact ih0 _ _ _ _ _)
      | (with_reducible exact ih1 _ _ _ _ _ _)
      | (with_reducible exact LeO.refl _)
      | (with_reducible exact LeO.none _)
      | (with_reducible refine LeO.ite ?_ ?_)
      | (with_reducible refine LeO.bind ?_ (fun _ => ?_))
      | exact ih0 _ _ _ _ _
      | exact ih1 _ _ _ _ _ _
      | exact LeO.none _
      | refine LeO.ite ?_ ?_
      | refine LeO.bind ?_ (fun _ => ?_)
theorem nat_into.mono : ∀ a0 a1 a2 k, LeO (nat_into.f k a0 a1 a2) (nat_into.f (k + 1) a0 a1 a2) := by
  intro a0 a1 a2 k
  obtain ⟨ih0, ih1⟩ := nat_into.mono_l k
  unfold nat_into.f
  repeat' first
      | (with_reducible exact ih0 _ _ _ _ _)
      | (with_reducible exact ih1 _ _ _ _ _ _)
      | (with_reducible exact LeO.refl _)
      | (with_reducible exact LeO.none _)
      | (with_reducible refine LeO.ite ?_ ?_)
      | (with_reducible refine LeO.bind ?_ (fun _ => ?_))
      | exact ih0 _ _ _ _ _
      | exact ih1 _ _ _ _ _ _
      | exact LeO.none _
      | refine LeO.ite ?_ ?_
      | refine LeO.bind ?_ (fun _ => ?_)
set_option maxHeartbeats 8000000 in
set_option maxRecDepth 100000 in
theorem nat_into.calls (k : Nat) (P0_ : Nat → Prop) (u9000_ : Value) (l0 : List Int) (A1 : Option Addr) (c1 : Nat) (l1 : List Int) (a2 : Int) (r : List Int) (w0 w : World) (hB : Below w0.heap.size w0 w) (ho0 : Kd.R (Kd.int .u64) 29 w w0.heap.size P0_ u9000_ l0) (hr1 : ∀ W_, Kept w W_ (fun k_ => P0_ k_) → Kd.C (Kd.int .u64) W_ A1 l1.length l1) (hc1 : l1.length ≤ c1) (h : nat_into.f k l0 l1 a2 = some r) :
    Calls Try.prog 54 #[u9000_, .slice A1 l1.length c1, .int .i64 a2] w fun e w' => e = .returned (.tuple #[]) ∧ Kd.R (Kd.int .u64) 29 w' w0.heap.size (fun k_ => (P0_ k_ ∨ w.heap.size ≤ k_)) u9000_ r ∧ Below w0.heap.size w0 w' ∧ Kept w w' (fun k_ => P0_ k_) := by
  have HO0 := Aside0.mk (show Kd.R (Kd.int .u64) 29 w w0.heap.size (fun k_ => (P0_ k_ ∨ w.heap.size ≤ k_)) u9000_ l0 from Kd.R_mono ho0 (fun k_ hk => (.inl hk)))
  have HR1 := Aside0.mk hr1
  have HC1 := Aside0.mk hc1
  clear hr1 hc1
  have HK := Aside0.mk (Kept.refl w (fun k_ => P0_ k_))
  have HW0 := Aside0.mk hB.size
  have HB := Aside0.mk hB
  clear hB
  have H : (nat_into.l0 k l0 l1 a2 0 a2) = some r := h
  clear h
  have H' := Aside0.mk H
  clear H
  go_enter Try.func54, Try.ntmps54
  go_wp2
  go_loopg [6, 7] k (fun kq v6 v7 w' => ∃ (x0_1 : List Int) (x6_1 : Int) (x7_1 : Int), v6 = .int .u64 x6_1 ∧ v7 = .int .i64 x7_1 ∧ Aside0 (nat_into.l0 kq x0_1 l1 a2 x6_1 x7_1 = some r) ∧ Aside0 (kq ≤ k) ∧ Aside0 (Kd.R (Kd.int .u64) 29 w' w0.heap.size (fun k_ => (P0_ k_ ∨ w.heap.size ≤ k_)) u9000_ x0_1) ∧ Aside0 (Kept w w' (fun k_ => P0_ k_)) ∧ Aside0 (Below w0.heap.size w0 w'))
  case atStart => exact ⟨(l0), (0), (a2), (by first | rfl | (simp; done) | (simp [*]; done)), (by first | rfl | (simp; done) | (simp [*]; done)), H', ⟨Nat.le_refl _⟩, ⟨by (with_reducible repeat (first | apply Kd.R_alloc | apply Kd.R_drewN | apply Kd.R_drew)); exact HO0.out⟩, ⟨by repeat (first | (with_reducible first | exact HK.out | apply Kept.alloc | apply Kept.drewN | apply Kept.drew) | exact HK.out)⟩, ⟨by repeat (first | (with_reducible first | exact HB.out | apply below_alloc | apply pw_below_drewN | apply below_drew1) | exact HB.out)⟩⟩
  case round =>
    clear H'
    try clear c1
    try clear p2
    obtain ⟨x0_1, x6_1, x7_1, rfl, rfl, HA, HK1, HO_0, HK, HB⟩ := hrel
    cases gk with
    | zero => exact absurd HA.out (by simp [nat_into.l0])
    | succ k1 =>
      have H := HA.out
      clear HA
      simp only [nat_into.l0] at H
      have HC4 := Aside0.mk H
      clear H
      go_upto_region 2 with (fail)
      go_cut [25] (fun v25 wc => ∃ (kq : Nat) (x25_3 : Bool), v25 = .bool x25_3 ∧ Aside0 (nat_into.j1 kq x0_1 l1 a2 x6_1 x7_1 x25_3 = some r) ∧ Aside0 (kq ≤ k1) ∧ Aside0 (Kd.R (Kd.int .u64) 29 wc w0.heap.size (fun k_ => (P0_ k_ ∨ w.heap.size ≤ k_)) u9000_ x0_1) ∧ Aside0 (Kept w wc (fun k_ => P0_ k_)) ∧ Aside0 (Below w0.heap.size w0 wc))
      case first =>
        have H := HC4.out
        clear HC4
        by_cases c5 : x7_1 < (x0_1.length : Int)
        · rw [if_pos c5] at H
          have c5b0 : decide (x7_1 < (x0_1.length : Int)) = true := decide_eq_true c5
          clear c5
          (first | rw [c5b0] | (simp only [i64_w, i32_w]; rw [c5b0]) | skip)
          by_cases c6 : (wrap64 (x7_1 - a2)) < (l1.length : Int)
          · rw [if_pos c6] at H
            have c6b0 : decide ((wrap64 (x7_1 - a2)) < (l1.length : Int)) = true := decide_eq_true c6
            clear c6
            have H' := Aside0.mk H
            clear H
            obtain ⟨Ao7, co7, eo7⟩ := Kd.R_slice HO_0.out
            subst eo7
            go_wp2
            go_meet
            case rel => exact ⟨_, (true), (by first | rfl | (simp; done) | (simp [*]; done)), H', ⟨by have := HK1.out; first | omega | exact Nat.le_refl _⟩, ⟨by (with_reducible repeat (first | apply Kd.R_alloc | apply Kd.R_drewN | apply Kd.R_drew)); exact HO_0.out⟩, ⟨by repeat (first | (with_reducible first | exact HK.out | apply Kept.alloc | apply Kept.drewN | apply Kept.drew) | exact HK.out)⟩, ⟨by repeat (first | (with_reducible first | exact HB.out | apply below_alloc | apply pw_below_drewN | apply below_drew1) | exact HB.out)⟩⟩
          · rw [if_neg c6] at H
            have c6b0 : decide ((wrap64 (x7_1 - a2)) < (l1.length : Int)) = false := decide_eq_false c6
            clear c6
            have H' := Aside0.mk H
            clear H
            obtain ⟨Ao8, co8, eo8⟩ := Kd.R_slice HO_0.out
            subst eo8
            go_wp2
            go_meet
            case rel => exact ⟨_, (decide (x6_1 > 0)), (by first | rfl | (simp; done) | (simp [*]; done)), H', ⟨by have := HK1.out; first | omega | exact Nat.le_refl _⟩, ⟨by (with_reducible repeat (first | apply Kd.R_alloc | apply Kd.R_drewN | apply Kd.R_drew)); exact HO_0.out⟩, ⟨by repeat (first | (with_reducible first | exact HK.out | apply Kept.alloc | apply Kept.drewN | apply Kept.drew) | exact HK.out)⟩, ⟨by repeat (first | (with_reducible first | exact HB.out | apply below_alloc | apply pw_below_drewN | apply below_drew1) | exact HB.out)⟩⟩
        · rw [if_neg c5] at H
          have c5b0 : decide (x7_1 < (x0_1.length : Int)) = false := decide_eq_false c5
          clear c5
          (first | rw [c5b0] | (simp only [i64_w, i32_w]; rw [c5b0]) | skip)
          have H' := Aside0.mk H
          clear H
          obtain ⟨Ao9, co9, eo9⟩ := Kd.R_slice HO_0.out
          subst eo9
          go_wp2
          go_meet
          case rel => exact ⟨_, (false), (by first | rfl | (simp; done) | (simp [*]; done)), H', ⟨by have := HK1.out; first | omega | exact Nat.le_refl _⟩, ⟨by (with_reducible repeat (first | apply Kd.R_alloc | apply Kd.R_drewN | apply Kd.R_drew)); exact HO_0.out⟩, ⟨by repeat (first | (with_reducible first | exact HK.out | apply Kept.alloc | apply Kept.drewN | apply Kept.drew) | exact HK.out)⟩, ⟨by repeat (first | (with_reducible first | exact HB.out | apply below_alloc | apply pw_below_drewN | apply below_drew1) | exact HB.out)⟩⟩
      case rest =>
        clear HC4
        try clear c1
        try clear p2
        try clear c5
        try clear c5b0
        try clear c6
        try clear c6b0
        try clear p6
        try clear p2
        obtain ⟨kq, x25_3, rfl, HA, HJ3, HO_0, HK, HB⟩ := hcut
        cases kq with
        | zero => exact absurd HA.out (by simp [nat_into.j1])
        | succ kj3 =>
          have H := HA.out
          clear HA
          simp only [nat_into.j1] at H
          by_cases c10 : x25_3 = true
          · subst c10
            have H1 : (if (wrap64 (x7_1 - a2)) < (l1.length : Int) then (if 0 ≤ (wrap64 (x7_1 - a2)) then (if 0 ≤ x7_1 then (if x7_1 < (x0_1.length : Int) then (if carry01 x6_1 = true then (nat_into.l0 kj3 (x0_1.set (x7_1 : Int).toNat (add64_s (rd x0_1 x7_1) (rd l1 (wrap64 (x7_1 - a2))) x6_1)) l1 a2 (add64_c (rd x0_1 x7_1) (rd l1 (wrap64 (x7_1 - a2))) x6_1) (wrap64 (x7_1 + 1))) else (none)) else (none)) else (none)) else (none)) else (if 0 ≤ x7_1 then (if x7_1 < (x0_1.length : Int) then (if carry01 x6_1 = true then (nat_into.l0 kj3 (x0_1.set (x7_1 : Int).toNat (add64_s (rd x0_1 x7_1) 0 x6_1)) l1 a2 (add64_c (rd x0_1 x7_1) 0 x6_1) (wrap64 (x7_1 + 1))) else (none)) else (none)) else (none))) = some r := by rw [if_pos rfl] at H; exact H
            clear H
            have H := H1
            clear H1
            by_cases c11 : (wrap64 (x7_1 - a2)) < (l1.length : Int)
            · rw [if_pos c11] at H
              have c11b0 : decide ((wrap64 (x7_1 - a2)) < (l1.length : Int)) = true := decide_eq_true c11
              clear c11
              obtain ⟨ji12, hji12⟩ : ∃ j_ : Int, (wrap64 (x7_1 - a2)) = j_ := ⟨_, rfl⟩
              replace H : (if 0 ≤ (ji12) then (if 0 ≤ x7_1 then (if x7_1 < (x0_1.length : Int) then (if carry01 x6_1 = true then (nat_into.l0 kj3 (x0_1.set (x7_1 : Int).toNat (add64_s (rd x0_1 x7_1) (rd l1 (ji12)) x6_1)) l1 a2 (add64_c (rd x0_1 x7_1) (rd l1 (ji12)) x6_1) (wrap64 (x7_1 + 1))) else (none)) else (none)) else (none)) else (none)) = some r := by first | (rw [hji12] at H; exact H) | (simp only [hji12] at H ⊢; exact H)
              (try rw [hji12] at c11b0)
              have hji12w : (IntKind.i64.wrap (x7_1 - a2)) = ji12 := (i64_w _).trans hji12
              by_cases c13 : 0 ≤ (ji12)
              · rw [if_pos c13] at H
                have c13b0 : decide (0 ≤ (ji12)) = true := decide_eq_true c13
                clear c13
                by_cases c14 : 0 ≤ x7_1
                · rw [if_pos c14] at H
                  have c14b0 : decide (0 ≤ x7_1) = true := decide_eq_true c14
                  clear c14
                  by_cases c15 : x7_1 < (x0_1.length : Int)
                  · rw [if_pos c15] at H
                    have c15b0 : decide (x7_1 < (x0_1.length : Int)) = true := decide_eq_true c15
                    clear c15
                    by_cases c16 : carry01 x6_1 = true
                    · rw [if_pos c16] at H
                      have c16b0 : carry01 x6_1 = true := c16
                      clear c16
                      obtain ⟨y154, hy154⟩ : ∃ y_ : List Int, y_ = (x0_1.set (x7_1 : Int).toNat (add64_s (rd x0_1 x7_1) (rd l1 (ji12)) x6_1)) := ⟨_, rfl⟩
                      replace H : (nat_into.l0 kj3 y154 l1 a2 (add64_c (rd x0_1 x7_1) (rd l1 (ji12)) x6_1) (wrap64 (x7_1 + 1))) = some r := by first | (rw [hy154]; with_reducible exact H) | (have H2_ := (Option.bind_some _ _).symm.trans H; rw [hy154]; with_reducible exact H2_) | (have H2_ := (Option.bind_some _ _).symm.trans H; with_reducible exact H2_) | with_reducible exact H | (rw [hy154]; exact H) | exact H
                      have Ny154 := Aside0.mk hy154
                      clear hy154
                      have H' := Aside0.mk H
                      clear H
                      have p152 : 0 ≤ ((ji12) : Int) := of_decide_eq_true (by first | (with_reducible assumption) | assumption)
                      have q152 : (ji12) < (l1.length : Int) := of_decide_eq_true (by first | (with_reducible assumption) | assumption)
                      obtain ⟨ad152, e152, hx152_0⟩ := Kd.at_int (Kd.C_kept_now HR1.out HK.out) (ji12) p152 q152
                      cases e152
                      replace p152 := eq_true p152
                      replace q152 := eq_true q152
                      obtain ⟨Ao18, co18, eo18⟩ := Kd.R_slice HO_0.out
                      subst eo18
                      have p153 : 0 ≤ (x7_1 : Int) := of_decide_eq_true (by first | (with_reducible assumption) | assumption)
                      have q153 : x7_1 < (x0_1.length : Int) := of_decide_eq_true (by first | (with_reducible assumption) | assumption)
                      obtain ⟨ad153, e153, hx153_0⟩ := Kd.at_int (Kd.R_reads' HO_0.out).2.2 x7_1 p153 q153
                      cases e153
                      replace p153 := eq_true p153
                      replace q153 := eq_true q153
                      have p17 : 0 ≤ (x7_1 : Int) := of_decide_eq_true (by first | (with_reducible assumption) | assumption)
                      have q17 : (x7_1 : Int) < ((x0_1.length : Int) : Int) := of_decide_eq_true (by first | (with_reducible assumption) | assumption)
                      obtain ⟨go17, co17, eo17, gb17, gl17, cl17, HG17⟩ := Kd.R_form HO_0.out (by omega)
                      (first | cases eo17 | (injection eo17 with ea_ en_ ec_; (first | subst ea_ | (injection ea_ with ea_; subst ea_)); subst ec_; clear en_))
                      have GB17 := Aside0.mk gb17
                      have GG17 := Aside0.mk HG17
                      clear gb17 gl17 HG17
                      have HMgo17 := Aside0.mk (show (P0_ go17 ∨ w.heap.size ≤ go17) from (HO_0.out.1 _ rfl))
                      (first | simp only [add_plain] at hx153_0 | skip)
                      obtain ⟨hx17_0, hf17_0⟩ := Kd.R_celln 0 HO_0.out (x7_1 : Int) p17 q17
                      replace p17 := eq_true p17
                      replace q17 := eq_true q17
                      have HP19 := Kd.R_putg HO_0.out (x7_1 : Int) (add64_s (rd x0_1 x7_1) (rd l1 (ji12)) x6_1)
                      go_wp2_with (first | ((with_reducible refine gate_store (t := 29) (p := 52) rfl ?_); refine store_event (t := 29) (p := 52) (v := ?vo_w20) (w1 := (wc.setCell ⟨go17, (x7_1 : Int).toNat, none⟩ (.int .u64 (add64_s (rd x0_1 x7_1) (rd l1 (ji12)) x6_1)))) ?hg ?ho ?hn ?hr ?_; (case ho => rfl); (case hg => rfl); (case hn => rfl); (case hr => first | (go_simp; done) | (go_simp; rfl) | (obtain ⟨hy_, hz_⟩ := Kd.R_celln 0 HO_0.out (x7_1 : Int) (of_decide_eq_true (by first | (with_reducible assumption) | assumption)) (of_decide_eq_true (by first | (with_reducible assumption) | assumption)); (try simp only [Go.IntWalk.toNatUp] at hy_ hz_); (try simp only [Int.reduceToNat, Int.toNat_zero, Int.toNat_ofNat] at hy_ hz_); first | (go_simp; done) | (go_simp; rfl))); intro w20 hw; have hg : wc.grownBy w20 (some go17) := (by rw [hw]; exact HP19.2); have hp_ : Kd.R (Kd.int .u64) 29 w20 w0.heap.size (fun k_ => (P0_ k_ ∨ w.heap.size ≤ k_)) (.slice (some ⟨go17, 0, none⟩) x0_1.length co18) y154 := (by rw [hw, Ny154.out]; exact HP19.1); clear HP19; have n0_ := Aside0.mk (hp_); have n1_ := Aside0.mk ((by rw [hw]; exact below_set (HB.out) GB17.out : Below w0.heap.size w0 w20)); have n2_ := Aside0.mk (Kept.of_grown (S := (fun k_ => P0_ k_)) hg (by repeat (first | (with_reducible first | exact HK.out | apply Kept.alloc | apply Kept.drewN | apply Kept.drew) | exact HK.out)) (fun k_ e_ => (HO_0.out.1 k_ e_))); clear HO_0; clear HB; clear HK; have HO_0 := n0_; have HB := n1_; have HK := n2_; clear n0_ n1_ n2_; clear hg hw hp_))
                      first | go_roundg kj3 | ((try simp only [← hji12] at H'); simp only [← hji12]; go_roundg kj3)
                      case measure => have := HK1.out; have := HJ3.out; omega
                      case rel => first | exact ⟨(y154), (add64_c (rd x0_1 x7_1) (rd l1 (ji12)) x6_1), (wrap64 (x7_1 + 1)), (by first | rfl | (simp; done) | (simp only [← hji12] <;> (first | rfl | simp)) | (simp [*]; done)), (by first | rfl | (simp; done) | (simp [*]; done)), H', ⟨by have := HK1.out; have := HJ3.out; omega⟩, ⟨by (with_reducible repeat (first | apply Kd.R_alloc | apply Kd.R_drewN | apply Kd.R_drew)); exact HO_0.out⟩, ⟨by repeat (first | (with_reducible first | exact HK.out | apply Kept.alloc | apply Kept.drewN | apply Kept.drew) | exact HK.out)⟩, ⟨by repeat (first | (with_reducible first | exact HB.out | apply below_alloc | apply pw_below_drewN | apply below_drew1) | exact HB.out)⟩⟩ | (simp only [← hji12] at H'; exact ⟨(y154), (add64_c (rd x0_1 x7_1) (rd l1 (ji12)) x6_1), (wrap64 (x7_1 + 1)), (by first | rfl | (simp; done) | (simp only [← hji12] <;> (first | rfl | simp)) | (simp [*]; done)), (by first | rfl | (simp; done) | (simp [*]; done)), H', ⟨by have := HK1.out; have := HJ3.out; omega⟩, ⟨by (with_reducible repeat (first | apply Kd.R_alloc | apply Kd.R_drewN | apply Kd.R_drew)); exact HO_0.out⟩, ⟨by repeat (first | (with_reducible first | exact HK.out | apply Kept.alloc | apply Kept.drewN | apply Kept.drew) | exact HK.out)⟩, ⟨by repeat (first | (with_reducible first | exact HB.out | apply below_alloc | apply pw_below_drewN | apply below_drew1) | exact HB.out)⟩⟩)
                    · rw [if_neg c16] at H
                      exact absurd H (by simp)
                  · rw [if_neg c15] at H
                    exact absurd H (by simp)
                · rw [if_neg c14] at H
                  exact absurd H (by simp)
              · rw [if_neg c13] at H
                exact absurd H (by simp)
            · rw [if_neg c11] at H
              have c11b0 : decide ((wrap64 (x7_1 - a2)) < (l1.length : Int)) = false := decide_eq_false c11
              clear c11
              by_cases c21 : 0 ≤ x7_1
              · rw [if_pos c21] at H
                have c21b0 : decide (0 ≤ x7_1) = true := decide_eq_true c21
                clear c21
                by_cases c22 : x7_1 < (x0_1.length : Int)
                · rw [if_pos c22] at H
                  have c22b0 : decide (x7_1 < (x0_1.length : Int)) = true := decide_eq_true c22
                  clear c22
                  by_cases c23 : carry01 x6_1 = true
                  · rw [if_pos c23] at H
                    have c23b0 : carry01 x6_1 = true := c23
                    clear c23
                    obtain ⟨y156, hy156⟩ : ∃ y_ : List Int, y_ = (x0_1.set (x7_1 : Int).toNat (add64_s (rd x0_1 x7_1) 0 x6_1)) := ⟨_, rfl⟩
                    replace H : (nat_into.l0 kj3 y156 l1 a2 (add64_c (rd x0_1 x7_1) 0 x6_1) (wrap64 (x7_1 + 1))) = some r := by first | (rw [hy156]; with_reducible exact H) | (have H2_ := (Option.bind_some _ _).symm.trans H; rw [hy156]; with_reducible exact H2_) | (have H2_ := (Option.bind_some _ _).symm.trans H; with_reducible exact H2_) | with_reducible exact H | (rw [hy156]; exact H) | exact H
                    have Ny156 := Aside0.mk hy156
                    clear hy156
                    have H' := Aside0.mk H
                    clear H
                    obtain ⟨Ao25, co25, eo25⟩ := Kd.R_slice HO_0.out
                    subst eo25
                    have p155 : 0 ≤ (x7_1 : Int) := of_decide_eq_true (by first | (with_reducible assumption) | assumption)
                    have q155 : x7_1 < (x0_1.length : Int) := of_decide_eq_true (by first | (with_reducible assumption) | assumption)
                    obtain ⟨ad155, e155, hx155_0⟩ := Kd.at_int (Kd.R_reads' HO_0.out).2.2 x7_1 p155 q155
                    cases e155
                    replace p155 := eq_true p155
                    replace q155 := eq_true q155
                    have p24 : 0 ≤ (x7_1 : Int) := of_decide_eq_true (by first | (with_reducible assumption) | assumption)
                    have q24 : (x7_1 : Int) < ((x0_1.length : Int) : Int) := of_decide_eq_true (by first | (with_reducible assumption) | assumption)
                    obtain ⟨go24, co24, eo24, gb24, gl24, cl24, HG24⟩ := Kd.R_form HO_0.out (by omega)
                    (first | cases eo24 | (injection eo24 with ea_ en_ ec_; (first | subst ea_ | (injection ea_ with ea_; subst ea_)); subst ec_; clear en_))
                    have GB24 := Aside0.mk gb24
                    have GG24 := Aside0.mk HG24
                    clear gb24 gl24 HG24
                    have HMgo24 := Aside0.mk (show (P0_ go24 ∨ w.heap.size ≤ go24) from (HO_0.out.1 _ rfl))
                    (first | simp only [add_plain] at hx155_0 | skip)
                    obtain ⟨hx24_0, hf24_0⟩ := Kd.R_celln 0 HO_0.out (x7_1 : Int) p24 q24
                    replace p24 := eq_true p24
                    replace q24 := eq_true q24
                    have HP26 := Kd.R_putg HO_0.out (x7_1 : Int) (add64_s (rd x0_1 x7_1) 0 x6_1)
                    go_wp2_with (first | ((with_reducible refine gate_store (t := 29) (p := 52) rfl ?_); refine store_event (t := 29) (p := 52) (v := ?vo_w27) (w1 := (wc.setCell ⟨go24, (x7_1 : Int).toNat, none⟩ (.int .u64 (add64_s (rd x0_1 x7_1) 0 x6_1)))) ?hg ?ho ?hn ?hr ?_; (case ho => rfl); (case hg => rfl); (case hn => rfl); (case hr => first | (go_simp; done) | (go_simp; rfl) | (obtain ⟨hy_, hz_⟩ := Kd.R_celln 0 HO_0.out (x7_1 : Int) (of_decide_eq_true (by first | (with_reducible assumption) | assumption)) (of_decide_eq_true (by first | (with_reducible assumption) | assumption)); (try simp only [Go.IntWalk.toNatUp] at hy_ hz_); (try simp only [Int.reduceToNat, Int.toNat_zero, Int.toNat_ofNat] at hy_ hz_); first | (go_simp; done) | (go_simp; rfl))); intro w27 hw; have hg : wc.grownBy w27 (some go24) := (by rw [hw]; exact HP26.2); have hp_ : Kd.R (Kd.int .u64) 29 w27 w0.heap.size (fun k_ => (P0_ k_ ∨ w.heap.size ≤ k_)) (.slice (some ⟨go24, 0, none⟩) x0_1.length co25) y156 := (by rw [hw, Ny156.out]; exact HP26.1); clear HP26; have n0_ := Aside0.mk (hp_); have n1_ := Aside0.mk ((by rw [hw]; exact below_set (HB.out) GB24.out : Below w0.heap.size w0 w27)); have n2_ := Aside0.mk (Kept.of_grown (S := (fun k_ => P0_ k_)) hg (by repeat (first | (with_reducible first | exact HK.out | apply Kept.alloc | apply Kept.drewN | apply Kept.drew) | exact HK.out)) (fun k_ e_ => (HO_0.out.1 k_ e_))); clear HO_0; clear HB; clear HK; have HO_0 := n0_; have HB := n1_; have HK := n2_; clear n0_ n1_ n2_; clear hg hw hp_))
                    first | go_roundg kj3 | ((try simp only [← hji12] at H'); simp only [← hji12]; go_roundg kj3)
                    case measure => have := HK1.out; have := HJ3.out; omega
                    case rel => first | exact ⟨(y156), (add64_c (rd x0_1 x7_1) 0 x6_1), (wrap64 (x7_1 + 1)), (by first | rfl | (simp; done) | (simp [*]; done)), (by first | rfl | (simp; done) | (simp [*]; done)), H', ⟨by have := HK1.out; have := HJ3.out; omega⟩, ⟨by (with_reducible repeat (first | apply Kd.R_alloc | apply Kd.R_drewN | apply Kd.R_drew)); exact HO_0.out⟩, ⟨by repeat (first | (with_reducible first | exact HK.out | apply Kept.alloc | apply Kept.drewN | apply Kept.drew) | exact HK.out)⟩, ⟨by repeat (first | (with_reducible first | exact HB.out | apply below_alloc | apply pw_below_drewN | apply below_drew1) | exact HB.out)⟩⟩ | (simp only [← hji12] at H'; exact ⟨(y156), (add64_c (rd x0_1 x7_1) 0 x6_1), (wrap64 (x7_1 + 1)), (by first | rfl | (simp; done) | (simp [*]; done)), (by first | rfl | (simp; done) | (simp [*]; done)), H', ⟨by have := HK1.out; have := HJ3.out; omega⟩, ⟨by (with_reducible repeat (first | apply Kd.R_alloc | apply Kd.R_drewN | apply Kd.R_drew)); exact HO_0.out⟩, ⟨by repeat (first | (with_reducible first | exact HK.out | apply Kept.alloc | apply Kept.drewN | apply Kept.drew) | exact HK.out)⟩, ⟨by repeat (first | (with_reducible first | exact HB.out | apply below_alloc | apply pw_below_drewN | apply below_drew1) | exact HB.out)⟩⟩)
                  · rw [if_neg c23] at H
                    exact absurd H (by simp)
                · rw [if_neg c22] at H
                  exact absurd H (by simp)
              · rw [if_neg c21] at H
                exact absurd H (by simp)
          · replace c10 := Bool.eq_false_iff.mpr c10
            subst c10
            have H1 : (some x0_1) = some r := by rw [if_neg (show ¬ (false = true) by decide)] at H; exact H
            clear H
            have H := H1
            clear H1
            obtain rfl := Option.some.inj H
            go_wp2
            first | go_end0 | ((try simp only [Exit.inBlock, Exit.then]); refine bodyPost_ret (results_none rfl _ _ _) rfl ?_)
            exact ⟨by first | rfl | (simp [errW_none, errW_some] <;> rfl) | (simp [*, errW_none, errW_some] <;> rfl), by (with_reducible repeat (first | apply Kd.R_alloc | apply Kd.R_drewN | apply Kd.R_drew)); exact HO_0.out, by repeat (first | (with_reducible first | exact HB.out | apply below_alloc | apply pw_below_drewN | apply below_drew1) | exact HB.out), by repeat (first | (with_reducible first | exact HK.out | apply Kept.alloc | apply Kept.drewN | apply Kept.drew) | exact HK.out)⟩

end Go.Proofs.Yteabkedhdgnhgab.F

namespace Go.Proofs.Yteabkedhdgnhgab.Z
open Go.RowKit Go.Proofs.Yteabkedhdgnhgab.F Go.Proofs.YteabkedhdgnhgabW.PrintWords
set_option linter.unusedSimpArgs false
set_option linter.unusedVariables false
theorem add64_of {x y c : Int} (hx : 0 ≤ x ∧ x < 18446744073709551616) (hy : 0 ≤ y ∧ y < 18446744073709551616) (hc : c = 0 ∨ c = 1) :
    add64_s x y c + 18446744073709551616 * add64_c x y c = x + y + c ∧ (0 ≤ add64_s x y c ∧ add64_s x y c < 18446744073709551616) ∧ (add64_c x y c = 0 ∨ add64_c x y c = 1) := by
  unfold add64_s add64_c
  omega
theorem val_drop_step (B : Int) (a : List Int) (j : Nat) : val B (a.drop j) = a.getD j 0 + B * val B (a.drop (j + 1)) := by
  by_cases h : j < a.length
  · rw [List.drop_eq_getElem_cons h, val, List.getD_eq_getElem?_getD, List.getElem?_eq_getElem h]
    rfl
  · rw [List.drop_of_length_le (by omega), List.drop_of_length_le (by omega), List.getD_eq_getElem?_getD, List.getElem?_eq_none (by omega)]
    simp [val]
theorem nat_into_loop (a : List Int) (at_ : Nat) (da : Dig (b64 : Int) a) (n : Nat) : ∀ (i : Nat) (out : List Int) (c : Int), n + i = max out.length i → at_ ≤ i → i ≤ 1000000 → out.length ≤ 1000000 → Dig (b64 : Int) out → (c = 0 ∨ c = 1) →
    val (b64 : Int) out + (b64 : Int) ^ i * (val (b64 : Int) (a.drop (i - at_)) + c) < (b64 : Int) ^ out.length →
    ∃ r : List Int, Evt (fun k => nat_into.l0 k out a (at_ : Int) c (i : Int)) r ∧ Dig (b64 : Int) r ∧ r.length = out.length ∧ val (b64 : Int) r = val (b64 : Int) out + (b64 : Int) ^ i * (val (b64 : Int) (a.drop (i - at_)) + c) := by
  have hB : (b64 : Int) = 18446744073709551616 := rfl
  induction n with
  | zero =>
    intro i out c hn ha hi ho dO hc hf
    have hv0 := val_nonneg b64_pos dO
    have hd0 := val_nonneg b64_pos (da.drop (i - at_))
    have hpi : (0 : Int) < (b64 : Int) ^ i := Int.pow_pos (by rw [hB]; omega)
    have hpm : (b64 : Int) ^ out.length ≤ (b64 : Int) ^ i := pow_mono b64_pos (by omega)
    have hz : val (b64 : Int) (a.drop (i - at_)) + c = 0 := by
      by_cases h : val (b64 : Int) (a.drop (i - at_)) + c = 0
      · exact h
      · exfalso
        have h2 : (b64 : Int) ^ i * 1 ≤ (b64 : Int) ^ i * (val (b64 : Int) (a.drop (i - at_)) + c) := Int.mul_le_mul_of_nonneg_left (by omega) (by omega)
        omega
    refine ⟨out, ?_, dO, rfl, by rw [hz]; simp⟩
    refine Evt.succ ?_
    simp only [nat_into.l0]
    refine Evt.ite_neg (by omega) (Evt.succ ?_)
    simp only [nat_into.j1]
    refine Evt.ite_neg (by simp) (Evt.pure _)
  | succ n ih =>
    intro i out c hn ha hi ho dO hc hf
    have hio : i < out.length := by omega
    have hd0 := val_nonneg b64_pos (da.drop (i - at_))
    have hj : wrap64 ((i : Int) - (at_ : Int)) = ((i - at_ : Nat) : Int) := by rw [w64 (by omega) (by omega)]; omega
    have hO := dO.getD b64_pos i
    rw [hB] at hO
    have step : ∀ y : Int, y = a.getD (i - at_) 0 → ∃ r : List Int, Evt (fun k => nat_into.l0 k (out.set i (add64_s (out.getD i 0) y c)) a (at_ : Int) (add64_c (out.getD i 0) y c) (wrap64 ((i : Int) + 1))) r ∧ Dig (b64 : Int) r ∧ r.length = out.length ∧ val (b64 : Int) r = val (b64 : Int) out + (b64 : Int) ^ i * (val (b64 : Int) (a.drop (i - at_)) + c) := by
      intro y hy
      have hY := da.getD b64_pos (i - at_)
      rw [hB, ← hy] at hY
      obtain ⟨a1, a2, a3⟩ := add64_of hO hY hc
      have hvs := val_set (b64 : Int) out i (add64_s (out.getD i 0) y c) hio
      have hds := val_drop_step (b64 : Int) a (i - at_)
      rw [← hy] at hds
      generalize add64_s (out.getD i 0) y c = s at *
      generalize add64_c (out.getD i 0) y c = q at *
      have key : val (b64 : Int) (out.set i s) + (b64 : Int) ^ (i + 1) * (val (b64 : Int) (a.drop (i + 1 - at_)) + q) = val (b64 : Int) out + (b64 : Int) ^ i * (val (b64 : Int) (a.drop (i - at_)) + c) := by
        rw [hvs, hds, show i + 1 - at_ = i - at_ + 1 from by omega, Int.pow_succ]
        have e8 : s + (b64 : Int) * q = out.getD i 0 + y + c := by rw [hB]; omega
        generalize (b64 : Int) ^ i = W at *
        generalize val (b64 : Int) out = p at *
        generalize val (b64 : Int) (a.drop (i - at_ + 1)) = t at *
        generalize out.getD i 0 = o at *
        generalize (b64 : Int) = B at *
        have e9 : W * (y + B * t + c) = W * (o + y + c) - W * o + W * (B * t) := by grind
        rw [e9, ← e8]
        grind
      rw [w64 (by omega) (by omega)]
      have h := ih (i + 1) (out.set i s) q (by simp; omega) (by omega) (by omega) (by simpa using ho) (dO.set _ (by rw [hB]; exact a2)) a3 (by rw [key, List.length_set]; exact hf)
      obtain ⟨r, r1, r2, r3, r4⟩ := h
      exact ⟨r, r1, r2, by rw [r3, List.length_set], by rw [r4, key]⟩
    by_cases h1 : i - at_ < a.length
    · obtain ⟨r, r1, r2⟩ := step (a.getD (i - at_) 0) rfl
      refine ⟨r, ?_, r2⟩
      refine Evt.succ ?_
      simp only [nat_into.l0]
      rw [hj]
      refine Evt.ite_pos (by omega) (Evt.ite_pos (by omega) (Evt.succ ?_))
      simp only [nat_into.j1]
      rw [hj, rd_nat, rd_nat, Int.toNat_natCast]
      exact Evt.ite_pos trivial (Evt.ite_pos (by omega) (Evt.ite_pos (by omega) (Evt.ite_pos (by omega) (Evt.ite_pos (by omega) (Evt.ite_pos (carry_of hc) r1)))))
    · have hy0 : a.getD (i - at_) 0 = 0 := by
        rw [List.getD_eq_getElem?_getD, List.getElem?_eq_none (by omega)]
        rfl
      rcases hc with rfl | rfl
      · refine ⟨out, ?_, dO, rfl, ?_⟩
        · refine Evt.succ ?_
          simp only [nat_into.l0]
          rw [hj]
          refine Evt.ite_pos (by omega) (Evt.ite_neg (by omega) (Evt.succ ?_))
          simp only [nat_into.j1]
          exact Evt.ite_neg (by simp) (Evt.pure _)
        · rw [List.drop_of_length_le (by omega)]
          simp [val]
      · obtain ⟨r, r1, r2⟩ := step 0 hy0.symm
        refine ⟨r, ?_, r2⟩
        refine Evt.succ ?_
        simp only [nat_into.l0]
        rw [hj]
        refine Evt.ite_pos (by omega) (Evt.ite_neg (by omega) (Evt.succ ?_))
        simp only [nat_into.j1]
        rw [hj, rd_nat, Int.toNat_natCast]
        exact Evt.ite_pos (by simp) (Evt.ite_neg (by omega) (Evt.ite_pos (by omega) (Evt.ite_pos (by omega) (Evt.ite_pos (carry_of (Or.inr rfl)) r1))))
/-- A number added to limbs from a place on. -/
theorem nat_into_ev (out a : List Int) (at_ : Nat) (ha : at_ ≤ 1000000) (ho : out.length ≤ 1000000) (dO : Dig (b64 : Int) out) (da : Dig (b64 : Int) a) (hf : val (b64 : Int) out + (b64 : Int) ^ at_ * val (b64 : Int) a < (b64 : Int) ^ out.length) :
    ∃ r : List Int, Evt (fun k => nat_into.f k out a (at_ : Int)) r ∧ Dig (b64 : Int) r ∧ r.length = out.length ∧ val (b64 : Int) r = val (b64 : Int) out + (b64 : Int) ^ at_ * val (b64 : Int) a := by
  have h := nat_into_loop a at_ da (max out.length at_ - at_) at_ out 0 (by omega) (Nat.le_refl _) ha ho dO (Or.inl rfl) (by simpa using hf)
  obtain ⟨r, r1, r2, r3, r4⟩ := h
  refine ⟨r, ?_, r2, r3, by simpa using r4⟩
  unfold nat_into.f
  exact r1
end Go.Proofs.Yteabkedhdgnhgab.Z

namespace Go.Proofs.Yteabkedhdgnhgab.F
open Go.RowKit Go.Proofs.YteabkedhdgnhgabW.PrintWords Go.Proofs.YteabkedhdgnhgabW.PrintLast Go.Proofs.YteabkedhdgnhgabW.PrintMore
attribute [local go_sem] max2_int min2_int max_two min_two max_three min_three max_four min_four   -- for this text's walks alone
set_option linter.unusedVariables false
set_option linter.unusedSimpArgs false

attribute [local go_sem] add64_run
/-! ### nat_sum: function 30 -/
mutual
def nat_sum.l0 : Nat → List Int → List Int → List Int → Int → Int → Int → Option (List Int)
  | 0, _, _, _, _, _, _ => none
  | k + 1, x0, x1, x5, x6, x21, x22 => if x22 < x21 then (if x22 < (x1.length : Int) then (if 0 ≤ x22 then (if x22 < (x0.length : Int) then (if carry01 x6 = true then (if x22 < (x5.length : Int) then (nat_sum.l0 k x0 x1 (x5.set (x22 : Int).toNat (add64_s (rd x0 x22) (rd x1 x22) x6)) (add64_c (rd x0 x22) (rd x1 x22) x6) x21 (wrap64 (x22 + 1))) else (none)) else (none)) else (none)) else (none)) else (if 0 ≤ x22 then (if x22 < (x0.length : Int) then (if carry01 x6 = true then (if x22 < (x5.length : Int) then (nat_sum.l0 k x0 x1 (x5.set (x22 : Int).toNat (add64_s (rd x0 x22) 0 x6)) (add64_c (rd x0 x22) 0 x6) x21 (wrap64 (x22 + 1))) else (none)) else (none)) else (none)) else (none))) else (if 0 ≤ (x0.length : Int) then (if (x0.length : Int) < (x5.length : Int) then (some (x5.set ((x0.length : Int) : Int).toNat x6)) else (none)) else (none))
def nat_sum.l51 : Nat → List Int → List Int → List Int → Int → Int → Int → Option (List Int)
  | 0, _, _, _, _, _, _ => none
  | k + 1, x0, x1, x5, x6, x21, x22 => if x22 < x21 then (if x22 < (x1.length : Int) then (if 0 ≤ x22 then (if x22 < (x0.length : Int) then (if carry01 x6 = true then (if x22 < (x5.length : Int) then (nat_sum.l51 k x0 x1 (x5.set (x22 : Int).toNat (add64_s (rd x0 x22) (rd x1 x22) x6)) (add64_c (rd x0 x22) (rd x1 x22) x6) x21 (wrap64 (x22 + 1))) else (none)) else (none)) else (none)) else (none)) else (if 0 ≤ x22 then (if x22 < (x0.length : Int) then (if carry01 x6 = true then (if x22 < (x5.length : Int) then (nat_sum.l51 k x0 x1 (x5.set (x22 : Int).toNat (add64_s (rd x0 x22) 0 x6)) (add64_c (rd x0 x22) 0 x6) x21 (wrap64 (x22 + 1))) else (none)) else (none)) else (none)) else (none))) else (if 0 ≤ (x0.length : Int) then (if (x0.length : Int) < (x5.length : Int) then (some (x5.set ((x0.length : Int) : Int).toNat x6)) else (none)) else (none))
end
def nat_sum.f (k : Nat) (l0 : List Int) (l1 : List Int) : Option (List Int) := if (l0.length : Int) < (l1.length : Int) then (if 0 ≤ (wrap64 ((l1.length : Int) + 1)) then (if (wrap64 ((l1.length : Int) + 1) : Int).toNat ≤ 35184372088832 then (nat_sum.l0 k l1 l0 (List.replicate (wrap64 ((l1.length : Int) + 1) : Int).toNat 0) 0 (l1.length : Int) 0) else (none)) else (none)) else (if 0 ≤ (wrap64 ((l0.length : Int) + 1)) then (if (wrap64 ((l0.length : Int) + 1) : Int).toNat ≤ 35184372088832 then (nat_sum.l51 k l0 l1 (List.replicate (wrap64 ((l0.length : Int) + 1) : Int).toNat 0) 0 (l0.length : Int) 0) else (none)) else (none))
theorem nat_sum.mono_l : ∀ k, (∀ y0 y1 y2 y3 y4 y5, LeO (nat_sum.l0 k y0 y1 y2 y3 y4 y5) (nat_sum.l0 (k + 1) y0 y1 y2 y3 y4 y5)) ∧ (∀ y0 y1 y2 y3 y4 y5, LeO (nat_sum.l51 k y0 y1 y2 y3 y4 y5) (nat_sum.l51 (k + 1) y0 y1 y2 y3 y4 y5))
  | 0 => ⟨fun _ _ _ _ _ _ r h => by simp [nat_sum.l0] at h, fun _ _ _ _ _ _ r h => by simp [nat_sum.l51] at h⟩
  | k + 1 => by
    obtain ⟨ih0, ih1⟩ := nat_sum.mono_l k
    refine ⟨?_, ?_⟩
    · intro y0 y1 y2 y3 y4 y5
      unfold nat_sum.l0
      repeat' first
      | (with_reducible exact ih0 _ _ _ _ _ _)
      | (with_reducible exact ih1 _ _ _ _ _ _)
      | (with_reducible exact LeO.refl _)
      | (with_reducible exact LeO.none _)
      | (with_reducible refine LeO.ite ?_ ?_)
      | (with_reducible refine LeO.bind ?_ (fun _ => ?_))
      | exact ih0 _ _ _ _ _ _
      | exact ih1 _ _ _ _ _ _
      | exact LeO.none _
      | refine LeO.ite ?_ ?_
      | refine LeO.bind ?_ (fun _ => ?_)
    · intro y0 y1 y2 y3 y4 y5
      unfold nat_sum.l51
      repeat' first
      | (with_reducible exact ih0 _ _ _ _ _ _)
      | (with_reducible exact ih1 _ _ _ _ _ _)
      | (with_reducible exact LeO.refl _)
      | (with_reducible exact LeO.none _)
      | (with_reducible refine LeO.ite ?_ ?_)
      | (with_reducible refine LeO.bind ?_ (fun _ => ?_))
      | exact ih0 _ _ _ _ _ _
      | exact ih1 _ _ _ _ _ _
      | exact LeO.none _
      | refine LeO.ite ?_ ?_
      | refine LeO.bind ?_ (fun _ => ?_)
theorem nat_sum.mono : ∀ a0 a1 k, LeO (nat_sum.f k a0 a1) (nat_sum.f (k + 1) a0 a1) := by
  intro a0 a1 k
  obtain ⟨ih0, ih1⟩ := nat_sum.mono_l k
  unfold nat_sum.f
  repeat' first
      | (with_reducible exact ih0 _ _ _ _ _ _)
      | (with_reducible exact ih1 _ _ _ _ _ _)
      | (with_reducible exact LeO.refl _)
      | (with_reducible exact LeO.none _)
      | (with_reducible refine LeO.ite ?_ ?_)
      | (with_reducible refine LeO.bind ?_ (fun _ => ?_))
      | exact ih0 _ _ _ _ _ _
      | exact ih1 _ _ _ _ _ _
      | exact LeO.none _
      | refine LeO.ite ?_ ?_
      | refine LeO.bind ?_ (fun _ => ?_)
set_option maxHeartbeats 8000000 in
set_option maxRecDepth 100000 in
theorem nat_sum.calls (k : Nat) (A0 : Option Addr) (c0 : Nat) (l0 : List Int) (A1 : Option Addr) (c1 : Nat) (l1 : List Int) (r : List Int) (w : World) (hr0 : Kd.C (Kd.int .u64) w A0 l0.length l0) (hc0 : l0.length ≤ c0) (hr1 : Kd.C (Kd.int .u64) w A1 l1.length l1) (hc1 : l1.length ≤ c1) (h : nat_sum.f k l0 l1 = some r) :
    Calls Try.prog 30 #[.slice A0 l0.length c0, .slice A1 l1.length c1] w fun e w' => ∃ v0_ : Value, e = .returned (v0_) ∧ Kd.R (Kd.int .u64) 29 w' w.heap.size (fun _ => True) v0_ r ∧ Below w.heap.size w w' := by
  have HR0 := Aside0.mk hr0
  have HC0 := Aside0.mk hc0
  clear hr0 hc0
  have HR1 := Aside0.mk hr1
  have HC1 := Aside0.mk hc1
  clear hr1 hc1
  have HB := Aside0.mk (Below.refl w.heap.size w)
  have H : (if (l0.length : Int) < (l1.length : Int) then (if 0 ≤ (wrap64 ((l1.length : Int) + 1)) then (if (wrap64 ((l1.length : Int) + 1) : Int).toNat ≤ 35184372088832 then (nat_sum.l0 k l1 l0 (List.replicate (wrap64 ((l1.length : Int) + 1) : Int).toNat 0) 0 (l1.length : Int) 0) else (none)) else (none)) else (if 0 ≤ (wrap64 ((l0.length : Int) + 1)) then (if (wrap64 ((l0.length : Int) + 1) : Int).toNat ≤ 35184372088832 then (nat_sum.l51 k l0 l1 (List.replicate (wrap64 ((l0.length : Int) + 1) : Int).toNat 0) 0 (l0.length : Int) 0) else (none)) else (none))) = some r := h
  clear h
  by_cases c3 : (l0.length : Int) < (l1.length : Int)
  · rw [if_pos c3] at H
    have c3b0 : decide ((l0.length : Int) < (l1.length : Int)) = true := decide_eq_true c3
    have c3b1 : decide (l0.length < l1.length) = true := decide_eq_true (Int.ofNat_lt.mp c3)
    clear c3
    obtain ⟨ji4, hji4⟩ : ∃ j_ : Int, (wrap64 ((l1.length : Int) + 1)) = j_ := ⟨_, rfl⟩
    replace H : (if 0 ≤ (ji4) then (if (ji4 : Int).toNat ≤ 35184372088832 then (nat_sum.l0 k l1 l0 (List.replicate (ji4 : Int).toNat 0) 0 (l1.length : Int) 0) else (none)) else (none)) = some r := by first | (rw [hji4] at H; exact H) | (simp only [hji4] at H ⊢; exact H)
    have hji4w : (IntKind.i64.wrap ((l1.length : Int) + 1)) = ji4 := (i64_w _).trans hji4
    by_cases c5 : 0 ≤ (ji4)
    · rw [if_pos c5] at H
      have c5b0 := eq_true c5
      have c5b1 : decide (0 ≤ (ji4)) = true := decide_eq_true c5
      clear c5
      by_cases c6 : (ji4 : Int).toNat ≤ 35184372088832
      · rw [if_pos c6] at H
        have c6b0 := eq_true c6
        have c6b1 : decide ((ji4 : Int).toNat ≤ 35184372088832) = true := decide_eq_true c6
        clear c6
        obtain ⟨y113, hy113⟩ : ∃ y_ : List Int, y_ = (List.replicate (ji4 : Int).toNat 0) := ⟨_, rfl⟩
        replace H : (nat_sum.l0 k l1 l0 y113 0 (l1.length : Int) 0) = some r := by first | (rw [hy113]; with_reducible exact H) | (have H2_ := (Option.bind_some _ _).symm.trans H; rw [hy113]; with_reducible exact H2_) | (have H2_ := (Option.bind_some _ _).symm.trans H; with_reducible exact H2_) | with_reducible exact H | (rw [hy113]; exact H) | exact H
        have Ny113 := Aside0.mk hy113
        clear hy113
        have H' := Aside0.mk H
        clear H
        go_enter Try.func30, Try.ntmps30
        go_wp2_with (first | ((with_reducible refine gate_dst (N := 19) rfl ?_); refine Kd.R_make (Kd.int .u64) _ 29 rfl (N := 19) rfl 23 _ _ rfl ji4 rfl rfl Try.underlying23 (.int .u64 0) 8 info29 rfl (by decide) (by omega) 0 (ok := fun _ => True) (okp := fun _ => True) rfl (fun _ hk => hk) trivial (of_decide_eq_true (by first | (with_reducible assumption) | assumption)) (Nat.le_trans (Nat.mul_le_mul_right _ (of_decide_eq_true (by first | (with_reducible assumption) | assumption) : ji4.toNat ≤ 35184372088832)) (by omega)) (Below.refl _ _) (Nat.le_refl _) ?_; intro v114 w7 ho8 hb hg_ hnew_; clear hg_ hnew_; (first | rw [← Ny113.out] at ho8 | (simp only [Int.reduceToNat] at ho8; rw [← Ny113.out] at ho8)); have n0_ := Aside0.mk (Kd.R_lower ho8 (below_size (by repeat (first | (with_reducible first | exact HB.out | apply below_alloc | apply pw_below_drewN | apply below_drew1) | exact HB.out)))); have n1_ := Aside0.mk (below_step (by repeat (first | (with_reducible first | exact HB.out | apply below_alloc | apply pw_below_drewN | apply below_drew1) | exact HB.out)) hb); clear HB; have HO115 := n0_; have HB := n1_; clear n0_ n1_; clear hb ho8))
        go_loopg [6, 22] k (fun kq v6 v22 w' => ∃ (x5_1 : List Int) (x6_1 : Int) (x22_1 : Int), v6 = .int .u64 x6_1 ∧ v22 = .int .i64 x22_1 ∧ Aside0 (nat_sum.l0 kq l1 l0 x5_1 x6_1 (l1.length : Int) x22_1 = some r) ∧ Aside0 (kq ≤ k) ∧ Aside0 (Kd.R (Kd.int .u64) 29 w' w.heap.size (fun _ => True) v114 x5_1) ∧ Aside0 (Below w.heap.size w w'))
        case atStart => exact ⟨(y113), (0), (0), (by first | rfl | (simp; done) | (simp [*]; done)), (by first | rfl | (simp; done) | (simp [*]; done)), H', ⟨Nat.le_refl _⟩, ⟨by (with_reducible repeat (first | apply Kd.R_alloc | apply Kd.R_drewN | apply Kd.R_drew)); exact HO115.out⟩, ⟨by repeat (first | (with_reducible first | exact HB.out | apply below_alloc | apply pw_below_drewN | apply below_drew1) | exact HB.out)⟩⟩
        case round =>
          clear H'
          try clear c1
          try clear p2
          try clear c3
          try clear c3b0
          try clear c3b1
          try clear c5
          try clear c5b0
          try clear c5b1
          try clear c6
          try clear c6b0
          try clear c6b1
          try clear p6
          obtain ⟨x5_1, x6_1, x22_1, rfl, rfl, HA, HK1, HO_5, HB⟩ := hrel
          cases gk with
          | zero => exact absurd HA.out (by simp [nat_sum.l0])
          | succ k1 =>
            have H := HA.out
            clear HA
            simp only [nat_sum.l0] at H
            by_cases c9 : x22_1 < (l1.length : Int)
            · rw [if_pos c9] at H
              have c9b0 : decide (x22_1 < (l1.length : Int)) = true := decide_eq_true c9
              clear c9
              by_cases c10 : x22_1 < (l0.length : Int)
              · rw [if_pos c10] at H
                have c10b0 : decide (x22_1 < (l0.length : Int)) = true := decide_eq_true c10
                clear c10
                by_cases c11 : 0 ≤ x22_1
                · rw [if_pos c11] at H
                  have c11b0 : decide (0 ≤ x22_1) = true := decide_eq_true c11
                  clear c11
                  by_cases c12 : x22_1 < (l1.length : Int)
                  · rw [if_pos c12] at H
                    have c12b0 : decide (x22_1 < (l1.length : Int)) = true := decide_eq_true c12
                    clear c12
                    by_cases c13 : carry01 x6_1 = true
                    · rw [if_pos c13] at H
                      have c13b0 : carry01 x6_1 = true := c13
                      clear c13
                      by_cases c14 : x22_1 < (x5_1.length : Int)
                      · rw [if_pos c14] at H
                        have c14b0 : decide (x22_1 < (x5_1.length : Int)) = true := decide_eq_true c14
                        clear c14
                        obtain ⟨y118, hy118⟩ : ∃ y_ : List Int, y_ = (x5_1.set (x22_1 : Int).toNat (add64_s (rd l1 x22_1) (rd l0 x22_1) x6_1)) := ⟨_, rfl⟩
                        replace H : (nat_sum.l0 k1 l1 l0 y118 (add64_c (rd l1 x22_1) (rd l0 x22_1) x6_1) (l1.length : Int) (wrap64 (x22_1 + 1))) = some r := by first | (rw [hy118]; with_reducible exact H) | (have H2_ := (Option.bind_some _ _).symm.trans H; rw [hy118]; with_reducible exact H2_) | (have H2_ := (Option.bind_some _ _).symm.trans H; with_reducible exact H2_) | with_reducible exact H | (rw [hy118]; exact H) | exact H
                        have Ny118 := Aside0.mk hy118
                        clear hy118
                        have H' := Aside0.mk H
                        clear H
                        have p116 : 0 ≤ (x22_1 : Int) := of_decide_eq_true (by first | (with_reducible assumption) | assumption)
                        have q116 : x22_1 < (l0.length : Int) := of_decide_eq_true (by first | (with_reducible assumption) | assumption)
                        obtain ⟨ad116, e116, hx116_0⟩ := Kd.at_int HR0.out x22_1 p116 q116
                        cases e116
                        replace hx116_0 := (HB.out.cell (World.block_lt_of_cell? w _ hx116_0)).trans hx116_0
                        replace p116 := eq_true p116
                        replace q116 := eq_true q116
                        have p117 : 0 ≤ (x22_1 : Int) := of_decide_eq_true (by first | (with_reducible assumption) | assumption)
                        have q117 : x22_1 < (l1.length : Int) := of_decide_eq_true (by first | (with_reducible assumption) | assumption)
                        obtain ⟨ad117, e117, hx117_0⟩ := Kd.at_int HR1.out x22_1 p117 q117
                        cases e117
                        replace hx117_0 := (HB.out.cell (World.block_lt_of_cell? w _ hx117_0)).trans hx117_0
                        replace p117 := eq_true p117
                        replace q117 := eq_true q117
                        have p15 : 0 ≤ (x22_1 : Int) := of_decide_eq_true (by first | (with_reducible assumption) | assumption)
                        have q15 : (x22_1 : Int) < ((x5_1.length : Int) : Int) := of_decide_eq_true (by first | (with_reducible assumption) | assumption)
                        obtain ⟨go15, co15, eo15, gb15, gl15, cl15, HG15⟩ := Kd.R_form HO_5.out (by omega)
                        (first | cases eo15 | (injection eo15 with ea_ en_ ec_; (first | subst ea_ | (injection ea_ with ea_; subst ea_)); subst ec_; clear en_))
                        have GB15 := Aside0.mk gb15
                        have GG15 := Aside0.mk HG15
                        clear gb15 gl15 HG15
                        obtain ⟨hx15_0, hf15_0⟩ := Kd.R_celln 0 HO_5.out (x22_1 : Int) p15 q15
                        replace p15 := eq_true p15
                        replace q15 := eq_true q15
                        have HP16 := Kd.R_putg HO_5.out (x22_1 : Int) (add64_s (rd l1 x22_1) (rd l0 x22_1) x6_1)
                        go_wp2_with (first | ((with_reducible refine gate_store (t := 29) (p := 45) rfl ?_); refine store_event (t := 29) (p := 45) (v := ?vo_w17) (w1 := (wr.setCell ⟨go15, (x22_1 : Int).toNat, none⟩ (.int .u64 (add64_s (rd l1 x22_1) (rd l0 x22_1) x6_1)))) ?hg ?ho ?hn ?hr ?_; (case ho => rfl); (case hg => rfl); (case hn => rfl); (case hr => first | (go_simp; done) | (go_simp; rfl) | (obtain ⟨hy_, hz_⟩ := Kd.R_celln 0 HO_5.out (x22_1 : Int) (of_decide_eq_true (by first | (with_reducible assumption) | assumption)) (of_decide_eq_true (by first | (with_reducible assumption) | assumption)); (try simp only [Go.IntWalk.toNatUp] at hy_ hz_); (try simp only [Int.reduceToNat, Int.toNat_zero, Int.toNat_ofNat] at hy_ hz_); first | (go_simp; done) | (go_simp; rfl))); intro w17 hw; have hg : wr.grownBy w17 (some go15) := (by rw [hw]; exact HP16.2); have hp_ : Kd.R (Kd.int .u64) 29 w17 w.heap.size (fun _ => True) (.slice (some ⟨go15, 0, none⟩) x5_1.length co15) y118 := (by rw [hw, Ny118.out]; exact HP16.1); clear HP16; have n0_ := Aside0.mk (hp_); have n1_ := Aside0.mk ((by rw [hw]; exact below_set (HB.out) GB15.out : Below w.heap.size w w17)); clear HO_5; clear HB; have HO_5 := n0_; have HB := n1_; clear n0_ n1_; clear hg hw hp_))
                        first | go_roundg k1 | ((try simp only [← hji4] at H'); simp only [← hji4]; go_roundg k1)
                        case measure => have := HK1.out; omega
                        case rel => first | exact ⟨(y118), (add64_c (rd l1 x22_1) (rd l0 x22_1) x6_1), (wrap64 (x22_1 + 1)), (by first | rfl | (simp; done) | (simp [*]; done)), (by first | rfl | (simp; done) | (simp [*]; done)), H', ⟨by have := HK1.out; omega⟩, ⟨by (with_reducible repeat (first | apply Kd.R_alloc | apply Kd.R_drewN | apply Kd.R_drew)); exact HO_5.out⟩, ⟨by repeat (first | (with_reducible first | exact HB.out | apply below_alloc | apply pw_below_drewN | apply below_drew1) | exact HB.out)⟩⟩ | (simp only [← hji4] at H'; exact ⟨(y118), (add64_c (rd l1 x22_1) (rd l0 x22_1) x6_1), (wrap64 (x22_1 + 1)), (by first | rfl | (simp; done) | (simp [*]; done)), (by first | rfl | (simp; done) | (simp [*]; done)), H', ⟨by have := HK1.out; omega⟩, ⟨by (with_reducible repeat (first | apply Kd.R_alloc | apply Kd.R_drewN | apply Kd.R_drew)); exact HO_5.out⟩, ⟨by repeat (first | (with_reducible first | exact HB.out | apply below_alloc | apply pw_below_drewN | apply below_drew1) | exact HB.out)⟩⟩)
                      · rw [if_neg c14] at H
                        exact absurd H (by simp)
                    · rw [if_neg c13] at H
                      exact absurd H (by simp)
                  · rw [if_neg c12] at H
                    exact absurd H (by simp)
                · rw [if_neg c11] at H
                  exact absurd H (by simp)
              · rw [if_neg c10] at H
                have c10b0 : decide (x22_1 < (l0.length : Int)) = false := decide_eq_false c10
                clear c10
                by_cases c18 : 0 ≤ x22_1
                · rw [if_pos c18] at H
                  have c18b0 : decide (0 ≤ x22_1) = true := decide_eq_true c18
                  clear c18
                  by_cases c19 : x22_1 < (l1.length : Int)
                  · rw [if_pos c19] at H
                    have c19b0 : decide (x22_1 < (l1.length : Int)) = true := decide_eq_true c19
                    clear c19
                    by_cases c20 : carry01 x6_1 = true
                    · rw [if_pos c20] at H
                      have c20b0 : carry01 x6_1 = true := c20
                      clear c20
                      by_cases c21 : x22_1 < (x5_1.length : Int)
                      · rw [if_pos c21] at H
                        have c21b0 : decide (x22_1 < (x5_1.length : Int)) = true := decide_eq_true c21
                        clear c21
                        obtain ⟨y120, hy120⟩ : ∃ y_ : List Int, y_ = (x5_1.set (x22_1 : Int).toNat (add64_s (rd l1 x22_1) 0 x6_1)) := ⟨_, rfl⟩
                        replace H : (nat_sum.l0 k1 l1 l0 y120 (add64_c (rd l1 x22_1) 0 x6_1) (l1.length : Int) (wrap64 (x22_1 + 1))) = some r := by first | (rw [hy120]; with_reducible exact H) | (have H2_ := (Option.bind_some _ _).symm.trans H; rw [hy120]; with_reducible exact H2_) | (have H2_ := (Option.bind_some _ _).symm.trans H; with_reducible exact H2_) | with_reducible exact H | (rw [hy120]; exact H) | exact H
                        have Ny120 := Aside0.mk hy120
                        clear hy120
                        have H' := Aside0.mk H
                        clear H
                        have p119 : 0 ≤ (x22_1 : Int) := of_decide_eq_true (by first | (with_reducible assumption) | assumption)
                        have q119 : x22_1 < (l1.length : Int) := of_decide_eq_true (by first | (with_reducible assumption) | assumption)
                        obtain ⟨ad119, e119, hx119_0⟩ := Kd.at_int HR1.out x22_1 p119 q119
                        cases e119
                        replace hx119_0 := (HB.out.cell (World.block_lt_of_cell? w _ hx119_0)).trans hx119_0
                        replace p119 := eq_true p119
                        replace q119 := eq_true q119
                        have p22 : 0 ≤ (x22_1 : Int) := of_decide_eq_true (by first | (with_reducible assumption) | assumption)
                        have q22 : (x22_1 : Int) < ((x5_1.length : Int) : Int) := of_decide_eq_true (by first | (with_reducible assumption) | assumption)
                        obtain ⟨go22, co22, eo22, gb22, gl22, cl22, HG22⟩ := Kd.R_form HO_5.out (by omega)
                        (first | cases eo22 | (injection eo22 with ea_ en_ ec_; (first | subst ea_ | (injection ea_ with ea_; subst ea_)); subst ec_; clear en_))
                        have GB22 := Aside0.mk gb22
                        have GG22 := Aside0.mk HG22
                        clear gb22 gl22 HG22
                        obtain ⟨hx22_0, hf22_0⟩ := Kd.R_celln 0 HO_5.out (x22_1 : Int) p22 q22
                        replace p22 := eq_true p22
                        replace q22 := eq_true q22
                        have HP23 := Kd.R_putg HO_5.out (x22_1 : Int) (add64_s (rd l1 x22_1) 0 x6_1)
                        go_wp2_with (first | ((with_reducible refine gate_store (t := 29) (p := 45) rfl ?_); refine store_event (t := 29) (p := 45) (v := ?vo_w24) (w1 := (wr.setCell ⟨go22, (x22_1 : Int).toNat, none⟩ (.int .u64 (add64_s (rd l1 x22_1) 0 x6_1)))) ?hg ?ho ?hn ?hr ?_; (case ho => rfl); (case hg => rfl); (case hn => rfl); (case hr => first | (go_simp; done) | (go_simp; rfl) | (obtain ⟨hy_, hz_⟩ := Kd.R_celln 0 HO_5.out (x22_1 : Int) (of_decide_eq_true (by first | (with_reducible assumption) | assumption)) (of_decide_eq_true (by first | (with_reducible assumption) | assumption)); (try simp only [Go.IntWalk.toNatUp] at hy_ hz_); (try simp only [Int.reduceToNat, Int.toNat_zero, Int.toNat_ofNat] at hy_ hz_); first | (go_simp; done) | (go_simp; rfl))); intro w24 hw; have hg : wr.grownBy w24 (some go22) := (by rw [hw]; exact HP23.2); have hp_ : Kd.R (Kd.int .u64) 29 w24 w.heap.size (fun _ => True) (.slice (some ⟨go22, 0, none⟩) x5_1.length co22) y120 := (by rw [hw, Ny120.out]; exact HP23.1); clear HP23; have n0_ := Aside0.mk (hp_); have n1_ := Aside0.mk ((by rw [hw]; exact below_set (HB.out) GB22.out : Below w.heap.size w w24)); clear HO_5; clear HB; have HO_5 := n0_; have HB := n1_; clear n0_ n1_; clear hg hw hp_))
                        first | go_roundg k1 | ((try simp only [← hji4] at H'); simp only [← hji4]; go_roundg k1)
                        case measure => have := HK1.out; omega
                        case rel => first | exact ⟨(y120), (add64_c (rd l1 x22_1) 0 x6_1), (wrap64 (x22_1 + 1)), (by first | rfl | (simp; done) | (simp [*]; done)), (by first | rfl | (simp; done) | (simp [*]; done)), H', ⟨by have := HK1.out; omega⟩, ⟨by (with_reducible repeat (first | apply Kd.R_alloc | apply Kd.R_drewN | apply Kd.R_drew)); exact HO_5.out⟩, ⟨by repeat (first | (with_reducible first | exact HB.out | apply below_alloc | apply pw_below_drewN | apply below_drew1) | exact HB.out)⟩⟩ | (simp only [← hji4] at H'; exact ⟨(y120), (add64_c (rd l1 x22_1) 0 x6_1), (wrap64 (x22_1 + 1)), (by first | rfl | (simp; done) | (simp [*]; done)), (by first | rfl | (simp; done) | (simp [*]; done)), H', ⟨by have := HK1.out; omega⟩, ⟨by (with_reducible repeat (first | apply Kd.R_alloc | apply Kd.R_drewN | apply Kd.R_drew)); exact HO_5.out⟩, ⟨by repeat (first | (with_reducible first | exact HB.out | apply below_alloc | apply pw_below_drewN | apply below_drew1) | exact HB.out)⟩⟩)
                      · rw [if_neg c21] at H
                        exact absurd H (by simp)
                    · rw [if_neg c20] at H
                      exact absurd H (by simp)
                  · rw [if_neg c19] at H
                    exact absurd H (by simp)
                · rw [if_neg c18] at H
                  exact absurd H (by simp)
            · rw [if_neg c9] at H
              have c9b0 : decide (x22_1 < (l1.length : Int)) = false := decide_eq_false c9
              clear c9
              by_cases c25 : 0 ≤ (l1.length : Int)
              · rw [if_pos c25] at H
                have c25b0 : decide (0 ≤ (l1.length : Int)) = true := decide_eq_true c25
                have c25b1 : decide (0 ≤ l1.length) = true := decide_eq_true (by omega)
                clear c25
                by_cases c26 : (l1.length : Int) < (x5_1.length : Int)
                · rw [if_pos c26] at H
                  have c26b0 : decide ((l1.length : Int) < (x5_1.length : Int)) = true := decide_eq_true c26
                  have c26b1 : decide (l1.length < x5_1.length) = true := decide_eq_true (Int.ofNat_lt.mp c26)
                  clear c26
                  obtain ⟨y121, hy121⟩ : ∃ y_ : List Int, y_ = (x5_1.set ((l1.length : Int) : Int).toNat x6_1) := ⟨_, rfl⟩
                  replace H : (some y121) = some r := by first | (rw [hy121]; with_reducible exact H) | (have H2_ := (Option.bind_some _ _).symm.trans H; rw [hy121]; with_reducible exact H2_) | (have H2_ := (Option.bind_some _ _).symm.trans H; with_reducible exact H2_) | with_reducible exact H | (rw [hy121]; exact H) | exact H
                  have Ny121 := Aside0.mk hy121
                  clear hy121
                  obtain rfl := Option.some.inj H
                  have p27 : 0 ≤ ((l1.length : Int) : Int) := of_decide_eq_true (by first | (with_reducible assumption) | assumption)
                  have q27 : ((l1.length : Int) : Int) < ((x5_1.length : Int) : Int) := of_decide_eq_true (by first | (with_reducible assumption) | assumption)
                  obtain ⟨go27, co27, eo27, gb27, gl27, cl27, HG27⟩ := Kd.R_form HO_5.out (by omega)
                  (first | cases eo27 | (injection eo27 with ea_ en_ ec_; (first | subst ea_ | (injection ea_ with ea_; subst ea_)); subst ec_; clear en_))
                  have GB27 := Aside0.mk gb27
                  have GG27 := Aside0.mk HG27
                  clear gb27 gl27 HG27
                  obtain ⟨hx27_0, hf27_0⟩ := Kd.R_celln 0 HO_5.out ((l1.length : Int) : Int) p27 q27
                  (try simp only [Go.IntWalk.toNatUp] at hx27_0 hf27_0)
                  replace p27 := eq_true p27
                  replace q27 := eq_true q27
                  have HP28 := Kd.R_putg HO_5.out ((l1.length : Int) : Int) x6_1
                  go_wp2_with (first | ((with_reducible refine gate_store (t := 29) (p := 51) rfl ?_); refine store_event (t := 29) (p := 51) (v := ?vo_w29) (w1 := (wr.setCell ⟨go27, ((l1.length : Int) : Int).toNat, none⟩ (.int .u64 x6_1))) ?hg ?ho ?hn ?hr ?_; (case ho => rfl); (case hg => rfl); (case hn => rfl); (case hr => first | (go_simp; done) | (go_simp; rfl) | (obtain ⟨hy_, hz_⟩ := Kd.R_celln 0 HO_5.out ((l1.length : Int) : Int) (of_decide_eq_true (by first | (with_reducible assumption) | assumption)) (of_decide_eq_true (by first | (with_reducible assumption) | assumption)); (try simp only [Go.IntWalk.toNatUp] at hy_ hz_); (try simp only [Int.reduceToNat, Int.toNat_zero, Int.toNat_ofNat] at hy_ hz_); first | (go_simp; done) | (go_simp; rfl))); intro w29 hw; have hg : wr.grownBy w29 (some go27) := (by rw [hw]; exact HP28.2); have hp_ : Kd.R (Kd.int .u64) 29 w29 w.heap.size (fun _ => True) (.slice (some ⟨go27, 0, none⟩) x5_1.length co27) y121 := (by rw [hw, Ny121.out]; exact HP28.1); clear HP28; have n0_ := Aside0.mk (hp_); have n1_ := Aside0.mk ((by rw [hw]; exact below_set (HB.out) GB27.out : Below w.heap.size w w29)); clear HO_5; clear HB; have HO_5 := n0_; have HB := n1_; clear n0_ n1_; clear hg hw hp_))
                  go_ret
                  exact ⟨_, by first | rfl | (simp [errW_none, errW_some] <;> rfl) | (simp only [← hji4]; first | rfl | (simp [errW_none, errW_some] <;> rfl)) | (simp [*, errW_none, errW_some] <;> rfl), by (with_reducible repeat (first | apply Kd.R_alloc | apply Kd.R_drewN | apply Kd.R_drew)); exact HO_5.out, by repeat (first | (with_reducible first | exact HB.out | apply below_alloc | apply pw_below_drewN | apply below_drew1) | exact HB.out)⟩
                · rw [if_neg c26] at H
                  exact absurd H (by simp)
              · rw [if_neg c25] at H
                exact absurd H (by simp)
      · rw [if_neg c6] at H
        exact absurd H (by simp)
    · rw [if_neg c5] at H
      exact absurd H (by simp)
  · rw [if_neg c3] at H
    have c3b0 : decide ((l0.length : Int) < (l1.length : Int)) = false := decide_eq_false c3
    have c3b1 : decide (l0.length < l1.length) = false := decide_eq_false (fun h => c3 (Int.ofNat_lt.mpr h))
    clear c3
    obtain ⟨ji30, hji30⟩ : ∃ j_ : Int, (wrap64 ((l0.length : Int) + 1)) = j_ := ⟨_, rfl⟩
    replace H : (if 0 ≤ (ji30) then (if (ji30 : Int).toNat ≤ 35184372088832 then (nat_sum.l51 k l0 l1 (List.replicate (ji30 : Int).toNat 0) 0 (l0.length : Int) 0) else (none)) else (none)) = some r := by first | (rw [hji30] at H; exact H) | (simp only [hji30] at H ⊢; exact H)
    have hji30w : (IntKind.i64.wrap ((l0.length : Int) + 1)) = ji30 := (i64_w _).trans hji30
    by_cases c31 : 0 ≤ (ji30)
    · rw [if_pos c31] at H
      have c31b0 := eq_true c31
      have c31b1 : decide (0 ≤ (ji30)) = true := decide_eq_true c31
      clear c31
      by_cases c32 : (ji30 : Int).toNat ≤ 35184372088832
      · rw [if_pos c32] at H
        have c32b0 := eq_true c32
        have c32b1 : decide ((ji30 : Int).toNat ≤ 35184372088832) = true := decide_eq_true c32
        clear c32
        obtain ⟨y122, hy122⟩ : ∃ y_ : List Int, y_ = (List.replicate (ji30 : Int).toNat 0) := ⟨_, rfl⟩
        replace H : (nat_sum.l51 k l0 l1 y122 0 (l0.length : Int) 0) = some r := by first | (rw [hy122]; with_reducible exact H) | (have H2_ := (Option.bind_some _ _).symm.trans H; rw [hy122]; with_reducible exact H2_) | (have H2_ := (Option.bind_some _ _).symm.trans H; with_reducible exact H2_) | with_reducible exact H | (rw [hy122]; exact H) | exact H
        have Ny122 := Aside0.mk hy122
        clear hy122
        have H' := Aside0.mk H
        clear H
        go_enter Try.func30, Try.ntmps30
        go_wp2_with (first | ((with_reducible refine gate_dst (N := 19) rfl ?_); refine Kd.R_make (Kd.int .u64) _ 29 rfl (N := 19) rfl 23 _ _ rfl ji30 rfl rfl Try.underlying23 (.int .u64 0) 8 info29 rfl (by decide) (by omega) 0 (ok := fun _ => True) (okp := fun _ => True) rfl (fun _ hk => hk) trivial (of_decide_eq_true (by first | (with_reducible assumption) | assumption)) (Nat.le_trans (Nat.mul_le_mul_right _ (of_decide_eq_true (by first | (with_reducible assumption) | assumption) : ji30.toNat ≤ 35184372088832)) (by omega)) (Below.refl _ _) (Nat.le_refl _) ?_; intro v123 w33 ho34 hb hg_ hnew_; clear hg_ hnew_; (first | rw [← Ny122.out] at ho34 | (simp only [Int.reduceToNat] at ho34; rw [← Ny122.out] at ho34)); have n0_ := Aside0.mk (Kd.R_lower ho34 (below_size (by repeat (first | (with_reducible first | exact HB.out | apply below_alloc | apply pw_below_drewN | apply below_drew1) | exact HB.out)))); have n1_ := Aside0.mk (below_step (by repeat (first | (with_reducible first | exact HB.out | apply below_alloc | apply pw_below_drewN | apply below_drew1) | exact HB.out)) hb); clear HB; have HO124 := n0_; have HB := n1_; clear n0_ n1_; clear hb ho34))
        go_loopg [6, 22] k (fun kq v6 v22 w' => ∃ (x5_1 : List Int) (x6_1 : Int) (x22_1 : Int), v6 = .int .u64 x6_1 ∧ v22 = .int .i64 x22_1 ∧ Aside0 (nat_sum.l51 kq l0 l1 x5_1 x6_1 (l0.length : Int) x22_1 = some r) ∧ Aside0 (kq ≤ k) ∧ Aside0 (Kd.R (Kd.int .u64) 29 w' w.heap.size (fun _ => True) v123 x5_1) ∧ Aside0 (Below w.heap.size w w'))
        case atStart => exact ⟨(y122), (0), (0), (by first | rfl | (simp; done) | (simp [*]; done)), (by first | rfl | (simp; done) | (simp [*]; done)), H', ⟨Nat.le_refl _⟩, ⟨by (with_reducible repeat (first | apply Kd.R_alloc | apply Kd.R_drewN | apply Kd.R_drew)); exact HO124.out⟩, ⟨by repeat (first | (with_reducible first | exact HB.out | apply below_alloc | apply pw_below_drewN | apply below_drew1) | exact HB.out)⟩⟩
        case round =>
          clear H'
          try clear c1
          try clear p1
          try clear q1
          try clear hx1
          try clear c2
          try clear p2
          try clear q2
          try clear hx2
          try clear hf2
          try clear c3
          try clear c3b0
          try clear c3b1
          try clear c5
          try clear c5b0
          try clear c5b1
          try clear c6
          try clear c6b0
          try clear c6b1
          try clear p6
          try clear c9
          try clear c9b0
          try clear c10
          try clear c10b0
          try clear c11
          try clear c11b0
          try clear p11
          try clear q11
          try clear hx11
          try clear c12
          try clear c12b0
          try clear c13
          try clear c13b0
          try clear c14
          try clear c14b0
          try clear p15
          try clear q15
          try clear hx15
          try clear hf15
          try clear c18
          try clear c18b0
          try clear c19
          try clear c19b0
          try clear c20
          try clear c20b0
          try clear c21
          try clear c21b0
          try clear p22
          try clear q22
          try clear hx22
          try clear hf22
          try clear c25
          try clear c25b0
          try clear c25b1
          try clear c26
          try clear c26b0
          try clear c26b1
          try clear p27
          try clear q27
          try clear hx27
          try clear hf27
          try clear c30
          try clear c31
          try clear c31b0
          try clear c31b1
          try clear c32
          try clear c32b0
          try clear c32b1
          try clear hx116_0
          try clear hx117_0
          try clear hx119_0
          try clear hx15_0
          try clear hx22_0
          try clear hx27_0
          try clear p116
          try clear p117
          try clear p119
          try clear p15
          try clear p2
          try clear p22
          try clear p27
          try clear p6
          try clear q116
          try clear q117
          try clear q119
          try clear q15
          try clear q22
          try clear q27
          obtain ⟨x5_1, x6_1, x22_1, rfl, rfl, HA, HK1, HO_5, HB⟩ := hrel
          cases gk with
          | zero => exact absurd HA.out (by simp [nat_sum.l51])
          | succ k1 =>
            have H := HA.out
            clear HA
            simp only [nat_sum.l51] at H
            by_cases c35 : x22_1 < (l0.length : Int)
            · rw [if_pos c35] at H
              have c35b0 : decide (x22_1 < (l0.length : Int)) = true := decide_eq_true c35
              clear c35
              by_cases c36 : x22_1 < (l1.length : Int)
              · rw [if_pos c36] at H
                have c36b0 : decide (x22_1 < (l1.length : Int)) = true := decide_eq_true c36
                clear c36
                by_cases c37 : 0 ≤ x22_1
                · rw [if_pos c37] at H
                  have c37b0 : decide (0 ≤ x22_1) = true := decide_eq_true c37
                  clear c37
                  by_cases c38 : x22_1 < (l0.length : Int)
                  · rw [if_pos c38] at H
                    have c38b0 : decide (x22_1 < (l0.length : Int)) = true := decide_eq_true c38
                    clear c38
                    by_cases c39 : carry01 x6_1 = true
                    · rw [if_pos c39] at H
                      have c39b0 : carry01 x6_1 = true := c39
                      clear c39
                      by_cases c40 : x22_1 < (x5_1.length : Int)
                      · rw [if_pos c40] at H
                        have c40b0 : decide (x22_1 < (x5_1.length : Int)) = true := decide_eq_true c40
                        clear c40
                        obtain ⟨y127, hy127⟩ : ∃ y_ : List Int, y_ = (x5_1.set (x22_1 : Int).toNat (add64_s (rd l0 x22_1) (rd l1 x22_1) x6_1)) := ⟨_, rfl⟩
                        replace H : (nat_sum.l51 k1 l0 l1 y127 (add64_c (rd l0 x22_1) (rd l1 x22_1) x6_1) (l0.length : Int) (wrap64 (x22_1 + 1))) = some r := by first | (rw [hy127]; with_reducible exact H) | (have H2_ := (Option.bind_some _ _).symm.trans H; rw [hy127]; with_reducible exact H2_) | (have H2_ := (Option.bind_some _ _).symm.trans H; with_reducible exact H2_) | with_reducible exact H | (rw [hy127]; exact H) | exact H
                        have Ny127 := Aside0.mk hy127
                        clear hy127
                        have H' := Aside0.mk H
                        clear H
                        have p125 : 0 ≤ (x22_1 : Int) := of_decide_eq_true (by first | (with_reducible assumption) | assumption)
                        have q125 : x22_1 < (l1.length : Int) := of_decide_eq_true (by first | (with_reducible assumption) | assumption)
                        obtain ⟨ad125, e125, hx125_0⟩ := Kd.at_int HR1.out x22_1 p125 q125
                        cases e125
                        replace hx125_0 := (HB.out.cell (World.block_lt_of_cell? w _ hx125_0)).trans hx125_0
                        replace p125 := eq_true p125
                        replace q125 := eq_true q125
                        have p126 : 0 ≤ (x22_1 : Int) := of_decide_eq_true (by first | (with_reducible assumption) | assumption)
                        have q126 : x22_1 < (l0.length : Int) := of_decide_eq_true (by first | (with_reducible assumption) | assumption)
                        obtain ⟨ad126, e126, hx126_0⟩ := Kd.at_int HR0.out x22_1 p126 q126
                        cases e126
                        replace hx126_0 := (HB.out.cell (World.block_lt_of_cell? w _ hx126_0)).trans hx126_0
                        replace p126 := eq_true p126
                        replace q126 := eq_true q126
                        have p41 : 0 ≤ (x22_1 : Int) := of_decide_eq_true (by first | (with_reducible assumption) | assumption)
                        have q41 : (x22_1 : Int) < ((x5_1.length : Int) : Int) := of_decide_eq_true (by first | (with_reducible assumption) | assumption)
                        obtain ⟨go41, co41, eo41, gb41, gl41, cl41, HG41⟩ := Kd.R_form HO_5.out (by omega)
                        (first | cases eo41 | (injection eo41 with ea_ en_ ec_; (first | subst ea_ | (injection ea_ with ea_; subst ea_)); subst ec_; clear en_))
                        have GB41 := Aside0.mk gb41
                        have GG41 := Aside0.mk HG41
                        clear gb41 gl41 HG41
                        obtain ⟨hx41_0, hf41_0⟩ := Kd.R_celln 0 HO_5.out (x22_1 : Int) p41 q41
                        replace p41 := eq_true p41
                        replace q41 := eq_true q41
                        have HP42 := Kd.R_putg HO_5.out (x22_1 : Int) (add64_s (rd l0 x22_1) (rd l1 x22_1) x6_1)
                        go_wp2_with (first | ((with_reducible refine gate_store (t := 29) (p := 45) rfl ?_); refine store_event (t := 29) (p := 45) (v := ?vo_w43) (w1 := (wr.setCell ⟨go41, (x22_1 : Int).toNat, none⟩ (.int .u64 (add64_s (rd l0 x22_1) (rd l1 x22_1) x6_1)))) ?hg ?ho ?hn ?hr ?_; (case ho => rfl); (case hg => rfl); (case hn => rfl); (case hr => first | (go_simp; done) | (go_simp; rfl) | (obtain ⟨hy_, hz_⟩ := Kd.R_celln 0 HO_5.out (x22_1 : Int) (of_decide_eq_true (by first | (with_reducible assumption) | assumption)) (of_decide_eq_true (by first | (with_reducible assumption) | assumption)); (try simp only [Go.IntWalk.toNatUp] at hy_ hz_); (try simp only [Int.reduceToNat, Int.toNat_zero, Int.toNat_ofNat] at hy_ hz_); first | (go_simp; done) | (go_simp; rfl))); intro w43 hw; have hg : wr.grownBy w43 (some go41) := (by rw [hw]; exact HP42.2); have hp_ : Kd.R (Kd.int .u64) 29 w43 w.heap.size (fun _ => True) (.slice (some ⟨go41, 0, none⟩) x5_1.length co41) y127 := (by rw [hw, Ny127.out]; exact HP42.1); clear HP42; have n0_ := Aside0.mk (hp_); have n1_ := Aside0.mk ((by rw [hw]; exact below_set (HB.out) GB41.out : Below w.heap.size w w43)); clear HO_5; clear HB; have HO_5 := n0_; have HB := n1_; clear n0_ n1_; clear hg hw hp_))
                        first | go_roundg k1 | ((try simp only [← hji30] at H'); simp only [← hji30]; go_roundg k1) | ((try simp only [← hji4] at H'); simp only [← hji4]; go_roundg k1)
                        case measure => have := HK1.out; omega
                        case rel => first | exact ⟨(y127), (add64_c (rd l0 x22_1) (rd l1 x22_1) x6_1), (wrap64 (x22_1 + 1)), (by first | rfl | (simp; done) | (simp [*]; done)), (by first | rfl | (simp; done) | (simp [*]; done)), H', ⟨by have := HK1.out; omega⟩, ⟨by (with_reducible repeat (first | apply Kd.R_alloc | apply Kd.R_drewN | apply Kd.R_drew)); exact HO_5.out⟩, ⟨by repeat (first | (with_reducible first | exact HB.out | apply below_alloc | apply pw_below_drewN | apply below_drew1) | exact HB.out)⟩⟩ | (simp only [← hji30] at H'; exact ⟨(y127), (add64_c (rd l0 x22_1) (rd l1 x22_1) x6_1), (wrap64 (x22_1 + 1)), (by first | rfl | (simp; done) | (simp [*]; done)), (by first | rfl | (simp; done) | (simp [*]; done)), H', ⟨by have := HK1.out; omega⟩, ⟨by (with_reducible repeat (first | apply Kd.R_alloc | apply Kd.R_drewN | apply Kd.R_drew)); exact HO_5.out⟩, ⟨by repeat (first | (with_reducible first | exact HB.out | apply below_alloc | apply pw_below_drewN | apply below_drew1) | exact HB.out)⟩⟩) | (simp only [← hji4] at H'; exact ⟨(y127), (add64_c (rd l0 x22_1) (rd l1 x22_1) x6_1), (wrap64 (x22_1 + 1)), (by first | rfl | (simp; done) | (simp [*]; done)), (by first | rfl | (simp; done) | (simp [*]; done)), H', ⟨by have := HK1.out; omega⟩, ⟨by (with_reducible repeat (first | apply Kd.R_alloc | apply Kd.R_drewN | apply Kd.R_drew)); exact HO_5.out⟩, ⟨by repeat (first | (with_reducible first | exact HB.out | apply below_alloc | apply pw_below_drewN | apply below_drew1) | exact HB.out)⟩⟩)
                      · rw [if_neg c40] at H
                        exact absurd H (by simp)
                    · rw [if_neg c39] at H
                      exact absurd H (by simp)
                  · rw [if_neg c38] at H
                    exact absurd H (by simp)
                · rw [if_neg c37] at H
                  exact absurd H (by simp)
              · rw [if_neg c36] at H
                have c36b0 : decide (x22_1 < (l1.length : Int)) = false := decide_eq_false c36
                clear c36
                by_cases c44 : 0 ≤ x22_1
                · rw [if_pos c44] at H
                  have c44b0 : decide (0 ≤ x22_1) = true := decide_eq_true c44
                  clear c44
                  by_cases c45 : x22_1 < (l0.length : Int)
                  · rw [if_pos c45] at H
                    have c45b0 : decide (x22_1 < (l0.length : Int)) = true := decide_eq_true c45
                    clear c45
                    by_cases c46 : carry01 x6_1 = true
                    · rw [if_pos c46] at H
                      have c46b0 : carry01 x6_1 = true := c46
                      clear c46
                      by_cases c47 : x22_1 < (x5_1.length : Int)
                      · rw [if_pos c47] at H
                        have c47b0 : decide (x22_1 < (x5_1.length : Int)) = true := decide_eq_true c47
                        clear c47
                        obtain ⟨y129, hy129⟩ : ∃ y_ : List Int, y_ = (x5_1.set (x22_1 : Int).toNat (add64_s (rd l0 x22_1) 0 x6_1)) := ⟨_, rfl⟩
                        replace H : (nat_sum.l51 k1 l0 l1 y129 (add64_c (rd l0 x22_1) 0 x6_1) (l0.length : Int) (wrap64 (x22_1 + 1))) = some r := by first | (rw [hy129]; with_reducible exact H) | (have H2_ := (Option.bind_some _ _).symm.trans H; rw [hy129]; with_reducible exact H2_) | (have H2_ := (Option.bind_some _ _).symm.trans H; with_reducible exact H2_) | with_reducible exact H | (rw [hy129]; exact H) | exact H
                        have Ny129 := Aside0.mk hy129
                        clear hy129
                        have H' := Aside0.mk H
                        clear H
                        have p128 : 0 ≤ (x22_1 : Int) := of_decide_eq_true (by first | (with_reducible assumption) | assumption)
                        have q128 : x22_1 < (l0.length : Int) := of_decide_eq_true (by first | (with_reducible assumption) | assumption)
                        obtain ⟨ad128, e128, hx128_0⟩ := Kd.at_int HR0.out x22_1 p128 q128
                        cases e128
                        replace hx128_0 := (HB.out.cell (World.block_lt_of_cell? w _ hx128_0)).trans hx128_0
                        replace p128 := eq_true p128
                        replace q128 := eq_true q128
                        have p48 : 0 ≤ (x22_1 : Int) := of_decide_eq_true (by first | (with_reducible assumption) | assumption)
                        have q48 : (x22_1 : Int) < ((x5_1.length : Int) : Int) := of_decide_eq_true (by first | (with_reducible assumption) | assumption)
                        obtain ⟨go48, co48, eo48, gb48, gl48, cl48, HG48⟩ := Kd.R_form HO_5.out (by omega)
                        (first | cases eo48 | (injection eo48 with ea_ en_ ec_; (first | subst ea_ | (injection ea_ with ea_; subst ea_)); subst ec_; clear en_))
                        have GB48 := Aside0.mk gb48
                        have GG48 := Aside0.mk HG48
                        clear gb48 gl48 HG48
                        obtain ⟨hx48_0, hf48_0⟩ := Kd.R_celln 0 HO_5.out (x22_1 : Int) p48 q48
                        replace p48 := eq_true p48
                        replace q48 := eq_true q48
                        have HP49 := Kd.R_putg HO_5.out (x22_1 : Int) (add64_s (rd l0 x22_1) 0 x6_1)
                        go_wp2_with (first | ((with_reducible refine gate_store (t := 29) (p := 45) rfl ?_); refine store_event (t := 29) (p := 45) (v := ?vo_w50) (w1 := (wr.setCell ⟨go48, (x22_1 : Int).toNat, none⟩ (.int .u64 (add64_s (rd l0 x22_1) 0 x6_1)))) ?hg ?ho ?hn ?hr ?_; (case ho => rfl); (case hg => rfl); (case hn => rfl); (case hr => first | (go_simp; done) | (go_simp; rfl) | (obtain ⟨hy_, hz_⟩ := Kd.R_celln 0 HO_5.out (x22_1 : Int) (of_decide_eq_true (by first | (with_reducible assumption) | assumption)) (of_decide_eq_true (by first | (with_reducible assumption) | assumption)); (try simp only [Go.IntWalk.toNatUp] at hy_ hz_); (try simp only [Int.reduceToNat, Int.toNat_zero, Int.toNat_ofNat] at hy_ hz_); first | (go_simp; done) | (go_simp; rfl))); intro w50 hw; have hg : wr.grownBy w50 (some go48) := (by rw [hw]; exact HP49.2); have hp_ : Kd.R (Kd.int .u64) 29 w50 w.heap.size (fun _ => True) (.slice (some ⟨go48, 0, none⟩) x5_1.length co48) y129 := (by rw [hw, Ny129.out]; exact HP49.1); clear HP49; have n0_ := Aside0.mk (hp_); have n1_ := Aside0.mk ((by rw [hw]; exact below_set (HB.out) GB48.out : Below w.heap.size w w50)); clear HO_5; clear HB; have HO_5 := n0_; have HB := n1_; clear n0_ n1_; clear hg hw hp_))
                        first | go_roundg k1 | ((try simp only [← hji30] at H'); simp only [← hji30]; go_roundg k1) | ((try simp only [← hji4] at H'); simp only [← hji4]; go_roundg k1)
                        case measure => have := HK1.out; omega
                        case rel => first | exact ⟨(y129), (add64_c (rd l0 x22_1) 0 x6_1), (wrap64 (x22_1 + 1)), (by first | rfl | (simp; done) | (simp [*]; done)), (by first | rfl | (simp; done) | (simp [*]; done)), H', ⟨by have := HK1.out; omega⟩, ⟨by (with_reducible repeat (first | apply Kd.R_alloc | apply Kd.R_drewN | apply Kd.R_drew)); exact HO_5.out⟩, ⟨by repeat (first | (with_reducible first | exact HB.out | apply below_alloc | apply pw_below_drewN | apply below_drew1) | exact HB.out)⟩⟩ | (simp only [← hji30] at H'; exact ⟨(y129), (add64_c (rd l0 x22_1) 0 x6_1), (wrap64 (x22_1 + 1)), (by first | rfl | (simp; done) | (simp [*]; done)), (by first | rfl | (simp; done) | (simp [*]; done)), H', ⟨by have := HK1.out; omega⟩, ⟨by (with_reducible repeat (first | apply Kd.R_alloc | apply Kd.R_drewN | apply Kd.R_drew)); exact HO_5.out⟩, ⟨by repeat (first | (with_reducible first | exact HB.out | apply below_alloc | apply pw_below_drewN | apply below_drew1) | exact HB.out)⟩⟩) | (simp only [← hji4] at H'; exact ⟨(y129), (add64_c (rd l0 x22_1) 0 x6_1), (wrap64 (x22_1 + 1)), (by first | rfl | (simp; done) | (simp [*]; done)), (by first | rfl | (simp; done) | (simp [*]; done)), H', ⟨by have := HK1.out; omega⟩, ⟨by (with_reducible repeat (first | apply Kd.R_alloc | apply Kd.R_drewN | apply Kd.R_drew)); exact HO_5.out⟩, ⟨by repeat (first | (with_reducible first | exact HB.out | apply below_alloc | apply pw_below_drewN | apply below_drew1) | exact HB.out)⟩⟩)
                      · rw [if_neg c47] at H
                        exact absurd H (by simp)
                    · rw [if_neg c46] at H
                      exact absurd H (by simp)
                  · rw [if_neg c45] at H
                    exact absurd H (by simp)
                · rw [if_neg c44] at H
                  exact absurd H (by simp)
            · rw [if_neg c35] at H
              have c35b0 : decide (x22_1 < (l0.length : Int)) = false := decide_eq_false c35
              clear c35
              by_cases c51 : 0 ≤ (l0.length : Int)
              · rw [if_pos c51] at H
                have c51b0 : decide (0 ≤ (l0.length : Int)) = true := decide_eq_true c51
                have c51b1 : decide (0 ≤ l0.length) = true := decide_eq_true (by omega)
                clear c51
                by_cases c52 : (l0.length : Int) < (x5_1.length : Int)
                · rw [if_pos c52] at H
                  have c52b0 : decide ((l0.length : Int) < (x5_1.length : Int)) = true := decide_eq_true c52
                  have c52b1 : decide (l0.length < x5_1.length) = true := decide_eq_true (Int.ofNat_lt.mp c52)
                  clear c52
                  obtain ⟨y130, hy130⟩ : ∃ y_ : List Int, y_ = (x5_1.set ((l0.length : Int) : Int).toNat x6_1) := ⟨_, rfl⟩
                  replace H : (some y130) = some r := by first | (rw [hy130]; with_reducible exact H) | (have H2_ := (Option.bind_some _ _).symm.trans H; rw [hy130]; with_reducible exact H2_) | (have H2_ := (Option.bind_some _ _).symm.trans H; with_reducible exact H2_) | with_reducible exact H | (rw [hy130]; exact H) | exact H
                  have Ny130 := Aside0.mk hy130
                  clear hy130
                  obtain rfl := Option.some.inj H
                  have p53 : 0 ≤ ((l0.length : Int) : Int) := of_decide_eq_true (by first | (with_reducible assumption) | assumption)
                  have q53 : ((l0.length : Int) : Int) < ((x5_1.length : Int) : Int) := of_decide_eq_true (by first | (with_reducible assumption) | assumption)
                  obtain ⟨go53, co53, eo53, gb53, gl53, cl53, HG53⟩ := Kd.R_form HO_5.out (by omega)
                  (first | cases eo53 | (injection eo53 with ea_ en_ ec_; (first | subst ea_ | (injection ea_ with ea_; subst ea_)); subst ec_; clear en_))
                  have GB53 := Aside0.mk gb53
                  have GG53 := Aside0.mk HG53
                  clear gb53 gl53 HG53
                  obtain ⟨hx53_0, hf53_0⟩ := Kd.R_celln 0 HO_5.out ((l0.length : Int) : Int) p53 q53
                  (try simp only [Go.IntWalk.toNatUp] at hx53_0 hf53_0)
                  replace p53 := eq_true p53
                  replace q53 := eq_true q53
                  have HP54 := Kd.R_putg HO_5.out ((l0.length : Int) : Int) x6_1
                  go_wp2_with (first | ((with_reducible refine gate_store (t := 29) (p := 51) rfl ?_); refine store_event (t := 29) (p := 51) (v := ?vo_w55) (w1 := (wr.setCell ⟨go53, ((l0.length : Int) : Int).toNat, none⟩ (.int .u64 x6_1))) ?hg ?ho ?hn ?hr ?_; (case ho => rfl); (case hg => rfl); (case hn => rfl); (case hr => first | (go_simp; done) | (go_simp; rfl) | (obtain ⟨hy_, hz_⟩ := Kd.R_celln 0 HO_5.out ((l0.length : Int) : Int) (of_decide_eq_true (by first | (with_reducible assumption) | assumption)) (of_decide_eq_true (by first | (with_reducible assumption) | assumption)); (try simp only [Go.IntWalk.toNatUp] at hy_ hz_); (try simp only [Int.reduceToNat, Int.toNat_zero, Int.toNat_ofNat] at hy_ hz_); first | (go_simp; done) | (go_simp; rfl))); intro w55 hw; have hg : wr.grownBy w55 (some go53) := (by rw [hw]; exact HP54.2); have hp_ : Kd.R (Kd.int .u64) 29 w55 w.heap.size (fun _ => True) (.slice (some ⟨go53, 0, none⟩) x5_1.length co53) y130 := (by rw [hw, Ny130.out]; exact HP54.1); clear HP54; have n0_ := Aside0.mk (hp_); have n1_ := Aside0.mk ((by rw [hw]; exact below_set (HB.out) GB53.out : Below w.heap.size w w55)); clear HO_5; clear HB; have HO_5 := n0_; have HB := n1_; clear n0_ n1_; clear hg hw hp_))
                  go_ret
                  exact ⟨_, by first | rfl | (simp [errW_none, errW_some] <;> rfl) | (simp only [← hji30]; first | rfl | (simp [errW_none, errW_some] <;> rfl)) | (simp [*, errW_none, errW_some] <;> rfl), by (with_reducible repeat (first | apply Kd.R_alloc | apply Kd.R_drewN | apply Kd.R_drew)); exact HO_5.out, by repeat (first | (with_reducible first | exact HB.out | apply below_alloc | apply pw_below_drewN | apply below_drew1) | exact HB.out)⟩
                · rw [if_neg c52] at H
                  exact absurd H (by simp)
              · rw [if_neg c51] at H
                exact absurd H (by simp)
      · rw [if_neg c32] at H
        exact absurd H (by simp)
    · rw [if_neg c31] at H
      exact absurd H (by simp)

end Go.Proofs.Yteabkedhdgnhgab.F

namespace Go.Proofs.Yteabkedhdgnhgab.Z
open Go.RowKit Go.Proofs.Yteabkedhdgnhgab.F Go.Proofs.YteabkedhdgnhgabW.PrintWords
set_option linter.unusedSimpArgs false
set_option linter.unusedVariables false
/-- A sum, limb by limb, with what is carried. -/
def sumL : List Int → List Int → Int → List Int
  | [], _, c => [c]
  | x :: a, b, c => add64_s x (b.getD 0 0) c :: sumL a (b.drop 1) (add64_c x (b.getD 0 0) c)
theorem add64_facts {x y c : Int} (hx : 0 ≤ x ∧ x < (b64 : Int)) (hy : 0 ≤ y ∧ y < (b64 : Int)) (hc : c = 0 ∨ c = 1) :
    add64_s x y c + (b64 : Int) * add64_c x y c = x + y + c ∧ (0 ≤ add64_s x y c ∧ add64_s x y c < (b64 : Int)) ∧ (add64_c x y c = 0 ∨ add64_c x y c = 1) := by
  unfold add64_s add64_c
  simp only [b64] at *
  omega
theorem sumL_facts : ∀ (a b : List Int) (c : Int), Dig (b64 : Int) a → Dig (b64 : Int) b → b.length ≤ a.length → (c = 0 ∨ c = 1) →
    Dig (b64 : Int) (sumL a b c) ∧ val (b64 : Int) (sumL a b c) = val (b64 : Int) a + val (b64 : Int) b + c := by
  intro a
  induction a with
  | nil =>
    intro b c _ _ hlen hc
    have : b = [] := List.length_eq_zero_iff.1 (by simpa using hlen)
    subst this
    refine ⟨?_, ?_⟩
    · intro x hx
      simp [sumL] at hx
      subst hx
      simp only [b64]; omega
    · simp [sumL, val]
  | cons x a ih =>
    intro b c da db hlen hc
    have d1 := Dig.cons.1 da
    have hy := db.getD b64_pos 0
    obtain ⟨e1, e2, e3⟩ := add64_facts d1.1 hy hc
    obtain ⟨i1, i2⟩ := ih (b.drop 1) _ d1.2 (db.drop 1) (by simp at hlen ⊢; omega) e3
    refine ⟨Dig.cons.2 ⟨e2, i1⟩, ?_⟩
    simp only [sumL, val]
    rw [i2]
    have hb : val (b64 : Int) b = b.getD 0 0 + (b64 : Int) * val (b64 : Int) (b.drop 1) := by
      cases b with
      | nil => simp [val]
      | cons y b => simp [val]
    rw [hb]
    generalize (b64 : Int) = B at *
    generalize add64_s x (b.getD 0 0) c = s at *
    generalize add64_c x (b.getD 0 0) c = t at *
    generalize val B a = va at *
    generalize val B (b.drop 1) = vb at *
    generalize b.getD 0 0 = y at *
    have : B * (va + vb + t) = B * va + B * vb + B * t := by rw [Int.mul_add, Int.mul_add]
    omega
theorem nat_sum_l0 (a b : List Int) (ha : a.length ≤ 1000) (hb : b.length ≤ 1000) (da : Dig (b64 : Int) a) (db : Dig (b64 : Int) b) (n : Nat) : ∀ (i : Nat) (p : List Int) (c : Int), p.length = i → i ≤ a.length → a.length - i = n → (c = 0 ∨ c = 1) →
    Evt (fun k => nat_sum.l0 k a b (p ++ List.replicate (n + 1) 0) c (a.length : Int) (i : Int)) (p ++ sumL (a.drop i) (b.drop i) c) := by
  induction n with
  | zero =>
    intro i p c hp hi hn hc
    refine Evt.succ ?_
    simp only [nat_sum.l0]
    refine Evt.ite_neg (by omega) (Evt.ite_pos (by omega) (Evt.ite_pos (by simp; omega) ?_))
    rw [List.drop_of_length_le (show a.length ≤ i by omega), show ((a.length : Int)).toNat = p.length from by omega]
    simp only [sumL, List.replicate_succ, List.replicate_zero]
    rw [set_at]
    exact Evt.pure _
  | succ n ih =>
    intro i p c hp hi hn hc
    have hlt : i < a.length := by omega
    refine Evt.succ ?_
    simp only [nat_sum.l0]
    refine Evt.ite_pos (by omega) ?_
    have hx : rd a (i : Int) = a[i] := by simp [rd_nat, hlt]
    have hxr := da a[i] (List.getElem_mem hlt)
    have hset : ∀ v : Int, (p ++ List.replicate (n + 1 + 1) 0).set ((i : Int)).toNat v = (p ++ [v]) ++ List.replicate (n + 1) 0 := by
      intro v
      rw [show ((i : Int)).toNat = p.length from by omega, List.replicate_succ, set_at, List.append_assoc]
      rfl
    have hyr := (db.drop i).getD b64_pos 0
    have hfin : ∀ y : Int, y = (b.drop i).getD 0 0 → Evt (fun k => nat_sum.l0 k a b ((p ++ List.replicate (n + 1 + 1) 0).set ((i : Int)).toNat (add64_s (rd a (i : Int)) y c)) (add64_c (rd a (i : Int)) y c) (a.length : Int) (wrap64 ((i : Int) + 1))) (p ++ sumL (a.drop i) (b.drop i) c) := by
      intro y hy
      subst hy
      obtain ⟨e1, e2, e3⟩ := add64_facts hxr hyr hc
      rw [hx, hset, w64 (by omega) (by omega)]
      have h := ih (i + 1) (p ++ [add64_s a[i] ((b.drop i).getD 0 0) c]) (add64_c a[i] ((b.drop i).getD 0 0) c) (by simp [hp]) (by omega) (by omega) e3
      refine h.congr (fun k => rfl) ?_
      rw [List.drop_eq_getElem_cons hlt]
      simp only [sumL, List.drop_drop, List.append_assoc, List.singleton_append]
    by_cases hib : i < b.length
    · refine Evt.ite_pos (by omega) (Evt.ite_pos (by omega) (Evt.ite_pos (by omega) (Evt.ite_pos (carry_of hc) (Evt.ite_pos (by simp; omega) ?_))))
      refine hfin _ ?_
      simp [rd_nat, hib]
    · refine Evt.ite_neg (by omega) (Evt.ite_pos (by omega) (Evt.ite_pos (by omega) (Evt.ite_pos (carry_of hc) (Evt.ite_pos (by simp; omega) ?_))))
      refine hfin _ ?_
      simp [List.drop_of_length_le (show b.length ≤ i by omega)]
theorem nat_sum_l51 (a b : List Int) (ha : a.length ≤ 1000) (hb : b.length ≤ 1000) (da : Dig (b64 : Int) a) (db : Dig (b64 : Int) b) (n : Nat) : ∀ (i : Nat) (p : List Int) (c : Int), p.length = i → i ≤ a.length → a.length - i = n → (c = 0 ∨ c = 1) →
    Evt (fun k => nat_sum.l51 k a b (p ++ List.replicate (n + 1) 0) c (a.length : Int) (i : Int)) (p ++ sumL (a.drop i) (b.drop i) c) := by
  induction n with
  | zero =>
    intro i p c hp hi hn hc
    refine Evt.succ ?_
    simp only [nat_sum.l51]
    refine Evt.ite_neg (by omega) (Evt.ite_pos (by omega) (Evt.ite_pos (by simp; omega) ?_))
    rw [List.drop_of_length_le (show a.length ≤ i by omega), show ((a.length : Int)).toNat = p.length from by omega]
    simp only [sumL, List.replicate_succ, List.replicate_zero]
    rw [set_at]
    exact Evt.pure _
  | succ n ih =>
    intro i p c hp hi hn hc
    have hlt : i < a.length := by omega
    refine Evt.succ ?_
    simp only [nat_sum.l51]
    refine Evt.ite_pos (by omega) ?_
    have hx : rd a (i : Int) = a[i] := by simp [rd_nat, hlt]
    have hxr := da a[i] (List.getElem_mem hlt)
    have hset : ∀ v : Int, (p ++ List.replicate (n + 1 + 1) 0).set ((i : Int)).toNat v = (p ++ [v]) ++ List.replicate (n + 1) 0 := by
      intro v
      rw [show ((i : Int)).toNat = p.length from by omega, List.replicate_succ, set_at, List.append_assoc]
      rfl
    have hyr := (db.drop i).getD b64_pos 0
    have hfin : ∀ y : Int, y = (b.drop i).getD 0 0 → Evt (fun k => nat_sum.l51 k a b ((p ++ List.replicate (n + 1 + 1) 0).set ((i : Int)).toNat (add64_s (rd a (i : Int)) y c)) (add64_c (rd a (i : Int)) y c) (a.length : Int) (wrap64 ((i : Int) + 1))) (p ++ sumL (a.drop i) (b.drop i) c) := by
      intro y hy
      subst hy
      obtain ⟨e1, e2, e3⟩ := add64_facts hxr hyr hc
      rw [hx, hset, w64 (by omega) (by omega)]
      have h := ih (i + 1) (p ++ [add64_s a[i] ((b.drop i).getD 0 0) c]) (add64_c a[i] ((b.drop i).getD 0 0) c) (by simp [hp]) (by omega) (by omega) e3
      refine h.congr (fun k => rfl) ?_
      rw [List.drop_eq_getElem_cons hlt]
      simp only [sumL, List.drop_drop, List.append_assoc, List.singleton_append]
    by_cases hib : i < b.length
    · refine Evt.ite_pos (by omega) (Evt.ite_pos (by omega) (Evt.ite_pos (by omega) (Evt.ite_pos (carry_of hc) (Evt.ite_pos (by simp; omega) ?_))))
      refine hfin _ ?_
      simp [rd_nat, hib]
    · refine Evt.ite_neg (by omega) (Evt.ite_pos (by omega) (Evt.ite_pos (by omega) (Evt.ite_pos (carry_of hc) (Evt.ite_pos (by simp; omega) ?_))))
      refine hfin _ ?_
      simp [List.drop_of_length_le (show b.length ≤ i by omega)]

theorem nat_sum_ev (a b : List Int) (ha : a.length ≤ 1000) (hb : b.length ≤ 1000) (da : Dig (b64 : Int) a) (db : Dig (b64 : Int) b) : ∃ s, Evt (fun k => nat_sum.f k a b) s ∧ Dig (b64 : Int) s ∧ num s = num a + num b ∧ s.length ≤ 1002 := by
  unfold nat_sum.f
  have fin : ∀ (x y : List Int), Dig (b64 : Int) x → Dig (b64 : Int) y → y.length ≤ x.length → x.length ≤ 1000 → Dig (b64 : Int) (sumL x y 0) ∧ num (sumL x y 0) = num x + num y ∧ (sumL x y 0).length ≤ 1002 := by
    intro x y dx dy hlen hx
    obtain ⟨f1, f2⟩ := sumL_facts x y 0 dx dy hlen (Or.inl rfl)
    have l1 : ∀ (x y : List Int) (c : Int), (sumL x y c).length = x.length + 1 := by
      intro x
      induction x with
      | nil => intro y c; rfl
      | cons z x ih => intro y c; simp only [sumL, List.length_cons, ih]
    refine ⟨f1, ?_, by rw [l1]; omega⟩
    have := num_val f1
    have := num_val dx
    have := num_val dy
    omega
  have ex : ∀ x : List Int, x.length ≤ 1000 → wrap64 ((x.length : Int) + 1) = ((x.length + 1 : Nat) : Int) := fun x hx => by rw [w64 (by omega) (by omega)]; omega
  by_cases h : a.length < b.length
  · refine ⟨sumL b a 0, Evt.ite_pos (by omega) ?_, (fin b a db da (by omega) hb).1, by rw [(fin b a db da (by omega) hb).2.1]; omega, (fin b a db da (by omega) hb).2.2⟩
    rw [ex b hb]
    refine Evt.ite_pos (by omega) (Evt.ite_pos (by omega) ?_)
    exact (nat_sum_l0 b a hb ha db da b.length 0 [] 0 rfl (Nat.zero_le _) (by omega) (Or.inl rfl)).congr (fun k => rfl) (by simp)
  · refine ⟨sumL a b 0, Evt.ite_neg (by omega) ?_, (fin a b da db (by omega) ha).1, (fin a b da db (by omega) ha).2.1, (fin a b da db (by omega) ha).2.2⟩
    rw [ex a ha]
    refine Evt.ite_pos (by omega) (Evt.ite_pos (by omega) ?_)
    exact (nat_sum_l51 a b ha hb da db a.length 0 [] 0 rfl (Nat.zero_le _) (by omega) (Or.inl rfl)).congr (fun k => rfl) (by simp)
end Go.Proofs.Yteabkedhdgnhgab.Z

namespace Go.Proofs.Yteabkedhdgnhgab.F
open Go.RowKit Go.Proofs.YteabkedhdgnhgabW.PrintWords Go.Proofs.YteabkedhdgnhgabW.PrintLast Go.Proofs.YteabkedhdgnhgabW.PrintMore
attribute [local go_sem] max2_int min2_int max_two min_two max_three min_three max_four min_four   -- for this text's walks alone
set_option linter.unusedVariables false
set_option linter.unusedSimpArgs false

attribute [local go_sem] sub64_run
/-! ### nat_less: function 53 -/
def nat_less.l0 : Nat → List Int → List Int → List Int → Int → Int → Int → Option (List Int)
  | 0, _, _, _, _, _, _ => none
  | k + 1, x0, x1, x5, x6, x13, x14 => if x14 < x13 then (if x14 < (x1.length : Int) then (if 0 ≤ x14 then (if x14 < (x0.length : Int) then (if carry01 x6 = true then (if x14 < (x5.length : Int) then (nat_less.l0 k x0 x1 (x5.set (x14 : Int).toNat (sub64_s (rd x0 x14) (rd x1 x14) x6)) (sub64_c (rd x0 x14) (rd x1 x14) x6) x13 (wrap64 (x14 + 1))) else (none)) else (none)) else (none)) else (none)) else (if 0 ≤ x14 then (if x14 < (x0.length : Int) then (if carry01 x6 = true then (if x14 < (x5.length : Int) then (nat_less.l0 k x0 x1 (x5.set (x14 : Int).toNat (sub64_s (rd x0 x14) 0 x6)) (sub64_c (rd x0 x14) 0 x6) x13 (wrap64 (x14 + 1))) else (none)) else (none)) else (none)) else (none))) else (some x5)
def nat_less.f (k : Nat) (l0 : List Int) (l1 : List Int) : Option (List Int) := if 0 ≤ (l0.length : Int) then (if ((l0.length : Int) : Int).toNat ≤ 35184372088832 then (nat_less.l0 k l0 l1 (List.replicate ((l0.length : Int) : Int).toNat 0) 0 (l0.length : Int) 0) else (none)) else (none)
theorem nat_less.mono_l : ∀ k, (∀ y0 y1 y2 y3 y4 y5, LeO (nat_less.l0 k y0 y1 y2 y3 y4 y5) (nat_less.l0 (k + 1) y0 y1 y2 y3 y4 y5))
  | 0 => fun _ _ _ _ _ _ r h => by simp [nat_less.l0] at h
  | k + 1 => by
    have ih0 := nat_less.mono_l k
    · intro y0 y1 y2 y3 y4 y5
      unfold nat_less.l0
      repeat' first
      | (with_reducible exact ih0 _ _ _ _ _ _)
      | (with_reducible exact LeO.refl _)
      | (with_reducible exact LeO.none _)
      | (with_reducible refine LeO.ite ?_ ?_)
      | (with_reducible refine LeO.bind ?_ (fun _ => ?_))
      | exact ih0 _ _ _ _ _ _
      | exact LeO.none _
      | refine LeO.ite ?_ ?_
      | refine LeO.bind ?_ (fun _ => ?_)
theorem nat_less.mono : ∀ a0 a1 k, LeO (nat_less.f k a0 a1) (nat_less.f (k + 1) a0 a1) := by
  intro a0 a1 k
  have ih0 := nat_less.mono_l k
  unfold nat_less.f
  repeat' first
      | (with_reducible exact ih0 _ _ _ _ _ _)
      | (with_reducible exact LeO.refl _)
      | (with_reducible exact LeO.none _)
      | (with_reducible refine LeO.ite ?_ ?_)
      | (with_reducible refine LeO.bind ?_ (fun _ => ?_))
      | exact ih0 _ _ _ _ _ _
      | exact LeO.none _
      | refine LeO.ite ?_ ?_
      | refine LeO.bind ?_ (fun _ => ?_)
set_option maxHeartbeats 8000000 in
set_option maxRecDepth 100000 in
theorem nat_less.calls (k : Nat) (A0 : Option Addr) (c0 : Nat) (l0 : List Int) (A1 : Option Addr) (c1 : Nat) (l1 : List Int) (r : List Int) (w : World) (hr0 : Kd.C (Kd.int .u64) w A0 l0.length l0) (hc0 : l0.length ≤ c0) (hr1 : Kd.C (Kd.int .u64) w A1 l1.length l1) (hc1 : l1.length ≤ c1) (h : nat_less.f k l0 l1 = some r) :
    Calls Try.prog 53 #[.slice A0 l0.length c0, .slice A1 l1.length c1] w fun e w' => ∃ v0_ : Value, e = .returned (v0_) ∧ Kd.R (Kd.int .u64) 29 w' w.heap.size (fun _ => True) v0_ r ∧ Below w.heap.size w w' := by
  have HR0 := Aside0.mk hr0
  have HC0 := Aside0.mk hc0
  clear hr0 hc0
  have HR1 := Aside0.mk hr1
  have HC1 := Aside0.mk hc1
  clear hr1 hc1
  have HB := Aside0.mk (Below.refl w.heap.size w)
  have H : (if 0 ≤ (l0.length : Int) then (if ((l0.length : Int) : Int).toNat ≤ 35184372088832 then (nat_less.l0 k l0 l1 (List.replicate ((l0.length : Int) : Int).toNat 0) 0 (l0.length : Int) 0) else (none)) else (none)) = some r := h
  clear h
  by_cases c3 : 0 ≤ (l0.length : Int)
  · rw [if_pos c3] at H
    have c3b0 := eq_true c3
    have c3b1 : decide (0 ≤ (l0.length : Int)) = true := decide_eq_true c3
    clear c3
    by_cases c4 : ((l0.length : Int) : Int).toNat ≤ 35184372088832
    · rw [if_pos c4] at H
      have c4b0 := eq_true c4
      have c4b1 : decide (((l0.length : Int) : Int).toNat ≤ 35184372088832) = true := decide_eq_true c4
      clear c4
      obtain ⟨y144, hy144⟩ : ∃ y_ : List Int, y_ = (List.replicate ((l0.length : Int) : Int).toNat 0) := ⟨_, rfl⟩
      replace H : (nat_less.l0 k l0 l1 y144 0 (l0.length : Int) 0) = some r := by first | (rw [hy144]; with_reducible exact H) | (have H2_ := (Option.bind_some _ _).symm.trans H; rw [hy144]; with_reducible exact H2_) | (have H2_ := (Option.bind_some _ _).symm.trans H; with_reducible exact H2_) | with_reducible exact H | (rw [hy144]; exact H) | exact H
      have Ny144 := Aside0.mk hy144
      clear hy144
      have H' := Aside0.mk H
      clear H
      go_enter Try.func53, Try.ntmps53
      go_wp2_with (first | ((with_reducible refine gate_dst (N := 11) rfl ?_); refine Kd.R_make (Kd.int .u64) _ 29 rfl (N := 11) rfl 23 _ _ rfl (l0.length : Int) rfl rfl Try.underlying23 (.int .u64 0) 8 info29 rfl (by decide) (by omega) 0 (ok := fun _ => True) (okp := fun _ => True) rfl (fun _ hk => hk) trivial (of_decide_eq_true (by first | (with_reducible assumption) | assumption)) (Nat.le_trans (Nat.mul_le_mul_right _ (of_decide_eq_true (by first | (with_reducible assumption) | assumption) : (l0.length : Int).toNat ≤ 35184372088832)) (by omega)) (Below.refl _ _) (Nat.le_refl _) ?_; intro v145 w5 ho6 hb hg_ hnew_; clear hg_ hnew_; (first | rw [← Ny144.out] at ho6 | (simp only [Int.reduceToNat] at ho6; rw [← Ny144.out] at ho6)); have n0_ := Aside0.mk (Kd.R_lower ho6 (below_size (by repeat (first | (with_reducible first | exact HB.out | apply below_alloc | apply pw_below_drewN | apply below_drew1) | exact HB.out)))); have n1_ := Aside0.mk (below_step (by repeat (first | (with_reducible first | exact HB.out | apply below_alloc | apply pw_below_drewN | apply below_drew1) | exact HB.out)) hb); clear HB; have HO146 := n0_; have HB := n1_; clear n0_ n1_; clear hb ho6))
      go_loopg [6, 14] k (fun kq v6 v14 w' => ∃ (x5_1 : List Int) (x6_1 : Int) (x14_1 : Int), v6 = .int .u64 x6_1 ∧ v14 = .int .i64 x14_1 ∧ Aside0 (nat_less.l0 kq l0 l1 x5_1 x6_1 (l0.length : Int) x14_1 = some r) ∧ Aside0 (kq ≤ k) ∧ Aside0 (Kd.R (Kd.int .u64) 29 w' w.heap.size (fun _ => True) v145 x5_1) ∧ Aside0 (Below w.heap.size w w'))
      case atStart => exact ⟨(y144), (0), (0), (by first | rfl | (simp; done) | (simp [*]; done)), (by first | rfl | (simp; done) | (simp [*]; done)), H', ⟨Nat.le_refl _⟩, ⟨by (with_reducible repeat (first | apply Kd.R_alloc | apply Kd.R_drewN | apply Kd.R_drew)); exact HO146.out⟩, ⟨by repeat (first | (with_reducible first | exact HB.out | apply below_alloc | apply pw_below_drewN | apply below_drew1) | exact HB.out)⟩⟩
      case round =>
        clear H'
        try clear c1
        try clear p2
        try clear c3
        try clear c3b0
        try clear c3b1
        try clear c4
        try clear c4b0
        try clear c4b1
        try clear c5
        obtain ⟨x5_1, x6_1, x14_1, rfl, rfl, HA, HK1, HO_5, HB⟩ := hrel
        cases gk with
        | zero => exact absurd HA.out (by simp [nat_less.l0])
        | succ k1 =>
          have H := HA.out
          clear HA
          simp only [nat_less.l0] at H
          by_cases c7 : x14_1 < (l0.length : Int)
          · rw [if_pos c7] at H
            have c7b0 : decide (x14_1 < (l0.length : Int)) = true := decide_eq_true c7
            clear c7
            by_cases c8 : x14_1 < (l1.length : Int)
            · rw [if_pos c8] at H
              have c8b0 : decide (x14_1 < (l1.length : Int)) = true := decide_eq_true c8
              clear c8
              by_cases c9 : 0 ≤ x14_1
              · rw [if_pos c9] at H
                have c9b0 : decide (0 ≤ x14_1) = true := decide_eq_true c9
                clear c9
                by_cases c10 : x14_1 < (l0.length : Int)
                · rw [if_pos c10] at H
                  have c10b0 : decide (x14_1 < (l0.length : Int)) = true := decide_eq_true c10
                  clear c10
                  by_cases c11 : carry01 x6_1 = true
                  · rw [if_pos c11] at H
                    have c11b0 : carry01 x6_1 = true := c11
                    clear c11
                    by_cases c12 : x14_1 < (x5_1.length : Int)
                    · rw [if_pos c12] at H
                      have c12b0 : decide (x14_1 < (x5_1.length : Int)) = true := decide_eq_true c12
                      clear c12
                      obtain ⟨y149, hy149⟩ : ∃ y_ : List Int, y_ = (x5_1.set (x14_1 : Int).toNat (sub64_s (rd l0 x14_1) (rd l1 x14_1) x6_1)) := ⟨_, rfl⟩
                      replace H : (nat_less.l0 k1 l0 l1 y149 (sub64_c (rd l0 x14_1) (rd l1 x14_1) x6_1) (l0.length : Int) (wrap64 (x14_1 + 1))) = some r := by first | (rw [hy149]; with_reducible exact H) | (have H2_ := (Option.bind_some _ _).symm.trans H; rw [hy149]; with_reducible exact H2_) | (have H2_ := (Option.bind_some _ _).symm.trans H; with_reducible exact H2_) | with_reducible exact H | (rw [hy149]; exact H) | exact H
                      have Ny149 := Aside0.mk hy149
                      clear hy149
                      have H' := Aside0.mk H
                      clear H
                      have p147 : 0 ≤ (x14_1 : Int) := of_decide_eq_true (by first | (with_reducible assumption) | assumption)
                      have q147 : x14_1 < (l1.length : Int) := of_decide_eq_true (by first | (with_reducible assumption) | assumption)
                      obtain ⟨ad147, e147, hx147_0⟩ := Kd.at_int HR1.out x14_1 p147 q147
                      cases e147
                      replace hx147_0 := (HB.out.cell (World.block_lt_of_cell? w _ hx147_0)).trans hx147_0
                      replace p147 := eq_true p147
                      replace q147 := eq_true q147
                      have p148 : 0 ≤ (x14_1 : Int) := of_decide_eq_true (by first | (with_reducible assumption) | assumption)
                      have q148 : x14_1 < (l0.length : Int) := of_decide_eq_true (by first | (with_reducible assumption) | assumption)
                      obtain ⟨ad148, e148, hx148_0⟩ := Kd.at_int HR0.out x14_1 p148 q148
                      cases e148
                      replace hx148_0 := (HB.out.cell (World.block_lt_of_cell? w _ hx148_0)).trans hx148_0
                      replace p148 := eq_true p148
                      replace q148 := eq_true q148
                      have p13 : 0 ≤ (x14_1 : Int) := of_decide_eq_true (by first | (with_reducible assumption) | assumption)
                      have q13 : (x14_1 : Int) < ((x5_1.length : Int) : Int) := of_decide_eq_true (by first | (with_reducible assumption) | assumption)
                      obtain ⟨go13, co13, eo13, gb13, gl13, cl13, HG13⟩ := Kd.R_form HO_5.out (by omega)
                      (first | cases eo13 | (injection eo13 with ea_ en_ ec_; (first | subst ea_ | (injection ea_ with ea_; subst ea_)); subst ec_; clear en_))
                      have GB13 := Aside0.mk gb13
                      have GG13 := Aside0.mk HG13
                      clear gb13 gl13 HG13
                      obtain ⟨hx13_0, hf13_0⟩ := Kd.R_celln 0 HO_5.out (x14_1 : Int) p13 q13
                      replace p13 := eq_true p13
                      replace q13 := eq_true q13
                      have HP14 := Kd.R_putg HO_5.out (x14_1 : Int) (sub64_s (rd l0 x14_1) (rd l1 x14_1) x6_1)
                      go_wp2_with (first | ((with_reducible refine gate_store (t := 29) (p := 37) rfl ?_); refine store_event (t := 29) (p := 37) (v := ?vo_w15) (w1 := (wr.setCell ⟨go13, (x14_1 : Int).toNat, none⟩ (.int .u64 (sub64_s (rd l0 x14_1) (rd l1 x14_1) x6_1)))) ?hg ?ho ?hn ?hr ?_; (case ho => rfl); (case hg => rfl); (case hn => rfl); (case hr => first | (go_simp; done) | (go_simp; rfl) | (obtain ⟨hy_, hz_⟩ := Kd.R_celln 0 HO_5.out (x14_1 : Int) (of_decide_eq_true (by first | (with_reducible assumption) | assumption)) (of_decide_eq_true (by first | (with_reducible assumption) | assumption)); (try simp only [Go.IntWalk.toNatUp] at hy_ hz_); (try simp only [Int.reduceToNat, Int.toNat_zero, Int.toNat_ofNat] at hy_ hz_); first | (go_simp; done) | (go_simp; rfl))); intro w15 hw; have hg : wr.grownBy w15 (some go13) := (by rw [hw]; exact HP14.2); have hp_ : Kd.R (Kd.int .u64) 29 w15 w.heap.size (fun _ => True) (.slice (some ⟨go13, 0, none⟩) x5_1.length co13) y149 := (by rw [hw, Ny149.out]; exact HP14.1); clear HP14; have n0_ := Aside0.mk (hp_); have n1_ := Aside0.mk ((by rw [hw]; exact below_set (HB.out) GB13.out : Below w.heap.size w w15)); clear HO_5; clear HB; have HO_5 := n0_; have HB := n1_; clear n0_ n1_; clear hg hw hp_))
                      go_roundg k1
                      case measure => have := HK1.out; omega
                      case rel => exact ⟨(y149), (sub64_c (rd l0 x14_1) (rd l1 x14_1) x6_1), (wrap64 (x14_1 + 1)), (by first | rfl | (simp; done) | (simp [*]; done)), (by first | rfl | (simp; done) | (simp [*]; done)), H', ⟨by have := HK1.out; omega⟩, ⟨by (with_reducible repeat (first | apply Kd.R_alloc | apply Kd.R_drewN | apply Kd.R_drew)); exact HO_5.out⟩, ⟨by repeat (first | (with_reducible first | exact HB.out | apply below_alloc | apply pw_below_drewN | apply below_drew1) | exact HB.out)⟩⟩
                    · rw [if_neg c12] at H
                      exact absurd H (by simp)
                  · rw [if_neg c11] at H
                    exact absurd H (by simp)
                · rw [if_neg c10] at H
                  exact absurd H (by simp)
              · rw [if_neg c9] at H
                exact absurd H (by simp)
            · rw [if_neg c8] at H
              have c8b0 : decide (x14_1 < (l1.length : Int)) = false := decide_eq_false c8
              clear c8
              by_cases c16 : 0 ≤ x14_1
              · rw [if_pos c16] at H
                have c16b0 : decide (0 ≤ x14_1) = true := decide_eq_true c16
                clear c16
                by_cases c17 : x14_1 < (l0.length : Int)
                · rw [if_pos c17] at H
                  have c17b0 : decide (x14_1 < (l0.length : Int)) = true := decide_eq_true c17
                  clear c17
                  by_cases c18 : carry01 x6_1 = true
                  · rw [if_pos c18] at H
                    have c18b0 : carry01 x6_1 = true := c18
                    clear c18
                    by_cases c19 : x14_1 < (x5_1.length : Int)
                    · rw [if_pos c19] at H
                      have c19b0 : decide (x14_1 < (x5_1.length : Int)) = true := decide_eq_true c19
                      clear c19
                      obtain ⟨y151, hy151⟩ : ∃ y_ : List Int, y_ = (x5_1.set (x14_1 : Int).toNat (sub64_s (rd l0 x14_1) 0 x6_1)) := ⟨_, rfl⟩
                      replace H : (nat_less.l0 k1 l0 l1 y151 (sub64_c (rd l0 x14_1) 0 x6_1) (l0.length : Int) (wrap64 (x14_1 + 1))) = some r := by first | (rw [hy151]; with_reducible exact H) | (have H2_ := (Option.bind_some _ _).symm.trans H; rw [hy151]; with_reducible exact H2_) | (have H2_ := (Option.bind_some _ _).symm.trans H; with_reducible exact H2_) | with_reducible exact H | (rw [hy151]; exact H) | exact H
                      have Ny151 := Aside0.mk hy151
                      clear hy151
                      have H' := Aside0.mk H
                      clear H
                      have p150 : 0 ≤ (x14_1 : Int) := of_decide_eq_true (by first | (with_reducible assumption) | assumption)
                      have q150 : x14_1 < (l0.length : Int) := of_decide_eq_true (by first | (with_reducible assumption) | assumption)
                      obtain ⟨ad150, e150, hx150_0⟩ := Kd.at_int HR0.out x14_1 p150 q150
                      cases e150
                      replace hx150_0 := (HB.out.cell (World.block_lt_of_cell? w _ hx150_0)).trans hx150_0
                      replace p150 := eq_true p150
                      replace q150 := eq_true q150
                      have p20 : 0 ≤ (x14_1 : Int) := of_decide_eq_true (by first | (with_reducible assumption) | assumption)
                      have q20 : (x14_1 : Int) < ((x5_1.length : Int) : Int) := of_decide_eq_true (by first | (with_reducible assumption) | assumption)
                      obtain ⟨go20, co20, eo20, gb20, gl20, cl20, HG20⟩ := Kd.R_form HO_5.out (by omega)
                      (first | cases eo20 | (injection eo20 with ea_ en_ ec_; (first | subst ea_ | (injection ea_ with ea_; subst ea_)); subst ec_; clear en_))
                      have GB20 := Aside0.mk gb20
                      have GG20 := Aside0.mk HG20
                      clear gb20 gl20 HG20
                      obtain ⟨hx20_0, hf20_0⟩ := Kd.R_celln 0 HO_5.out (x14_1 : Int) p20 q20
                      replace p20 := eq_true p20
                      replace q20 := eq_true q20
                      have HP21 := Kd.R_putg HO_5.out (x14_1 : Int) (sub64_s (rd l0 x14_1) 0 x6_1)
                      go_wp2_with (first | ((with_reducible refine gate_store (t := 29) (p := 37) rfl ?_); refine store_event (t := 29) (p := 37) (v := ?vo_w22) (w1 := (wr.setCell ⟨go20, (x14_1 : Int).toNat, none⟩ (.int .u64 (sub64_s (rd l0 x14_1) 0 x6_1)))) ?hg ?ho ?hn ?hr ?_; (case ho => rfl); (case hg => rfl); (case hn => rfl); (case hr => first | (go_simp; done) | (go_simp; rfl) | (obtain ⟨hy_, hz_⟩ := Kd.R_celln 0 HO_5.out (x14_1 : Int) (of_decide_eq_true (by first | (with_reducible assumption) | assumption)) (of_decide_eq_true (by first | (with_reducible assumption) | assumption)); (try simp only [Go.IntWalk.toNatUp] at hy_ hz_); (try simp only [Int.reduceToNat, Int.toNat_zero, Int.toNat_ofNat] at hy_ hz_); first | (go_simp; done) | (go_simp; rfl))); intro w22 hw; have hg : wr.grownBy w22 (some go20) := (by rw [hw]; exact HP21.2); have hp_ : Kd.R (Kd.int .u64) 29 w22 w.heap.size (fun _ => True) (.slice (some ⟨go20, 0, none⟩) x5_1.length co20) y151 := (by rw [hw, Ny151.out]; exact HP21.1); clear HP21; have n0_ := Aside0.mk (hp_); have n1_ := Aside0.mk ((by rw [hw]; exact below_set (HB.out) GB20.out : Below w.heap.size w w22)); clear HO_5; clear HB; have HO_5 := n0_; have HB := n1_; clear n0_ n1_; clear hg hw hp_))
                      go_roundg k1
                      case measure => have := HK1.out; omega
                      case rel => exact ⟨(y151), (sub64_c (rd l0 x14_1) 0 x6_1), (wrap64 (x14_1 + 1)), (by first | rfl | (simp; done) | (simp [*]; done)), (by first | rfl | (simp; done) | (simp [*]; done)), H', ⟨by have := HK1.out; omega⟩, ⟨by (with_reducible repeat (first | apply Kd.R_alloc | apply Kd.R_drewN | apply Kd.R_drew)); exact HO_5.out⟩, ⟨by repeat (first | (with_reducible first | exact HB.out | apply below_alloc | apply pw_below_drewN | apply below_drew1) | exact HB.out)⟩⟩
                    · rw [if_neg c19] at H
                      exact absurd H (by simp)
                  · rw [if_neg c18] at H
                    exact absurd H (by simp)
                · rw [if_neg c17] at H
                  exact absurd H (by simp)
              · rw [if_neg c16] at H
                exact absurd H (by simp)
          · rw [if_neg c7] at H
            have c7b0 : decide (x14_1 < (l0.length : Int)) = false := decide_eq_false c7
            clear c7
            obtain rfl := Option.some.inj H
            go_wp2
            go_ret
            exact ⟨_, by first | rfl | (simp [errW_none, errW_some] <;> rfl) | (simp [*, errW_none, errW_some] <;> rfl), by (with_reducible repeat (first | apply Kd.R_alloc | apply Kd.R_drewN | apply Kd.R_drew)); exact HO_5.out, by repeat (first | (with_reducible first | exact HB.out | apply below_alloc | apply pw_below_drewN | apply below_drew1) | exact HB.out)⟩
    · rw [if_neg c4] at H
      exact absurd H (by simp)
  · rw [if_neg c3] at H
    exact absurd H (by simp)

end Go.Proofs.Yteabkedhdgnhgab.F

namespace Go.Proofs.Yteabkedhdgnhgab.Z
open Go.RowKit Go.Proofs.Yteabkedhdgnhgab.F Go.Proofs.YteabkedhdgnhgabW.PrintWords
set_option linter.unusedSimpArgs false
set_option linter.unusedVariables false
/-- A difference, limb by limb, with what is borrowed. -/
def lessL : List Int → List Int → Int → List Int
  | [], _, _ => []
  | x :: a, b, c => sub64_s x (b.getD 0 0) c :: lessL a (b.drop 1) (sub64_c x (b.getD 0 0) c)
theorem sub64_facts {x y c : Int} (hx : 0 ≤ x ∧ x < (b64 : Int)) (hy : 0 ≤ y ∧ y < (b64 : Int)) (hc : c = 0 ∨ c = 1) :
    sub64_s x y c - (b64 : Int) * sub64_c x y c = x - y - c ∧ (0 ≤ sub64_s x y c ∧ sub64_s x y c < (b64 : Int)) ∧ (sub64_c x y c = 0 ∨ sub64_c x y c = 1) := by
  unfold sub64_s sub64_c
  simp only [b64] at *
  by_cases h : x.toNat < y.toNat + c.toNat
  · rw [if_pos h]; omega
  · rw [if_neg h]; omega
theorem lessL_len : ∀ (a b : List Int) (c : Int), (lessL a b c).length = a.length := by
  intro a
  induction a with
  | nil => intro b c; rfl
  | cons z x ih => intro b c; simp only [lessL, List.length_cons, ih]
theorem lessL_facts : ∀ (a b : List Int) (c : Int), Dig (b64 : Int) a → Dig (b64 : Int) b → b.length ≤ a.length → (c = 0 ∨ c = 1) →
    Dig (b64 : Int) (lessL a b c) ∧ ∃ t, 0 ≤ t ∧ val (b64 : Int) (lessL a b c) = val (b64 : Int) a - val (b64 : Int) b - c + (b64 : Int) ^ a.length * t := by
  intro a
  induction a with
  | nil =>
    intro b c _ _ hlen hc
    have : b = [] := List.length_eq_zero_iff.1 (by simpa using hlen)
    subst this
    exact ⟨Dig.nil, c, by omega, by simp [lessL, val]; omega⟩
  | cons x a ih =>
    intro b c da db hlen hc
    have d1 := Dig.cons.1 da
    have hy := db.getD b64_pos 0
    obtain ⟨e1, e2, e3⟩ := sub64_facts d1.1 hy hc
    obtain ⟨i1, t, ht, i2⟩ := ih (b.drop 1) _ d1.2 (db.drop 1) (by simp at hlen ⊢; omega) e3
    refine ⟨Dig.cons.2 ⟨e2, i1⟩, t, ht, ?_⟩
    simp only [lessL, val]
    rw [i2]
    have hb : val (b64 : Int) b = b.getD 0 0 + (b64 : Int) * val (b64 : Int) (b.drop 1) := by
      cases b with
      | nil => simp [val]
      | cons y b => simp [val]
    rw [hb]
    generalize (b64 : Int) = B at *
    generalize sub64_s x (b.getD 0 0) c = s at *
    generalize sub64_c x (b.getD 0 0) c = u at *
    generalize val B a = va at *
    generalize val B (b.drop 1) = vb at *
    generalize b.getD 0 0 = y at *
    rw [List.length_cons, Int.pow_succ]
    generalize B ^ a.length = P at *
    have h1 : B * (va - vb - u + P * t) = B * va - B * vb - B * u + P * B * t := by grind
    omega
theorem nat_less_l0 (a b : List Int) (ha : a.length ≤ 1000) (hb : b.length ≤ 1000) (da : Dig (b64 : Int) a) (db : Dig (b64 : Int) b) (n : Nat) : ∀ (i : Nat) (p : List Int) (c : Int), p.length = i → i ≤ a.length → a.length - i = n → (c = 0 ∨ c = 1) →
    Evt (fun k => nat_less.l0 k a b (p ++ List.replicate n 0) c (a.length : Int) (i : Int)) (p ++ lessL (a.drop i) (b.drop i) c) := by
  induction n with
  | zero =>
    intro i p c hp hi hn hc
    refine Evt.succ ?_
    simp only [nat_less.l0]
    refine Evt.ite_neg (by omega) ?_
    rw [List.drop_of_length_le (show a.length ≤ i by omega)]
    simp only [lessL, List.replicate_zero]
    exact Evt.pure _
  | succ n ih =>
    intro i p c hp hi hn hc
    have hlt : i < a.length := by omega
    refine Evt.succ ?_
    simp only [nat_less.l0]
    refine Evt.ite_pos (by omega) ?_
    have hx : rd a (i : Int) = a[i] := by simp [rd_nat, hlt]
    have hxr := da a[i] (List.getElem_mem hlt)
    have hset : ∀ v : Int, (p ++ List.replicate (n + 1) 0).set ((i : Int)).toNat v = (p ++ [v]) ++ List.replicate n 0 := by
      intro v
      rw [show ((i : Int)).toNat = p.length from by omega, List.replicate_succ, set_at, List.append_assoc]
      rfl
    have hyr := (db.drop i).getD b64_pos 0
    have hfin : ∀ y : Int, y = (b.drop i).getD 0 0 → Evt (fun k => nat_less.l0 k a b ((p ++ List.replicate (n + 1) 0).set ((i : Int)).toNat (sub64_s (rd a (i : Int)) y c)) (sub64_c (rd a (i : Int)) y c) (a.length : Int) (wrap64 ((i : Int) + 1))) (p ++ lessL (a.drop i) (b.drop i) c) := by
      intro y hy
      subst hy
      obtain ⟨e1, e2, e3⟩ := sub64_facts hxr hyr hc
      rw [hx, hset, w64 (by omega) (by omega)]
      have h := ih (i + 1) (p ++ [sub64_s a[i] ((b.drop i).getD 0 0) c]) (sub64_c a[i] ((b.drop i).getD 0 0) c) (by simp [hp]) (by omega) (by omega) e3
      refine h.congr (fun k => rfl) ?_
      rw [List.drop_eq_getElem_cons hlt]
      simp only [lessL, List.drop_drop, List.append_assoc, List.singleton_append]
    by_cases hib : i < b.length
    · refine Evt.ite_pos (by omega) (Evt.ite_pos (by omega) (Evt.ite_pos (by omega) (Evt.ite_pos (carry_of hc) (Evt.ite_pos (by simp; omega) ?_))))
      refine hfin _ ?_
      simp [rd_nat, hib]
    · refine Evt.ite_neg (by omega) (Evt.ite_pos (by omega) (Evt.ite_pos (by omega) (Evt.ite_pos (carry_of hc) (Evt.ite_pos (by simp; omega) ?_))))
      refine hfin _ ?_
      simp [List.drop_of_length_le (show b.length ≤ i by omega)]
theorem nat_less_ev (a b : List Int) (ha : a.length ≤ 1000) (hb : b.length ≤ a.length) (da : Dig (b64 : Int) a) (db : Dig (b64 : Int) b) (hle : num b ≤ num a) : ∃ s, Evt (fun k => nat_less.f k a b) s ∧ Dig (b64 : Int) s ∧ num s = num a - num b ∧ s.length = a.length := by
  refine ⟨lessL a b 0, ?_, ?_⟩
  · unfold nat_less.f
    refine Evt.ite_pos (by omega) (Evt.ite_pos (by omega) ?_)
    have h := nat_less_l0 a b ha (by omega) da db a.length 0 [] 0 rfl (Nat.zero_le _) (by omega) (Or.inl rfl)
    exact h.congr (fun k => by simp) (by simp)
  · obtain ⟨f1, t, ht, f2⟩ := lessL_facts a b 0 da db hb (Or.inl rfl)
    refine ⟨f1, ?_, lessL_len a b 0⟩
    have h1 := num_val f1
    have h2 := num_val da
    have h3 := num_val db
    have h4 := num_lt f1
    rw [lessL_len] at h4
    rw [pow_cast] at f2
    have ht0 : t = 0 := by
      by_cases e : t = 0
      · exact e
      · have h5 : ((b64 ^ a.length : Nat) : Int) * 1 ≤ ((b64 ^ a.length : Nat) : Int) * t := Int.mul_le_mul_of_nonneg_left (by omega) (by omega)
        omega
    subst ht0
    rw [Int.mul_zero] at f2
    omega
end Go.Proofs.Yteabkedhdgnhgab.Z

namespace Go.Proofs.Yteabkedhdgnhgab.Z
open Go.RowKit Go.Proofs.Yteabkedhdgnhgab.F Go.Proofs.YteabkedhdgnhgabW.PrintWords
set_option linter.unusedSimpArgs false
set_option linter.unusedVariables false
theorem num_strip {l : List Int} (d : Dig (b64 : Int) l) : num (strip l) = num l := by rw [strip_limbs d, num_limbs]
theorem num_split {l : List Int} (d : Dig (b64 : Int) l) (n : Nat) : num l = num (strip (l.take n)) + b64 ^ n * num (l.drop n) := by
  rw [num_strip (d.take n)]
  have h1 := num_val d
  have h2 := num_val (d.take n)
  have h3 := num_val (d.drop n)
  have h4 := val_append (b64 : Int) (l.take n) (l.drop n)
  rw [List.take_append_drop] at h4
  rcases Nat.le_total n l.length with h | h
  · have h5 : (l.take n).length = n := by rw [List.length_take]; omega
    rw [h5, ← h1, ← h2, ← h3, pow_cast, ← Int.natCast_mul] at h4
    omega
  · have h5 : num (l.drop n) = 0 := by rw [List.drop_of_length_le h]; rfl
    rw [h5, Nat.mul_zero, List.take_of_length_le h]
    rfl
theorem limbs_len {v n : Nat} (h : v < b64 ^ n) : (limbs v).length ≤ n := toD_len_le b64_two h
theorem limbs_dig (v : Nat) : Dig (b64 : Int) (limbs v) := toD_dig b64_two v
theorem limbs_mono {v w : Nat} (h : v ≤ w) : (limbs v).length ≤ (limbs w).length := by
  have h1 : w < b64 ^ (limbs w).length := toD_lt_pow b64_two w
  exact limbs_len (by omega)
theorem pow_pos64 (n : Nat) : 0 < b64 ^ n := Nat.pow_pos (by decide)
theorem mul_lt_pow {x y a b : Nat} (hx : x < b64 ^ a) (hy : y < b64 ^ b) : x * y < b64 ^ (a + b) := by
  rw [Nat.pow_add]
  exact Nat.mul_lt_mul'' hx hy
theorem kara_num {A B X a1 a0 b1 b0 : Nat} (hA : A = a0 + X * a1) (hB : B = b0 + X * b1) :
    a0 * b0 ≤ (a0 + a1) * (b0 + b1) ∧ a1 * b1 ≤ (a0 + a1) * (b0 + b1) - a0 * b0 ∧ A * B = a0 * b0 + X * ((a0 + a1) * (b0 + b1) - a0 * b0 - a1 * b1) + X * X * (a1 * b1) := by
  have e : (a0 + a1) * (b0 + b1) = a0 * b0 + (a0 * b1 + a1 * b0) + a1 * b1 := by grind
  rw [e]
  refine ⟨by omega, by omega, ?_⟩
  have e2 : a0 * b0 + (a0 * b1 + a1 * b0) + a1 * b1 - a0 * b0 - a1 * b1 = a0 * b1 + a1 * b0 := by omega
  rw [e2, hA, hB]
  grind
/-- All that the long way of the product comes by. -/
theorem kara_ev (l0 l1 : List Int) (h0 : l0.length ≤ 400) (h1 : l1.length ≤ 400) (h2 : 24 ≤ l0.length) (h3 : 24 ≤ l1.length) (d0 : Dig (b64 : Int) l0) (d1 : Dig (b64 : Int) l1) (n : Nat) (hn : n = (max l0.length l1.length + 1) / 2)
    (LA LB HA HB P Q O1 : List Int) (eLA : LA = strip (l0.take n)) (eLB : LB = strip (l1.take n)) (eHA : HA = l0.drop n) (eHB : HB = l1.drop n) (eP : P = limbs (num LA * num LB)) (eQ : Q = limbs (num HA * num HB))
    (eO : O1 = P.take (min P.length (l0.length + l1.length + 1)) ++ (List.replicate (l0.length + l1.length + 1) (0 : Int)).drop (min P.length (l0.length + l1.length + 1))) :
    (LA.length + LB.length < l0.length + l1.length ∧ LA.length ≤ 400 ∧ LB.length ≤ 400 ∧ Dig (b64 : Int) LA ∧ Dig (b64 : Int) LB) ∧
    (HA.length + HB.length < l0.length + l1.length ∧ HA.length ≤ 400 ∧ HB.length ≤ 400 ∧ Dig (b64 : Int) HA ∧ Dig (b64 : Int) HB) ∧
    ∃ S1 S2 T1 T2 M U U1 V V1 O2 O3 : List Int, (∃ k, nat_sum.f k LA HA = some S1) ∧ (∃ k, nat_sum.f k LB HB = some S2) ∧ T1 = strip S1 ∧ T2 = strip S2 ∧
      (T1.length + T2.length < l0.length + l1.length ∧ T1.length ≤ 400 ∧ T2.length ≤ 400 ∧ Dig (b64 : Int) T1 ∧ Dig (b64 : Int) T2) ∧ M = limbs (num T1 * num T2) ∧
      (∃ k, nat_less.f k M P = some U) ∧ U1 = strip U ∧ (∃ k, nat_less.f k U1 Q = some V) ∧ V1 = strip V ∧
      (∃ k, nat_into.f k O1 V1 (n : Int) = some O2) ∧ (∃ k, nat_into.f k O2 Q ((2 * n : Nat) : Int) = some O3) ∧ (∃ k, nat_trim.f k O3 = some (limbs (num l0 * num l1))) := by
  have lLA : LA.length ≤ n := by
    have := strip_length (l0.take n)
    rw [List.length_take] at this
    rw [eLA]; omega
  have lLB : LB.length ≤ n := by
    have := strip_length (l1.take n)
    rw [List.length_take] at this
    rw [eLB]; omega
  have lHA : HA.length ≤ n := by rw [eHA, List.length_drop]; omega
  have lHB : HB.length ≤ n := by rw [eHB, List.length_drop]; omega
  have lHA' : HA.length ≤ l0.length - n := by rw [eHA, List.length_drop]; omega
  have lHB' : HB.length ≤ l1.length - n := by rw [eHB, List.length_drop]; omega
  have dLA : Dig (b64 : Int) LA := by rw [eLA]; exact strip_dig (d0.take n)
  have dLB : Dig (b64 : Int) LB := by rw [eLB]; exact strip_dig (d1.take n)
  have dHA : Dig (b64 : Int) HA := by rw [eHA]; exact d0.drop n
  have dHB : Dig (b64 : Int) HB := by rw [eHB]; exact d1.drop n
  have sA : num l0 = num LA + b64 ^ n * num HA := by rw [eLA, eHA]; exact num_split d0 n
  have sB : num l1 = num LB + b64 ^ n * num HB := by rw [eLB, eHB]; exact num_split d1 n
  obtain ⟨k1, k2, k3⟩ := kara_num sA sB
  have pn : ∀ {l : List Int} {m : Nat}, Dig (b64 : Int) l → l.length ≤ m → num l < b64 ^ m := fun d h => Nat.lt_of_lt_of_le (num_lt d) (Nat.pow_le_pow_right (by decide) h)
  have vLA := pn dLA lLA
  have vLB := pn dLB lLB
  have vHA := pn dHA lHA
  have vHB := pn dHB lHB
  have hpn : b64 ^ n + b64 ^ n ≤ b64 ^ (n + 1) := by
    have hb2 := Nat.mul_le_mul_left (b64 ^ n) b64_two
    rw [Nat.pow_succ]
    omega
  obtain ⟨S1, e1, dS1, nS1, lS1⟩ := nat_sum_ev LA HA (by omega) (by omega) dLA dHA
  obtain ⟨S2, e2, dS2, nS2, lS2⟩ := nat_sum_ev LB HB (by omega) (by omega) dLB dHB
  have nT1 : num (strip S1) = num LA + num HA := by rw [num_strip dS1, nS1]
  have nT2 : num (strip S2) = num LB + num HB := by rw [num_strip dS2, nS2]
  have lT1 : (strip S1).length ≤ n + 1 := by rw [strip_limbs dS1]; exact limbs_len (by omega)
  have lT2 : (strip S2).length ≤ n + 1 := by rw [strip_limbs dS2]; exact limbs_len (by omega)
  obtain ⟨M, eM⟩ : ∃ M, M = limbs (num (strip S1) * num (strip S2)) := ⟨_, rfl⟩
  have nM : num M = (num LA + num HA) * (num LB + num HB) := by rw [eM, num_limbs, nT1, nT2]
  have nP : num P = num LA * num LB := by rw [eP, num_limbs]
  have nQ : num Q = num HA * num HB := by rw [eQ, num_limbs]
  have dM : Dig (b64 : Int) M := by rw [eM]; exact limbs_dig _
  have dP : Dig (b64 : Int) P := by rw [eP]; exact limbs_dig _
  have dQ : Dig (b64 : Int) Q := by rw [eQ]; exact limbs_dig _
  have lM : M.length ≤ (n + 1) + (n + 1) := by
    rw [eM]
    refine limbs_len (mul_lt_pow ?_ ?_)
    · rw [nT1]; omega
    · rw [nT2]; omega
  have lPM : P.length ≤ M.length := by
    rw [eP, eM]
    exact limbs_mono (by rw [nT1, nT2]; exact k1)
  obtain ⟨U, e3, dU, nU, lU⟩ := nat_less_ev M P (by omega) lPM dM dP (by rw [nP, nM]; exact k1)
  have nU1 : num (strip U) = (num LA + num HA) * (num LB + num HB) - num LA * num LB := by rw [num_strip dU, nU, nM, nP]
  have dU1 : Dig (b64 : Int) (strip U) := strip_dig dU
  have lU1 : (strip U).length ≤ M.length := by have := strip_length U; omega
  have lQU : Q.length ≤ (strip U).length := by
    rw [eQ, strip_limbs dU]
    refine limbs_mono ?_
    rw [← num_strip dU, nU1]
    exact k2
  obtain ⟨V, e4, dV, nV, lV⟩ := nat_less_ev (strip U) Q (by omega) lQU dU1 dQ (by rw [nQ, nU1]; exact k2)
  have nV1 : num (strip V) = (num LA + num HA) * (num LB + num HB) - num LA * num LB - num HA * num HB := by rw [num_strip dV, nV, nU1, nQ]
  have dV1 : Dig (b64 : Int) (strip V) := strip_dig dV
  obtain ⟨N, eN⟩ : ∃ N, N = l0.length + l1.length + 1 := ⟨_, rfl⟩
  rw [← eN] at eO
  have tot : num l0 * num l1 < b64 ^ N := by
    have h := mul_lt_pow (num_lt d0) (num_lt d1)
    exact Nat.lt_of_lt_of_le h (Nat.pow_le_pow_right (by decide) (by omega))
  have lP : P.length ≤ N := by
    rw [eP]
    refine limbs_len ?_
    rw [k3] at tot
    omega
  have eO' : O1 = P ++ List.replicate (N - P.length) 0 := by
    rw [eO, show min P.length N = P.length from by omega, List.take_length]
    congr 1
    exact List.drop_replicate
  have lO1 : O1.length = N := by rw [eO']; simp; omega
  have dO1 : Dig (b64 : Int) O1 := by rw [eO']; exact Dig.append.2 ⟨dP, Dig.replicate b64_pos _⟩
  have vO1 : val (b64 : Int) O1 = ((num LA * num LB : Nat) : Int) := by
    rw [eO', val_append, val_replicate, Int.mul_zero, Int.add_zero, ← num_val dP, nP]
  have c1 : ((b64 ^ n : Nat) : Int) = (b64 : Int) ^ n := (pow_cast b64 n).symm
  have cN : ((b64 ^ N : Nat) : Int) = (b64 : Int) ^ N := (pow_cast b64 N).symm
  have vV1 : val (b64 : Int) (strip V) = (((num LA + num HA) * (num LB + num HB) - num LA * num LB - num HA * num HB : Nat) : Int) := by rw [← num_val dV1, nV1]
  have vQ : val (b64 : Int) Q = ((num HA * num HB : Nat) : Int) := by rw [← num_val dQ, nQ]
  obtain ⟨O2, e5, dO2, lO2, vO2⟩ := nat_into_ev O1 (strip V) n (by omega) (by omega) dO1 dV1 (by
    rw [vO1, vV1, lO1, ← c1, ← cN, ← Int.natCast_mul, ← Int.natCast_add]
    apply Int.ofNat_lt.2
    rw [k3] at tot
    omega)
  have cc : ((b64 ^ n * b64 ^ n : Nat) : Int) = (b64 : Int) ^ (2 * n) := by
    rw [← Nat.pow_add, show n + n = 2 * n from by omega]
    exact (pow_cast b64 (2 * n)).symm
  have vO2' : val (b64 : Int) O2 = ((num LA * num LB + b64 ^ n * ((num LA + num HA) * (num LB + num HB) - num LA * num LB - num HA * num HB) : Nat) : Int) := by
    rw [vO2, vO1, vV1, ← c1, ← Int.natCast_mul, ← Int.natCast_add]
  obtain ⟨O3, e6, dO3, lO3, vO3⟩ := nat_into_ev O2 Q (2 * n) (by omega) (by omega) dO2 dQ (by
    rw [vO2', vQ, lO2, lO1, ← cc, ← cN, ← Int.natCast_mul, ← Int.natCast_add]
    apply Int.ofNat_lt.2
    rw [k3] at tot
    exact tot)
  have nO3 : num O3 = num l0 * num l1 := by
    have h := num_val dO3
    rw [vO3, vO2', vQ, ← cc, ← Int.natCast_mul, ← Int.natCast_add] at h
    rw [k3]
    exact Int.ofNat.inj h
  have e7 := nat_trim_ev O3 (by simp [maxLen]; omega)
  rw [strip_limbs dO3, nO3] at e7
  refine ⟨⟨by omega, by omega, by omega, dLA, dLB⟩, ⟨by omega, by omega, by omega, dHA, dHB⟩, S1, S2, strip S1, strip S2, M, U, strip U, V, strip V, O2, O3, e1.get, e2.get, rfl, rfl, ⟨by omega, by omega, by omega, strip_dig dS1, strip_dig dS2⟩, eM, e3.get, rfl, e4.get, rfl, e5.get, e6.get, e7.get⟩
end Go.Proofs.Yteabkedhdgnhgab.Z
