/- Proved: the law TapeTakes of layer 4: any bytes taken, one take behind the other, are as the document says; for every input, without a condition. -/
import Derived.Laws.Externs
import Derived.Test.YteabkedhdgnhgaaProg
import Derived.Below
import Derived.Deep.Draws
import Derived.Deep.AppendLies
import Derived.Maps.AppendAt
import Derived.OwnWalk
import Derived.Laws.BytesArg
import Derived.Laws.MakeOwn
import Derived.Laws.OwnMore
import Derived.Deep.OwnRows
import Derived.Tactics
import Derived.Lib.ConvBytes
import Derived.Laws.Slices
import Derived.WalkKit
import Derived.KernelRfl
import Derived.RowKit3
import Derived.Deep.LoopGhost
import Derived.Deep.QuietTactic
import Derived.BigQuiet
import Derived.WideLaws
import Derived.Deep.DeepCutAuto
import Derived.Deep.CutBlock
import Derived.Deep.RegionHeld3
import Derived.Laws.Rows
import Derived.Lib.AppendStr
import Derived.ArgAppend
import Derived.Laws.IdiomCopy
import Derived.OrdersHeld
import Derived.Laws.BitsLemmas
import Derived.RowKit
import Derived.Test.YteabkedhdgnhgaaWWords
import Derived.Test.YteabkedhdgnhgaaWLast
import Derived.Test.YteabkedhdgnhgaaWTab
import Derived.Test.YteabkedhdgnhgaaWFour
import Derived.Test.YteabkedhdgnhgaaWQPut
import Derived.Test.YteabkedhdgnhgaaWApart
import Derived.Test.YteabkedhdgnhgaaWArr
import Derived.Test.YteabkedhdgnhgaaWZeros
import Derived.Test.YteabkedhdgnhgaaWFoot
import Derived.Test.YteabkedhdgnhgaaWKept
import Derived.Test.YteabkedhdgnhgaaWShare
import Derived.Test.YteabkedhdgnhgaaWN
import Derived.Test.YteabkedhdgnhgaaWFootNe
import Derived.Test.YteabkedhdgnhgaaWAt
import Derived.Test.YteabkedhdgnhgaaWEqStruct
import Derived.Test.YteabkedhdgnhgaaWRepsOne
import Derived.Test.YteabkedhdgnhgaaWInv
import Derived.Test.YteabkedhdgnhgaaWInvWords
import Derived.Test.YteabkedhdgnhgaaWGuard
import Derived.Test.YteabkedhdgnhgaaWNEv
import Derived.Test.YteabkedhdgnhgaaWMore
import Derived.Deep.RegionLaw
import Derived.Test.YteabkedhdgnhgaaRows
import Derived.ProofKit
import Derived.OpenShut
import Derived.ShutString
import Derived.ChangeOld
import Derived.SizedLaws
import Derived.Test.YteabkedhdgnhgaaWSized

namespace Go.Proofs.Yteabkedhdgnhgaa.F
open Go.RowKit Go.Proofs.YteabkedhdgnhgaaW.PrintWords Go.Proofs.YteabkedhdgnhgaaW.PrintLast Go.Proofs.YteabkedhdgnhgaaW.PrintMore
attribute [local go_sem] max2_int min2_int max_two min_two max_three min_three max_four min_four   -- for this text's walks alone
set_option linter.unusedVariables false
set_option linter.unusedSimpArgs false



def errW : Option Int → Value
  | none => .nilIface
  | some c => .iface 0 (.int .i64 c)
theorem errW_none : errW none = .nilIface := rfl
theorem errW_some (c : Int) : errW (some c) = .iface 0 (.int .i64 c) := rfl

/-- make([]T, 0, c): nothing yet, with room. -/
theorem R_make0 {P : Program} {ops : Array Oper} {rest : List Oper} {o : Oper} {a : Act} {Q : Exit → Act → World → Prop} {α : Type} (d : Kd α) {w0 W : World} (base e : Nat) (hgd : o.guard = none) {N : Tmp} (_hd : o.dst = some N) (t : TypeId) (x y : Operand) (ho : o.op = .makeSlice t x y) (c : Nat) (hx : a.eval x = .int .i64 0) (hy : a.eval y = .int .i64 (c : Int))
    (ht : P.underlying t = some (.slice e)) (z : Value) (bytes : Nat) (hinfo : (P.info? e).map (fun i => (i.zero, i.size, i.bytes)) = some (some z, d.sz, bytes)) (z0 : α) {ok : Nat → Prop} (hfresh : ok W.heap.size) (hl : c * bytes ≤ 281474976710656) (hc : c ≤ 9223372036854775807) (HB : Below base w0 W) (hbase : base ≤ W.heap.size)
    (h : ∀ v1 w1, d.R e w1 base ok v1 (List.replicate (0 : Int).toNat z0) → Below base w0 w1 → W.grownBy w1 none → (∃ b, v1.ownBlock = some b ∧ W.heap.size ≤ b) → wpList P ops Q rest (a.put o.dst v1) w1) : wpList P ops Q (o :: rest) a W := by
  obtain ⟨i0, hi, hzz⟩ := Option.map_eq_some_iff.1 hinfo
  simp only [Prod.mk.injEq] at hzz
  obtain ⟨hz0, hz1, hz2⟩ := hzz
  have hr := run_make (P := P) W t e i0 z ht hi hz0 .i64 .i64 0 (c : Int) (Int.le_refl _) (by omega)
    (by
      have h3 : ((i0.bytes * c : Nat) : Int) ≤ 281474976710656 := by rw [hz2, Nat.mul_comm]; omega
      rwa [Int.natCast_mul] at h3) (by omega)
  simp only [Int.toNat_natCast] at hr
  rw [hz1] at hr
  refine Kd.event_run hgd (w1 := W.alloc (.cells (madeCells z.cells (c * d.sz)) e)) (v := .slice (some ⟨W.heap.size, 0, none⟩) 0 c) ?_ (h _ _ ⟨fun k hk => ?_, [], ?_, ?_⟩ (HB.alloc hbase _) (World.grownBy_alloc W _ none) ⟨W.heap.size, by simp [Value.ownBlock], Nat.le_refl _⟩)
  · simp [execOp, ho, hx, hy, hr]
  · have : W.heap.size = k := by simpa [Value.ownBlock] using hk
    subst this
    exact hfresh
  · simpa using World.ownsRow_made (base := base) (e := e) (size := d.sz) W _ c hbase (by simpa [maxLen] using hc) (size_madeCells _ _)
  · exact ⟨by simp, fun j p hj => by simp at hj⟩

/-- A slice against nil. -/
theorem clone_eq {P : Program} (w : World) (d : Nat) (t e : TypeId) (a : Option Addr) (n c n' c' : Nat) (h : P.underlying t = some (.slice e)) : (Op.equalIn (d + 1) t (.slice a n c) (.slice none n' c')).run P w = .ok a.isNone w := by
  cases a <;> simp [Op.equalIn, run_underlying h]
theorem clone_nil {P : Program} {t e : TypeId} (h : P.underlying t = some (.slice e)) (w : World) (a : Option Addr) (n c n' c' : Nat) : (binOp .eql t (.slice a n c) (.slice none n' c')).run P w = .ok (.bool a.isNone) w := by
  simp only [binOp]
  simp [Op.equal, Op.maxDepth, clone_eq w 9999 t e a n c n' c' h]

/-- '[]byte(s)': a row that is read only (its block bears the conversion's mark), told by the blocks it lies in: all of them new. -/
theorem V_bytes {P : Program} {ops : Array Oper} {rest : List Oper} {o : Oper} {a : Act} {Q : Exit → Act → World → Prop} {w0 W : World} (base e : Nat) (hgd : o.guard = none) {N : Tmp} (_hd : o.dst = some N) (s : ByteArray) (hs : s.size ≤ 9223372036854775807)
    (hrun : (execOp a.eval o).run P W = .ok (.value (.slice (some ⟨W.heap.size, 0, none⟩) s.size (grownCap W s.size 0 e))) (Go.Lib.bytesWorld W e s)) (HB : Below base w0 W) (hbase : base ≤ W.heap.size)
    (h : ∀ v1 w1, Kd.V (Kd.int .u8) e w1 base (fun k_ => W.heap.size ≤ k_) v1 (bytesOf s) → Below base w0 w1 → W.grownBy w1 none → (∀ k, v1.ownBlock = some k → W.heap.size ≤ k) → wpList P ops Q rest (a.put o.dst v1) w1) : wpList P ops Q (o :: rest) a W := by
  have hb : Below W.heap.size W (Go.Lib.bytesWorld W e s) := bytes_below (Below.refl _ _) (Nat.le_refl _) e s
  refine Kd.event_run hgd hrun (h _ _ ⟨some ⟨W.heap.size, 0, none⟩, grownCap W s.size 0 e, by rw [bytesOf_length], by rw [bytesOf_length]; exact grownCap_ge W s.size 0 e, ?_⟩ (bytes_below HB hbase e s) (grown_of_below hb none) ?_)
  · intro W' hW
    have hr := bytes_reads W e s hs
    refine Kd.C_of_reads (d := (0 : Int)) (h1 := fun _ => rfl) ⟨rfl, by rw [bytesOf_length]; exact hs, fun hn => ⟨_, rfl, fun j hj => ?_⟩⟩
    rw [bytesOf_length] at hj
    obtain ⟨ad, he, hc⟩ := hr.2.2 (by omega)
    obtain rfl := Option.some.inj he
    have h2 := hc j hj
    have h3 : W'.heap[W.heap.size]? = (Go.Lib.bytesWorld W e s).heap[W.heap.size]? := hW _ (Nat.le_refl _) (by rw [Go.Lib.bytesWorld_size]; omega)
    rw [add_plain] at h2 ⊢
    rw [← h2]
    simp only [World.cell?, h3]
  · intro k hk
    have : W.heap.size = k := by simpa [Value.ownBlock] using hk
    omega

theorem u64_u8 (z : Int) : IntKind.u64.wrap (IntKind.u8.wrap z) = z % 256 := by
  simp [IntKind.wrap, IntKind.bits, IntKind.signed]
  omega

/-- A carry that may be. -/
def carry01 (c : Int) : Bool := decide (c = 0 ∨ c = 1)
def add64_s (x y c : Int) : Int := ((x.toNat + y.toNat + c.toNat) % 18446744073709551616 : Nat)
def add64_c (x y c : Int) : Int := ((x.toNat + y.toNat + c.toNat) / 18446744073709551616 : Nat)
def sub64_s (x y c : Int) : Int := ((x.toNat + 18446744073709551616 - y.toNat - c.toNat) % 18446744073709551616 : Nat)
def sub64_c (x y c : Int) : Int := (if x.toNat < y.toNat + c.toNat then 1 else 0 : Nat)
def add64Entry_ : Array Value → Sem Value := (Extern.MathBitsCarry.rows.get ⟨0, by decide⟩).2
def sub64Entry_ : Array Value → Sem Value := (Extern.MathBitsCarry.rows.get ⟨1, by decide⟩).2
theorem carry_cases {c : Int} (h : carry01 c = true) : c = 0 ∨ c = 1 := of_decide_eq_true h
theorem add64_any {P : Program} {f : FuncId} {fn : Func} (hf : P.funcs[f]? = some fn) (hname : (fn.name == "runtime.NumGoroutine") = false) (hb : fn.body.isNone = true) (hn : Extern.findNext fn = none) (he : Extern.find fn = some add64Entry_) (x y c : Int) (w : World) (h : carry01 c = true) :
    (callFunc f #[.int .u64 x, .int .u64 y, .int .u64 c]).run P w = .ok (.value (.tuple #[.int .u64 (add64_s x y c), .int .u64 (add64_c x y c)])) w := by
  rw [run_callFunc_extern hf hname hb hn he]
  rcases carry_cases h with rfl | rfl <;> rfl
theorem sub64_any {P : Program} {f : FuncId} {fn : Func} (hf : P.funcs[f]? = some fn) (hname : (fn.name == "runtime.NumGoroutine") = false) (hb : fn.body.isNone = true) (hn : Extern.findNext fn = none) (he : Extern.find fn = some sub64Entry_) (x y c : Int) (w : World) (h : carry01 c = true) :
    (callFunc f #[.int .u64 x, .int .u64 y, .int .u64 c]).run P w = .ok (.value (.tuple #[.int .u64 (sub64_s x y c), .int .u64 (sub64_c x y c)])) w := by
  rw [run_callFunc_extern hf hname hb hn he]
  rcases carry_cases h with rfl | rfl <;> rfl

theorem add64_run (x y c : Int) (w : World) (h : carry01 c = true) : (callFunc 27 #[.int .u64 x, .int .u64 y, .int .u64 c]).run Try.prog w = .ok (.value (.tuple #[.int .u64 (add64_s x y c), .int .u64 (add64_c x y c)])) w := add64_any Try.func27 (by kernel_rfl) (by kernel_rfl) (by kernel_rfl) (by kernel_rfl) x y c w h
theorem info5 : (Try.prog.info? 5).map (fun i => (i.zero, i.size, i.bytes)) = some (some (.int .u8 0), 1, 1) := by kernel_rfl
theorem info34 : (Try.prog.info? 34).map (fun i => (i.zero, i.size, i.bytes)) = some (some (.int .u64 0), 1, 8) := by kernel_rfl
-- the values' own types
def rd_L1 (xs : List (List Int)) (i : Int) : (List Int) := xs.getD i.toNat ([] : List Int)
theorem at_L1 {w : World} {A : Option Addr} {n : Nat} {xs : List (List Int)} (h : Kd.C (Kd.slice 5 (Kd.int .u8)) w A n xs) (i : Int) (h0 : 0 ≤ i) (h1 : i < n) : ∃ ad A0 c0, A = some ad ∧ w.cell? (ad.add i.toNat) = some (.slice A0 (rd_L1 xs i).length c0) ∧ (rd_L1 xs i).length ≤ c0 ∧ (Kd.int .u8).C w A0 (rd_L1 xs i).length (rd_L1 xs i) := by
  obtain ⟨ad, c, e, _, hK, hc0⟩ := Kd.C_get h ([] : List Int) i h0 h1
  have hc : ∀ j u, c[j]? = some u → w.cell? (ad.add (i.toNat * 1 + j)) = some u := hc0
  obtain ⟨A0, c0, rfl, l0, g0⟩ := hK
  exact ⟨ad, A0, c0, e, by have hq := hc 0 _ rfl; rwa [Nat.mul_one, Nat.add_zero] at hq, l0, g0⟩

def rd_L4 (xs : List (List Int)) (i : Int) : (List Int) := xs.getD i.toNat ([] : List Int)
theorem at_L4 {w : World} {A : Option Addr} {n : Nat} {xs : List (List Int)} (h : Kd.C (Kd.slice 3 (Kd.int .i64)) w A n xs) (i : Int) (h0 : 0 ≤ i) (h1 : i < n) : ∃ ad A0 c0, A = some ad ∧ w.cell? (ad.add i.toNat) = some (.slice A0 (rd_L4 xs i).length c0) ∧ (rd_L4 xs i).length ≤ c0 ∧ (Kd.int .i64).C w A0 (rd_L4 xs i).length (rd_L4 xs i) := by
  obtain ⟨ad, c, e, _, hK, hc0⟩ := Kd.C_get h ([] : List Int) i h0 h1
  have hc : ∀ j u, c[j]? = some u → w.cell? (ad.add (i.toNat * 1 + j)) = some u := hc0
  obtain ⟨A0, c0, rfl, l0, g0⟩ := hK
  exact ⟨ad, A0, c0, e, by have hq := hc 0 _ rfl; rwa [Nat.mul_one, Nat.add_zero] at hq, l0, g0⟩

end Go.Proofs.Yteabkedhdgnhgaa.F

namespace Go.Proofs.Yteabkedhdgnhgaa.F
open Go.RowKit Go.Proofs.YteabkedhdgnhgaaW.PrintWords Go.Proofs.YteabkedhdgnhgaaW.PrintLast Go.Proofs.YteabkedhdgnhgaaW.PrintMore
attribute [local go_sem] max2_int min2_int max_two min_two max_three min_three max_four min_four   -- for this text's walks alone
set_option linter.unusedVariables false
set_option linter.unusedSimpArgs false

/-! ### slices_Clone_byte_byte: function 23 -/
def slices_Clone_byte_byte.f (l0 : List Int) : Option (List Int) := ((some (([] : List Int) : List Int)).bind fun y101 => (if y101.length + l0.length < 140737488355328 then (some (y101 ++ l0)) else (none)))
set_option maxHeartbeats 8000000 in
set_option maxRecDepth 100000 in
theorem slices_Clone_byte_byte.calls (A0 : Option Addr) (c0 : Nat) (l0 : List Int) (r : List Int) (w : World) (hr0 : Kd.C (Kd.int .u8) w A0 l0.length l0) (hc0 : l0.length ≤ c0) (h : slices_Clone_byte_byte.f l0 = some r) :
    Calls Try.prog 23 #[.slice A0 l0.length c0] w fun e w' => ∃ v0_ : Value, e = .returned (v0_) ∧ Kd.R (Kd.int .u8) 5 w' w.heap.size (fun _ => True) v0_ r ∧ Below w.heap.size w w' := by
  have HR0 := Aside0.mk hr0
  have HC0 := Aside0.mk hc0
  clear hr0 hc0
  have HB := Aside0.mk (Below.refl w.heap.size w)
  have H : ((some (([] : List Int) : List Int)).bind fun y101 => (if y101.length + l0.length < 140737488355328 then (some (y101 ++ l0)) else (none))) = some r := h
  clear h
  have hnil_ := clone_nil (P := Try.prog) Try.underlying22
  cases A0 with
  | none =>
    have hl0 : l0 = [] := by
      by_cases e : 0 < l0.length
      · obtain ⟨_, h_, _⟩ := HR0.out.2.2 e; cases h_
      · exact List.length_eq_zero_iff.1 (by omega)
    subst hl0
    obtain rfl : [] = r := by simpa using H
    clear H
    go_enter Try.func23, Try.ntmps23
    go_wp2
    go_ret
    exact ⟨_, by first | rfl | (simp [errW_none, errW_some] <;> rfl) | (simp [*, errW_none, errW_some] <;> rfl), by first | exact Kd.R_nil _ _ _ _ _ | exact Kd.N_nil _ _ _ _ _ | exact Kd.V_nil _ _ _ _ _ | exact Kd.Q_nil _ _ _ _ _ | exact Kd.S_nil _ _ _ _ _, by repeat (first | (with_reducible first | exact HB.out | apply below_alloc | apply pw_below_drewN | apply below_drew1) | exact HB.out)⟩
  | some a0_ =>
    obtain ⟨y101, hy101⟩ : ∃ y_ : List Int, y_ = (([] : List Int)) := ⟨_, rfl⟩
    replace H : (if y101.length + l0.length < 140737488355328 then (some (y101 ++ l0)) else (none)) = some r := by first | (rw [hy101]; with_reducible exact H) | (have H2_ := (Option.bind_some _ _).symm.trans H; rw [hy101]; with_reducible exact H2_) | (have H2_ := (Option.bind_some _ _).symm.trans H; with_reducible exact H2_) | with_reducible exact H | (rw [hy101]; exact H) | exact H
    have Ny101 := Aside0.mk hy101
    clear hy101
    by_cases c3 : y101.length + l0.length < 140737488355328
    · rw [if_pos c3] at H
      have LMc3 := Aside0.mk c3
      clear c3
      obtain ⟨y104, hy104⟩ : ∃ y_ : List Int, y_ = (y101 ++ l0) := ⟨_, rfl⟩
      replace H : (some y104) = some r := by first | (rw [hy104]; with_reducible exact H) | (have H2_ := (Option.bind_some _ _).symm.trans H; rw [hy104]; with_reducible exact H2_) | (have H2_ := (Option.bind_some _ _).symm.trans H; with_reducible exact H2_) | with_reducible exact H | (rw [hy104]; exact H) | exact H
      have Ny104 := Aside0.mk hy104
      clear hy104
      obtain rfl := Option.some.inj H
      go_enter Try.func23, Try.ntmps23
      go_wp2_with (first | ((with_reducible refine gate_dst (N := 5) rfl ?_); refine Kd.R_lit (Kd.int .u8) _ 5 ?hg (N := 5) ?hd (xs := ([] : List Int)) (inner := []) (ok := fun _ => True) (okp := fun _ => True) ?hr ?hp (fun _ hk => hk) trivial (Below.refl _ _) (Nat.le_refl _) (by simp) ?_; (case hd => rfl); (case hg => rfl); (case hr => first | (go_simp; done) | (go_simp; rfl) | (go_simp; simp only [u64_u8]; done) | (go_simp; simp only [u64_u8]; rfl)); (case hp => exact (Reps.none _ _)); intro v102 w4 ho5 hb hg_ hnew_; clear hg_ hnew_; (first | rw [← Ny101.out] at ho5 | (simp only [Int.reduceToNat] at ho5; rw [← Ny101.out] at ho5)); have n0_ := Aside0.mk (Kd.R_lower ho5 (below_size (by repeat (first | (with_reducible first | exact HB.out | apply below_alloc | apply pw_below_drewN | apply below_drew1) | exact HB.out)))); have n1_ := Aside0.mk (below_step (by repeat (first | (with_reducible first | exact HB.out | apply below_alloc | apply pw_below_drewN | apply below_drew1) | exact HB.out)) hb); clear HB; have HO103 := n0_; have HB := n1_; clear n0_ n1_; clear hb ho5) | ((with_reducible refine gate_builtin (b := .append) (xs := #[.tmp 5, .tmp 6]) rfl ?_); at_builtin; refine Kd.R_append_rows (Kd.int .u8) (w0 := w) w.heap.size rfl (.tmp 5) (.tmp 6) 22 5 (.int .u8 0) 1 rfl Try.underlying22 info5 rfl (by decide) (by omega) v102 y101 l0 _ _ _ (fun _ => True) (fun _ => False) rfl rfl ?aO ?aR (fun _ _ h => h) (fun _ h => h.elim) ?aF ?aB ?aS ?aL ?_; (case aR => repeat (first | exact (Kd.C_below HR0.out HB.out) | (with_reducible refine Kd.C_alloc ?_ _) | (with_reducible refine Kd.C_drewN ?_ _) | (with_reducible refine Kd.C_drew ?_))); (case aB => exact (by repeat (first | (with_reducible first | exact HB.out | apply below_alloc | apply pw_below_drewN | apply below_drew1) | exact HB.out))); (case aF => exact (fun _ _ => trivial)); (case aO => exact (by (with_reducible repeat (first | apply Kd.R_alloc | apply Kd.R_drewN | apply Kd.R_drew)); exact HO103.out)); (case aS => exact (below_size (by repeat (first | (with_reducible first | exact HB.out | apply below_alloc | apply pw_below_drewN | apply below_drew1) | exact HB.out)))); (case aL => have := LMc3.out; omega); intro v105 w6 ho hb hg hat; rw [← Ny104.out] at ho; have n0_ := Aside0.mk (hb); have n1_ := Aside0.mk (ho); clear HB; clear HO103; have HB := n0_; have HO106 := n1_; clear n0_ n1_; clear ho hb hg hat))
      go_ret
      exact ⟨_, by first | rfl | (simp [errW_none, errW_some] <;> rfl) | (simp [*, errW_none, errW_some] <;> rfl), by (with_reducible repeat (first | apply Kd.R_alloc | apply Kd.R_drewN | apply Kd.R_drew)); exact HO106.out, by repeat (first | (with_reducible first | exact HB.out | apply below_alloc | apply pw_below_drewN | apply below_drew1) | exact HB.out)⟩
    · rw [if_neg c3] at H
      exact absurd H (by simp)

end Go.Proofs.Yteabkedhdgnhgaa.F

namespace Go.Proofs.Yteabkedhdgnhgaa.F
open Go.RowKit Go.Proofs.YteabkedhdgnhgaaW.PrintWords Go.Proofs.YteabkedhdgnhgaaW.PrintLast Go.Proofs.YteabkedhdgnhgaaW.PrintMore
set_option linter.unusedVariables false
set_option linter.unusedSimpArgs false
theorem heap_new (w : World) (o : Obj) : (w.alloc o).heap[w.heap.size]? = some o := by
  show (w.heap.push o)[w.heap.size]? = _
  simp
/-- A tape at block g, of which l is left: its row lies in the blocks ok. -/
def Tp (w : World) (g : Nat) (ok : Nat → Prop) (l : List Int) : Prop := ∃ A c, w.heap[g]? = some (.cells #[.slice A l.length c] 51 (0, 0)) ∧ l.length ≤ c ∧ Kd.F (Kd.int .u8) w ok A l.length l
/-- The document's tape: all of its bytes, and how many are used. -/
def Tp2 (w : World) (g : Nat) (ok : Nat → Prop) (l : List Int) (u : Int) : Prop := ∃ A c, w.heap[g]? = some (.cells #[.slice A l.length c, .int .i64 u] 54 (0, 0)) ∧ l.length ≤ c ∧ Kd.F (Kd.int .u8) w ok A l.length l
/-- A tape of the bytes l at the world w, made behind base. -/
def TapeAt (w : World) (base : Nat) (p : Option Addr) (l : List Int) : Prop := ∃ g, p = some ⟨g, 0, none⟩ ∧ base ≤ g ∧ Tp w g (fun k => base ≤ k ∧ k < g) l
set_option maxHeartbeats 8000000 in
set_option maxRecDepth 100000 in
theorem tape_New.calls (A0 : Option Addr) (c0 : Nat) (l0 : List Int) (w : World) (hr0 : Kd.C (Kd.int .u8) w A0 l0.length l0) (hc0 : l0.length ≤ c0) :
    Calls Try.prog 21 #[.slice A0 l0.length c0] w fun e w' => ∃ p : Option Addr, e = .returned (.tuple #[.pointer p, .int .i64 (if (l0.length : Int) > 65536 then 1 else 0)]) ∧ (if (l0.length : Int) > 65536 then p = none else TapeAt w' w.heap.size p l0) ∧ Below w.heap.size w w' := by
  have HR0 := Aside0.mk hr0
  have HC0 := Aside0.mk hc0
  clear hr0 hc0
  by_cases c2 : (l0.length : Int) > 65536
  · rw [if_pos c2]
    have c2b0 : decide (65536 < (l0.length : Int)) = true := decide_eq_true c2
    go_enter Try.func21, Try.ntmps21
    go_wp2
    go_ret2
    exact ⟨none, rfl, by first | rfl | rw [if_pos c2], Below.refl _ _⟩
  · rw [if_neg c2]
    have c2b0 : decide (65536 < (l0.length : Int)) = false := decide_eq_false c2
    have A3 := Aside0.mk (show slices_Clone_byte_byte.f l0 = some l0 from by
      unfold slices_Clone_byte_byte.f
      simp only [Option.bind_some, List.length_nil, List.nil_append]
      rw [if_pos (by omega)])
    go_enter Try.func21, Try.ntmps21
    go_wp2_with (go_at_call 23; (with_reducible refine (slices_Clone_byte_byte.calls _ _ l0 l0 _ HR0.out HC0.out A3.out).mono ?_); rintro e w1 ⟨v1, rfl, ho1, hb1⟩; obtain ⟨A1_, c1_, rfl⟩ := Kd.R_slice ho1; have HO := Aside0.mk ho1; have HB := Aside0.mk hb1; clear ho1 hb1)
    go_ret2
    refine ⟨some ⟨w1.heap.size, 0, none⟩, rfl, ?_, below_alloc HB.out _⟩
    refine ⟨w1.heap.size, rfl, below_size HB.out, A1_, c1_, heap_new w1 _, (Kd.R_reads' HO.out).2.1, ?_⟩
    exact Kd.F_alloc (Kd.V_at (base := w.heap.size) (Kd.R_V (Kd.R_mono (Kd.R_bound HO.out) (fun k hk => ⟨hk.2.1, hk.2.2.1⟩)))).2.2 _
/-- The document's tape. -/
def TapeAt2 (w : World) (base : Nat) (p : Option Addr) (l : List Int) (u : Int) : Prop := ∃ g, p = some ⟨g, 0, none⟩ ∧ base ≤ g ∧ Tp2 w g (fun k => base ≤ k ∧ k < g) l u
set_option maxHeartbeats 8000000 in
set_option maxRecDepth 100000 in
theorem tape_New2.calls (A0 : Option Addr) (c0 : Nat) (l0 : List Int) (w : World) (hr0 : Kd.C (Kd.int .u8) w A0 l0.length l0) (hc0 : l0.length ≤ c0) :
    Calls Try.prog 22 #[.slice A0 l0.length c0] w fun e w' => ∃ p : Option Addr, e = .returned (.tuple #[.pointer p, .int .i64 (if (l0.length : Int) > 65536 then 1 else 0)]) ∧ (if (l0.length : Int) > 65536 then p = none else TapeAt2 w' w.heap.size p l0 0) ∧ Below w.heap.size w w' := by
  have HR0 := Aside0.mk hr0
  have HC0 := Aside0.mk hc0
  clear hr0 hc0
  have HB := Aside0.mk (Below.refl w.heap.size w)
  by_cases c2 : (l0.length : Int) > 65536
  · rw [if_pos c2]
    have c2b0 : decide (65536 < (l0.length : Int)) = true := decide_eq_true c2
    go_enter Try.func22, Try.ntmps22
    go_wp2
    go_ret2
    exact ⟨none, rfl, by first | rfl | rw [if_pos c2], Below.refl _ _⟩
  · rw [if_neg c2]
    have c2b0 : decide (65536 < (l0.length : Int)) = false := decide_eq_false c2
    have LM := Aside0.mk (show l0.length ≤ 65536 by omega)
    go_enter Try.func22, Try.ntmps22
    go_wp2_with (first | ((with_reducible refine gate_dst (N := 7) rfl ?_); refine Kd.R_lit (Kd.int .u8) _ 5 ?hg (N := 7) ?hd (xs := ([] : List Int)) (inner := []) (ok := fun _ => True) (okp := fun _ => True) ?hr ?hp (fun _ hk => hk) trivial (Below.refl _ _) (Nat.le_refl _) (by simp) ?_; (case hd => rfl); (case hg => rfl); (case hr => first | (go_simp; done) | (go_simp; rfl)); (case hp => exact (Reps.none _ _)); intro v110 w4 ho5 hb hg_ hnew_; clear hg_ hnew_; have n0_ := Aside0.mk (Kd.R_lower ho5 (below_size (by repeat (first | (with_reducible first | exact HB.out | apply below_alloc | apply pw_below_drewN | apply below_drew1) | exact HB.out)))); have n1_ := Aside0.mk (below_step (by repeat (first | (with_reducible first | exact HB.out | apply below_alloc | apply pw_below_drewN | apply below_drew1) | exact HB.out)) hb); clear HB; have HO111 := n0_; have HB := n1_; clear n0_ n1_; clear hb ho5) | ((with_reducible refine gate_builtin (b := .append) (xs := #[.tmp 7, .tmp 8]) rfl ?_); at_builtin; refine Kd.R_append_rows (Kd.int .u8) (w0 := w) w.heap.size rfl (.tmp 7) (.tmp 8) 22 5 (.int .u8 0) 1 rfl Try.underlying22 info5 rfl (by decide) (by omega) v110 [] l0 _ _ _ (fun _ => True) (fun _ => False) rfl rfl ?aO ?aR (fun _ _ h => h) (fun _ h => h.elim) ?aF ?aB ?aS ?aL ?_; (case aR => repeat (first | exact (Kd.C_below HR0.out HB.out) | (with_reducible refine Kd.C_alloc ?_ _) | (with_reducible refine Kd.C_drewN ?_ _) | (with_reducible refine Kd.C_drew ?_))); (case aB => exact (by repeat (first | (with_reducible first | exact HB.out | apply below_alloc | apply pw_below_drewN | apply below_drew1) | exact HB.out))); (case aF => exact (fun _ _ => trivial)); (case aO => exact (by (with_reducible repeat (first | apply Kd.R_alloc | apply Kd.R_drewN | apply Kd.R_drew)); exact HO111.out)); (case aS => exact (below_size (by repeat (first | (with_reducible first | exact HB.out | apply below_alloc | apply pw_below_drewN | apply below_drew1) | exact HB.out)))); (case aL => have := LM.out; simp only [List.length_nil]; omega); intro v113 w6 ho hb hg hat; rw [List.nil_append] at ho; obtain ⟨A1_, c1_, rfl⟩ := Kd.R_slice ho; have n0_ := Aside0.mk (hb); have n1_ := Aside0.mk (ho); clear HB; clear HO111; have HB := n0_; have HO114 := n1_; clear n0_ n1_; clear ho hb hg hat))
    go_ret2
    refine ⟨some ⟨w6.heap.size, 0, none⟩, rfl, ?_, below_alloc HB.out _⟩
    refine ⟨w6.heap.size, rfl, below_size HB.out, A1_, c1_, heap_new w6 _, (Kd.R_reads' HO114.out).2.1, ?_⟩
    exact Kd.F_alloc (Kd.V_at (base := w.heap.size) (Kd.R_V (Kd.R_mono (Kd.R_bound HO114.out) (fun k hk => ⟨hk.2.1, hk.2.2.1⟩)))).2.2 _
end Go.Proofs.Yteabkedhdgnhgaa.F

namespace Go.Proofs.Yteabkedhdgnhgaa.F
open Go.RowKit Go.Proofs.YteabkedhdgnhgaaW.PrintWords Go.Proofs.YteabkedhdgnhgaaW.PrintLast Go.Proofs.YteabkedhdgnhgaaW.PrintMore
set_option linter.unusedVariables false
set_option linter.unusedSimpArgs false
theorem Tp.below {w w1 : World} {g : Nat} {ok : Nat → Prop} {l : List Int} (h : Tp w g ok l) (hb : Below w.heap.size w w1) : Tp w1 g ok l := by
  obtain ⟨A, c, h1, h2, h3⟩ := h
  exact ⟨A, c, (hb.block g (blk_lt h1)).trans h1, h2, Kd.F_below h3 hb⟩
theorem Tp2.below {w w1 : World} {g : Nat} {ok : Nat → Prop} {l : List Int} {u : Int} (h : Tp2 w g ok l u) (hb : Below w.heap.size w w1) : Tp2 w1 g ok l u := by
  obtain ⟨A, c, h1, h2, h3⟩ := h
  exact ⟨A, c, (hb.block g (blk_lt h1)).trans h1, h2, Kd.F_below h3 hb⟩
theorem TapeAt.below {w w1 : World} {base : Nat} {p : Option Addr} {l : List Int} (h : TapeAt w base p l) (hb : Below w.heap.size w w1) : TapeAt w1 base p l := by
  obtain ⟨g, hp, hg, hc⟩ := h
  exact ⟨g, hp, hg, hc.below hb⟩
theorem TapeAt.lower {w : World} {base base' : Nat} {p : Option Addr} {l : List Int} (h : TapeAt w base p l) (hb : base' ≤ base) : TapeAt w base' p l := by
  obtain ⟨g, hp, hg, A, c, h1, h2, h3⟩ := h
  exact ⟨g, hp, Nat.le_trans hb hg, A, c, h1, h2, Kd.F_mono h3 (fun k hk => ⟨Nat.le_trans hb hk.1, hk.2⟩)⟩
theorem TapeAt2.below {w w1 : World} {base : Nat} {p : Option Addr} {l : List Int} {u : Int} (h : TapeAt2 w base p l u) (hb : Below w.heap.size w w1) : TapeAt2 w1 base p l u := by
  obtain ⟨g, hp, hg, hc⟩ := h
  exact ⟨g, hp, hg, hc.below hb⟩
theorem TapeAt2.lower {w : World} {base base' : Nat} {p : Option Addr} {l : List Int} {u : Int} (h : TapeAt2 w base p l u) (hb : base' ≤ base) : TapeAt2 w base' p l u := by
  obtain ⟨g, hp, hg, A, c, h1, h2, h3⟩ := h
  exact ⟨g, hp, Nat.le_trans hb hg, A, c, h1, h2, Kd.F_mono h3 (fun k hk => ⟨Nat.le_trans hb hk.1, hk.2⟩)⟩
set_option maxHeartbeats 8000000 in
set_option maxRecDepth 100000 in
theorem tape_fresh.long (A0 : Option Addr) (c0 : Nat) (l0 : List Int) (w : World) (hr0 : Kd.C (Kd.int .u8) w A0 l0.length l0) (hc0 : l0.length ≤ c0) (c2 : (l0.length : Int) > 65536) :
    Calls Try.prog 9 #[.slice A0 l0.length c0] w fun e w' => e = .returned (.tuple #[.pointer none, .pointer none, .bool true]) ∧ Below w.heap.size w w' := by
  have HR0 := Aside0.mk hr0
  have HC0 := Aside0.mk hc0
  clear hr0 hc0
  have HB := Aside0.mk (Below.refl w.heap.size w)
  have C2 := Aside0.mk c2
  clear c2
  go_enter Try.func9, Try.ntmps9
  go_wp2_with (first | (go_at_call 21; (with_reducible refine (tape_New.calls _ _ l0 _ ?side1 HC0.out).mono ?_); (case side1 => repeat (first | exact (Kd.C_below HR0.out HB.out) | (with_reducible refine Kd.C_alloc ?_ _) | (with_reducible refine Kd.C_drewN ?_ _) | (with_reducible refine Kd.C_drew ?_))); rintro e w1 ⟨p, rfl, hp, hb⟩; rw [if_pos C2.out] at hp ⊢; subst hp; have n1_ := Aside0.mk (below_step (by repeat (first | (with_reducible first | exact HB.out | apply below_alloc | apply pw_below_drewN | apply below_drew1) | exact HB.out)) hb); clear HB hb; have HB := n1_; clear n1_) | (go_at_call 22; (with_reducible refine (tape_New2.calls _ _ l0 _ ?side1 HC0.out).mono ?_); (case side1 => repeat (first | exact (Kd.C_below HR0.out HB.out) | (with_reducible refine Kd.C_alloc ?_ _) | (with_reducible refine Kd.C_drewN ?_ _) | (with_reducible refine Kd.C_drew ?_))); rintro e w2 ⟨p, rfl, hp, hb⟩; rw [if_pos C2.out] at hp ⊢; subst hp; have n1_ := Aside0.mk (below_step (by repeat (first | (with_reducible first | exact HB.out | apply below_alloc | apply pw_below_drewN | apply below_drew1) | exact HB.out)) hb); clear HB hb; have HB := n1_; clear n1_))
  go_ret3
  exact ⟨rfl, by repeat (first | (with_reducible first | exact HB.out | apply below_alloc | apply pw_below_drewN | apply below_drew1) | exact HB.out)⟩
set_option maxHeartbeats 8000000 in
set_option maxRecDepth 100000 in
theorem tape_fresh.calls (A0 : Option Addr) (c0 : Nat) (l0 : List Int) (w : World) (hr0 : Kd.C (Kd.int .u8) w A0 l0.length l0) (hc0 : l0.length ≤ c0) (c2 : ¬ (l0.length : Int) > 65536) :
    Calls Try.prog 9 #[.slice A0 l0.length c0] w fun e w' => ∃ p q : Option Addr, e = .returned (.tuple #[.pointer p, .pointer q, .bool true]) ∧ TapeAt w' w.heap.size p l0 ∧ TapeAt2 w' w.heap.size q l0 0 ∧ Below w.heap.size w w' := by
  have HR0 := Aside0.mk hr0
  have HC0 := Aside0.mk hc0
  clear hr0 hc0
  have HB := Aside0.mk (Below.refl w.heap.size w)
  have C2 := Aside0.mk c2
  clear c2
  go_enter Try.func9, Try.ntmps9
  go_wp2_with (first | (go_at_call 21; (with_reducible refine (tape_New.calls _ _ l0 _ ?side1 HC0.out).mono ?_); (case side1 => repeat (first | exact (Kd.C_below HR0.out HB.out) | (with_reducible refine Kd.C_alloc ?_ _) | (with_reducible refine Kd.C_drewN ?_ _) | (with_reducible refine Kd.C_drew ?_))); rintro e w1 ⟨p, rfl, hp, hb⟩; rw [if_neg (c := (l0.length : Int) > 65536) (by have := C2.out; omega)] at hp; rw [if_neg (c := (l0.length : Int) > 65536) (by have := C2.out; omega)]; have hp2 := hp; obtain ⟨g, rfl, _⟩ := hp2; have T1 := Aside0.mk (hp.lower (below_size (by repeat (first | (with_reducible first | exact HB.out | apply below_alloc | apply pw_below_drewN | apply below_drew1) | exact HB.out)))); clear hp; have n1_ := Aside0.mk (below_step (by repeat (first | (with_reducible first | exact HB.out | apply below_alloc | apply pw_below_drewN | apply below_drew1) | exact HB.out)) hb); clear HB hb; have HB := n1_; clear n1_) | (go_at_call 22; (with_reducible refine (tape_New2.calls _ _ l0 _ ?side1 HC0.out).mono ?_); (case side1 => repeat (first | exact (Kd.C_below HR0.out HB.out) | (with_reducible refine Kd.C_alloc ?_ _) | (with_reducible refine Kd.C_drewN ?_ _) | (with_reducible refine Kd.C_drew ?_))); rintro e w2 ⟨p, rfl, hp, hb⟩; rw [if_neg (c := (l0.length : Int) > 65536) (by have := C2.out; omega)] at hp; rw [if_neg (c := (l0.length : Int) > 65536) (by have := C2.out; omega)]; have hp2 := hp; obtain ⟨g2, rfl, _⟩ := hp2; have T2 := Aside0.mk (hp.lower (below_size (by repeat (first | (with_reducible first | exact HB.out | apply below_alloc | apply pw_below_drewN | apply below_drew1) | exact HB.out)))); clear hp; have n2_ := Aside0.mk (T1.out.below hb); clear T1; have T1 := n2_; clear n2_; have n1_ := Aside0.mk (below_step (by repeat (first | (with_reducible first | exact HB.out | apply below_alloc | apply pw_below_drewN | apply below_drew1) | exact HB.out)) hb); clear HB hb; have HB := n1_; clear n1_))
  go_ret3
  exact ⟨_, _, rfl, T1.out, T2.out, by repeat (first | (with_reducible first | exact HB.out | apply below_alloc | apply pw_below_drewN | apply below_drew1) | exact HB.out)⟩
set_option maxHeartbeats 8000000 in
set_option maxRecDepth 100000 in
theorem tape_Left.calls (g : Nat) (A : Option Addr) (n c : Nat) (w : World) (h : w.cell? ⟨g, 0, none⟩ = some (.slice A n c)) :
    Calls Try.prog 12 #[.pointer (some ⟨g, 0, none⟩)] w fun e w' => e = .returned (.int .i64 (n : Int)) ∧ Drawn0 w w' := by
  go_enter Try.func12, Try.ntmps12
  go_wp2
  go_ret
  exact ⟨rfl, Drawn0.refl _⟩
set_option maxHeartbeats 8000000 in
set_option maxRecDepth 100000 in
theorem tape_Left2.calls (g : Nat) (A : Option Addr) (n c : Nat) (u : Int) (w : World) (h : w.cell? ⟨g, 0, none⟩ = some (.slice A n c)) (h2 : w.cell? ⟨g, 1, none⟩ = some (.int .i64 u)) :
    Calls Try.prog 13 #[.pointer (some ⟨g, 0, none⟩)] w fun e w' => e = .returned (.int .i64 (wrap64 ((n : Int) - u))) ∧ Drawn0 w w' := by
  go_enter Try.func13, Try.ntmps13
  go_wp2
  repeat (go_quiet (fail); try go_wp2)
  go_ret
  exact ⟨rfl, by first | exact Drawn0.refl _ | exact ⟨_, rfl⟩⟩
theorem TapeAt.cell {w : World} {base g : Nat} {l : List Int} (h : TapeAt w base (some ⟨g, 0, none⟩) l) : ∃ A c, w.cell? ⟨g, 0, none⟩ = some (.slice A l.length c) := by
  obtain ⟨g1, hp, hg, A, c, hb, _⟩ := h
  cases hp
  exact ⟨A, c, (blk_cell hb 0).trans rfl⟩
theorem TapeAt2.cell {w : World} {base g : Nat} {l : List Int} {u : Int} (h : TapeAt2 w base (some ⟨g, 0, none⟩) l u) : ∃ A c, w.cell? ⟨g, 0, none⟩ = some (.slice A l.length c) ∧ w.cell? ⟨g, 1, none⟩ = some (.int .i64 u) := by
  obtain ⟨g1, hp, hg, A, c, hb, _⟩ := h
  cases hp
  exact ⟨A, c, (blk_cell hb 0).trans rfl, (blk_cell hb 1).trans rfl⟩
end Go.Proofs.Yteabkedhdgnhgaa.F

namespace Go.Proofs.Yteabkedhdgnhgaa.F
open Go.RowKit Go.Proofs.YteabkedhdgnhgaaW.PrintWords Go.Proofs.YteabkedhdgnhgaaW.PrintLast Go.Proofs.YteabkedhdgnhgaaW.PrintMore
set_option linter.unusedVariables false
set_option linter.unusedSimpArgs false
set_option maxHeartbeats 8000000 in
set_option maxRecDepth 100000 in
theorem tape_Take.calls (g : Nat) (l : List Int) (n : Int) (ok : Nat → Prop) (w : World) (hT : Tp w g ok l) (hg : ¬ ok g) (h0 : 0 ≤ n) (h1 : n ≤ 65536) (h2 : n ≤ (l.length : Int)) :
    Calls Try.prog 10 #[.pointer (some ⟨g, 0, none⟩), .int .i64 n] w fun e w' => ∃ v : Value, e = .returned (.tuple #[v, .int .i64 0]) ∧ Kd.R (Kd.int .u8) 5 w' w.heap.size (fun _ => True) v (l.take n.toNat) ∧ Tp w' g ok (l.drop n.toNat) ∧ KeepBut w w' g none ∧ w'.os = w.os ∧ w'.tape = w.tape ∧ w'.output = w.output := by
  obtain ⟨A, c, hb, hlc, hF⟩ := hT
  have HF := Aside0.mk hF
  have HBX := Aside0.mk hb
  have hcell := (blk_cell hb 0).trans rfl
  have hfz := blk_frozen hb 0
  obtain ⟨i0, hi0, _, hsz, _⟩ := info_parts info5
  have hcut1 := cut_to (P := Try.prog) 22 5 .i64 Try.underlying22 hi0 A l.length c n h0 h2 hlc
  obtain ⟨A2, hA2, hcut2⟩ : ∃ A2 : Option Addr, (∀ W : World, Kd.C (Kd.int .u8) W A l.length l → Kd.C (Kd.int .u8) W A2 (l.drop n.toNat).length (l.drop n.toNat)) ∧ ∀ W : World, (Instr.slice 22 (.slice A l.length c) (some (.int .i64 n)) none none).run Try.prog W = .ok (.slice A2 (l.length - n.toNat) (c - n.toNat)) W :=
    ⟨_, fun W h => Kd.C_drop h (by omega) hlc, fun W => cut_from (P := Try.prog) 22 5 .i64 Try.underlying22 hi0 1 hsz A l.length c n h0 h2 W⟩
  have hC1 : Kd.C (Kd.int .u8) w A (l.take n.toNat).length (l.take n.toNat) := Kd.C_take (Kd.F_now hF) (by omega)
  have hlt : (l.take n.toNat).length = n.toNat := by rw [List.length_take]; omega
  have A3 := Aside0.mk (show slices_Clone_byte_byte.f (l.take n.toNat) = some (l.take n.toNat) from by
    unfold slices_Clone_byte_byte.f
    simp only [Option.bind_some, List.length_nil, List.nil_append]
    rw [if_pos (by omega)])
  have HC1 := Aside0.mk hC1
  have HLC := Aside0.mk hlc
  clear hF hC1
  have c1 : decide (n < 0) = false := decide_eq_false (by omega)
  have c2 : decide (65536 < n) = false := decide_eq_false (by omega)
  have c3 : decide ((l.length : Int) < n) = false := decide_eq_false (by omega)
  go_enter Try.func10, Try.ntmps10
  go_wp2_with (go_at_call 23; go_loud ((rw [← hlt]); (refine (slices_Clone_byte_byte.calls _ _ (l.take n.toNat) (l.take n.toNat) _ HC1.out (by have := HLC.out; omega) A3.out).mono ?_); rintro e w1 ⟨v1, rfl, ho1, hb1⟩; obtain ⟨A1_, c1_, rfl⟩ := Kd.R_slice ho1; have HO := Aside0.mk ho1; have HB := Aside0.mk hb1; have hcell2 := (hb1.cell (World.block_lt_of_cell? _ _ hcell)).trans hcell; have hfz2 := (hb1.frozen (World.block_lt_of_cell? _ _ hcell)).trans hfz; clear ho1 hb1 hcell hfz))
  go_ret2
  have hgs : g < w.heap.size := blk_lt HBX.out
  have hhk : ∀ k, k ≠ g → ∀ u, (w1.setCell ⟨g, 0, none⟩ u).heap[k]? = w1.heap[k]? := fun k hk u => Below.heap_setCell w1 ⟨g, 0, none⟩ u k hk
  have hb1 : w1.heap[g]? = some (.cells #[.slice A l.length c] 51 (0, 0)) := (HB.out.block g hgs).trans HBX.out
  refine ⟨_, rfl, ?_, ⟨A2, c - n.toNat, ?_, ?_, ?_⟩, (KeepBut.of_below HB.out g none).set_ 0 _, HB.out.os, HB.out.tape, HB.out.output⟩
  · have h3 := HO.out
    rw [hlt] at h3
    exact Kd.R_mono (Kd.R_step (Kd.R_bound h3) (fun k hk _ => hhk k (by have := hk.2.1; omega) _)) (fun _ _ => trivial)
  · have h3 := blk_set hb1 0 (.slice A2 (l.length - n.toNat) (c - n.toNat))
    rw [List.length_drop]
    simpa using h3
  · rw [List.length_drop]; have := HLC.out; omega
  · have h3 : Kd.F (Kd.int .u8) (w1.setCell ⟨g, 0, none⟩ (.slice A2 (l.length - n.toNat) (c - n.toNat))) ok A l.length l := Kd.F_step HF.out (fun k hk hlt2 => (hhk k (fun e => hg (e ▸ hk)) _).trans (HB.out.block k hlt2))
    exact fun W' hW => hA2 W' (h3 W' hW)
end Go.Proofs.Yteabkedhdgnhgaa.F

namespace Go.Proofs.Yteabkedhdgnhgaa.F
open Go.RowKit Go.Proofs.YteabkedhdgnhgaaW.PrintWords Go.Proofs.YteabkedhdgnhgaaW.PrintLast Go.Proofs.YteabkedhdgnhgaaW.PrintMore
set_option linter.unusedVariables false
set_option linter.unusedSimpArgs false
theorem Tp.keep {w w1 : World} {g g1 : Nat} {ok : Nat → Prop} {l : List Int} (h : Tp w g ok l) (hk : KeepBut w w1 g1 none) (hg : g ≠ g1) (hok : ∀ k, ok k → k ≠ g1) : Tp w1 g ok l := by
  obtain ⟨A, c, h1, h2, h3⟩ := h
  exact ⟨A, c, (hk.2 g (blk_lt h1) hg (by simp)).trans h1, h2, Kd.F_step h3 (fun k hk2 hlt => hk.2 k hlt (hok k hk2) (by simp))⟩
theorem Tp.mono {w : World} {g : Nat} {ok ok' : Nat → Prop} {l : List Int} (h : Tp w g ok l) (hok : ∀ k, ok k → ok' k) : Tp w g ok' l := by
  obtain ⟨A, c, h1, h2, h3⟩ := h
  exact ⟨A, c, h1, h2, Kd.F_mono h3 hok⟩
theorem Tp.lt {w : World} {g : Nat} {ok : Nat → Prop} {l : List Int} (h : Tp w g ok l) : g < w.heap.size := by
  obtain ⟨A, c, h1, _⟩ := h
  exact blk_lt h1
theorem keep_below {w W w1 : World} {g : Nat} (HB : Below w.heap.size w W) (hk : KeepBut W w1 g none) (ho : w1.os = W.os) (ht : w1.tape = W.tape) (hu : w1.output = W.output) (hg : w.heap.size ≤ g) : Below w.heap.size w w1 :=
  ⟨ho.trans HB.os, ht.trans HB.tape, hu.trans HB.output, Nat.le_trans HB.size hk.1, fun k hlt => (hk.2 k (Nat.lt_of_lt_of_le hlt HB.size) (by omega) (by simp)).trans (HB.block k hlt)⟩
set_option maxHeartbeats 8000000 in
set_option maxRecDepth 100000 in
theorem TapeTwice_last (A0 : Option Addr) (c0 : Nat) (l0 : List Int) (m n : Int) (w : World) (HR0 : Aside0 (Kd.C (Kd.int .u8) w A0 l0.length l0)) (HC0 : Aside0 (l0.length ≤ c0)) (C2 : Aside0 (¬ (l0.length : Int) > 65536)) (d0 : ¬ m < 0) (d1 : ¬ n < 0) (d2 : ¬ m > 65536) (d3 : ¬ n > 65536) (d4 : ¬ m + n > (l0.length : Int)) :
    Calls Try.prog 3 #[.slice A0 l0.length c0, .int .i64 m, .int .i64 n] w fun e w' => e = .returned (.bool true) ∧ Below w.heap.size w w' := by
  have HB := Aside0.mk (Below.refl w.heap.size w)
  have d0b : decide (m < 0) = false := decide_eq_false d0
  have d1b : decide (n < 0) = false := decide_eq_false d1
  have d2b : decide (65536 < m) = false := decide_eq_false d2
  have d3b : decide (65536 < n) = false := decide_eq_false d3
  have d4b : decide ((l0.length : Int) < m + n) = false := decide_eq_false d4
  have HM := Aside0.mk (show 0 ≤ m ∧ 0 ≤ n ∧ m ≤ 65536 ∧ n ≤ 65536 ∧ m + n ≤ (l0.length : Int) from by omega)
  obtain ⟨X, hXl⟩ : ∃ X : List Int, X = l0.take m.toNat := ⟨_, rfl⟩
  obtain ⟨Y, hYl⟩ : ∃ Y : List Int, Y = (l0.drop m.toNat).take n.toNat := ⟨_, rfl⟩
  obtain ⟨Z, hZl⟩ : ∃ Z : List Int, Z = l0.take (m + n).toNat := ⟨_, rfl⟩
  have NX := Aside0.mk hXl
  have NY := Aside0.mk hYl
  have NZ := Aside0.mk hZl
  clear hXl hYl hZl
  go_enter Try.func3, Try.ntmps3
  go_wp2_with (first | (go_at_call 9; (have T1_ := T1.out); (with_reducible refine (tape_fresh.calls _ _ l0 _ ?side1 HC0.out ?side2).mono ?_); (case side1 => repeat (first | exact (Kd.C_below HR0.out HB.out) | (with_reducible refine Kd.C_alloc ?_ _) | (with_reducible refine Kd.C_drewN ?_ _) | (with_reducible refine Kd.C_drew ?_))); (case side2 => have := C2.out; omega); rintro e w2 ⟨p3, q3, rfl, hp3, hq3, hb⟩; obtain ⟨g3, rfl, hg3, hT3⟩ := hp3; have G3 := Aside0.mk (Nat.lt_of_lt_of_le L1.out hg3); have T3 := Aside0.mk (Tp.mono hT3 (fun k hk => (⟨Nat.lt_of_lt_of_le L1.out hk.1, hk.2⟩ : g1 < k ∧ k < g3))); have n2_ := Aside0.mk (T1_.below hb); clear T1 T1_ hq3 hg3 hT3 L1; have T1 := n2_; clear n2_; have n1_ := Aside0.mk (below_step (by repeat (first | (with_reducible first | exact HB.out | apply below_alloc | apply pw_below_drewN | apply below_drew1) | exact HB.out)) hb); clear HB hb; have HB := n1_; clear n1_) | (go_at_call 9; (with_reducible refine (tape_fresh.calls _ _ l0 _ ?side1 HC0.out ?side2).mono ?_); (case side1 => repeat (first | exact (Kd.C_below HR0.out HB.out) | (with_reducible refine Kd.C_alloc ?_ _) | (with_reducible refine Kd.C_drewN ?_ _) | (with_reducible refine Kd.C_drew ?_))); (case side2 => have := C2.out; omega); rintro e w1 ⟨p, q, rfl, hp, hq, hb⟩; obtain ⟨g1, rfl, hg1, hT1⟩ := hp; have G1 := Aside0.mk (Nat.le_trans (below_size (by repeat (first | (with_reducible first | exact HB.out | apply below_alloc | apply pw_below_drewN | apply below_drew1) | exact HB.out))) hg1); have T1 := Aside0.mk (Tp.mono hT1 (fun k hk => hk.2)); have L1 := Aside0.mk (Tp.lt hT1); clear hq hg1 hT1; have n1_ := Aside0.mk (below_step (by repeat (first | (with_reducible first | exact HB.out | apply below_alloc | apply pw_below_drewN | apply below_drew1) | exact HB.out)) hb); clear HB hb; have HB := n1_; clear n1_) | (go_at_call 10; (have X_ := CXy.out); clear X_; (with_reducible refine (tape_Take.calls g3 l0 _ (fun k => g1 < k ∧ k < g3) _ T3.out (fun h => absurd h.2 (Nat.lt_irrefl _)) ?side1 ?side2 ?side3).mono ?_); (case side1 => have := HM.out; omega); (case side2 => have := HM.out; have := C2.out; omega); (case side3 => have := HM.out; omega); rintro e w3 ⟨v3, rfl, hR, hT, hk, ho, ht, hu⟩; rw [← NZ.out] at hR; obtain ⟨Axz, cxz, rfl⟩ := Kd.R_slice hR; have Xz := Aside0.mk (Kd.R_F hR); have CXz := Aside0.mk (Kd.R_reads' hR).2.1; have n4_ := Aside0.mk (Kd.F_step Xx.out (fun k hk2 hlt => hk.2 k hlt (Nat.ne_of_gt (hk2)) (by simp))); clear Xx; have Xx := n4_; clear n4_; have n4_ := Aside0.mk (Kd.F_step Xy.out (fun k hk2 hlt => hk.2 k hlt (Nat.ne_of_gt (hk2)) (by simp))); clear Xy; have Xy := n4_; clear n4_; clear T1 T3 hR; have n1_ := Aside0.mk (keep_below HB.out hk ho ht hu (Nat.le_trans G1.out (Nat.le_of_lt G3.out))); clear HB; have HB := n1_; clear n1_; clear hk ho ht hu) | (go_at_call 10; (have X_ := CXx.out); clear X_; (with_reducible refine (tape_Take.calls g1 (l0.drop m.toNat) _ (fun k => k < g1) _ T1.out (Nat.lt_irrefl _) ?side1 ?side2 ?side3).mono ?_); (case side1 => have := HM.out; omega); (case side2 => have := HM.out; omega); (case side3 => have := HM.out; (try simp only [List.length_drop]); omega); rintro e w3 ⟨v3, rfl, hR, hT, hk, ho, ht, hu⟩; rw [← NY.out] at hR; obtain ⟨Axy, cxy, rfl⟩ := Kd.R_slice hR; have Xy := Aside0.mk (Kd.R_F (Kd.R_mono (Kd.R_bound hR) (fun k hk => (Nat.lt_of_lt_of_le (Tp.lt T3.out) hk.2.1 : g3 < k)))); have CXy := Aside0.mk (Kd.R_reads' hR).2.1; have n4_ := Aside0.mk (Kd.F_step Xx.out (fun k hk2 hlt => hk.2 k hlt (Nat.ne_of_gt (Nat.lt_trans G3.out hk2)) (by simp))); clear Xx; have Xx := n4_; clear n4_; have n2_ := Aside0.mk (Tp.keep T3.out hk (Nat.ne_of_gt G3.out) (fun k hk => Nat.ne_of_gt hk.1)); clear T1 T3 hR; have T1 := Aside0.mk hT; have T3 := n2_; clear n2_ hT; have n1_ := Aside0.mk (keep_below HB.out hk ho ht hu G1.out); clear HB; have HB := n1_; clear n1_; clear hk ho ht hu) | (go_at_call 10; (with_reducible refine (tape_Take.calls g1 l0 _ (fun k => k < g1) _ T1.out (Nat.lt_irrefl _) ?side1 ?side2 ?side3).mono ?_); (case side1 => have := HM.out; omega); (case side2 => have := HM.out; omega); (case side3 => have := HM.out; (try simp only [List.length_drop]); omega); rintro e w3 ⟨v3, rfl, hR, hT, hk, ho, ht, hu⟩; rw [← NX.out] at hR; obtain ⟨Axx, cxx, rfl⟩ := Kd.R_slice hR; have Xx := Aside0.mk (Kd.R_F (Kd.R_mono (Kd.R_bound hR) (fun k hk => (Nat.lt_of_lt_of_le (Tp.lt T3.out) hk.2.1 : g3 < k)))); have CXx := Aside0.mk (Kd.R_reads' hR).2.1; have n2_ := Aside0.mk (Tp.keep T3.out hk (Nat.ne_of_gt G3.out) (fun k hk => Nat.ne_of_gt hk.1)); clear T1 T3 hR; have T1 := Aside0.mk hT; have T3 := n2_; clear n2_ hT; have n1_ := Aside0.mk (keep_below HB.out hk ho ht hu G1.out); clear HB; have HB := n1_; clear n1_; clear hk ho ht hu))
  have hX := Kd.F_drewN Xx.out
  have hY := Kd.F_drewN Xy.out
  have hZ := Kd.F_drewN Xz.out
  obtain ⟨i0, hi0, _, hsz, _⟩ := info_parts info5
  have hcut := fun W => cut_to (P := Try.prog) 22 5 .i64 Try.underlying22 hi0 A0 l0.length c0 (m + n) (by have := HM.out; omega) HM.out.2.2.2.2 HC0.out W
  have hB : ∀ k, Kd.C (Kd.int .u8) (w3.drewN k) A0 (l0.take (m + n).toNat).length (l0.take (m + n).toNat) := fun k => Kd.C_take (Kd.C_drewN (Kd.C_below HR0.out HB.out) k) (by have := HM.out; omega)
  have hlz : (l0.take (m + n).toNat).length = (m + n).toNat := by have := HM.out; rw [List.length_take]; omega
  have hxy : l0.take m.toNat ++ (l0.drop m.toNat).take n.toNat = l0.take (m + n).toNat := by
    have := HM.out
    rw [show (m + n).toNat = m.toNat + n.toNat from by omega, List.take_add]
  have hs : strOfNums (l0.take m.toNat) ++ strOfNums ((l0.drop m.toNat).take n.toNat) = strOfNums (l0.take (m + n).toNat) := by
    rw [← hxy]
    apply ByteArray.ext
    simp [strOfNums]
  rw [← hlz] at hcut
  clear hxy hi0 hsz
  rw [← NX.out, ← NY.out, ← NZ.out] at hs
  rw [← NZ.out] at hcut hB
  have hcx : ∀ k, (convert 22 9 (.slice Axx X.length cxx)).run Try.prog (w3.drewN k) = .ok (.string (strOfNums X)) (w3.drewN k) := fun k => Kd.C_string Try.underlying22 Try.underlying5 Try.underlying9 (Kd.F_now (hX k))
  have hcy : ∀ k, (convert 22 9 (.slice Axy Y.length cxy)).run Try.prog (w3.drewN k) = .ok (.string (strOfNums Y)) (w3.drewN k) := fun k => Kd.C_string Try.underlying22 Try.underlying5 Try.underlying9 (Kd.F_now (hY k))
  have hcz : ∀ k, (convert 22 9 (.slice Axz Z.length cxz)).run Try.prog (w3.drewN k) = .ok (.string (strOfNums Z)) (w3.drewN k) := fun k => Kd.C_string Try.underlying22 Try.underlying5 Try.underlying9 (Kd.F_now (hZ k))
  have hcb : ∀ k, (convert 22 9 (.slice A0 Z.length c0)).run Try.prog (w3.drewN k) = .ok (.string (strOfNums Z)) (w3.drewN k) := fun k => Kd.C_string Try.underlying22 Try.underlying5 Try.underlying9 (hB k)
  have hE1 : ((strOfNums X ++ strOfNums Y).toList == (strOfNums Z).toList) = true := by rw [hs]; exact beq_iff_eq.mpr rfl
  have hE2 : ((strOfNums Z).toList == (strOfNums Z).toList) = true := beq_iff_eq.mpr rfl
  have hsum : (9223372036854775807 < (strOfNums X).size + (strOfNums Y).size) = False := by
    have h1 : X.length ≤ l0.length := by rw [NX.out, List.length_take]; omega
    have h2 : Y.length ≤ l0.length := by rw [NY.out, List.length_take, List.length_drop]; omega
    have := C2.out
    rw [strOfNums_size, strOfNums_size]
    exact eq_false (by omega)
  clear hX hY hZ hB
  go_quiet (fail)
  try go_wp2
  go_ret
  exact ⟨by first | rfl | simp, by repeat (first | (with_reducible first | exact HB.out | apply below_alloc | apply pw_below_drewN | apply below_drew1) | exact HB.out)⟩
end Go.Proofs.Yteabkedhdgnhgaa.F

namespace Go.Proofs.Yteabkedhdgnhgaa.F
open Go.RowKit Go.Proofs.YteabkedhdgnhgaaW.PrintWords Go.Proofs.YteabkedhdgnhgaaW.PrintLast Go.Proofs.YteabkedhdgnhgaaW.PrintMore
set_option linter.unusedVariables false
set_option linter.unusedSimpArgs false
/-- What a take of n tells of the bytes l that are left, and how many it uses. -/
def takeV (l : List Int) (n : Int) : List Int × Int := if n < 0 ∨ 65536 < n then ([], 1) else if (l.length : Int) < n then ([], 7) else (l.take n.toNat, 0)
def usedV (l : List Int) (n : Int) : Nat := if n < 0 ∨ 65536 < n then 0 else if (l.length : Int) < n then 0 else n.toNat
set_option maxHeartbeats 2000000 in
set_option maxRecDepth 100000 in
theorem tape_Take2.calls (g : Nat) (L : List Int) (u n : Int) (ok : Nat → Prop) (w : World) (hT : Tp2 w g ok L u) (hg : ¬ ok g) (hu : 0 ≤ u) (h0 : 0 ≤ n) (h1 : n ≤ 65536) (h2 : u + n ≤ (L.length : Int)) (hL : L.length ≤ 65536) :
    Calls Try.prog 11 #[.pointer (some ⟨g, 0, none⟩), .int .i64 n] w fun e w' => ∃ v : Value, e = .returned (.tuple #[v, .int .i64 0]) ∧ Kd.R (Kd.int .u8) 5 w' w.heap.size (fun _ => True) v ((L.drop u.toNat).take n.toNat) ∧ Tp2 w' g ok L (u + n) ∧ KeepBut w w' g none ∧ w'.os = w.os ∧ w'.tape = w.tape ∧ w'.output = w.output := by
  obtain ⟨A, c, hb, hlc, hF⟩ := hT
  have HF := Aside0.mk hF
  have HBX := Aside0.mk hb
  have hcell := (blk_cell hb 0).trans rfl
  have hcell1 := (blk_cell hb 1).trans rfl
  have hfz := blk_frozen hb 1
  obtain ⟨i0, hi0, _, hsz, _⟩ := info_parts info5
  obtain ⟨A2, c2, hA2, hcut2⟩ : ∃ (A2 : Option Addr) (c2 : Nat), (∀ W : World, Kd.C (Kd.int .u8) W A L.length L → Kd.C (Kd.int .u8) W A2 ((L.drop u.toNat).take n.toNat).length ((L.drop u.toNat).take n.toNat)) ∧ ∀ W : World, (Instr.slice 22 (.slice A L.length c) (some (.int .i64 u)) (some (.int .i64 (u + n))) none).run Try.prog W = .ok (.slice A2 ((L.drop u.toNat).take n.toNat).length c2) W := by
    have e1 : (L.take (u + n).toNat).drop u.toNat = (L.drop u.toNat).take n.toNat := by
      rw [List.drop_take]; congr 1; omega
    have e2 : ((L.drop u.toNat).take n.toNat).length = (u + n).toNat - u.toNat := by
      rw [List.length_take, List.length_drop]; omega
    refine ⟨if c = u.toNat then A else A.map (·.add (u.toNat * 1)), c - u.toNat, fun W h => ?_, fun W => ?_⟩
    · rw [← e1]
      exact Kd.C_mid (lo := u.toNat) (hi := (u + n).toNat) h (by omega) (by omega) hlc
    · rw [e2]
      exact cut_mid (P := Try.prog) 22 5 .i64 .i64 Try.underlying22 hi0 1 hsz A L.length c u (u + n) hu (by omega) h2 hlc W
  obtain ⟨X, hX⟩ : ∃ X, X = (L.drop u.toNat).take n.toNat := ⟨_, rfl⟩
  rw [← hX] at hA2 hcut2 ⊢
  have NX := Aside0.mk hX
  have HLC := Aside0.mk hlc
  have HA2 := Aside0.mk hA2
  have hsub : wrap64 ((L.length : Int) - u) = (L.length : Int) - u := by unfold wrap64; omega
  have hsum : wrap64 (u + n) = u + n := by unfold wrap64; omega
  clear hF hX hA2 hlc
  have c1 : decide (n < 0) = false := decide_eq_false (by omega)
  have c2b : decide (65536 < n) = false := decide_eq_false (by omega)
  have c3 : decide ((L.length : Int) - u < n) = false := decide_eq_false (by omega)
  have c4 : decide (wrap64 ((L.length : Int) - u) < n) = false := by rw [hsub]; exact c3
  go_enter Try.func11, Try.ntmps11
  go_wp2
  go_quiet (fail)
  go_wp2
  have hgs : g < w.heap.size := blk_lt HBX.out
  have hsumI : IntKind.i64.wrap (u + n) = u + n := by
    simp [IntKind.wrap, IntKind.bits, IntKind.signed]
    omega
  have hcA : ∀ (m : Nat) (o : Obj), ((w.drewN m).alloc o).cell? ⟨g, 0, none⟩ = some (.slice A L.length c) := fun m o => pw_cell_below (below_alloc (pw_below_drewN (Below.refl _ _) m) o) hcell
  have hcB : ∀ (m : Nat) (o : Obj), ((w.drewN m).alloc o).cell? ⟨g, 1, none⟩ = some (.int .i64 u) := fun m o => pw_cell_below (below_alloc (pw_below_drewN (Below.refl _ _) m) o) hcell1
  have hcl : ∀ m : Nat, Kd.R (Kd.int .u8) 5 ((w.drewN m).alloc (.cells #[] 5)) w.heap.size (fun _ => True) (.slice (some ⟨w.heap.size, 0, none⟩) 0 0) [] := fun m => Kd.R_of_own (by simpa [encs, nums] using own_lit (w.drewN m) w.heap.size 5 .u8 [] (Nat.le_refl _) (by simp)) (fun _ _ => trivial)
  have hcC : ∀ m : Nat, Kd.C (Kd.int .u8) ((w.drewN m).alloc (.cells #[] 5)) A2 X.length X := fun m => HA2.out _ (Kd.F_now (Kd.F_alloc (Kd.F_drewN HF.out m) _))
  have hcBl : ∀ m : Nat, Below w.heap.size w ((w.drewN m).alloc (.cells #[] 5)) := fun m => below_alloc (pw_below_drewN (Below.refl _ _) m) _
  have HCL := Aside0.mk hcl
  have HCC := Aside0.mk hcC
  have HCB := Aside0.mk hcBl
  have hxl : X.length ≤ 65536 := by rw [NX.out, List.length_take]; omega
  have HXL := Aside0.mk hxl
  clear hcl hcC hcBl hxl
  go_region_law (first | (refine Kd.R_append_rows_step (Kd.int .u8) (w0 := w) w.heap.size (by first | rfl | simp [Region.wanted]) (.tmp 25) (.tmp 40) 22 5 (.int .u8 0) 1 rfl Try.underlying22 info5 rfl (by decide) (by omega) (.slice (some ⟨w.heap.size, 0, none⟩) 0 0) [] X A2 X.length c2 (fun _ => True) (fun _ => False) rfl rfl (HCL.out _) (HCC.out _) (fun _ _ h => h) (fun _ h => h.elim) (fun _ _ => trivial) (HCB.out _) (HCB.out _).size (by have := HXL.out; simp only [List.length_nil]; omega) ?_; intro v113 w6 ho hb hg_ hat_; rw [List.nil_append] at ho; obtain ⟨A1_, c1_, rfl⟩ := Kd.R_slice ho; have HO := Aside0.mk ho; have HB := Aside0.mk hb; clear ho hb hg_ hat_))
  all_goals
    have hlt1 := World.block_lt_of_cell? _ _ hcell1
    have hcell6 := (HB.out.cell hlt1).trans hcell1
    have hfz6 := (HB.out.frozen hlt1).trans hfz
    clear hcell hcell1 hfz hcA hcB hlt1
    go_wp2
    go_ret2
    have hhk : ∀ k, k ≠ g → ∀ x, (w6.setCell ⟨g, 1, none⟩ x).heap[k]? = w6.heap[k]? := fun k hk x => Below.heap_setCell w6 ⟨g, 1, none⟩ x k hk
    have hb1 : w6.heap[g]? = some (.cells #[.slice A L.length c, .int .i64 u] 54 (0, 0)) := (HB.out.block g hgs).trans HBX.out
    refine ⟨_, rfl, ?_, ⟨A, c, ?_, HLC.out, ?_⟩, (KeepBut.of_below HB.out g none).set_ 1 _, HB.out.os, HB.out.tape, HB.out.output⟩
    · exact Kd.R_mono (Kd.R_step (Kd.R_bound HO.out) (fun k hk _ => hhk k (by have := hk.2.1; omega) _)) (fun _ _ => trivial)
    · have h3 := blk_set hb1 1 (.int .i64 (u + n))
      simpa using h3
    · exact Kd.F_step HF.out (fun k hk hlt2 => (hhk k (fun e => hg (e ▸ hk)) _).trans (HB.out.block k hlt2))
end Go.Proofs.Yteabkedhdgnhgaa.F

namespace Go.Proofs.Yteabkedhdgnhgaa.F
open Go.RowKit Go.Proofs.YteabkedhdgnhgaaW.PrintWords Go.Proofs.YteabkedhdgnhgaaW.PrintLast Go.Proofs.YteabkedhdgnhgaaW.PrintMore
set_option linter.unusedVariables false
set_option linter.unusedSimpArgs false
/-- What a take leaves: its answer, a slice of bytes that lie in new blocks; all old blocks but the tape's. -/
def Took (w w' : World) (g : Nat) (e : Ending) (x : List Int × Int) : Prop := ∃ (A : Option Addr) (c : Nat), e = .returned (.tuple #[.slice A x.1.length c, .int .i64 x.2]) ∧ x.1.length ≤ c ∧ Kd.F (Kd.int .u8) w' (fun k => w.heap.size ≤ k) A x.1.length x.1 ∧ KeepBut w w' g none ∧ w'.os = w.os ∧ w'.tape = w.tape ∧ w'.output = w.output
theorem Took.none (w : World) (m : Nat) (g : Nat) (er : Int) : Took w (w.drewN m) g (.returned (.tuple #[.slice none 0 0, .int .i64 er])) ([], er) := by
  have hb := pw_below_drewN (Below.refl w.heap.size w) m
  exact ⟨_, _, rfl, Nat.le_refl _, Kd.F_nil _ _ _, KeepBut.of_below hb g _, hb.os, hb.tape, hb.output⟩
theorem Tp.drewN {w : World} {g : Nat} {ok : Nat → Prop} {l : List Int} (h : Tp w g ok l) (m : Nat) : Tp (w.drewN m) g ok l := h.below (pw_below_drewN (Below.refl _ _) m)
theorem Tp2.drewN {w : World} {g : Nat} {ok : Nat → Prop} {l : List Int} {u : Int} (h : Tp2 w g ok l u) (m : Nat) : Tp2 (w.drewN m) g ok l u := h.below (pw_below_drewN (Below.refl _ _) m)
set_option maxHeartbeats 2000000 in
set_option maxRecDepth 100000 in
theorem tape_Take.bad (g : Nat) (n : Int) (w : World) (h : n < 0 ∨ 65536 < n) :
    Calls Try.prog 10 #[.pointer (some ⟨g, 0, none⟩), .int .i64 n] w fun e w' => e = .returned (.tuple #[.slice none 0 0, .int .i64 1]) ∧ w' = w := by
  by_cases h0 : n < 0
  · have c1 : decide (n < 0) = true := decide_eq_true h0
    go_enter Try.func10, Try.ntmps10
    go_wp2
    go_ret2
    exact ⟨rfl, rfl⟩
  · have c1 : decide (n < 0) = false := decide_eq_false h0
    have c2 : decide (65536 < n) = true := decide_eq_true (by omega)
    go_enter Try.func10, Try.ntmps10
    go_wp2
    go_ret2
    exact ⟨rfl, rfl⟩
set_option maxHeartbeats 2000000 in
set_option maxRecDepth 100000 in
theorem tape_Take.few (g : Nat) (l : List Int) (n : Int) (ok : Nat → Prop) (w : World) (hT : Tp w g ok l) (h0 : 0 ≤ n) (h1 : n ≤ 65536) (h2 : (l.length : Int) < n) :
    Calls Try.prog 10 #[.pointer (some ⟨g, 0, none⟩), .int .i64 n] w fun e w' => e = .returned (.tuple #[.slice none 0 0, .int .i64 7]) ∧ w' = w := by
  obtain ⟨A, c, hb, hlc, hF⟩ := hT
  have hcell := (blk_cell hb 0).trans rfl
  have hfz := blk_frozen hb 0
  clear hF hb
  have c1 : decide (n < 0) = false := decide_eq_false (by omega)
  have c2 : decide (65536 < n) = false := decide_eq_false (by omega)
  have c3 : decide ((l.length : Int) < n) = true := decide_eq_true (by omega)
  go_enter Try.func10, Try.ntmps10
  go_wp2
  go_ret2
  exact ⟨rfl, rfl⟩
set_option maxHeartbeats 2000000 in
set_option maxRecDepth 100000 in
theorem tape_Take2.bad (g : Nat) (n : Int) (w : World) (h : n < 0 ∨ 65536 < n) :
    Calls Try.prog 11 #[.pointer (some ⟨g, 0, none⟩), .int .i64 n] w fun e w' => e = .returned (.tuple #[.slice none 0 0, .int .i64 1]) ∧ w' = w := by
  by_cases h0 : n < 0
  · have c1 : decide (n < 0) = true := decide_eq_true h0
    go_enter Try.func11, Try.ntmps11
    go_wp2
    go_ret2
    exact ⟨rfl, rfl⟩
  · have c1 : decide (n < 0) = false := decide_eq_false h0
    have c2 : decide (65536 < n) = true := decide_eq_true (by omega)
    go_enter Try.func11, Try.ntmps11
    go_wp2
    go_ret2
    exact ⟨rfl, rfl⟩
set_option maxHeartbeats 2000000 in
set_option maxRecDepth 100000 in
theorem tape_Take2.few (g : Nat) (L : List Int) (u n : Int) (ok : Nat → Prop) (w : World) (hT : Tp2 w g ok L u) (hu : 0 ≤ u) (huL : u ≤ (L.length : Int)) (hL : L.length ≤ 65536) (h0 : 0 ≤ n) (h1 : n ≤ 65536) (h2 : (L.length : Int) - u < n) :
    Calls Try.prog 11 #[.pointer (some ⟨g, 0, none⟩), .int .i64 n] w fun e w' => e = .returned (.tuple #[.slice none 0 0, .int .i64 7]) ∧ Drawn0 w w' := by
  obtain ⟨A, c, hb, hlc, hF⟩ := hT
  have hcell := (blk_cell hb 0).trans rfl
  have hcell1 := (blk_cell hb 1).trans rfl
  clear hF hb
  have hsub : wrap64 ((L.length : Int) - u) = (L.length : Int) - u := by unfold wrap64; omega
  have c1 : decide (n < 0) = false := decide_eq_false (by omega)
  have c2 : decide (65536 < n) = false := decide_eq_false (by omega)
  have c3 : decide ((L.length : Int) - u < n) = true := decide_eq_true (by omega)
  have c4 : decide (wrap64 ((L.length : Int) - u) < n) = true := by rw [hsub]; exact c3
  go_enter Try.func11, Try.ntmps11
  go_wp2
  go_quiet (fail)
  go_wp2
  go_ret2
  exact ⟨rfl, ⟨_, rfl⟩⟩
/-- Any take from the tape. -/
theorem tape_TakeV.calls (g : Nat) (l : List Int) (n : Int) (ok : Nat → Prop) (w : World) (hT : Tp w g ok l) (hg : ¬ ok g) :
    Calls Try.prog 10 #[.pointer (some ⟨g, 0, none⟩), .int .i64 n] w fun e w' => Took w w' g e (takeV l n) ∧ Tp w' g ok (l.drop (usedV l n)) := by
  unfold takeV usedV
  by_cases h : n < 0 ∨ 65536 < n
  · rw [if_pos h, if_pos h]
    refine (tape_Take.bad g n w h).mono ?_
    rintro e w' ⟨rfl, rfl⟩
    exact ⟨Took.none w' 0 g 1, by simpa using hT⟩
  · rw [if_neg h, if_neg h]
    by_cases h2 : (l.length : Int) < n
    · rw [if_pos h2, if_pos h2]
      refine (tape_Take.few g l n ok w hT (by omega) (by omega) h2).mono ?_
      rintro e w' ⟨rfl, rfl⟩
      exact ⟨Took.none w' 0 g 7, by simpa using hT⟩
    · rw [if_neg h2, if_neg h2]
      refine (tape_Take.calls g l n ok w hT hg (by omega) (by omega) (by omega)).mono ?_
      rintro e w' ⟨v, rfl, hR, hT', hk, ho, ht, hu⟩
      obtain ⟨A, c, rfl⟩ := Kd.R_slice hR
      exact ⟨⟨A, c, rfl, (Kd.R_reads' hR).2.1, Kd.R_F (Kd.R_mono (Kd.R_bound hR) (fun k hk => hk.2.1)), hk, ho, ht, hu⟩, hT'⟩
/-- Any take from the document's tape. -/
theorem tape_TakeV2.calls (g : Nat) (L : List Int) (u : Nat) (n : Int) (ok : Nat → Prop) (w : World) (hT : Tp2 w g ok L (u : Int)) (hg : ¬ ok g) (hu : u ≤ L.length) (hL : L.length ≤ 65536) :
    Calls Try.prog 11 #[.pointer (some ⟨g, 0, none⟩), .int .i64 n] w fun e w' => Took w w' g e (takeV (L.drop u) n) ∧ Tp2 w' g ok L ((u + usedV (L.drop u) n : Nat) : Int) := by
  unfold takeV usedV
  have hl : (L.drop u).length = L.length - u := List.length_drop
  by_cases h : n < 0 ∨ 65536 < n
  · rw [if_pos h, if_pos h]
    refine (tape_Take2.bad g n w h).mono ?_
    rintro e w' ⟨rfl, rfl⟩
    exact ⟨Took.none w' 0 g 1, by simpa using hT⟩
  · rw [if_neg h, if_neg h]
    by_cases h2 : ((L.drop u).length : Int) < n
    · rw [if_pos h2, if_pos h2]
      refine (tape_Take2.few g L u n ok w hT (by omega) (by omega) hL (by omega) (by omega) (by omega)).mono ?_
      rintro e w' ⟨rfl, ⟨m, rfl⟩⟩
      exact ⟨Took.none w m g 7, by simpa using hT.drewN m⟩
    · rw [if_neg h2, if_neg h2]
      refine (tape_Take2.calls g L u n ok w hT hg (by omega) (by omega) (by omega) (by omega) hL).mono ?_
      rintro e w' ⟨v, rfl, hR, hT', hk, ho, ht, hu⟩
      rw [Int.toNat_natCast] at hR
      obtain ⟨A, c, rfl⟩ := Kd.R_slice hR
      refine ⟨⟨A, c, rfl, (Kd.R_reads' hR).2.1, Kd.R_F (Kd.R_mono (Kd.R_bound hR) (fun k hk => hk.2.1)), hk, ho, ht, hu⟩, ?_⟩
      rw [show ((u + n.toNat : Nat) : Int) = (u : Int) + n from by omega]
      exact hT'
end Go.Proofs.Yteabkedhdgnhgaa.F

namespace Go.Proofs.Yteabkedhdgnhgaa.F
open Go.RowKit Go.Proofs.YteabkedhdgnhgaaW.PrintWords Go.Proofs.YteabkedhdgnhgaaW.PrintLast Go.Proofs.YteabkedhdgnhgaaW.PrintMore
set_option linter.unusedVariables false
set_option linter.unusedSimpArgs false
def windbreaklaw04_TapeTakes.f (l m : List Int) : Option Bool := some true
theorem Tp2.mono {w : World} {g : Nat} {ok ok' : Nat → Prop} {l : List Int} {u : Int} (h : Tp2 w g ok l u) (hok : ∀ k, ok k → ok' k) : Tp2 w g ok' l u := by
  obtain ⟨A, c, h1, h2, h3⟩ := h
  exact ⟨A, c, h1, h2, Kd.F_mono h3 hok⟩
theorem Tp2.lt {w : World} {g : Nat} {ok : Nat → Prop} {l : List Int} {u : Int} (h : Tp2 w g ok l u) : g < w.heap.size := by
  obtain ⟨A, c, h1, _⟩ := h
  exact blk_lt h1
theorem Tp2.keep {w w1 : World} {g g1 : Nat} {ok : Nat → Prop} {l : List Int} {u : Int} (h : Tp2 w g ok l u) (hk : KeepBut w w1 g1 none) (hg : g ≠ g1) (hok : ∀ k, ok k → k ≠ g1) : Tp2 w1 g ok l u := by
  obtain ⟨A, c, h1, h2, h3⟩ := h
  exact ⟨A, c, (hk.2 g (blk_lt h1) hg (by simp)).trans h1, h2, Kd.F_step h3 (fun k hk2 hlt => hk.2 k hlt (hok k hk2) (by simp))⟩
theorem Tp.cell {w : World} {g : Nat} {ok : Nat → Prop} {l : List Int} (h : Tp w g ok l) : ∃ A c, w.cell? ⟨g, 0, none⟩ = some (.slice A l.length c) := by
  obtain ⟨A, c, hb, _⟩ := h
  exact ⟨A, c, (blk_cell hb 0).trans rfl⟩
theorem Tp2.cell {w : World} {g : Nat} {ok : Nat → Prop} {l : List Int} {u : Int} (h : Tp2 w g ok l u) : ∃ A c, w.cell? ⟨g, 0, none⟩ = some (.slice A l.length c) ∧ w.cell? ⟨g, 1, none⟩ = some (.int .i64 u) := by
  obtain ⟨A, c, hb, _⟩ := h
  exact ⟨A, c, (blk_cell hb 0).trans rfl, (blk_cell hb 1).trans rfl⟩
theorem usedV_le (l : List Int) (n : Int) : usedV l n ≤ l.length := by
  unfold usedV
  split
  · omega
  · split <;> omega
set_option maxHeartbeats 8000000 in
set_option maxRecDepth 100000 in
theorem tape_fresh.both (A0 : Option Addr) (c0 : Nat) (l0 : List Int) (w : World) (hr0 : Kd.C (Kd.int .u8) w A0 l0.length l0) (hc0 : l0.length ≤ c0) (c2 : ¬ (l0.length : Int) > 65536) :
    Calls Try.prog 9 #[.slice A0 l0.length c0] w fun e w' => ∃ g1 g2 : Nat, e = .returned (.tuple #[.pointer (some ⟨g1, 0, none⟩), .pointer (some ⟨g2, 0, none⟩), .bool true]) ∧ w.heap.size ≤ g1 ∧ g1 < g2 ∧ Tp w' g1 (fun k => k < g1) l0 ∧ Tp2 w' g2 (fun k => g1 < k ∧ k < g2) l0 0 ∧ Below w.heap.size w w' := by
  have HR0 := Aside0.mk hr0
  have HC0 := Aside0.mk hc0
  clear hr0 hc0
  have HB := Aside0.mk (Below.refl w.heap.size w)
  have C2 := Aside0.mk c2
  clear c2
  go_enter Try.func9, Try.ntmps9
  go_wp2_with (first | (go_at_call 21; (with_reducible refine (tape_New.calls _ _ l0 _ ?side1 HC0.out).mono ?_); (case side1 => repeat (first | exact (Kd.C_below HR0.out HB.out) | (with_reducible refine Kd.C_alloc ?_ _) | (with_reducible refine Kd.C_drewN ?_ _) | (with_reducible refine Kd.C_drew ?_))); rintro e w1 ⟨p, rfl, hp, hb⟩; rw [if_neg (c := (l0.length : Int) > 65536) (by have := C2.out; omega)] at hp; rw [if_neg (c := (l0.length : Int) > 65536) (by have := C2.out; omega)]; obtain ⟨g1, rfl, hg1, hT1⟩ := hp; have G1 := Aside0.mk (Nat.le_trans (below_size (by repeat (first | (with_reducible first | exact HB.out | apply below_alloc | apply pw_below_drewN | apply below_drew1) | exact HB.out))) hg1); have T1 := Aside0.mk (Tp.mono (ok' := fun k => k < g1) hT1 (fun k hk => hk.2)); have L1 := Aside0.mk (Tp.lt hT1); clear hg1 hT1; have n1_ := Aside0.mk (below_step (by repeat (first | (with_reducible first | exact HB.out | apply below_alloc | apply pw_below_drewN | apply below_drew1) | exact HB.out)) hb); clear HB hb; have HB := n1_; clear n1_) | (go_at_call 22; (with_reducible refine (tape_New2.calls _ _ l0 _ ?side1 HC0.out).mono ?_); (case side1 => repeat (first | exact (Kd.C_below HR0.out HB.out) | (with_reducible refine Kd.C_alloc ?_ _) | (with_reducible refine Kd.C_drewN ?_ _) | (with_reducible refine Kd.C_drew ?_))); rintro e w2 ⟨p, rfl, hp, hb⟩; rw [if_neg (c := (l0.length : Int) > 65536) (by have := C2.out; omega)] at hp; rw [if_neg (c := (l0.length : Int) > 65536) (by have := C2.out; omega)]; obtain ⟨g2, rfl, hg2, hT2⟩ := hp; have G2 := Aside0.mk (Nat.lt_of_lt_of_le L1.out hg2); have T2 := Aside0.mk (Tp2.mono (ok' := fun k => g1 < k ∧ k < g2) hT2 (fun k hk => ⟨Nat.lt_of_lt_of_le L1.out hk.1, hk.2⟩)); clear hg2 hT2 L1; have n2_ := Aside0.mk (T1.out.below hb); clear T1; have T1 := n2_; clear n2_; have n1_ := Aside0.mk (below_step (by repeat (first | (with_reducible first | exact HB.out | apply below_alloc | apply pw_below_drewN | apply below_drew1) | exact HB.out)) hb); clear HB hb; have HB := n1_; clear n1_))
  go_ret3
  exact ⟨g1, g2, rfl, G1.out, G2.out, T1.out, T2.out, by repeat (first | (with_reducible first | exact HB.out | apply below_alloc | apply pw_below_drewN | apply below_drew1) | exact HB.out)⟩
set_option maxHeartbeats 8000000 in
set_option maxRecDepth 100000 in
theorem windbreaklaw04_TapeTakes.calls (A0 : Option Addr) (c0 : Nat) (l0 : List Int) (A1 : Option Addr) (c1 : Nat) (l1 : List Int) (r : Bool) (w : World) (hr0 : Kd.C (Kd.int .u8) w A0 l0.length l0) (hc0 : l0.length ≤ c0) (hr1 : Kd.C (Kd.int .i64) w A1 l1.length l1) (hc1 : l1.length ≤ c1) (h : windbreaklaw04_TapeTakes.f l0 l1 = some r) :
    Calls Try.prog 4 #[.slice A0 l0.length c0, .slice A1 l1.length c1] w fun e w' => e = .returned (.bool r) ∧ Below w.heap.size w w' := by
  obtain rfl : true = r := Option.some.inj h
  clear h
  have HR0 := Aside0.mk hr0
  have HC0 := Aside0.mk hc0
  have HR1 := Aside0.mk hr1
  have hbig : l1.length ≤ 9223372036854775807 := hr1.2.1
  clear hr0 hc0 hr1 hc1
  have HB := Aside0.mk (Below.refl w.heap.size w)
  by_cases c2 : (l0.length : Int) > 65536
  · have C2 := Aside0.mk c2
    clear c2
    go_enter Try.func4, Try.ntmps4
    go_wp2_with (go_at_call 9; (with_reducible refine (tape_fresh.long _ _ l0 _ ?side1 HC0.out ?side2).mono ?_); (case side1 => repeat (first | exact (Kd.C_below HR0.out HB.out) | (with_reducible refine Kd.C_alloc ?_ _) | (with_reducible refine Kd.C_drewN ?_ _) | (with_reducible refine Kd.C_drew ?_))); (case side2 => have := C2.out; omega); rintro e w1 ⟨rfl, hb⟩; have n1_ := Aside0.mk (below_step (by repeat (first | (with_reducible first | exact HB.out | apply below_alloc | apply pw_below_drewN | apply below_drew1) | exact HB.out)) hb); clear HB hb; have HB := n1_; clear n1_)
    go_ret
    exact ⟨rfl, by repeat (first | (with_reducible first | exact HB.out | apply below_alloc | apply pw_below_drewN | apply below_drew1) | exact HB.out)⟩
  · have C2 := Aside0.mk c2
    have HL0 := Aside0.mk (show l0.length ≤ 65536 by omega)
    clear c2
    go_enter Try.func4, Try.ntmps4
    go_wp2_with (go_at_call 9; (with_reducible refine (tape_fresh.both _ _ l0 _ ?side1 HC0.out ?side2).mono ?_); (case side1 => repeat (first | exact (Kd.C_below HR0.out HB.out) | (with_reducible refine Kd.C_alloc ?_ _) | (with_reducible refine Kd.C_drewN ?_ _) | (with_reducible refine Kd.C_drew ?_))); (case side2 => have := C2.out; omega); rintro e w1 ⟨g1, g2, rfl, hg1, hg2, hT1, hT2, hb⟩; have T1 := Aside0.mk hT1; have T2 := Aside0.mk hT2; have n1_ := Aside0.mk (below_step (by repeat (first | (with_reducible first | exact HB.out | apply below_alloc | apply pw_below_drewN | apply below_drew1) | exact HB.out)) hb); clear HB hb hT1 hT2; have HB := n1_; clear n1_; have G1 := Aside0.mk hg1; have G2 := Aside0.mk hg2; clear hg1 hg2)
    go_loopg [8] 60 (fun gg s8 wr => ∃ (i u : Nat), i ≤ 60 ∧ 60 - i ≤ gg ∧ s8 = .int .i64 (i : Int) ∧ Aside0 (u ≤ l0.length) ∧ Aside0 (Tp wr g1 (fun k => k < g1) (l0.drop u)) ∧ Aside0 (Tp2 wr g2 (fun k => g1 < k ∧ k < g2) l0 (u : Int)) ∧ Aside0 (Below w.heap.size w wr))
    case atStart => exact ⟨0, 0, by omega, by omega, rfl, ⟨Nat.zero_le _⟩, ⟨by simpa using T1.out⟩, ⟨by simpa using T2.out⟩, ⟨HB.out⟩⟩
    case round =>
      clear T1 T2 HB
      obtain ⟨i, u, hi60, hgg, rfl, HU, T1, T2, HB⟩ := hrel
      by_cases hlt : i < l1.length
      · have hltz : decide ((i : Int) < (l1.length : Int)) = true := decide_eq_true (by omega)
        by_cases h60 : i < 60
        · have h60z : decide ((i : Int) < 60) = true := decide_eq_true (by omega)
          obtain ⟨ad, hA, hx0⟩ := Kd.at_int HR1.out (i : Int) (Int.natCast_nonneg i) (by omega)
          subst hA
          simp only [Go.IntWalk.toNatUp] at hx0
          generalize rd l1 (i : Int) = n at hx0
          have hltA := World.block_lt_of_cell? _ _ hx0
          have hcell := (HB.out.cell hltA).trans hx0
          have HX0 := Aside0.mk hx0
          have HLA := Aside0.mk hltA
          clear hx0 hltA
          obtain ⟨X, hX⟩ : ∃ X, X = takeV (l0.drop u) n := ⟨_, rfl⟩
          obtain ⟨q, hq⟩ : ∃ q, q = usedV (l0.drop u) n := ⟨_, rfl⟩
          have hqle : q ≤ l0.length - u := by
            have := usedV_le (l0.drop u) n
            rw [List.length_drop] at this
            omega
          obtain ⟨M, hM⟩ : ∃ M : Nat, M = l0.length - (u + q) := ⟨_, rfl⟩
          have NX := Aside0.mk hX
          have NQ := Aside0.mk hq
          have NM := Aside0.mk hM
          have HQL := Aside0.mk hqle
          clear hX hq hM hqle
          go_wp2_with (first
            | (go_at_call 10; (have tk_ := tape_TakeV.calls g1 (l0.drop u) n _ _ T1.out (Nat.lt_irrefl _)); rw [← NX.out, ← NQ.out, List.drop_drop] at tk_; (with_reducible refine tk_.mono ?_); clear tk_; rintro e w3 ⟨⟨Ax, cx, rfl, hcx, hFx, hk, ho, ht, hu⟩, hT⟩; have n2_ := Aside0.mk (Tp2.keep T2.out hk (Nat.ne_of_gt G2.out) (fun k hk => Nat.ne_of_gt hk.1)); have Fx := Aside0.mk (Kd.F_mono (ok' := fun k => g2 < k) hFx (fun k hk => Nat.lt_of_lt_of_le (Tp2.lt T2.out) hk)); clear T2 T1 hFx hcell; have T2 := n2_; clear n2_; have T1 := Aside0.mk hT; have n1_ := Aside0.mk (keep_below HB.out hk ho ht hu G1.out); clear HB; have HB := n1_; clear n1_ hT hk ho ht hu; have hcell := (HB.out.cell HLA.out).trans HX0.out)
            | (go_at_call 11; (have tk_ := tape_TakeV2.calls g2 l0 u n _ _ T2.out (fun h => Nat.lt_irrefl _ h.2) HU.out HL0.out); rw [← NX.out, ← NQ.out] at tk_; (with_reducible refine tk_.mono ?_); clear tk_; rintro e w4 ⟨⟨Ay, cy, rfl, hcy, hFy, hk, ho, ht, hu⟩, hT⟩; have n2_ := Aside0.mk (Tp.keep T1.out hk (Nat.ne_of_lt G2.out) (fun k hk2 => Nat.ne_of_lt (Nat.lt_trans hk2 G2.out))); have n3_ := Kd.F_step Fx.out (fun k hk2 hlt => hk.2 k hlt (Nat.ne_of_gt hk2) (by simp)); have hsx := Kd.C_string (P := Try.prog) Try.underlying22 Try.underlying5 Try.underlying9 (c := cx) (Kd.F_now n3_); have hsy := Kd.C_string (P := Try.prog) Try.underlying22 Try.underlying5 Try.underlying9 (c := cy) (Kd.F_now hFy); clear T1 T2 Fx hFy n3_ hcell; have T1 := n2_; clear n2_; have T2 := Aside0.mk hT; have n1_ := Aside0.mk (keep_below HB.out hk ho ht hu (Nat.le_trans G1.out (Nat.le_of_lt G2.out))); clear HB; have HB := n1_; clear n1_ hT hk ho ht hu)
            | (go_at_call 12; obtain ⟨Al_, cl_, hl_⟩ := T1.out.cell; rw [List.length_drop, ← NM.out] at hl_; (with_reducible refine (tape_Left.calls _ _ _ _ _ hl_).mono ?_); clear hl_; rintro e w5 ⟨rfl, hd⟩; have hb := hd.below; have n2_ := Aside0.mk (T1.out.below hb); have n3_ := Aside0.mk (T2.out.below hb); clear T1 T2; have T1 := n2_; have T2 := n3_; clear n2_ n3_; have n1_ := Aside0.mk (below_step HB.out hb); clear HB hb hd; have HB := n1_; clear n1_)
            | (go_at_call 13; obtain ⟨Am_, cm_, hl_, hm_⟩ := T2.out.cell; (have tk_ := tape_Left2.calls _ _ _ _ _ _ hl_ hm_); rw [show wrap64 ((l0.length : Int) - ((u + q : Nat) : Int)) = (M : Int) from by have := HQL.out; have := HU.out; have := NM.out; have := HL0.out; unfold wrap64; omega] at tk_; (with_reducible refine tk_.mono ?_); clear hl_ hm_ tk_; rintro e w6 ⟨rfl, hd⟩; have hb := hd.below; have n2_ := Aside0.mk (T1.out.below hb); have n3_ := Aside0.mk (T2.out.below hb); clear T1 T2; have T1 := n2_; have T2 := n3_; clear n2_ n3_; have n1_ := Aside0.mk (below_step HB.out hb); clear HB hb hd; have HB := n1_; clear n1_))
          go_roundg (60 - (i + 1))
          case measure => omega
          case rel => exact ⟨i + 1, u + q, by omega, by omega, by go_num, ⟨by have := HQL.out; have := HU.out; omega⟩, T1, T2, HB⟩
        · have h60z : decide ((i : Int) < 60) = false := decide_eq_false (by omega)
          go_wp2
          go_ret
          exact ⟨rfl, HB.out⟩
      · have hltz : decide ((i : Int) < (l1.length : Int)) = false := decide_eq_false (by omega)
        go_wp2
        go_ret
        exact ⟨rfl, HB.out⟩
end Go.Proofs.Yteabkedhdgnhgaa.F

namespace Go.Proofs.Yteabkedhdgnhgaa.F
open Go.RowKit Go.Proofs.YteabkedhdgnhgaaW.PrintWords Go.Proofs.YteabkedhdgnhgaaW.PrintLast Go.Proofs.YteabkedhdgnhgaaW.PrintMore
attribute [local go_sem] max2_int min2_int max_two min_two max_three min_three max_four min_four   -- for this text's walks alone
set_option linter.unusedVariables false
set_option linter.unusedSimpArgs false


/-- THE ONE PURE STATEMENT of windbreaklaw04_TapeTakes: yours. -/
def windbreaklaw04_TapeTakes.Pure : Prop := ∀ (l0 : List Int) (l1 : List Int), l0.length ≤ maxLen → l0.length * 1 ≤ 140737488351232 → (∀ x ∈ l0, (Lit.int .u8 x).wf = true) → l1.length ≤ maxLen → l1.length * 8 ≤ 140737488351232 → (∀ x ∈ l1, (Lit.int .i64 x).wf = true) → windbreaklaw04_TapeTakes.f l0 l1 = some true
theorem windbreaklaw04_TapeTakes.walk (P : windbreaklaw04_TapeTakes.Pure) (a0 : Option Addr) (len0 cap0 : Nat) (z0 : List Int) (a1 : Option Addr) (len1 cap1 : Nat) (z1 : List Int) (w : World) (w0 : (a0 = none ∧ len0 = 0 ∧ cap0 = 0 ∧ z0 = []) ∨ ∃ x, a0 = some x ∧ len0 ≤ cap0 ∧ cap0 ≤ maxLen ∧ z0.length = cap0 ∧ (∀ i, i < z0.length → w.cell? (x.add i) = some (.int .u8 (z0.getD i 0))) ∧ ∀ n ∈ z0, (Lit.int .u8 n).wf = true) (y0 : len0 * 1 ≤ 140737488351232) (w1 : (a1 = none ∧ len1 = 0 ∧ cap1 = 0 ∧ z1 = []) ∨ ∃ x, a1 = some x ∧ len1 ≤ cap1 ∧ cap1 ≤ maxLen ∧ z1.length = cap1 ∧ (∀ i, i < z1.length → w.cell? (x.add i) = some (.int .i64 (z1.getD i 0))) ∧ ∀ n ∈ z1, (Lit.int .i64 n).wf = true) (y1 : len1 * 8 ≤ 140737488351232) :
    Calls Try.prog 4 #[.slice a0 len0 cap0, .slice a1 len1 cap1] w fun e w' => e = .returned (.bool true) ∧ Below w.heap.size w w' := by
  obtain ⟨l0, rfl, hr0, hm0, hw0, hc0⟩ := ReadsInt.ofRowC w0
  obtain ⟨l1, rfl, hr1, hm1, hw1, hc1⟩ := ReadsInt.ofRowC w1
  have h := P l0 l1 hm0 y0 hw0 hm1 y1 hw1
  refine (windbreaklaw04_TapeTakes.calls _ _ l0 _ _ l1 true w (Kd.C_of_reads (d := (0 : Int)) (h1 := fun _ => rfl) hr0) hc0 (Kd.C_of_reads (d := (0 : Int)) (h1 := fun _ => rfl) hr1) hc1 h).mono ?_
  rintro e w' ⟨rfl, hd⟩
  exact ⟨rfl, hd⟩

end Go.Proofs.Yteabkedhdgnhgaa.F

namespace Go.Proofs.Yteabkedhdgnhgaa.Pure
open Go.RowKit Go.Proofs.Yteabkedhdgnhgaa.F
set_option linter.unusedSimpArgs false
set_option linter.unusedVariables false
theorem TapeTakes : windbreaklaw04_TapeTakes.Pure := fun _ _ _ _ _ _ _ _ => rfl
end Go.Proofs.Yteabkedhdgnhgaa.Pure

namespace Go.Proofs.Yteabkedhdgnhgaa.tapeTakes
open Go.ChangeShapes Go.WideShapes Go.ChangeAt Go.RowKit
open Go.ChangeMaps (open_string shut_string)
set_option linter.unusedVariables false
theorem own : ownKnob Try.prog.godebug = none := by kernel_rfl
theorem laidOut : laidOutB Try.prog = true := by kernel_rfl
def IsRow (k : IntKind) (w : World) (a : Option Addr) (len cap : Nat) (zs : List Int) : Prop :=
  (a = none ∧ len = 0 ∧ cap = 0 ∧ zs = []) ∨
  ∃ x, a = some x ∧ len ≤ cap ∧ cap ≤ maxLen ∧ zs.length = cap ∧ (∀ i, i < zs.length → w.cell? (x.add i) = some (.int k (zs.getD i 0))) ∧ ∀ n ∈ zs, (Lit.int k n).wf = true
set_option maxRecDepth 100000 in
theorem lifted (os : Os) (started : os.Started) (H : Type) (enc : TypeId × Value → H) :
    ReturnsInHanded {} Try.checked os 4 .any (Rows.tapeTakesSpec.pre6 enc Try.prog Try.f4 Rows.tapeTakesRow.domain false) (Rows.tapeTakesSpec.post enc Try.prog Try.f4 false true false false) := by
  refine returnsInHanded_of_change_sized (C := Try.checked) own started (by kernel_rfl) Try.func4
    (ChangeSpec.witness6 (enc := enc) (C := Try.checked) false ⟨#[], #[.slice none 0 0, .slice none 0 0], []⟩ 8 (by kernel_rfl) (by kernel_rfl) (by kernel_rfl) (by kernel_rfl)) ?_
  intro W base args ds gs before hval0 hW hcnd hsz0 _
  have hsz : (DataW.weightsEach Try.prog (Try.f4.params.toList ++ Rows.tapeTakesSpec.plain.varTypes Try.prog) (ds ++ gs)).all (· ≤ reachBytes) = true := hsz0
  have hval : ∀ (j : Nat) t v, Try.f4.params[j]? = some t → args[j]? = some v → Value.okWide Try.prog W .any base t v := hval0
  have hW' := hW
  obtain ⟨p, q, hA0, hV, rfl, hfz, hnd⟩ := hW
  have hA : DataW.TrodAll enc Try.prog W 0 (fun _ => true) true Try.f4.params.toList args.toList ds p := hA0
  rw [Try.params4] at hA hval hsz
  obtain ⟨v0, vs0, d0, ds0, p0, q0, hargs, rfl, rfl, h0, r0⟩ := trodAll_cons hA
  obtain ⟨v1, vs1, d1, ds1, p1, q1, rfl, rfl, rfl, h1, r1⟩ := trodAll_cons r0
  obtain ⟨rfl, rfl, rfl⟩ := trodAll_nil r1
  obtain rfl : args = #[v0, v1] := by cases args; simp_all
  obtain ⟨rfl, rfl⟩ := trodVars_none hV
  obtain ⟨a0, len0, cap0, rfl⟩ := okWide_slice Try.underlying22 (hval 0 22 v0 rfl rfl)
  have k0 := h0
  have lt0 : ∀ x ∈ p0, x.block < W.heap.size := by obtain ⟨m, hm⟩ := k0; exact DataW.trod_lt m _ _ _ hm
  obtain ⟨z0, w0⟩ : ∃ zs, IsRow .u8 W a0 len0 cap0 zs := by
    obtain ⟨fuel, hf⟩ := h0
    rcases open_ints Try.underlying22 Try.underlying5 (by kernel_rfl) hf with ⟨hcs, _⟩ | ⟨x, l, c, zs, hcs, _, hl, hm, hz, _, hcell, hwz⟩
    · simp [Value.cells] at hcs
      obtain ⟨rfl, rfl, rfl⟩ := hcs
      exact ⟨[], .inl ⟨rfl, rfl, rfl, rfl⟩⟩
    · simp [Value.cells] at hcs
      obtain ⟨rfl, rfl, rfl⟩ := hcs
      exact ⟨zs, .inr ⟨_, rfl, hl, hm, by simpa using hz, hcell, hwz⟩⟩
  have y0 : len0 * 1 ≤ 140737488351232 := Go.Proofs.YteabkedhdgnhgaaW.PrintWords.sized_ints hsz (j := 0) (t := 22) rfl rfl Try.underlying22 Try.underlying5 (by kernel_rfl) (by kernel_rfl) h0
  obtain ⟨a1, len1, cap1, rfl⟩ := okWide_slice Try.underlying31 (hval 1 31 v1 rfl rfl)
  have k1 := h1
  have lt1 : ∀ x ∈ p1, x.block < W.heap.size := by obtain ⟨m, hm⟩ := k1; exact DataW.trod_lt m _ _ _ hm
  obtain ⟨z1, w1⟩ : ∃ zs, IsRow .i64 W a1 len1 cap1 zs := by
    obtain ⟨fuel, hf⟩ := h1
    rcases open_ints Try.underlying31 Try.underlying3 (by kernel_rfl) hf with ⟨hcs, _⟩ | ⟨x, l, c, zs, hcs, _, hl, hm, hz, _, hcell, hwz⟩
    · simp [Value.cells] at hcs
      obtain ⟨rfl, rfl, rfl⟩ := hcs
      exact ⟨[], .inl ⟨rfl, rfl, rfl, rfl⟩⟩
    · simp [Value.cells] at hcs
      obtain ⟨rfl, rfl, rfl⟩ := hcs
      exact ⟨zs, .inr ⟨_, rfl, hl, hm, by simpa using hz, hcell, hwz⟩⟩
  have y1 : len1 * 8 ≤ 140737488351232 := Go.Proofs.YteabkedhdgnhgaaW.PrintWords.sized_ints hsz (j := 1) (t := 31) rfl rfl Try.underlying31 Try.underlying3 (by kernel_rfl) (by kernel_rfl) h1
  clear hA0 hval0 hsz0 hsz
  refine (F.windbreaklaw04_TapeTakes.walk Pure.TapeTakes a0 len0 cap0 z0 a1 len1 cap1 z1 W w0 y0 w1 y1).mono fun e W' ⟨he, bel⟩ => ?_
  subst he
  exact ⟨_, rfl, _, _, _, [], _, [], hW', trodAll_mk1 (shut_bool Try.underlying4 _), (trodAll_cons_mk (Below.trod laidOut (by kernel_rfl) (of_decide_eq_true (by kernel_rfl)) k0 bel lt0) (trodAll_cons_mk (Below.trod laidOut (by kernel_rfl) (of_decide_eq_true (by kernel_rfl)) k1 bel lt1) trodAll_mk0)), rfl, bel.frame _, fun h => by cases h⟩
theorem over : Rows.tapeTakesRow.holds Try.pinned (OpenSpec.ofChange Rows.tapeTakesSpec) :=
  OpenClaim.holds_of_wide 4 Try.f4 rfl rfl rfl rfl rfl rfl rfl ⟨rfl, rfl, rfl, rfl, rfl⟩ rfl rfl rfl rfl rfl (by kernel_rfl) Try.func4 (by kernel_rfl)
    (of_decide_eq_true (by kernel_rfl)) (by unfold Func.isWrapper; first | (rw [if_pos (by decide +kernel)]; kernel_rfl) | (rw [if_neg (by decide +kernel)]; exact ⟨rfl, rfl⟩))
    (fun os started H enc _ => lifted os started H enc)
theorem proved : Rows.TapeTakesSaid := over
#print axioms proved
end Go.Proofs.Yteabkedhdgnhgaa.tapeTakes
namespace Go.Proofs.Yteabkedhdgnhgaa
/-- The row, under a short name, for the claim. -/
theorem tapeTakes_holds : Rows.TapeTakesSaid := tapeTakes.proved
end Go.Proofs.Yteabkedhdgnhgaa
