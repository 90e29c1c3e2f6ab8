/- Proved: the law PrimeChecks of layer 5: whether any two numbers are a key is the document's answer; for every input, without a condition. -/
import Derived.Test.YtgeanpnkllnipaaMPrimeChecksa
import Derived.RangeFuncFrom
import Derived.RangeFuncLeaves
import Derived.Shelf.Abstract
import Derived.WalkKit
import Derived.OwnWalkIn
import Derived.TacticsInMore
import Derived.LoopNIn
import Derived.LoopIn
import Derived.Laws.BitsLemmas
import Derived.Deep.RegionHeld3
section
namespace Go.Proofs.Ytgeanpnkllnipaa.F
open Go.RowKit Go.Proofs.YtgeanpnkllnipaaW.PrintWords Go.Proofs.YtgeanpnkllnipaaW.PrintLast Go.Proofs.YtgeanpnkllnipaaW.PrintMore
attribute [local go_sem] max2_int min2_int max_two min_two max_three min_three max_four min_four
set_option linter.unusedVariables false
set_option linter.unusedSimpArgs false
def nat_Cmp.f (k : Nat) (l0 : List Int) (l1 : List Int) : Option (Int) := (nat_right.f (([l0, l1] : List (List Int)))).bind fun t145 => (if t145 = true then ((nat_compare.f k l0 l1).bind fun t146 => (some t146)) else (some 0))
set_option maxHeartbeats 8000000 in
set_option maxRecDepth 100000 in
theorem nat_Cmp.calls (k : Nat) (P0_ : Nat → Prop) (A0 : Option Addr) (c0 : Nat) (l0 : List Int) (P1_ : Nat → Prop) (A1 : Option Addr) (c1 : Nat) (l1 : List Int) (r : Int) (w : World) (hs0 : Kd.V (Kd.int .u64) 47 w w.heap.size (fun k_ => P0_ k_) (.slice A0 l0.length c0) l0) (hs1 : Kd.V (Kd.int .u64) 47 w w.heap.size (fun k_ => P1_ k_) (.slice A1 l1.length c1) l1) (h : nat_Cmp.f k l0 l1 = some r) :
  Calls Try.prog 65 #[.slice A0 l0.length c0, .slice A1 l1.length c1] w fun e w' => e = .returned (.int .i64 r) ∧ Below w.heap.size w w' := by
 have HO0 := Aside0.mk (show Kd.V (Kd.int .u64) 47 w w.heap.size (fun k_ => ((P0_ k_ ∨ P1_ k_) ∨ w.heap.size ≤ k_)) (.slice A0 l0.length c0) l0 from Kd.V_mono hs0 (fun k_ hk => .inl (.inl hk)))
 have HO1 := Aside0.mk (show Kd.V (Kd.int .u64) 47 w w.heap.size (fun k_ => ((P0_ k_ ∨ P1_ k_) ∨ w.heap.size ≤ k_)) (.slice A1 l1.length c1) l1 from Kd.V_mono hs1 (fun k_ hk => .inl (.inr hk)))
 have HB := Aside0.mk (Below.refl w.heap.size w)
 have H : ((nat_right.f (([l0, l1] : List (List Int)))).bind fun t145 => (if t145 = true then ((nat_compare.f k l0 l1).bind fun t146 => (some t146)) else (some 0))) = some r := h
 clear h
 obtain ⟨y142, hy142⟩ : ∃ y_ : List (List Int), y_ = (([l0, l1] : List (List Int))) := ⟨_, rfl⟩
 replace H : ((nat_right.f y142).bind fun t145 => (if t145 = true then ((nat_compare.f k l0 l1).bind fun t146 => (some t146)) else (some 0))) = some r := by first | (rw [hy142]; with_reducible exact H) | (have H2_ := (Option.bind_some _ _).symm.trans H; rw [hy142]; with_reducible exact H2_) | (have H2_ := (Option.bind_some _ _).symm.trans H; with_reducible exact H2_) | with_reducible exact H | (rw [hy142]; exact H) | exact H
 have Ny142 := Aside0.mk hy142; clear hy142
 replace H := ub H; obtain ⟨t145, A3, H⟩ := H
 by_cases c4 : t145 = true
 ·
  subst c4
  have H1 : ((nat_compare.f k l0 l1).bind fun t146 => (some t146)) = some r := by rw [if_pos rfl] at H; exact H
  clear H; have H := H1; clear H1
  replace H := ub H; obtain ⟨t146, A5, H⟩ := H
  obtain rfl := Option.some.inj H
  go_enter Try.func65, Try.ntmps65
  go_wp2_with (first | ((with_reducible refine gate_dst (N := 7) rfl ?_); refine Kd.N_lit (Kd.slice 47 (Kd.int .u64)) _ 29 ?hg (N' := 7) ?hd (xs := ([l0, l1] : List (List Int))) (inner := [.slice A0 l0.length c0, .slice A1 l1.length c1]) (ok := (fun k_ => ((P0_ k_ ∨ P1_ k_) ∨ w.heap.size ≤ k_))) (okp := (fun k_ => ((P0_ k_ ∨ P1_ k_) ∨ w.heap.size ≤ k_))) ?hr ?hp (fun _ hk => hk) ((show ∀ k_, w.heap.size ≤ k_ → (fun k_ => ((P0_ k_ ∨ P1_ k_) ∨ w.heap.size ≤ k_)) k_ from fun k_ hk => (.inr (Nat.le_trans (below_size uB) hk))) _ (Nat.le_refl _)) (Below.refl _ _) (Nat.le_refl _) (by simp) ?_; (case hd => rfl); (case hg => rfl); (case hr => first | (go_simp; done) | (go_simp; rfl) | (go_simp; simp only [u64_u8]; done) | (go_simp; simp only [u64_u8]; rfl)); (case hp => exact (Reps.one (show Kd.FK (Kd.slice 47 (Kd.int .u64)) _ _ l0 [.slice A0 l0.length c0] from (Kd.FK_slice_mk (Kd.V_reads' (Kd.V_mono (ok' := (fun k_ => ((P0_ k_ ∨ P1_ k_) ∨ w.heap.size ≤ k_))) (HO0.out) (fun k_ hk => hk))).2.1 (Kd.V_F (Kd.V_mono (ok' := (fun k_ => ((P0_ k_ ∨ P1_ k_) ∨ w.heap.size ≤ k_))) (HO0.out) (fun k_ hk => hk))))) (Reps.one (show Kd.FK (Kd.slice 47 (Kd.int .u64)) _ _ l1 [.slice A1 l1.length c1] from (Kd.FK_slice_mk (Kd.V_reads' (Kd.V_mono (ok' := (fun k_ => ((P0_ k_ ∨ P1_ k_) ∨ w.heap.size ≤ k_))) (HO1.out) (fun k_ hk => hk))).2.1 (Kd.V_F (Kd.V_mono (ok' := (fun k_ => ((P0_ k_ ∨ P1_ k_) ∨ w.heap.size ≤ k_))) (HO1.out) (fun k_ hk => hk))))) (Reps.none _ _)))); intro v143 w6 ho7 hb hg_ hnew_; clear hg_ hnew_; (first | rw [← Ny142.out] at ho7 | (simp only [Int.reduceToNat] at ho7; rw [← Ny142.out] at ho7)); replace HO0 := Aside0.mk (Kd.V_elder' (uV HO0.out) (Kd.N_base ho7) hb); replace HO1 := Aside0.mk (Kd.V_elder' (uV HO1.out) (Kd.N_base ho7) hb); have HO144 := Aside0.mk (Kd.N_lower ho7 (below_size uB)); replace HB := uy hb; clear hb ho7; obtain ⟨Ao8, co8, eo8⟩ := Kd.N_slice HO144.out; subst eo8) | ((with_reducible refine gate_callee (f := 74) rfl ?_); refine goesL_ (some 8) rfl rfl Try.func74 (by kernel_rfl) rfl #[.slice Ao8 y142.length co8] rfl uM ?_; (with_reducible refine (nat_right.calls _ _ y142 true _ ?side1 ?side2 A3.out).mono ?_); (case side1 => exact uC (Kd.N_reads' HO144.out).2.2); (case side2 => exact (Kd.N_reads' HO144.out).2.1); rintro e w' ⟨rfl, ⟨nd, rfl⟩⟩; refine ⟨_, rfl, ?_⟩) | ((with_reducible refine gate_callee (f := 75) rfl ?_); refine goesL_ (some 12) rfl rfl Try.func75 (by kernel_rfl) rfl #[.slice A0 l0.length c0, .slice A1 l1.length c1] rfl uM ?_; (with_reducible refine (nat_compare.calls k _ _ l0 _ _ l1 t146 _ ?side1 ?side2 ?side3 ?side4 A5.out).mono ?_); (case side1 => exact uC (Kd.V_reads' HO0.out).2.2); (case side2 => exact (Kd.V_reads' HO0.out).2.1); (case side3 => exact uC (Kd.V_reads' HO1.out).2.2); (case side4 => exact (Kd.V_reads' HO1.out).2.1); rintro e w' ⟨rfl, ⟨nd, rfl⟩⟩; refine ⟨_, rfl, ?_⟩))
  go_ret
  exact ⟨uF, uB⟩
 replace c4 := Bool.eq_false_iff.mpr c4
 subst c4
 have H1 : (some 0) = some r := by rw [if_neg (show ¬ (false = true) by decide)] at H; exact H
 clear H; have H := H1; clear H1
 obtain rfl := Option.some.inj H
 go_enter Try.func65, Try.ntmps65
 go_wp2_with (first | ((with_reducible refine gate_dst (N := 7) rfl ?_); refine Kd.N_lit (Kd.slice 47 (Kd.int .u64)) _ 29 ?hg (N' := 7) ?hd (xs := ([l0, l1] : List (List Int))) (inner := [.slice A0 l0.length c0, .slice A1 l1.length c1]) (ok := (fun k_ => ((P0_ k_ ∨ P1_ k_) ∨ w.heap.size ≤ k_))) (okp := (fun k_ => ((P0_ k_ ∨ P1_ k_) ∨ w.heap.size ≤ k_))) ?hr ?hp (fun _ hk => hk) ((show ∀ k_, w.heap.size ≤ k_ → (fun k_ => ((P0_ k_ ∨ P1_ k_) ∨ w.heap.size ≤ k_)) k_ from fun k_ hk => (.inr (Nat.le_trans (below_size uB) hk))) _ (Nat.le_refl _)) (Below.refl _ _) (Nat.le_refl _) (by simp) ?_; (case hd => rfl); (case hg => rfl); (case hr => first | (go_simp; done) | (go_simp; rfl) | (go_simp; simp only [u64_u8]; done) | (go_simp; simp only [u64_u8]; rfl)); (case hp => exact (Reps.one (show Kd.FK (Kd.slice 47 (Kd.int .u64)) _ _ l0 [.slice A0 l0.length c0] from (Kd.FK_slice_mk (Kd.V_reads' (Kd.V_mono (ok' := (fun k_ => ((P0_ k_ ∨ P1_ k_) ∨ w.heap.size ≤ k_))) (HO0.out) (fun k_ hk => hk))).2.1 (Kd.V_F (Kd.V_mono (ok' := (fun k_ => ((P0_ k_ ∨ P1_ k_) ∨ w.heap.size ≤ k_))) (HO0.out) (fun k_ hk => hk))))) (Reps.one (show Kd.FK (Kd.slice 47 (Kd.int .u64)) _ _ l1 [.slice A1 l1.length c1] from (Kd.FK_slice_mk (Kd.V_reads' (Kd.V_mono (ok' := (fun k_ => ((P0_ k_ ∨ P1_ k_) ∨ w.heap.size ≤ k_))) (HO1.out) (fun k_ hk => hk))).2.1 (Kd.V_F (Kd.V_mono (ok' := (fun k_ => ((P0_ k_ ∨ P1_ k_) ∨ w.heap.size ≤ k_))) (HO1.out) (fun k_ hk => hk))))) (Reps.none _ _)))); intro v143 w9 ho10 hb hg_ hnew_; clear hg_ hnew_; (first | rw [← Ny142.out] at ho10 | (simp only [Int.reduceToNat] at ho10; rw [← Ny142.out] at ho10)); replace HO0 := Aside0.mk (Kd.V_elder' (uV HO0.out) (Kd.N_base ho10) hb); replace HO1 := Aside0.mk (Kd.V_elder' (uV HO1.out) (Kd.N_base ho10) hb); have HO144 := Aside0.mk (Kd.N_lower ho10 (below_size uB)); replace HB := uy hb; clear hb ho10; obtain ⟨Ao11, co11, eo11⟩ := Kd.N_slice HO144.out; subst eo11) | ((with_reducible refine gate_callee (f := 74) rfl ?_); refine goesL_ (some 8) rfl rfl Try.func74 (by kernel_rfl) rfl #[.slice Ao11 y142.length co11] rfl uM ?_; (with_reducible refine (nat_right.calls _ _ y142 false _ ?side1 ?side2 A3.out).mono ?_); (case side1 => exact uC (Kd.N_reads' HO144.out).2.2); (case side2 => exact (Kd.N_reads' HO144.out).2.1); rintro e w' ⟨rfl, ⟨nd, rfl⟩⟩; refine ⟨_, rfl, ?_⟩))
 go_ret
 exact ⟨uF, uB⟩
end Go.Proofs.Ytgeanpnkllnipaa.F
end
section
namespace Go.Proofs.Ytgeanpnkllnipaa.F
open Go.RowKit Go.Shelf
set_option linter.unusedVariables false
set_option linter.unusedSimpArgs false
attribute [local go_sem] Oper.semAt_some
def wheel (i : Nat) : Nat := if i = 0 then 2 else if i = 1 then 3 else 5 + 6 * ((i - 2) / 2) + 2 * ((i - 2) % 2)
theorem wheel_even (j : Nat) : wheel (2 + 2 * j) = 5 + 6 * j := by
  unfold wheel
  rw [if_neg (by omega), if_neg (by omega)]
  omega
theorem wheel_odd (j : Nat) : wheel (3 + 2 * j) = 7 + 6 * j := by
  unfold wheel
  rw [if_neg (by omega), if_neg (by omega)]
  omega
theorem wheel_mono {i j : Nat} (h : i < j) : wheel i < wheel j := by
  unfold wheel
  repeat' split
  all_goals omega
theorem wheel_le {i j : Nat} (h : i ≤ j) : wheel i ≤ wheel j := by
  rcases Nat.lt_or_eq_of_le h with h | rfl
  · exact Nat.le_of_lt (wheel_mono h)
  · exact Nat.le_refl _
theorem wheel_two (i : Nat) : 2 ≤ wheel i := wheel_le (i := 0) (Nat.zero_le i)
abbrev Wn := { y : Int // 2 ≤ y }
def wheelS (i : Nat) : Wn := ⟨(wheel i : Int), by have := wheel_two i; omega⟩
def uptoW (k : Nat) : List Wn := (List.range k).map wheelS
theorem uptoW_succ (k : Nat) : uptoW (k + 1) = uptoW k ++ [wheelS k] := by simp [uptoW, List.range_succ]
theorem uptoW_length (k : Nat) : (uptoW k).length = k := by simp [uptoW]
def Many (n m : Nat) : Prop := (∀ i, i < m → wheel i * wheel i ≤ n) ∧ n < wheel m * wheel m
theorem Many.lt {n m i : Nat} (h : Many n m) (hi : wheel i * wheel i ≤ n) : i < m := by
  rcases Nat.lt_or_ge i m with h1 | h1
  · exact h1
  · have := Nat.mul_le_mul (wheel_le h1) (wheel_le h1)
    have := h.2
    omega
theorem Many.ge {n m i : Nat} (h : Many n m) (hi : n < wheel i * wheel i) : m ≤ i := by
  rcases Nat.lt_or_ge i m with h1 | h1
  · have := h.1 i h1
    omega
  · exact h1
theorem wheel_ge (i : Nat) : i ≤ wheel i := by
  unfold wheel
  repeat' split
  all_goals omega
theorem many_ex (n : Nat) : ∃ m, Many n m := by
  have h : ∀ k : Nat, (∃ m, m ≤ k ∧ Many n m) ∨ (∀ i, i < k → wheel i * wheel i ≤ n) := by
    intro k
    induction k with
    | zero => exact Or.inr (fun i hi => absurd hi (Nat.not_lt_zero _))
    | succ k ih =>
      rcases ih with ⟨m, h1, h2⟩ | h1
      · exact Or.inl ⟨m, by omega, h2⟩
      · by_cases h2 : wheel k * wheel k ≤ n
        · refine Or.inr (fun i hi => ?_)
          by_cases e : i = k
          · subst e; exact h2
          · exact h1 i (by omega)
        · exact Or.inl ⟨k, by omega, h1, by omega⟩
  rcases h (n + 2) with ⟨m, _, h2⟩ | h1
  · exact ⟨m, h2⟩
  · have h2 := h1 (n + 1) (by omega)
    have h3 := wheel_ge (n + 1)
    have h4 := Nat.mul_le_mul h3 h3
    have : n + 1 ≤ (n + 1) * (n + 1) := Nat.le_mul_of_pos_left _ (by omega)
    omega
def KeepsCells (W W' : World) : Prop := ∀ (b : Nat) (cs : Array Value) (t : TypeId) (z : Nat × Nat), W.heap[b]? = some (.cells cs t z) → W'.heap[b]? = some (.cells cs t z)
theorem KeepsCells.refl (W : World) : KeepsCells W W := fun _ _ _ _ h => h
theorem KeepsCells.t {A B C : World} (h : KeepsCells A B) (k : KeepsCells B C) : KeepsCells A C := fun b cs t z hb => k b cs t z (h b cs t z hb)
theorem KeepsCells.b {w : World} (W : World) (l : Nat) (o o' : Obj) (_ : w.heap.size ≤ l) (h : W.heap[l]? = some o) (hc : o.isCells = false) (_ : o.isWalk = false) : KeepsCells W (W.putObj l o') := by
  intro b cs t z hb
  have hne : l ≠ b := by
    intro e
    subst e
    rw [h] at hb
    cases hb
    simp [Obj.isCells] at hc
  have := (grownBy_putObj' W l o').block b (Array.getElem?_eq_some_iff.1 hb).1 (by intro e; cases e; exact hne rfl)
  rw [this]; exact hb
theorem KeepsCells.of_alloc (W : World) (o : Obj) : KeepsCells W (W.alloc o) := fun b cs t z hb => (World.grownBy_alloc W o none).block b (Array.getElem?_eq_some_iff.1 hb).1 (by intro e; cases e) ▸ hb
theorem cell_of {W : World} {b i : Nat} {cs : Array Value} {t : TypeId} {z : Nat × Nat} {v : Value} (h : W.heap[b]? = some (.cells cs t z)) (hv : cs[i]? = some v) : W.cell? ⟨b, i, none⟩ = some v := by simp [World.cell?, h, hv]
set_option maxHeartbeats 2000000 in
set_option maxRecDepth 100000 in
theorem divisors.calls (F : Fence) (k : Nat) (hf : F.fn 88) (hro : F.round = none) (n : Int) (w : World) :
    CallsIn F k Try.prog 88 #[.int .u64 n] w fun e w' => e = .returned (.func (.func 101) #[] #[.pointer (some ⟨w.heap.size, 0, none⟩)]) ∧ w' = w.alloc (.cells #[.int .u64 n] 47) := by
  refine callsIn_of_wp Try.func88 rfl hf ?_ hro
  simp only [Try.ntmps88, List.size_toArray, List.length_cons, List.length_nil, Nat.reduceAdd, Nat.reduceSub, Array.replicate_succ, Array.replicate_zero, List.push_toArray, List.append_toArray, List.nil_append, List.cons_append]
  gi_wp2
  go_ret
  exact ⟨rfl, rfl⟩
end Go.Proofs.Ytgeanpnkllnipaa.F
end
section
namespace Go.Proofs.Ytgeanpnkllnipaa.F
open Go.RowKit Go.Shelf Go.Proofs.YtgeanpnkllnipaaW.PrintWords
set_option linter.unusedVariables false
set_option linter.unusedSimpArgs false
attribute [local go_sem] Oper.semAt_some
set_option maxHeartbeats 2000000 in
set_option maxRecDepth 100000 in
theorem divisors1.calls (F : Fence) (n : Nat) (h6 : F.fn 101) (hro : F.round = none) (hn : 1 ≤ n) (l Bn : Nat) (x m : Nat) (hx : x < 1099511627776) (hm : Many x m) (J Jx : List Wn → World → Prop)
    (hY : ∀ pre y W, J pre W → pre.length < m → YieldAt F (n - 1) Try.prog l #[.int .u64 y.1] W fun e W' =>
      (e = .returned (.bool true) ∧ J (pre ++ [y]) W' ∧ KeepsCells W W') ∨ (e = .returned (.bool false) ∧ Jx (pre ++ [y]) W'))
    (W : World) (hJ : AbidesFrom W.heap.size J) (hBn : W.heap[Bn]? = some (.cells #[.int .u64 (x : Int)] 47 (0, 0))) (h0 : J [] W) :
    CallsIn F n Try.prog 101 #[.func (.yield l) #[] #[], .pointer (some ⟨Bn, 0, none⟩)] W fun e W' => (∃ v, e = .returned v) ∧
      ((∃ ys, ys = uptoW m ∧ J ys W') ∨ (∃ pre, (∃ k, k ≤ m ∧ pre = uptoW k) ∧ Jx pre W')) := by
  refine callsIn_of_wp Try.func101 rfl h6 ?_ hro
  simp only [Try.ntmps101, List.size_toArray, List.length_cons, List.length_nil, Nat.reduceAdd, Nat.reduceSub, Array.replicate_succ, Array.replicate_zero, List.push_toArray, List.append_toArray, List.nil_append, List.cons_append]
  have hlit : (W.alloc (.cells #[.int .u64 2, .int .u64 3] 47)).heap[W.heap.size]? = some (.cells #[.int .u64 2, .int .u64 3] 47 (0, 0)) := World.alloc_heap_new W _
  have hBn1 := KeepsCells.of_alloc W (.cells #[.int .u64 2, .int .u64 3] 47) Bn _ _ _ hBn
  have h01 : J [] (W.alloc (.cells #[.int .u64 2, .int .u64 3] 47)) := hJ _ _ _ none h0 (World.grownBy_alloc W _ none) (fun r e => by cases e)
  gi_wp2
  gi_loopw [8] (fun i wr => ∃ k : Nat, k ≤ 2 ∧ k ≤ m ∧ i = .int .i64 (k : Int) ∧ J (uptoW k) wr ∧ wr.heap[W.heap.size]? = some (.cells #[.int .u64 2, .int .u64 3] 47 (0, 0)) ∧ wr.heap[Bn]? = some (.cells #[.int .u64 (x : Int)] 47 (0, 0))) (fun i _ => 2 - (intOf i).toNat)
  case atStart => exact ⟨0, by omega, by omega, rfl, h01, hlit, hBn1⟩
  case round =>
    obtain ⟨k, hk, hkm, rfl, hJs, hl, hb⟩ := hrel
    have hn0 : wr.cell? ⟨Bn, 0, none⟩ = some (.int .u64 (x : Int)) := cell_of hb rfl
    have hc0 : wr.cell? ⟨W.heap.size, 0, none⟩ = some (.int .u64 2) := cell_of hl rfl
    have hc1 : wr.cell? ⟨W.heap.size, 1, none⟩ = some (.int .u64 3) := cell_of hl rfl
    obtain rfl | rfl | rfl : k = 0 ∨ k = 1 ∨ k = 2 := by omega
    · by_cases h4 : x < 4
      · have h4z : decide ((x : Int) < 4) = true := decide_eq_true (by omega)
        have hm0 : m = 0 := by have := hm.ge (i := 0) (by show x < 2 * 2; omega); omega
        subst hm0
        gi_wp2
        refine ⟨fun _ h => (by cases h), ?_⟩
        gi_wp2
        refine bodyPost_ret (results_none rfl _ _ _) rfl ?_
        exact ⟨⟨_, rfl⟩, .inl ⟨_, rfl, hJs⟩⟩
      · have h4z : decide ((x : Int) < 4) = false := decide_eq_false (by omega)
        have hm0 : 0 < m := hm.lt (i := 0) (by show 2 * 2 ≤ x; omega)
        obtain ⟨fn, tmps, assign, body, hy, hR⟩ := hY _ (wheelS 0) wr hJs (by rw [uptoW_length]; exact hm0)
        rw [show (wheelS 0).1 = 2 from rfl] at hy
        gi_wp2
        refine hR.mono ?_
        rintro e W3 (⟨rfl, hJ3, hk3⟩ | ⟨rfl, hJx3⟩)
        · gi_wp2
          go_roundw
          case rel => exact ⟨0 + 1, by omega, by omega, by first | rfl | simp, by rw [uptoW_succ]; exact hJ3, hk3 _ _ _ _ hl, hk3 _ _ _ _ hb⟩
          case measure => simp [intOf]
        · gi_wp2
          refine bodyPost_ret (results_none rfl _ _ _) rfl ?_
          exact ⟨⟨_, rfl⟩, .inr ⟨_, ⟨0 + 1, by omega, (uptoW_succ _).symm⟩, hJx3⟩⟩
    · by_cases h4 : x < 9
      · have h4z : decide ((x : Int) < 9) = true := decide_eq_true (by omega)
        have hm0 : m = 1 := by have := hm.ge (i := 1) (by show x < 3 * 3; omega); omega
        subst hm0
        gi_wp2
        refine ⟨fun _ h => (by cases h), ?_⟩
        gi_wp2
        refine bodyPost_ret (results_none rfl _ _ _) rfl ?_
        exact ⟨⟨_, rfl⟩, .inl ⟨_, rfl, hJs⟩⟩
      · have h4z : decide ((x : Int) < 9) = false := decide_eq_false (by omega)
        have hm0 : 1 < m := hm.lt (i := 1) (by show 3 * 3 ≤ x; omega)
        obtain ⟨fn, tmps, assign, body, hy, hR⟩ := hY _ (wheelS 1) wr hJs (by rw [uptoW_length]; exact hm0)
        rw [show (wheelS 1).1 = 3 from rfl] at hy
        gi_wp2
        refine hR.mono ?_
        rintro e W3 (⟨rfl, hJ3, hk3⟩ | ⟨rfl, hJx3⟩)
        · gi_wp2
          go_roundw
          case rel => exact ⟨1 + 1, by omega, by omega, by first | rfl | simp, by rw [uptoW_succ]; exact hJ3, hk3 _ _ _ _ hl, hk3 _ _ _ _ hb⟩
          case measure => simp [intOf]
        · gi_wp2
          refine bodyPost_ret (results_none rfl _ _ _) rfl ?_
          exact ⟨⟨_, rfl⟩, .inr ⟨_, ⟨1 + 1, by omega, (uptoW_succ _).symm⟩, hJx3⟩⟩
    · gi_wp2
      gi_loopw [5] (fun d wr => ∃ (D i k : Nat), d = .int .u64 (D : Int) ∧ D = 5 + 6 * i ∧ D ≤ 1048600 ∧ k ≤ m ∧ (k = 2 + 2 * i ∨ (k = m ∧ m + 1 = 2 + 2 * i)) ∧ J (uptoW k) wr ∧ wr.heap[Bn]? = some (.cells #[.int .u64 (x : Int)] 47 (0, 0))) (fun d _ => 2000000 - (intOf d).toNat)
      case atStart => exact ⟨5, 0, 2, rfl, rfl, by omega, hkm, Or.inl rfl, hJs, hb⟩
      case round =>
        clear hJs hl hb hn0 hc0 hc1
        obtain ⟨D, i, k, rfl, hD, hDm, hk2, hkk, hJs, hb⟩ := hrel
        have hn0 : wr.cell? ⟨Bn, 0, none⟩ = some (.int .u64 (x : Int)) := cell_of hb rfl
        have hw1 : wheel (2 + 2 * i) = D := by rw [wheel_even, hD]
        have hw2 : wheel (3 + 2 * i) = D + 2 := by rw [wheel_odd, hD]; omega
        have HD := Aside0.mk hD
        clear hD
        have hDD : D * D ≤ 1048600 * 1048600 := Nat.mul_le_mul hDm hDm
        have hDE : (D + 2) * (D + 2) ≤ 1048602 * 1048602 := Nat.mul_le_mul (by omega) (by omega)
        have c1 : ((D * D : Nat) : Int) = (D : Int) * (D : Int) := Int.natCast_mul D D
        have c2 : (((D + 2) * (D + 2) : Nat) : Int) = ((D : Int) + 2) * ((D : Int) + 2) := by simp
        have e1 : IntKind.u64.wrap ((D : Int) * (D : Int)) = (D : Int) * (D : Int) := by
          simp [IntKind.wrap, IntKind.bits, IntKind.signed]; omega
        have e2 : IntKind.u64.wrap ((D : Int) + 2) = (D : Int) + 2 := by
          simp [IntKind.wrap, IntKind.bits, IntKind.signed]; omega
        have e3 : IntKind.u64.wrap (((D : Int) + 2) * ((D : Int) + 2)) = ((D : Int) + 2) * ((D : Int) + 2) := by
          simp [IntKind.wrap, IntKind.bits, IntKind.signed]; omega
        have e4 : IntKind.u64.wrap ((D : Int) + 6) = (D : Int) + 6 := by
          simp [IntKind.wrap, IntKind.bits, IntKind.signed]; omega
        by_cases hd : D * D ≤ x
        · have hdz : decide ((D : Int) * (D : Int) ≤ (x : Int)) = true := decide_eq_true (by omega)
          have hlt : 2 + 2 * i < m := hm.lt (by rw [hw1]; exact hd)
          obtain rfl : k = 2 + 2 * i := by omega
          have hDs : D < 1048576 := by
            rcases Nat.lt_or_ge D 1048576 with h | h
            · exact h
            · have := Nat.mul_le_mul h h
              omega
          obtain ⟨fn, tmps, assign, body, hy, hR⟩ := hY _ (wheelS (2 + 2 * i)) wr hJs (by rw [uptoW_length]; exact hlt)
          rw [show (wheelS (2 + 2 * i)).1 = (D : Int) from by rw [← hw1]; rfl] at hy
          gi_wp2
          refine hR.mono ?_
          rintro e W3 (⟨rfl, hJ3, hk3⟩ | ⟨rfl, hJx3⟩)
          · have hb3 := hk3 _ _ _ _ hb
            have hn3 : W3.cell? ⟨Bn, 0, none⟩ = some (.int .u64 (x : Int)) := cell_of hb3 rfl
            have hJ3' : J (uptoW (3 + 2 * i)) W3 := by
              rw [show 3 + 2 * i = 2 + 2 * i + 1 from by omega, uptoW_succ]; exact hJ3
            clear hn0 hy hR
            by_cases hd2 : (D + 2) * (D + 2) ≤ x
            · have hdz2 : decide (((D : Int) + 2) * ((D : Int) + 2) ≤ (x : Int)) = true := decide_eq_true (by omega)
              have hlt2 : 3 + 2 * i < m := hm.lt (by rw [hw2]; exact hd2)
              obtain ⟨fn2, tmps2, assign2, body2, hy2, hR2⟩ := hY _ (wheelS (3 + 2 * i)) W3 hJ3' (by rw [uptoW_length]; exact hlt2)
              rw [show (wheelS (3 + 2 * i)).1 = (D : Int) + 2 from by show ((wheel (3 + 2 * i) : Nat) : Int) = _; rw [hw2]; simp] at hy2
              gi_wp2
              refine hR2.mono ?_
              rintro e W4 (⟨rfl, hJ4, hk4⟩ | ⟨rfl, hJx4⟩)
              · gi_wp2
                refine ⟨?_, ?measure⟩
                iterate 28 (apply Exists.intro)
                refine ⟨?rel, rfl⟩
                case rel => exact ⟨D + 6, i + 1, 4 + 2 * i, by simp, by have := HD.out; omega, by omega, by omega, Or.inl (by omega), by rw [show 4 + 2 * i = 3 + 2 * i + 1 from by omega, uptoW_succ]; exact hJ4, hk4 _ _ _ _ hb3⟩
                case measure => simp [intOf]; omega
              · gi_wp2
                refine bodyPost_ret (results_none rfl _ _ _) rfl ?_
                exact ⟨⟨_, rfl⟩, .inr ⟨_, ⟨3 + 2 * i + 1, by omega, by rw [uptoW_succ]⟩, hJx4⟩⟩
            · have hdz2 : decide (((D : Int) + 2) * ((D : Int) + 2) ≤ (x : Int)) = false := decide_eq_false (by omega)
              have hge2 : m ≤ 3 + 2 * i := hm.ge (by rw [hw2]; omega)
              gi_wp2
              refine ⟨fun _ h => (by cases h), ?_⟩
              gi_wp2
              refine ⟨?_, ?measure⟩
              iterate 28 (apply Exists.intro)
              refine ⟨?rel, rfl⟩
              case rel => exact ⟨D + 6, i + 1, 3 + 2 * i, by simp, by have := HD.out; omega, by omega, by omega, Or.inr ⟨by omega, by omega⟩, hJ3', hb3⟩
              case measure => simp [intOf]; omega
          · gi_wp2
            · exfalso
              have hq_ : ∃ b, some undef = some (Value.bool b) := ⟨_, by assumption⟩
              obtain ⟨b, hq_⟩ := hq_
              simp [undef] at hq_
            · exfalso
              have hq_ : ∃ b, some undef = some (Value.bool b) := ⟨_, by assumption⟩
              obtain ⟨b, hq_⟩ := hq_
              simp [undef] at hq_
            refine ⟨fun _ h => (by cases h), ?_⟩
            gi_wp2
            refine bodyPost_ret (results_none rfl _ _ _) rfl ?_
            exact ⟨⟨_, rfl⟩, .inr ⟨_, ⟨2 + 2 * i + 1, by omega, by rw [uptoW_succ]⟩, hJx3⟩⟩
        · have hdz : decide ((D : Int) * (D : Int) ≤ (x : Int)) = false := decide_eq_false (by omega)
          have hge : m ≤ 2 + 2 * i := hm.ge (by rw [hw1]; omega)
          obtain rfl : k = m := by omega
          gi_wp2
          go_end0
          first | exact ⟨⟨_, rfl⟩, .inl ⟨_, rfl, hJs⟩⟩ | exact ⟨⟨_, rfl⟩, .inl hJs⟩ | exact .inl hJs
def leastV (x : Nat) : Nat := ((List.range (x + 1)).find? fun d => decide (2 ≤ d ∧ d * d ≤ x ∧ x % d = 0)).getD x
theorem find_range {p : Nat → Bool} (k : Nat) : ∀ n : Nat, k < n → p k = true → (∀ j, j < k → p j = false) → (List.range n).find? p = some k := by
  intro n
  induction n with
  | zero => intro h; omega
  | succ n ih =>
    intro h hp hn
    rw [List.range_succ, List.find?_append]
    by_cases e : k = n
    · subst e
      have : (List.range k).find? p = none := by
        rw [List.find?_eq_none]
        intro j hj
        have := hn j (List.mem_range.1 hj)
        simp [this]
      rw [this]
      simp [hp]
    · rw [ih (by omega) hp hn]
      rfl
theorem leastV_none {x : Nat} (h : ∀ d, 2 ≤ d → d * d ≤ x → x % d ≠ 0) : leastV x = x := by
  unfold leastV
  have : (List.range (x + 1)).find? (fun d => decide (2 ≤ d ∧ d * d ≤ x ∧ x % d = 0)) = none := by
    rw [List.find?_eq_none]
    intro d _
    simp only [decide_eq_true_eq]
    rintro ⟨h1, h2, h3⟩
    exact h d h1 h2 h3
  rw [this]
  rfl
theorem leastV_some {x d : Nat} (h1 : 2 ≤ d) (h2 : d * d ≤ x) (h3 : x % d = 0) (h : ∀ j, 2 ≤ j → j < d → x % j ≠ 0) : leastV x = d := by
  unfold leastV
  have hdx : d ≤ d * d := Nat.le_mul_of_pos_left d (by omega)
  rw [find_range d (x + 1) (by omega) (by simp only [decide_eq_true_eq]; exact ⟨h1, h2, h3⟩) (fun j hj => ?_)]
  · rfl
  · simp only [decide_eq_false_iff_not]
    rintro ⟨a1, a2, a3⟩
    exact h j a1 hj a3
theorem wheel_div {x d : Nat} (h1 : 2 ≤ d) (h3 : x % d = 0) : ∃ i, wheel i ≤ d ∧ x % wheel i = 0 := by
  have hd : d ∣ x := Nat.dvd_of_mod_eq_zero h3
  by_cases e2 : d % 2 = 0
  · refine ⟨0, h1, ?_⟩
    exact Nat.mod_eq_zero_of_dvd (Nat.dvd_trans (Nat.dvd_of_mod_eq_zero e2) hd)
  · by_cases e3 : d % 3 = 0
    · refine ⟨1, ?_, ?_⟩
      · show 3 ≤ d
        omega
      · exact Nat.mod_eq_zero_of_dvd (Nat.dvd_trans (Nat.dvd_of_mod_eq_zero e3) hd)
    · have h6 : d % 6 = 1 ∨ d % 6 = 5 := by omega
      rcases h6 with h6 | h6
      · refine ⟨3 + 2 * (d / 6 - 1), ?_, ?_⟩ <;> rw [wheel_odd, show 7 + 6 * (d / 6 - 1) = d from by omega]
        · exact Nat.le_refl _
        · exact h3
      · refine ⟨2 + 2 * (d / 6), ?_, ?_⟩ <;> rw [wheel_even, show 5 + 6 * (d / 6) = d from by omega]
        · exact Nat.le_refl _
        · exact h3
theorem least_all {x m : Nat} (hm : Many x m) (h : ∀ i, i < m → x % wheel i ≠ 0) : leastV x = x := by
  refine leastV_none (fun d h1 h2 h3 => ?_)
  obtain ⟨i, hi, hx⟩ := wheel_div h1 h3
  have h4 := Nat.mul_le_mul hi hi
  exact h i (hm.lt (by omega)) hx
theorem least_at {x m k : Nat} (hm : Many x m) (hk : k < m) (h : ∀ i, i < k → x % wheel i ≠ 0) (hx : x % wheel k = 0) : leastV x = wheel k := by
  refine leastV_some (wheel_two k) (hm.1 k hk) hx (fun j h1 h2 h3 => ?_)
  obtain ⟨i, hi, hx⟩ := wheel_div h1 h3
  refine h i ?_ hx
  rcases Nat.lt_or_ge i k with h | h
  · exact h
  · have := wheel_le h
    omega
theorem cell_of_box_l {W : World} {B : Nat} {v : Value} {t : TypeId} (h : W.heap[B]? = some (.cells #[v] t (0, 0))) : W.cell? ⟨B, 0, none⟩ = some v ∧ W.frozen? ⟨B, 0, none⟩ = false := by
  constructor <;> simp [World.cell?, World.frozen?, h]
theorem cell_new_l (W : World) (v : Value) (t : TypeId) : (W.alloc (.cells #[v] t)).cell? ⟨W.heap.size, 0, none⟩ = some v ∧ (W.alloc (.cells #[v] t)).frozen? ⟨W.heap.size, 0, none⟩ = false :=
  cell_of_box_l (World.alloc_heap_new W _)
theorem cell_alloc_l {W : World} {a : Addr} {v : Value} (o : Obj) (h : W.cell? a = some v) : (W.alloc o).cell? a = some v := cell_kept h (World.grownBy_alloc W o none) (fun r e => by cases e)
theorem frozen_alloc_l {W : World} {a : Addr} {v : Value} (o : Obj) (h : W.cell? a = some v) (hf : W.frozen? a = false) : (W.alloc o).frozen? a = false := (frozen_kept h (World.grownBy_alloc W o none) (fun r e => by cases e)).trans hf
theorem divisors_stops (F : Fence) (n : Nat) (h6 : F.fn 101) (hro : F.round = none) (hn : 1 ≤ n) (Bn : Nat) (x m : Nat) (hx : x < 1099511627776) (hm : Many x m) (w : World) (hc : w.heap[Bn]? = some (.cells #[.int .u64 (x : Int)] 47 (0, 0))) :
    SeqStopsK F n Try.prog 101 #[.pointer (some ⟨Bn, 0, none⟩)] (fun y : Wn => #[Value.int .u64 y.1]) KeepsCells (fun ys => ys = uptoW m) (fun pre => ∃ k, k ≤ m ∧ pre = uptoW k) m w := fun l J Jx W hW hJ _ hY h0 =>
  divisors1.calls F n h6 hro hn l Bn x m hx hm J Jx hY W hJ ((hW.block Bn (Array.getElem?_eq_some_iff.1 hc).1).trans hc) h0
set_option maxRecDepth 100000 in
set_option maxHeartbeats 2000000 in
theorem least_in (F : Fence) (n : Nat) (h4 : F.fn 59) (h5 : F.fn 88) (h6 : F.fn 101) (hro : F.round = none) (hn : 3 ≤ n) (x : Nat) (hx : x < 1099511627776) (w : World) :
    CallsIn F n Try.prog 59 #[.int .u64 (x : Int)] w fun e W' => e = .returned (.int .u64 ((leastV x : Nat) : Int)) ∧ Below w.heap.size w W' := by
  have h1 : 1 ≤ n := by omega
  obtain ⟨m, hm⟩ := many_ex x
  refine callsIn_of_wp_marks Try.func59 rfl h4 ?_ hro
  simp only [Try.ntmps59, List.size_toArray, List.length_cons, List.length_nil, Nat.reduceAdd, Nat.reduceSub, Array.replicate_succ, Array.replicate_zero, List.push_toArray, List.append_toArray, List.nil_append, List.cons_append]
  have c0 := cell_new_l w (.int .u64 (x : Int)) 47
  have hq0 := cell_alloc_l (.cells #[.int .u64 0] 47) c0.1
  gi_wp2_with (gi_at_call 88; refine (divisors.calls F (n - 1) h5 hro _ _).mono ?_; rintro e w' ⟨rfl, rfl⟩)
  clear hq0
  have c1 := cell_new_l (w.alloc (.cells #[.int .u64 (x : Int)] 47)) (.int .u64 0) 47
  have c2 := World.alloc_heap_new ((w.alloc (.cells #[.int .u64 (x : Int)] 47)).alloc (.cells #[.int .u64 0] 47)) (.cells #[.int .u64 (x : Int)] 47)
  simp only [World.size_alloc] at c1 c2
  have hB0 : Below w.heap.size w (((w.alloc (.cells #[.int .u64 (x : Int)] 47)).alloc (.cells #[.int .u64 0] 47)).alloc (.cells #[.int .u64 (x : Int)] 47)) := (((Below.refl _ w).alloc (Nat.le_refl _) _).alloc (by simp) _).alloc (by simp; omega) _
  refine wpIn_rangeFunc_ownF hro h1 (gf := 101) (lb := #[.pointer (some ⟨w.heap.size + 1 + 1, 0, none⟩)]) rfl h6 (enters_of Try.func101 (by kernel_rfl) rfl)
    (divisors_stops F (n - 1) h6 hro (by omega) (w.heap.size + 1 + 1) x m hx hm _ c2) KeepsCells.t KeepsCells.b (Below.refl _ _) (fun _ => rfl)
    (fun pre W => ((∀ y ∈ pre, (x : Int) % y.1 ≠ 0) ∧ W.cell? ⟨w.heap.size, 0, none⟩ = some (.int .u64 (x : Int)) ∧ W.cell? ⟨w.heap.size + 1, 0, none⟩ = some (.int .u64 0) ∧ W.frozen? ⟨w.heap.size + 1, 0, none⟩ = false) ∧ Below w.heap.size w W)
    (fun c pre W => (c = .ret ∧ ∃ (p0 : List Wn) (y : Wn), pre = p0 ++ [y] ∧ (∀ z ∈ p0, (x : Int) % z.1 ≠ 0) ∧ (x : Int) % y.1 = 0 ∧ W.cell? ⟨w.heap.size + 1, 0, none⟩ = some (.int .u64 y.1)) ∧ Below w.heap.size w W)
    (OwnFrom.and (Own.from (fun s A B row hs hg hr => ⟨hs.1, cell_kept hs.2.1 hg hr, cell_kept hs.2.2.1 hg hr, (frozen_kept hs.2.2.1 hg hr).trans hs.2.2.2⟩) _) (ownFrom_below (Nat.le_refl _) (by simp; omega)))
    (fun c => OwnFrom.and (Own.from (fun s A B row hs hg hr => by obtain ⟨q1, p0, y, q2, q3, q4, q5⟩ := hs; exact ⟨q1, p0, y, q2, q3, q4, cell_kept q5 hg hr⟩) _) (ownFrom_below (Nat.le_refl _) (by simp; omega)))
    ⟨⟨by simp, cell_alloc_l _ (cell_alloc_l _ c0.1), cell_alloc_l _ c1.1, frozen_alloc_l _ c1.1 c1.2⟩, hB0⟩
    (fun y => { tmps := #[.int .u64 (x : Int), .pointer (some ⟨w.heap.size, 0, none⟩), .pointer (some ⟨w.heap.size + 1, 0, none⟩), .int .u64 y.1, .int .u64 (x : Int), .func (.func 101) #[] #[.pointer (some ⟨w.heap.size + 1 + 1, 0, none⟩)], .int .u64 y.1, undef, undef, undef, undef, undef, undef], defers := [] }) ?assign ?body ?done ?stop
  case assign =>
    intro l y W K hK
    gi_wp2
    exact hK
  case body =>
    rintro l pre ⟨y, hy2⟩ W ⟨⟨hp, hcw, hcr, hfr⟩, hB⟩ _
    have hy0 : (y == 0) = false := by simp; omega
    have hy1 : ¬ y = 0 := by omega
    gi_wp2
    · rename_i hxy
      have hxy' : (x : Int) % y = 0 := eq_of_beq hxy
      exact ⟨KeepsOthers.setCell _ _ _, ⟨rfl, pre, ⟨y, hy2⟩, rfl, hp, hxy', World.cell?_setCell_same' _ _ _ (by rw [hcr]; rfl)⟩, hB.setCell (p := ⟨w.heap.size + 1, 0, none⟩) (by simp) _⟩
    · rename_i hxy
      have hxy' : (x : Int) % y ≠ 0 := by simpa using hxy
      exact ⟨KeepsOthers.refl _, KeepsCells.refl _, ⟨fun z hz => (List.mem_append.1 hz).elim (hp z) (fun e => by simp at e; subst e; exact hxy'), hcw, hcr, hfr⟩, hB⟩
  case done =>
    rintro D ys W hD rfl ⟨⟨hne, hcw, hcr, hfr⟩, hB⟩ hK
    have hleast : leastV x = x := least_all hm (fun i hi h => hne (wheelS i) (List.mem_map.2 ⟨i, List.mem_range.2 hi, rfl⟩) (by
      show (x : Int) % ((wheel i : Nat) : Int) = 0
      omega))
    gi_wp2
    rw [hleast]
    have hK' := (KeepsOthers.setCell W ⟨w.heap.size + 1, 0, none⟩ (.int .u64 (x : Int))).same D _ hK rfl
    refine ⟨by simp, .inl ⟨_, _, rfl, run_takeDeferred hK', ?_⟩⟩
    have hc5 := cell_kept (World.cell?_setCell_same' W ⟨w.heap.size + 1, 0, none⟩ (.int .u64 (x : Int)) (by rw [hcr]; rfl)) (grownBy_putObj' _ D (.deferred none)) (fun r e => by cases e; exact ⟨_, hK', rfl⟩)
    refine ⟨.int .u64 (x : Int), ?_, rfl, (hB.setCell (p := ⟨w.heap.size + 1, 0, none⟩) (by simp) _).trans (belowK_b (w := w) (Nat.le_refl _) _ D _ _ (by simp at hD; omega) hK' rfl rfl)⟩
    simp [results, Try.f59, go_sem, hc5]
  case stop =>
    rintro D c pre W hD ⟨k, hkm, hpre⟩ ⟨⟨rfl, p0, y, hpy, hp0, hy, hcr⟩, hB⟩ hK
    have hk : ∃ k', k = k' + 1 ∧ p0 = uptoW k' ∧ y = wheelS k' := by
      cases k with
      | zero =>
        rw [hpre] at hpy
        have := congrArg List.length hpy
        simp [uptoW] at this
      | succ k' =>
        rw [hpre, uptoW_succ] at hpy
        obtain ⟨e1, e2⟩ := List.append_inj' hpy rfl
        exact ⟨k', rfl, e1.symm, by simpa using e2.symm⟩
    obtain ⟨k', rfl, rfl, rfl⟩ := hk
    have hleast : leastV x = wheel k' := least_at hm (by omega) (fun i hi h => hp0 (wheelS i) (List.mem_map.2 ⟨i, List.mem_range.2 hi, rfl⟩) (by
      show (x : Int) % ((wheel i : Nat) : Int) = 0
      omega)) (by
      have : (x : Int) % ((wheel k' : Nat) : Int) = 0 := hy
      omega)
    gi_wp2
    rw [hleast]
    refine ⟨by simp, .inl ⟨_, _, rfl, run_takeDeferred hK, ?_⟩⟩
    have hc5 := cell_kept hcr (grownBy_putObj' _ D (.deferred none)) (fun r e => by cases e; exact ⟨_, hK, rfl⟩)
    refine ⟨.int .u64 ((wheel k' : Nat) : Int), ?_, rfl, hB.trans (belowK_b (w := w) (Nat.le_refl _) W D _ _ (by simp at hD; omega) hK rfl rfl)⟩
    have hc6 : (W.putObj D (.deferred none)).cell? ⟨w.heap.size + 1, 0, none⟩ = some (.int .u64 ((wheel k' : Nat) : Int)) := hc5
    simp [results, Try.f59, go_sem, hc6]
def prime_least.f (x : Int) : Option Int := if 0 ≤ x ∧ x < 1099511627776 then some ((leastV x.toNat : Nat) : Int) else none
theorem prime_least.calls (a0 : Int) (r : Int) (w : World) (h : prime_least.f a0 = some r) :
    Calls Try.prog 59 #[.int .u64 a0] w fun e w' => e = .returned (.int .u64 r) ∧ Below w.heap.size w w' := by
  unfold prime_least.f at h
  by_cases hx : 0 ≤ a0 ∧ a0 < 1099511627776
  · rw [if_pos hx] at h
    obtain rfl := Option.some.inj h
    have e : a0 = ((a0.toNat : Nat) : Int) := by omega
    have hh := least_in .wide 3 trivial trivial trivial rfl (Nat.le_refl _) a0.toNat (by omega) w
    rw [← e] at hh
    exact (callsIn_wide (n := 3)).1 hh
  · rw [if_neg hx] at h
    cases h
end Go.Proofs.Ytgeanpnkllnipaa.F
end
section
namespace Go.Proofs.Ytgeanpnkllnipaa.F
open Go.RowKit Go.Proofs.YtgeanpnkllnipaaW.PrintWords Go.Proofs.YtgeanpnkllnipaaW.PrintLast Go.Proofs.YtgeanpnkllnipaaW.PrintMore
attribute [local go_sem] max2_int min2_int max_two min_two max_three min_three max_four min_four
set_option linter.unusedVariables false
set_option linter.unusedSimpArgs false
def prime_Check_1.f (a0 : Int) : Option (Bool) := if a0 < 128 then (some true) else (if a0 ≥ 1099511627776 then (some true) else ((prime_least.f a0).bind fun t369 => (some (t369 != a0))))
set_option maxHeartbeats 8000000 in
set_option maxRecDepth 100000 in
theorem prime_Check_1.calls (a0 : Int) (r : Bool) (w : World) (h : prime_Check_1.f a0 = some r) :
  Calls Try.prog 61 #[.int .u64 a0] w fun e w' => e = .returned (.bool r) ∧ Below w.heap.size w w' := by
 have HB := Aside0.mk (Below.refl w.heap.size w)
 have H : (if a0 < 128 then (some true) else (if a0 ≥ 1099511627776 then (some true) else ((prime_least.f a0).bind fun t369 => (some (t369 != a0))))) = some r := h
 clear h
 by_cases c2 : a0 < 128
 ·
  rw [if_pos c2] at H
  have c2b0 : decide (a0 < 128) = true := decide_eq_true c2
  clear c2
  obtain rfl := Option.some.inj H
  go_enter Try.func61, Try.ntmps61
  go_wp2
  go_ret
  exact ⟨uF, uB⟩
 rw [if_neg c2] at H
 have c2b0 : decide (a0 < 128) = false := decide_eq_false c2
 clear c2
 by_cases c3 : a0 ≥ 1099511627776
 ·
  rw [if_pos c3] at H
  have c3b0 : decide (1099511627776 ≤ a0) = true := decide_eq_true c3
  clear c3
  obtain rfl := Option.some.inj H
  go_enter Try.func61, Try.ntmps61
  go_wp2
  go_ret
  exact ⟨uF, uB⟩
 rw [if_neg c3] at H
 have c3b0 : decide (1099511627776 ≤ a0) = false := decide_eq_false c3
 clear c3
 replace H := ub H; obtain ⟨t369, A4, H⟩ := H
 obtain rfl := Option.some.inj H
 go_enter Try.func61, Try.ntmps61
 go_wp2_with (first | (go_at_call 59; (with_reducible refine (prime_least.calls a0 t369 _ A4.out).mono ?_); rintro e w5 ⟨rfl, hb⟩; replace HB := uy hb; (try clear hb)))
 go_ret
 exact ⟨uF, uB⟩
end Go.Proofs.Ytgeanpnkllnipaa.F
end
section
namespace Go.Proofs.Ytgeanpnkllnipaa.Z
open Go.RowKit Go.Proofs.YtgeanpnkllnipaaW.PrintWords
set_option linter.unusedSimpArgs false
set_option linter.unusedVariables false
def Evt {α : Type} (g : Nat → Option α) (r : α) : Prop := ∃ n, ∀ k, n ≤ k → g k = some r
theorem Evt.of {α : Type} {g : Nat → Option α} {r : α} (h : ∀ k, g k = some r) : Evt g r := ⟨0, fun k _ => h k⟩
theorem Evt.pure {α : Type} (r : α) : Evt (fun _ => some r) r := ⟨0, fun _ _ => rfl⟩
theorem Evt.bind {α β : Type} {g : Nat → Option α} {h : α → Nat → Option β} {a : α} {b : β} (h1 : Evt g a) (h2 : Evt (h a) b) : Evt (fun k => (g k).bind fun x => h x k) b := by
  obtain ⟨n, hn⟩ := h1
  obtain ⟨m, hm⟩ := h2
  exact ⟨n + m, fun k hk => by simp only [hn k (by omega), Option.bind_some]; exact hm k (by omega)⟩
theorem Evt.succ {α : Type} {g : Nat → Option α} {r : α} (h : Evt (fun k => g (k + 1)) r) : Evt g r := by
  obtain ⟨n, hn⟩ := h
  refine ⟨n + 1, fun k hk => ?_⟩
  obtain ⟨m, rfl⟩ : ∃ m, k = m + 1 := ⟨k - 1, by omega⟩
  exact hn m (by omega)
theorem Evt.get {α : Type} {g : Nat → Option α} {r : α} (h : Evt g r) : ∃ k, g k = some r := by
  obtain ⟨n, hn⟩ := h
  exact ⟨n, hn n (Nat.le_refl _)⟩
theorem Evt.congr {α : Type} {g g' : Nat → Option α} {r r' : α} (h : Evt g r) (hg : ∀ k, g' k = g k) (hr : r = r') : Evt g' r' := by
  subst hr
  obtain ⟨n, hn⟩ := h
  exact ⟨n, fun k hk => (hg k).trans (hn k hk)⟩
theorem Evt.ite_pos {α : Type} {c : Prop} [Decidable c] {g h : Nat → Option α} {r : α} (hc : c) (hg : Evt g r) : Evt (fun k => if c then g k else h k) r := by
  obtain ⟨n, hn⟩ := hg
  exact ⟨n, fun k hk => (if_pos hc).trans (hn k hk)⟩
theorem Evt.ite_neg {α : Type} {c : Prop} [Decidable c] {g h : Nat → Option α} {r : α} (hc : ¬ c) (hg : Evt h r) : Evt (fun k => if c then g k else h k) r := by
  obtain ⟨n, hn⟩ := hg
  exact ⟨n, fun k hk => (if_neg hc).trans (hn k hk)⟩
theorem Evt.cond {α : Type} {c : Prop} [Decidable c] {g h : Nat → Option α} {r s : α} (hg : c → Evt g r) (hh : ¬ c → Evt h s) : Evt (fun k => if c then g k else h k) (if c then r else s) := by
  by_cases hc : c
  · rw [if_pos hc]; exact Evt.ite_pos hc (hg hc)
  · rw [if_neg hc]; exact Evt.ite_neg hc (hh hc)
theorem Evt.cond' {α : Type} {c : Prop} [Decidable c] {g h : Nat → Option α} {r : α} (hg : c → Evt g r) (hh : ¬ c → Evt h r) : Evt (fun k => if c then g k else h k) r := by
  by_cases hc : c
  · exact Evt.ite_pos hc (hg hc)
  · exact Evt.ite_neg hc (hh hc)
theorem w64 {x : Int} (h0 : -9223372036854775808 ≤ x) (h1 : x < 9223372036854775808) : wrap64 x = x := by unfold wrap64; omega
theorem wu64 (x : Int) : IntKind.u64.wrap x = x % 18446744073709551616 := by simp [IntKind.wrap, IntKind.bits, IntKind.signed]
theorem wu64_of {x : Int} (h0 : 0 ≤ x) (h1 : x < 18446744073709551616) : IntKind.u64.wrap x = x := by rw [wu64]; omega
theorem wf_u64 {x : Int} (h : (Lit.int .u64 x).wf = true) : 0 ≤ x ∧ x < 18446744073709551616 := by
  simp [Lit.wf, IntKind.min, IntKind.max, IntKind.bits, IntKind.signed] at h
  omega
theorem rd_getD (l : List Int) (i : Int) : rd l i = l.getD i.toNat 0 := rfl
theorem rd_nat (l : List Int) (i : Nat) : rd l (i : Int) = l.getD i 0 := rfl
def val (B : Int) : List Int → Int
  | [] => 0
  | d :: l => d + B * val B l
def Dig (B : Int) (l : List Int) : Prop := ∀ x, x ∈ l → 0 ≤ x ∧ x < B
def Can (l : List Int) : Prop := ∀ h : l ≠ [], l.getLast h ≠ 0
def strip : List Int → List Int
  | [] => []
  | d :: l => if strip l = [] then (if d = 0 then [] else [d]) else d :: strip l
theorem Dig.nil {B : Int} : Dig B [] := fun _ h => by simp at h
theorem Dig.cons {B d : Int} {l : List Int} : Dig B (d :: l) ↔ (0 ≤ d ∧ d < B) ∧ Dig B l := by
  unfold Dig
  simp
theorem Dig.append {B : Int} {l m : List Int} : Dig B (l ++ m) ↔ Dig B l ∧ Dig B m := by
  unfold Dig
  constructor
  · intro h
    exact ⟨fun x hx => h x (by simp [hx]), fun x hx => h x (by simp [hx])⟩
  · intro h x hx
    rcases List.mem_append.1 hx with hx | hx
    · exact h.1 x hx
    · exact h.2 x hx
theorem Dig.take {B : Int} {l : List Int} (h : Dig B l) (n : Nat) : Dig B (l.take n) := fun x hx => h x (List.mem_of_mem_take hx)
theorem Dig.drop {B : Int} {l : List Int} (h : Dig B l) (n : Nat) : Dig B (l.drop n) := fun x hx => h x (List.mem_of_mem_drop hx)
theorem Dig.getD {B : Int} {l : List Int} (h : Dig B l) (hB : 0 < B) (i : Nat) : 0 ≤ l.getD i 0 ∧ l.getD i 0 < B := by
  rw [List.getD_eq_getElem?_getD]
  cases he : l[i]? with
  | none => simp; omega
  | some x => simpa using h x (List.mem_of_getElem? he)
theorem Dig.set {B : Int} {l : List Int} (h : Dig B l) (i : Nat) {v : Int} (hv : 0 ≤ v ∧ v < B) : Dig B (l.set i v) := by
  intro x hx
  rcases List.mem_or_eq_of_mem_set hx with hx | rfl
  · exact h x hx
  · exact hv
theorem Dig.replicate {B : Int} (hB : 0 < B) (n : Nat) : Dig B (List.replicate n 0) := by
  intro x hx
  have := List.eq_of_mem_replicate hx
  omega
theorem val_append (B : Int) (l m : List Int) : val B (l ++ m) = val B l + B ^ l.length * val B m := by
  induction l with
  | nil => simp [val]
  | cons d l ih => simp only [List.cons_append, val, ih, List.length_cons, Int.pow_succ]; grind
theorem val_replicate (B : Int) (n : Nat) : val B (List.replicate n 0) = 0 := by
  induction n with
  | zero => rfl
  | succ n ih => simp [List.replicate_succ, val, ih]
theorem val_nonneg {B : Int} (hB : 0 < B) {l : List Int} (h : Dig B l) : 0 ≤ val B l := by
  induction l with
  | nil => simp [val]
  | cons d l ih =>
    have h' := Dig.cons.1 h
    have h1 := ih h'.2
    have : 0 ≤ B * val B l := Int.mul_nonneg (by omega) h1
    simp only [val]
    omega
theorem val_lt {B : Int} (hB : 0 < B) {l : List Int} (h : Dig B l) : val B l < B ^ l.length := by
  induction l with
  | nil => simp [val]
  | cons d l ih =>
    have h' := Dig.cons.1 h
    have h1 := ih h'.2
    have h2 : B * val B l ≤ B * (B ^ l.length - 1) := Int.mul_le_mul_of_nonneg_left (by omega) (by omega)
    have h3 : B * (B ^ l.length - 1) = B * B ^ l.length - B := by grind
    simp only [val, List.length_cons, Int.pow_succ]
    have h4 : B ^ l.length * B = B * B ^ l.length := Int.mul_comm _ _
    omega
theorem Can.nil : Can [] := fun h => absurd rfl h
theorem Can.tail {d : Int} {l : List Int} (h : Can (d :: l)) : Can l := by
  intro hl
  have := h (by simp)
  rwa [List.getLast_cons hl] at this
theorem Can.one {d : Int} (h : d ≠ 0) : Can [d] := fun _ => by simpa using h
theorem Can.cons {d : Int} {l : List Int} (h : Can l) (hl : l ≠ []) : Can (d :: l) := by
  intro _
  rw [List.getLast_cons hl]
  exact h hl
theorem val_pos {B : Int} (hB : 0 < B) {l : List Int} (h : Dig B l) (hc : Can l) (hl : l ≠ []) : B ^ (l.length - 1) ≤ val B l := by
  induction l with
  | nil => exact absurd rfl hl
  | cons d l ih =>
    have h' := Dig.cons.1 h
    by_cases e : l = []
    · subst e
      have := hc (by simp)
      simp [val] at this ⊢
      omega
    · have h1 := ih h'.2 hc.tail e
      have h2 : l.length - 1 + 1 = l.length := by have := List.length_pos_iff.2 e; omega
      simp only [val, List.length_cons, Nat.add_sub_cancel]
      rw [← h2, Int.pow_succ, Int.mul_comm]
      have : B * B ^ (l.length - 1) ≤ B * val B l := Int.mul_le_mul_of_nonneg_left h1 (by omega)
      omega
theorem val_zero {B : Int} (hB : 0 < B) {l : List Int} (h : Dig B l) (hc : Can l) (h0 : val B l = 0) : l = [] := by
  by_cases e : l = []
  · exact e
  · have := val_pos hB h hc e
    have h2 : 0 < B ^ (l.length - 1) := Int.pow_pos hB
    omega
theorem val_inj {B : Int} (hB : 0 < B) {l m : List Int} (hl : Dig B l) (hm : Dig B m) (cl : Can l) (cm : Can m) (h : val B l = val B m) : l = m := by
  induction l generalizing m with
  | nil => exact (val_zero hB hm cm h.symm).symm
  | cons d l ih =>
    cases m with
    | nil => exact val_zero hB hl cl h
    | cons e m =>
      have h1 := Dig.cons.1 hl
      have h2 := Dig.cons.1 hm
      simp only [val] at h
      have h3 : d = e := by
        have a1 : (d + B * val B l) % B = d := by rw [Int.add_mul_emod_self_left]; exact Int.emod_eq_of_lt h1.1.1 h1.1.2
        have a2 : (e + B * val B m) % B = e := by rw [Int.add_mul_emod_self_left]; exact Int.emod_eq_of_lt h2.1.1 h2.1.2
        rw [← a1, ← a2, h]
      subst h3
      have h4 : val B l = val B m := by
        have : B * val B l = B * val B m := by omega
        exact Int.eq_of_mul_eq_mul_left (by omega) this
      rw [ih h1.2 h2.2 cl.tail cm.tail h4]
theorem strip_val (B : Int) (l : List Int) : val B (strip l) = val B l := by
  induction l with
  | nil => rfl
  | cons d l ih =>
    simp only [strip]
    split
    · rename_i h
      rw [h] at ih
      simp only [val] at ih
      split
      · rename_i h0; simp [val, ← ih, h0]
      · simp [val, ← ih]
    · simp [val, ih]
theorem strip_can (l : List Int) : Can (strip l) := by
  induction l with
  | nil => exact Can.nil
  | cons d l ih =>
    simp only [strip]
    split
    · split
      · exact Can.nil
      · rename_i h; exact Can.one h
    · rename_i h; exact ih.cons h
theorem strip_dig {B : Int} {l : List Int} (h : Dig B l) : Dig B (strip l) := by
  induction l with
  | nil => exact Dig.nil
  | cons d l ih =>
    have h' := Dig.cons.1 h
    simp only [strip]
    split
    · split
      · exact Dig.nil
      · exact Dig.cons.2 ⟨h'.1, Dig.nil⟩
    · exact Dig.cons.2 ⟨h'.1, ih h'.2⟩
theorem strip_length (l : List Int) : (strip l).length ≤ l.length := by
  induction l with
  | nil => simp [strip]
  | cons d l ih =>
    simp only [strip]
    split
    · split <;> simp
    · simp; omega
theorem strip_of_can {l : List Int} (h : Can l) : strip l = l := by
  induction l with
  | nil => rfl
  | cons d l ih =>
    simp only [strip]
    rw [ih h.tail]
    split
    · rename_i e
      subst e
      have := h (by simp)
      simp at this
      simp [this]
    · rfl
theorem strip_snoc_zero (l : List Int) : strip (l ++ [0]) = strip l := by
  induction l with
  | nil => simp [strip]
  | cons d l ih => simp only [List.cons_append, strip, ih]
theorem strip_snoc {l : List Int} {d : Int} (h : d ≠ 0) : strip (l ++ [d]) = l ++ [d] := by
  apply strip_of_can
  intro hl
  simpa using h
theorem pow_mono {B : Int} (hB : 0 < B) {m n : Nat} (h : m ≤ n) : B ^ m ≤ B ^ n := by
  induction n with
  | zero => have : m = 0 := by omega
            subst this
            exact Int.le_refl _
  | succ n ih =>
    by_cases e : m = n + 1
    · subst e
      exact Int.le_refl _
    · have h1 := ih (by omega)
      have h2 : 0 < B ^ n := Int.pow_pos hB
      have h3 : 1 * B ^ n ≤ B * B ^ n := Int.mul_le_mul_of_nonneg_right (by omega) (by omega)
      rw [Int.pow_succ, Int.mul_comm]
      omega
theorem val_lt_of_length {B : Int} (hB : 0 < B) {l m : List Int} (hl : Dig B l) (hm : Dig B m) (cm : Can m) (h : l.length < m.length) : val B l < val B m := by
  have h1 := val_lt hB hl
  have h2 := val_pos hB hm cm (by intro e; subst e; simp at h)
  have h3 : B ^ l.length ≤ B ^ (m.length - 1) := pow_mono hB (by omega)
  omega
def rightB (l : List Int) : Bool := decide (l.length ≤ 64) && ((l.length == 0) || (l.getD (l.length - 1) 0 != 0))
theorem can_iff (l : List Int) : Can l ↔ ((l.length == 0) || (l.getD (l.length - 1) 0 != 0)) = true := by
  cases l with
  | nil => simp [Can]
  | cons d l =>
    have h : (d :: l).getLast (by simp) = (d :: l).getD ((d :: l).length - 1) 0 := by
      rw [List.getLast_eq_getElem]
      simp
    unfold Can
    simp only [List.length_cons, Nat.add_one_ne_zero, beq_iff_eq, Bool.or_eq_true, bne_iff_ne, false_or]
    constructor
    · intro hc
      have := hc (by simp)
      rw [h] at this
      exact this
    · intro hc _
      rw [h]
      exact hc
theorem rightB_iff (l : List Int) : rightB l = true ↔ l.length ≤ 64 ∧ Can l := by
  unfold rightB
  rw [Bool.and_eq_true, decide_eq_true_iff, ← can_iff]
def smallV (l : List Int) : Int × Bool := if rightB l = true ∧ l.length ≤ 1 then (l.getD 0 0, true) else (0, false)
def toD (B : Nat) (v : Nat) : List Int := if h : 2 ≤ B ∧ 0 < v then ((v % B : Nat) : Int) :: toD B (v / B) else []
termination_by v
decreasing_by exact Nat.div_lt_self h.2 (by omega)
theorem toD_zero (B : Nat) : toD B 0 = [] := by rw [toD]; simp
theorem toD_pos {B v : Nat} (hB : 2 ≤ B) (hv : 0 < v) : toD B v = ((v % B : Nat) : Int) :: toD B (v / B) := by rw [toD]; simp [hB, hv]
theorem toD_dig {B : Nat} (hB : 2 ≤ B) (v : Nat) : Dig (B : Int) (toD B v) := by
  induction v using Nat.strongRecOn with
  | _ v ih =>
    by_cases hv : v = 0
    · subst hv; rw [toD_zero]; exact Dig.nil
    · rw [toD_pos hB (by omega)]
      have := Nat.mod_lt v (show B > 0 by omega)
      exact Dig.cons.2 ⟨by omega, ih _ (Nat.div_lt_self (by omega) (by omega))⟩
theorem toD_eq_nil {B v : Nat} (hB : 2 ≤ B) : toD B v = [] ↔ v = 0 := by
  constructor
  · intro h
    by_cases hv : v = 0
    · exact hv
    · rw [toD_pos hB (by omega)] at h; cases h
  · rintro rfl; exact toD_zero B
theorem toD_can {B : Nat} (hB : 2 ≤ B) (v : Nat) : Can (toD B v) := by
  induction v using Nat.strongRecOn with
  | _ v ih =>
    by_cases hv : v = 0
    · subst hv; rw [toD_zero]; exact Can.nil
    · rw [toD_pos hB (by omega)]
      by_cases hq : v / B = 0
      · rw [hq, toD_zero]
        have hlt : v < B := (Nat.div_eq_zero_iff_lt (by omega)).1 hq
        rw [Nat.mod_eq_of_lt hlt]
        exact Can.one (by omega)
      · exact (ih _ (Nat.div_lt_self (by omega) (by omega))).cons (fun e => hq ((toD_eq_nil hB).1 e))
theorem val_toD {B : Nat} (hB : 2 ≤ B) (v : Nat) : val (B : Int) (toD B v) = (v : Int) := by
  induction v using Nat.strongRecOn with
  | _ v ih =>
    by_cases hv : v = 0
    · subst hv; rw [toD_zero]; rfl
    · rw [toD_pos hB (by omega)]
      simp only [val]
      rw [ih _ (Nat.div_lt_self (by omega) (by omega))]
      have h2 := Nat.mod_add_div v B
      have h3 : ((v % B + B * (v / B) : Nat) : Int) = (v : Int) := by rw [h2]
      simpa using h3
theorem strip_toD {B : Nat} (hB : 2 ≤ B) {l : List Int} (h : Dig (B : Int) l) : strip l = toD B (val (B : Int) l).toNat := by
  have h0 : (0 : Int) < (B : Int) := by omega
  refine val_inj h0 (strip_dig h) (toD_dig hB _) (strip_can l) (toD_can hB _) ?_
  rw [strip_val, val_toD hB]
  have := val_nonneg h0 h
  omega
theorem can_toD {B : Nat} (hB : 2 ≤ B) {l : List Int} (h : Dig (B : Int) l) (hc : Can l) : l = toD B (val (B : Int) l).toNat := by
  rw [← strip_toD hB h, strip_of_can hc]
theorem pow_cast (B n : Nat) : ((B : Int)) ^ n = ((B ^ n : Nat) : Int) := by simp
theorem toD_len_le {B : Nat} (hB : 2 ≤ B) {v n : Nat} (h : v < B ^ n) : (toD B v).length ≤ n := by
  by_cases hv : v = 0
  · subst hv; rw [toD_zero]; simp
  · have h1 := val_pos (show (0 : Int) < (B : Int) by omega) (toD_dig hB v) (toD_can hB v) (fun e => hv ((toD_eq_nil hB).1 e))
    rw [val_toD hB, pow_cast] at h1
    have h2 : B ^ ((toD B v).length - 1) ≤ v := by omega
    have h3 : B ^ ((toD B v).length - 1) < B ^ n := by omega
    have h4 := (Nat.pow_lt_pow_iff_right (show 1 < B by omega)).1 h3
    omega
theorem toD_lt_pow {B : Nat} (hB : 2 ≤ B) (v : Nat) : v < B ^ (toD B v).length := by
  have h1 := val_lt (show (0 : Int) < (B : Int) by omega) (toD_dig hB v)
  rw [val_toD hB, pow_cast] at h1
  omega
theorem toD_len_iff {B : Nat} (hB : 2 ≤ B) (v n : Nat) : (toD B v).length ≤ n ↔ v < B ^ n :=
  ⟨fun h => Nat.lt_of_lt_of_le (toD_lt_pow hB v) (Nat.pow_le_pow_right (by omega) h), toD_len_le hB⟩
def b64 : Nat := 18446744073709551616
def b16 : Nat := 65536
theorem b64_two : 2 ≤ b64 := by decide
theorem b16_two : 2 ≤ b16 := by decide
theorem b64_pow : b64 = b16 ^ 4 := by decide
def num (l : List Int) : Nat := (val (b64 : Int) l).toNat
def num16 (l : List Int) : Nat := (val (b16 : Int) l).toNat
abbrev limbs (v : Nat) : List Int := toD b64 v
abbrev digs (v : Nat) : List Int := toD b16 v
theorem b64_pos : (0 : Int) < (b64 : Int) := by decide
theorem b16_pos : (0 : Int) < (b16 : Int) := by decide
theorem num_val {l : List Int} (h : Dig (b64 : Int) l) : (num l : Int) = val (b64 : Int) l := by
  have := val_nonneg b64_pos h
  unfold num; omega
theorem num16_val {l : List Int} (h : Dig (b16 : Int) l) : (num16 l : Int) = val (b16 : Int) l := by
  have := val_nonneg b16_pos h
  unfold num16; omega
theorem num_limbs (v : Nat) : num (limbs v) = v := by unfold num limbs; rw [val_toD b64_two]; omega
theorem num16_digs (v : Nat) : num16 (digs v) = v := by unfold num16 digs; rw [val_toD b16_two]; omega
theorem limbs_num {l : List Int} (h : Dig (b64 : Int) l) (hc : Can l) : limbs (num l) = l := (can_toD b64_two h hc).symm
theorem strip_limbs {l : List Int} (h : Dig (b64 : Int) l) : strip l = limbs (num l) := strip_toD b64_two h
theorem strip_digs {l : List Int} (h : Dig (b16 : Int) l) : strip l = digs (num16 l) := strip_toD b16_two h
theorem num_lt {l : List Int} (h : Dig (b64 : Int) l) : num l < b64 ^ l.length := by
  have h1 := val_lt b64_pos h
  rw [← num_val h, pow_cast] at h1
  omega
theorem num_one {x : Int} (h : 0 ≤ x) : num [x] = x.toNat := by simp [num, val]
theorem num16_nil : num16 [] = 0 := rfl
def thousand : Nat := 1000
def lim : Nat := b64 ^ thousand
theorem lim_pow {n : Nat} (h : n ≤ 1000) : b64 ^ n ≤ lim := Nat.pow_le_pow_right (by decide) (show n ≤ thousand from h)
theorem pow_lt_lim {n : Nat} (h : n < 1000) : b64 ^ n + b64 ^ n ≤ lim := by
  have h1 : b64 ^ (n + 1) ≤ lim := lim_pow h
  have h2 : b64 ^ n * 2 ≤ b64 ^ n * b64 := Nat.mul_le_mul_left _ b64_two
  rw [Nat.pow_succ] at h1
  omega
theorem digs_len {v : Nat} (hv : v < lim) : (digs v).length ≤ 4000 := by
  have h : lim = b16 ^ (4 * thousand) := by
    unfold lim
    rw [b64_pow, ← Nat.pow_mul]
  rw [h] at hv
  have h2 := toD_len_le b16_two hv
  exact Nat.le_trans h2 (by decide)
theorem num_lt_p {a : List Int} (da : Dig (b64 : Int) a) (ha : a.length ≤ 64) : num a < b64 ^ 64 := Nat.lt_of_lt_of_le (num_lt da) (Nat.pow_le_pow_right (show b64 > 0 by decide) ha)
def cmpN (x y : Nat) : Int := if x < y then -1 else if x = y then 0 else 1
def toldV (v : Nat) : List Int × Int := if v < b64 ^ 64 then (limbs v, 0) else ([], 4)
theorem limbs_long (v : Nat) : (limbs v).length ≤ 64 ↔ v < b64 ^ 64 := toD_len_iff b64_two v 64
theorem val_base (l : List Int) (hl : Dig (b64 : Int) l) : ∃ m, Dig (b16 : Int) m ∧ m.length = 4 * l.length ∧ val (b16 : Int) m = val (b64 : Int) l ∧ m = l.flatMap (fun x => [x % 65536, x / 65536 % 65536, x / 65536 / 65536 % 65536, x / 65536 / 65536 / 65536 % 65536]) := by
  induction l with
  | nil => exact ⟨[], Dig.nil, rfl, rfl, rfl⟩
  | cons d l ih =>
    have h1 := Dig.cons.1 hl
    obtain ⟨m, hm, hlen, hv, he⟩ := ih h1.2
    refine ⟨[d % 65536, d / 65536 % 65536, d / 65536 / 65536 % 65536, d / 65536 / 65536 / 65536 % 65536] ++ m, ?_, ?_, ?_, ?_⟩
    · refine Dig.append.2 ⟨?_, hm⟩
      intro x hx
      simp only [List.mem_cons, List.not_mem_nil, or_false] at hx
      simp only [b16]
      omega
    · simp only [List.length_append, List.length_cons, List.length_nil, hlen]; omega
    · rw [val_append, hv]
      have h2 := h1.1
      simp only [b64] at h2 ⊢
      simp only [val, b16, List.length_cons, List.length_nil]
      omega
    · simp only [List.flatMap_cons, ← he]
def bl (n : Nat) : Nat := if n = 0 then 0 else n.log2 + 1
theorem bl_zero : bl 0 = 0 := rfl
theorem bl_lt (n : Nat) : n < 2 ^ bl n := by
  unfold bl
  by_cases h : n = 0
  · subst h; decide
  · rw [if_neg h]; exact Nat.lt_log2_self
theorem bl_ge {n : Nat} (h : n ≠ 0) : 2 ^ (bl n - 1) ≤ n := by
  unfold bl
  rw [if_neg h, Nat.add_sub_cancel]
  exact Nat.log2_self_le h
theorem bl_pos {n : Nat} (h : n ≠ 0) : 0 < bl n := by unfold bl; rw [if_neg h]; omega
theorem bl_unique {n m : Nat} (h1 : n < 2 ^ m) (h2 : m = 0 ∨ 2 ^ (m - 1) ≤ n) : bl n = m := by
  by_cases h : n = 0
  · subst h
    rcases h2 with h2 | h2
    · rw [h2]; rfl
    · have := Nat.pow_pos (a := 2) (n := m - 1) (by decide)
      omega
  · have a1 := bl_lt n
    have a2 := bl_ge h
    have a3 := bl_pos h
    have hm : 0 < m := by
      by_cases e : m = 0
      · subst e; simp at h1; omega
      · omega
    have b1 : bl n - 1 < m := (Nat.pow_lt_pow_iff_right (a := 2) (by decide)).1 (by omega)
    have b2 : m - 1 < bl n := by
      rcases h2 with h2 | h2
      · omega
      · exact (Nat.pow_lt_pow_iff_right (a := 2) (by decide)).1 (by omega)
    omega
theorem bl_shift (n s : Nat) (h : n / 2 ^ s ≠ 0) : bl n = s + bl (n / 2 ^ s) := by
  have a1 := bl_lt (n / 2 ^ s)
  have a2 := bl_ge h
  have a3 := bl_pos h
  have hp : 0 < 2 ^ s := Nat.pow_pos (by decide)
  refine bl_unique ?_ (Or.inr ?_)
  · rw [Nat.pow_add]
    have := Nat.lt_mul_of_div_lt a1 hp
    rw [Nat.mul_comm]
    exact this
  · rw [show s + bl (n / 2 ^ s) - 1 = s + (bl (n / 2 ^ s) - 1) from by omega, Nat.pow_add]
    have := Nat.mul_le_mul_left (2 ^ s) a2
    exact Nat.le_trans this (Nat.mul_div_le n (2 ^ s))
theorem bl_half {n : Nat} (h : n ≠ 0) : bl n = bl (n / 2) + 1 := by
  by_cases h1 : n / 2 = 0
  · have : n = 1 := by omega
    subst this
    decide
  · have := bl_shift n 1 (by simpa using h1)
    simp only [Nat.pow_one] at this
    omega
theorem bl_le {x m : Nat} (h : x < 2 ^ m) : bl x ≤ m := by
  by_cases hx : x = 0
  · subst hx; exact Nat.zero_le _
  · have a2 := bl_ge hx
    have a3 := bl_pos hx
    have : bl x - 1 < m := (Nat.pow_lt_pow_iff_right (a := 2) (by decide)).1 (by omega)
    omega
theorem bl_le8 {x : Nat} (h : x < 256) : bl x ≤ 8 := bl_le h
def bitsV (a : List Int) : Int := if rightB a = true ∧ a.length ≠ 0 then 64 * ((a.length : Int) - 1) + ((bl (a.getD (a.length - 1) 0).toNat : Nat) : Int) else 0
end Go.Proofs.Ytgeanpnkllnipaa.Z
end
section
namespace Go.Proofs.Ytgeanpnkllnipaa.F
open Go.RowKit Go.Proofs.YtgeanpnkllnipaaW.PrintWords Go.Proofs.YtgeanpnkllnipaaW.PrintLast Go.Proofs.YtgeanpnkllnipaaW.PrintMore
attribute [local go_sem] max2_int min2_int max_two min_two max_three min_three max_four min_four
set_option linter.unusedVariables false
set_option linter.unusedSimpArgs false
open Go.Proofs.Ytgeanpnkllnipaa.Z (strip)
theorem strip_take (l : List Int) : ∃ k : Nat, k ≤ l.length ∧ strip l = l.take k ∧ (∀ j, k ≤ j → j < l.length → l.getD j 0 = 0) ∧ (0 < k → l.getD (k - 1) 0 ≠ 0) := by
  induction l with
  | nil => exact ⟨0, Nat.le_refl _, rfl, fun j _ hj => absurd hj (Nat.not_lt_zero _), fun h => absurd h (Nat.lt_irrefl _)⟩
  | cons d l ih =>
    obtain ⟨k, h1, h2, h3, h4⟩ := ih
    by_cases hk : k = 0
    · subst hk
      have hs : strip l = [] := by rw [h2]; rfl
      by_cases hd : d = 0
      · refine ⟨0, Nat.zero_le _, ?_, fun j _ hj => ?_, fun h => absurd h (Nat.lt_irrefl _)⟩
        · simp [strip, hs, hd]
        · cases j with
          | zero => simpa using hd
          | succ j => simpa using h3 j (Nat.zero_le _) (by simpa using hj)
      · refine ⟨1, by simp, ?_, fun j hj1 hj => ?_, fun _ => by simpa using hd⟩
        · simp [strip, hs, hd]
        · cases j with
          | zero => omega
          | succ j => simpa using h3 j (Nat.zero_le _) (by simpa using hj)
    · have hne : strip l ≠ [] := by
        rw [h2]
        intro e
        have := congrArg List.length e
        rw [List.length_take, List.length_nil] at this
        omega
      refine ⟨k + 1, by simp; omega, ?_, fun j hj1 hj => ?_, fun _ => ?_⟩
      · rw [List.take_succ_cons, ← h2]
        simp [strip, hne]
      · cases j with
        | zero => omega
        | succ j => simpa using h3 j (by omega) (by simpa using hj)
      · have := h4 (by omega)
        rw [show k + 1 - 1 = (k - 1) + 1 from by omega]
        simpa using this
set_option maxHeartbeats 4000000 in
set_option maxRecDepth 100000 in
theorem nat_trimC.calls (A0 : Option Addr) (c0 : Nat) (l0 : List Int) (w : World) (hr0 : Kd.C (Kd.int .u64) w A0 l0.length l0) (hc0 : l0.length ≤ c0) :
    Calls Try.prog 87 #[.slice A0 l0.length c0] w fun e w' => e = .returned (.slice A0 (strip l0).length c0) ∧ Drawn0 w w' := by
  have HR0 := Aside0.mk hr0
  obtain ⟨k, hk, hs, hz, hn⟩ := strip_take l0
  have hlen : (strip l0).length = k := by rw [hs, List.length_take]; omega
  rw [hlen]
  have hbig : l0.length ≤ 9223372036854775807 := hr0.2.1
  have HZ := Aside0.mk hz
  have HN := Aside0.mk hn
  have HC0 := Aside0.mk hc0
  clear hr0 hz hn hs hlen
  obtain ⟨i0, hi0, _, hsz, _⟩ := info_parts info47
  have hcut := fun W => cut_to (P := Try.prog) 29 47 .i64 Try.underlying29 hi0 A0 l0.length c0 (k : Int) (Int.natCast_nonneg k) (by omega) HC0.out W
  rw [Int.toNat_natCast] at hcut
  have HCUT := Aside0.mk hcut
  clear hcut hi0 hsz
  go_enter Try.func87, Try.ntmps87
  go_wp2
  go_loopg [3] l0.length (fun gg s3 wr => ∃ n : Nat, k ≤ n ∧ n ≤ l0.length ∧ n - k ≤ gg ∧ s3 = .int .i64 (n : Int) ∧ Aside0 (Drawn0 w wr))
  case atStart => exact ⟨l0.length, hk, Nat.le_refl _, by omega, rfl, ⟨Drawn0.refl _⟩⟩
  case round =>
    obtain ⟨n, hkn, hnl, hg, rfl, D⟩ := hrel
    by_cases hn0 : n = 0
    · subst hn0
      obtain rfl : k = 0 := by omega
      have hcut2 := HCUT.out
      go_wp2
      go_ret
      exact ⟨rfl, D.out⟩
    · obtain ⟨m, rfl⟩ : ∃ m, n = m + 1 := ⟨n - 1, by omega⟩
      have hpos : decide ((0 : Int) < ((m + 1 : Nat) : Int)) = true := decide_eq_true (by omega)
      have e1 : ((m + 1 : Nat) : Int) - 1 = (m : Int) := by omega
      have hC1 : Kd.C (Kd.int .u64) wr A0 l0.length l0 := Kd.C_below HR0.out D.out.below
      obtain ⟨ad, hA, hcell⟩ := Kd.at_int hC1 (m : Int) (Int.natCast_nonneg m) (by omega)
      subst hA
      simp only [Go.IntWalk.toNatUp] at hcell
      have HX := HZ.out m
      have HY := HN.out
      clear hC1
      rw [show rd l0 (m : Int) = l0.getD m 0 from rfl] at hcell
      generalize hx : l0.getD m 0 = x at hcell HX
      have D2 := D
      have hcut2 := HCUT.out
      by_cases hlast : k ≤ m
      · have hx0 : (x == 0) = true := by rw [HX hlast (by omega)]; rfl
        clear D HX HY hx hcut2
        go_wp2
        go_roundg (m - k)
        case measure => omega
        case rel => exact ⟨m, hlast, by omega, by omega, rfl, D2⟩
      · obtain rfl : k = m + 1 := by omega
        have hx0 : (x == 0) = false := by
          have := HY (by omega)
          rw [Nat.add_sub_cancel, hx] at this
          simpa using this
        clear D HX HY hx
        go_wp2
        go_ret
        exact ⟨rfl, D2.out⟩
set_option maxHeartbeats 4000000 in
set_option maxRecDepth 100000 in
theorem nat_low.calls (A0 : Option Addr) (c0 : Nat) (l0 : List Int) (gn n : Nat) (w : World) (hr0 : Kd.C (Kd.int .u64) w A0 l0.length l0) (hc0 : l0.length ≤ c0) (hg : w.heap[gn]? = some (.cells #[.int .i64 (n : Int)] 3 (0, 0))) :
    Calls Try.prog 104 #[.slice A0 l0.length c0, .pointer (some ⟨gn, 0, none⟩)] w fun e w' => e = .returned (.slice A0 (strip (l0.take n)).length c0) ∧ Drawn0 w w' := by
  have HR0 := Aside0.mk hr0
  have HC0 := Aside0.mk hc0
  have hcell := (blk_cell hg 0).trans rfl
  obtain ⟨i0, hi0, _, hsz, _⟩ := info_parts info47
  obtain ⟨m, hm⟩ : ∃ m : Nat, m = min n l0.length := ⟨_, rfl⟩
  have hml : m ≤ l0.length := by omega
  have htk : l0.take n = l0.take m := by
    rcases Nat.le_total n l0.length with h | h
    · rw [show m = n from by omega]
    · rw [show m = l0.length from by omega, List.take_of_length_le h, List.take_length]
  rw [htk]
  have hcut := fun W => cut_to (P := Try.prog) 29 47 .i64 Try.underlying29 hi0 A0 l0.length c0 (m : Int) (Int.natCast_nonneg m) (by omega) W
  rw [Int.toNat_natCast] at hcut
  have hC1 : Kd.C (Kd.int .u64) w A0 (l0.take m).length (l0.take m) := Kd.C_take hr0 hml
  have hl1 : (l0.take m).length = m := by rw [List.length_take]; omega
  have HT := Aside0.mk (nat_trimC.calls A0 c0 (l0.take m) w hC1 (by omega))
  rw [hl1] at HT
  have HCUT := Aside0.mk hcut
  have HM := Aside0.mk hm
  have HML := Aside0.mk hml
  clear hr0 hc0 hg hi0 hsz hcut hC1 hl1 hm htk hml
  by_cases hlt : (l0.length : Int) < (n : Int)
  · have h1 : decide ((l0.length : Int) < (n : Int)) = true := decide_eq_true hlt
    have h1N : (l0.length < n) = True := eq_true (by omega)
    obtain rfl : m = l0.length := by have := HM.out; omega
    rw [List.take_length] at HT ⊢
    have hcut2 := HCUT.out
    have hq1 := eq_true (show ((l0.length : Nat) : Int) ≤ (c0 : Int) by have := HC0.out; have := HML.out; omega)
    have hq2 := eq_true (show l0.length ≤ c0 by have := HC0.out; have := HML.out; omega)
    clear hlt
    go_enter Try.func104, Try.ntmps104
    go_wp2_with (go_at_call 87; (with_reducible refine HT.out.mono ?_); rintro e w' ⟨rfl, hd⟩)
    go_ret
    exact ⟨rfl, hd⟩
  · have h1 : decide ((l0.length : Int) < (n : Int)) = false := decide_eq_false hlt
    have h1N : (l0.length < n) = False := eq_false (by omega)
    obtain rfl : m = n := by have := HM.out; omega
    have hcut2 := HCUT.out
    have hq1 := eq_true (show ((m : Nat) : Int) ≤ (c0 : Int) by have := HC0.out; have := HML.out; omega)
    have hq2 := eq_true (show m ≤ c0 by have := HC0.out; have := HML.out; omega)
    clear hlt
    go_enter Try.func104, Try.ntmps104
    go_wp2_with (go_at_call 87; (with_reducible refine HT.out.mono ?_); rintro e w' ⟨rfl, hd⟩)
    go_ret
    exact ⟨rfl, hd⟩
set_option maxHeartbeats 4000000 in
set_option maxRecDepth 100000 in
theorem nat_high.calls (A0 : Option Addr) (c0 : Nat) (l0 : List Int) (gn n : Nat) (w : World) (hc0 : l0.length ≤ c0) (hg : w.heap[gn]? = some (.cells #[.int .i64 (n : Int)] 3 (0, 0))) :
    Calls Try.prog 105 #[.slice A0 l0.length c0, .pointer (some ⟨gn, 0, none⟩)] w fun e w' => ∃ (A1 : Option Addr) (c1 : Nat), e = .returned (.slice A1 (l0.drop n).length c1) ∧ (l0.drop n).length ≤ c1 ∧ (∀ W : World, Kd.C (Kd.int .u64) W A0 l0.length l0 → Kd.C (Kd.int .u64) W A1 (l0.drop n).length (l0.drop n)) ∧ Drawn0 w w' := by
  have HC0 := Aside0.mk hc0
  have hcell := (blk_cell hg 0).trans rfl
  obtain ⟨i0, hi0, _, hsz, _⟩ := info_parts info47
  obtain ⟨m, hm⟩ : ∃ m : Nat, m = min n l0.length := ⟨_, rfl⟩
  have hml : m ≤ l0.length := by omega
  have hdr : l0.drop n = l0.drop m := by
    rcases Nat.le_total n l0.length with h | h
    · rw [show m = n from by omega]
    · rw [List.drop_of_length_le h, List.drop_of_length_le (by omega)]
  rw [hdr]
  obtain ⟨A2, c2, hc2, hA2, hcut⟩ : ∃ (A2 : Option Addr) (c2 : Nat), (l0.drop m).length ≤ c2 ∧ (∀ W : World, Kd.C (Kd.int .u64) W A0 l0.length l0 → Kd.C (Kd.int .u64) W A2 (l0.drop m).length (l0.drop m)) ∧ ∀ W : World, (Instr.slice 29 (.slice A0 l0.length c0) (some (.int .i64 (m : Int))) none none).run Try.prog W = .ok (.slice A2 (l0.drop m).length c2) W := by
    refine ⟨if c0 = (m : Int).toNat then A0 else A0.map (·.add ((m : Int).toNat * 1)), c0 - (m : Int).toNat, ?_, fun W h => ?_, fun W => ?_⟩
    · rw [List.length_drop, Int.toNat_natCast]; omega
    · rw [Int.toNat_natCast]
      exact Kd.C_drop h (by omega) hc0
    · rw [List.length_drop]
      have h3 := cut_from (P := Try.prog) 29 47 .i64 Try.underlying29 hi0 1 hsz A0 l0.length c0 (m : Int) (Int.natCast_nonneg m) (by omega) W
      rw [Int.toNat_natCast] at h3 ⊢
      exact h3
  obtain ⟨Y, hY⟩ : ∃ Y, Y = l0.drop m := ⟨_, rfl⟩
  rw [← hY] at hcut hA2 hc2 ⊢
  have HCUT := Aside0.mk hcut
  have HA := Aside0.mk hA2
  have HC2 := Aside0.mk hc2
  have HM := Aside0.mk hm
  have HML := Aside0.mk hml
  clear hc0 hg hi0 hsz hcut hA2 hc2 hm hdr hml hY
  by_cases hlt : (l0.length : Int) < (n : Int)
  · have h1 : decide ((l0.length : Int) < (n : Int)) = true := decide_eq_true hlt
    have h1N : (l0.length < n) = True := eq_true (by omega)
    obtain rfl : m = l0.length := by have := HM.out; omega
    have hcut2 := HCUT.out
    have hq1 := eq_true (show ((l0.length : Nat) : Int) ≤ (c0 : Int) by have := HC0.out; have := HML.out; omega)
    have hq2 := eq_true (show l0.length ≤ c0 by have := HC0.out; have := HML.out; omega)
    clear hlt
    go_enter Try.func105, Try.ntmps105
    go_wp2
    go_ret
    exact ⟨A2, c2, rfl, HC2.out, HA.out, Drawn0.refl _⟩
  · have h1 : decide ((l0.length : Int) < (n : Int)) = false := decide_eq_false hlt
    have h1N : (l0.length < n) = False := eq_false (by omega)
    obtain rfl : m = n := by have := HM.out; omega
    have hcut2 := HCUT.out
    have hq1 := eq_true (show ((m : Nat) : Int) ≤ (c0 : Int) by have := HC0.out; have := HML.out; omega)
    have hq2 := eq_true (show m ≤ c0 by have := HC0.out; have := HML.out; omega)
    clear hlt
    go_enter Try.func105, Try.ntmps105
    go_wp2
    go_ret
    exact ⟨A2, c2, rfl, HC2.out, HA.out, Drawn0.refl _⟩
end Go.Proofs.Ytgeanpnkllnipaa.F
end
section
namespace Go.Proofs.Ytgeanpnkllnipaa.Z
open Go.RowKit Go.Proofs.Ytgeanpnkllnipaa.F Go.Proofs.YtgeanpnkllnipaaW.PrintWords
set_option linter.unusedSimpArgs false
set_option linter.unusedVariables false
theorem nat_trim_loop (l : List Int) (h : l.length ≤ maxLen) : ∀ n : Nat, n ≤ l.length → Evt (fun k => nat_trim.l0 k l (n : Int)) (strip (l.take n)) := by
  unfold maxLen at h
  intro n
  induction n with
  | zero =>
    intro _
    refine Evt.succ ?_
    simp only [nat_trim.l0]
    refine Evt.ite_neg (by omega) (Evt.ite_pos (by omega) (Evt.ite_pos (by omega) ?_))
    simp [strip]
    exact Evt.pure _
  | succ n ih =>
    intro hn
    refine Evt.succ ?_
    simp only [nat_trim.l0]
    rw [w64 (by omega) (by omega), show ((n + 1 : Nat) : Int) - 1 = (n : Int) from by omega]
    refine Evt.ite_pos (by omega) (Evt.ite_pos (by omega) (Evt.ite_pos (by omega) ?_))
    rw [rd_nat, List.take_succ_eq_append_getElem (show n < l.length by omega)]
    have hg : l.getD n 0 = l[n] := by simp [show n < l.length by omega]
    rw [hg]
    by_cases h0 : l[n] = 0
    · rw [h0, strip_snoc_zero]
      exact Evt.ite_pos rfl (ih (by omega))
    · rw [strip_snoc h0]
      refine Evt.ite_neg h0 (Evt.ite_pos (by omega) (Evt.ite_pos (by omega) ?_))
      rw [← List.take_succ_eq_append_getElem (show n < l.length by omega)]
      exact Evt.pure _
theorem nat_trim_ev (l : List Int) (h : l.length ≤ maxLen) : Evt (fun k => nat_trim.f k l) (strip l) := by
  have := nat_trim_loop l h l.length (Nat.le_refl _)
  exact this.congr (fun k => rfl) (by rw [List.take_length])
theorem set_at {α : Type} (p : List α) (x v : α) (r : List α) : (p ++ x :: r).set p.length v = p ++ v :: r := by simp
theorem carry_of {c : Int} (h : c = 0 ∨ c = 1) : carry01 c = true := decide_eq_true h
def cmpL (B : Int) (l m : List Int) : Int := if val B l < val B m then -1 else if val B l = val B m then 0 else 1
theorem val_take_succ (B : Int) (l : List Int) (i : Nat) (h : i < l.length) : val B (l.take (i + 1)) = val B (l.take i) + B ^ i * l[i] := by
  rw [List.take_succ_eq_append_getElem h, val_append]
  simp only [val, List.length_take]
  rw [show min i l.length = i from by omega, Int.mul_zero, Int.add_zero]
theorem cmp_step {B : Int} (hB : 0 < B) {l m : List Int} (hl : Dig B l) (hm : Dig B m) (i : Nat) (h1 : i < l.length) (h2 : i < m.length) :
    (l[i] < m[i] → cmpL B (l.take (i + 1)) (m.take (i + 1)) = -1) ∧ (m[i] < l[i] → cmpL B (l.take (i + 1)) (m.take (i + 1)) = 1) ∧ (l[i] = m[i] → cmpL B (l.take (i + 1)) (m.take (i + 1)) = cmpL B (l.take i) (m.take i)) := by
  have a1 := val_nonneg hB (hl.take i)
  have a2 := val_nonneg hB (hm.take i)
  have b1 := val_lt hB (hl.take i)
  have b2 := val_lt hB (hm.take i)
  rw [List.length_take, show min i l.length = i from by omega] at b1
  rw [List.length_take, show min i m.length = i from by omega] at b2
  have hp : 0 < B ^ i := Int.pow_pos hB
  unfold cmpL
  rw [val_take_succ B l i h1, val_take_succ B m i h2]
  refine ⟨fun h => ?_, fun h => ?_, fun h => ?_⟩
  · have h3 : B ^ i * (l[i] + 1) ≤ B ^ i * m[i] := Int.mul_le_mul_of_nonneg_left (by omega) (by omega)
    rw [Int.mul_add, Int.mul_one] at h3
    rw [if_pos (by omega)]
  · have h3 : B ^ i * (m[i] + 1) ≤ B ^ i * l[i] := Int.mul_le_mul_of_nonneg_left (by omega) (by omega)
    rw [Int.mul_add, Int.mul_one] at h3
    rw [if_neg (by omega), if_neg (by omega)]
  · rw [h]
    by_cases c1 : val B (l.take i) < val B (m.take i)
    · rw [if_pos c1, if_pos (by omega)]
    · by_cases c2 : val B (l.take i) = val B (m.take i)
      · rw [if_neg c1, if_pos c2, if_neg (by omega), if_pos (by omega)]
      · rw [if_neg c1, if_neg c2, if_neg (by omega), if_neg (by omega)]
theorem ref_compare_loop {B : Int} (hB : 0 < B) (l m : List Int) (hl : Dig B l) (hm : Dig B m) (hlen : l.length = m.length) (hb : l.length ≤ 1000000) : ∀ i : Nat, i ≤ l.length → Evt (fun k => windbreakref01_compare.l0 k l m ((i : Int) - 1)) (cmpL B (l.take i) (m.take i)) := by
  intro i
  induction i with
  | zero =>
    intro _
    refine Evt.succ ?_
    simp only [windbreakref01_compare.l0]
    refine Evt.ite_neg (by omega) ?_
    exact Evt.pure _
  | succ i ih =>
    intro hi
    have h1 : i < l.length := by omega
    have h2 : i < m.length := by omega
    obtain ⟨s1, s2, s3⟩ := cmp_step hB hl hm i h1 h2
    rw [show (((i + 1 : Nat) : Int) - 1) = (i : Int) from by omega]
    refine Evt.succ ?_
    simp only [windbreakref01_compare.l0]
    refine Evt.ite_pos (by omega) (Evt.ite_pos (by omega) (Evt.ite_pos (by omega) (Evt.ite_pos (by omega) ?_)))
    have e1 : rd l (i : Int) = l[i] := by simp [rd_nat, h1]
    have e2 : rd m (i : Int) = m[i] := by simp [rd_nat, h2]
    rw [e1, e2]
    by_cases c1 : l[i] < m[i]
    · rw [s1 c1]; exact Evt.ite_pos c1 (Evt.pure _)
    · by_cases c2 : m[i] < l[i]
      · rw [s2 c2]; exact Evt.ite_neg c1 (Evt.ite_pos c2 (Evt.pure _))
      · rw [s3 (by omega)]
        refine Evt.ite_neg c1 (Evt.ite_neg c2 ?_)
        rw [w64 (by omega) (by omega)]
        exact ih (by omega)
theorem ref_compare_any {B : Int} (hB : 0 < B) (l m : List Int) (hl : Dig B l) (hm : Dig B m) (cl : Can l) (cm : Can m) (hb : l.length ≤ 1000000) : Evt (fun k => windbreakref01_compare.f k l m) (cmpL B l m) := by
  unfold windbreakref01_compare.f
  by_cases hlen : l.length = m.length
  · refine Evt.ite_pos (by omega) ?_
    rw [w64 (by omega) (by omega)]
    have := ref_compare_loop hB l m hl hm hlen hb l.length (Nat.le_refl _)
    refine this.congr (fun k => rfl) ?_
    rw [List.take_length, hlen, List.take_length]
  · refine Evt.ite_neg (by omega) ?_
    by_cases h2 : l.length < m.length
    · have := val_lt_of_length hB hl hm cm h2
      have e : cmpL B l m = -1 := if_pos this
      rw [e]
      exact Evt.ite_pos (by omega) (Evt.pure _)
    · have := val_lt_of_length hB hm hl cl (by omega)
      have e : cmpL B l m = 1 := by unfold cmpL; rw [if_neg (by omega), if_neg (by omega)]
      rw [e]
      exact Evt.ite_neg (by omega) (Evt.pure _)
theorem ref_compare_ev (v w : Nat) (hv : v < lim) : Evt (fun k => windbreakref01_compare.f k (digs v) (digs w)) (cmpN v w) := by
  have hlen : (digs v).length ≤ 1000000 := Nat.le_trans (digs_len hv) (by omega)
  refine (ref_compare_any b16_pos _ _ (toD_dig b16_two v) (toD_dig b16_two w) (toD_can b16_two v) (toD_can b16_two w) hlen).congr (fun k => rfl) ?_
  unfold cmpL cmpN
  rw [val_toD b16_two, val_toD b16_two]
  simp only [Int.ofNat_lt, Int.natCast_inj]
theorem nat_compare_loop {B : Int} (hB : 0 < B) (l m : List Int) (hl : Dig B l) (hm : Dig B m) (hlen : l.length = m.length) (hb : l.length ≤ 1000000) : ∀ i : Nat, i ≤ l.length → Evt (fun k => nat_compare.l0 k l m ((i : Int) - 1)) (cmpL B (l.take i) (m.take i)) := by
  intro i
  induction i with
  | zero =>
    intro _
    refine Evt.succ ?_
    simp only [nat_compare.l0]
    refine Evt.ite_neg (by omega) ?_
    exact Evt.pure _
  | succ i ih =>
    intro hi
    have h1 : i < l.length := by omega
    have h2 : i < m.length := by omega
    obtain ⟨s1, s2, s3⟩ := cmp_step hB hl hm i h1 h2
    rw [show (((i + 1 : Nat) : Int) - 1) = (i : Int) from by omega]
    refine Evt.succ ?_
    simp only [nat_compare.l0]
    refine Evt.ite_pos (by omega) (Evt.ite_pos (by omega) (Evt.ite_pos (by omega) (Evt.ite_pos (by omega) ?_)))
    have e1 : rd l (i : Int) = l[i] := by simp [rd_nat, h1]
    have e2 : rd m (i : Int) = m[i] := by simp [rd_nat, h2]
    rw [e1, e2]
    by_cases c0 : l[i] = m[i]
    · rw [s3 c0]
      refine Evt.ite_pos c0 ?_
      rw [w64 (by omega) (by omega)]
      exact ih (by omega)
    · refine Evt.ite_neg c0 ?_
      by_cases c1 : l[i] < m[i]
      · rw [s1 c1]; exact Evt.ite_pos c1 (Evt.pure _)
      · rw [s2 (by omega)]; exact Evt.ite_neg c1 (Evt.pure _)
theorem nat_compare_any {B : Int} (hB : 0 < B) (l m : List Int) (hl : Dig B l) (hm : Dig B m) (cl : Can l) (cm : Can m) (hb : l.length ≤ 1000000) : Evt (fun k => nat_compare.f k l m) (cmpL B l m) := by
  unfold nat_compare.f
  by_cases hlen : l.length = m.length
  · refine Evt.ite_pos (by omega) ?_
    rw [w64 (by omega) (by omega)]
    have := nat_compare_loop hB l m hl hm hlen hb l.length (Nat.le_refl _)
    refine this.congr (fun k => rfl) ?_
    rw [List.take_length, hlen, List.take_length]
  · refine Evt.ite_neg (by omega) ?_
    by_cases h2 : l.length < m.length
    · have := val_lt_of_length hB hl hm cm h2
      have e : cmpL B l m = -1 := if_pos this
      rw [e]
      exact Evt.ite_pos (by omega) (Evt.pure _)
    · have := val_lt_of_length hB hm hl cl (by omega)
      have e : cmpL B l m = 1 := by unfold cmpL; rw [if_neg (by omega), if_neg (by omega)]
      rw [e]
      exact Evt.ite_neg (by omega) (Evt.pure _)
theorem nat_compare_ev (l m : List Int) (hl : Dig (b64 : Int) l) (hm : Dig (b64 : Int) m) (cl : Can l) (cm : Can m) (hb : l.length ≤ 1000000) : Evt (fun k => nat_compare.f k l m) (cmpN (num l) (num m)) := by
  refine (nat_compare_any b64_pos l m hl hm cl cm hb).congr (fun k => rfl) ?_
  unfold cmpL cmpN
  rw [← num_val hl, ← num_val hm]
  simp only [Int.ofNat_lt, Int.natCast_inj]
theorem nat_Of_ev (n : Int) : Evt (fun k => nat_Of.f k n) (strip [n]) := by
  refine (Evt.bind (nat_trim_ev [n] (by simp [maxLen])) (h := fun t _ => some t) (Evt.pure _)).congr (fun k => rfl) rfl
theorem nat_Right_eq {l : List Int} (h : l.length ≤ maxLen) : nat_Right.f l = some (rightB l) := by
  unfold maxLen at h
  unfold nat_Right.f rightB
  by_cases h1 : l.length ≤ 64
  · rw [if_pos (by omega)]
    by_cases h2 : l.length = 0
    · rw [if_pos (by omega)]
      simp [h1, h2]
    · rw [if_neg (by omega), w64 (by omega) (by omega), if_pos (by omega), if_pos (by omega), rd_getD]
      rw [show ((l.length : Int) - 1).toNat = l.length - 1 from by omega]
      have h3 : (l.length == 0) = false := by simpa using h2
      rw [h3]
      simp [h1]
  · rw [if_neg (by omega)]
    simp [h1]
theorem nat_right_eq (ls : List (List Int)) (h : ∀ l ∈ ls, l.length ≤ maxLen) : nat_right.f ls = some (ls.all rightB) := by
  induction ls with
  | nil => rfl
  | cons a ls ih =>
    simp only [nat_right.f]
    rw [nat_Right_eq (h a (by simp)), ih (fun l hl => h l (by simp [hl]))]
    simp only [Option.bind_some, List.all_cons]
    cases rightB a <;> simp
theorem nat_told_ev (l : List Int) (h : l.length ≤ 1000000) (d : Dig (b64 : Int) l) : Evt (fun k => nat_told.f k l) (toldV (num l)) := by
  unfold nat_told.f toldV
  refine Evt.bind (nat_trim_ev l (by simp [maxLen]; omega)) ?_
  rw [strip_limbs d]
  have hl := limbs_long (num l)
  by_cases h1 : num l < b64 ^ 64
  · rw [if_pos h1]
    have := hl.2 h1
    exact Evt.ite_neg (by omega) (Evt.pure _)
  · rw [if_neg h1]
    have : ¬ (limbs (num l)).length ≤ 64 := fun hh => h1 (hl.1 hh)
    exact Evt.ite_pos (by omega) (Evt.pure _)
def cmpV (a b : List Int) : Int := if rightB a = true ∧ rightB b = true then cmpN (num a) (num b) else 0
theorem nat_Cmp_ev (a b : List Int) (ha : a.length ≤ maxLen) (hb : b.length ≤ maxLen) (da : Dig (b64 : Int) a) (db : Dig (b64 : Int) b) : Evt (fun k => nat_Cmp.f k a b) (cmpV a b) := by
  unfold nat_Cmp.f cmpV
  rw [nat_right_eq _ (by intro l hl; simp at hl; rcases hl with rfl | rfl <;> assumption)]
  simp only [Option.bind_some, List.all_cons, List.all_nil, Bool.and_true, Bool.and_eq_true]
  by_cases h : rightB a = true ∧ rightB b = true
  · rw [if_pos h]
    refine Evt.ite_pos h ?_
    obtain ⟨h1, c1⟩ := (rightB_iff a).1 h.1
    obtain ⟨h2, c2⟩ := (rightB_iff b).1 h.2
    exact Evt.bind (nat_compare_ev a b da db c1 c2 (by omega)) (h := fun t _ => some t) (Evt.pure _)
  · rw [if_neg h]
    exact Evt.ite_neg h (Evt.pure _)
theorem windbreakref01_Right_eq {l : List Int} (h : l.length ≤ maxLen) : windbreakref01_Right.f l = some (rightB l) := by
  unfold maxLen at h
  unfold windbreakref01_Right.f rightB
  by_cases h1 : l.length ≤ 64
  · rw [if_pos (by omega)]
    by_cases h2 : l.length = 0
    · rw [if_pos (by omega)]
      simp [h1, h2]
    · rw [if_neg (by omega), w64 (by omega) (by omega), if_pos (by omega), if_pos (by omega), rd_getD]
      rw [show ((l.length : Int) - 1).toNat = l.length - 1 from by omega]
      have h3 : (l.length == 0) = false := by simpa using h2
      rw [h3]
      simp [h1]
  · rw [if_neg (by omega)]
    simp [h1]
theorem windbreakref01_cut_loop (l : List Int) (h : l.length ≤ maxLen) : ∀ n : Nat, n ≤ l.length → Evt (fun k => windbreakref01_cut.l0 k l (n : Int)) (strip (l.take n)) := by
  unfold maxLen at h
  intro n
  induction n with
  | zero =>
    intro _
    refine Evt.succ ?_
    simp only [windbreakref01_cut.l0]
    refine Evt.ite_neg (by omega) (Evt.ite_pos (by omega) (Evt.ite_pos (by omega) ?_))
    simp [strip]
    exact Evt.pure _
  | succ n ih =>
    intro hn
    refine Evt.succ ?_
    simp only [windbreakref01_cut.l0]
    rw [w64 (by omega) (by omega), show ((n + 1 : Nat) : Int) - 1 = (n : Int) from by omega]
    refine Evt.ite_pos (by omega) (Evt.ite_pos (by omega) (Evt.ite_pos (by omega) ?_))
    rw [rd_nat, List.take_succ_eq_append_getElem (show n < l.length by omega)]
    have hg : l.getD n 0 = l[n] := by simp [show n < l.length by omega]
    rw [hg]
    by_cases h0 : l[n] = 0
    · rw [h0, strip_snoc_zero]
      exact Evt.ite_pos rfl (ih (by omega))
    · rw [strip_snoc h0]
      refine Evt.ite_neg h0 (Evt.ite_pos (by omega) (Evt.ite_pos (by omega) ?_))
      rw [← List.take_succ_eq_append_getElem (show n < l.length by omega)]
      exact Evt.pure _
theorem windbreakref01_cut_ev (l : List Int) (h : l.length ≤ maxLen) : Evt (fun k => windbreakref01_cut.f k l) (strip l) := by
  have := windbreakref01_cut_loop l h l.length (Nat.le_refl _)
  exact this.congr (fun k => rfl) (by rw [List.take_length])
theorem ref_digit_eq (l : List Int) (i : Nat) : windbreakref01_digit.f l (i : Int) = some (l.getD i 0) := by
  unfold windbreakref01_digit.f
  by_cases h : i < l.length
  · rw [if_pos (by omega), if_pos (by omega), rd_nat]
  · rw [if_neg (by omega)]
    simp [List.getD_eq_getElem?_getD, List.getElem?_eq_none (by omega : l.length ≤ i)]
def subL : Nat → List Int → List Int → Int → List Int
  | 0, _, _, _ => []
  | n + 1, a, b, c => (65536 + a.getD 0 0 - b.getD 0 0 - c) % 65536 :: subL n (a.drop 1) (b.drop 1) (1 - (65536 + a.getD 0 0 - b.getD 0 0 - c) / 65536)
theorem val_headS (B : Int) (b : List Int) : val B b = b.getD 0 0 + B * val B (b.drop 1) := by
  cases b with
  | nil => simp [val]
  | cons y b => simp [val]
theorem subL_len (n : Nat) : ∀ (a b : List Int) (c : Int), (subL n a b c).length = n := by
  induction n with
  | zero => intro a b c; rfl
  | succ n ih => intro a b c; simp only [subL, List.length_cons, ih]
theorem subL_facts (n : Nat) : ∀ (a b : List Int) (c : Int), Dig (b16 : Int) a → Dig (b16 : Int) b → a.length ≤ n → b.length ≤ n → (c = 0 ∨ c = 1) →
    Dig (b16 : Int) (subL n a b c) ∧ ∃ t, 0 ≤ t ∧ val (b16 : Int) (subL n a b c) = val (b16 : Int) a - val (b16 : Int) b - c + (b16 : Int) ^ n * t := by
  induction n with
  | zero =>
    intro a b c _ _ ha hb hc
    have e1 : a = [] := List.length_eq_zero_iff.1 (by omega)
    have e2 : b = [] := List.length_eq_zero_iff.1 (by omega)
    subst e1 e2
    exact ⟨Dig.nil, c, by omega, by simp [subL, val]; omega⟩
  | succ n ih =>
    intro a b c da db ha hb hc
    have h1 := da.getD b16_pos 0
    have h2 := db.getD b16_pos 0
    simp only [b16] at h1 h2
    obtain ⟨i1, t, ht, i2⟩ := ih (a.drop 1) (b.drop 1) (1 - (65536 + a.getD 0 0 - b.getD 0 0 - c) / 65536) (da.drop 1) (db.drop 1) (by simp; omega) (by simp; omega) (by omega)
    refine ⟨Dig.cons.2 ⟨by simp only [b16]; omega, i1⟩, t, ht, ?_⟩
    rw [val_headS (b16 : Int) a, val_headS (b16 : Int) b]
    simp only [subL, val]
    rw [i2, Int.pow_succ]
    generalize (b16 : Int) ^ n = P at *
    simp only [b16]
    generalize val ((65536 : Nat) : Int) (a.drop 1) = va at *
    generalize val ((65536 : Nat) : Int) (b.drop 1) = vb at *
    have h3 : ((65536 : Nat) : Int) * (va - vb - (1 - (65536 + a.getD 0 0 - b.getD 0 0 - c) / 65536) + P * t) = 65536 * va - 65536 * vb - 65536 * (1 - (65536 + a.getD 0 0 - b.getD 0 0 - c) / 65536) + P * ((65536 : Nat) : Int) * t := by grind
    rw [h3]
    omega
theorem ref_sub_loop (a b : List Int) (da : Dig (b16 : Int) a) (db : Dig (b16 : Int) b) (ha : a.length ≤ 1000000) (n : Nat) : ∀ (i : Nat) (p : List Int) (c : Int), p.length = i → i ≤ a.length → a.length - i = n → (c = 0 ∨ c = 1) →
    Evt (fun k => windbreakref01_sub.l0 k a b p c (i : Int)) (strip (p ++ subL n (a.drop i) (b.drop i) c)) := by
  induction n with
  | zero =>
    intro i p c hp hi hn hc
    refine Evt.succ ?_
    simp only [windbreakref01_sub.l0]
    refine Evt.ite_neg (by omega) ?_
    simp only [subL, List.append_nil]
    exact Evt.bind (windbreakref01_cut_ev p (by simp [maxLen]; omega)) (h := fun t _ => some t) (Evt.pure _)
  | succ n ih =>
    intro i p c hp hi hn hc
    have hlt : i < a.length := by omega
    refine Evt.succ ?_
    simp only [windbreakref01_sub.l0]
    refine Evt.ite_pos (by omega) (Evt.ite_pos (by omega) ?_)
    rw [ref_digit_eq, rd_nat]
    simp only [Option.bind_some]
    refine Evt.ite_pos (by omega) ?_
    have h1 := da.getD b16_pos i
    have h2 := db.getD b16_pos i
    simp only [b16] at h1 h2
    rw [wu64_of (show 0 ≤ 65536 + a.getD i 0 by omega) (by omega), wu64_of (show 0 ≤ 65536 + a.getD i 0 - b.getD i 0 by omega) (by omega), wu64_of (show 0 ≤ 65536 + a.getD i 0 - b.getD i 0 - c by omega) (by omega)]
    rw [Int.tmod_eq_emod_of_nonneg (by omega), Int.tdiv_eq_ediv_of_nonneg (by omega), wu64_of (show 0 ≤ (65536 + a.getD i 0 - b.getD i 0 - c) / 65536 by omega) (by omega), wu64_of (by omega) (by omega), w64 (by omega) (by omega)]
    have e1 : (a.drop i).getD 0 0 = a.getD i 0 := by simp [List.getD_eq_getElem?_getD]
    have e2 : (b.drop i).getD 0 0 = b.getD i 0 := by simp [List.getD_eq_getElem?_getD]
    refine (ih (i + 1) (p ++ [(65536 + a.getD i 0 - b.getD i 0 - c) % 65536]) (1 - (65536 + a.getD i 0 - b.getD i 0 - c) / 65536) (by simp [hp]) (by omega) (by omega) (by omega)).congr (fun k => rfl) ?_
    simp only [subL, e1, e2, List.drop_drop, List.append_assoc, List.singleton_append]
theorem ref_sub_ev (v w : Nat) (hv : v < lim) (hle : w ≤ v) : Evt (fun k => windbreakref01_sub.f k (digs v) (digs w)) (digs (v - w)) := by
  have h1 := digs_len hv
  have d1 := toD_dig b16_two v
  have d2 := toD_dig b16_two w
  have hlen : (digs w).length ≤ (digs v).length := by
    rw [toD_len_iff b16_two]
    exact Nat.lt_of_le_of_lt hle (toD_lt_pow b16_two v)
  have h := ref_sub_loop (digs v) (digs w) d1 d2 (by omega) (digs v).length 0 [] 0 rfl (Nat.zero_le _) (by omega) (Or.inl rfl)
  refine h.congr (fun k => rfl) ?_
  obtain ⟨f1, t, ht, f2⟩ := subL_facts (digs v).length (digs v) (digs w) 0 d1 d2 (Nat.le_refl _) hlen (Or.inl rfl)
  rw [List.nil_append, List.drop_zero, List.drop_zero, strip_digs f1]
  rw [val_toD b16_two, val_toD b16_two, pow_cast] at f2
  have h4 := val_lt b16_pos f1
  rw [subL_len, pow_cast] at h4
  have ht0 : t = 0 := by
    by_cases e : t = 0
    · exact e
    · have h5 : ((b16 ^ (digs v).length : Nat) : Int) * 1 ≤ ((b16 ^ (digs v).length : Nat) : Int) * t := Int.mul_le_mul_of_nonneg_left (by omega) (by omega)
      omega
  subst ht0
  rw [Int.mul_zero] at f2
  unfold num16
  rw [f2]
  congr 1
  omega
theorem ref5_least_loop (x : Nat) (hx : x < 1099511627776) (n : Nat) : ∀ d : Nat, d + n = 1048578 → 2 ≤ d → (d = 2 ∨ (d - 1) * (d - 1) ≤ x) → (∀ j, 2 ≤ j → j < d → x % j ≠ 0) →
    Evt (fun k => windbreakref05_least.l0 k (x : Int) (d : Int)) ((leastV x : Nat) : Int) := by
  induction n with
  | zero =>
    intro d hd h2 hs _
    exfalso
    have e : d - 1 = 1048577 := by omega
    rw [e] at hs
    omega
  | succ n ih =>
    intro d hd h2 hs hj
    have hdd : d * d ≤ 1048578 * 1048578 := Nat.mul_le_mul (by omega) (by omega)
    have c1 : ((d * d : Nat) : Int) = (d : Int) * (d : Int) := Int.natCast_mul d d
    refine Evt.succ ?_
    simp only [windbreakref05_least.l0]
    rw [wu64_of (x := (d : Int) * (d : Int)) (by omega) (by omega)]
    by_cases h : d * d ≤ x
    · refine Evt.ite_pos (by omega) (Evt.ite_neg (by omega) ?_)
      have e : Int.tmod (x : Int) (d : Int) = ((x % d : Nat) : Int) := by
        rw [Int.tmod_eq_emod_of_nonneg (by omega)]; rfl
      rw [e]
      by_cases hm : x % d = 0
      · refine Evt.ite_pos (by omega) ?_
        rw [leastV_some h2 h hm hj]
        exact Evt.pure _
      · refine Evt.ite_neg (by omega) ?_
        rw [wu64_of (x := (d : Int) + 1) (by omega) (by omega)]
        refine ih (d + 1) (by omega) (by omega) (Or.inr (by simpa using h)) (fun j a b => ?_)
        by_cases e : j = d
        · subst e; exact hm
        · exact hj j a (by omega)
    · refine Evt.ite_neg (by omega) ?_
      rw [leastV_none (fun j a b c => by
        rcases Nat.lt_or_ge j d with h' | h'
        · exact hj j a h' c
        · have := Nat.mul_le_mul h' h'
          omega)]
      exact Evt.pure _
theorem ref5_least_ev (x : Nat) (hx : x < 1099511627776) : Evt (fun k => windbreakref05_least.f k (x : Int)) ((leastV x : Nat) : Int) := by
  unfold windbreakref05_least.f
  exact ref5_least_loop x hx 1048576 2 (by omega) (Nat.le_refl _) (Or.inl rfl) (fun j a b => by omega)
theorem ref_Of_eq (n : Int) : windbreakref01_Of.f n = some (strip [n]) := by
  unfold windbreakref01_Of.f
  by_cases h : n = 0
  · simp [h, strip]
  · simp [h, strip]
theorem windbreakref01_Small_ev (l : List Int) (h : l.length ≤ maxLen) : Evt (fun k => windbreakref01_Small.f k l) (smallV l) := by
  unfold windbreakref01_Small.f smallV
  rw [windbreakref01_Right_eq h]
  simp only [Option.bind_some]
  have J : ∀ x : Bool, Evt (fun k => windbreakref01_Small.j0 k l x) (if x = true then (0, false) else (l.getD 0 0, true)) := by
    intro x
    refine Evt.succ ?_
    simp only [windbreakref01_Small.j0]
    refine Evt.cond (fun _ => Evt.pure _) (fun _ => ?_)
    by_cases h0 : l.length = 0
    · refine Evt.ite_pos (by omega) ?_
      rw [List.length_eq_zero_iff.1 h0]
      exact Evt.pure _
    · exact Evt.ite_neg (by omega) (Evt.ite_pos (by omega) (Evt.pure _))
  cases hr : rightB l with
  | true =>
    refine Evt.ite_pos rfl ?_
    refine (J _).congr (fun k => rfl) ?_
    by_cases h1 : l.length ≤ 1
    · rw [if_neg (by simp; omega), if_pos ⟨rfl, h1⟩]
    · rw [if_pos (by simp; omega), if_neg (fun h => h1 h.2)]
  | false =>
    refine Evt.ite_neg (by simp) ?_
    refine (J _).congr (fun k => rfl) ?_
    simp
end Go.Proofs.Ytgeanpnkllnipaa.Z
end
section
namespace Go.Proofs.Ytgeanpnkllnipaa.Z
open Go.RowKit Go.Proofs.Ytgeanpnkllnipaa.F Go.Proofs.YtgeanpnkllnipaaW.PrintWords Go.Proofs.YtgeanpnkllnipaaW.PrintMore
set_option linter.unusedSimpArgs false
set_option linter.unusedVariables false
theorem val_set (B : Int) (l : List Int) : ∀ (i : Nat) (v : Int), i < l.length → val B (l.set i v) = val B l + B ^ i * (v - l.getD i 0) := by
  induction l with
  | nil => intro i v h; simp at h
  | cons d l ih =>
    intro i v h
    cases i with
    | zero => simp [val]; omega
    | succ i =>
      have h2 := ih i v (by simpa using h)
      simp only [List.set_cons_succ, val, h2, Int.pow_succ, List.getD_cons_succ]
      generalize l.getD i 0 = y
      generalize B ^ i = P
      generalize val B l = V
      grind
theorem getD_append_left {l m : List Int} {i : Nat} (h : i < l.length) : (l ++ m).getD i 0 = l.getD i 0 := by
  simp [List.getD_eq_getElem?_getD, List.getElem?_append_left h]
theorem set_append_left {l m : List Int} {i : Nat} {v : Int} (h : i < l.length) : (l ++ m).set i v = l.set i v ++ m := by
  rw [List.set_append, if_pos h]
theorem val_take_step (B : Int) (l : List Int) (i : Nat) (h : i < l.length) : val B (l.take (i + 1)) = val B (l.take i) + B ^ i * l[i] := by
  rw [List.take_succ_eq_append_getElem h, val_append]
  simp only [val, List.length_take]
  rw [show min i l.length = i from by omega, Int.mul_zero, Int.add_zero]
theorem wraps_u64 (n : Int) (h0 : 0 ≤ n) (h1 : n < 2 ^ 64) : IntKind.u64.wrap n = n := wu64_of h0 (by omega)
theorem or_u64 {x y : Int} (s : Nat) (hs : s ≤ 64) (hx0 : 0 ≤ x) (hx : x % 2 ^ s = 0) (hx1 : x < 18446744073709551616) (hy0 : 0 ≤ y) (hy : y < 2 ^ s) : Go.bits .or .u64 x y = x + y := by
  have h2 : (2 : Int) ^ s ≤ 2 ^ 64 := pow_mono (by omega) hs
  exact bits_join .u64 64 (by decide) wraps_u64 s x y hx0 hx (by omega) hy0 hy (by omega)
theorem or_comm_u64 {x y : Int} (hx0 : 0 ≤ x) (hx1 : x < 18446744073709551616) (hy0 : 0 ≤ y) (hy1 : y < 18446744073709551616) : Go.bits .or .u64 x y = Go.bits .or .u64 y x := by
  obtain ⟨a, rfl⟩ := Int.eq_ofNat_of_zero_le hx0
  obtain ⟨b, rfl⟩ := Int.eq_ofNat_of_zero_le hy0
  rw [(bits_nat .u64 64 (by decide) wraps_u64 a b (by omega) (by omega)).2, (bits_nat .u64 64 (by decide) wraps_u64 b a (by omega) (by omega)).2, Nat.or_comm]
theorem shl_u64 (x : Int) (s : Nat) (hs : s ≤ 64) : shl .u64 x (s : Int) = (x * 2 ^ s) % 18446744073709551616 := by
  unfold shl
  rw [wu64]
  simp only [IntKind.bits, Int.toNat_natCast]
  rw [show min s 64 = s from by omega]
theorem shr_u64 (x : Int) (s : Nat) (hs : s ≤ 64) : shr .u64 x (s : Int) = x / 2 ^ s := by
  unfold shr
  simp only [IntKind.bits, Int.toNat_natCast]
  rw [show min s 64 = s from by omega]
theorem pow64_split {s : Nat} (hs : s ≤ 64) : (2 : Int) ^ s * 2 ^ (64 - s) = 18446744073709551616 := by
  rw [← Int.pow_add, show s + (64 - s) = 64 from by omega]
  decide
theorem pow2_pos (s : Nat) : (0 : Int) < 2 ^ s := Int.pow_pos (by omega)
theorem shl_facts {x : Int} (hx : 0 ≤ x ∧ x < 18446744073709551616) {s : Nat} (hs : s ≤ 64) :
    (x * 2 ^ s) % 18446744073709551616 + 18446744073709551616 * (x / 2 ^ (64 - s)) = x * 2 ^ s ∧ ((x * 2 ^ s) % 18446744073709551616) % 2 ^ s = 0 ∧ 0 ≤ x / 2 ^ (64 - s) ∧ x / 2 ^ (64 - s) < 2 ^ s := by
  have hp := pow64_split hs
  have h1 := pow2_pos s
  have h2 := pow2_pos (64 - s)
  generalize (2 : Int) ^ s = P at *
  generalize (2 : Int) ^ (64 - s) = Q at *
  have h3 : (x * P) / 18446744073709551616 = x / Q := by
    rw [← hp, Int.mul_comm x P, Int.mul_ediv_mul_of_pos _ _ h1]
  refine ⟨?_, ?_, Int.ediv_nonneg hx.1 (by omega), ?_⟩
  · have := Int.emod_add_mul_ediv (x * P) 18446744073709551616
    rw [h3] at this
    exact this
  · rw [← hp]
    have := Int.mul_emod_mul_of_pos (a := P) x Q h1
    rw [Int.mul_comm x P, this]
    exact Int.mul_emod_right P _
  · apply Int.ediv_lt_of_lt_mul h2
    rw [hp]
    exact hx.2
theorem nat_up_loop (a : List Int) (da : Dig (b64 : Int) a) (ha : a.length ≤ 100000) (s : Nat) (hs : s < 64) (n : Nat) :
    ∀ (i : Nat) (p : List Int) (c : Int), a.length - i = n → i ≤ a.length → p.length = i → Dig (b64 : Int) p → 0 ≤ c ∧ c < 2 ^ s → val (b64 : Int) p + c * (b64 : Int) ^ i = val (b64 : Int) (a.take i) * 2 ^ s →
      ∃ r, Evt (fun k => nat_up.l0 k (s : Int) (p ++ c :: List.replicate n 0) a (a.length : Int) (i : Int)) r ∧ Dig (b64 : Int) r ∧ r.length = a.length + 1 ∧ val (b64 : Int) r = val (b64 : Int) a * 2 ^ s := by
  have hs64 : (2 : Int) ^ s ≤ 2 ^ 63 := pow_mono (by omega) (by omega)
  have hB : (b64 : Int) = 18446744073709551616 := rfl
  induction n with
  | zero =>
    intro i p c hn hi hp dp hc hv
    refine ⟨p ++ [c], ?_, Dig.append.2 ⟨dp, Dig.cons.2 ⟨by rw [hB]; omega, Dig.nil⟩⟩, by simp; omega, ?_⟩
    · refine Evt.succ ?_
      simp only [nat_up.l0]
      exact Evt.ite_neg (by omega) (Evt.pure _)
    · rw [List.take_of_length_le (by omega)] at hv
      rw [val_append, hp]
      simp only [val, Int.mul_zero, Int.add_zero]
      rw [Int.mul_comm ((b64 : Int) ^ i) c]
      exact hv
  | succ n ih =>
    intro i p c hn hi hp dp hc hv
    have hlt : i < a.length := by omega
    have rx := da a[i] (List.getElem_mem hlt)
    rw [hB] at rx
    obtain ⟨f1, f2, f3, f4⟩ := shl_facts rx (s := s) (by omega)
    have f5 : 0 ≤ (a[i] * 2 ^ s) % 18446744073709551616 := by omega
    have f6 : (a[i] * 2 ^ s) % 18446744073709551616 < 18446744073709551616 := by omega
    have hor : Go.bits .or .u64 c ((a[i] * 2 ^ s) % 18446744073709551616) = (a[i] * 2 ^ s) % 18446744073709551616 + c := by
      rw [or_comm_u64 hc.1 (by omega) f5 f6]
      exact or_u64 s (by omega) f5 f2 f6 hc.1 hc.2
    have hlow : (a[i] * 2 ^ s) % 18446744073709551616 + c < 18446744073709551616 := by
      have hp64 := pow64_split (s := s) (by omega)
      have hq := pow2_pos (64 - s)
      have hps := pow2_pos s
      generalize (a[i] * 2 ^ s) % 18446744073709551616 = z at *
      generalize (2 : Int) ^ s = P at *
      generalize (2 : Int) ^ (64 - s) = Q at *
      obtain ⟨t, ht⟩ := Int.dvd_of_emod_eq_zero f2
      subst ht
      have ht2 : t < Q := by
        refine Int.not_le.1 (fun hle => ?_)
        have := Int.mul_le_mul_of_nonneg_left hle (Int.le_of_lt hps)
        omega
      have : P * (t + 1) ≤ P * Q := Int.mul_le_mul_of_nonneg_left (by omega) (by omega)
      rw [Int.mul_add] at this
      omega
    generalize hz : (a[i] * 2 ^ s) % 18446744073709551616 = z at *
    obtain ⟨r, e1, e2, e3, e4⟩ := ih (i + 1) (p ++ [z + c]) (a[i] / 2 ^ (64 - s)) (by omega) (by omega) (by simp; omega) (Dig.append.2 ⟨dp, Dig.cons.2 ⟨by rw [hB]; omega, Dig.nil⟩⟩) ⟨f3, f4⟩ (by
      rw [val_append, hp, val_take_step (b64 : Int) a i hlt, Int.pow_succ]
      simp only [val, Int.mul_zero, Int.add_zero]
      rw [hB]
      rw [hB] at hv
      generalize (18446744073709551616 : Int) ^ i = P at *
      generalize a[i] / 2 ^ (64 - s) = h at *
      generalize val 18446744073709551616 (a.take i) = va at *
      generalize val 18446744073709551616 p = vp at *
      generalize (2 : Int) ^ s = S at *
      generalize a[i] = x at *
      have e : z = x * S - 18446744073709551616 * h := by omega
      rw [e]
      have e2 : vp = va * S - c * P := by omega
      rw [e2]
      grind)
    refine ⟨r, ?_, e2, e3, e4⟩
    refine Evt.succ ?_
    simp only [nat_up.l0]
    have hx : rd a (i : Int) = a[i] := by simp [rd_nat, hlt]
    have hc0 : rd (p ++ c :: List.replicate (n + 1) 0) (i : Int) = c := by
      rw [rd_nat]
      simp [List.getD_eq_getElem?_getD, ← hp]
    refine Evt.ite_pos (by omega) (Evt.ite_pos (by omega) (Evt.ite_pos (by omega) (Evt.ite_pos (by simp; omega) (Evt.ite_pos (by omega) ?_))))
    simp only [Option.bind_some]
    rw [hx, hc0, shl_u64 _ s (by omega), hz, hor, show ((i : Int)).toNat = p.length from by omega, set_at]
    rw [w64 (show -9223372036854775808 ≤ (i : Int) + 1 by omega) (by omega)]
    by_cases h0 : s = 0
    · refine Evt.ite_neg (by omega) ?_
      refine e1.congr (fun k => ?_) rfl
      have e0 : a[i] / 2 ^ (64 - s) = 0 := by
        rw [h0] at f4 f3 ⊢
        simp only [Int.pow_zero] at f4
        omega
      rw [e0, List.append_assoc]
      rfl
    · refine Evt.ite_pos (by omega) (Evt.ite_pos ?_ (Evt.ite_pos (by omega) (Evt.ite_pos (by simp; omega) ?_)))
      · rw [wu64_of (by omega) (by omega)]; omega
      · rw [wu64_of (by omega) (by omega), show (64 : Int) - (s : Int) = ((64 - s : Nat) : Int) from by omega, shr_u64 _ (64 - s) (by omega)]
        refine e1.congr (fun k => ?_) rfl
        have hset : (p ++ (z + c) :: List.replicate (n + 1) 0).set ((i : Int) + 1).toNat (a[i] / 2 ^ (64 - s)) = (p ++ [z + c]) ++ (a[i] / 2 ^ (64 - s)) :: List.replicate n 0 := by
          have e : p ++ (z + c) :: List.replicate (n + 1) 0 = (p ++ [z + c]) ++ 0 :: List.replicate n 0 := by rw [List.append_assoc, List.replicate_succ]; rfl
          rw [e, show ((i : Int) + 1).toNat = (p ++ [z + c]).length from by simp; omega]
          exact set_at _ _ _ _
        rw [hset]
        rfl
theorem nat_up_ev (a : List Int) (da : Dig (b64 : Int) a) (ha : a.length ≤ 100000) (s : Nat) (hs : s < 64) : ∃ r, Evt (fun k => nat_up.f k a (s : Int)) r ∧ Dig (b64 : Int) r ∧ r.length = a.length + 1 ∧ num r = num a * 2 ^ s := by
  obtain ⟨r, e1, e2, e3, e4⟩ := nat_up_loop a da ha s hs a.length 0 [] 0 (by omega) (by omega) rfl Dig.nil ⟨by omega, pow2_pos s⟩ (by simp [val])
  refine ⟨r, ?_, e2, e3, ?_⟩
  · unfold nat_up.f
    rw [w64 (show -9223372036854775808 ≤ (a.length : Int) + 1 by omega) (by omega)]
    refine Evt.ite_pos (by omega) (Evt.ite_pos (by omega) ?_)
    refine e1.congr (fun k => ?_) rfl
    rw [show ((a.length : Int) + 1).toNat = a.length + 1 from by omega, List.nil_append, List.replicate_succ]
    rfl
  · have h1 := num_val e2
    have h2 := num_val da
    have h3 : ((num a * 2 ^ s : Nat) : Int) = (num a : Int) * 2 ^ s := by simp
    rw [e4, ← h2, ← h3] at h1
    omega
end Go.Proofs.Ytgeanpnkllnipaa.Z
end
section
namespace Go.Proofs.Ytgeanpnkllnipaa.Z
open Go.RowKit Go.Proofs.Ytgeanpnkllnipaa.F Go.Proofs.YtgeanpnkllnipaaW.PrintWords
set_option linter.unusedSimpArgs false
set_option linter.unusedVariables false
theorem mask32m {x : Int} (h0 : 0 ≤ x) (h1 : x < 18446744073709551616) : Go.bits .and .u64 x 4294967295 = x % 4294967296 := by
  have h := bits_mask .u64 64 (by decide) wraps_u64 32 (by decide) x h0 (by omega)
  rw [show (2 : Int) ^ 32 = 4294967296 from by decide] at h
  exact h
theorem half_mul {x y : Int} (hx : 0 ≤ x ∧ x < 4294967296) (hy : 0 ≤ y ∧ y < 4294967296) : 0 ≤ x * y ∧ x * y ≤ 18446744065119617025 := by
  refine ⟨Int.mul_nonneg hx.1 hy.1, ?_⟩
  have : x * y ≤ 4294967295 * 4294967295 := Int.mul_le_mul (by omega) (by omega) hy.1 (by omega)
  omega
theorem bits_Mul64_eq {x y : Int} (hx : 0 ≤ x ∧ x < 18446744073709551616) (hy : 0 ≤ y ∧ y < 18446744073709551616) :
    ∃ hi lo : Int, bits_Mul64.f x y = some (hi, lo) ∧ hi * 18446744073709551616 + lo = x * y ∧ (0 ≤ hi ∧ hi < 18446744073709551616) ∧ (0 ≤ lo ∧ lo < 18446744073709551616) := by
  unfold bits_Mul64.f
  have ex : x = x / 4294967296 * 4294967296 + x % 4294967296 := by omega
  have ey : y = y / 4294967296 * 4294967296 + y % 4294967296 := by omega
  have xl : 0 ≤ x % 4294967296 ∧ x % 4294967296 < 4294967296 := by omega
  have yl : 0 ≤ y % 4294967296 ∧ y % 4294967296 < 4294967296 := by omega
  have xh : 0 ≤ x / 4294967296 ∧ x / 4294967296 < 4294967296 := by omega
  have yh : 0 ≤ y / 4294967296 ∧ y / 4294967296 < 4294967296 := by omega
  rw [mask32m hx.1 hx.2, mask32m hy.1 hy.2]
  have p1 := half_mul xh yh
  have p2 := half_mul xh yl
  have p3 := half_mul xl yh
  have p4 := half_mul xl yl
  have e : x * y = (x / 4294967296 * (y / 4294967296)) * 18446744073709551616 + (x / 4294967296 * (y % 4294967296) + x % 4294967296 * (y / 4294967296)) * 4294967296 + x % 4294967296 * (y % 4294967296) := by
    generalize x / 4294967296 = a at *
    generalize x % 4294967296 = b at *
    generalize y / 4294967296 = c at *
    generalize y % 4294967296 = d at *
    subst ex ey
    grind
  rw [e]
  generalize x / 4294967296 * (y / 4294967296) = A at *
  generalize x / 4294967296 * (y % 4294967296) = B at *
  generalize x % 4294967296 * (y / 4294967296) = C at *
  generalize x % 4294967296 * (y % 4294967296) = D at *
  clear e ex ey xl yl xh yh hx hy
  rw [wu64_of (x := A) p1.1 (by omega), wu64_of (x := B) p2.1 (by omega), wu64_of (x := C) p3.1 (by omega), wu64_of (x := D) p4.1 (by omega)]
  rw [wu64_of (x := B + D / 4294967296) (by omega) (by omega)]
  rw [mask32m (x := B + D / 4294967296) (by omega) (by omega)]
  rw [wu64_of (x := (B + D / 4294967296) % 4294967296 + C) (by omega) (by omega)]
  rw [wu64_of (x := A + (B + D / 4294967296) / 4294967296) (by omega) (by omega)]
  rw [wu64_of (x := A + (B + D / 4294967296) / 4294967296 + _) (by omega) (by omega)]
  exact ⟨_, _, rfl, by rw [wu64]; omega, by omega, by rw [wu64]; omega⟩
theorem len8 : ∀ n : Fin 256, bt (⟨#[0, 1, 2, 2, 3, 3, 3, 3, 4, 4, 4, 4, 4, 4, 4, 4, 5, 5, 5, 5, 5, 5, 5, 5, 5, 5, 5, 5, 5, 5, 5, 5, 6, 6, 6, 6, 6, 6, 6, 6, 6, 6, 6, 6, 6, 6, 6, 6, 6, 6, 6, 6, 6, 6, 6, 6, 6, 6, 6, 6, 6, 6, 6, 6, 7, 7, 7, 7, 7, 7, 7, 7, 7, 7, 7, 7, 7, 7, 7, 7, 7, 7, 7, 7, 7, 7, 7, 7, 7, 7, 7, 7, 7, 7, 7, 7, 7, 7, 7, 7, 7, 7, 7, 7, 7, 7, 7, 7, 7, 7, 7, 7, 7, 7, 7, 7, 7, 7, 7, 7, 7, 7, 7, 7, 7, 7, 7, 7, 8, 8, 8, 8, 8, 8, 8, 8, 8, 8, 8, 8, 8, 8, 8, 8, 8, 8, 8, 8, 8, 8, 8, 8, 8, 8, 8, 8, 8, 8, 8, 8, 8, 8, 8, 8, 8, 8, 8, 8, 8, 8, 8, 8, 8, 8, 8, 8, 8, 8, 8, 8, 8, 8, 8, 8, 8, 8, 8, 8, 8, 8, 8, 8, 8, 8, 8, 8, 8, 8, 8, 8, 8, 8, 8, 8, 8, 8, 8, 8, 8, 8, 8, 8, 8, 8, 8, 8, 8, 8, 8, 8, 8, 8, 8, 8, 8, 8, 8, 8, 8, 8, 8, 8, 8, 8, 8, 8, 8, 8, 8, 8, 8, 8, 8, 8, 8, 8, 8, 8, 8, 8, 8, 8, 8, 8, 8, 8]⟩ : ByteArray) ((n.val : Nat) : Int) = ((bl n.val : Nat) : Int) := by decide +kernel
theorem len8_at {x : Int} (h0 : 0 ≤ x) (h1 : x < 256) : bt (⟨#[0, 1, 2, 2, 3, 3, 3, 3, 4, 4, 4, 4, 4, 4, 4, 4, 5, 5, 5, 5, 5, 5, 5, 5, 5, 5, 5, 5, 5, 5, 5, 5, 6, 6, 6, 6, 6, 6, 6, 6, 6, 6, 6, 6, 6, 6, 6, 6, 6, 6, 6, 6, 6, 6, 6, 6, 6, 6, 6, 6, 6, 6, 6, 6, 7, 7, 7, 7, 7, 7, 7, 7, 7, 7, 7, 7, 7, 7, 7, 7, 7, 7, 7, 7, 7, 7, 7, 7, 7, 7, 7, 7, 7, 7, 7, 7, 7, 7, 7, 7, 7, 7, 7, 7, 7, 7, 7, 7, 7, 7, 7, 7, 7, 7, 7, 7, 7, 7, 7, 7, 7, 7, 7, 7, 7, 7, 7, 7, 8, 8, 8, 8, 8, 8, 8, 8, 8, 8, 8, 8, 8, 8, 8, 8, 8, 8, 8, 8, 8, 8, 8, 8, 8, 8, 8, 8, 8, 8, 8, 8, 8, 8, 8, 8, 8, 8, 8, 8, 8, 8, 8, 8, 8, 8, 8, 8, 8, 8, 8, 8, 8, 8, 8, 8, 8, 8, 8, 8, 8, 8, 8, 8, 8, 8, 8, 8, 8, 8, 8, 8, 8, 8, 8, 8, 8, 8, 8, 8, 8, 8, 8, 8, 8, 8, 8, 8, 8, 8, 8, 8, 8, 8, 8, 8, 8, 8, 8, 8, 8, 8, 8, 8, 8, 8, 8, 8, 8, 8, 8, 8, 8, 8, 8, 8, 8, 8, 8, 8, 8, 8, 8, 8, 8, 8, 8, 8]⟩ : ByteArray) x = ((bl x.toNat : Nat) : Int) := by
  obtain ⟨n, rfl⟩ := Int.eq_ofNat_of_zero_le h0
  exact len8 ⟨n, by omega⟩
set_option maxRecDepth 100000 in
theorem len64_j {x : Int} (h0 : 0 ≤ x) (h1 : x < 4294967296) (c : Int) (hc : 0 ≤ c ∧ c ≤ 1000) : Evt (fun k => bits_Len64.j0 k x c) (c + ((bl x.toNat : Nat) : Int)) := by
  have key : ∀ (s : Nat) (y : Int), 0 ≤ y → y < 256 → (s ≤ 24) → (y = 0 → s = 0) → y = x / 2 ^ s → ((bl x.toNat : Nat) : Int) = (s : Int) + ((bl y.toNat : Nat) : Int) := by
    intro s y hy0 hy1 hs hz he
    have : bl x.toNat = s + bl y.toNat := by
      by_cases h : y = 0
      · have hs0 := hz h
        subst hs0
        simp at he
        rw [he, Nat.zero_add]
      · have e : y.toNat = x.toNat / 2 ^ s := by
          rw [he]
          have h2 : x = ((x.toNat : Nat) : Int) := by omega
          rw [h2]
          have h3 : ((2 : Int) ^ s) = ((2 ^ s : Nat) : Int) := by simp
          rw [h3, ← Int.natCast_ediv, Int.toNat_natCast, Int.toNat_natCast]
        rw [e]
        exact bl_shift x.toNat s (by rw [← e]; omega)
    omega
  refine Evt.succ ?_
  simp only [bits_Len64.j0]
  by_cases c1 : x ≥ 65536
  · refine Evt.ite_pos c1 ?_
    by_cases c2 : x / 65536 ≥ 256
    · refine Evt.ite_pos c2 (Evt.ite_pos (by omega) (Evt.ite_pos (by omega) ?_))
      have e : x / 65536 / 256 % 256 = x / 65536 / 256 := by omega
      rw [e, len8_at (by omega) (by omega)]
      have k1 := key 24 (x / 65536 / 256) (by omega) (by omega) (by omega) (by omega) (by rw [Int.ediv_ediv_of_nonneg (by omega)]; rfl)
      have k2 := bl_le8 (x := (x / 65536 / 256).toNat) (by omega)
      rw [w64 (show -9223372036854775808 ≤ c + 16 by omega) (by omega), w64 (show -9223372036854775808 ≤ c + 16 + 8 by omega) (by omega), w64 (show -9223372036854775808 ≤ ((bl (x / 65536 / 256).toNat : Nat) : Int) by omega) (by omega), w64 (by omega) (by omega), k1]
      refine (Evt.pure _).congr (fun k => rfl) (by omega)
    · refine Evt.ite_neg c2 (Evt.ite_pos (by omega) (Evt.ite_pos (by omega) ?_))
      have e : x / 65536 % 256 = x / 65536 := by omega
      rw [e, len8_at (by omega) (by omega)]
      have k1 := key 16 (x / 65536) (by omega) (by omega) (by omega) (by omega) rfl
      have k2 := bl_le8 (x := (x / 65536).toNat) (by omega)
      rw [w64 (show -9223372036854775808 ≤ c + 16 by omega) (by omega), w64 (show -9223372036854775808 ≤ ((bl (x / 65536).toNat : Nat) : Int) by omega) (by omega), w64 (by omega) (by omega), k1]
      refine (Evt.pure _).congr (fun k => rfl) (by omega)
  · refine Evt.ite_neg c1 ?_
    by_cases c2 : x ≥ 256
    · refine Evt.ite_pos c2 (Evt.ite_pos (by omega) (Evt.ite_pos (by omega) ?_))
      have e : x / 256 % 256 = x / 256 := by omega
      rw [e, len8_at (by omega) (by omega)]
      have k1 := key 8 (x / 256) (by omega) (by omega) (by omega) (by omega) rfl
      have k2 := bl_le8 (x := (x / 256).toNat) (by omega)
      rw [w64 (show -9223372036854775808 ≤ c + 8 by omega) (by omega), w64 (show -9223372036854775808 ≤ ((bl (x / 256).toNat : Nat) : Int) by omega) (by omega), w64 (by omega) (by omega), k1]
      refine (Evt.pure _).congr (fun k => rfl) (by omega)
    · refine Evt.ite_neg c2 (Evt.ite_pos (by omega) (Evt.ite_pos (by omega) ?_))
      have e : x % 256 = x := by omega
      rw [e, len8_at (by omega) (by omega)]
      have k2 := bl_le8 (x := x.toNat) (by omega)
      rw [w64 (show -9223372036854775808 ≤ ((bl x.toNat : Nat) : Int) by omega) (by omega), w64 (by omega) (by omega)]
      exact Evt.pure _
theorem bits_Len64_ev {x : Int} (h0 : 0 ≤ x) (h1 : x < 18446744073709551616) : Evt (fun k => bits_Len64.f k x) ((bl x.toNat : Nat) : Int) := by
  unfold bits_Len64.f
  by_cases c1 : x ≥ 4294967296
  · refine Evt.ite_pos c1 ?_
    refine (len64_j (x := x / 4294967296) (by omega) (by omega) 32 (by omega)).congr (fun k => rfl) ?_
    have e : (x / 4294967296).toNat = x.toNat / 2 ^ 32 := by omega
    have := bl_shift x.toNat 32 (by omega)
    rw [e]
    omega
  · refine Evt.ite_neg c1 ?_
    exact (len64_j (x := x) (by omega) (by omega) 0 (by omega)).congr (fun k => rfl) (by omega)
end Go.Proofs.Ytgeanpnkllnipaa.Z
end
section
namespace Go.Proofs.Ytgeanpnkllnipaa.F
open Go.RowKit Go.Proofs.YtgeanpnkllnipaaW.PrintWords Go.Proofs.YtgeanpnkllnipaaW.PrintLast Go.Proofs.YtgeanpnkllnipaaW.PrintMore
attribute [local go_sem] max2_int min2_int max_two min_two max_three min_three max_four min_four
set_option linter.unusedVariables false
set_option linter.unusedSimpArgs false
attribute [local go_sem] add64_run
mutual
def nat_school.l0 : Nat → List Int → List Int → List Int → Int → Int → Option (List Int)
 | 0, _, _, _, _, _ => none
 | k + 1, x1, x5, x20, x21, x22 => if x22 < x21 then (if 0 ≤ x22 then (if x22 < (x20.length : Int) then (nat_school.l1 k x1 x5 x22 (rd x20 x22) 0 x20 x21 x22 x1 (x1.length : Int) 0) else (none)) else (none)) else ((nat_trim.f k x5).bind fun t373 => (some t373))
def nat_school.l1 : Nat → List Int → List Int → Int → Int → Int → List Int → Int → Int → List Int → Int → Int → Option (List Int)
 | 0, _, _, _, _, _, _, _, _, _, _, _ => none
 | k + 1, x1, x5, x6, x7, x8, x20, x21, x22, x27, x28, x29 => if x29 < x28 then (if 0 ≤ x29 then (if x29 < (x27.length : Int) then ((bits_Mul64.f x7 (rd x27 x29)).bind fun bt378 => (if 0 ≤ (wrap64 (x6 + x29)) then (if (wrap64 (x6 + x29)) < (x5.length : Int) then (if carry01 0 = true then (nat_school.l1 k x1 (x5.set ((wrap64 (x6 + x29)) : Int).toNat (add64_s (add64_s bt378.2 (rd x5 (wrap64 (x6 + x29))) 0) x8 0)) x6 x7 (IntKind.u64.wrap ((IntKind.u64.wrap (bt378.1 + (add64_c bt378.2 (rd x5 (wrap64 (x6 + x29))) 0))) + (add64_c (add64_s bt378.2 (rd x5 (wrap64 (x6 + x29))) 0) x8 0))) x20 x21 x22 x27 x28 (wrap64 (x29 + 1))) else (none)) else (none)) else (none))) else (none)) else (none)) else (if 0 ≤ (wrap64 (x6 + (x1.length : Int))) then (if (wrap64 (x6 + (x1.length : Int))) < (x5.length : Int) then (nat_school.l0 k x1 (x5.set ((wrap64 (x6 + (x1.length : Int))) : Int).toNat x8) x20 x21 (wrap64 (x22 + 1))) else (none)) else (none))
end
def nat_school.f (k : Nat) (l0 : List Int) (l1 : List Int) : Option (List Int) := if 0 ≤ (wrap64 ((l0.length : Int) + (l1.length : Int))) then (if (wrap64 ((l0.length : Int) + (l1.length : Int)) : Int).toNat ≤ 35184372088832 then (nat_school.l0 k l1 (List.replicate (wrap64 ((l0.length : Int) + (l1.length : Int)) : Int).toNat 0) l0 (l0.length : Int) 0) else (none)) else (none)
set_option maxHeartbeats 8000000 in
set_option maxRecDepth 100000 in
theorem nat_school.calls (k : Nat) (A0 : Option Addr) (c0 : Nat) (l0 : List Int) (A1 : Option Addr) (c1 : Nat) (l1 : List Int) (r : List Int) (w : World) (hr0 : Kd.C (Kd.int .u64) w A0 l0.length l0) (hc0 : l0.length ≤ c0) (hr1 : Kd.C (Kd.int .u64) w A1 l1.length l1) (hc1 : l1.length ≤ c1) (h : nat_school.f k l0 l1 = some r) :
  Calls Try.prog 103 #[.slice A0 l0.length c0, .slice A1 l1.length c1] w fun e w' => ∃ v0_ : Value, e = .returned (v0_) ∧ Kd.R (Kd.int .u64) 47 w' w.heap.size (fun _ => True) v0_ r ∧ Below w.heap.size w w' := by
 have HR0 := Aside0.mk hr0; have HC0 := Aside0.mk hc0; clear hr0 hc0; have HR1 := Aside0.mk hr1; have HC1 := Aside0.mk hc1; clear hr1 hc1
 have HB := Aside0.mk (Below.refl w.heap.size w)
 have H : (if 0 ≤ (wrap64 ((l0.length : Int) + (l1.length : Int))) then (if (wrap64 ((l0.length : Int) + (l1.length : Int)) : Int).toNat ≤ 35184372088832 then (nat_school.l0 k l1 (List.replicate (wrap64 ((l0.length : Int) + (l1.length : Int)) : Int).toNat 0) l0 (l0.length : Int) 0) else (none)) else (none)) = some r := h
 clear h
 obtain ⟨ji3, hji3⟩ : ∃ j_ : Int, (wrap64 ((l0.length : Int) + (l1.length : Int))) = j_ := ⟨_, rfl⟩
 first | rw [hji3] at H | simp only [hji3] at H
 have hji3w : (IntKind.i64.wrap ((l0.length : Int) + (l1.length : Int))) = ji3 := (i64_w _).trans hji3
 replace H := uT H; obtain ⟨c4, H⟩ := H
 have c4b0 := eq_true c4
 have c4b1 : decide (0 ≤ (ji3)) = true := decide_eq_true c4
 clear c4
 replace H := uT H; obtain ⟨c5, H⟩ := H
 have c5b0 := eq_true c5
 have c5b1 : decide ((ji3 : Int).toNat ≤ 35184372088832) = true := decide_eq_true c5
 clear c5
 obtain ⟨y370, hy370⟩ : ∃ y_ : List Int, y_ = (List.replicate (ji3 : Int).toNat 0) := ⟨_, rfl⟩
 replace H : (nat_school.l0 k l1 y370 l0 (l0.length : Int) 0) = some r := by first | (rw [hy370]; with_reducible exact H) | (have H2_ := (Option.bind_some _ _).symm.trans H; rw [hy370]; with_reducible exact H2_) | (have H2_ := (Option.bind_some _ _).symm.trans H; with_reducible exact H2_) | with_reducible exact H | (rw [hy370]; exact H) | exact H
 have Ny370 := Aside0.mk hy370; clear hy370
 have H' := Aside0.mk H
 clear H
 go_enter Try.func103, Try.ntmps103
 go_wp2_with (first | ((with_reducible refine gate_dst (N := 19) rfl ?_); refine Kd.R_make (Kd.int .u64) _ 47 rfl (N := 19) rfl 29 _ _ rfl ji3 rfl rfl Try.underlying29 (.int .u64 0) 8 info47 rfl (by decide) (by omega) 0 (ok := fun _ => True) (okp := fun _ => True) rfl (fun _ hk => hk) trivial uO (Nat.le_trans (Nat.mul_le_mul_right _ (uO : ji3.toNat ≤ 35184372088832)) (by omega)) (Below.refl _ _) (Nat.le_refl _) ?_; intro v371 w6 ho7 hb hg_ hnew_; clear hg_ hnew_; (first | rw [← Ny370.out] at ho7 | (simp only [Int.reduceToNat] at ho7; rw [← Ny370.out] at ho7)); have HO372 := Aside0.mk (Kd.R_lower ho7 (below_size uB)); replace HB := uy hb; clear hb ho7))
 go_loopg [22] k (fun kq v22 w' => ∃ (x5_1 : List Int) (x22_1 : Int), v22 = .int .i64 x22_1 ∧ Aside0 (nat_school.l0 kq l1 x5_1 l0 (l0.length : Int) x22_1 = some r) ∧ Aside0 (kq ≤ k) ∧ Aside0 (Kd.R (Kd.int .u64) 47 w' w.heap.size (fun _ => True) v371 x5_1) ∧ Aside0 (Below w.heap.size w w'))
 case atStart => exact ⟨(y370), (0), uG, H', ⟨Nat.le_refl _⟩, ⟨uR HO372.out⟩, ⟨uB⟩⟩
 case round =>
  clear H'
  (try clear c1); (try clear p2); (try clear c4); (try clear c4b0); (try clear c4b1); (try clear c5); (try clear c5b0); (try clear c5b1); (try clear p6)
  obtain ⟨x5_1, x22_1, rfl, HA, HK1, HO_5, HB⟩ := hrel
  cases gk with
  | zero => exact absurd HA.out (by simp [nat_school.l0])
  | succ k1 =>
   have H := HA.out
   clear HA
   simp only [nat_school.l0] at H
   by_cases c8 : x22_1 < (l0.length : Int)
   ·
    rw [if_pos c8] at H
    have c8b0 : decide (x22_1 < (l0.length : Int)) = true := decide_eq_true c8
    clear c8
    replace H := uT H; obtain ⟨c9, H⟩ := H
    have c9b0 : decide (0 ≤ x22_1) = true := decide_eq_true c9
    clear c9
    replace H := uT H; obtain ⟨c10, H⟩ := H
    have c10b0 : decide (x22_1 < (l0.length : Int)) = true := decide_eq_true c10
    clear c10
    have H' := Aside0.mk H
    clear H
    have p376 : 0 ≤ (x22_1 : Int) := uO
    have q376 : x22_1 < (l0.length : Int) := uO
    obtain ⟨ad376, e376, hx376_0⟩ := Kd.at_int HR0.out x22_1 p376 q376
    cases e376
    replace hx376_0 := (HB.out.cell (World.block_lt_of_cell? w _ hx376_0)).trans hx376_0
    replace p376 := eq_true p376
    replace q376 := eq_true q376
    go_wp2
    go_loopg [8, 29] k1 (fun kq v8 v29 w' => ∃ (x5_2 : List Int) (x8_2 : Int) (x29_2 : Int), v8 = .int .u64 x8_2 ∧ v29 = .int .i64 x29_2 ∧ Aside0 (nat_school.l1 kq l1 x5_2 x22_1 (rd l0 x22_1) x8_2 l0 (l0.length : Int) x22_1 l1 (l1.length : Int) x29_2 = some r) ∧ Aside0 (kq ≤ k1) ∧ Aside0 (Kd.R (Kd.int .u64) 47 w' w.heap.size (fun _ => True) v371 x5_2) ∧ Aside0 (Below w.heap.size w w'))
    case atStart => exact ⟨(x5_1), (0), (0), uG, uG, H', ⟨Nat.le_refl _⟩, ⟨uR HO_5.out⟩, ⟨uB⟩⟩
    case round =>
     clear H'
     (try clear c1); (try clear p2 p2); (try clear p3); (try clear q3); (try clear hx3); (try clear c4); (try clear c4b0); (try clear c4b1); (try clear c5); (try clear c5b0); (try clear c5b1); (try clear p6 p6); (try clear c8); (try clear c8b0); (try clear c9); (try clear c9b0); (try clear c10); (try clear c10b0); (try clear hx376_0); (try clear p376); (try clear q376)
     obtain ⟨x5_2, x8_2, x29_2, rfl, rfl, HA, HK2, HO_5, HB⟩ := hrel
     cases gk with
     | zero => exact absurd HA.out (by simp [nat_school.l1])
     | succ k2 =>
      have H := HA.out
      clear HA
      simp only [nat_school.l1] at H
      by_cases c11 : x29_2 < (l1.length : Int)
      ·
       rw [if_pos c11] at H
       have c11b0 : decide (x29_2 < (l1.length : Int)) = true := decide_eq_true c11
       clear c11
       replace H := uT H; obtain ⟨c12, H⟩ := H
       have c12b0 : decide (0 ≤ x29_2) = true := decide_eq_true c12
       clear c12
       replace H := uT H; obtain ⟨c13, H⟩ := H
       have c13b0 : decide (x29_2 < (l1.length : Int)) = true := decide_eq_true c13
       clear c13
       replace H := ub H; obtain ⟨⟨t378, t379⟩, A14, H⟩ := H
       (try dsimp only at H)
       obtain ⟨ji15, hji15⟩ : ∃ j_ : Int, (wrap64 (x22_1 + x29_2)) = j_ := ⟨_, rfl⟩
       first | rw [hji15] at H | simp only [hji15] at H
       (try rw [hji15] at A14)
       have hji15w : (IntKind.i64.wrap (x22_1 + x29_2)) = ji15 := (i64_w _).trans hji15
       replace H := uT H; obtain ⟨c16, H⟩ := H
       have c16b0 : decide (0 ≤ (ji15)) = true := decide_eq_true c16
       clear c16
       replace H := uT H; obtain ⟨c17, H⟩ := H
       have c17b0 : decide ((ji15) < (x5_2.length : Int)) = true := decide_eq_true c17
       clear c17
       replace H := uT H; obtain ⟨c18, H⟩ := H
       have c18b0 : carry01 0 = true := c18
       clear c18
       obtain ⟨y381, hy381⟩ : ∃ y_ : List Int, y_ = (x5_2.set ((ji15) : Int).toNat (add64_s (add64_s t379 (rd x5_2 (ji15)) 0) x8_2 0)) := ⟨_, rfl⟩
       replace H : (nat_school.l1 k2 l1 y381 x22_1 (rd l0 x22_1) (IntKind.u64.wrap ((IntKind.u64.wrap (t378 + (add64_c t379 (rd x5_2 (ji15)) 0))) + (add64_c (add64_s t379 (rd x5_2 (ji15)) 0) x8_2 0))) l0 (l0.length : Int) x22_1 l1 (l1.length : Int) (wrap64 (x29_2 + 1))) = some r := by first | (rw [hy381]; with_reducible exact H) | (have H2_ := (Option.bind_some _ _).symm.trans H; rw [hy381]; with_reducible exact H2_) | (have H2_ := (Option.bind_some _ _).symm.trans H; with_reducible exact H2_) | with_reducible exact H | (rw [hy381]; exact H) | exact H
       have Ny381 := Aside0.mk hy381; clear hy381
       have H' := Aside0.mk H
       clear H
       have p377 : 0 ≤ (x29_2 : Int) := uO
       have q377 : x29_2 < (l1.length : Int) := uO
       obtain ⟨ad377, e377, hx377_0⟩ := Kd.at_int HR1.out x29_2 p377 q377
       cases e377
       replace hx377_0 := (HB.out.cell (World.block_lt_of_cell? w _ hx377_0)).trans hx377_0
       replace p377 := eq_true p377
       replace q377 := eq_true q377
       go_wp2_with (first | ((with_reducible refine gate_callee (f := 112) rfl ?_); refine goesL_ (some 37) rfl rfl Try.func112 (by kernel_rfl) rfl #[.int .u64 (rd l0 x22_1), .int .u64 (rd l1 x29_2)] rfl uM ?_; (with_reducible refine (bits_Mul64.calls (rd l0 x22_1) (rd l1 x29_2) t378 t379 _ A14.out).mono ?_); rintro e w' ⟨rfl, ⟨nd, rfl⟩⟩; refine ⟨_, rfl, ?_⟩; (try (rw [drewN_self wr]; generalize hq_ : World.drewN wr _ = wr; replace HO_5 : Aside0 (Kd.R (Kd.int .u64) 47 wr w.heap.size (fun _ => True) v371 x5_2) := ⟨by rw [← hq_]; exact (uR HO_5.out)⟩; replace HB : Aside0 (Below w.heap.size w wr) := ⟨by rw [← hq_]; exact uB⟩; clear hq_)); obtain ⟨Ao20, co20, eo20⟩ := Kd.R_slice HO_5.out; subst eo20; have p380 : 0 ≤ ((ji15) : Int) := uO; have q380 : (ji15) < (x5_2.length : Int) := uO; obtain ⟨ad380, e380, hx380_0⟩ := Kd.at_int (Kd.R_reads' HO_5.out).2.2 (ji15) p380 q380; cases e380; replace p380 := eq_true p380; replace q380 := eq_true q380; have p19 : 0 ≤ ((ji15) : Int) := uO; have q19 : ((ji15) : Int) < ((x5_2.length : Int) : Int) := uO; obtain ⟨go19, co19, eo19, gb19, gl19, cl19, HG19⟩ := Kd.R_form HO_5.out (by omega); (first | cases eo19 | (injection eo19 with ea_ en_ ec_; (first | subst ea_ | (injection ea_ with ea_; subst ea_)); subst ec_; clear en_)); have GB19 := Aside0.mk gb19; have GG19 := Aside0.mk HG19; clear gb19 gl19 HG19; (first | simp only [add_plain] at hx380_0 | skip); obtain ⟨hx19_0, hf19_0⟩ := Kd.R_celln 0 HO_5.out ((ji15) : Int) p19 q19; replace p19 := eq_true p19; replace q19 := eq_true q19; obtain ⟨hy21_, hz21_⟩ := Kd.R_celln 0 HO_5.out ((ji15) : Int) uO uO; have HP21 := Kd.R_putg HO_5.out ((ji15) : Int) (add64_s (add64_s t379 (rd x5_2 (ji15)) 0) x8_2 0)) | ((with_reducible refine gate_store (t := 47) (p := 68) rfl ?_); refine store_event (t := 47) (p := 68) (v := ?vo_w22) (w1 := (wr.setCell ⟨go19, ((ji15) : Int).toNat, none⟩ (.int .u64 (add64_s (add64_s t379 (rd x5_2 (ji15)) 0) x8_2 0)))) ?hg ?ho ?hn ?hr ?_; (case ho => rfl); (case hg => rfl); (case hn => rfl); (case hr => first | (go_simp; done) | (go_simp; rfl) | (obtain ⟨hy_, hz_⟩ := Kd.R_celln 0 HO_5.out ((ji15) : Int) uO uO; (try simp only [Go.IntWalk.toNatUp] at hy_ hz_); (try simp only [Int.reduceToNat, Int.toNat_zero, Int.toNat_ofNat] at hy_ hz_); first | (go_simp; done) | (go_simp; rfl))); intro w22 hw; have hg : wr.grownBy w22 (some go19) := (by rw [hw]; exact HP21.2); have hp_ : Kd.R (Kd.int .u64) 47 w22 w.heap.size (fun _ => True) (.slice (some ⟨go19, 0, none⟩) x5_2.length co20) y381 := (by rw [hw, Ny381.out]; exact HP21.1); clear HP21; replace HO_5 := Aside0.mk (hp_); replace HB := Aside0.mk ((by rw [hw]; exact below_set (HB.out) GB19.out : Below w.heap.size w w22)); clear hg hw hp_))
       first | go_roundg k2 | ((try simp only [← hji15] at H'); simp only [← hji15]; go_roundg k2) | ((try simp only [← hji3] at H'); simp only [← hji3]; go_roundg k2)
       case measure => have := HK1.out; have := HK2.out; omega
       case rel => first | exact ⟨(y381), (IntKind.u64.wrap ((IntKind.u64.wrap (t378 + (add64_c t379 (rd x5_2 (ji15)) 0))) + (add64_c (add64_s t379 (rd x5_2 (ji15)) 0) x8_2 0))), (wrap64 (x29_2 + 1)), (by first | rfl | (simp; done) | (simp only [← hji15] <;> (first | rfl | simp)) | (simp [*]; done)), uG, H', ⟨by have := HK1.out; have := HK2.out; omega⟩, ⟨uR HO_5.out⟩, ⟨uB⟩⟩ | (simp only [← hji15] at H'; exact ⟨(y381), (IntKind.u64.wrap ((IntKind.u64.wrap (t378 + (add64_c t379 (rd x5_2 (ji15)) 0))) + (add64_c (add64_s t379 (rd x5_2 (ji15)) 0) x8_2 0))), (wrap64 (x29_2 + 1)), (by first | rfl | (simp; done) | (simp only [← hji15] <;> (first | rfl | simp)) | (simp [*]; done)), uG, H', ⟨by have := HK1.out; have := HK2.out; omega⟩, ⟨uR HO_5.out⟩, ⟨uB⟩⟩) | (simp only [← hji3] at H'; exact ⟨(y381), (IntKind.u64.wrap ((IntKind.u64.wrap (t378 + (add64_c t379 (rd x5_2 (ji15)) 0))) + (add64_c (add64_s t379 (rd x5_2 (ji15)) 0) x8_2 0))), (wrap64 (x29_2 + 1)), (by first | rfl | (simp; done) | (simp only [← hji15] <;> (first | rfl | simp)) | (simp [*]; done)), uG, H', ⟨by have := HK1.out; have := HK2.out; omega⟩, ⟨uR HO_5.out⟩, ⟨uB⟩⟩)
      rw [if_neg c11] at H
      have c11b0 : decide (x29_2 < (l1.length : Int)) = false := decide_eq_false c11
      clear c11
      obtain ⟨ji23, hji23⟩ : ∃ j_ : Int, (wrap64 (x22_1 + (l1.length : Int))) = j_ := ⟨_, rfl⟩
      first | rw [hji23] at H | simp only [hji23] at H
      have hji23w : (IntKind.i64.wrap (x22_1 + (l1.length : Int))) = ji23 := (i64_w _).trans hji23
      replace H := uT H; obtain ⟨c24, H⟩ := H
      have c24b0 : decide (0 ≤ (ji23)) = true := decide_eq_true c24
      clear c24
      replace H := uT H; obtain ⟨c25, H⟩ := H
      have c25b0 : decide ((ji23) < (x5_2.length : Int)) = true := decide_eq_true c25
      clear c25
      obtain ⟨y382, hy382⟩ : ∃ y_ : List Int, y_ = (x5_2.set ((ji23) : Int).toNat x8_2) := ⟨_, rfl⟩
      replace H : (nat_school.l0 k2 l1 y382 l0 (l0.length : Int) (wrap64 (x22_1 + 1))) = some r := by first | (rw [hy382]; with_reducible exact H) | (have H2_ := (Option.bind_some _ _).symm.trans H; rw [hy382]; with_reducible exact H2_) | (have H2_ := (Option.bind_some _ _).symm.trans H; with_reducible exact H2_) | with_reducible exact H | (rw [hy382]; exact H) | exact H
      have Ny382 := Aside0.mk hy382; clear hy382
      have H' := Aside0.mk H
      clear H
      have p26 : 0 ≤ ((ji23) : Int) := uO
      have q26 : ((ji23) : Int) < ((x5_2.length : Int) : Int) := uO
      obtain ⟨go26, co26, eo26, gb26, gl26, cl26, HG26⟩ := Kd.R_form HO_5.out (by omega)
      (first | cases eo26 | (injection eo26 with ea_ en_ ec_; (first | subst ea_ | (injection ea_ with ea_; subst ea_)); subst ec_; clear en_))
      have GB26 := Aside0.mk gb26; have GG26 := Aside0.mk HG26; clear gb26 gl26 HG26
      obtain ⟨hx26_0, hf26_0⟩ := Kd.R_celln 0 HO_5.out ((ji23) : Int) p26 q26
      replace p26 := eq_true p26
      replace q26 := eq_true q26
      have HP27 := Kd.R_putg HO_5.out ((ji23) : Int) x8_2
      go_wp2_with (first | ((with_reducible refine gate_store (t := 47) (p := 76) rfl ?_); refine store_event (t := 47) (p := 76) (v := ?vo_w28) (w1 := (wr.setCell ⟨go26, ((ji23) : Int).toNat, none⟩ (.int .u64 x8_2))) ?hg ?ho ?hn ?hr ?_; (case ho => rfl); (case hg => rfl); (case hn => rfl); (case hr => first | (go_simp; done) | (go_simp; rfl) | (obtain ⟨hy_, hz_⟩ := Kd.R_celln 0 HO_5.out ((ji23) : Int) uO uO; (try simp only [Go.IntWalk.toNatUp] at hy_ hz_); (try simp only [Int.reduceToNat, Int.toNat_zero, Int.toNat_ofNat] at hy_ hz_); first | (go_simp; done) | (go_simp; rfl))); intro w28 hw; have hg : wr.grownBy w28 (some go26) := (by rw [hw]; exact HP27.2); have hp_ : Kd.R (Kd.int .u64) 47 w28 w.heap.size (fun _ => True) (.slice (some ⟨go26, 0, none⟩) x5_2.length co26) y382 := (by rw [hw, Ny382.out]; exact HP27.1); clear HP27; replace HO_5 := Aside0.mk (hp_); replace HB := Aside0.mk ((by rw [hw]; exact below_set (HB.out) GB26.out : Below w.heap.size w w28)); clear hg hw hp_))
      first | go_roundg k2 | ((try simp only [← hji23] at H'); simp only [← hji23]; go_roundg k2) | ((try simp only [← hji15] at H'); simp only [← hji15]; go_roundg k2) | ((try simp only [← hji3] at H'); simp only [← hji3]; go_roundg k2)
      case measure => have := HK1.out; have := HK2.out; omega
      case rel => first | exact ⟨(y382), (wrap64 (x22_1 + 1)), uG, H', ⟨by have := HK1.out; have := HK2.out; omega⟩, ⟨uR HO_5.out⟩, ⟨uB⟩⟩ | (simp only [← hji23] at H'; exact ⟨(y382), (wrap64 (x22_1 + 1)), uG, H', ⟨by have := HK1.out; have := HK2.out; omega⟩, ⟨uR HO_5.out⟩, ⟨uB⟩⟩) | (simp only [← hji15] at H'; exact ⟨(y382), (wrap64 (x22_1 + 1)), uG, H', ⟨by have := HK1.out; have := HK2.out; omega⟩, ⟨uR HO_5.out⟩, ⟨uB⟩⟩) | (simp only [← hji3] at H'; exact ⟨(y382), (wrap64 (x22_1 + 1)), uG, H', ⟨by have := HK1.out; have := HK2.out; omega⟩, ⟨uR HO_5.out⟩, ⟨uB⟩⟩)
   rw [if_neg c8] at H
   have c8b0 : decide (x22_1 < (l0.length : Int)) = false := decide_eq_false c8
   clear c8
   replace H := ub H; obtain ⟨t373, A29, H⟩ := H
   obtain rfl := Option.some.inj H
   obtain ⟨Ao30, co30, eo30⟩ := Kd.R_slice HO_5.out
   subst eo30
   go_wp2_with (first | ((with_reducible refine gate_callee (f := 87) rfl ?_); refine goesL_ (some 79) rfl rfl Try.func87 (by kernel_rfl) rfl #[.slice Ao30 x5_1.length co30] rfl uM ?_; (with_reducible refine (nat_trim.calls k1 (fun k_ => some k_ = (.slice Ao30 x5_1.length co30 : Value).ownBlock) (.slice Ao30 x5_1.length co30) x5_1 t373 w _ ?side1 ?side2 A29.out).mono ?_); (case side1 => repeat (first | (with_reducible first | exact HB.out | apply below_alloc | apply pw_below_drewN | apply below_drew1) | exact HB.out)); (case side2 => exact Kd.R_tight rfl HO_5.out); rintro e w31 ⟨v374, rfl, ho0, hb, hkp⟩; refine ⟨_, rfl, ?_⟩; have HO375 := Aside0.mk (Kd.R_mono (ok' := fun k_ => True) ho0 (fun k_ hk_ => trivial)); replace HB := Aside0.mk (hb); clear HO_5; (try clear hb); (try clear hkp); (try clear ho0)))
   go_ret
   exact ⟨_, by first | rfl | (simp [errW_none, errW_some] <;> rfl) | (simp only [← hji3]; first | rfl | (simp [errW_none, errW_some] <;> rfl)) | (simp [*, errW_none, errW_some] <;> rfl), uR HO375.out, uB⟩
end Go.Proofs.Ytgeanpnkllnipaa.F
end
section
namespace Go.Proofs.Ytgeanpnkllnipaa.Z
open Go.RowKit Go.Proofs.Ytgeanpnkllnipaa.F Go.Proofs.YtgeanpnkllnipaaW.PrintWords
set_option linter.unusedSimpArgs false
set_option linter.unusedVariables false
theorem add0_of {x y : Int} (hx : 0 ≤ x ∧ x < 18446744073709551616) (hy : 0 ≤ y ∧ y < 18446744073709551616) :
    add64_s x y 0 + 18446744073709551616 * add64_c x y 0 = x + y ∧ (0 ≤ add64_s x y 0 ∧ add64_s x y 0 < 18446744073709551616) ∧ (add64_c x y 0 = 0 ∨ add64_c x y 0 = 1) := by
  unfold add64_s add64_c
  omega
theorem getD_set_ne {l : List Int} {i j : Nat} {v : Int} (h : i ≠ j) : (l.set i v).getD j 0 = l.getD j 0 := by
  rw [List.getD_eq_getElem?_getD, List.getElem?_set_ne h, ← List.getD_eq_getElem?_getD]
theorem school_key {W p t B x y c o s Q : Int} (h : s + B * Q = x * y + o + c) : p + W * (s - o) + W * B * (x * t + Q) = p + W * (x * (y + B * t) + c) := by
  have e9 : W * (x * (y + B * t) + c) = W * (x * y + o + c) - W * o + W * (B * (x * t)) := by grind
  rw [e9, ← h]
  grind
theorem school_digit {x y hi lo o c s1 q1 s2 q2 : Int} (hx : 0 ≤ x ∧ x < 18446744073709551616) (hy : 0 ≤ y ∧ y < 18446744073709551616) (h3 : 0 ≤ hi ∧ hi < 18446744073709551616) (e2 : hi * 18446744073709551616 + lo = x * y) (ho : 0 ≤ o ∧ o < 18446744073709551616) (hc : 0 ≤ c ∧ c < 18446744073709551616)
    (a1 : s1 + 18446744073709551616 * q1 = lo + o) (a3 : q1 = 0 ∨ q1 = 1) (b1 : s2 + 18446744073709551616 * q2 = s1 + c) (b2 : 0 ≤ s2) (b3 : q2 = 0 ∨ q2 = 1) :
    0 ≤ hi + q1 ∧ hi + q1 < 18446744073709551616 ∧ 0 ≤ hi + q1 + q2 ∧ hi + q1 + q2 < 18446744073709551616 ∧ s2 + 18446744073709551616 * (hi + q1 + q2) = x * y + o + c := by
  have hxy : x * y ≤ 18446744073709551615 * 18446744073709551615 := Int.mul_le_mul (by omega) (by omega) hy.1 (by omega)
  have h0 : (18446744073709551615 : Int) * 18446744073709551615 = 340282366920938463426481119284349108225 := by decide
  rw [h0] at hxy
  generalize x * y = z at *
  omega
theorem school_l1 (l0 l1 : List Int) (i : Nat) (x m : Int) (hx : 0 ≤ x ∧ x < 18446744073709551616) (d1 : Dig (b64 : Int) l1) {res : List Int} : ∀ (S P out : List Int) (c : Int), l1 = P ++ S → out.length ≤ 1000000 → i + l1.length < out.length → Dig (b64 : Int) out → 0 ≤ c ∧ c < 18446744073709551616 → out.getD (i + l1.length) 0 = 0 →
    (∀ out' : List Int, out'.length = out.length → Dig (b64 : Int) out' → (∀ j, i + l1.length < j → out'.getD j 0 = out.getD j 0) → val (b64 : Int) out' = val (b64 : Int) out + (b64 : Int) ^ (i + P.length) * (x * val (b64 : Int) S + c) →
      Evt (fun k => nat_school.l0 k l1 out' l0 m (wrap64 ((i : Int) + 1))) res) →
    Evt (fun k => nat_school.l1 k l1 out (i : Int) x c l0 m (i : Int) l1 (l1.length : Int) (P.length : Int)) res := by
  intro S
  induction S with
  | nil =>
    intro P out c hl hlen hfit dO hc h0 cont
    obtain rfl : l1 = P := by simpa using hl
    refine Evt.succ ?_
    simp only [nat_school.l1]
    rw [w64 (x := (i : Int) + (l1.length : Int)) (by omega) (by omega)]
    refine Evt.ite_neg (by omega) (Evt.ite_pos (by omega) (Evt.ite_pos (by omega) ?_))
    have e : ((i : Int) + (l1.length : Int)).toNat = i + l1.length := by omega
    rw [e]
    have hB : (b64 : Int) = 18446744073709551616 := rfl
    refine cont _ (by simp) (dO.set _ (by rw [hB]; exact hc)) (fun j hj => getD_set_ne (by omega)) ?_
    rw [val_set _ _ _ _ hfit, h0]
    simp [val]
  | cons y S ih =>
    intro P out c hl hlen hfit dO hc h0 cont
    have hB : (b64 : Int) = 18446744073709551616 := rfl
    have hll : l1.length = P.length + (S.length + 1) := by rw [hl]; simp
    have hy : 0 ≤ y ∧ y < 18446744073709551616 := by
      have := d1 y (by rw [hl]; simp)
      rwa [hB] at this
    refine Evt.succ ?_
    simp only [nat_school.l1]
    refine Evt.ite_pos (by omega) (Evt.ite_pos (by omega) (Evt.ite_pos (by omega) ?_))
    have er : rd l1 (P.length : Int) = y := by rw [rd_nat, hl]; simp
    rw [er]
    obtain ⟨hi, lo, e1, e2, h3, h4⟩ := bits_Mul64_eq hx hy
    refine Evt.bind (Evt.of fun _ => e1) ?_
    rw [w64 (x := (i : Int) + (P.length : Int)) (by omega) (by omega)]
    refine Evt.ite_pos (by omega) (Evt.ite_pos (by omega) (Evt.ite_pos (carry_of (Or.inl rfl)) ?_))
    rw [show (i : Int) + (P.length : Int) = ((i + P.length : Nat) : Int) from by omega, rd_nat, Int.toNat_natCast]
    have ho := dO.getD b64_pos (i + P.length)
    rw [hB] at ho
    generalize hO : out.getD (i + P.length) 0 = o at *
    obtain ⟨a1, a2, a3⟩ := add0_of h4 ho
    generalize add64_s lo o 0 = s1 at *
    generalize add64_c lo o 0 = q1 at *
    obtain ⟨b1, b2, b3⟩ := add0_of a2 hc
    generalize add64_s s1 c 0 = s2 at *
    generalize add64_c s1 c 0 = q2 at *
    obtain ⟨k0, hq1, k1, hq2, k2⟩ := school_digit hx hy h3 e2 ho hc a1 a3 b1 b2.1 b3
    rw [wu64_of (x := hi + q1) k0 hq1, wu64_of (x := hi + q1 + q2) k1 hq2, w64 (x := (P.length : Int) + 1) (by omega) (by omega)]
    have h := ih (P ++ [y]) (out.set (i + P.length) s2) (hi + q1 + q2) (by rw [hl]; simp) (by simpa using hlen) (by simpa using hfit) (dO.set _ (by rw [hB]; exact b2)) ⟨k1, hq2⟩ (by rw [getD_set_ne (by omega)]; exact h0) ?_
    · rw [show ((P ++ [y]).length : Int) = (P.length : Int) + 1 from by simp] at h
      exact h
    · intro out' hl' d' hj' hv
      refine cont out' (by rw [hl']; simp) d' (fun j hj => by rw [hj' j hj, getD_set_ne (by omega)]) ?_
      rw [hv, val_set _ _ _ _ (by omega), hO, List.length_append, List.length_singleton, ← Nat.add_assoc, Int.pow_succ]
      simp only [val]
      exact school_key (by rw [hB]; exact k2)
theorem school_l0 (l0 l1 : List Int) (h0 : l0.length ≤ 100000) (h1 : l1.length ≤ 100000) (d0 : Dig (b64 : Int) l0) (d1 : Dig (b64 : Int) l1) (n : Nat) : ∀ (i : Nat) (out : List Int), i + n = l0.length → out.length = l0.length + l1.length → Dig (b64 : Int) out → (∀ j, i + l1.length ≤ j → out.getD j 0 = 0) → val (b64 : Int) out = val (b64 : Int) (l0.take i) * val (b64 : Int) l1 →
    Evt (fun k => nat_school.l0 k l1 out l0 (l0.length : Int) (i : Int)) (limbs (num l0 * num l1)) := by
  induction n with
  | zero =>
    intro i out hi hl dO _ hv
    refine Evt.succ ?_
    simp only [nat_school.l0]
    refine Evt.ite_neg (by omega) ?_
    refine Evt.bind (nat_trim_ev out (by simp [maxLen]; omega)) ?_
    rw [strip_limbs dO]
    have e : num out = num l0 * num l1 := by
      have e1 := num_val dO
      rw [hv, List.take_of_length_le (by omega), ← num_val d0, ← num_val d1, ← Int.natCast_mul] at e1
      omega
    rw [e]
    exact Evt.pure _
  | succ n ih =>
    intro i out hi hl dO hz hv
    have hil : i < l0.length := by omega
    refine Evt.succ ?_
    simp only [nat_school.l0]
    refine Evt.ite_pos (by omega) (Evt.ite_pos (by omega) (Evt.ite_pos (by omega) ?_))
    rw [rd_nat]
    have hx := d0.getD b64_pos i
    have hx' : 0 ≤ l0.getD i 0 ∧ l0.getD i 0 < 18446744073709551616 := hx
    have hg : l0.getD i 0 = l0[i] := by simp [hil]
    refine school_l1 l0 l1 i (l0.getD i 0) (l0.length : Int) hx' d1 l1 [] out 0 rfl (by omega) (by omega) dO (by omega) (hz _ (Nat.le_refl _)) ?_
    intro out' hl' d' hj' hv'
    rw [w64 (by omega) (by omega)]
    refine ih (i + 1) out' (by omega) (by omega) d' (fun j hj => by rw [hj' j (by omega), hz j (by omega)]) ?_
    rw [hv', hv, val_take_step _ _ _ hil, ← hg]
    simp only [List.length_nil, Nat.add_zero, Int.add_zero]
    grind
theorem nat_school_ev (l0 l1 : List Int) (h0 : l0.length ≤ 100000) (h1 : l1.length ≤ 100000) (d0 : Dig (b64 : Int) l0) (d1 : Dig (b64 : Int) l1) : Evt (fun k => nat_school.f k l0 l1) (limbs (num l0 * num l1)) := by
  unfold nat_school.f
  rw [w64 (by omega) (by omega), show ((l0.length : Int) + (l1.length : Int)).toNat = l0.length + l1.length from by omega]
  refine Evt.ite_pos (by omega) (Evt.ite_pos (by omega) ?_)
  refine school_l0 l0 l1 h0 h1 d0 d1 l0.length 0 _ (by omega) (by simp) (Dig.replicate b64_pos _) (fun j _ => ?_) ?_
  · rw [List.getD_eq_getElem?_getD, List.getElem?_replicate]
    split <;> rfl
  · rw [val_replicate]
    simp [val]
end Go.Proofs.Ytgeanpnkllnipaa.Z
end
section
namespace Go.Proofs.Ytgeanpnkllnipaa.F
open Go.RowKit Go.Proofs.YtgeanpnkllnipaaW.PrintWords Go.Proofs.YtgeanpnkllnipaaW.PrintLast Go.Proofs.YtgeanpnkllnipaaW.PrintMore
attribute [local go_sem] max2_int min2_int max_two min_two max_three min_three max_four min_four
set_option linter.unusedVariables false
set_option linter.unusedSimpArgs false
attribute [local go_sem] add64_run
mutual
def nat_into.l0 : Nat → List Int → List Int → Int → Int → Int → Option (List Int)
 | 0, _, _, _, _, _ => none
 | k + 1, x0, x1, x2, x6, x7 => if x7 < (x0.length : Int) then (if (wrap64 (x7 - x2)) < (x1.length : Int) then (nat_into.j1 k x0 x1 x2 x6 x7 true) else (nat_into.j1 k x0 x1 x2 x6 x7 (decide (x6 > 0)))) else (nat_into.j1 k x0 x1 x2 x6 x7 false)
def nat_into.j1 : Nat → List Int → List Int → Int → Int → Int → Bool → Option (List Int)
 | 0, _, _, _, _, _, _ => none
 | k + 1, x0, x1, x2, x6, x7, x25 => if x25 = true then (if (wrap64 (x7 - x2)) < (x1.length : Int) then (if 0 ≤ (wrap64 (x7 - x2)) then (if 0 ≤ x7 then (if x7 < (x0.length : Int) then (if carry01 x6 = true then (nat_into.l0 k (x0.set (x7 : Int).toNat (add64_s (rd x0 x7) (rd x1 (wrap64 (x7 - x2))) x6)) x1 x2 (add64_c (rd x0 x7) (rd x1 (wrap64 (x7 - x2))) x6) (wrap64 (x7 + 1))) else (none)) else (none)) else (none)) else (none)) else (if 0 ≤ x7 then (if x7 < (x0.length : Int) then (if carry01 x6 = true then (nat_into.l0 k (x0.set (x7 : Int).toNat (add64_s (rd x0 x7) 0 x6)) x1 x2 (add64_c (rd x0 x7) 0 x6) (wrap64 (x7 + 1))) else (none)) else (none)) else (none))) else (some x0)
end
def nat_into.f (k : Nat) (l0 : List Int) (l1 : List Int) (a2 : Int) : Option (List Int) := nat_into.l0 k l0 l1 a2 0 a2
set_option maxHeartbeats 8000000 in
set_option maxRecDepth 100000 in
theorem nat_into.calls (k : Nat) (P0_ : Nat → Prop) (u9000_ : Value) (l0 : List Int) (A1 : Option Addr) (c1 : Nat) (l1 : List Int) (a2 : Int) (r : List Int) (w0 w : World) (hB : Below w0.heap.size w0 w) (ho0 : Kd.R (Kd.int .u64) 47 w w0.heap.size P0_ u9000_ l0) (hr1 : ∀ W_, Kept w W_ (fun k_ => P0_ k_) → Kd.C (Kd.int .u64) W_ A1 l1.length l1) (hc1 : l1.length ≤ c1) (h : nat_into.f k l0 l1 a2 = some r) :
  Calls Try.prog 107 #[u9000_, .slice A1 l1.length c1, .int .i64 a2] w fun e w' => e = .returned (.tuple #[]) ∧ Kd.R (Kd.int .u64) 47 w' w0.heap.size (fun k_ => (P0_ k_ ∨ w.heap.size ≤ k_)) u9000_ r ∧ Below w0.heap.size w0 w' ∧ Kept w w' (fun k_ => P0_ k_) := by
 have HO0 := Aside0.mk (show Kd.R (Kd.int .u64) 47 w w0.heap.size (fun k_ => (P0_ k_ ∨ w.heap.size ≤ k_)) u9000_ l0 from Kd.R_mono ho0 (fun k_ hk => (.inl hk)))
 have HR1 := Aside0.mk hr1; have HC1 := Aside0.mk hc1; clear hr1 hc1
 have HK := Aside0.mk (Kept.refl w (fun k_ => P0_ k_))
 have HW0 := Aside0.mk hB.size
 have HB := Aside0.mk hB; clear hB
 have H : (nat_into.l0 k l0 l1 a2 0 a2) = some r := h
 clear h
 have H' := Aside0.mk H
 clear H
 go_enter Try.func107, Try.ntmps107
 go_wp2
 go_loopg [6, 7] k (fun kq v6 v7 w' => ∃ (x0_1 : List Int) (x6_1 : Int) (x7_1 : Int), v6 = .int .u64 x6_1 ∧ v7 = .int .i64 x7_1 ∧ Aside0 (nat_into.l0 kq x0_1 l1 a2 x6_1 x7_1 = some r) ∧ Aside0 (kq ≤ k) ∧ Aside0 (Kd.R (Kd.int .u64) 47 w' w0.heap.size (fun k_ => (P0_ k_ ∨ w.heap.size ≤ k_)) u9000_ x0_1) ∧ Aside0 (Kept w w' (fun k_ => P0_ k_)) ∧ Aside0 (Below w0.heap.size w0 w'))
 case atStart => exact ⟨(l0), (0), (a2), uG, uG, H', ⟨Nat.le_refl _⟩, ⟨uR HO0.out⟩, ⟨by repeat (first | (with_reducible first | exact HK.out | apply Kept.alloc | apply Kept.drewN | apply Kept.drew) | exact HK.out)⟩, ⟨uB⟩⟩
 case round =>
  clear H'
  (try clear c1); (try clear p2)
  obtain ⟨x0_1, x6_1, x7_1, rfl, rfl, HA, HK1, HO_0, HK, HB⟩ := hrel
  cases gk with
  | zero => exact absurd HA.out (by simp [nat_into.l0])
  | succ k1 =>
   have H := HA.out
   clear HA
   simp only [nat_into.l0] at H
   have HC4 := Aside0.mk H; clear H
   go_upto_region 2 with (fail)
   go_cut [25] (fun v25 wc => ∃ (kq : Nat) (x25_3 : Bool), v25 = .bool x25_3 ∧ Aside0 (nat_into.j1 kq x0_1 l1 a2 x6_1 x7_1 x25_3 = some r) ∧ Aside0 (kq ≤ k1) ∧ Aside0 (Kd.R (Kd.int .u64) 47 wc w0.heap.size (fun k_ => (P0_ k_ ∨ w.heap.size ≤ k_)) u9000_ x0_1) ∧ Aside0 (Kept w wc (fun k_ => P0_ k_)) ∧ Aside0 (Below w0.heap.size w0 wc))
   case first =>
    have H := HC4.out
    clear HC4
    by_cases c5 : x7_1 < (x0_1.length : Int)
    ·
     rw [if_pos c5] at H
     have c5b0 : decide (x7_1 < (x0_1.length : Int)) = true := decide_eq_true c5
     clear c5
     (first | rw [c5b0] | (simp only [i64_w, i32_w]; rw [c5b0]) | skip)
     by_cases c6 : (wrap64 (x7_1 - a2)) < (l1.length : Int)
     ·
      rw [if_pos c6] at H
      have c6b0 : decide ((wrap64 (x7_1 - a2)) < (l1.length : Int)) = true := decide_eq_true c6
      clear c6
      have H' := Aside0.mk H
      clear H
      obtain ⟨Ao7, co7, eo7⟩ := Kd.R_slice HO_0.out
      subst eo7
      go_wp2
      go_meet
      case rel => exact ⟨_, (true), uG, H', ⟨by have := HK1.out; first | omega | exact Nat.le_refl _⟩, ⟨uR HO_0.out⟩, ⟨by repeat (first | (with_reducible first | exact HK.out | apply Kept.alloc | apply Kept.drewN | apply Kept.drew) | exact HK.out)⟩, ⟨uB⟩⟩
     rw [if_neg c6] at H
     have c6b0 : decide ((wrap64 (x7_1 - a2)) < (l1.length : Int)) = false := decide_eq_false c6
     clear c6
     have H' := Aside0.mk H
     clear H
     obtain ⟨Ao8, co8, eo8⟩ := Kd.R_slice HO_0.out
     subst eo8
     go_wp2
     go_meet
     case rel => exact ⟨_, (decide (x6_1 > 0)), uG, H', ⟨by have := HK1.out; first | omega | exact Nat.le_refl _⟩, ⟨uR HO_0.out⟩, ⟨by repeat (first | (with_reducible first | exact HK.out | apply Kept.alloc | apply Kept.drewN | apply Kept.drew) | exact HK.out)⟩, ⟨uB⟩⟩
    rw [if_neg c5] at H
    have c5b0 : decide (x7_1 < (x0_1.length : Int)) = false := decide_eq_false c5
    clear c5
    (first | rw [c5b0] | (simp only [i64_w, i32_w]; rw [c5b0]) | skip)
    have H' := Aside0.mk H
    clear H
    obtain ⟨Ao9, co9, eo9⟩ := Kd.R_slice HO_0.out
    subst eo9
    go_wp2
    go_meet
    case rel => exact ⟨_, (false), uG, H', ⟨by have := HK1.out; first | omega | exact Nat.le_refl _⟩, ⟨uR HO_0.out⟩, ⟨by repeat (first | (with_reducible first | exact HK.out | apply Kept.alloc | apply Kept.drewN | apply Kept.drew) | exact HK.out)⟩, ⟨uB⟩⟩
   case rest =>
    clear HC4; (try clear c1); (try clear p2); (try clear c5); (try clear c5b0); (try clear c6); (try clear c6b0); (try clear p6); (try clear p2)
    obtain ⟨kq, x25_3, rfl, HA, HJ3, HO_0, HK, HB⟩ := hcut
    cases kq with
    | zero => exact absurd HA.out (by simp [nat_into.j1])
    | succ kj3 =>
     have H := HA.out
     clear HA
     simp only [nat_into.j1] at H
     by_cases c10 : x25_3 = true
     ·
      subst c10
      have H1 : (if (wrap64 (x7_1 - a2)) < (l1.length : Int) then (if 0 ≤ (wrap64 (x7_1 - a2)) then (if 0 ≤ x7_1 then (if x7_1 < (x0_1.length : Int) then (if carry01 x6_1 = true then (nat_into.l0 kj3 (x0_1.set (x7_1 : Int).toNat (add64_s (rd x0_1 x7_1) (rd l1 (wrap64 (x7_1 - a2))) x6_1)) l1 a2 (add64_c (rd x0_1 x7_1) (rd l1 (wrap64 (x7_1 - a2))) x6_1) (wrap64 (x7_1 + 1))) else (none)) else (none)) else (none)) else (none)) else (if 0 ≤ x7_1 then (if x7_1 < (x0_1.length : Int) then (if carry01 x6_1 = true then (nat_into.l0 kj3 (x0_1.set (x7_1 : Int).toNat (add64_s (rd x0_1 x7_1) 0 x6_1)) l1 a2 (add64_c (rd x0_1 x7_1) 0 x6_1) (wrap64 (x7_1 + 1))) else (none)) else (none)) else (none))) = some r := by rw [if_pos rfl] at H; exact H
      clear H; have H := H1; clear H1
      by_cases c11 : (wrap64 (x7_1 - a2)) < (l1.length : Int)
      ·
       rw [if_pos c11] at H
       have c11b0 : decide ((wrap64 (x7_1 - a2)) < (l1.length : Int)) = true := decide_eq_true c11
       clear c11
       obtain ⟨ji12, hji12⟩ : ∃ j_ : Int, (wrap64 (x7_1 - a2)) = j_ := ⟨_, rfl⟩
       first | rw [hji12] at H | simp only [hji12] at H
       (try rw [hji12] at c11b0)
       have hji12w : (IntKind.i64.wrap (x7_1 - a2)) = ji12 := (i64_w _).trans hji12
       replace H := uT H; obtain ⟨c13, H⟩ := H
       have c13b0 : decide (0 ≤ (ji12)) = true := decide_eq_true c13
       clear c13
       replace H := uT H; obtain ⟨c14, H⟩ := H
       have c14b0 : decide (0 ≤ x7_1) = true := decide_eq_true c14
       clear c14
       replace H := uT H; obtain ⟨c15, H⟩ := H
       have c15b0 : decide (x7_1 < (x0_1.length : Int)) = true := decide_eq_true c15
       clear c15
       replace H := uT H; obtain ⟨c16, H⟩ := H
       have c16b0 : carry01 x6_1 = true := c16
       clear c16
       obtain ⟨y403, hy403⟩ : ∃ y_ : List Int, y_ = (x0_1.set (x7_1 : Int).toNat (add64_s (rd x0_1 x7_1) (rd l1 (ji12)) x6_1)) := ⟨_, rfl⟩
       replace H : (nat_into.l0 kj3 y403 l1 a2 (add64_c (rd x0_1 x7_1) (rd l1 (ji12)) x6_1) (wrap64 (x7_1 + 1))) = some r := by first | (rw [hy403]; with_reducible exact H) | (have H2_ := (Option.bind_some _ _).symm.trans H; rw [hy403]; with_reducible exact H2_) | (have H2_ := (Option.bind_some _ _).symm.trans H; with_reducible exact H2_) | with_reducible exact H | (rw [hy403]; exact H) | exact H
       have Ny403 := Aside0.mk hy403; clear hy403
       have H' := Aside0.mk H
       clear H
       have p401 : 0 ≤ ((ji12) : Int) := uO
       have q401 : (ji12) < (l1.length : Int) := uO
       obtain ⟨ad401, e401, hx401_0⟩ := Kd.at_int (Kd.C_kept_now HR1.out HK.out) (ji12) p401 q401
       cases e401
       replace p401 := eq_true p401
       replace q401 := eq_true q401
       obtain ⟨Ao18, co18, eo18⟩ := Kd.R_slice HO_0.out
       subst eo18
       have p402 : 0 ≤ (x7_1 : Int) := uO
       have q402 : x7_1 < (x0_1.length : Int) := uO
       obtain ⟨ad402, e402, hx402_0⟩ := Kd.at_int (Kd.R_reads' HO_0.out).2.2 x7_1 p402 q402
       cases e402
       replace p402 := eq_true p402
       replace q402 := eq_true q402
       have p17 : 0 ≤ (x7_1 : Int) := uO
       have q17 : (x7_1 : Int) < ((x0_1.length : Int) : Int) := uO
       obtain ⟨go17, co17, eo17, gb17, gl17, cl17, HG17⟩ := Kd.R_form HO_0.out (by omega)
       (first | cases eo17 | (injection eo17 with ea_ en_ ec_; (first | subst ea_ | (injection ea_ with ea_; subst ea_)); subst ec_; clear en_))
       have GB17 := Aside0.mk gb17; have GG17 := Aside0.mk HG17; clear gb17 gl17 HG17
       have HMgo17 := Aside0.mk (show (P0_ go17 ∨ w.heap.size ≤ go17) from (HO_0.out.1 _ rfl))
       (first | simp only [add_plain] at hx402_0 | skip)
       obtain ⟨hx17_0, hf17_0⟩ := Kd.R_celln 0 HO_0.out (x7_1 : Int) p17 q17
       replace p17 := eq_true p17
       replace q17 := eq_true q17
       have HP19 := Kd.R_putg HO_0.out (x7_1 : Int) (add64_s (rd x0_1 x7_1) (rd l1 (ji12)) x6_1)
       go_wp2_with (first | ((with_reducible refine gate_store (t := 47) (p := 52) rfl ?_); refine store_event (t := 47) (p := 52) (v := ?vo_w20) (w1 := (wc.setCell ⟨go17, (x7_1 : Int).toNat, none⟩ (.int .u64 (add64_s (rd x0_1 x7_1) (rd l1 (ji12)) x6_1)))) ?hg ?ho ?hn ?hr ?_; (case ho => rfl); (case hg => rfl); (case hn => rfl); (case hr => first | (go_simp; done) | (go_simp; rfl) | (obtain ⟨hy_, hz_⟩ := Kd.R_celln 0 HO_0.out (x7_1 : Int) uO uO; (try simp only [Go.IntWalk.toNatUp] at hy_ hz_); (try simp only [Int.reduceToNat, Int.toNat_zero, Int.toNat_ofNat] at hy_ hz_); first | (go_simp; done) | (go_simp; rfl))); intro w20 hw; have hg : wc.grownBy w20 (some go17) := (by rw [hw]; exact HP19.2); have hp_ : Kd.R (Kd.int .u64) 47 w20 w0.heap.size (fun k_ => (P0_ k_ ∨ w.heap.size ≤ k_)) (.slice (some ⟨go17, 0, none⟩) x0_1.length co18) y403 := (by rw [hw, Ny403.out]; exact HP19.1); clear HP19; replace HB := Aside0.mk ((by rw [hw]; exact below_set (HB.out) GB17.out : Below w0.heap.size w0 w20)); replace HK := Aside0.mk (Kept.of_grown (S := (fun k_ => P0_ k_)) hg (by repeat (first | (with_reducible first | exact HK.out | apply Kept.alloc | apply Kept.drewN | apply Kept.drew) | exact HK.out)) (fun k_ e_ => (HO_0.out.1 k_ e_))); replace HO_0 := Aside0.mk (hp_); clear hg hw hp_))
       first | go_roundg kj3 | ((try simp only [← hji12] at H'); simp only [← hji12]; go_roundg kj3)
       case measure => have := HK1.out; have := HJ3.out; omega
       case rel => first | exact ⟨(y403), (add64_c (rd x0_1 x7_1) (rd l1 (ji12)) x6_1), (wrap64 (x7_1 + 1)), (by first | rfl | (simp; done) | (simp only [← hji12] <;> (first | rfl | simp)) | (simp [*]; done)), uG, H', ⟨by have := HK1.out; have := HJ3.out; omega⟩, ⟨uR HO_0.out⟩, ⟨by repeat (first | (with_reducible first | exact HK.out | apply Kept.alloc | apply Kept.drewN | apply Kept.drew) | exact HK.out)⟩, ⟨uB⟩⟩ | (simp only [← hji12] at H'; exact ⟨(y403), (add64_c (rd x0_1 x7_1) (rd l1 (ji12)) x6_1), (wrap64 (x7_1 + 1)), (by first | rfl | (simp; done) | (simp only [← hji12] <;> (first | rfl | simp)) | (simp [*]; done)), uG, H', ⟨by have := HK1.out; have := HJ3.out; omega⟩, ⟨uR HO_0.out⟩, ⟨by repeat (first | (with_reducible first | exact HK.out | apply Kept.alloc | apply Kept.drewN | apply Kept.drew) | exact HK.out)⟩, ⟨uB⟩⟩)
      rw [if_neg c11] at H
      have c11b0 : decide ((wrap64 (x7_1 - a2)) < (l1.length : Int)) = false := decide_eq_false c11
      clear c11
      replace H := uT H; obtain ⟨c21, H⟩ := H
      have c21b0 : decide (0 ≤ x7_1) = true := decide_eq_true c21
      clear c21
      replace H := uT H; obtain ⟨c22, H⟩ := H
      have c22b0 : decide (x7_1 < (x0_1.length : Int)) = true := decide_eq_true c22
      clear c22
      replace H := uT H; obtain ⟨c23, H⟩ := H
      have c23b0 : carry01 x6_1 = true := c23
      clear c23
      obtain ⟨y405, hy405⟩ : ∃ y_ : List Int, y_ = (x0_1.set (x7_1 : Int).toNat (add64_s (rd x0_1 x7_1) 0 x6_1)) := ⟨_, rfl⟩
      replace H : (nat_into.l0 kj3 y405 l1 a2 (add64_c (rd x0_1 x7_1) 0 x6_1) (wrap64 (x7_1 + 1))) = some r := by first | (rw [hy405]; with_reducible exact H) | (have H2_ := (Option.bind_some _ _).symm.trans H; rw [hy405]; with_reducible exact H2_) | (have H2_ := (Option.bind_some _ _).symm.trans H; with_reducible exact H2_) | with_reducible exact H | (rw [hy405]; exact H) | exact H
      have Ny405 := Aside0.mk hy405; clear hy405
      have H' := Aside0.mk H
      clear H
      obtain ⟨Ao25, co25, eo25⟩ := Kd.R_slice HO_0.out
      subst eo25
      have p404 : 0 ≤ (x7_1 : Int) := uO
      have q404 : x7_1 < (x0_1.length : Int) := uO
      obtain ⟨ad404, e404, hx404_0⟩ := Kd.at_int (Kd.R_reads' HO_0.out).2.2 x7_1 p404 q404
      cases e404
      replace p404 := eq_true p404
      replace q404 := eq_true q404
      have p24 : 0 ≤ (x7_1 : Int) := uO
      have q24 : (x7_1 : Int) < ((x0_1.length : Int) : Int) := uO
      obtain ⟨go24, co24, eo24, gb24, gl24, cl24, HG24⟩ := Kd.R_form HO_0.out (by omega)
      (first | cases eo24 | (injection eo24 with ea_ en_ ec_; (first | subst ea_ | (injection ea_ with ea_; subst ea_)); subst ec_; clear en_))
      have GB24 := Aside0.mk gb24; have GG24 := Aside0.mk HG24; clear gb24 gl24 HG24
      have HMgo24 := Aside0.mk (show (P0_ go24 ∨ w.heap.size ≤ go24) from (HO_0.out.1 _ rfl))
      (first | simp only [add_plain] at hx404_0 | skip)
      obtain ⟨hx24_0, hf24_0⟩ := Kd.R_celln 0 HO_0.out (x7_1 : Int) p24 q24
      replace p24 := eq_true p24
      replace q24 := eq_true q24
      have HP26 := Kd.R_putg HO_0.out (x7_1 : Int) (add64_s (rd x0_1 x7_1) 0 x6_1)
      go_wp2_with (first | ((with_reducible refine gate_store (t := 47) (p := 52) rfl ?_); refine store_event (t := 47) (p := 52) (v := ?vo_w27) (w1 := (wc.setCell ⟨go24, (x7_1 : Int).toNat, none⟩ (.int .u64 (add64_s (rd x0_1 x7_1) 0 x6_1)))) ?hg ?ho ?hn ?hr ?_; (case ho => rfl); (case hg => rfl); (case hn => rfl); (case hr => first | (go_simp; done) | (go_simp; rfl) | (obtain ⟨hy_, hz_⟩ := Kd.R_celln 0 HO_0.out (x7_1 : Int) uO uO; (try simp only [Go.IntWalk.toNatUp] at hy_ hz_); (try simp only [Int.reduceToNat, Int.toNat_zero, Int.toNat_ofNat] at hy_ hz_); first | (go_simp; done) | (go_simp; rfl))); intro w27 hw; have hg : wc.grownBy w27 (some go24) := (by rw [hw]; exact HP26.2); have hp_ : Kd.R (Kd.int .u64) 47 w27 w0.heap.size (fun k_ => (P0_ k_ ∨ w.heap.size ≤ k_)) (.slice (some ⟨go24, 0, none⟩) x0_1.length co25) y405 := (by rw [hw, Ny405.out]; exact HP26.1); clear HP26; replace HB := Aside0.mk ((by rw [hw]; exact below_set (HB.out) GB24.out : Below w0.heap.size w0 w27)); replace HK := Aside0.mk (Kept.of_grown (S := (fun k_ => P0_ k_)) hg (by repeat (first | (with_reducible first | exact HK.out | apply Kept.alloc | apply Kept.drewN | apply Kept.drew) | exact HK.out)) (fun k_ e_ => (HO_0.out.1 k_ e_))); replace HO_0 := Aside0.mk (hp_); clear hg hw hp_))
      first | go_roundg kj3 | ((try simp only [← hji12] at H'); simp only [← hji12]; go_roundg kj3)
      case measure => have := HK1.out; have := HJ3.out; omega
      case rel => first | exact ⟨(y405), (add64_c (rd x0_1 x7_1) 0 x6_1), (wrap64 (x7_1 + 1)), uG, uG, H', ⟨by have := HK1.out; have := HJ3.out; omega⟩, ⟨uR HO_0.out⟩, ⟨by repeat (first | (with_reducible first | exact HK.out | apply Kept.alloc | apply Kept.drewN | apply Kept.drew) | exact HK.out)⟩, ⟨uB⟩⟩ | (simp only [← hji12] at H'; exact ⟨(y405), (add64_c (rd x0_1 x7_1) 0 x6_1), (wrap64 (x7_1 + 1)), uG, uG, H', ⟨by have := HK1.out; have := HJ3.out; omega⟩, ⟨uR HO_0.out⟩, ⟨by repeat (first | (with_reducible first | exact HK.out | apply Kept.alloc | apply Kept.drewN | apply Kept.drew) | exact HK.out)⟩, ⟨uB⟩⟩)
     replace c10 := Bool.eq_false_iff.mpr c10
     subst c10
     have H1 : (some x0_1) = some r := by rw [if_neg (show ¬ (false = true) by decide)] at H; exact H
     clear H; have H := H1; clear H1
     obtain rfl := Option.some.inj H
     go_wp2
     first | go_end0 | ((try simp only [Exit.inBlock, Exit.then]); refine bodyPost_ret (results_none rfl _ _ _) rfl ?_)
     exact ⟨uF, uR HO_0.out, uB, by repeat (first | (with_reducible first | exact HK.out | apply Kept.alloc | apply Kept.drewN | apply Kept.drew) | exact HK.out)⟩
end Go.Proofs.Ytgeanpnkllnipaa.F
end
section
namespace Go.Proofs.Ytgeanpnkllnipaa.Z
open Go.RowKit Go.Proofs.Ytgeanpnkllnipaa.F Go.Proofs.YtgeanpnkllnipaaW.PrintWords
set_option linter.unusedSimpArgs false
set_option linter.unusedVariables false
theorem add64_of {x y c : Int} (hx : 0 ≤ x ∧ x < 18446744073709551616) (hy : 0 ≤ y ∧ y < 18446744073709551616) (hc : c = 0 ∨ c = 1) :
    add64_s x y c + 18446744073709551616 * add64_c x y c = x + y + c ∧ (0 ≤ add64_s x y c ∧ add64_s x y c < 18446744073709551616) ∧ (add64_c x y c = 0 ∨ add64_c x y c = 1) := by
  unfold add64_s add64_c
  omega
theorem val_drop_step (B : Int) (a : List Int) (j : Nat) : val B (a.drop j) = a.getD j 0 + B * val B (a.drop (j + 1)) := by
  by_cases h : j < a.length
  · rw [List.drop_eq_getElem_cons h, val, List.getD_eq_getElem?_getD, List.getElem?_eq_getElem h]
    rfl
  · rw [List.drop_of_length_le (by omega), List.drop_of_length_le (by omega), List.getD_eq_getElem?_getD, List.getElem?_eq_none (by omega)]
    simp [val]
theorem nat_into_loop (a : List Int) (at_ : Nat) (da : Dig (b64 : Int) a) (n : Nat) : ∀ (i : Nat) (out : List Int) (c : Int), n + i = max out.length i → at_ ≤ i → i ≤ 1000000 → out.length ≤ 1000000 → Dig (b64 : Int) out → (c = 0 ∨ c = 1) →
    val (b64 : Int) out + (b64 : Int) ^ i * (val (b64 : Int) (a.drop (i - at_)) + c) < (b64 : Int) ^ out.length →
    ∃ r : List Int, Evt (fun k => nat_into.l0 k out a (at_ : Int) c (i : Int)) r ∧ Dig (b64 : Int) r ∧ r.length = out.length ∧ val (b64 : Int) r = val (b64 : Int) out + (b64 : Int) ^ i * (val (b64 : Int) (a.drop (i - at_)) + c) := by
  have hB : (b64 : Int) = 18446744073709551616 := rfl
  induction n with
  | zero =>
    intro i out c hn ha hi ho dO hc hf
    have hv0 := val_nonneg b64_pos dO
    have hd0 := val_nonneg b64_pos (da.drop (i - at_))
    have hpi : (0 : Int) < (b64 : Int) ^ i := Int.pow_pos (by rw [hB]; omega)
    have hpm : (b64 : Int) ^ out.length ≤ (b64 : Int) ^ i := pow_mono b64_pos (by omega)
    have hz : val (b64 : Int) (a.drop (i - at_)) + c = 0 := by
      by_cases h : val (b64 : Int) (a.drop (i - at_)) + c = 0
      · exact h
      · exfalso
        have h2 : (b64 : Int) ^ i * 1 ≤ (b64 : Int) ^ i * (val (b64 : Int) (a.drop (i - at_)) + c) := Int.mul_le_mul_of_nonneg_left (by omega) (by omega)
        omega
    refine ⟨out, ?_, dO, rfl, by rw [hz]; simp⟩
    refine Evt.succ ?_
    simp only [nat_into.l0]
    refine Evt.ite_neg (by omega) (Evt.succ ?_)
    simp only [nat_into.j1]
    refine Evt.ite_neg (by simp) (Evt.pure _)
  | succ n ih =>
    intro i out c hn ha hi ho dO hc hf
    have hio : i < out.length := by omega
    have hd0 := val_nonneg b64_pos (da.drop (i - at_))
    have hj : wrap64 ((i : Int) - (at_ : Int)) = ((i - at_ : Nat) : Int) := by rw [w64 (by omega) (by omega)]; omega
    have hO := dO.getD b64_pos i
    rw [hB] at hO
    have step : ∀ y : Int, y = a.getD (i - at_) 0 → ∃ r : List Int, Evt (fun k => nat_into.l0 k (out.set i (add64_s (out.getD i 0) y c)) a (at_ : Int) (add64_c (out.getD i 0) y c) (wrap64 ((i : Int) + 1))) r ∧ Dig (b64 : Int) r ∧ r.length = out.length ∧ val (b64 : Int) r = val (b64 : Int) out + (b64 : Int) ^ i * (val (b64 : Int) (a.drop (i - at_)) + c) := by
      intro y hy
      have hY := da.getD b64_pos (i - at_)
      rw [hB, ← hy] at hY
      obtain ⟨a1, a2, a3⟩ := add64_of hO hY hc
      have hvs := val_set (b64 : Int) out i (add64_s (out.getD i 0) y c) hio
      have hds := val_drop_step (b64 : Int) a (i - at_)
      rw [← hy] at hds
      generalize add64_s (out.getD i 0) y c = s at *
      generalize add64_c (out.getD i 0) y c = q at *
      have key : val (b64 : Int) (out.set i s) + (b64 : Int) ^ (i + 1) * (val (b64 : Int) (a.drop (i + 1 - at_)) + q) = val (b64 : Int) out + (b64 : Int) ^ i * (val (b64 : Int) (a.drop (i - at_)) + c) := by
        rw [hvs, hds, show i + 1 - at_ = i - at_ + 1 from by omega, Int.pow_succ]
        have e8 : s + (b64 : Int) * q = out.getD i 0 + y + c := by rw [hB]; omega
        generalize (b64 : Int) ^ i = W at *
        generalize val (b64 : Int) out = p at *
        generalize val (b64 : Int) (a.drop (i - at_ + 1)) = t at *
        generalize out.getD i 0 = o at *
        generalize (b64 : Int) = B at *
        have e9 : W * (y + B * t + c) = W * (o + y + c) - W * o + W * (B * t) := by grind
        rw [e9, ← e8]
        grind
      rw [w64 (by omega) (by omega)]
      have h := ih (i + 1) (out.set i s) q (by simp; omega) (by omega) (by omega) (by simpa using ho) (dO.set _ (by rw [hB]; exact a2)) a3 (by rw [key, List.length_set]; exact hf)
      obtain ⟨r, r1, r2, r3, r4⟩ := h
      exact ⟨r, r1, r2, by rw [r3, List.length_set], by rw [r4, key]⟩
    by_cases h1 : i - at_ < a.length
    · obtain ⟨r, r1, r2⟩ := step (a.getD (i - at_) 0) rfl
      refine ⟨r, ?_, r2⟩
      refine Evt.succ ?_
      simp only [nat_into.l0]
      rw [hj]
      refine Evt.ite_pos (by omega) (Evt.ite_pos (by omega) (Evt.succ ?_))
      simp only [nat_into.j1]
      rw [hj, rd_nat, rd_nat, Int.toNat_natCast]
      exact Evt.ite_pos trivial (Evt.ite_pos (by omega) (Evt.ite_pos (by omega) (Evt.ite_pos (by omega) (Evt.ite_pos (by omega) (Evt.ite_pos (carry_of hc) r1)))))
    · have hy0 : a.getD (i - at_) 0 = 0 := by
        rw [List.getD_eq_getElem?_getD, List.getElem?_eq_none (by omega)]
        rfl
      rcases hc with rfl | rfl
      · refine ⟨out, ?_, dO, rfl, ?_⟩
        · refine Evt.succ ?_
          simp only [nat_into.l0]
          rw [hj]
          refine Evt.ite_pos (by omega) (Evt.ite_neg (by omega) (Evt.succ ?_))
          simp only [nat_into.j1]
          exact Evt.ite_neg (by simp) (Evt.pure _)
        · rw [List.drop_of_length_le (by omega)]
          simp [val]
      · obtain ⟨r, r1, r2⟩ := step 0 hy0.symm
        refine ⟨r, ?_, r2⟩
        refine Evt.succ ?_
        simp only [nat_into.l0]
        rw [hj]
        refine Evt.ite_pos (by omega) (Evt.ite_neg (by omega) (Evt.succ ?_))
        simp only [nat_into.j1]
        rw [hj, rd_nat, Int.toNat_natCast]
        exact Evt.ite_pos (by simp) (Evt.ite_neg (by omega) (Evt.ite_pos (by omega) (Evt.ite_pos (by omega) (Evt.ite_pos (carry_of (Or.inr rfl)) r1))))
theorem nat_into_ev (out a : List Int) (at_ : Nat) (ha : at_ ≤ 1000000) (ho : out.length ≤ 1000000) (dO : Dig (b64 : Int) out) (da : Dig (b64 : Int) a) (hf : val (b64 : Int) out + (b64 : Int) ^ at_ * val (b64 : Int) a < (b64 : Int) ^ out.length) :
    ∃ r : List Int, Evt (fun k => nat_into.f k out a (at_ : Int)) r ∧ Dig (b64 : Int) r ∧ r.length = out.length ∧ val (b64 : Int) r = val (b64 : Int) out + (b64 : Int) ^ at_ * val (b64 : Int) a := by
  have h := nat_into_loop a at_ da (max out.length at_ - at_) at_ out 0 (by omega) (Nat.le_refl _) ha ho dO (Or.inl rfl) (by simpa using hf)
  obtain ⟨r, r1, r2, r3, r4⟩ := h
  refine ⟨r, ?_, r2, r3, by simpa using r4⟩
  unfold nat_into.f
  exact r1
end Go.Proofs.Ytgeanpnkllnipaa.Z
end
section
namespace Go.Proofs.Ytgeanpnkllnipaa.F
open Go.RowKit Go.Proofs.YtgeanpnkllnipaaW.PrintWords Go.Proofs.YtgeanpnkllnipaaW.PrintLast Go.Proofs.YtgeanpnkllnipaaW.PrintMore
attribute [local go_sem] max2_int min2_int max_two min_two max_three min_three max_four min_four
set_option linter.unusedVariables false
set_option linter.unusedSimpArgs false
attribute [local go_sem] add64_run
mutual
def nat_sum.l0 : Nat → List Int → List Int → List Int → Int → Int → Int → Option (List Int)
 | 0, _, _, _, _, _, _ => none
 | k + 1, x0, x1, x5, x6, x21, x22 => if x22 < x21 then (if x22 < (x1.length : Int) then (if 0 ≤ x22 then (if x22 < (x0.length : Int) then (if carry01 x6 = true then (if x22 < (x5.length : Int) then (nat_sum.l0 k x0 x1 (x5.set (x22 : Int).toNat (add64_s (rd x0 x22) (rd x1 x22) x6)) (add64_c (rd x0 x22) (rd x1 x22) x6) x21 (wrap64 (x22 + 1))) else (none)) else (none)) else (none)) else (none)) else (if 0 ≤ x22 then (if x22 < (x0.length : Int) then (if carry01 x6 = true then (if x22 < (x5.length : Int) then (nat_sum.l0 k x0 x1 (x5.set (x22 : Int).toNat (add64_s (rd x0 x22) 0 x6)) (add64_c (rd x0 x22) 0 x6) x21 (wrap64 (x22 + 1))) else (none)) else (none)) else (none)) else (none))) else (if 0 ≤ (x0.length : Int) then (if (x0.length : Int) < (x5.length : Int) then (some (x5.set ((x0.length : Int) : Int).toNat x6)) else (none)) else (none))
def nat_sum.l51 : Nat → List Int → List Int → List Int → Int → Int → Int → Option (List Int)
 | 0, _, _, _, _, _, _ => none
 | k + 1, x0, x1, x5, x6, x21, x22 => if x22 < x21 then (if x22 < (x1.length : Int) then (if 0 ≤ x22 then (if x22 < (x0.length : Int) then (if carry01 x6 = true then (if x22 < (x5.length : Int) then (nat_sum.l51 k x0 x1 (x5.set (x22 : Int).toNat (add64_s (rd x0 x22) (rd x1 x22) x6)) (add64_c (rd x0 x22) (rd x1 x22) x6) x21 (wrap64 (x22 + 1))) else (none)) else (none)) else (none)) else (none)) else (if 0 ≤ x22 then (if x22 < (x0.length : Int) then (if carry01 x6 = true then (if x22 < (x5.length : Int) then (nat_sum.l51 k x0 x1 (x5.set (x22 : Int).toNat (add64_s (rd x0 x22) 0 x6)) (add64_c (rd x0 x22) 0 x6) x21 (wrap64 (x22 + 1))) else (none)) else (none)) else (none)) else (none))) else (if 0 ≤ (x0.length : Int) then (if (x0.length : Int) < (x5.length : Int) then (some (x5.set ((x0.length : Int) : Int).toNat x6)) else (none)) else (none))
end
def nat_sum.f (k : Nat) (l0 : List Int) (l1 : List Int) : Option (List Int) := if (l0.length : Int) < (l1.length : Int) then (if 0 ≤ (wrap64 ((l1.length : Int) + 1)) then (if (wrap64 ((l1.length : Int) + 1) : Int).toNat ≤ 35184372088832 then (nat_sum.l0 k l1 l0 (List.replicate (wrap64 ((l1.length : Int) + 1) : Int).toNat 0) 0 (l1.length : Int) 0) else (none)) else (none)) else (if 0 ≤ (wrap64 ((l0.length : Int) + 1)) then (if (wrap64 ((l0.length : Int) + 1) : Int).toNat ≤ 35184372088832 then (nat_sum.l51 k l0 l1 (List.replicate (wrap64 ((l0.length : Int) + 1) : Int).toNat 0) 0 (l0.length : Int) 0) else (none)) else (none))
set_option maxHeartbeats 8000000 in
set_option maxRecDepth 100000 in
theorem nat_sum.calls (k : Nat) (A0 : Option Addr) (c0 : Nat) (l0 : List Int) (A1 : Option Addr) (c1 : Nat) (l1 : List Int) (r : List Int) (w : World) (hr0 : Kd.C (Kd.int .u64) w A0 l0.length l0) (hc0 : l0.length ≤ c0) (hr1 : Kd.C (Kd.int .u64) w A1 l1.length l1) (hc1 : l1.length ≤ c1) (h : nat_sum.f k l0 l1 = some r) :
  Calls Try.prog 106 #[.slice A0 l0.length c0, .slice A1 l1.length c1] w fun e w' => ∃ v0_ : Value, e = .returned (v0_) ∧ Kd.R (Kd.int .u64) 47 w' w.heap.size (fun _ => True) v0_ r ∧ Below w.heap.size w w' := by
 have HR0 := Aside0.mk hr0; have HC0 := Aside0.mk hc0; clear hr0 hc0; have HR1 := Aside0.mk hr1; have HC1 := Aside0.mk hc1; clear hr1 hc1
 have HB := Aside0.mk (Below.refl w.heap.size w)
 have H : (if (l0.length : Int) < (l1.length : Int) then (if 0 ≤ (wrap64 ((l1.length : Int) + 1)) then (if (wrap64 ((l1.length : Int) + 1) : Int).toNat ≤ 35184372088832 then (nat_sum.l0 k l1 l0 (List.replicate (wrap64 ((l1.length : Int) + 1) : Int).toNat 0) 0 (l1.length : Int) 0) else (none)) else (none)) else (if 0 ≤ (wrap64 ((l0.length : Int) + 1)) then (if (wrap64 ((l0.length : Int) + 1) : Int).toNat ≤ 35184372088832 then (nat_sum.l51 k l0 l1 (List.replicate (wrap64 ((l0.length : Int) + 1) : Int).toNat 0) 0 (l0.length : Int) 0) else (none)) else (none))) = some r := h
 clear h
 by_cases c3 : (l0.length : Int) < (l1.length : Int)
 ·
  rw [if_pos c3] at H
  have c3b0 : decide ((l0.length : Int) < (l1.length : Int)) = true := decide_eq_true c3
  have c3b1 : decide (l0.length < l1.length) = true := decide_eq_true (Int.ofNat_lt.mp c3)
  clear c3
  obtain ⟨ji4, hji4⟩ : ∃ j_ : Int, (wrap64 ((l1.length : Int) + 1)) = j_ := ⟨_, rfl⟩
  first | rw [hji4] at H | simp only [hji4] at H
  have hji4w : (IntKind.i64.wrap ((l1.length : Int) + 1)) = ji4 := (i64_w _).trans hji4
  replace H := uT H; obtain ⟨c5, H⟩ := H
  have c5b0 := eq_true c5
  have c5b1 : decide (0 ≤ (ji4)) = true := decide_eq_true c5
  clear c5
  replace H := uT H; obtain ⟨c6, H⟩ := H
  have c6b0 := eq_true c6
  have c6b1 : decide ((ji4 : Int).toNat ≤ 35184372088832) = true := decide_eq_true c6
  clear c6
  obtain ⟨y383, hy383⟩ : ∃ y_ : List Int, y_ = (List.replicate (ji4 : Int).toNat 0) := ⟨_, rfl⟩
  replace H : (nat_sum.l0 k l1 l0 y383 0 (l1.length : Int) 0) = some r := by first | (rw [hy383]; with_reducible exact H) | (have H2_ := (Option.bind_some _ _).symm.trans H; rw [hy383]; with_reducible exact H2_) | (have H2_ := (Option.bind_some _ _).symm.trans H; with_reducible exact H2_) | with_reducible exact H | (rw [hy383]; exact H) | exact H
  have Ny383 := Aside0.mk hy383; clear hy383
  have H' := Aside0.mk H
  clear H
  go_enter Try.func106, Try.ntmps106
  go_wp2_with (first | ((with_reducible refine gate_dst (N := 19) rfl ?_); refine Kd.R_make (Kd.int .u64) _ 47 rfl (N := 19) rfl 29 _ _ rfl ji4 rfl rfl Try.underlying29 (.int .u64 0) 8 info47 rfl (by decide) (by omega) 0 (ok := fun _ => True) (okp := fun _ => True) rfl (fun _ hk => hk) trivial uO (Nat.le_trans (Nat.mul_le_mul_right _ (uO : ji4.toNat ≤ 35184372088832)) (by omega)) (Below.refl _ _) (Nat.le_refl _) ?_; intro v384 w7 ho8 hb hg_ hnew_; clear hg_ hnew_; (first | rw [← Ny383.out] at ho8 | (simp only [Int.reduceToNat] at ho8; rw [← Ny383.out] at ho8)); have HO385 := Aside0.mk (Kd.R_lower ho8 (below_size uB)); replace HB := uy hb; clear hb ho8))
  go_loopg [6, 22] k (fun kq v6 v22 w' => ∃ (x5_1 : List Int) (x6_1 : Int) (x22_1 : Int), v6 = .int .u64 x6_1 ∧ v22 = .int .i64 x22_1 ∧ Aside0 (nat_sum.l0 kq l1 l0 x5_1 x6_1 (l1.length : Int) x22_1 = some r) ∧ Aside0 (kq ≤ k) ∧ Aside0 (Kd.R (Kd.int .u64) 47 w' w.heap.size (fun _ => True) v384 x5_1) ∧ Aside0 (Below w.heap.size w w'))
  case atStart => exact ⟨(y383), (0), (0), uG, uG, H', ⟨Nat.le_refl _⟩, ⟨uR HO385.out⟩, ⟨uB⟩⟩
  case round =>
   clear H'
   (try clear c1); (try clear p2); (try clear c3); (try clear c3b0); (try clear c3b1); (try clear c5); (try clear c5b0); (try clear c5b1); (try clear c6); (try clear c6b0); (try clear c6b1); (try clear p6)
   obtain ⟨x5_1, x6_1, x22_1, rfl, rfl, HA, HK1, HO_5, HB⟩ := hrel
   cases gk with
   | zero => exact absurd HA.out (by simp [nat_sum.l0])
   | succ k1 =>
    have H := HA.out
    clear HA
    simp only [nat_sum.l0] at H
    by_cases c9 : x22_1 < (l1.length : Int)
    ·
     rw [if_pos c9] at H
     have c9b0 : decide (x22_1 < (l1.length : Int)) = true := decide_eq_true c9
     clear c9
     by_cases c10 : x22_1 < (l0.length : Int)
     ·
      rw [if_pos c10] at H
      have c10b0 : decide (x22_1 < (l0.length : Int)) = true := decide_eq_true c10
      clear c10
      replace H := uT H; obtain ⟨c11, H⟩ := H
      have c11b0 : decide (0 ≤ x22_1) = true := decide_eq_true c11
      clear c11
      replace H := uT H; obtain ⟨c12, H⟩ := H
      have c12b0 : decide (x22_1 < (l1.length : Int)) = true := decide_eq_true c12
      clear c12
      replace H := uT H; obtain ⟨c13, H⟩ := H
      have c13b0 : carry01 x6_1 = true := c13
      clear c13
      replace H := uT H; obtain ⟨c14, H⟩ := H
      have c14b0 : decide (x22_1 < (x5_1.length : Int)) = true := decide_eq_true c14
      clear c14
      obtain ⟨y388, hy388⟩ : ∃ y_ : List Int, y_ = (x5_1.set (x22_1 : Int).toNat (add64_s (rd l1 x22_1) (rd l0 x22_1) x6_1)) := ⟨_, rfl⟩
      replace H : (nat_sum.l0 k1 l1 l0 y388 (add64_c (rd l1 x22_1) (rd l0 x22_1) x6_1) (l1.length : Int) (wrap64 (x22_1 + 1))) = some r := by first | (rw [hy388]; with_reducible exact H) | (have H2_ := (Option.bind_some _ _).symm.trans H; rw [hy388]; with_reducible exact H2_) | (have H2_ := (Option.bind_some _ _).symm.trans H; with_reducible exact H2_) | with_reducible exact H | (rw [hy388]; exact H) | exact H
      have Ny388 := Aside0.mk hy388; clear hy388
      have H' := Aside0.mk H
      clear H
      have p386 : 0 ≤ (x22_1 : Int) := uO
      have q386 : x22_1 < (l0.length : Int) := uO
      obtain ⟨ad386, e386, hx386_0⟩ := Kd.at_int HR0.out x22_1 p386 q386
      cases e386
      replace hx386_0 := (HB.out.cell (World.block_lt_of_cell? w _ hx386_0)).trans hx386_0
      replace p386 := eq_true p386
      replace q386 := eq_true q386
      have p387 : 0 ≤ (x22_1 : Int) := uO
      have q387 : x22_1 < (l1.length : Int) := uO
      obtain ⟨ad387, e387, hx387_0⟩ := Kd.at_int HR1.out x22_1 p387 q387
      cases e387
      replace hx387_0 := (HB.out.cell (World.block_lt_of_cell? w _ hx387_0)).trans hx387_0
      replace p387 := eq_true p387
      replace q387 := eq_true q387
      have p15 : 0 ≤ (x22_1 : Int) := uO
      have q15 : (x22_1 : Int) < ((x5_1.length : Int) : Int) := uO
      obtain ⟨go15, co15, eo15, gb15, gl15, cl15, HG15⟩ := Kd.R_form HO_5.out (by omega)
      (first | cases eo15 | (injection eo15 with ea_ en_ ec_; (first | subst ea_ | (injection ea_ with ea_; subst ea_)); subst ec_; clear en_))
      have GB15 := Aside0.mk gb15; have GG15 := Aside0.mk HG15; clear gb15 gl15 HG15
      obtain ⟨hx15_0, hf15_0⟩ := Kd.R_celln 0 HO_5.out (x22_1 : Int) p15 q15
      replace p15 := eq_true p15
      replace q15 := eq_true q15
      have HP16 := Kd.R_putg HO_5.out (x22_1 : Int) (add64_s (rd l1 x22_1) (rd l0 x22_1) x6_1)
      go_wp2_with (first | ((with_reducible refine gate_store (t := 47) (p := 45) rfl ?_); refine store_event (t := 47) (p := 45) (v := ?vo_w17) (w1 := (wr.setCell ⟨go15, (x22_1 : Int).toNat, none⟩ (.int .u64 (add64_s (rd l1 x22_1) (rd l0 x22_1) x6_1)))) ?hg ?ho ?hn ?hr ?_; (case ho => rfl); (case hg => rfl); (case hn => rfl); (case hr => first | (go_simp; done) | (go_simp; rfl) | (obtain ⟨hy_, hz_⟩ := Kd.R_celln 0 HO_5.out (x22_1 : Int) uO uO; (try simp only [Go.IntWalk.toNatUp] at hy_ hz_); (try simp only [Int.reduceToNat, Int.toNat_zero, Int.toNat_ofNat] at hy_ hz_); first | (go_simp; done) | (go_simp; rfl))); intro w17 hw; have hg : wr.grownBy w17 (some go15) := (by rw [hw]; exact HP16.2); have hp_ : Kd.R (Kd.int .u64) 47 w17 w.heap.size (fun _ => True) (.slice (some ⟨go15, 0, none⟩) x5_1.length co15) y388 := (by rw [hw, Ny388.out]; exact HP16.1); clear HP16; replace HO_5 := Aside0.mk (hp_); replace HB := Aside0.mk ((by rw [hw]; exact below_set (HB.out) GB15.out : Below w.heap.size w w17)); clear hg hw hp_))
      first | go_roundg k1 | ((try simp only [← hji4] at H'); simp only [← hji4]; go_roundg k1)
      case measure => have := HK1.out; omega
      case rel => first | exact ⟨(y388), (add64_c (rd l1 x22_1) (rd l0 x22_1) x6_1), (wrap64 (x22_1 + 1)), uG, uG, H', ⟨by have := HK1.out; omega⟩, ⟨uR HO_5.out⟩, ⟨uB⟩⟩ | (simp only [← hji4] at H'; exact ⟨(y388), (add64_c (rd l1 x22_1) (rd l0 x22_1) x6_1), (wrap64 (x22_1 + 1)), uG, uG, H', ⟨by have := HK1.out; omega⟩, ⟨uR HO_5.out⟩, ⟨uB⟩⟩)
     rw [if_neg c10] at H
     have c10b0 : decide (x22_1 < (l0.length : Int)) = false := decide_eq_false c10
     clear c10
     replace H := uT H; obtain ⟨c18, H⟩ := H
     have c18b0 : decide (0 ≤ x22_1) = true := decide_eq_true c18
     clear c18
     replace H := uT H; obtain ⟨c19, H⟩ := H
     have c19b0 : decide (x22_1 < (l1.length : Int)) = true := decide_eq_true c19
     clear c19
     replace H := uT H; obtain ⟨c20, H⟩ := H
     have c20b0 : carry01 x6_1 = true := c20
     clear c20
     replace H := uT H; obtain ⟨c21, H⟩ := H
     have c21b0 : decide (x22_1 < (x5_1.length : Int)) = true := decide_eq_true c21
     clear c21
     obtain ⟨y390, hy390⟩ : ∃ y_ : List Int, y_ = (x5_1.set (x22_1 : Int).toNat (add64_s (rd l1 x22_1) 0 x6_1)) := ⟨_, rfl⟩
     replace H : (nat_sum.l0 k1 l1 l0 y390 (add64_c (rd l1 x22_1) 0 x6_1) (l1.length : Int) (wrap64 (x22_1 + 1))) = some r := by first | (rw [hy390]; with_reducible exact H) | (have H2_ := (Option.bind_some _ _).symm.trans H; rw [hy390]; with_reducible exact H2_) | (have H2_ := (Option.bind_some _ _).symm.trans H; with_reducible exact H2_) | with_reducible exact H | (rw [hy390]; exact H) | exact H
     have Ny390 := Aside0.mk hy390; clear hy390
     have H' := Aside0.mk H
     clear H
     have p389 : 0 ≤ (x22_1 : Int) := uO
     have q389 : x22_1 < (l1.length : Int) := uO
     obtain ⟨ad389, e389, hx389_0⟩ := Kd.at_int HR1.out x22_1 p389 q389
     cases e389
     replace hx389_0 := (HB.out.cell (World.block_lt_of_cell? w _ hx389_0)).trans hx389_0
     replace p389 := eq_true p389
     replace q389 := eq_true q389
     have p22 : 0 ≤ (x22_1 : Int) := uO
     have q22 : (x22_1 : Int) < ((x5_1.length : Int) : Int) := uO
     obtain ⟨go22, co22, eo22, gb22, gl22, cl22, HG22⟩ := Kd.R_form HO_5.out (by omega)
     (first | cases eo22 | (injection eo22 with ea_ en_ ec_; (first | subst ea_ | (injection ea_ with ea_; subst ea_)); subst ec_; clear en_))
     have GB22 := Aside0.mk gb22; have GG22 := Aside0.mk HG22; clear gb22 gl22 HG22
     obtain ⟨hx22_0, hf22_0⟩ := Kd.R_celln 0 HO_5.out (x22_1 : Int) p22 q22
     replace p22 := eq_true p22
     replace q22 := eq_true q22
     have HP23 := Kd.R_putg HO_5.out (x22_1 : Int) (add64_s (rd l1 x22_1) 0 x6_1)
     go_wp2_with (first | ((with_reducible refine gate_store (t := 47) (p := 45) rfl ?_); refine store_event (t := 47) (p := 45) (v := ?vo_w24) (w1 := (wr.setCell ⟨go22, (x22_1 : Int).toNat, none⟩ (.int .u64 (add64_s (rd l1 x22_1) 0 x6_1)))) ?hg ?ho ?hn ?hr ?_; (case ho => rfl); (case hg => rfl); (case hn => rfl); (case hr => first | (go_simp; done) | (go_simp; rfl) | (obtain ⟨hy_, hz_⟩ := Kd.R_celln 0 HO_5.out (x22_1 : Int) uO uO; (try simp only [Go.IntWalk.toNatUp] at hy_ hz_); (try simp only [Int.reduceToNat, Int.toNat_zero, Int.toNat_ofNat] at hy_ hz_); first | (go_simp; done) | (go_simp; rfl))); intro w24 hw; have hg : wr.grownBy w24 (some go22) := (by rw [hw]; exact HP23.2); have hp_ : Kd.R (Kd.int .u64) 47 w24 w.heap.size (fun _ => True) (.slice (some ⟨go22, 0, none⟩) x5_1.length co22) y390 := (by rw [hw, Ny390.out]; exact HP23.1); clear HP23; replace HO_5 := Aside0.mk (hp_); replace HB := Aside0.mk ((by rw [hw]; exact below_set (HB.out) GB22.out : Below w.heap.size w w24)); clear hg hw hp_))
     first | go_roundg k1 | ((try simp only [← hji4] at H'); simp only [← hji4]; go_roundg k1)
     case measure => have := HK1.out; omega
     case rel => first | exact ⟨(y390), (add64_c (rd l1 x22_1) 0 x6_1), (wrap64 (x22_1 + 1)), uG, uG, H', ⟨by have := HK1.out; omega⟩, ⟨uR HO_5.out⟩, ⟨uB⟩⟩ | (simp only [← hji4] at H'; exact ⟨(y390), (add64_c (rd l1 x22_1) 0 x6_1), (wrap64 (x22_1 + 1)), uG, uG, H', ⟨by have := HK1.out; omega⟩, ⟨uR HO_5.out⟩, ⟨uB⟩⟩)
    rw [if_neg c9] at H
    have c9b0 : decide (x22_1 < (l1.length : Int)) = false := decide_eq_false c9
    clear c9
    replace H := uT H; obtain ⟨c25, H⟩ := H
    have c25b0 : decide (0 ≤ (l1.length : Int)) = true := decide_eq_true c25
    have c25b1 : decide (0 ≤ l1.length) = true := decide_eq_true (by omega)
    clear c25
    replace H := uT H; obtain ⟨c26, H⟩ := H
    have c26b0 : decide ((l1.length : Int) < (x5_1.length : Int)) = true := decide_eq_true c26
    have c26b1 : decide (l1.length < x5_1.length) = true := decide_eq_true (Int.ofNat_lt.mp c26)
    clear c26
    obtain ⟨y391, hy391⟩ : ∃ y_ : List Int, y_ = (x5_1.set ((l1.length : Int) : Int).toNat x6_1) := ⟨_, rfl⟩
    replace H : (some y391) = some r := by first | (rw [hy391]; with_reducible exact H) | (have H2_ := (Option.bind_some _ _).symm.trans H; rw [hy391]; with_reducible exact H2_) | (have H2_ := (Option.bind_some _ _).symm.trans H; with_reducible exact H2_) | with_reducible exact H | (rw [hy391]; exact H) | exact H
    have Ny391 := Aside0.mk hy391; clear hy391
    obtain rfl := Option.some.inj H
    have p27 : 0 ≤ ((l1.length : Int) : Int) := uO
    have q27 : ((l1.length : Int) : Int) < ((x5_1.length : Int) : Int) := uO
    obtain ⟨go27, co27, eo27, gb27, gl27, cl27, HG27⟩ := Kd.R_form HO_5.out (by omega)
    (first | cases eo27 | (injection eo27 with ea_ en_ ec_; (first | subst ea_ | (injection ea_ with ea_; subst ea_)); subst ec_; clear en_))
    have GB27 := Aside0.mk gb27; have GG27 := Aside0.mk HG27; clear gb27 gl27 HG27
    obtain ⟨hx27_0, hf27_0⟩ := Kd.R_celln 0 HO_5.out ((l1.length : Int) : Int) p27 q27
    (try simp only [Go.IntWalk.toNatUp] at hx27_0 hf27_0)
    replace p27 := eq_true p27
    replace q27 := eq_true q27
    have HP28 := Kd.R_putg HO_5.out ((l1.length : Int) : Int) x6_1
    go_wp2_with (first | ((with_reducible refine gate_store (t := 47) (p := 51) rfl ?_); refine store_event (t := 47) (p := 51) (v := ?vo_w29) (w1 := (wr.setCell ⟨go27, ((l1.length : Int) : Int).toNat, none⟩ (.int .u64 x6_1))) ?hg ?ho ?hn ?hr ?_; (case ho => rfl); (case hg => rfl); (case hn => rfl); (case hr => first | (go_simp; done) | (go_simp; rfl) | (obtain ⟨hy_, hz_⟩ := Kd.R_celln 0 HO_5.out ((l1.length : Int) : Int) uO uO; (try simp only [Go.IntWalk.toNatUp] at hy_ hz_); (try simp only [Int.reduceToNat, Int.toNat_zero, Int.toNat_ofNat] at hy_ hz_); first | (go_simp; done) | (go_simp; rfl))); intro w29 hw; have hg : wr.grownBy w29 (some go27) := (by rw [hw]; exact HP28.2); have hp_ : Kd.R (Kd.int .u64) 47 w29 w.heap.size (fun _ => True) (.slice (some ⟨go27, 0, none⟩) x5_1.length co27) y391 := (by rw [hw, Ny391.out]; exact HP28.1); clear HP28; replace HO_5 := Aside0.mk (hp_); replace HB := Aside0.mk ((by rw [hw]; exact below_set (HB.out) GB27.out : Below w.heap.size w w29)); clear hg hw hp_))
    go_ret
    exact ⟨_, by first | rfl | (simp [errW_none, errW_some] <;> rfl) | (simp only [← hji4]; first | rfl | (simp [errW_none, errW_some] <;> rfl)) | (simp [*, errW_none, errW_some] <;> rfl), uR HO_5.out, uB⟩
 rw [if_neg c3] at H
 have c3b0 : decide ((l0.length : Int) < (l1.length : Int)) = false := decide_eq_false c3
 have c3b1 : decide (l0.length < l1.length) = false := decide_eq_false (fun h => c3 (Int.ofNat_lt.mpr h))
 clear c3
 obtain ⟨ji30, hji30⟩ : ∃ j_ : Int, (wrap64 ((l0.length : Int) + 1)) = j_ := ⟨_, rfl⟩
 first | rw [hji30] at H | simp only [hji30] at H
 have hji30w : (IntKind.i64.wrap ((l0.length : Int) + 1)) = ji30 := (i64_w _).trans hji30
 replace H := uT H; obtain ⟨c31, H⟩ := H
 have c31b0 := eq_true c31
 have c31b1 : decide (0 ≤ (ji30)) = true := decide_eq_true c31
 clear c31
 replace H := uT H; obtain ⟨c32, H⟩ := H
 have c32b0 := eq_true c32
 have c32b1 : decide ((ji30 : Int).toNat ≤ 35184372088832) = true := decide_eq_true c32
 clear c32
 obtain ⟨y392, hy392⟩ : ∃ y_ : List Int, y_ = (List.replicate (ji30 : Int).toNat 0) := ⟨_, rfl⟩
 replace H : (nat_sum.l51 k l0 l1 y392 0 (l0.length : Int) 0) = some r := by first | (rw [hy392]; with_reducible exact H) | (have H2_ := (Option.bind_some _ _).symm.trans H; rw [hy392]; with_reducible exact H2_) | (have H2_ := (Option.bind_some _ _).symm.trans H; with_reducible exact H2_) | with_reducible exact H | (rw [hy392]; exact H) | exact H
 have Ny392 := Aside0.mk hy392; clear hy392
 have H' := Aside0.mk H
 clear H
 go_enter Try.func106, Try.ntmps106
 go_wp2_with (first | ((with_reducible refine gate_dst (N := 19) rfl ?_); refine Kd.R_make (Kd.int .u64) _ 47 rfl (N := 19) rfl 29 _ _ rfl ji30 rfl rfl Try.underlying29 (.int .u64 0) 8 info47 rfl (by decide) (by omega) 0 (ok := fun _ => True) (okp := fun _ => True) rfl (fun _ hk => hk) trivial uO (Nat.le_trans (Nat.mul_le_mul_right _ (uO : ji30.toNat ≤ 35184372088832)) (by omega)) (Below.refl _ _) (Nat.le_refl _) ?_; intro v393 w33 ho34 hb hg_ hnew_; clear hg_ hnew_; (first | rw [← Ny392.out] at ho34 | (simp only [Int.reduceToNat] at ho34; rw [← Ny392.out] at ho34)); have HO394 := Aside0.mk (Kd.R_lower ho34 (below_size uB)); replace HB := uy hb; clear hb ho34))
 go_loopg [6, 22] k (fun kq v6 v22 w' => ∃ (x5_1 : List Int) (x6_1 : Int) (x22_1 : Int), v6 = .int .u64 x6_1 ∧ v22 = .int .i64 x22_1 ∧ Aside0 (nat_sum.l51 kq l0 l1 x5_1 x6_1 (l0.length : Int) x22_1 = some r) ∧ Aside0 (kq ≤ k) ∧ Aside0 (Kd.R (Kd.int .u64) 47 w' w.heap.size (fun _ => True) v393 x5_1) ∧ Aside0 (Below w.heap.size w w'))
 case atStart => exact ⟨(y392), (0), (0), uG, uG, H', ⟨Nat.le_refl _⟩, ⟨uR HO394.out⟩, ⟨uB⟩⟩
 case round =>
  clear H'
  (try clear c1); (try clear p1); (try clear q1); (try clear hx1); (try clear c2); (try clear p2 p2); (try clear q2); (try clear hx2); (try clear hf2); (try clear c3); (try clear c3b0); (try clear c3b1); (try clear p3); (try clear q3); (try clear hx3); (try clear c5); (try clear c5b0); (try clear c5b1); (try clear c6); (try clear c6b0); (try clear c6b1); (try clear p6 p6); (try clear c9); (try clear c9b0); (try clear c10); (try clear c10b0); (try clear c11); (try clear c11b0); (try clear c12); (try clear c12b0); (try clear c13); (try clear c13b0); (try clear c14); (try clear c14b0); (try clear p15 p15); (try clear q15 q15); (try clear hx15 hx15_0); (try clear hf15); (try clear c18); (try clear c18b0); (try clear c19); (try clear c19b0); (try clear c20); (try clear c20b0); (try clear c21); (try clear c21b0); (try clear p22 p22); (try clear q22 q22); (try clear hx22 hx22_0); (try clear hf22); (try clear c25); (try clear c25b0); (try clear c25b1); (try clear c26); (try clear c26b0); (try clear c26b1); (try clear p27 p27); (try clear q27 q27); (try clear hx27 hx27_0); (try clear hf27); (try clear c31); (try clear c31b0); (try clear c31b1); (try clear c32); (try clear c32b0); (try clear c32b1); (try clear hx386_0); (try clear hx387_0); (try clear hx389_0); (try clear p386); (try clear p387); (try clear p389); (try clear q386); (try clear q387); (try clear q389)
  obtain ⟨x5_1, x6_1, x22_1, rfl, rfl, HA, HK1, HO_5, HB⟩ := hrel
  cases gk with
  | zero => exact absurd HA.out (by simp [nat_sum.l51])
  | succ k1 =>
   have H := HA.out
   clear HA
   simp only [nat_sum.l51] at H
   by_cases c35 : x22_1 < (l0.length : Int)
   ·
    rw [if_pos c35] at H
    have c35b0 : decide (x22_1 < (l0.length : Int)) = true := decide_eq_true c35
    clear c35
    by_cases c36 : x22_1 < (l1.length : Int)
    ·
     rw [if_pos c36] at H
     have c36b0 : decide (x22_1 < (l1.length : Int)) = true := decide_eq_true c36
     clear c36
     replace H := uT H; obtain ⟨c37, H⟩ := H
     have c37b0 : decide (0 ≤ x22_1) = true := decide_eq_true c37
     clear c37
     replace H := uT H; obtain ⟨c38, H⟩ := H
     have c38b0 : decide (x22_1 < (l0.length : Int)) = true := decide_eq_true c38
     clear c38
     replace H := uT H; obtain ⟨c39, H⟩ := H
     have c39b0 : carry01 x6_1 = true := c39
     clear c39
     replace H := uT H; obtain ⟨c40, H⟩ := H
     have c40b0 : decide (x22_1 < (x5_1.length : Int)) = true := decide_eq_true c40
     clear c40
     obtain ⟨y397, hy397⟩ : ∃ y_ : List Int, y_ = (x5_1.set (x22_1 : Int).toNat (add64_s (rd l0 x22_1) (rd l1 x22_1) x6_1)) := ⟨_, rfl⟩
     replace H : (nat_sum.l51 k1 l0 l1 y397 (add64_c (rd l0 x22_1) (rd l1 x22_1) x6_1) (l0.length : Int) (wrap64 (x22_1 + 1))) = some r := by first | (rw [hy397]; with_reducible exact H) | (have H2_ := (Option.bind_some _ _).symm.trans H; rw [hy397]; with_reducible exact H2_) | (have H2_ := (Option.bind_some _ _).symm.trans H; with_reducible exact H2_) | with_reducible exact H | (rw [hy397]; exact H) | exact H
     have Ny397 := Aside0.mk hy397; clear hy397
     have H' := Aside0.mk H
     clear H
     have p395 : 0 ≤ (x22_1 : Int) := uO
     have q395 : x22_1 < (l1.length : Int) := uO
     obtain ⟨ad395, e395, hx395_0⟩ := Kd.at_int HR1.out x22_1 p395 q395
     cases e395
     replace hx395_0 := (HB.out.cell (World.block_lt_of_cell? w _ hx395_0)).trans hx395_0
     replace p395 := eq_true p395
     replace q395 := eq_true q395
     have p396 : 0 ≤ (x22_1 : Int) := uO
     have q396 : x22_1 < (l0.length : Int) := uO
     obtain ⟨ad396, e396, hx396_0⟩ := Kd.at_int HR0.out x22_1 p396 q396
     cases e396
     replace hx396_0 := (HB.out.cell (World.block_lt_of_cell? w _ hx396_0)).trans hx396_0
     replace p396 := eq_true p396
     replace q396 := eq_true q396
     have p41 : 0 ≤ (x22_1 : Int) := uO
     have q41 : (x22_1 : Int) < ((x5_1.length : Int) : Int) := uO
     obtain ⟨go41, co41, eo41, gb41, gl41, cl41, HG41⟩ := Kd.R_form HO_5.out (by omega)
     (first | cases eo41 | (injection eo41 with ea_ en_ ec_; (first | subst ea_ | (injection ea_ with ea_; subst ea_)); subst ec_; clear en_))
     have GB41 := Aside0.mk gb41; have GG41 := Aside0.mk HG41; clear gb41 gl41 HG41
     obtain ⟨hx41_0, hf41_0⟩ := Kd.R_celln 0 HO_5.out (x22_1 : Int) p41 q41
     replace p41 := eq_true p41
     replace q41 := eq_true q41
     have HP42 := Kd.R_putg HO_5.out (x22_1 : Int) (add64_s (rd l0 x22_1) (rd l1 x22_1) x6_1)
     go_wp2_with (first | ((with_reducible refine gate_store (t := 47) (p := 45) rfl ?_); refine store_event (t := 47) (p := 45) (v := ?vo_w43) (w1 := (wr.setCell ⟨go41, (x22_1 : Int).toNat, none⟩ (.int .u64 (add64_s (rd l0 x22_1) (rd l1 x22_1) x6_1)))) ?hg ?ho ?hn ?hr ?_; (case ho => rfl); (case hg => rfl); (case hn => rfl); (case hr => first | (go_simp; done) | (go_simp; rfl) | (obtain ⟨hy_, hz_⟩ := Kd.R_celln 0 HO_5.out (x22_1 : Int) uO uO; (try simp only [Go.IntWalk.toNatUp] at hy_ hz_); (try simp only [Int.reduceToNat, Int.toNat_zero, Int.toNat_ofNat] at hy_ hz_); first | (go_simp; done) | (go_simp; rfl))); intro w43 hw; have hg : wr.grownBy w43 (some go41) := (by rw [hw]; exact HP42.2); have hp_ : Kd.R (Kd.int .u64) 47 w43 w.heap.size (fun _ => True) (.slice (some ⟨go41, 0, none⟩) x5_1.length co41) y397 := (by rw [hw, Ny397.out]; exact HP42.1); clear HP42; replace HO_5 := Aside0.mk (hp_); replace HB := Aside0.mk ((by rw [hw]; exact below_set (HB.out) GB41.out : Below w.heap.size w w43)); clear hg hw hp_))
     first | go_roundg k1 | ((try simp only [← hji30] at H'); simp only [← hji30]; go_roundg k1) | ((try simp only [← hji4] at H'); simp only [← hji4]; go_roundg k1)
     case measure => have := HK1.out; omega
     case rel => first | exact ⟨(y397), (add64_c (rd l0 x22_1) (rd l1 x22_1) x6_1), (wrap64 (x22_1 + 1)), uG, uG, H', ⟨by have := HK1.out; omega⟩, ⟨uR HO_5.out⟩, ⟨uB⟩⟩ | (simp only [← hji30] at H'; exact ⟨(y397), (add64_c (rd l0 x22_1) (rd l1 x22_1) x6_1), (wrap64 (x22_1 + 1)), uG, uG, H', ⟨by have := HK1.out; omega⟩, ⟨uR HO_5.out⟩, ⟨uB⟩⟩) | (simp only [← hji4] at H'; exact ⟨(y397), (add64_c (rd l0 x22_1) (rd l1 x22_1) x6_1), (wrap64 (x22_1 + 1)), uG, uG, H', ⟨by have := HK1.out; omega⟩, ⟨uR HO_5.out⟩, ⟨uB⟩⟩)
    rw [if_neg c36] at H
    have c36b0 : decide (x22_1 < (l1.length : Int)) = false := decide_eq_false c36
    clear c36
    replace H := uT H; obtain ⟨c44, H⟩ := H
    have c44b0 : decide (0 ≤ x22_1) = true := decide_eq_true c44
    clear c44
    replace H := uT H; obtain ⟨c45, H⟩ := H
    have c45b0 : decide (x22_1 < (l0.length : Int)) = true := decide_eq_true c45
    clear c45
    replace H := uT H; obtain ⟨c46, H⟩ := H
    have c46b0 : carry01 x6_1 = true := c46
    clear c46
    replace H := uT H; obtain ⟨c47, H⟩ := H
    have c47b0 : decide (x22_1 < (x5_1.length : Int)) = true := decide_eq_true c47
    clear c47
    obtain ⟨y399, hy399⟩ : ∃ y_ : List Int, y_ = (x5_1.set (x22_1 : Int).toNat (add64_s (rd l0 x22_1) 0 x6_1)) := ⟨_, rfl⟩
    replace H : (nat_sum.l51 k1 l0 l1 y399 (add64_c (rd l0 x22_1) 0 x6_1) (l0.length : Int) (wrap64 (x22_1 + 1))) = some r := by first | (rw [hy399]; with_reducible exact H) | (have H2_ := (Option.bind_some _ _).symm.trans H; rw [hy399]; with_reducible exact H2_) | (have H2_ := (Option.bind_some _ _).symm.trans H; with_reducible exact H2_) | with_reducible exact H | (rw [hy399]; exact H) | exact H
    have Ny399 := Aside0.mk hy399; clear hy399
    have H' := Aside0.mk H
    clear H
    have p398 : 0 ≤ (x22_1 : Int) := uO
    have q398 : x22_1 < (l0.length : Int) := uO
    obtain ⟨ad398, e398, hx398_0⟩ := Kd.at_int HR0.out x22_1 p398 q398
    cases e398
    replace hx398_0 := (HB.out.cell (World.block_lt_of_cell? w _ hx398_0)).trans hx398_0
    replace p398 := eq_true p398
    replace q398 := eq_true q398
    have p48 : 0 ≤ (x22_1 : Int) := uO
    have q48 : (x22_1 : Int) < ((x5_1.length : Int) : Int) := uO
    obtain ⟨go48, co48, eo48, gb48, gl48, cl48, HG48⟩ := Kd.R_form HO_5.out (by omega)
    (first | cases eo48 | (injection eo48 with ea_ en_ ec_; (first | subst ea_ | (injection ea_ with ea_; subst ea_)); subst ec_; clear en_))
    have GB48 := Aside0.mk gb48; have GG48 := Aside0.mk HG48; clear gb48 gl48 HG48
    obtain ⟨hx48_0, hf48_0⟩ := Kd.R_celln 0 HO_5.out (x22_1 : Int) p48 q48
    replace p48 := eq_true p48
    replace q48 := eq_true q48
    have HP49 := Kd.R_putg HO_5.out (x22_1 : Int) (add64_s (rd l0 x22_1) 0 x6_1)
    go_wp2_with (first | ((with_reducible refine gate_store (t := 47) (p := 45) rfl ?_); refine store_event (t := 47) (p := 45) (v := ?vo_w50) (w1 := (wr.setCell ⟨go48, (x22_1 : Int).toNat, none⟩ (.int .u64 (add64_s (rd l0 x22_1) 0 x6_1)))) ?hg ?ho ?hn ?hr ?_; (case ho => rfl); (case hg => rfl); (case hn => rfl); (case hr => first | (go_simp; done) | (go_simp; rfl) | (obtain ⟨hy_, hz_⟩ := Kd.R_celln 0 HO_5.out (x22_1 : Int) uO uO; (try simp only [Go.IntWalk.toNatUp] at hy_ hz_); (try simp only [Int.reduceToNat, Int.toNat_zero, Int.toNat_ofNat] at hy_ hz_); first | (go_simp; done) | (go_simp; rfl))); intro w50 hw; have hg : wr.grownBy w50 (some go48) := (by rw [hw]; exact HP49.2); have hp_ : Kd.R (Kd.int .u64) 47 w50 w.heap.size (fun _ => True) (.slice (some ⟨go48, 0, none⟩) x5_1.length co48) y399 := (by rw [hw, Ny399.out]; exact HP49.1); clear HP49; replace HO_5 := Aside0.mk (hp_); replace HB := Aside0.mk ((by rw [hw]; exact below_set (HB.out) GB48.out : Below w.heap.size w w50)); clear hg hw hp_))
    first | go_roundg k1 | ((try simp only [← hji30] at H'); simp only [← hji30]; go_roundg k1) | ((try simp only [← hji4] at H'); simp only [← hji4]; go_roundg k1)
    case measure => have := HK1.out; omega
    case rel => first | exact ⟨(y399), (add64_c (rd l0 x22_1) 0 x6_1), (wrap64 (x22_1 + 1)), uG, uG, H', ⟨by have := HK1.out; omega⟩, ⟨uR HO_5.out⟩, ⟨uB⟩⟩ | (simp only [← hji30] at H'; exact ⟨(y399), (add64_c (rd l0 x22_1) 0 x6_1), (wrap64 (x22_1 + 1)), uG, uG, H', ⟨by have := HK1.out; omega⟩, ⟨uR HO_5.out⟩, ⟨uB⟩⟩) | (simp only [← hji4] at H'; exact ⟨(y399), (add64_c (rd l0 x22_1) 0 x6_1), (wrap64 (x22_1 + 1)), uG, uG, H', ⟨by have := HK1.out; omega⟩, ⟨uR HO_5.out⟩, ⟨uB⟩⟩)
   rw [if_neg c35] at H
   have c35b0 : decide (x22_1 < (l0.length : Int)) = false := decide_eq_false c35
   clear c35
   replace H := uT H; obtain ⟨c51, H⟩ := H
   have c51b0 : decide (0 ≤ (l0.length : Int)) = true := decide_eq_true c51
   have c51b1 : decide (0 ≤ l0.length) = true := decide_eq_true (by omega)
   clear c51
   replace H := uT H; obtain ⟨c52, H⟩ := H
   have c52b0 : decide ((l0.length : Int) < (x5_1.length : Int)) = true := decide_eq_true c52
   have c52b1 : decide (l0.length < x5_1.length) = true := decide_eq_true (Int.ofNat_lt.mp c52)
   clear c52
   obtain ⟨y400, hy400⟩ : ∃ y_ : List Int, y_ = (x5_1.set ((l0.length : Int) : Int).toNat x6_1) := ⟨_, rfl⟩
   replace H : (some y400) = some r := by first | (rw [hy400]; with_reducible exact H) | (have H2_ := (Option.bind_some _ _).symm.trans H; rw [hy400]; with_reducible exact H2_) | (have H2_ := (Option.bind_some _ _).symm.trans H; with_reducible exact H2_) | with_reducible exact H | (rw [hy400]; exact H) | exact H
   have Ny400 := Aside0.mk hy400; clear hy400
   obtain rfl := Option.some.inj H
   have p53 : 0 ≤ ((l0.length : Int) : Int) := uO
   have q53 : ((l0.length : Int) : Int) < ((x5_1.length : Int) : Int) := uO
   obtain ⟨go53, co53, eo53, gb53, gl53, cl53, HG53⟩ := Kd.R_form HO_5.out (by omega)
   (first | cases eo53 | (injection eo53 with ea_ en_ ec_; (first | subst ea_ | (injection ea_ with ea_; subst ea_)); subst ec_; clear en_))
   have GB53 := Aside0.mk gb53; have GG53 := Aside0.mk HG53; clear gb53 gl53 HG53
   obtain ⟨hx53_0, hf53_0⟩ := Kd.R_celln 0 HO_5.out ((l0.length : Int) : Int) p53 q53
   (try simp only [Go.IntWalk.toNatUp] at hx53_0 hf53_0)
   replace p53 := eq_true p53
   replace q53 := eq_true q53
   have HP54 := Kd.R_putg HO_5.out ((l0.length : Int) : Int) x6_1
   go_wp2_with (first | ((with_reducible refine gate_store (t := 47) (p := 51) rfl ?_); refine store_event (t := 47) (p := 51) (v := ?vo_w55) (w1 := (wr.setCell ⟨go53, ((l0.length : Int) : Int).toNat, none⟩ (.int .u64 x6_1))) ?hg ?ho ?hn ?hr ?_; (case ho => rfl); (case hg => rfl); (case hn => rfl); (case hr => first | (go_simp; done) | (go_simp; rfl) | (obtain ⟨hy_, hz_⟩ := Kd.R_celln 0 HO_5.out ((l0.length : Int) : Int) uO uO; (try simp only [Go.IntWalk.toNatUp] at hy_ hz_); (try simp only [Int.reduceToNat, Int.toNat_zero, Int.toNat_ofNat] at hy_ hz_); first | (go_simp; done) | (go_simp; rfl))); intro w55 hw; have hg : wr.grownBy w55 (some go53) := (by rw [hw]; exact HP54.2); have hp_ : Kd.R (Kd.int .u64) 47 w55 w.heap.size (fun _ => True) (.slice (some ⟨go53, 0, none⟩) x5_1.length co53) y400 := (by rw [hw, Ny400.out]; exact HP54.1); clear HP54; replace HO_5 := Aside0.mk (hp_); replace HB := Aside0.mk ((by rw [hw]; exact below_set (HB.out) GB53.out : Below w.heap.size w w55)); clear hg hw hp_))
   go_ret
   exact ⟨_, by first | rfl | (simp [errW_none, errW_some] <;> rfl) | (simp only [← hji30]; first | rfl | (simp [errW_none, errW_some] <;> rfl)) | (simp [*, errW_none, errW_some] <;> rfl), uR HO_5.out, uB⟩
end Go.Proofs.Ytgeanpnkllnipaa.F
end
section
namespace Go.Proofs.Ytgeanpnkllnipaa.Z
open Go.RowKit Go.Proofs.Ytgeanpnkllnipaa.F Go.Proofs.YtgeanpnkllnipaaW.PrintWords
set_option linter.unusedSimpArgs false
set_option linter.unusedVariables false
def sumL : List Int → List Int → Int → List Int
  | [], _, c => [c]
  | x :: a, b, c => add64_s x (b.getD 0 0) c :: sumL a (b.drop 1) (add64_c x (b.getD 0 0) c)
theorem add64_facts {x y c : Int} (hx : 0 ≤ x ∧ x < (b64 : Int)) (hy : 0 ≤ y ∧ y < (b64 : Int)) (hc : c = 0 ∨ c = 1) :
    add64_s x y c + (b64 : Int) * add64_c x y c = x + y + c ∧ (0 ≤ add64_s x y c ∧ add64_s x y c < (b64 : Int)) ∧ (add64_c x y c = 0 ∨ add64_c x y c = 1) := by
  unfold add64_s add64_c
  simp only [b64] at *
  omega
theorem sumL_facts : ∀ (a b : List Int) (c : Int), Dig (b64 : Int) a → Dig (b64 : Int) b → b.length ≤ a.length → (c = 0 ∨ c = 1) →
    Dig (b64 : Int) (sumL a b c) ∧ val (b64 : Int) (sumL a b c) = val (b64 : Int) a + val (b64 : Int) b + c := by
  intro a
  induction a with
  | nil =>
    intro b c _ _ hlen hc
    have : b = [] := List.length_eq_zero_iff.1 (by simpa using hlen)
    subst this
    refine ⟨?_, ?_⟩
    · intro x hx
      simp [sumL] at hx
      subst hx
      simp only [b64]; omega
    · simp [sumL, val]
  | cons x a ih =>
    intro b c da db hlen hc
    have d1 := Dig.cons.1 da
    have hy := db.getD b64_pos 0
    obtain ⟨e1, e2, e3⟩ := add64_facts d1.1 hy hc
    obtain ⟨i1, i2⟩ := ih (b.drop 1) _ d1.2 (db.drop 1) (by simp at hlen ⊢; omega) e3
    refine ⟨Dig.cons.2 ⟨e2, i1⟩, ?_⟩
    simp only [sumL, val]
    rw [i2]
    have hb : val (b64 : Int) b = b.getD 0 0 + (b64 : Int) * val (b64 : Int) (b.drop 1) := by
      cases b with
      | nil => simp [val]
      | cons y b => simp [val]
    rw [hb]
    generalize (b64 : Int) = B at *
    generalize add64_s x (b.getD 0 0) c = s at *
    generalize add64_c x (b.getD 0 0) c = t at *
    generalize val B a = va at *
    generalize val B (b.drop 1) = vb at *
    generalize b.getD 0 0 = y at *
    have : B * (va + vb + t) = B * va + B * vb + B * t := by rw [Int.mul_add, Int.mul_add]
    omega
theorem nat_sum_l0 (a b : List Int) (ha : a.length ≤ 1000) (hb : b.length ≤ 1000) (da : Dig (b64 : Int) a) (db : Dig (b64 : Int) b) (n : Nat) : ∀ (i : Nat) (p : List Int) (c : Int), p.length = i → i ≤ a.length → a.length - i = n → (c = 0 ∨ c = 1) →
    Evt (fun k => nat_sum.l0 k a b (p ++ List.replicate (n + 1) 0) c (a.length : Int) (i : Int)) (p ++ sumL (a.drop i) (b.drop i) c) := by
  induction n with
  | zero =>
    intro i p c hp hi hn hc
    refine Evt.succ ?_
    simp only [nat_sum.l0]
    refine Evt.ite_neg (by omega) (Evt.ite_pos (by omega) (Evt.ite_pos (by simp; omega) ?_))
    rw [List.drop_of_length_le (show a.length ≤ i by omega), show ((a.length : Int)).toNat = p.length from by omega]
    simp only [sumL, List.replicate_succ, List.replicate_zero]
    rw [set_at]
    exact Evt.pure _
  | succ n ih =>
    intro i p c hp hi hn hc
    have hlt : i < a.length := by omega
    refine Evt.succ ?_
    simp only [nat_sum.l0]
    refine Evt.ite_pos (by omega) ?_
    have hx : rd a (i : Int) = a[i] := by simp [rd_nat, hlt]
    have hxr := da a[i] (List.getElem_mem hlt)
    have hset : ∀ v : Int, (p ++ List.replicate (n + 1 + 1) 0).set ((i : Int)).toNat v = (p ++ [v]) ++ List.replicate (n + 1) 0 := by
      intro v
      rw [show ((i : Int)).toNat = p.length from by omega, List.replicate_succ, set_at, List.append_assoc]
      rfl
    have hyr := (db.drop i).getD b64_pos 0
    have hfin : ∀ y : Int, y = (b.drop i).getD 0 0 → Evt (fun k => nat_sum.l0 k a b ((p ++ List.replicate (n + 1 + 1) 0).set ((i : Int)).toNat (add64_s (rd a (i : Int)) y c)) (add64_c (rd a (i : Int)) y c) (a.length : Int) (wrap64 ((i : Int) + 1))) (p ++ sumL (a.drop i) (b.drop i) c) := by
      intro y hy
      subst hy
      obtain ⟨e1, e2, e3⟩ := add64_facts hxr hyr hc
      rw [hx, hset, w64 (by omega) (by omega)]
      have h := ih (i + 1) (p ++ [add64_s a[i] ((b.drop i).getD 0 0) c]) (add64_c a[i] ((b.drop i).getD 0 0) c) (by simp [hp]) (by omega) (by omega) e3
      refine h.congr (fun k => rfl) ?_
      rw [List.drop_eq_getElem_cons hlt]
      simp only [sumL, List.drop_drop, List.append_assoc, List.singleton_append]
    by_cases hib : i < b.length
    · refine Evt.ite_pos (by omega) (Evt.ite_pos (by omega) (Evt.ite_pos (by omega) (Evt.ite_pos (carry_of hc) (Evt.ite_pos (by simp; omega) ?_))))
      refine hfin _ ?_
      simp [rd_nat, hib]
    · refine Evt.ite_neg (by omega) (Evt.ite_pos (by omega) (Evt.ite_pos (by omega) (Evt.ite_pos (carry_of hc) (Evt.ite_pos (by simp; omega) ?_))))
      refine hfin _ ?_
      simp [List.drop_of_length_le (show b.length ≤ i by omega)]
theorem nat_sum_l51 (a b : List Int) (ha : a.length ≤ 1000) (hb : b.length ≤ 1000) (da : Dig (b64 : Int) a) (db : Dig (b64 : Int) b) (n : Nat) : ∀ (i : Nat) (p : List Int) (c : Int), p.length = i → i ≤ a.length → a.length - i = n → (c = 0 ∨ c = 1) →
    Evt (fun k => nat_sum.l51 k a b (p ++ List.replicate (n + 1) 0) c (a.length : Int) (i : Int)) (p ++ sumL (a.drop i) (b.drop i) c) := by
  induction n with
  | zero =>
    intro i p c hp hi hn hc
    refine Evt.succ ?_
    simp only [nat_sum.l51]
    refine Evt.ite_neg (by omega) (Evt.ite_pos (by omega) (Evt.ite_pos (by simp; omega) ?_))
    rw [List.drop_of_length_le (show a.length ≤ i by omega), show ((a.length : Int)).toNat = p.length from by omega]
    simp only [sumL, List.replicate_succ, List.replicate_zero]
    rw [set_at]
    exact Evt.pure _
  | succ n ih =>
    intro i p c hp hi hn hc
    have hlt : i < a.length := by omega
    refine Evt.succ ?_
    simp only [nat_sum.l51]
    refine Evt.ite_pos (by omega) ?_
    have hx : rd a (i : Int) = a[i] := by simp [rd_nat, hlt]
    have hxr := da a[i] (List.getElem_mem hlt)
    have hset : ∀ v : Int, (p ++ List.replicate (n + 1 + 1) 0).set ((i : Int)).toNat v = (p ++ [v]) ++ List.replicate (n + 1) 0 := by
      intro v
      rw [show ((i : Int)).toNat = p.length from by omega, List.replicate_succ, set_at, List.append_assoc]
      rfl
    have hyr := (db.drop i).getD b64_pos 0
    have hfin : ∀ y : Int, y = (b.drop i).getD 0 0 → Evt (fun k => nat_sum.l51 k a b ((p ++ List.replicate (n + 1 + 1) 0).set ((i : Int)).toNat (add64_s (rd a (i : Int)) y c)) (add64_c (rd a (i : Int)) y c) (a.length : Int) (wrap64 ((i : Int) + 1))) (p ++ sumL (a.drop i) (b.drop i) c) := by
      intro y hy
      subst hy
      obtain ⟨e1, e2, e3⟩ := add64_facts hxr hyr hc
      rw [hx, hset, w64 (by omega) (by omega)]
      have h := ih (i + 1) (p ++ [add64_s a[i] ((b.drop i).getD 0 0) c]) (add64_c a[i] ((b.drop i).getD 0 0) c) (by simp [hp]) (by omega) (by omega) e3
      refine h.congr (fun k => rfl) ?_
      rw [List.drop_eq_getElem_cons hlt]
      simp only [sumL, List.drop_drop, List.append_assoc, List.singleton_append]
    by_cases hib : i < b.length
    · refine Evt.ite_pos (by omega) (Evt.ite_pos (by omega) (Evt.ite_pos (by omega) (Evt.ite_pos (carry_of hc) (Evt.ite_pos (by simp; omega) ?_))))
      refine hfin _ ?_
      simp [rd_nat, hib]
    · refine Evt.ite_neg (by omega) (Evt.ite_pos (by omega) (Evt.ite_pos (by omega) (Evt.ite_pos (carry_of hc) (Evt.ite_pos (by simp; omega) ?_))))
      refine hfin _ ?_
      simp [List.drop_of_length_le (show b.length ≤ i by omega)]
theorem nat_sum_ev (a b : List Int) (ha : a.length ≤ 1000) (hb : b.length ≤ 1000) (da : Dig (b64 : Int) a) (db : Dig (b64 : Int) b) : ∃ s, Evt (fun k => nat_sum.f k a b) s ∧ Dig (b64 : Int) s ∧ num s = num a + num b ∧ s.length ≤ 1002 := by
  unfold nat_sum.f
  have fin : ∀ (x y : List Int), Dig (b64 : Int) x → Dig (b64 : Int) y → y.length ≤ x.length → x.length ≤ 1000 → Dig (b64 : Int) (sumL x y 0) ∧ num (sumL x y 0) = num x + num y ∧ (sumL x y 0).length ≤ 1002 := by
    intro x y dx dy hlen hx
    obtain ⟨f1, f2⟩ := sumL_facts x y 0 dx dy hlen (Or.inl rfl)
    have l1 : ∀ (x y : List Int) (c : Int), (sumL x y c).length = x.length + 1 := by
      intro x
      induction x with
      | nil => intro y c; rfl
      | cons z x ih => intro y c; simp only [sumL, List.length_cons, ih]
    refine ⟨f1, ?_, by rw [l1]; omega⟩
    have := num_val f1
    have := num_val dx
    have := num_val dy
    omega
  have ex : ∀ x : List Int, x.length ≤ 1000 → wrap64 ((x.length : Int) + 1) = ((x.length + 1 : Nat) : Int) := fun x hx => by rw [w64 (by omega) (by omega)]; omega
  by_cases h : a.length < b.length
  · refine ⟨sumL b a 0, Evt.ite_pos (by omega) ?_, (fin b a db da (by omega) hb).1, by rw [(fin b a db da (by omega) hb).2.1]; omega, (fin b a db da (by omega) hb).2.2⟩
    rw [ex b hb]
    refine Evt.ite_pos (by omega) (Evt.ite_pos (by omega) ?_)
    exact (nat_sum_l0 b a hb ha db da b.length 0 [] 0 rfl (Nat.zero_le _) (by omega) (Or.inl rfl)).congr (fun k => rfl) (by simp)
  · refine ⟨sumL a b 0, Evt.ite_neg (by omega) ?_, (fin a b da db (by omega) ha).1, (fin a b da db (by omega) ha).2.1, (fin a b da db (by omega) ha).2.2⟩
    rw [ex a ha]
    refine Evt.ite_pos (by omega) (Evt.ite_pos (by omega) ?_)
    exact (nat_sum_l51 a b ha hb da db a.length 0 [] 0 rfl (Nat.zero_le _) (by omega) (Or.inl rfl)).congr (fun k => rfl) (by simp)
end Go.Proofs.Ytgeanpnkllnipaa.Z
end
section
namespace Go.Proofs.Ytgeanpnkllnipaa.F
open Go.RowKit Go.Proofs.YtgeanpnkllnipaaW.PrintWords Go.Proofs.YtgeanpnkllnipaaW.PrintLast Go.Proofs.YtgeanpnkllnipaaW.PrintMore
attribute [local go_sem] max2_int min2_int max_two min_two max_three min_three max_four min_four
set_option linter.unusedVariables false
set_option linter.unusedSimpArgs false
attribute [local go_sem] sub64_run
def nat_less.l0 : Nat → List Int → List Int → List Int → Int → Int → Int → Option (List Int)
 | 0, _, _, _, _, _, _ => none
 | k + 1, x0, x1, x5, x6, x13, x14 => if x14 < x13 then (if x14 < (x1.length : Int) then (if 0 ≤ x14 then (if x14 < (x0.length : Int) then (if carry01 x6 = true then (if x14 < (x5.length : Int) then (nat_less.l0 k x0 x1 (x5.set (x14 : Int).toNat (sub64_s (rd x0 x14) (rd x1 x14) x6)) (sub64_c (rd x0 x14) (rd x1 x14) x6) x13 (wrap64 (x14 + 1))) else (none)) else (none)) else (none)) else (none)) else (if 0 ≤ x14 then (if x14 < (x0.length : Int) then (if carry01 x6 = true then (if x14 < (x5.length : Int) then (nat_less.l0 k x0 x1 (x5.set (x14 : Int).toNat (sub64_s (rd x0 x14) 0 x6)) (sub64_c (rd x0 x14) 0 x6) x13 (wrap64 (x14 + 1))) else (none)) else (none)) else (none)) else (none))) else (some x5)
def nat_less.f (k : Nat) (l0 : List Int) (l1 : List Int) : Option (List Int) := if 0 ≤ (l0.length : Int) then (if ((l0.length : Int) : Int).toNat ≤ 35184372088832 then (nat_less.l0 k l0 l1 (List.replicate ((l0.length : Int) : Int).toNat 0) 0 (l0.length : Int) 0) else (none)) else (none)
set_option maxHeartbeats 8000000 in
set_option maxRecDepth 100000 in
theorem nat_less.calls (k : Nat) (A0 : Option Addr) (c0 : Nat) (l0 : List Int) (A1 : Option Addr) (c1 : Nat) (l1 : List Int) (r : List Int) (w : World) (hr0 : Kd.C (Kd.int .u64) w A0 l0.length l0) (hc0 : l0.length ≤ c0) (hr1 : Kd.C (Kd.int .u64) w A1 l1.length l1) (hc1 : l1.length ≤ c1) (h : nat_less.f k l0 l1 = some r) :
  Calls Try.prog 77 #[.slice A0 l0.length c0, .slice A1 l1.length c1] w fun e w' => ∃ v0_ : Value, e = .returned (v0_) ∧ Kd.R (Kd.int .u64) 47 w' w.heap.size (fun _ => True) v0_ r ∧ Below w.heap.size w w' := by
 have HR0 := Aside0.mk hr0; have HC0 := Aside0.mk hc0; clear hr0 hc0; have HR1 := Aside0.mk hr1; have HC1 := Aside0.mk hc1; clear hr1 hc1
 have HB := Aside0.mk (Below.refl w.heap.size w)
 have H : (if 0 ≤ (l0.length : Int) then (if ((l0.length : Int) : Int).toNat ≤ 35184372088832 then (nat_less.l0 k l0 l1 (List.replicate ((l0.length : Int) : Int).toNat 0) 0 (l0.length : Int) 0) else (none)) else (none)) = some r := h
 clear h
 replace H := uT H; obtain ⟨c3, H⟩ := H
 have c3b0 := eq_true c3
 have c3b1 : decide (0 ≤ (l0.length : Int)) = true := decide_eq_true c3
 clear c3
 replace H := uT H; obtain ⟨c4, H⟩ := H
 have c4b0 := eq_true c4
 have c4b1 : decide (((l0.length : Int) : Int).toNat ≤ 35184372088832) = true := decide_eq_true c4
 clear c4
 obtain ⟨y122, hy122⟩ : ∃ y_ : List Int, y_ = (List.replicate ((l0.length : Int) : Int).toNat 0) := ⟨_, rfl⟩
 replace H : (nat_less.l0 k l0 l1 y122 0 (l0.length : Int) 0) = some r := by first | (rw [hy122]; with_reducible exact H) | (have H2_ := (Option.bind_some _ _).symm.trans H; rw [hy122]; with_reducible exact H2_) | (have H2_ := (Option.bind_some _ _).symm.trans H; with_reducible exact H2_) | with_reducible exact H | (rw [hy122]; exact H) | exact H
 have Ny122 := Aside0.mk hy122; clear hy122
 have H' := Aside0.mk H
 clear H
 go_enter Try.func77, Try.ntmps77
 go_wp2_with (first | ((with_reducible refine gate_dst (N := 11) rfl ?_); refine Kd.R_make (Kd.int .u64) _ 47 rfl (N := 11) rfl 29 _ _ rfl (l0.length : Int) rfl rfl Try.underlying29 (.int .u64 0) 8 info47 rfl (by decide) (by omega) 0 (ok := fun _ => True) (okp := fun _ => True) rfl (fun _ hk => hk) trivial uO (Nat.le_trans (Nat.mul_le_mul_right _ (uO : (l0.length : Int).toNat ≤ 35184372088832)) (by omega)) (Below.refl _ _) (Nat.le_refl _) ?_; intro v123 w5 ho6 hb hg_ hnew_; clear hg_ hnew_; (first | rw [← Ny122.out] at ho6 | (simp only [Int.reduceToNat] at ho6; rw [← Ny122.out] at ho6)); have HO124 := Aside0.mk (Kd.R_lower ho6 (below_size uB)); replace HB := uy hb; clear hb ho6))
 go_loopg [6, 14] k (fun kq v6 v14 w' => ∃ (x5_1 : List Int) (x6_1 : Int) (x14_1 : Int), v6 = .int .u64 x6_1 ∧ v14 = .int .i64 x14_1 ∧ Aside0 (nat_less.l0 kq l0 l1 x5_1 x6_1 (l0.length : Int) x14_1 = some r) ∧ Aside0 (kq ≤ k) ∧ Aside0 (Kd.R (Kd.int .u64) 47 w' w.heap.size (fun _ => True) v123 x5_1) ∧ Aside0 (Below w.heap.size w w'))
 case atStart => exact ⟨(y122), (0), (0), uG, uG, H', ⟨Nat.le_refl _⟩, ⟨uR HO124.out⟩, ⟨uB⟩⟩
 case round =>
  clear H'
  (try clear c1); (try clear p2); (try clear c3); (try clear c3b0); (try clear c3b1); (try clear c4); (try clear c4b0); (try clear c4b1)
  obtain ⟨x5_1, x6_1, x14_1, rfl, rfl, HA, HK1, HO_5, HB⟩ := hrel
  cases gk with
  | zero => exact absurd HA.out (by simp [nat_less.l0])
  | succ k1 =>
   have H := HA.out
   clear HA
   simp only [nat_less.l0] at H
   by_cases c7 : x14_1 < (l0.length : Int)
   ·
    rw [if_pos c7] at H
    have c7b0 : decide (x14_1 < (l0.length : Int)) = true := decide_eq_true c7
    clear c7
    by_cases c8 : x14_1 < (l1.length : Int)
    ·
     rw [if_pos c8] at H
     have c8b0 : decide (x14_1 < (l1.length : Int)) = true := decide_eq_true c8
     clear c8
     replace H := uT H; obtain ⟨c9, H⟩ := H
     have c9b0 : decide (0 ≤ x14_1) = true := decide_eq_true c9
     clear c9
     replace H := uT H; obtain ⟨c10, H⟩ := H
     have c10b0 : decide (x14_1 < (l0.length : Int)) = true := decide_eq_true c10
     clear c10
     replace H := uT H; obtain ⟨c11, H⟩ := H
     have c11b0 : carry01 x6_1 = true := c11
     clear c11
     replace H := uT H; obtain ⟨c12, H⟩ := H
     have c12b0 : decide (x14_1 < (x5_1.length : Int)) = true := decide_eq_true c12
     clear c12
     obtain ⟨y127, hy127⟩ : ∃ y_ : List Int, y_ = (x5_1.set (x14_1 : Int).toNat (sub64_s (rd l0 x14_1) (rd l1 x14_1) x6_1)) := ⟨_, rfl⟩
     replace H : (nat_less.l0 k1 l0 l1 y127 (sub64_c (rd l0 x14_1) (rd l1 x14_1) x6_1) (l0.length : Int) (wrap64 (x14_1 + 1))) = some r := by first | (rw [hy127]; with_reducible exact H) | (have H2_ := (Option.bind_some _ _).symm.trans H; rw [hy127]; with_reducible exact H2_) | (have H2_ := (Option.bind_some _ _).symm.trans H; with_reducible exact H2_) | with_reducible exact H | (rw [hy127]; exact H) | exact H
     have Ny127 := Aside0.mk hy127; clear hy127
     have H' := Aside0.mk H
     clear H
     have p125 : 0 ≤ (x14_1 : Int) := uO
     have q125 : x14_1 < (l1.length : Int) := uO
     obtain ⟨ad125, e125, hx125_0⟩ := Kd.at_int HR1.out x14_1 p125 q125
     cases e125
     replace hx125_0 := (HB.out.cell (World.block_lt_of_cell? w _ hx125_0)).trans hx125_0
     replace p125 := eq_true p125
     replace q125 := eq_true q125
     have p126 : 0 ≤ (x14_1 : Int) := uO
     have q126 : x14_1 < (l0.length : Int) := uO
     obtain ⟨ad126, e126, hx126_0⟩ := Kd.at_int HR0.out x14_1 p126 q126
     cases e126
     replace hx126_0 := (HB.out.cell (World.block_lt_of_cell? w _ hx126_0)).trans hx126_0
     replace p126 := eq_true p126
     replace q126 := eq_true q126
     have p13 : 0 ≤ (x14_1 : Int) := uO
     have q13 : (x14_1 : Int) < ((x5_1.length : Int) : Int) := uO
     obtain ⟨go13, co13, eo13, gb13, gl13, cl13, HG13⟩ := Kd.R_form HO_5.out (by omega)
     (first | cases eo13 | (injection eo13 with ea_ en_ ec_; (first | subst ea_ | (injection ea_ with ea_; subst ea_)); subst ec_; clear en_))
     have GB13 := Aside0.mk gb13; have GG13 := Aside0.mk HG13; clear gb13 gl13 HG13
     obtain ⟨hx13_0, hf13_0⟩ := Kd.R_celln 0 HO_5.out (x14_1 : Int) p13 q13
     replace p13 := eq_true p13
     replace q13 := eq_true q13
     have HP14 := Kd.R_putg HO_5.out (x14_1 : Int) (sub64_s (rd l0 x14_1) (rd l1 x14_1) x6_1)
     go_wp2_with (first | ((with_reducible refine gate_store (t := 47) (p := 37) rfl ?_); refine store_event (t := 47) (p := 37) (v := ?vo_w15) (w1 := (wr.setCell ⟨go13, (x14_1 : Int).toNat, none⟩ (.int .u64 (sub64_s (rd l0 x14_1) (rd l1 x14_1) x6_1)))) ?hg ?ho ?hn ?hr ?_; (case ho => rfl); (case hg => rfl); (case hn => rfl); (case hr => first | (go_simp; done) | (go_simp; rfl) | (obtain ⟨hy_, hz_⟩ := Kd.R_celln 0 HO_5.out (x14_1 : Int) uO uO; (try simp only [Go.IntWalk.toNatUp] at hy_ hz_); (try simp only [Int.reduceToNat, Int.toNat_zero, Int.toNat_ofNat] at hy_ hz_); first | (go_simp; done) | (go_simp; rfl))); intro w15 hw; have hg : wr.grownBy w15 (some go13) := (by rw [hw]; exact HP14.2); have hp_ : Kd.R (Kd.int .u64) 47 w15 w.heap.size (fun _ => True) (.slice (some ⟨go13, 0, none⟩) x5_1.length co13) y127 := (by rw [hw, Ny127.out]; exact HP14.1); clear HP14; replace HO_5 := Aside0.mk (hp_); replace HB := Aside0.mk ((by rw [hw]; exact below_set (HB.out) GB13.out : Below w.heap.size w w15)); clear hg hw hp_))
     go_roundg k1
     case measure => have := HK1.out; omega
     case rel => exact ⟨(y127), (sub64_c (rd l0 x14_1) (rd l1 x14_1) x6_1), (wrap64 (x14_1 + 1)), uG, uG, H', ⟨by have := HK1.out; omega⟩, ⟨uR HO_5.out⟩, ⟨uB⟩⟩
    rw [if_neg c8] at H
    have c8b0 : decide (x14_1 < (l1.length : Int)) = false := decide_eq_false c8
    clear c8
    replace H := uT H; obtain ⟨c16, H⟩ := H
    have c16b0 : decide (0 ≤ x14_1) = true := decide_eq_true c16
    clear c16
    replace H := uT H; obtain ⟨c17, H⟩ := H
    have c17b0 : decide (x14_1 < (l0.length : Int)) = true := decide_eq_true c17
    clear c17
    replace H := uT H; obtain ⟨c18, H⟩ := H
    have c18b0 : carry01 x6_1 = true := c18
    clear c18
    replace H := uT H; obtain ⟨c19, H⟩ := H
    have c19b0 : decide (x14_1 < (x5_1.length : Int)) = true := decide_eq_true c19
    clear c19
    obtain ⟨y129, hy129⟩ : ∃ y_ : List Int, y_ = (x5_1.set (x14_1 : Int).toNat (sub64_s (rd l0 x14_1) 0 x6_1)) := ⟨_, rfl⟩
    replace H : (nat_less.l0 k1 l0 l1 y129 (sub64_c (rd l0 x14_1) 0 x6_1) (l0.length : Int) (wrap64 (x14_1 + 1))) = some r := by first | (rw [hy129]; with_reducible exact H) | (have H2_ := (Option.bind_some _ _).symm.trans H; rw [hy129]; with_reducible exact H2_) | (have H2_ := (Option.bind_some _ _).symm.trans H; with_reducible exact H2_) | with_reducible exact H | (rw [hy129]; exact H) | exact H
    have Ny129 := Aside0.mk hy129; clear hy129
    have H' := Aside0.mk H
    clear H
    have p128 : 0 ≤ (x14_1 : Int) := uO
    have q128 : x14_1 < (l0.length : Int) := uO
    obtain ⟨ad128, e128, hx128_0⟩ := Kd.at_int HR0.out x14_1 p128 q128
    cases e128
    replace hx128_0 := (HB.out.cell (World.block_lt_of_cell? w _ hx128_0)).trans hx128_0
    replace p128 := eq_true p128
    replace q128 := eq_true q128
    have p20 : 0 ≤ (x14_1 : Int) := uO
    have q20 : (x14_1 : Int) < ((x5_1.length : Int) : Int) := uO
    obtain ⟨go20, co20, eo20, gb20, gl20, cl20, HG20⟩ := Kd.R_form HO_5.out (by omega)
    (first | cases eo20 | (injection eo20 with ea_ en_ ec_; (first | subst ea_ | (injection ea_ with ea_; subst ea_)); subst ec_; clear en_))
    have GB20 := Aside0.mk gb20; have GG20 := Aside0.mk HG20; clear gb20 gl20 HG20
    obtain ⟨hx20_0, hf20_0⟩ := Kd.R_celln 0 HO_5.out (x14_1 : Int) p20 q20
    replace p20 := eq_true p20
    replace q20 := eq_true q20
    have HP21 := Kd.R_putg HO_5.out (x14_1 : Int) (sub64_s (rd l0 x14_1) 0 x6_1)
    go_wp2_with (first | ((with_reducible refine gate_store (t := 47) (p := 37) rfl ?_); refine store_event (t := 47) (p := 37) (v := ?vo_w22) (w1 := (wr.setCell ⟨go20, (x14_1 : Int).toNat, none⟩ (.int .u64 (sub64_s (rd l0 x14_1) 0 x6_1)))) ?hg ?ho ?hn ?hr ?_; (case ho => rfl); (case hg => rfl); (case hn => rfl); (case hr => first | (go_simp; done) | (go_simp; rfl) | (obtain ⟨hy_, hz_⟩ := Kd.R_celln 0 HO_5.out (x14_1 : Int) uO uO; (try simp only [Go.IntWalk.toNatUp] at hy_ hz_); (try simp only [Int.reduceToNat, Int.toNat_zero, Int.toNat_ofNat] at hy_ hz_); first | (go_simp; done) | (go_simp; rfl))); intro w22 hw; have hg : wr.grownBy w22 (some go20) := (by rw [hw]; exact HP21.2); have hp_ : Kd.R (Kd.int .u64) 47 w22 w.heap.size (fun _ => True) (.slice (some ⟨go20, 0, none⟩) x5_1.length co20) y129 := (by rw [hw, Ny129.out]; exact HP21.1); clear HP21; replace HO_5 := Aside0.mk (hp_); replace HB := Aside0.mk ((by rw [hw]; exact below_set (HB.out) GB20.out : Below w.heap.size w w22)); clear hg hw hp_))
    go_roundg k1
    case measure => have := HK1.out; omega
    case rel => exact ⟨(y129), (sub64_c (rd l0 x14_1) 0 x6_1), (wrap64 (x14_1 + 1)), uG, uG, H', ⟨by have := HK1.out; omega⟩, ⟨uR HO_5.out⟩, ⟨uB⟩⟩
   rw [if_neg c7] at H
   have c7b0 : decide (x14_1 < (l0.length : Int)) = false := decide_eq_false c7
   clear c7
   obtain rfl := Option.some.inj H
   go_wp2
   go_ret
   exact ⟨_, uF, uR HO_5.out, uB⟩
end Go.Proofs.Ytgeanpnkllnipaa.F
end
section
namespace Go.Proofs.Ytgeanpnkllnipaa.Z
open Go.RowKit Go.Proofs.Ytgeanpnkllnipaa.F Go.Proofs.YtgeanpnkllnipaaW.PrintWords
set_option linter.unusedSimpArgs false
set_option linter.unusedVariables false
def lessL : List Int → List Int → Int → List Int
  | [], _, _ => []
  | x :: a, b, c => sub64_s x (b.getD 0 0) c :: lessL a (b.drop 1) (sub64_c x (b.getD 0 0) c)
theorem sub64_facts {x y c : Int} (hx : 0 ≤ x ∧ x < (b64 : Int)) (hy : 0 ≤ y ∧ y < (b64 : Int)) (hc : c = 0 ∨ c = 1) :
    sub64_s x y c - (b64 : Int) * sub64_c x y c = x - y - c ∧ (0 ≤ sub64_s x y c ∧ sub64_s x y c < (b64 : Int)) ∧ (sub64_c x y c = 0 ∨ sub64_c x y c = 1) := by
  unfold sub64_s sub64_c
  simp only [b64] at *
  by_cases h : x.toNat < y.toNat + c.toNat
  · rw [if_pos h]; omega
  · rw [if_neg h]; omega
theorem lessL_len : ∀ (a b : List Int) (c : Int), (lessL a b c).length = a.length := by
  intro a
  induction a with
  | nil => intro b c; rfl
  | cons z x ih => intro b c; simp only [lessL, List.length_cons, ih]
theorem lessL_facts : ∀ (a b : List Int) (c : Int), Dig (b64 : Int) a → Dig (b64 : Int) b → b.length ≤ a.length → (c = 0 ∨ c = 1) →
    Dig (b64 : Int) (lessL a b c) ∧ ∃ t, 0 ≤ t ∧ val (b64 : Int) (lessL a b c) = val (b64 : Int) a - val (b64 : Int) b - c + (b64 : Int) ^ a.length * t := by
  intro a
  induction a with
  | nil =>
    intro b c _ _ hlen hc
    have : b = [] := List.length_eq_zero_iff.1 (by simpa using hlen)
    subst this
    exact ⟨Dig.nil, c, by omega, by simp [lessL, val]; omega⟩
  | cons x a ih =>
    intro b c da db hlen hc
    have d1 := Dig.cons.1 da
    have hy := db.getD b64_pos 0
    obtain ⟨e1, e2, e3⟩ := sub64_facts d1.1 hy hc
    obtain ⟨i1, t, ht, i2⟩ := ih (b.drop 1) _ d1.2 (db.drop 1) (by simp at hlen ⊢; omega) e3
    refine ⟨Dig.cons.2 ⟨e2, i1⟩, t, ht, ?_⟩
    simp only [lessL, val]
    rw [i2]
    have hb : val (b64 : Int) b = b.getD 0 0 + (b64 : Int) * val (b64 : Int) (b.drop 1) := by
      cases b with
      | nil => simp [val]
      | cons y b => simp [val]
    rw [hb]
    generalize (b64 : Int) = B at *
    generalize sub64_s x (b.getD 0 0) c = s at *
    generalize sub64_c x (b.getD 0 0) c = u at *
    generalize val B a = va at *
    generalize val B (b.drop 1) = vb at *
    generalize b.getD 0 0 = y at *
    rw [List.length_cons, Int.pow_succ]
    generalize B ^ a.length = P at *
    have h1 : B * (va - vb - u + P * t) = B * va - B * vb - B * u + P * B * t := by grind
    omega
theorem nat_less_l0 (a b : List Int) (ha : a.length ≤ 1000) (hb : b.length ≤ 1000) (da : Dig (b64 : Int) a) (db : Dig (b64 : Int) b) (n : Nat) : ∀ (i : Nat) (p : List Int) (c : Int), p.length = i → i ≤ a.length → a.length - i = n → (c = 0 ∨ c = 1) →
    Evt (fun k => nat_less.l0 k a b (p ++ List.replicate n 0) c (a.length : Int) (i : Int)) (p ++ lessL (a.drop i) (b.drop i) c) := by
  induction n with
  | zero =>
    intro i p c hp hi hn hc
    refine Evt.succ ?_
    simp only [nat_less.l0]
    refine Evt.ite_neg (by omega) ?_
    rw [List.drop_of_length_le (show a.length ≤ i by omega)]
    simp only [lessL, List.replicate_zero]
    exact Evt.pure _
  | succ n ih =>
    intro i p c hp hi hn hc
    have hlt : i < a.length := by omega
    refine Evt.succ ?_
    simp only [nat_less.l0]
    refine Evt.ite_pos (by omega) ?_
    have hx : rd a (i : Int) = a[i] := by simp [rd_nat, hlt]
    have hxr := da a[i] (List.getElem_mem hlt)
    have hset : ∀ v : Int, (p ++ List.replicate (n + 1) 0).set ((i : Int)).toNat v = (p ++ [v]) ++ List.replicate n 0 := by
      intro v
      rw [show ((i : Int)).toNat = p.length from by omega, List.replicate_succ, set_at, List.append_assoc]
      rfl
    have hyr := (db.drop i).getD b64_pos 0
    have hfin : ∀ y : Int, y = (b.drop i).getD 0 0 → Evt (fun k => nat_less.l0 k a b ((p ++ List.replicate (n + 1) 0).set ((i : Int)).toNat (sub64_s (rd a (i : Int)) y c)) (sub64_c (rd a (i : Int)) y c) (a.length : Int) (wrap64 ((i : Int) + 1))) (p ++ lessL (a.drop i) (b.drop i) c) := by
      intro y hy
      subst hy
      obtain ⟨e1, e2, e3⟩ := sub64_facts hxr hyr hc
      rw [hx, hset, w64 (by omega) (by omega)]
      have h := ih (i + 1) (p ++ [sub64_s a[i] ((b.drop i).getD 0 0) c]) (sub64_c a[i] ((b.drop i).getD 0 0) c) (by simp [hp]) (by omega) (by omega) e3
      refine h.congr (fun k => rfl) ?_
      rw [List.drop_eq_getElem_cons hlt]
      simp only [lessL, List.drop_drop, List.append_assoc, List.singleton_append]
    by_cases hib : i < b.length
    · refine Evt.ite_pos (by omega) (Evt.ite_pos (by omega) (Evt.ite_pos (by omega) (Evt.ite_pos (carry_of hc) (Evt.ite_pos (by simp; omega) ?_))))
      refine hfin _ ?_
      simp [rd_nat, hib]
    · refine Evt.ite_neg (by omega) (Evt.ite_pos (by omega) (Evt.ite_pos (by omega) (Evt.ite_pos (carry_of hc) (Evt.ite_pos (by simp; omega) ?_))))
      refine hfin _ ?_
      simp [List.drop_of_length_le (show b.length ≤ i by omega)]
theorem nat_less_ev (a b : List Int) (ha : a.length ≤ 1000) (hb : b.length ≤ a.length) (da : Dig (b64 : Int) a) (db : Dig (b64 : Int) b) (hle : num b ≤ num a) : ∃ s, Evt (fun k => nat_less.f k a b) s ∧ Dig (b64 : Int) s ∧ num s = num a - num b ∧ s.length = a.length := by
  refine ⟨lessL a b 0, ?_, ?_⟩
  · unfold nat_less.f
    refine Evt.ite_pos (by omega) (Evt.ite_pos (by omega) ?_)
    have h := nat_less_l0 a b ha (by omega) da db a.length 0 [] 0 rfl (Nat.zero_le _) (by omega) (Or.inl rfl)
    exact h.congr (fun k => by simp) (by simp)
  · obtain ⟨f1, t, ht, f2⟩ := lessL_facts a b 0 da db hb (Or.inl rfl)
    refine ⟨f1, ?_, lessL_len a b 0⟩
    have h1 := num_val f1
    have h2 := num_val da
    have h3 := num_val db
    have h4 := num_lt f1
    rw [lessL_len] at h4
    rw [pow_cast] at f2
    have ht0 : t = 0 := by
      by_cases e : t = 0
      · exact e
      · have h5 : ((b64 ^ a.length : Nat) : Int) * 1 ≤ ((b64 ^ a.length : Nat) : Int) * t := Int.mul_le_mul_of_nonneg_left (by omega) (by omega)
        omega
    subst ht0
    rw [Int.mul_zero] at f2
    omega
theorem num_strip {l : List Int} (d : Dig (b64 : Int) l) : num (strip l) = num l := by rw [strip_limbs d, num_limbs]
theorem num_split {l : List Int} (d : Dig (b64 : Int) l) (n : Nat) : num l = num (strip (l.take n)) + b64 ^ n * num (l.drop n) := by
  rw [num_strip (d.take n)]
  have h1 := num_val d
  have h2 := num_val (d.take n)
  have h3 := num_val (d.drop n)
  have h4 := val_append (b64 : Int) (l.take n) (l.drop n)
  rw [List.take_append_drop] at h4
  rcases Nat.le_total n l.length with h | h
  · have h5 : (l.take n).length = n := by rw [List.length_take]; omega
    rw [h5, ← h1, ← h2, ← h3, pow_cast, ← Int.natCast_mul] at h4
    omega
  · have h5 : num (l.drop n) = 0 := by rw [List.drop_of_length_le h]; rfl
    rw [h5, Nat.mul_zero, List.take_of_length_le h]
    rfl
theorem limbs_len {v n : Nat} (h : v < b64 ^ n) : (limbs v).length ≤ n := toD_len_le b64_two h
theorem limbs_dig (v : Nat) : Dig (b64 : Int) (limbs v) := toD_dig b64_two v
theorem limbs_mono {v w : Nat} (h : v ≤ w) : (limbs v).length ≤ (limbs w).length := by
  have h1 : w < b64 ^ (limbs w).length := toD_lt_pow b64_two w
  exact limbs_len (by omega)
theorem mul_lt_pow {x y a b : Nat} (hx : x < b64 ^ a) (hy : y < b64 ^ b) : x * y < b64 ^ (a + b) := by
  rw [Nat.pow_add]
  exact Nat.mul_lt_mul'' hx hy
theorem kara_num {A B X a1 a0 b1 b0 : Nat} (hA : A = a0 + X * a1) (hB : B = b0 + X * b1) :
    a0 * b0 ≤ (a0 + a1) * (b0 + b1) ∧ a1 * b1 ≤ (a0 + a1) * (b0 + b1) - a0 * b0 ∧ A * B = a0 * b0 + X * ((a0 + a1) * (b0 + b1) - a0 * b0 - a1 * b1) + X * X * (a1 * b1) := by
  have e : (a0 + a1) * (b0 + b1) = a0 * b0 + (a0 * b1 + a1 * b0) + a1 * b1 := by grind
  rw [e]
  refine ⟨by omega, by omega, ?_⟩
  have e2 : a0 * b0 + (a0 * b1 + a1 * b0) + a1 * b1 - a0 * b0 - a1 * b1 = a0 * b1 + a1 * b0 := by omega
  rw [e2, hA, hB]
  grind
theorem kara_ev (l0 l1 : List Int) (h0 : l0.length ≤ 400) (h1 : l1.length ≤ 400) (h2 : 24 ≤ l0.length) (h3 : 24 ≤ l1.length) (d0 : Dig (b64 : Int) l0) (d1 : Dig (b64 : Int) l1) (n : Nat) (hn : n = (max l0.length l1.length + 1) / 2)
    (LA LB HA HB P Q O1 : List Int) (eLA : LA = strip (l0.take n)) (eLB : LB = strip (l1.take n)) (eHA : HA = l0.drop n) (eHB : HB = l1.drop n) (eP : P = limbs (num LA * num LB)) (eQ : Q = limbs (num HA * num HB))
    (eO : O1 = P.take (min P.length (l0.length + l1.length + 1)) ++ (List.replicate (l0.length + l1.length + 1) (0 : Int)).drop (min P.length (l0.length + l1.length + 1))) :
    (LA.length + LB.length < l0.length + l1.length ∧ LA.length ≤ 400 ∧ LB.length ≤ 400 ∧ Dig (b64 : Int) LA ∧ Dig (b64 : Int) LB) ∧
    (HA.length + HB.length < l0.length + l1.length ∧ HA.length ≤ 400 ∧ HB.length ≤ 400 ∧ Dig (b64 : Int) HA ∧ Dig (b64 : Int) HB) ∧
    ∃ S1 S2 T1 T2 M U U1 V V1 O2 O3 : List Int, (∃ k, nat_sum.f k LA HA = some S1) ∧ (∃ k, nat_sum.f k LB HB = some S2) ∧ T1 = strip S1 ∧ T2 = strip S2 ∧
      (T1.length + T2.length < l0.length + l1.length ∧ T1.length ≤ 400 ∧ T2.length ≤ 400 ∧ Dig (b64 : Int) T1 ∧ Dig (b64 : Int) T2) ∧ M = limbs (num T1 * num T2) ∧
      (∃ k, nat_less.f k M P = some U) ∧ U1 = strip U ∧ (∃ k, nat_less.f k U1 Q = some V) ∧ V1 = strip V ∧
      (∃ k, nat_into.f k O1 V1 (n : Int) = some O2) ∧ (∃ k, nat_into.f k O2 Q ((2 * n : Nat) : Int) = some O3) ∧ (∃ k, nat_trim.f k O3 = some (limbs (num l0 * num l1))) := by
  have lLA : LA.length ≤ n := by
    have := strip_length (l0.take n)
    rw [List.length_take] at this
    rw [eLA]; omega
  have lLB : LB.length ≤ n := by
    have := strip_length (l1.take n)
    rw [List.length_take] at this
    rw [eLB]; omega
  have lHA : HA.length ≤ n := by rw [eHA, List.length_drop]; omega
  have lHB : HB.length ≤ n := by rw [eHB, List.length_drop]; omega
  have lHA' : HA.length ≤ l0.length - n := by rw [eHA, List.length_drop]; omega
  have lHB' : HB.length ≤ l1.length - n := by rw [eHB, List.length_drop]; omega
  have dLA : Dig (b64 : Int) LA := by rw [eLA]; exact strip_dig (d0.take n)
  have dLB : Dig (b64 : Int) LB := by rw [eLB]; exact strip_dig (d1.take n)
  have dHA : Dig (b64 : Int) HA := by rw [eHA]; exact d0.drop n
  have dHB : Dig (b64 : Int) HB := by rw [eHB]; exact d1.drop n
  have sA : num l0 = num LA + b64 ^ n * num HA := by rw [eLA, eHA]; exact num_split d0 n
  have sB : num l1 = num LB + b64 ^ n * num HB := by rw [eLB, eHB]; exact num_split d1 n
  obtain ⟨k1, k2, k3⟩ := kara_num sA sB
  have pn : ∀ {l : List Int} {m : Nat}, Dig (b64 : Int) l → l.length ≤ m → num l < b64 ^ m := fun d h => Nat.lt_of_lt_of_le (num_lt d) (Nat.pow_le_pow_right (by decide) h)
  have vLA := pn dLA lLA
  have vLB := pn dLB lLB
  have vHA := pn dHA lHA
  have vHB := pn dHB lHB
  have hpn : b64 ^ n + b64 ^ n ≤ b64 ^ (n + 1) := by
    have hb2 := Nat.mul_le_mul_left (b64 ^ n) b64_two
    rw [Nat.pow_succ]
    omega
  obtain ⟨S1, e1, dS1, nS1, lS1⟩ := nat_sum_ev LA HA (by omega) (by omega) dLA dHA
  obtain ⟨S2, e2, dS2, nS2, lS2⟩ := nat_sum_ev LB HB (by omega) (by omega) dLB dHB
  have nT1 : num (strip S1) = num LA + num HA := by rw [num_strip dS1, nS1]
  have nT2 : num (strip S2) = num LB + num HB := by rw [num_strip dS2, nS2]
  have lT1 : (strip S1).length ≤ n + 1 := by rw [strip_limbs dS1]; exact limbs_len (by omega)
  have lT2 : (strip S2).length ≤ n + 1 := by rw [strip_limbs dS2]; exact limbs_len (by omega)
  obtain ⟨M, eM⟩ : ∃ M, M = limbs (num (strip S1) * num (strip S2)) := ⟨_, rfl⟩
  have nM : num M = (num LA + num HA) * (num LB + num HB) := by rw [eM, num_limbs, nT1, nT2]
  have nP : num P = num LA * num LB := by rw [eP, num_limbs]
  have nQ : num Q = num HA * num HB := by rw [eQ, num_limbs]
  have dM : Dig (b64 : Int) M := by rw [eM]; exact limbs_dig _
  have dP : Dig (b64 : Int) P := by rw [eP]; exact limbs_dig _
  have dQ : Dig (b64 : Int) Q := by rw [eQ]; exact limbs_dig _
  have lM : M.length ≤ (n + 1) + (n + 1) := by
    rw [eM]
    refine limbs_len (mul_lt_pow ?_ ?_)
    · rw [nT1]; omega
    · rw [nT2]; omega
  have lPM : P.length ≤ M.length := by
    rw [eP, eM]
    exact limbs_mono (by rw [nT1, nT2]; exact k1)
  obtain ⟨U, e3, dU, nU, lU⟩ := nat_less_ev M P (by omega) lPM dM dP (by rw [nP, nM]; exact k1)
  have nU1 : num (strip U) = (num LA + num HA) * (num LB + num HB) - num LA * num LB := by rw [num_strip dU, nU, nM, nP]
  have dU1 : Dig (b64 : Int) (strip U) := strip_dig dU
  have lU1 : (strip U).length ≤ M.length := by have := strip_length U; omega
  have lQU : Q.length ≤ (strip U).length := by
    rw [eQ, strip_limbs dU]
    refine limbs_mono ?_
    rw [← num_strip dU, nU1]
    exact k2
  obtain ⟨V, e4, dV, nV, lV⟩ := nat_less_ev (strip U) Q (by omega) lQU dU1 dQ (by rw [nQ, nU1]; exact k2)
  have nV1 : num (strip V) = (num LA + num HA) * (num LB + num HB) - num LA * num LB - num HA * num HB := by rw [num_strip dV, nV, nU1, nQ]
  have dV1 : Dig (b64 : Int) (strip V) := strip_dig dV
  obtain ⟨N, eN⟩ : ∃ N, N = l0.length + l1.length + 1 := ⟨_, rfl⟩
  rw [← eN] at eO
  have tot : num l0 * num l1 < b64 ^ N := by
    have h := mul_lt_pow (num_lt d0) (num_lt d1)
    exact Nat.lt_of_lt_of_le h (Nat.pow_le_pow_right (by decide) (by omega))
  have lP : P.length ≤ N := by
    rw [eP]
    refine limbs_len ?_
    rw [k3] at tot
    omega
  have eO' : O1 = P ++ List.replicate (N - P.length) 0 := by
    rw [eO, show min P.length N = P.length from by omega, List.take_length]
    congr 1
    exact List.drop_replicate
  have lO1 : O1.length = N := by rw [eO']; simp; omega
  have dO1 : Dig (b64 : Int) O1 := by rw [eO']; exact Dig.append.2 ⟨dP, Dig.replicate b64_pos _⟩
  have vO1 : val (b64 : Int) O1 = ((num LA * num LB : Nat) : Int) := by
    rw [eO', val_append, val_replicate, Int.mul_zero, Int.add_zero, ← num_val dP, nP]
  have c1 : ((b64 ^ n : Nat) : Int) = (b64 : Int) ^ n := (pow_cast b64 n).symm
  have cN : ((b64 ^ N : Nat) : Int) = (b64 : Int) ^ N := (pow_cast b64 N).symm
  have vV1 : val (b64 : Int) (strip V) = (((num LA + num HA) * (num LB + num HB) - num LA * num LB - num HA * num HB : Nat) : Int) := by rw [← num_val dV1, nV1]
  have vQ : val (b64 : Int) Q = ((num HA * num HB : Nat) : Int) := by rw [← num_val dQ, nQ]
  obtain ⟨O2, e5, dO2, lO2, vO2⟩ := nat_into_ev O1 (strip V) n (by omega) (by omega) dO1 dV1 (by
    rw [vO1, vV1, lO1, ← c1, ← cN, ← Int.natCast_mul, ← Int.natCast_add]
    apply Int.ofNat_lt.2
    rw [k3] at tot
    omega)
  have cc : ((b64 ^ n * b64 ^ n : Nat) : Int) = (b64 : Int) ^ (2 * n) := by
    rw [← Nat.pow_add, show n + n = 2 * n from by omega]
    exact (pow_cast b64 (2 * n)).symm
  have vO2' : val (b64 : Int) O2 = ((num LA * num LB + b64 ^ n * ((num LA + num HA) * (num LB + num HB) - num LA * num LB - num HA * num HB) : Nat) : Int) := by
    rw [vO2, vO1, vV1, ← c1, ← Int.natCast_mul, ← Int.natCast_add]
  obtain ⟨O3, e6, dO3, lO3, vO3⟩ := nat_into_ev O2 Q (2 * n) (by omega) (by omega) dO2 dQ (by
    rw [vO2', vQ, lO2, lO1, ← cc, ← cN, ← Int.natCast_mul, ← Int.natCast_add]
    apply Int.ofNat_lt.2
    rw [k3] at tot
    exact tot)
  have nO3 : num O3 = num l0 * num l1 := by
    have h := num_val dO3
    rw [vO3, vO2', vQ, ← cc, ← Int.natCast_mul, ← Int.natCast_add] at h
    rw [k3]
    exact Int.ofNat.inj h
  have e7 := nat_trim_ev O3 (by simp [maxLen]; omega)
  rw [strip_limbs dO3, nO3] at e7
  refine ⟨⟨by omega, by omega, by omega, dLA, dLB⟩, ⟨by omega, by omega, by omega, dHA, dHB⟩, S1, S2, strip S1, strip S2, M, U, strip U, V, strip V, O2, O3, e1.get, e2.get, rfl, rfl, ⟨by omega, by omega, by omega, strip_dig dS1, strip_dig dS2⟩, eM, e3.get, rfl, e4.get, rfl, e5.get, e6.get, e7.get⟩
end Go.Proofs.Ytgeanpnkllnipaa.Z
end
section
namespace Go.Proofs.Ytgeanpnkllnipaa.F
open Go.RowKit Go.Proofs.YtgeanpnkllnipaaW.PrintWords Go.Proofs.YtgeanpnkllnipaaW.PrintLast Go.Proofs.YtgeanpnkllnipaaW.PrintMore
theorem max2_mx (k k' : IntKind) (x y : Int) : Builtin.max2 (.int k x) (.int k' y) = pure (.int k (max x y)) := by
  rw [max2_int]
  congr 2
  by_cases h : x < y
  · rw [if_pos h]; omega
  · rw [if_neg h]; omega
attribute [local go_sem] max2_mx max_two
set_option linter.unusedVariables false
set_option linter.unusedSimpArgs false
open Go.Proofs.Ytgeanpnkllnipaa.Z (strip Dig b64 num limbs)
def hval (gh : Nat) : Value := .func (.func 102) #[] #[.pointer (some ⟨gh, 0, none⟩)]
def hobj (gh : Nat) : Obj := .cells #[hval gh] 123 (0, 0)
def Halved (gh : Nat) (A0 : Option Addr) (c0 : Nat) (l0 : List Int) (A1 : Option Addr) (c1 : Nat) (l1 : List Int) (w : World) : Prop :=
  Calls Try.prog 102 #[.slice A0 l0.length c0, .slice A1 l1.length c1, .pointer (some ⟨gh, 0, none⟩)] w fun e w' => ∃ v : Value, e = .returned v ∧ Kd.R (Kd.int .u64) 47 w' w.heap.size (fun _ => True) v (limbs (num l0 * num l1)) ∧ Below w.heap.size w w'
theorem C_low {W : World} {A : Option Addr} {l : List Int} (n : Nat) (h : Kd.C (Kd.int .u64) W A l.length l) : Kd.C (Kd.int .u64) W A (strip (l.take n)).length (strip (l.take n)) := by
  obtain ⟨k, hk, hs, _⟩ := strip_take (l.take n)
  rw [hs, List.take_take]
  exact Kd.C_take h (by rw [List.length_take] at hk; omega)
theorem strip_len (l : List Int) : (strip l).length ≤ l.length := Go.Proofs.Ytgeanpnkllnipaa.Z.strip_length l
set_option maxHeartbeats 8000000 in
set_option maxRecDepth 100000 in
theorem halves_short (gh : Nat) (A0 : Option Addr) (c0 : Nat) (l0 : List Int) (A1 : Option Addr) (c1 : Nat) (l1 : List Int) (w : World) (hl0 : l0.length ≤ 400) (hl1 : l1.length ≤ 400) (d0 : Dig (b64 : Int) l0) (d1 : Dig (b64 : Int) l1)
    (hr0 : Kd.C (Kd.int .u64) w A0 l0.length l0) (hc0 : l0.length ≤ c0) (hr1 : Kd.C (Kd.int .u64) w A1 l1.length l1) (hc1 : l1.length ≤ c1) (h24 : l0.length < 24 ∨ l1.length < 24) : Halved gh A0 c0 l0 A1 c1 l1 w := by
  unfold Halved
  obtain ⟨k, hk⟩ := Go.Proofs.Ytgeanpnkllnipaa.Z.Evt.get (Go.Proofs.Ytgeanpnkllnipaa.Z.nat_school_ev l0 l1 (by omega) (by omega) d0 d1)
  have HS := Aside0.mk (nat_school.calls k A0 c0 l0 A1 c1 l1 _ w hr0 hc0 hr1 hc1 hk)
  clear hr0 hc0 hr1 hc1 hk d0 d1
  by_cases h1 : l0.length < 24
  · have h1b : decide ((l0.length : Int) < 24) = true := decide_eq_true (by omega)
    clear h24
    go_enter Try.func102, Try.ntmps102
    go_wp2_with (go_at_call 103; (with_reducible refine HS.out.mono ?_); rintro e w' ⟨v, rfl, hR, hb⟩; have HR := Aside0.mk hR; have HB := Aside0.mk hb; clear hR hb)
    go_ret
    exact ⟨_, rfl, HR.out, HB.out⟩
  · have h1b : decide ((l0.length : Int) < 24) = false := decide_eq_false (by omega)
    have h2b : decide ((l1.length : Int) < 24) = true := decide_eq_true (by omega)
    clear h24
    go_enter Try.func102, Try.ntmps102
    go_wp2_with (go_at_call 103; (with_reducible refine HS.out.mono ?_); rintro e w' ⟨v, rfl, hR, hb⟩; have HR := Aside0.mk hR; have HB := Aside0.mk hb; clear hR hb)
    go_ret
    exact ⟨_, rfl, HR.out, HB.out⟩
set_option maxHeartbeats 8000000 in
set_option maxRecDepth 100000 in
theorem halves_long (gh : Nat) (A0 : Option Addr) (c0 : Nat) (l0 : List Int) (A1 : Option Addr) (c1 : Nat) (l1 : List Int) (w : World) (hl0 : l0.length ≤ 400) (hl1 : l1.length ≤ 400) (d0 : Dig (b64 : Int) l0) (d1 : Dig (b64 : Int) l1)
    (hr0 : Kd.C (Kd.int .u64) w A0 l0.length l0) (hc0 : l0.length ≤ c0) (hr1 : Kd.C (Kd.int .u64) w A1 l1.length l1) (hc1 : l1.length ≤ c1) (h24a : 24 ≤ l0.length) (h24b : 24 ≤ l1.length) (hgh : w.heap[gh]? = some (hobj gh))
    (IH : ∀ (A2 : Option Addr) (c2 : Nat) (l2 : List Int) (A3 : Option Addr) (c3 : Nat) (l3 : List Int) (W : World), l2.length + l3.length < l0.length + l1.length → l2.length ≤ 400 → l3.length ≤ 400 → Dig (b64 : Int) l2 → Dig (b64 : Int) l3 →
      Kd.C (Kd.int .u64) W A2 l2.length l2 → l2.length ≤ c2 → Kd.C (Kd.int .u64) W A3 l3.length l3 → l3.length ≤ c3 → W.heap[gh]? = some (hobj gh) → Halved gh A2 c2 l2 A3 c3 l3 W) : Halved gh A0 c0 l0 A1 c1 l1 w := by
  unfold Halved
  have h1b : decide ((l0.length : Int) < 24) = false := decide_eq_false (by omega)
  have h2b : decide ((l1.length : Int) < 24) = false := decide_eq_false (by omega)
  obtain ⟨M, hM⟩ : ∃ M : Nat, M = max l0.length l1.length := ⟨_, rfl⟩
  obtain ⟨n, hn⟩ : ∃ n : Nat, n = (M + 1) / 2 := ⟨_, rfl⟩
  have HR0 := Aside0.mk hr0
  have HC0 := Aside0.mk hc0
  have HR1 := Aside0.mk hr1
  have HC1 := Aside0.mk hc1
  have HGH := Aside0.mk hgh
  have HL := Aside0.mk (show l0.length ≤ 400 ∧ l1.length ≤ 400 ∧ 24 ≤ l0.length ∧ 24 ≤ l1.length ∧ M = max l0.length l1.length ∧ n = (M + 1) / 2 from ⟨hl0, hl1, h24a, h24b, hM, hn⟩)
  have HI := Aside0.mk IH
  have HD0 := Aside0.mk d0
  have HD1 := Aside0.mk d1
  clear hr0 hc0 hr1 hc1 hgh hl0 hl1 h24a h24b hM hn IH d0 d1
  go_enter Try.func102, Try.ntmps102
  have e1 : wrap64 (max (l0.length : Int) (l1.length : Int) + 1) = ((M + 1 : Nat) : Int) := by
    have := HL.out
    unfold wrap64
    omega
  have e2 : wrap64 (((M : Int) + 1).tdiv 2) = (n : Int) := by
    have := HL.out
    rw [Int.tdiv_eq_ediv_of_nonneg (by omega)]
    unfold wrap64
    omega
  go_wp2
  clear e1 e2
  have hN := blk_new w (.cells #[.int .i64 (n : Int)] 3)
  have hB := below_alloc (Below.refl w.heap.size w) (.cells #[.int .i64 (n : Int)] 3)
  have hs1 : w.heap.size < (w.alloc (.cells #[.int .i64 (n : Int)] 3)).heap.size := by simp
  generalize w.alloc (.cells #[.int .i64 (n : Int)] 3) = W1 at *
  obtain ⟨LA, hLA⟩ : ∃ X, X = strip (l0.take n) := ⟨_, rfl⟩
  obtain ⟨LB, hLB⟩ : ∃ X, X = strip (l1.take n) := ⟨_, rfl⟩
  obtain ⟨HA, hHA⟩ : ∃ X, X = l0.drop n := ⟨_, rfl⟩
  obtain ⟨HB_, hHB⟩ : ∃ X, X = l1.drop n := ⟨_, rfl⟩
  obtain ⟨P, hP⟩ : ∃ X, X = limbs (num LA * num LB) := ⟨_, rfl⟩
  obtain ⟨Q, hQ⟩ : ∃ X, X = limbs (num HA * num HB_) := ⟨_, rfl⟩
  obtain ⟨O1, hO1⟩ : ∃ X, X = P.take (min P.length (l0.length + l1.length + 1)) ++ (List.replicate (l0.length + l1.length + 1) (0 : Int)).drop (min P.length (l0.length + l1.length + 1)) := ⟨_, rfl⟩
  obtain ⟨pl1, pl2, S1, S2, T1, T2, Mm, U, U1, V, V1, O2, O3, ⟨k1, hk1⟩, ⟨k2, hk2⟩, hT1, hT2, pl3, hMm, ⟨k3, hk3⟩, hU1, ⟨k4, hk4⟩, hV1, ⟨k5, hk5⟩, ⟨k6, hk6⟩, ⟨k7, hk7⟩⟩ :=
    Go.Proofs.Ytgeanpnkllnipaa.Z.kara_ev l0 l1 HL.out.1 HL.out.2.1 HL.out.2.2.1 HL.out.2.2.2.1 HD0.out HD1.out n (by have := HL.out; omega) LA LB HA HB_ P Q O1 hLA hLB hHA hHB hP hQ hO1
  obtain ⟨RES, hRES⟩ : ∃ X, X = limbs (num l0 * num l1) := ⟨_, rfl⟩
  rw [← hRES] at hk7
  have NLA := Aside0.mk hLA
  have NLB := Aside0.mk hLB
  have NHA := Aside0.mk hHA
  have NHB := Aside0.mk hHB
  have NP := Aside0.mk hP
  have NQ := Aside0.mk hQ
  have NO1 := Aside0.mk hO1
  have NT1 := Aside0.mk hT1
  have NT2 := Aside0.mk hT2
  have NM := Aside0.mk hMm
  have NU1 := Aside0.mk hU1
  have NV1 := Aside0.mk hV1
  have NRES := Aside0.mk hRES
  have PL1 := Aside0.mk pl1
  have PL2 := Aside0.mk pl2
  have PL3 := Aside0.mk pl3
  have K1 := Aside0.mk hk1
  have K2 := Aside0.mk hk2
  have K3 := Aside0.mk hk3
  have K4 := Aside0.mk hk4
  have K5 := Aside0.mk hk5
  have K6 := Aside0.mk hk6
  have K7 := Aside0.mk hk7
  have FLA := Aside0.mk (show ∀ W, Below w.heap.size w W → Kd.C (Kd.int .u64) W A0 LA.length LA from fun W h => by rw [NLA.out]; exact C_low n (Kd.C_below HR0.out h))
  have FLB := Aside0.mk (show ∀ W, Below w.heap.size w W → Kd.C (Kd.int .u64) W A1 LB.length LB from fun W h => by rw [NLB.out]; exact C_low n (Kd.C_below HR1.out h))
  have CLA := Aside0.mk (show LA.length ≤ c0 from by
    have h1 := strip_len (l0.take n)
    rw [← hLA, List.length_take] at h1
    have := HC0.out
    omega)
  have CLB := Aside0.mk (show LB.length ≤ c1 from by
    have h1 := strip_len (l1.take n)
    rw [← hLB, List.length_take] at h1
    have := HC1.out
    omega)
  have HS1 := Aside0.mk hs1
  have HB1 := Aside0.mk (Below.refl W1.heap.size W1)
  clear hLA hLB hHA hHB hP hQ hO1 hT1 hT2 hMm hU1 hV1 hRES pl1 pl2 pl3 hk1 hk2 hk3 hk4 hk5 hk6 hk7 hs1
  have hgc : ∀ W : World, Below w.heap.size w W → W.cell? ⟨gh, 0, none⟩ = some (.func (.func 102) #[] #[.pointer (some ⟨gh, 0, none⟩)]) := fun W h => pw_cell_below h ((blk_cell HGH.out 0).trans rfl)
  have HGC := Aside0.mk hgc
  have HB := Aside0.mk hB
  have HN := Aside0.mk hN
  clear hB hN hgc
  have hgn : ∀ W : World, Below W1.heap.size W1 W → W.heap[w.heap.size]? = some (.cells #[.int .i64 (n : Int)] 3 (0, 0)) := fun W h => (h.block w.heap.size HS1.out).trans HN.out
  have hgg : ∀ W : World, Below w.heap.size w W → W.heap[gh]? = some (hobj gh) := fun W h => (h.block gh (blk_lt HGH.out)).trans HGH.out
  have LOWA := Aside0.mk (show ∀ W, Below w.heap.size w W → Below W1.heap.size W1 W → Calls Try.prog 104 #[.slice A0 l0.length c0, .pointer (some ⟨w.heap.size, 0, none⟩)] W fun e w' => e = .returned (.slice A0 LA.length c0) ∧ Below W.heap.size W w' from fun W h h1 => by
    have tk_ := nat_low.calls A0 c0 l0 w.heap.size n W (Kd.C_below HR0.out h) HC0.out (hgn W h1)
    rw [← NLA.out] at tk_
    exact tk_.mono (fun e w' hh => ⟨hh.1, hh.2.below⟩))
  have LOWB := Aside0.mk (show ∀ W, Below w.heap.size w W → Below W1.heap.size W1 W → Calls Try.prog 104 #[.slice A1 l1.length c1, .pointer (some ⟨w.heap.size, 0, none⟩)] W fun e w' => e = .returned (.slice A1 LB.length c1) ∧ Below W.heap.size W w' from fun W h h1 => by
    have tk_ := nat_low.calls A1 c1 l1 w.heap.size n W (Kd.C_below HR1.out h) HC1.out (hgn W h1)
    rw [← NLB.out] at tk_
    exact tk_.mono (fun e w' hh => ⟨hh.1, hh.2.below⟩))
  have HIGHA := Aside0.mk (show ∀ W, Below w.heap.size w W → Below W1.heap.size W1 W → Calls Try.prog 105 #[.slice A0 l0.length c0, .pointer (some ⟨w.heap.size, 0, none⟩)] W fun e w' => ∃ (A : Option Addr) (c : Nat), e = .returned (.slice A HA.length c) ∧ HA.length ≤ c ∧ Kd.C (Kd.int .u64) w' A HA.length HA ∧ Below W.heap.size W w' from fun W h h1 => by
    have tk_ := nat_high.calls A0 c0 l0 w.heap.size n W HC0.out (hgn W h1)
    rw [← NHA.out] at tk_
    exact tk_.mono (fun e w' hh => by
      obtain ⟨A, c, q1, q2, q3, q4⟩ := hh
      exact ⟨A, c, q1, q2, q3 w' (Kd.C_below HR0.out (below_step h q4.below)), q4.below⟩))
  have HIGHB := Aside0.mk (show ∀ W, Below w.heap.size w W → Below W1.heap.size W1 W → Calls Try.prog 105 #[.slice A1 l1.length c1, .pointer (some ⟨w.heap.size, 0, none⟩)] W fun e w' => ∃ (A : Option Addr) (c : Nat), e = .returned (.slice A HB_.length c) ∧ HB_.length ≤ c ∧ Kd.C (Kd.int .u64) w' A HB_.length HB_ ∧ Below W.heap.size W w' from fun W h h1 => by
    have tk_ := nat_high.calls A1 c1 l1 w.heap.size n W HC1.out (hgn W h1)
    rw [← NHB.out] at tk_
    exact tk_.mono (fun e w' hh => by
      obtain ⟨A, c, q1, q2, q3, q4⟩ := hh
      exact ⟨A, c, q1, q2, q3 w' (Kd.C_below HR1.out (below_step h q4.below)), q4.below⟩))
  have told : ∀ {l2 l3 R : List Int} (hR : R = limbs (num l2 * num l3)) (h : l2.length + l3.length < l0.length + l1.length ∧ l2.length ≤ 400 ∧ l3.length ≤ 400 ∧ Dig (b64 : Int) l2 ∧ Dig (b64 : Int) l3) (W : World) (A2 : Option Addr) (c2 : Nat) (A3 : Option Addr) (c3 : Nat), Below w.heap.size w W → Kd.C (Kd.int .u64) W A2 l2.length l2 → l2.length ≤ c2 → Kd.C (Kd.int .u64) W A3 l3.length l3 → l3.length ≤ c3 →
      Calls Try.prog 102 #[.slice A2 l2.length c2, .slice A3 l3.length c3, .pointer (some ⟨gh, 0, none⟩)] W fun e w' => ∃ (A : Option Addr) (c : Nat), e = .returned (.slice A R.length c) ∧ R.length ≤ c ∧ Kd.C (Kd.int .u64) w' A R.length R ∧ Below W.heap.size W w' := by
    intro l2 l3 R hR h W A2 c2 A3 c3 hw h2 h2c h3 h3c
    have tk_ := HI.out A2 c2 l2 A3 c3 l3 W h.1 h.2.1 h.2.2.1 h.2.2.2.1 h.2.2.2.2 h2 h2c h3 h3c (hgg W hw)
    unfold Halved at tk_
    rw [← hR] at tk_
    refine tk_.mono (fun e w' hh => ?_)
    obtain ⟨v, q1, q2, q3⟩ := hh
    obtain ⟨A, c, rfl⟩ := Kd.R_slice q2
    exact ⟨A, c, q1, (Kd.R_reads' q2).2.1, (Kd.R_reads' q2).2.2, q3⟩
  have HALP := Aside0.mk (told NP.out PL1.out)
  have HALQ := Aside0.mk (told NQ.out PL2.out)
  have HALM := Aside0.mk (told NM.out PL3.out)
  have SUM1 := Aside0.mk (show ∀ (W : World) (A2 : Option Addr) (c2 : Nat) (A3 : Option Addr) (c3 : Nat), Kd.C (Kd.int .u64) W A2 LA.length LA → LA.length ≤ c2 → Kd.C (Kd.int .u64) W A3 HA.length HA → HA.length ≤ c3 → Calls Try.prog 106 #[.slice A2 LA.length c2, .slice A3 HA.length c3] W fun e w' => ∃ (A : Option Addr) (c : Nat), e = .returned (.slice A S1.length c) ∧ S1.length ≤ c ∧ Kd.C (Kd.int .u64) w' A S1.length S1 ∧ Below W.heap.size W w' from fun W A2 c2 A3 c3 h2 h2c h3 h3c => (nat_sum.calls k1 A2 c2 LA A3 c3 HA S1 W h2 h2c h3 h3c K1.out).mono (fun e w' hh => by
    obtain ⟨v, q1, q2, q3⟩ := hh
    obtain ⟨A, c, rfl⟩ := Kd.R_slice q2
    exact ⟨A, c, q1, (Kd.R_reads' q2).2.1, (Kd.R_reads' q2).2.2, q3⟩))
  have SUM2 := Aside0.mk (show ∀ (W : World) (A2 : Option Addr) (c2 : Nat) (A3 : Option Addr) (c3 : Nat), Kd.C (Kd.int .u64) W A2 LB.length LB → LB.length ≤ c2 → Kd.C (Kd.int .u64) W A3 HB_.length HB_ → HB_.length ≤ c3 → Calls Try.prog 106 #[.slice A2 LB.length c2, .slice A3 HB_.length c3] W fun e w' => ∃ (A : Option Addr) (c : Nat), e = .returned (.slice A S2.length c) ∧ S2.length ≤ c ∧ Kd.C (Kd.int .u64) w' A S2.length S2 ∧ Below W.heap.size W w' from fun W A2 c2 A3 c3 h2 h2c h3 h3c => (nat_sum.calls k2 A2 c2 LB A3 c3 HB_ S2 W h2 h2c h3 h3c K2.out).mono (fun e w' hh => by
    obtain ⟨v, q1, q2, q3⟩ := hh
    obtain ⟨A, c, rfl⟩ := Kd.R_slice q2
    exact ⟨A, c, q1, (Kd.R_reads' q2).2.1, (Kd.R_reads' q2).2.2, q3⟩))
  have trimmed : ∀ {l R : List Int} (hR : R = strip l) (W : World) (A2 : Option Addr) (c2 : Nat), Kd.C (Kd.int .u64) W A2 l.length l → l.length ≤ c2 → Calls Try.prog 87 #[.slice A2 l.length c2] W fun e w' => e = .returned (.slice A2 R.length c2) ∧ R.length ≤ c2 ∧ Kd.C (Kd.int .u64) w' A2 R.length R ∧ Below W.heap.size W w' := by
    intro l R hR W A2 c2 h2 h2c
    refine (nat_trimC.calls A2 c2 l W h2 h2c).mono (fun e w' hh => ?_)
    have q := C_low l.length (Kd.C_below h2 hh.2.below)
    rw [List.take_length, ← hR] at q
    have q2 := strip_len l
    rw [← hR] at q2
    exact ⟨by rw [hh.1, hR], by omega, q, hh.2.below⟩
  have TRIM1 := Aside0.mk (trimmed NT1.out)
  have TRIM2 := Aside0.mk (trimmed NT2.out)
  have TRIM3 := Aside0.mk (trimmed NU1.out)
  have TRIM4 := Aside0.mk (trimmed NV1.out)
  have LESS1 := Aside0.mk (show ∀ (W : World) (A2 : Option Addr) (c2 : Nat) (A3 : Option Addr) (c3 : Nat), Kd.C (Kd.int .u64) W A2 Mm.length Mm → Mm.length ≤ c2 → Kd.C (Kd.int .u64) W A3 P.length P → P.length ≤ c3 → Calls Try.prog 77 #[.slice A2 Mm.length c2, .slice A3 P.length c3] W fun e w' => ∃ (A : Option Addr) (c : Nat), e = .returned (.slice A U.length c) ∧ U.length ≤ c ∧ Kd.C (Kd.int .u64) w' A U.length U ∧ Below W.heap.size W w' from fun W A2 c2 A3 c3 h2 h2c h3 h3c => (nat_less.calls k3 A2 c2 Mm A3 c3 P U W h2 h2c h3 h3c K3.out).mono (fun e w' hh => by
    obtain ⟨v, q1, q2, q3⟩ := hh
    obtain ⟨A, c, rfl⟩ := Kd.R_slice q2
    exact ⟨A, c, q1, (Kd.R_reads' q2).2.1, (Kd.R_reads' q2).2.2, q3⟩))
  have LESS2 := Aside0.mk (show ∀ (W : World) (A2 : Option Addr) (c2 : Nat) (A3 : Option Addr) (c3 : Nat), Kd.C (Kd.int .u64) W A2 U1.length U1 → U1.length ≤ c2 → Kd.C (Kd.int .u64) W A3 Q.length Q → Q.length ≤ c3 → Calls Try.prog 77 #[.slice A2 U1.length c2, .slice A3 Q.length c3] W fun e w' => ∃ (A : Option Addr) (c : Nat), e = .returned (.slice A V.length c) ∧ V.length ≤ c ∧ Kd.C (Kd.int .u64) w' A V.length V ∧ Below W.heap.size W w' from fun W A2 c2 A3 c3 h2 h2c h3 h3c => (nat_less.calls k4 A2 c2 U1 A3 c3 Q V W h2 h2c h3 h3c K4.out).mono (fun e w' hh => by
    obtain ⟨v, q1, q2, q3⟩ := hh
    obtain ⟨A, c, rfl⟩ := Kd.R_slice q2
    exact ⟨A, c, q1, (Kd.R_reads' q2).2.1, (Kd.R_reads' q2).2.2, q3⟩))
  clear told hgn hgg trimmed
  go_region_held3 (fun W' => W'.cell? ⟨gh, 0, none⟩ = some (.func (.func 102) #[] #[.pointer (some ⟨gh, 0, none⟩)])) (exact HGC.out _ (by repeat (first | exact HB.out | apply below_drew | apply pw_below_drewN))) (first | (go_at_call 104; (with_reducible refine (LOWA.out _ ?sB ?s1).mono ?_); (case sB => exact (by repeat (first | exact HB.out | apply below_drew | apply pw_below_drewN))); (case s1 => exact (by repeat (first | exact HB1.out | apply below_drew | apply pw_below_drewN))); rintro e w2 ⟨rfl, hb⟩; have n1_ := Aside0.mk (below_step (by repeat (first | exact HB.out | apply below_drew | apply pw_below_drewN)) hb); have n2_ := Aside0.mk (below_step (by repeat (first | exact HB1.out | apply below_drew | apply pw_below_drewN)) hb); clear HB HB1; have HB := n1_; have HB1 := n2_; clear n1_ n2_; (try (have n_ := Aside0.mk (Kd.C_below (by first | exact FP.out | exact Kd.C_drew FP.out) hb); clear FP; have FP := n_; clear n_)); clear hb) | (go_at_call 104; (with_reducible refine (LOWB.out _ ?sB ?s1).mono ?_); (case sB => exact (by repeat (first | exact HB.out | apply below_drew | apply pw_below_drewN))); (case s1 => exact (by repeat (first | exact HB1.out | apply below_drew | apply pw_below_drewN))); rintro e w2 ⟨rfl, hb⟩; have n1_ := Aside0.mk (below_step (by repeat (first | exact HB.out | apply below_drew | apply pw_below_drewN)) hb); have n2_ := Aside0.mk (below_step (by repeat (first | exact HB1.out | apply below_drew | apply pw_below_drewN)) hb); clear HB HB1; have HB := n1_; have HB1 := n2_; clear n1_ n2_; (try (have n_ := Aside0.mk (Kd.C_below (by first | exact FP.out | exact Kd.C_drew FP.out) hb); clear FP; have FP := n_; clear n_)); clear hb) | (go_at_call 102; (with_reducible refine (HALP.out _ _ _ _ _ ?sB ?s1 ?s2 ?s3 ?s4).mono ?_); (case sB => exact (by repeat (first | exact HB.out | apply below_drew | apply pw_below_drewN))); (case s1 => exact (FLA.out _ (by repeat (first | exact HB.out | apply below_drew | apply pw_below_drewN)))); (case s2 => exact CLA.out); (case s3 => exact (FLB.out _ (by repeat (first | exact HB.out | apply below_drew | apply pw_below_drewN)))); (case s4 => exact CLB.out); rintro e w2 ⟨AP, cP, rfl, hc_, hC_, hb⟩; have n1_ := Aside0.mk (below_step (by repeat (first | exact HB.out | apply below_drew | apply pw_below_drewN)) hb); have n2_ := Aside0.mk (below_step (by repeat (first | exact HB1.out | apply below_drew | apply pw_below_drewN)) hb); clear HB HB1; have HB := n1_; have HB1 := n2_; clear n1_ n2_; clear hb; have CP := Aside0.mk hc_; have FP := Aside0.mk hC_; clear hc_ hC_) | (go_at_call 105; (with_reducible refine (HIGHA.out _ ?sB ?s1).mono ?_); (case sB => exact (by repeat (first | exact HB.out | apply below_drew | apply pw_below_drewN))); (case s1 => exact (by repeat (first | exact HB1.out | apply below_drew | apply pw_below_drewN))); rintro e w2 ⟨AHA, cHA, rfl, hc_, hC_, hb⟩; have n1_ := Aside0.mk (below_step (by repeat (first | exact HB.out | apply below_drew | apply pw_below_drewN)) hb); have n2_ := Aside0.mk (below_step (by repeat (first | exact HB1.out | apply below_drew | apply pw_below_drewN)) hb); clear HB HB1; have HB := n1_; have HB1 := n2_; clear n1_ n2_; (try (have n_ := Aside0.mk (Kd.C_below (by first | exact FP.out | exact Kd.C_drew FP.out) hb); clear FP; have FP := n_; clear n_)); clear hb; have CHA := Aside0.mk hc_; have FHA := Aside0.mk hC_; clear hc_ hC_) | (go_at_call 105; (with_reducible refine (HIGHB.out _ ?sB ?s1).mono ?_); (case sB => exact (by repeat (first | exact HB.out | apply below_drew | apply pw_below_drewN))); (case s1 => exact (by repeat (first | exact HB1.out | apply below_drew | apply pw_below_drewN))); rintro e w2 ⟨AHB, cHB, rfl, hc_, hC_, hb⟩; have n1_ := Aside0.mk (below_step (by repeat (first | exact HB.out | apply below_drew | apply pw_below_drewN)) hb); have n2_ := Aside0.mk (below_step (by repeat (first | exact HB1.out | apply below_drew | apply pw_below_drewN)) hb); clear HB HB1; have HB := n1_; have HB1 := n2_; clear n1_ n2_; (try (have n_ := Aside0.mk (Kd.C_below (by first | exact FP.out | exact Kd.C_drew FP.out) hb); clear FP; have FP := n_; clear n_)); (try (have n_ := Aside0.mk (Kd.C_below (by first | exact FHA.out | exact Kd.C_drew FHA.out) hb); clear FHA; have FHA := n_; clear n_)); clear hb; have CHB := Aside0.mk hc_; have FHB := Aside0.mk hC_; clear hc_ hC_) | (go_at_call 102; (with_reducible refine (HALQ.out _ _ _ _ _ ?sB ?s1 ?s2 ?s3 ?s4).mono ?_); (case sB => exact (by repeat (first | exact HB.out | apply below_drew | apply pw_below_drewN))); (case s1 => exact (by first | exact FHA.out | exact Kd.C_drew FHA.out)); (case s2 => exact CHA.out); (case s3 => exact (by first | exact FHB.out | exact Kd.C_drew FHB.out)); (case s4 => exact CHB.out); rintro e w2 ⟨AQ, cQ, rfl, hc_, hC_, hb⟩; have n1_ := Aside0.mk (below_step (by repeat (first | exact HB.out | apply below_drew | apply pw_below_drewN)) hb); have n2_ := Aside0.mk (below_step (by repeat (first | exact HB1.out | apply below_drew | apply pw_below_drewN)) hb); clear HB HB1; have HB := n1_; have HB1 := n2_; clear n1_ n2_; (try (have n_ := Aside0.mk (Kd.C_below (by first | exact FP.out | exact Kd.C_drew FP.out) hb); clear FP; have FP := n_; clear n_)); clear hb; have CQ := Aside0.mk hc_; have FQ := Aside0.mk hC_; clear hc_ hC_))
  clear FHA FHB CHA CHB
  go_wp2
  go_region_held3 (fun W' => W'.cell? ⟨gh, 0, none⟩ = some (.func (.func 102) #[] #[.pointer (some ⟨gh, 0, none⟩)])) (exact HGC.out _ (by repeat (first | exact HB.out | apply below_drew | apply pw_below_drewN))) (first | (go_at_call 104; (with_reducible refine (LOWA.out _ ?sB ?s1).mono ?_); (case sB => exact (by repeat (first | exact HB.out | apply below_drew | apply pw_below_drewN))); (case s1 => exact (by repeat (first | exact HB1.out | apply below_drew | apply pw_below_drewN))); rintro e w2 ⟨rfl, hb⟩; have n1_ := Aside0.mk (below_step (by repeat (first | exact HB.out | apply below_drew | apply pw_below_drewN)) hb); have n2_ := Aside0.mk (below_step (by repeat (first | exact HB1.out | apply below_drew | apply pw_below_drewN)) hb); clear HB HB1; have HB := n1_; have HB1 := n2_; clear n1_ n2_; (try (have n_ := Aside0.mk (Kd.C_below (by first | exact FP.out | exact Kd.C_drew FP.out) hb); clear FP; have FP := n_; clear n_)); (try (have n_ := Aside0.mk (Kd.C_below (by first | exact FQ.out | exact Kd.C_drew FQ.out) hb); clear FQ; have FQ := n_; clear n_)); (try (have n_ := Aside0.mk (Kd.C_below (by first | exact FHC.out | exact Kd.C_drew FHC.out) hb); clear FHC; have FHC := n_; clear n_)); (try (have n_ := Aside0.mk (Kd.C_below (by first | exact FHD.out | exact Kd.C_drew FHD.out) hb); clear FHD; have FHD := n_; clear n_)); (try (have n_ := Aside0.mk (Kd.C_below (by first | exact FS1.out | exact Kd.C_drew FS1.out) hb); clear FS1; have FS1 := n_; clear n_)); (try (have n_ := Aside0.mk (Kd.C_below (by first | exact FT1.out | exact Kd.C_drew FT1.out) hb); clear FT1; have FT1 := n_; clear n_)); (try (have n_ := Aside0.mk (Kd.C_below (by first | exact FS2.out | exact Kd.C_drew FS2.out) hb); clear FS2; have FS2 := n_; clear n_)); (try (have n_ := Aside0.mk (Kd.C_below (by first | exact FT2.out | exact Kd.C_drew FT2.out) hb); clear FT2; have FT2 := n_; clear n_)); clear hb) | (go_at_call 104; (with_reducible refine (LOWB.out _ ?sB ?s1).mono ?_); (case sB => exact (by repeat (first | exact HB.out | apply below_drew | apply pw_below_drewN))); (case s1 => exact (by repeat (first | exact HB1.out | apply below_drew | apply pw_below_drewN))); rintro e w2 ⟨rfl, hb⟩; have n1_ := Aside0.mk (below_step (by repeat (first | exact HB.out | apply below_drew | apply pw_below_drewN)) hb); have n2_ := Aside0.mk (below_step (by repeat (first | exact HB1.out | apply below_drew | apply pw_below_drewN)) hb); clear HB HB1; have HB := n1_; have HB1 := n2_; clear n1_ n2_; (try (have n_ := Aside0.mk (Kd.C_below (by first | exact FP.out | exact Kd.C_drew FP.out) hb); clear FP; have FP := n_; clear n_)); (try (have n_ := Aside0.mk (Kd.C_below (by first | exact FQ.out | exact Kd.C_drew FQ.out) hb); clear FQ; have FQ := n_; clear n_)); (try (have n_ := Aside0.mk (Kd.C_below (by first | exact FHC.out | exact Kd.C_drew FHC.out) hb); clear FHC; have FHC := n_; clear n_)); (try (have n_ := Aside0.mk (Kd.C_below (by first | exact FHD.out | exact Kd.C_drew FHD.out) hb); clear FHD; have FHD := n_; clear n_)); (try (have n_ := Aside0.mk (Kd.C_below (by first | exact FS1.out | exact Kd.C_drew FS1.out) hb); clear FS1; have FS1 := n_; clear n_)); (try (have n_ := Aside0.mk (Kd.C_below (by first | exact FT1.out | exact Kd.C_drew FT1.out) hb); clear FT1; have FT1 := n_; clear n_)); (try (have n_ := Aside0.mk (Kd.C_below (by first | exact FS2.out | exact Kd.C_drew FS2.out) hb); clear FS2; have FS2 := n_; clear n_)); (try (have n_ := Aside0.mk (Kd.C_below (by first | exact FT2.out | exact Kd.C_drew FT2.out) hb); clear FT2; have FT2 := n_; clear n_)); clear hb) | (go_at_call 105; (with_reducible refine (HIGHA.out _ ?sB ?s1).mono ?_); (case sB => exact (by repeat (first | exact HB.out | apply below_drew | apply pw_below_drewN))); (case s1 => exact (by repeat (first | exact HB1.out | apply below_drew | apply pw_below_drewN))); rintro e w2 ⟨AHC, cHC, rfl, hc_, hC_, hb⟩; have n1_ := Aside0.mk (below_step (by repeat (first | exact HB.out | apply below_drew | apply pw_below_drewN)) hb); have n2_ := Aside0.mk (below_step (by repeat (first | exact HB1.out | apply below_drew | apply pw_below_drewN)) hb); clear HB HB1; have HB := n1_; have HB1 := n2_; clear n1_ n2_; (try (have n_ := Aside0.mk (Kd.C_below (by first | exact FP.out | exact Kd.C_drew FP.out) hb); clear FP; have FP := n_; clear n_)); (try (have n_ := Aside0.mk (Kd.C_below (by first | exact FQ.out | exact Kd.C_drew FQ.out) hb); clear FQ; have FQ := n_; clear n_)); (try (have n_ := Aside0.mk (Kd.C_below (by first | exact FHC.out | exact Kd.C_drew FHC.out) hb); clear FHC; have FHC := n_; clear n_)); (try (have n_ := Aside0.mk (Kd.C_below (by first | exact FHD.out | exact Kd.C_drew FHD.out) hb); clear FHD; have FHD := n_; clear n_)); (try (have n_ := Aside0.mk (Kd.C_below (by first | exact FS1.out | exact Kd.C_drew FS1.out) hb); clear FS1; have FS1 := n_; clear n_)); (try (have n_ := Aside0.mk (Kd.C_below (by first | exact FT1.out | exact Kd.C_drew FT1.out) hb); clear FT1; have FT1 := n_; clear n_)); (try (have n_ := Aside0.mk (Kd.C_below (by first | exact FS2.out | exact Kd.C_drew FS2.out) hb); clear FS2; have FS2 := n_; clear n_)); (try (have n_ := Aside0.mk (Kd.C_below (by first | exact FT2.out | exact Kd.C_drew FT2.out) hb); clear FT2; have FT2 := n_; clear n_)); clear hb; have CHC := Aside0.mk hc_; have FHC := Aside0.mk hC_; clear hc_ hC_) | (go_at_call 105; (with_reducible refine (HIGHB.out _ ?sB ?s1).mono ?_); (case sB => exact (by repeat (first | exact HB.out | apply below_drew | apply pw_below_drewN))); (case s1 => exact (by repeat (first | exact HB1.out | apply below_drew | apply pw_below_drewN))); rintro e w2 ⟨AHD, cHD, rfl, hc_, hC_, hb⟩; have n1_ := Aside0.mk (below_step (by repeat (first | exact HB.out | apply below_drew | apply pw_below_drewN)) hb); have n2_ := Aside0.mk (below_step (by repeat (first | exact HB1.out | apply below_drew | apply pw_below_drewN)) hb); clear HB HB1; have HB := n1_; have HB1 := n2_; clear n1_ n2_; (try (have n_ := Aside0.mk (Kd.C_below (by first | exact FP.out | exact Kd.C_drew FP.out) hb); clear FP; have FP := n_; clear n_)); (try (have n_ := Aside0.mk (Kd.C_below (by first | exact FQ.out | exact Kd.C_drew FQ.out) hb); clear FQ; have FQ := n_; clear n_)); (try (have n_ := Aside0.mk (Kd.C_below (by first | exact FHC.out | exact Kd.C_drew FHC.out) hb); clear FHC; have FHC := n_; clear n_)); (try (have n_ := Aside0.mk (Kd.C_below (by first | exact FHD.out | exact Kd.C_drew FHD.out) hb); clear FHD; have FHD := n_; clear n_)); (try (have n_ := Aside0.mk (Kd.C_below (by first | exact FS1.out | exact Kd.C_drew FS1.out) hb); clear FS1; have FS1 := n_; clear n_)); (try (have n_ := Aside0.mk (Kd.C_below (by first | exact FT1.out | exact Kd.C_drew FT1.out) hb); clear FT1; have FT1 := n_; clear n_)); (try (have n_ := Aside0.mk (Kd.C_below (by first | exact FS2.out | exact Kd.C_drew FS2.out) hb); clear FS2; have FS2 := n_; clear n_)); (try (have n_ := Aside0.mk (Kd.C_below (by first | exact FT2.out | exact Kd.C_drew FT2.out) hb); clear FT2; have FT2 := n_; clear n_)); clear hb; have CHD := Aside0.mk hc_; have FHD := Aside0.mk hC_; clear hc_ hC_) | (go_at_call 106; (with_reducible refine (SUM1.out _ _ _ _ _ ?s1 ?s2 ?s3 ?s4).mono ?_); (case s1 => exact (FLA.out _ (by repeat (first | exact HB.out | apply below_drew | apply pw_below_drewN)))); (case s2 => exact CLA.out); (case s3 => exact (by first | exact FHC.out | exact Kd.C_drew FHC.out)); (case s4 => exact CHC.out); rintro e w2 ⟨AS1, cS1, rfl, hc_, hC_, hb⟩; have n1_ := Aside0.mk (below_step (by repeat (first | exact HB.out | apply below_drew | apply pw_below_drewN)) hb); have n2_ := Aside0.mk (below_step (by repeat (first | exact HB1.out | apply below_drew | apply pw_below_drewN)) hb); clear HB HB1; have HB := n1_; have HB1 := n2_; clear n1_ n2_; (try (have n_ := Aside0.mk (Kd.C_below (by first | exact FP.out | exact Kd.C_drew FP.out) hb); clear FP; have FP := n_; clear n_)); (try (have n_ := Aside0.mk (Kd.C_below (by first | exact FQ.out | exact Kd.C_drew FQ.out) hb); clear FQ; have FQ := n_; clear n_)); (try (have n_ := Aside0.mk (Kd.C_below (by first | exact FHC.out | exact Kd.C_drew FHC.out) hb); clear FHC; have FHC := n_; clear n_)); (try (have n_ := Aside0.mk (Kd.C_below (by first | exact FHD.out | exact Kd.C_drew FHD.out) hb); clear FHD; have FHD := n_; clear n_)); (try (have n_ := Aside0.mk (Kd.C_below (by first | exact FS1.out | exact Kd.C_drew FS1.out) hb); clear FS1; have FS1 := n_; clear n_)); (try (have n_ := Aside0.mk (Kd.C_below (by first | exact FT1.out | exact Kd.C_drew FT1.out) hb); clear FT1; have FT1 := n_; clear n_)); (try (have n_ := Aside0.mk (Kd.C_below (by first | exact FS2.out | exact Kd.C_drew FS2.out) hb); clear FS2; have FS2 := n_; clear n_)); (try (have n_ := Aside0.mk (Kd.C_below (by first | exact FT2.out | exact Kd.C_drew FT2.out) hb); clear FT2; have FT2 := n_; clear n_)); clear hb; have CS1 := Aside0.mk hc_; have FS1 := Aside0.mk hC_; clear hc_ hC_) | (go_at_call 106; (with_reducible refine (SUM2.out _ _ _ _ _ ?s1 ?s2 ?s3 ?s4).mono ?_); (case s1 => exact (FLB.out _ (by repeat (first | exact HB.out | apply below_drew | apply pw_below_drewN)))); (case s2 => exact CLB.out); (case s3 => exact (by first | exact FHD.out | exact Kd.C_drew FHD.out)); (case s4 => exact CHD.out); rintro e w2 ⟨AS2, cS2, rfl, hc_, hC_, hb⟩; have n1_ := Aside0.mk (below_step (by repeat (first | exact HB.out | apply below_drew | apply pw_below_drewN)) hb); have n2_ := Aside0.mk (below_step (by repeat (first | exact HB1.out | apply below_drew | apply pw_below_drewN)) hb); clear HB HB1; have HB := n1_; have HB1 := n2_; clear n1_ n2_; (try (have n_ := Aside0.mk (Kd.C_below (by first | exact FP.out | exact Kd.C_drew FP.out) hb); clear FP; have FP := n_; clear n_)); (try (have n_ := Aside0.mk (Kd.C_below (by first | exact FQ.out | exact Kd.C_drew FQ.out) hb); clear FQ; have FQ := n_; clear n_)); (try (have n_ := Aside0.mk (Kd.C_below (by first | exact FHC.out | exact Kd.C_drew FHC.out) hb); clear FHC; have FHC := n_; clear n_)); (try (have n_ := Aside0.mk (Kd.C_below (by first | exact FHD.out | exact Kd.C_drew FHD.out) hb); clear FHD; have FHD := n_; clear n_)); (try (have n_ := Aside0.mk (Kd.C_below (by first | exact FS1.out | exact Kd.C_drew FS1.out) hb); clear FS1; have FS1 := n_; clear n_)); (try (have n_ := Aside0.mk (Kd.C_below (by first | exact FT1.out | exact Kd.C_drew FT1.out) hb); clear FT1; have FT1 := n_; clear n_)); (try (have n_ := Aside0.mk (Kd.C_below (by first | exact FS2.out | exact Kd.C_drew FS2.out) hb); clear FS2; have FS2 := n_; clear n_)); (try (have n_ := Aside0.mk (Kd.C_below (by first | exact FT2.out | exact Kd.C_drew FT2.out) hb); clear FT2; have FT2 := n_; clear n_)); clear hb; have CS2 := Aside0.mk hc_; have FS2 := Aside0.mk hC_; clear hc_ hC_) | (go_at_call 87; (with_reducible refine (TRIM1.out _ _ _ ?s1 ?s2).mono ?_); (case s1 => exact (by first | exact FS1.out | exact Kd.C_drew FS1.out)); (case s2 => exact CS1.out); rintro e w2 ⟨rfl, hc_, hC_, hb⟩; have n1_ := Aside0.mk (below_step (by repeat (first | exact HB.out | apply below_drew | apply pw_below_drewN)) hb); have n2_ := Aside0.mk (below_step (by repeat (first | exact HB1.out | apply below_drew | apply pw_below_drewN)) hb); clear HB HB1; have HB := n1_; have HB1 := n2_; clear n1_ n2_; (try (have n_ := Aside0.mk (Kd.C_below (by first | exact FP.out | exact Kd.C_drew FP.out) hb); clear FP; have FP := n_; clear n_)); (try (have n_ := Aside0.mk (Kd.C_below (by first | exact FQ.out | exact Kd.C_drew FQ.out) hb); clear FQ; have FQ := n_; clear n_)); (try (have n_ := Aside0.mk (Kd.C_below (by first | exact FHC.out | exact Kd.C_drew FHC.out) hb); clear FHC; have FHC := n_; clear n_)); (try (have n_ := Aside0.mk (Kd.C_below (by first | exact FHD.out | exact Kd.C_drew FHD.out) hb); clear FHD; have FHD := n_; clear n_)); (try (have n_ := Aside0.mk (Kd.C_below (by first | exact FS1.out | exact Kd.C_drew FS1.out) hb); clear FS1; have FS1 := n_; clear n_)); (try (have n_ := Aside0.mk (Kd.C_below (by first | exact FT1.out | exact Kd.C_drew FT1.out) hb); clear FT1; have FT1 := n_; clear n_)); (try (have n_ := Aside0.mk (Kd.C_below (by first | exact FS2.out | exact Kd.C_drew FS2.out) hb); clear FS2; have FS2 := n_; clear n_)); (try (have n_ := Aside0.mk (Kd.C_below (by first | exact FT2.out | exact Kd.C_drew FT2.out) hb); clear FT2; have FT2 := n_; clear n_)); clear hb; have CT1 := Aside0.mk hc_; have FT1 := Aside0.mk hC_; clear hc_ hC_) | (go_at_call 87; (with_reducible refine (TRIM2.out _ _ _ ?s1 ?s2).mono ?_); (case s1 => exact (by first | exact FS2.out | exact Kd.C_drew FS2.out)); (case s2 => exact CS2.out); rintro e w2 ⟨rfl, hc_, hC_, hb⟩; have n1_ := Aside0.mk (below_step (by repeat (first | exact HB.out | apply below_drew | apply pw_below_drewN)) hb); have n2_ := Aside0.mk (below_step (by repeat (first | exact HB1.out | apply below_drew | apply pw_below_drewN)) hb); clear HB HB1; have HB := n1_; have HB1 := n2_; clear n1_ n2_; (try (have n_ := Aside0.mk (Kd.C_below (by first | exact FP.out | exact Kd.C_drew FP.out) hb); clear FP; have FP := n_; clear n_)); (try (have n_ := Aside0.mk (Kd.C_below (by first | exact FQ.out | exact Kd.C_drew FQ.out) hb); clear FQ; have FQ := n_; clear n_)); (try (have n_ := Aside0.mk (Kd.C_below (by first | exact FHC.out | exact Kd.C_drew FHC.out) hb); clear FHC; have FHC := n_; clear n_)); (try (have n_ := Aside0.mk (Kd.C_below (by first | exact FHD.out | exact Kd.C_drew FHD.out) hb); clear FHD; have FHD := n_; clear n_)); (try (have n_ := Aside0.mk (Kd.C_below (by first | exact FS1.out | exact Kd.C_drew FS1.out) hb); clear FS1; have FS1 := n_; clear n_)); (try (have n_ := Aside0.mk (Kd.C_below (by first | exact FT1.out | exact Kd.C_drew FT1.out) hb); clear FT1; have FT1 := n_; clear n_)); (try (have n_ := Aside0.mk (Kd.C_below (by first | exact FS2.out | exact Kd.C_drew FS2.out) hb); clear FS2; have FS2 := n_; clear n_)); (try (have n_ := Aside0.mk (Kd.C_below (by first | exact FT2.out | exact Kd.C_drew FT2.out) hb); clear FT2; have FT2 := n_; clear n_)); clear hb; have CT2 := Aside0.mk hc_; have FT2 := Aside0.mk hC_; clear hc_ hC_) | (go_at_call 102; (with_reducible refine (HALM.out _ _ _ _ _ ?sB ?s1 ?s2 ?s3 ?s4).mono ?_); (case sB => exact (by repeat (first | exact HB.out | apply below_drew | apply pw_below_drewN))); (case s1 => exact (by first | exact FT1.out | exact Kd.C_drew FT1.out)); (case s2 => exact CT1.out); (case s3 => exact (by first | exact FT2.out | exact Kd.C_drew FT2.out)); (case s4 => exact CT2.out); rintro e w2 ⟨AM, cM, rfl, hc_, hC_, hb⟩; have n1_ := Aside0.mk (below_step (by repeat (first | exact HB.out | apply below_drew | apply pw_below_drewN)) hb); have n2_ := Aside0.mk (below_step (by repeat (first | exact HB1.out | apply below_drew | apply pw_below_drewN)) hb); clear HB HB1; have HB := n1_; have HB1 := n2_; clear n1_ n2_; (try (have n_ := Aside0.mk (Kd.C_below (by first | exact FP.out | exact Kd.C_drew FP.out) hb); clear FP; have FP := n_; clear n_)); (try (have n_ := Aside0.mk (Kd.C_below (by first | exact FQ.out | exact Kd.C_drew FQ.out) hb); clear FQ; have FQ := n_; clear n_)); clear hb; have CM := Aside0.mk hc_; have FM := Aside0.mk hC_; clear hc_ hC_))
  clear FHC FHD CHC CHD FS1 FS2 FT1 FT2
  obtain ⟨N, hN⟩ : ∃ N : Nat, N = l0.length + l1.length + 1 := ⟨_, rfl⟩
  obtain ⟨O0, hO0⟩ : ∃ X : List Int, X = List.replicate N 0 := ⟨_, rfl⟩
  have HNL := Aside0.mk (show N ≤ 1000 from by have := HL.out; omega)
  have NO0 := Aside0.mk hO0
  have NO1b := Aside0.mk (show O1 = P.take (min P.length O0.length) ++ O0.drop (min P.length O0.length) from by
    have h := NO1.out
    rw [← hN, ← hO0] at h
    rw [hO0, List.length_replicate, ← hO0]
    exact h)
  have K6b := Aside0.mk (show nat_into.f k6 O2 Q (2 * (n : Int)) = some O3 from by
    have h := K6.out
    rw [Int.natCast_mul] at h
    exact h)
  have eN : wrap64 (wrap64 ((l0.length : Int) + (l1.length : Int)) + 1) = (N : Int) := by
    have := HL.out
    unfold wrap64
    omega
  have eNi : IntKind.i64.wrap (IntKind.i64.wrap ((l0.length : Int) + (l1.length : Int)) + 1) = (N : Int) := by rw [i64_w, i64_w]; exact eN
  have e2n : wrap64 (2 * (n : Int)) = 2 * (n : Int) := by
    have := HL.out
    unfold wrap64
    omega
  clear hN hO0
  go_wp2_with (first | (go_at_call 77; (with_reducible refine (LESS1.out _ _ _ _ _ ?s1 ?s2 ?s3 ?s4).mono ?_); (case s1 => exact (by first | exact FM.out | exact Kd.C_drew FM.out)); (case s2 => exact CM.out); (case s3 => exact (by first | exact FP.out | exact Kd.C_drew FP.out)); (case s4 => exact CP.out); rintro e w2 ⟨AU, cU, rfl, hc_, hC_, hb⟩; have n1_ := Aside0.mk (below_step (by repeat (first | exact HB.out | apply below_drew | apply pw_below_drewN)) hb); have n2_ := Aside0.mk (below_step (by repeat (first | exact HB1.out | apply below_drew | apply pw_below_drewN)) hb); clear HB HB1; have HB := n1_; have HB1 := n2_; clear n1_ n2_; (try (have n_ := Aside0.mk (Kd.C_below (by first | exact FP.out | exact Kd.C_drew FP.out) hb); clear FP; have FP := n_; clear n_)); (try (have n_ := Aside0.mk (Kd.C_below (by first | exact FQ.out | exact Kd.C_drew FQ.out) hb); clear FQ; have FQ := n_; clear n_)); (try (have n_ := Aside0.mk (Kd.C_below (by first | exact FM.out | exact Kd.C_drew FM.out) hb); clear FM; have FM := n_; clear n_)); (try (have n_ := Aside0.mk (Kd.C_below (by first | exact FU.out | exact Kd.C_drew FU.out) hb); clear FU; have FU := n_; clear n_)); (try (have n_ := Aside0.mk (Kd.C_below (by first | exact FU1.out | exact Kd.C_drew FU1.out) hb); clear FU1; have FU1 := n_; clear n_)); (try (have n_ := Aside0.mk (Kd.C_below (by first | exact FV.out | exact Kd.C_drew FV.out) hb); clear FV; have FV := n_; clear n_)); clear hb; have CU := Aside0.mk hc_; have FU := Aside0.mk hC_; clear hc_ hC_) | (go_at_call 77; (with_reducible refine (LESS2.out _ _ _ _ _ ?s1 ?s2 ?s3 ?s4).mono ?_); (case s1 => exact (by first | exact FU1.out | exact Kd.C_drew FU1.out)); (case s2 => exact CU1.out); (case s3 => exact (by first | exact FQ.out | exact Kd.C_drew FQ.out)); (case s4 => exact CQ.out); rintro e w2 ⟨AV, cV, rfl, hc_, hC_, hb⟩; have n1_ := Aside0.mk (below_step (by repeat (first | exact HB.out | apply below_drew | apply pw_below_drewN)) hb); have n2_ := Aside0.mk (below_step (by repeat (first | exact HB1.out | apply below_drew | apply pw_below_drewN)) hb); clear HB HB1; have HB := n1_; have HB1 := n2_; clear n1_ n2_; (try (have n_ := Aside0.mk (Kd.C_below (by first | exact FP.out | exact Kd.C_drew FP.out) hb); clear FP; have FP := n_; clear n_)); (try (have n_ := Aside0.mk (Kd.C_below (by first | exact FQ.out | exact Kd.C_drew FQ.out) hb); clear FQ; have FQ := n_; clear n_)); (try (have n_ := Aside0.mk (Kd.C_below (by first | exact FM.out | exact Kd.C_drew FM.out) hb); clear FM; have FM := n_; clear n_)); (try (have n_ := Aside0.mk (Kd.C_below (by first | exact FU.out | exact Kd.C_drew FU.out) hb); clear FU; have FU := n_; clear n_)); (try (have n_ := Aside0.mk (Kd.C_below (by first | exact FU1.out | exact Kd.C_drew FU1.out) hb); clear FU1; have FU1 := n_; clear n_)); (try (have n_ := Aside0.mk (Kd.C_below (by first | exact FV.out | exact Kd.C_drew FV.out) hb); clear FV; have FV := n_; clear n_)); clear hb; have CV := Aside0.mk hc_; have FV := Aside0.mk hC_; clear hc_ hC_) | (go_at_call 87; (with_reducible refine (TRIM3.out _ _ _ ?s1 ?s2).mono ?_); (case s1 => exact (by first | exact FU.out | exact Kd.C_drew FU.out)); (case s2 => exact CU.out); rintro e w2 ⟨rfl, hc_, hC_, hb⟩; have n1_ := Aside0.mk (below_step (by repeat (first | exact HB.out | apply below_drew | apply pw_below_drewN)) hb); have n2_ := Aside0.mk (below_step (by repeat (first | exact HB1.out | apply below_drew | apply pw_below_drewN)) hb); clear HB HB1; have HB := n1_; have HB1 := n2_; clear n1_ n2_; (try (have n_ := Aside0.mk (Kd.C_below (by first | exact FP.out | exact Kd.C_drew FP.out) hb); clear FP; have FP := n_; clear n_)); (try (have n_ := Aside0.mk (Kd.C_below (by first | exact FQ.out | exact Kd.C_drew FQ.out) hb); clear FQ; have FQ := n_; clear n_)); (try (have n_ := Aside0.mk (Kd.C_below (by first | exact FM.out | exact Kd.C_drew FM.out) hb); clear FM; have FM := n_; clear n_)); (try (have n_ := Aside0.mk (Kd.C_below (by first | exact FU.out | exact Kd.C_drew FU.out) hb); clear FU; have FU := n_; clear n_)); (try (have n_ := Aside0.mk (Kd.C_below (by first | exact FU1.out | exact Kd.C_drew FU1.out) hb); clear FU1; have FU1 := n_; clear n_)); (try (have n_ := Aside0.mk (Kd.C_below (by first | exact FV.out | exact Kd.C_drew FV.out) hb); clear FV; have FV := n_; clear n_)); clear hb; have CU1 := Aside0.mk hc_; have FU1 := Aside0.mk hC_; clear hc_ hC_) | (go_at_call 87; (with_reducible refine (TRIM4.out _ _ _ ?s1 ?s2).mono ?_); (case s1 => exact (by first | exact FV.out | exact Kd.C_drew FV.out)); (case s2 => exact CV.out); rintro e w2 ⟨rfl, hc_, hC_, hb⟩; have n1_ := Aside0.mk (below_step (by repeat (first | exact HB.out | apply below_drew | apply pw_below_drewN)) hb); have n2_ := Aside0.mk (below_step (by repeat (first | exact HB1.out | apply below_drew | apply pw_below_drewN)) hb); clear HB HB1; have HB := n1_; have HB1 := n2_; clear n1_ n2_; (try (have n_ := Aside0.mk (Kd.C_below (by first | exact FP.out | exact Kd.C_drew FP.out) hb); clear FP; have FP := n_; clear n_)); (try (have n_ := Aside0.mk (Kd.C_below (by first | exact FQ.out | exact Kd.C_drew FQ.out) hb); clear FQ; have FQ := n_; clear n_)); (try (have n_ := Aside0.mk (Kd.C_below (by first | exact FM.out | exact Kd.C_drew FM.out) hb); clear FM; have FM := n_; clear n_)); (try (have n_ := Aside0.mk (Kd.C_below (by first | exact FU.out | exact Kd.C_drew FU.out) hb); clear FU; have FU := n_; clear n_)); (try (have n_ := Aside0.mk (Kd.C_below (by first | exact FU1.out | exact Kd.C_drew FU1.out) hb); clear FU1; have FU1 := n_; clear n_)); (try (have n_ := Aside0.mk (Kd.C_below (by first | exact FV.out | exact Kd.C_drew FV.out) hb); clear FV; have FV := n_; clear n_)); clear hb; have CV1 := Aside0.mk hc_; have FV1 := Aside0.mk hC_; clear hc_ hC_) | ((with_reducible refine gate_dst (N := 80) rfl ?_); refine Kd.R_make (Kd.int .u64) _ 47 rfl (N := 80) rfl 29 _ _ rfl (N : Int) ?hx ?hy Try.underlying29 (.int .u64 0) 8 info47 rfl (by decide) (by omega) 0 (ok := fun _ => True) (okp := fun _ => True) rfl (fun _ hk => hk) trivial (by omega) (by have := HNL.out; omega) (Below.refl _ _) (Nat.le_refl _) ?_; (case hx => first | rfl | exact congrArg (Value.int IntKind.i64) eN | exact congrArg (Value.int IntKind.i64) eNi); (case hy => first | rfl | exact congrArg (Value.int IntKind.i64) eN | exact congrArg (Value.int IntKind.i64) eNi); intro v wm ho hb hg_ hnew_; rw [Int.toNat_natCast, ← NO0.out] at ho; have OWN0 := Aside0.mk hnew_; obtain ⟨Ao, co, rfl⟩ := Kd.R_slice ho; have OWN := Aside0.mk (show ∀ k, some k = (Value.slice Ao O0.length co).ownBlock → w2.heap.size ≤ k from fun k hk => by obtain ⟨b, h1, h2⟩ := OWN0.out; rw [h1] at hk; cases hk; exact h2); have GP := Aside0.mk (Kd.F_below (Kd.C_F (Kd.heap_int .u64) FP.out) hb); have GV := Aside0.mk (Kd.F_below (Kd.C_F (Kd.heap_int .u64) FV1.out) hb); have GQ := Aside0.mk (Kd.F_below (Kd.C_F (Kd.heap_int .u64) FQ.out) hb); have WL := Aside0.mk (Nat.lt_of_lt_of_le HS1.out HB1.out.size); have HNW := Aside0.mk ((below_step HB1.out hb).block w.heap.size HS1.out |>.trans HN.out); have HB2 := HB; have HBM := Aside0.mk hb; have HO := Aside0.mk ho; clear FP FV1 FQ FM FU FU1 FV HB HB1 OWN0 ho hb hg_ hnew_) | ((with_reducible refine gate_builtin (b := .copy) (xs := #[.tmp 81, .tmp 82]) rfl ?_); refine Kd.R_copy (0 : Int) (w0 := w2) w2.heap.size rfl (.tmp 81) (.tmp 82) 29 29 47 rfl Try.underlying29 (by obtain ⟨i0, hi0, _, hsz, _⟩ := info_parts info47; rw [hi0]; simp [hsz]) (.slice Ao O0.length co) O0 P AP P.length cP (fun _ => True) rfl rfl HO.out (Kd.F_now GP.out) HBM.out HBM.out.size ?_; intro w5 ho hb hg; rw [← NO1b.out] at ho; have n1_ := Aside0.mk (Kd.F_grown GV.out hg (fun k hk e_ => absurd (OWN.out k e_) (by have : k < w2.heap.size := hk; omega))); have n2_ := Aside0.mk (Kd.F_grown GQ.out hg (fun k hk e_ => absurd (OWN.out k e_) (by have : k < w2.heap.size := hk; omega))); have n3_ := Aside0.mk ((hg.block w.heap.size (blk_lt HNW.out) (fun e_ => absurd (OWN.out _ e_) (by have := WL.out; omega))).trans HNW.out); clear GP GV GQ HNW HBM HO; have GV := n1_; have GQ := n2_; have HNW := n3_; have HBM := Aside0.mk hb; have HO := Aside0.mk (show Kd.R (Kd.int .u64) 47 w5 w2.heap.size (fun _ => True) (.slice Ao O0.length co) O1 from ho); have hcn := (blk_cell HNW.out 0).trans rfl; clear n1_ n2_ n3_ ho hb hg) | (go_at_call 107; (with_reducible refine (nat_into.calls k5 (fun k => some k = (Value.slice Ao O0.length co).ownBlock) _ O1 AV cV V1 (n : Int) O2 w2 _ HBM.out (Kd.R_tight rfl HO.out) ?s1 CV1.out ?s2).mono ?_); (case s1 => intro W_ hk; exact Kd.F_now (Kd.F_kept GV.out hk (fun k hk2 hs => absurd (OWN.out k hs) (by have : k < w2.heap.size := hk2; omega)))); (case s2 => exact K5.out); rintro e w6 ⟨rfl, hR, hb, hkp⟩; have n2_ := Aside0.mk (Kd.F_kept GQ.out hkp (fun k hk2 hs => absurd (OWN.out k hs) (by have : k < w2.heap.size := hk2; omega))); clear GQ; have GQ := n2_; clear n2_; have n3_ := Aside0.mk ((hkp.2 w.heap.size (blk_lt HNW.out) (fun e_ => absurd (OWN.out _ e_) (by have := WL.out; omega))).trans HNW.out); clear HNW HBM HO hcn; have HNW := n3_; have HBM := Aside0.mk hb; have HO := Aside0.mk (Kd.R_mono hR (ok' := fun _ => True) (fun _ _ => trivial)); have hcn := (blk_cell HNW.out 0).trans rfl; clear n3_ hR hb hkp) | (go_at_call 107; (with_reducible refine (nat_into.calls k6 (fun k => some k = (Value.slice Ao O0.length co).ownBlock) _ O2 AQ cQ Q (2 * (n : Int)) O3 w2 _ HBM.out (Kd.R_tight rfl HO.out) ?s1 CQ.out ?s2).mono ?_); (case s1 => intro W_ hk; exact Kd.F_now (Kd.F_kept GQ.out hk (fun k hk2 hs => absurd (OWN.out k hs) (by have : k < w2.heap.size := hk2; omega)))); (case s2 => exact K6b.out); rintro e w6 ⟨rfl, hR, hb, hkp⟩; have n3_ := Aside0.mk ((hkp.2 w.heap.size (blk_lt HNW.out) (fun e_ => absurd (OWN.out _ e_) (by have := WL.out; omega))).trans HNW.out); clear HNW HBM HO hcn; have HNW := n3_; have HBM := Aside0.mk hb; have HO := Aside0.mk (Kd.R_mono hR (ok' := fun _ => True) (fun _ _ => trivial)); have hcn := (blk_cell HNW.out 0).trans rfl; clear n3_ hR hb hkp) | (go_at_call 87; (with_reducible refine (nat_trim.calls k7 (fun k => some k = (Value.slice Ao O0.length co).ownBlock) _ O3 RES w _ (below_step HB2.out HBM.out) (Kd.R_lower (Kd.R_tight rfl HO.out) (below_size HB2.out)) K7.out).mono ?_); rintro e w8 ⟨v8, rfl, hR, hb, hkp⟩; have HF := Aside0.mk hR; have HFB := Aside0.mk hb; clear hR hb hkp))
  go_ret
  exact ⟨_, rfl, by rw [← NRES.out]; exact Kd.R_mono HF.out (fun _ _ => trivial), HFB.out⟩
theorem halves_all (gh : Nat) (s : Nat) : ∀ (A0 : Option Addr) (c0 : Nat) (l0 : List Int) (A1 : Option Addr) (c1 : Nat) (l1 : List Int) (w : World), l0.length + l1.length ≤ s → l0.length ≤ 400 → l1.length ≤ 400 → Dig (b64 : Int) l0 → Dig (b64 : Int) l1 →
    Kd.C (Kd.int .u64) w A0 l0.length l0 → l0.length ≤ c0 → Kd.C (Kd.int .u64) w A1 l1.length l1 → l1.length ≤ c1 → w.heap[gh]? = some (hobj gh) → Halved gh A0 c0 l0 A1 c1 l1 w := by
  induction s with
  | zero =>
    intro A0 c0 l0 A1 c1 l1 w hs h0 h1 d0 d1 hr0 hc0 hr1 hc1 hg
    exact halves_short gh A0 c0 l0 A1 c1 l1 w h0 h1 d0 d1 hr0 hc0 hr1 hc1 (by omega)
  | succ s ih =>
    intro A0 c0 l0 A1 c1 l1 w hs h0 h1 d0 d1 hr0 hc0 hr1 hc1 hg
    by_cases h : l0.length < 24 ∨ l1.length < 24
    · exact halves_short gh A0 c0 l0 A1 c1 l1 w h0 h1 d0 d1 hr0 hc0 hr1 hc1 h
    · exact halves_long gh A0 c0 l0 A1 c1 l1 w h0 h1 d0 d1 hr0 hc0 hr1 hc1 (by omega) (by omega) hg (fun A2 c2 l2 A3 c3 l3 W a1 a2 a3 a4 a5 a6 a7 a8 a9 a10 => ih A2 c2 l2 A3 c3 l3 W (by omega) a2 a3 a4 a5 a6 a7 a8 a9 a10)
end Go.Proofs.Ytgeanpnkllnipaa.F
end
