/- Proved: the law MontAdds of layer 2: a power to a sum is the product of the powers; for every input, without a condition. -/
import Derived.Test.YtlkinjhmgljapaaMMontAddsa
import Derived.Laws.IdiomCopy
import Derived.StillTailTactics
section
namespace Go.Proofs.Ytlkinjhmgljapaa.F
open Go.RowKit Go.Proofs.YtlkinjhmgljapaaW.PrintWords Go.Proofs.YtlkinjhmgljapaaW.PrintLast Go.Proofs.YtlkinjhmgljapaaW.PrintMore
attribute [local go_sem] max2_int min2_int max_two min_two max_three min_three max_four min_four
set_option linter.unusedVariables false
set_option linter.unusedSimpArgs false
def windbreakref01_Same.l0 : Nat → List Int → List Int → Int → Option (Bool)
 | 0, _, _, _ => none
 | k + 1, x0, x1, x5 => if x5 < (x0.length : Int) then (if 0 ≤ x5 then (if x5 < (x1.length : Int) then (if (rd x0 x5) = (rd x1 x5) then (windbreakref01_Same.l0 k x0 x1 (wrap64 (x5 + 1))) else (some false)) else (none)) else (none)) else (some true)
def windbreakref01_Same.f (k : Nat) (l0 : List Int) (l1 : List Int) : Option (Bool) := if (l0.length : Int) = (l1.length : Int) then (windbreakref01_Same.l0 k l0 l1 0) else (some false)
set_option maxHeartbeats 8000000 in
set_option maxRecDepth 100000 in
theorem windbreakref01_Same.calls (k : Nat) (A0 : Option Addr) (c0 : Nat) (l0 : List Int) (A1 : Option Addr) (c1 : Nat) (l1 : List Int) (r : Bool) (w : World) (hr0 : Kd.C (Kd.int .u64) w A0 l0.length l0) (hc0 : l0.length ≤ c0) (hr1 : Kd.C (Kd.int .u64) w A1 l1.length l1) (hc1 : l1.length ≤ c1) (h : windbreakref01_Same.f k l0 l1 = some r) :
  Calls Try.prog 15 #[.slice A0 l0.length c0, .slice A1 l1.length c1] w fun e w' => e = .returned (.bool r) ∧ Drawn0 w w' := by
 have HR0 := Aside0.mk hr0; have HC0 := Aside0.mk hc0; clear hr0 hc0; have HR1 := Aside0.mk hr1; have HC1 := Aside0.mk hc1; clear hr1 hc1
 have H : (if (l0.length : Int) = (l1.length : Int) then (windbreakref01_Same.l0 k l0 l1 0) else (some false)) = some r := h
 clear h
 by_cases c3 : (l0.length : Int) = (l1.length : Int)
 ·
  rw [if_pos c3] at H
  have c3b0 : ((l0.length : Int) == (l1.length : Int)) = true := beq_iff_eq.mpr c3
  have c3b1 : ((l0.length : Int) != (l1.length : Int)) = false := bne_eq_false_iff_eq.mpr c3
  have c3b2 : (l0.length == l1.length) = true := by first | simpa using c3 | (simp at c3 ⊢; omega)
  clear c3
  have H' := Aside0.mk H
  clear H
  go_enter Try.func15, Try.ntmps15
  go_wp2
  repeat (go_quiet (fail); try go_wp2)
  go_loopg [5] k (fun kq v5 w' => ∃ (x5_1 : Int), v5 = .int .i64 x5_1 ∧ Aside0 (windbreakref01_Same.l0 kq l0 l1 x5_1 = some r) ∧ Aside0 (kq ≤ k) ∧ Drawn0 w w')
  case atStart => exact ⟨(0), uG, H', ⟨Nat.le_refl _⟩, by repeat (first | exact Drawn0.refl _ | apply Drawn0.step)⟩
  case round =>
   clear H'
   (try clear c1); (try clear p2); (try clear c3); (try clear c3b0); (try clear c3b1); (try clear c3b2)
   obtain ⟨x5_1, rfl, HA, HK1, ⟨m1, rfl⟩⟩ := hrel
   cases gk with
   | zero => exact absurd HA.out (by simp [windbreakref01_Same.l0])
   | succ k1 =>
    have H := HA.out
    clear HA
    simp only [windbreakref01_Same.l0] at H
    by_cases c4 : x5_1 < (l0.length : Int)
    ·
     rw [if_pos c4] at H
     have c4b0 : decide (x5_1 < (l0.length : Int)) = true := decide_eq_true c4
     clear c4
     replace H := uT H; obtain ⟨c5, H⟩ := H
     have c5b0 : decide (0 ≤ x5_1) = true := decide_eq_true c5
     clear c5
     replace H := uT H; obtain ⟨c6, H⟩ := H
     have c6b0 : decide (x5_1 < (l1.length : Int)) = true := decide_eq_true c6
     clear c6
     by_cases c7 : (rd l0 x5_1) = (rd l1 x5_1)
     ·
      rw [if_pos c7] at H
      have c7b0 : ((rd l0 x5_1) == (rd l1 x5_1)) = true := beq_iff_eq.mpr c7
      have c7b1 : ((rd l0 x5_1) != (rd l1 x5_1)) = false := bne_eq_false_iff_eq.mpr c7
      clear c7
      have H' := Aside0.mk H
      clear H
      have p529 : 0 ≤ (x5_1 : Int) := uO
      have q529 : x5_1 < (l0.length : Int) := uO
      obtain ⟨ad529, e529, hx529_0⟩ := Kd.at_int HR0.out x5_1 p529 q529
      cases e529
      replace p529 := eq_true p529
      replace q529 := eq_true q529
      have p530 : 0 ≤ (x5_1 : Int) := uO
      have q530 : x5_1 < (l1.length : Int) := uO
      obtain ⟨ad530, e530, hx530_0⟩ := Kd.at_int HR1.out x5_1 p530 q530
      cases e530
      replace p530 := eq_true p530
      replace q530 := eq_true q530
      go_wp2
      repeat (go_quiet (fail); try go_wp2)
      go_roundg k1
      case measure => have := HK1.out; omega
      case rel => exact ⟨(wrap64 (x5_1 + 1)), uG, H', ⟨by have := HK1.out; omega⟩, by repeat (first | exact Drawn0.refl _ | apply Drawn0.step)⟩
     rw [if_neg c7] at H
     have c7b0 : ((rd l0 x5_1) == (rd l1 x5_1)) = false := beq_eq_false_iff_ne.mpr c7
     have c7b1 : ((rd l0 x5_1) != (rd l1 x5_1)) = true := bne_iff_ne.mpr c7
     obtain rfl := Option.some.inj H
     have p529 : 0 ≤ (x5_1 : Int) := uO
     have q529 : x5_1 < (l0.length : Int) := uO
     obtain ⟨ad529, e529, hx529_0⟩ := Kd.at_int HR0.out x5_1 p529 q529
     cases e529
     replace p529 := eq_true p529
     replace q529 := eq_true q529
     have p530 : 0 ≤ (x5_1 : Int) := uO
     have q530 : x5_1 < (l1.length : Int) := uO
     obtain ⟨ad530, e530, hx530_0⟩ := Kd.at_int HR1.out x5_1 p530 q530
     cases e530
     replace p530 := eq_true p530
     replace q530 := eq_true q530
     go_wp2
     repeat (go_quiet (fail); try go_wp2)
     go_ret
     exact ⟨by first | rfl | (simp; done) | (simp [*]; done), by repeat (first | exact Drawn0.refl _ | apply Drawn0.step)⟩
    rw [if_neg c4] at H
    have c4b0 : decide (x5_1 < (l0.length : Int)) = false := decide_eq_false c4
    clear c4
    obtain rfl := Option.some.inj H
    go_wp2
    repeat (go_quiet (fail); try go_wp2)
    go_ret
    exact ⟨by first | rfl | (simp; done) | (simp [*]; done), by repeat (first | exact Drawn0.refl _ | apply Drawn0.step)⟩
 rw [if_neg c3] at H
 have c3b0 : ((l0.length : Int) == (l1.length : Int)) = false := beq_eq_false_iff_ne.mpr c3
 have c3b1 : ((l0.length : Int) != (l1.length : Int)) = true := bne_iff_ne.mpr c3
 have c3b2 : (l0.length == l1.length) = false := by first | simpa using c3 | (simp at c3 ⊢; omega)
 obtain rfl := Option.some.inj H
 go_enter Try.func15, Try.ntmps15
 go_wp2
 repeat (go_quiet (fail); try go_wp2)
 go_ret
 exact ⟨by first | rfl | (simp; done) | (simp [*]; done), by repeat (first | exact Drawn0.refl _ | apply Drawn0.step)⟩
def windbreakref01_Of.f (a0 : Int) : Option (List Int) := if a0 = 0 then (some ([] : List Int)) else (some (([a0] : List Int)))
def windbreakref01_power.l0 : Nat → Int → List Int → Int → Option (List Int)
 | 0, _, _, _ => none
 | k + 1, x0, x3, x4 => if x4 < (Int.tmod x0 16) then (if 0 ≤ (wrap64 (Int.tdiv x0 16)) then (if (wrap64 (Int.tdiv x0 16)) < (x3.length : Int) then (windbreakref01_power.l0 k x0 (x3.set ((wrap64 (Int.tdiv x0 16)) : Int).toNat (IntKind.u64.wrap ((rd x3 (wrap64 (Int.tdiv x0 16))) * 2))) (wrap64 (x4 + 1))) else (none)) else (none)) else (some x3)
def windbreakref01_power.f (k : Nat) (a0 : Int) : Option (List Int) := if 0 ≤ (wrap64 ((wrap64 (Int.tdiv a0 16)) + 1)) then (if (wrap64 ((wrap64 (Int.tdiv a0 16)) + 1) : Int).toNat ≤ 35184372088832 then ((some (List.replicate (wrap64 ((wrap64 (Int.tdiv a0 16)) + 1) : Int).toNat 0 : List Int)).bind fun y377 => (if 0 ≤ (wrap64 (Int.tdiv a0 16)) then (if (wrap64 (Int.tdiv a0 16)) < (y377.length : Int) then (windbreakref01_power.l0 k a0 (y377.set ((wrap64 (Int.tdiv a0 16)) : Int).toNat 1) 0) else (none)) else (none))) else (none)) else (none)
end Go.Proofs.Ytlkinjhmgljapaa.F
end
section
namespace Go.Proofs.Ytlkinjhmgljapaa.F
open Go.RowKit Go.Proofs.YtlkinjhmgljapaaW.PrintWords Go.Proofs.YtlkinjhmgljapaaW.PrintLast Go.Proofs.YtlkinjhmgljapaaW.PrintMore
set_option linter.unusedVariables false
set_option linter.unusedSimpArgs false
def nat_right.f : List (List Int) → Option Bool
  | [] => some true
  | a :: l => (nat_Right.f a).bind fun b => if b = true then nat_right.f l else some false
def nat_right.ix : List (List Int) → Option Nat
  | [] => some 0
  | a :: l => (nat_Right.f a).bind fun b => if b = true then (nat_right.ix l).map (· + 1) else some 0
theorem nat_right.ix_of {l : List (List Int)} {r : Bool} (h : nat_right.f l = some r) : ∃ k, nat_right.ix l = some k ∧ k ≤ l.length ∧ (r = true ↔ k = l.length) ∧ (∀ j, j < k → nat_Right.f (l.getD j []) = some true) ∧ (k < l.length → nat_Right.f (l.getD k []) = some false) := by
  induction l generalizing r with
  | nil =>
    simp only [nat_right.f, Option.some.injEq] at h
    exact ⟨0, rfl, Nat.le_refl _, by simp [← h], fun j hj => absurd hj (Nat.not_lt_zero _), fun hj => absurd hj (Nat.not_lt_zero _)⟩
  | cons a l ih =>
    simp only [nat_right.f] at h
    cases hb : nat_Right.f a with
    | none => rw [hb] at h; simp at h
    | some b =>
      rw [hb] at h
      simp only [Option.bind_some] at h
      cases b with
      | true =>
        simp only [if_true] at h
        obtain ⟨k, hk, hle, hr, hj, hl⟩ := ih h
        refine ⟨k + 1, by simp [nat_right.ix, hb, hk], by simp; omega, by simp [hr], ?_, ?_⟩
        · intro j hjk
          cases j with
          | zero => simpa using hb
          | succ j => simpa using hj j (by omega)
        · intro hlt
          simpa using hl (by simpa using hlt)
      | false =>
        simp at h
        refine ⟨0, by simp [nat_right.ix, hb], Nat.zero_le _, ?_, fun j hj => absurd hj (Nat.not_lt_zero _), fun _ => by simpa using hb⟩
        simp [← h]
set_option maxHeartbeats 1000000 in
theorem nat_right.closure (A0 : Option Addr) (c0 : Nat) (l0 : List Int) (r : Bool) (w : World) (hr0 : Kd.C (Kd.int .u64) w A0 l0.length l0) (hc0 : l0.length ≤ c0) (h : nat_Right.f l0 = some r) :
    Calls Try.prog 121 #[.slice A0 l0.length c0] w fun e w' => e = .returned (.bool (!r)) ∧ Drawn0 w w' := by
  have hcall := nat_Right.calls A0 c0 l0 r w hr0 hc0 h
  clear hr0 hc0 h
  have HC := Aside0.mk hcall
  clear hcall
  go_enter Try.func121, Try.ntmps121
  go_wp2_with (go_at_call 42; refine HC.out.mono ?_; rintro e w' ⟨rfl, hd⟩)
  go_ret
  exact ⟨rfl, hd⟩
set_option maxHeartbeats 8000000 in
set_option maxRecDepth 100000 in
theorem nat_right.index (A0 : Option Addr) (c0 : Nat) (l0 : List (List Int)) (r : Bool) (w : World) (hr0 : Kd.C (Kd.slice 50 (Kd.int .u64)) w A0 l0.length l0) (hc0 : l0.length ≤ c0) (h : nat_right.f l0 = some r) :
    Calls Try.prog 108 #[.slice A0 l0.length c0, .func (.func 121) #[] #[]] w fun e w' => (∃ k : Int, e = .returned (.int .i64 k) ∧ decide (0 ≤ k) = !r) ∧ Drawn0 w w' := by
  have HR0 := Aside0.mk hr0
  obtain ⟨k, hk, hle, hr, hj, hl⟩ := nat_right.ix_of h
  have hbig : l0.length ≤ 9223372036854775807 := hr0.2.1
  have HJ := Aside0.mk hj
  have HL := Aside0.mk hl
  have HRR := Aside0.mk hr
  clear hr0 hc0 hj hl hk h hr
  go_enter Try.func108, Try.ntmps108
  go_wp2
  go_loopg [5, 8] l0.length (fun gg _ s8 wr => ∃ kk : Nat, kk ≤ k ∧ l0.length - kk ≤ gg ∧ s8 = .int .i64 kk ∧ Aside0 (Drawn0 w wr))
  case atStart => exact ⟨0, Nat.zero_le _, by omega, rfl, ⟨Drawn0.refl _⟩⟩
  case round =>
    obtain ⟨kk, hkk, hg, rfl, D⟩ := hrel
    by_cases hlt : kk < l0.length
    · have hltz : (kk : Int) < (l0.length : Int) := by omega
      have hC1 : Kd.C (Kd.slice 50 (Kd.int .u64)) wr A0 l0.length l0 := Kd.C_below HR0.out D.out.below
      have h0k : (0 : Int) ≤ (kk : Int) := Int.natCast_nonneg kk
      obtain ⟨ad, c, hA, _, hK, hc⟩ := Kd.C_get hC1 ([] : List Int) (kk : Int) h0k hltz
      obtain ⟨A1, c1, rfl, hl1, hi1⟩ := hK
      subst hA
      have hcell := hc 0 _ rfl
      rw [Nat.add_zero, show (Kd.slice 50 (Kd.int .u64)).sz = 1 from rfl, Nat.mul_one] at hcell
      simp only [Go.IntWalk.toNatUp] at hcell hl1 hi1
      have HX := HJ.out kk
      have HY := HL.out
      clear hc hC1
      generalize hx : l0.getD kk [] = x at hcell hl1 hi1 HX
      by_cases hlast : kk < k
      · have hcall := Aside0.mk (nat_right.closure A1 c1 x true wr hi1 hl1 (HX hlast))
        have D2 := D
        clear D hi1 HX HY hx
        go_wp2_with (go_at_call 121; refine hcall.out.mono ?_; rintro e w' ⟨rfl, ⟨q, rfl⟩⟩)
        go_roundg (l0.length - (kk + 1))
        case measure => omega
        case rel => exact ⟨kk + 1, by omega, by omega, by go_num, ⟨D2.out.step _⟩⟩
      · have hkk' : kk = k := by omega
        subst hkk'
        have HZ := HY hlt
        rw [hx] at HZ
        have hcall := Aside0.mk (nat_right.closure A1 c1 x false wr hi1 hl1 HZ)
        have hr : r = false := by
          cases r with
          | false => rfl
          | true => have := HRR.out.1 rfl; omega
        have HR := Aside0.mk hr
        have D2 := D
        clear D hi1 HX HY hx HZ hr
        go_wp2_with (go_at_call 121; refine hcall.out.mono ?_; rintro e w' ⟨rfl, ⟨q, rfl⟩⟩)
        go_ret
        exact ⟨⟨_, rfl, by rw [HR.out]; simp⟩, D2.out.step _⟩
    · have hltz : ¬ (kk : Int) < (l0.length : Int) := by omega
      have hr : r = true := HRR.out.2 (by omega)
      have HR := Aside0.mk hr
      clear hr
      go_wp2
      go_ret
      exact ⟨⟨_, rfl, by rw [HR.out]; simp⟩, D.out⟩
set_option maxHeartbeats 8000000 in
set_option maxRecDepth 100000 in
theorem nat_right.contains (A0 : Option Addr) (c0 : Nat) (l0 : List (List Int)) (r : Bool) (w : World) (hr0 : Kd.C (Kd.slice 50 (Kd.int .u64)) w A0 l0.length l0) (hc0 : l0.length ≤ c0) (h : nat_right.f l0 = some r) :
    Calls Try.prog 74 #[.slice A0 l0.length c0, .func (.func 121) #[] #[]] w fun e w' => e = .returned (.bool (!r)) ∧ Drawn0 w w' := by
  have hcall := Aside0.mk (nat_right.index A0 c0 l0 r w hr0 hc0 h)
  clear hr0 hc0 h
  go_enter Try.func74, Try.ntmps74
  go_wp2_with (go_at_call 108; refine hcall.out.mono ?_; rintro e w' ⟨⟨k, rfl, hk⟩, hd⟩; have HK := Aside0.mk hk; have HD := Aside0.mk hd; clear hk hd)
  go_ret
  exact ⟨by rw [← HK.out]; rfl, HD.out⟩
set_option maxHeartbeats 8000000 in
set_option maxRecDepth 100000 in
theorem nat_right.calls (A0 : Option Addr) (c0 : Nat) (l0 : List (List Int)) (r : Bool) (w : World) (hr0 : Kd.C (Kd.slice 50 (Kd.int .u64)) w A0 l0.length l0) (hc0 : l0.length ≤ c0) (h : nat_right.f l0 = some r) :
    Calls Try.prog 104 #[.slice A0 l0.length c0] w fun e w' => e = .returned (.bool r) ∧ Drawn0 w w' := by
  have hcall := Aside0.mk (nat_right.contains A0 c0 l0 r w hr0 hc0 h)
  clear hr0 hc0 h
  go_enter Try.func104, Try.ntmps104
  go_wp2_with (go_at_call 74; refine hcall.out.mono ?_; rintro e w' ⟨rfl, hd⟩; have HD := Aside0.mk hd; clear hd)
  go_ret
  exact ⟨by cases r <;> rfl, HD.out⟩
end Go.Proofs.Ytlkinjhmgljapaa.F
end
section
namespace Go.Proofs.Ytlkinjhmgljapaa.F
open Go.RowKit Go.Proofs.YtlkinjhmgljapaaW.PrintWords Go.Proofs.YtlkinjhmgljapaaW.PrintLast Go.Proofs.YtlkinjhmgljapaaW.PrintMore
attribute [local go_sem] max2_int min2_int max_two min_two max_three min_three max_four min_four
set_option linter.unusedVariables false
set_option linter.unusedSimpArgs false
def nat_Cmp.f (k : Nat) (l0 : List Int) (l1 : List Int) : Option (Int) := (nat_right.f (([l0, l1] : List (List Int)))).bind fun t268 => (if t268 = true then ((nat_compare.f k l0 l1).bind fun t269 => (some t269)) else (some 0))
set_option maxHeartbeats 8000000 in
set_option maxRecDepth 100000 in
theorem nat_Cmp.calls (k : Nat) (P0_ : Nat → Prop) (A0 : Option Addr) (c0 : Nat) (l0 : List Int) (P1_ : Nat → Prop) (A1 : Option Addr) (c1 : Nat) (l1 : List Int) (r : Int) (w : World) (hs0 : Kd.V (Kd.int .u64) 50 w w.heap.size (fun k_ => P0_ k_) (.slice A0 l0.length c0) l0) (hs1 : Kd.V (Kd.int .u64) 50 w w.heap.size (fun k_ => P1_ k_) (.slice A1 l1.length c1) l1) (h : nat_Cmp.f k l0 l1 = some r) :
  Calls Try.prog 70 #[.slice A0 l0.length c0, .slice A1 l1.length c1] w fun e w' => e = .returned (.int .i64 r) ∧ Below w.heap.size w w' := by
 have HO0 := Aside0.mk (show Kd.V (Kd.int .u64) 50 w w.heap.size (fun k_ => ((P0_ k_ ∨ P1_ k_) ∨ w.heap.size ≤ k_)) (.slice A0 l0.length c0) l0 from Kd.V_mono hs0 (fun k_ hk => .inl (.inl hk)))
 have HO1 := Aside0.mk (show Kd.V (Kd.int .u64) 50 w w.heap.size (fun k_ => ((P0_ k_ ∨ P1_ k_) ∨ w.heap.size ≤ k_)) (.slice A1 l1.length c1) l1 from Kd.V_mono hs1 (fun k_ hk => .inl (.inr hk)))
 have HB := Aside0.mk (Below.refl w.heap.size w)
 have H : ((nat_right.f (([l0, l1] : List (List Int)))).bind fun t268 => (if t268 = true then ((nat_compare.f k l0 l1).bind fun t269 => (some t269)) else (some 0))) = some r := h
 clear h
 obtain ⟨y265, hy265⟩ : ∃ y_ : List (List Int), y_ = (([l0, l1] : List (List Int))) := ⟨_, rfl⟩
 replace H : ((nat_right.f y265).bind fun t268 => (if t268 = true then ((nat_compare.f k l0 l1).bind fun t269 => (some t269)) else (some 0))) = some r := by first | (rw [hy265]; with_reducible exact H) | (have H2_ := (Option.bind_some _ _).symm.trans H; rw [hy265]; with_reducible exact H2_) | (have H2_ := (Option.bind_some _ _).symm.trans H; with_reducible exact H2_) | with_reducible exact H | (rw [hy265]; exact H) | exact H
 have Ny265 := Aside0.mk hy265; clear hy265
 replace H := ub H; obtain ⟨t268, A3, H⟩ := H
 by_cases c4 : t268 = true
 ·
  subst c4
  have H1 : ((nat_compare.f k l0 l1).bind fun t269 => (some t269)) = some r := by rw [if_pos rfl] at H; exact H
  clear H; have H := H1; clear H1
  replace H := ub H; obtain ⟨t269, A5, H⟩ := H
  obtain rfl := Option.some.inj H
  go_enter Try.func70, Try.ntmps70
  go_wp2_with (first | ((with_reducible refine gate_dst (N := 7) rfl ?_); refine Kd.N_lit (Kd.slice 50 (Kd.int .u64)) _ 23 ?hg (N' := 7) ?hd (xs := ([l0, l1] : List (List Int))) (inner := [.slice A0 l0.length c0, .slice A1 l1.length c1]) (ok := (fun k_ => ((P0_ k_ ∨ P1_ k_) ∨ w.heap.size ≤ k_))) (okp := (fun k_ => ((P0_ k_ ∨ P1_ k_) ∨ w.heap.size ≤ k_))) ?hr ?hp (fun _ hk => hk) ((show ∀ k_, w.heap.size ≤ k_ → (fun k_ => ((P0_ k_ ∨ P1_ k_) ∨ w.heap.size ≤ k_)) k_ from fun k_ hk => (.inr (Nat.le_trans (below_size uB) hk))) _ (Nat.le_refl _)) (Below.refl _ _) (Nat.le_refl _) (by simp) ?_; (case hd => rfl); (case hg => rfl); (case hr => first | (go_simp; done) | (go_simp; rfl) | (go_simp; simp only [u64_u8]; done) | (go_simp; simp only [u64_u8]; rfl)); (case hp => exact (Reps.one (show Kd.FK (Kd.slice 50 (Kd.int .u64)) _ _ l0 [.slice A0 l0.length c0] from (Kd.FK_slice_mk (Kd.V_reads' (Kd.V_mono (ok' := (fun k_ => ((P0_ k_ ∨ P1_ k_) ∨ w.heap.size ≤ k_))) (HO0.out) (fun k_ hk => hk))).2.1 (Kd.V_F (Kd.V_mono (ok' := (fun k_ => ((P0_ k_ ∨ P1_ k_) ∨ w.heap.size ≤ k_))) (HO0.out) (fun k_ hk => hk))))) (Reps.one (show Kd.FK (Kd.slice 50 (Kd.int .u64)) _ _ l1 [.slice A1 l1.length c1] from (Kd.FK_slice_mk (Kd.V_reads' (Kd.V_mono (ok' := (fun k_ => ((P0_ k_ ∨ P1_ k_) ∨ w.heap.size ≤ k_))) (HO1.out) (fun k_ hk => hk))).2.1 (Kd.V_F (Kd.V_mono (ok' := (fun k_ => ((P0_ k_ ∨ P1_ k_) ∨ w.heap.size ≤ k_))) (HO1.out) (fun k_ hk => hk))))) (Reps.none _ _)))); intro v266 w6 ho7 hb hg_ hnew_; clear hg_ hnew_; (first | rw [← Ny265.out] at ho7 | (simp only [Int.reduceToNat] at ho7; rw [← Ny265.out] at ho7)); replace HO0 := Aside0.mk (Kd.V_elder' (uV HO0.out) (Kd.N_base ho7) hb); replace HO1 := Aside0.mk (Kd.V_elder' (uV HO1.out) (Kd.N_base ho7) hb); have HO267 := Aside0.mk (Kd.N_lower ho7 (below_size uB)); replace HB := uy hb; clear hb ho7; obtain ⟨Ao8, co8, eo8⟩ := Kd.N_slice HO267.out; subst eo8) | ((with_reducible refine gate_callee (f := 104) rfl ?_); refine goesL_ (some 8) rfl rfl Try.func104 (by kernel_rfl) rfl #[.slice Ao8 y265.length co8] rfl uM ?_; (with_reducible refine (nat_right.calls _ _ y265 true _ ?side1 ?side2 A3.out).mono ?_); (case side1 => exact uC (Kd.N_reads' HO267.out).2.2); (case side2 => exact (Kd.N_reads' HO267.out).2.1); rintro e w' ⟨rfl, ⟨nd, rfl⟩⟩; refine ⟨_, rfl, ?_⟩) | ((with_reducible refine gate_callee (f := 105) rfl ?_); refine goesL_ (some 12) rfl rfl Try.func105 (by kernel_rfl) rfl #[.slice A0 l0.length c0, .slice A1 l1.length c1] rfl uM ?_; (with_reducible refine (nat_compare.calls k _ _ l0 _ _ l1 t269 _ ?side1 ?side2 ?side3 ?side4 A5.out).mono ?_); (case side1 => exact uC (Kd.V_reads' HO0.out).2.2); (case side2 => exact (Kd.V_reads' HO0.out).2.1); (case side3 => exact uC (Kd.V_reads' HO1.out).2.2); (case side4 => exact (Kd.V_reads' HO1.out).2.1); rintro e w' ⟨rfl, ⟨nd, rfl⟩⟩; refine ⟨_, rfl, ?_⟩))
  go_ret
  exact ⟨uF, uB⟩
 replace c4 := Bool.eq_false_iff.mpr c4
 subst c4
 have H1 : (some 0) = some r := by rw [if_neg (show ¬ (false = true) by decide)] at H; exact H
 clear H; have H := H1; clear H1
 obtain rfl := Option.some.inj H
 go_enter Try.func70, Try.ntmps70
 go_wp2_with (first | ((with_reducible refine gate_dst (N := 7) rfl ?_); refine Kd.N_lit (Kd.slice 50 (Kd.int .u64)) _ 23 ?hg (N' := 7) ?hd (xs := ([l0, l1] : List (List Int))) (inner := [.slice A0 l0.length c0, .slice A1 l1.length c1]) (ok := (fun k_ => ((P0_ k_ ∨ P1_ k_) ∨ w.heap.size ≤ k_))) (okp := (fun k_ => ((P0_ k_ ∨ P1_ k_) ∨ w.heap.size ≤ k_))) ?hr ?hp (fun _ hk => hk) ((show ∀ k_, w.heap.size ≤ k_ → (fun k_ => ((P0_ k_ ∨ P1_ k_) ∨ w.heap.size ≤ k_)) k_ from fun k_ hk => (.inr (Nat.le_trans (below_size uB) hk))) _ (Nat.le_refl _)) (Below.refl _ _) (Nat.le_refl _) (by simp) ?_; (case hd => rfl); (case hg => rfl); (case hr => first | (go_simp; done) | (go_simp; rfl) | (go_simp; simp only [u64_u8]; done) | (go_simp; simp only [u64_u8]; rfl)); (case hp => exact (Reps.one (show Kd.FK (Kd.slice 50 (Kd.int .u64)) _ _ l0 [.slice A0 l0.length c0] from (Kd.FK_slice_mk (Kd.V_reads' (Kd.V_mono (ok' := (fun k_ => ((P0_ k_ ∨ P1_ k_) ∨ w.heap.size ≤ k_))) (HO0.out) (fun k_ hk => hk))).2.1 (Kd.V_F (Kd.V_mono (ok' := (fun k_ => ((P0_ k_ ∨ P1_ k_) ∨ w.heap.size ≤ k_))) (HO0.out) (fun k_ hk => hk))))) (Reps.one (show Kd.FK (Kd.slice 50 (Kd.int .u64)) _ _ l1 [.slice A1 l1.length c1] from (Kd.FK_slice_mk (Kd.V_reads' (Kd.V_mono (ok' := (fun k_ => ((P0_ k_ ∨ P1_ k_) ∨ w.heap.size ≤ k_))) (HO1.out) (fun k_ hk => hk))).2.1 (Kd.V_F (Kd.V_mono (ok' := (fun k_ => ((P0_ k_ ∨ P1_ k_) ∨ w.heap.size ≤ k_))) (HO1.out) (fun k_ hk => hk))))) (Reps.none _ _)))); intro v266 w9 ho10 hb hg_ hnew_; clear hg_ hnew_; (first | rw [← Ny265.out] at ho10 | (simp only [Int.reduceToNat] at ho10; rw [← Ny265.out] at ho10)); replace HO0 := Aside0.mk (Kd.V_elder' (uV HO0.out) (Kd.N_base ho10) hb); replace HO1 := Aside0.mk (Kd.V_elder' (uV HO1.out) (Kd.N_base ho10) hb); have HO267 := Aside0.mk (Kd.N_lower ho10 (below_size uB)); replace HB := uy hb; clear hb ho10; obtain ⟨Ao11, co11, eo11⟩ := Kd.N_slice HO267.out; subst eo11) | ((with_reducible refine gate_callee (f := 104) rfl ?_); refine goesL_ (some 8) rfl rfl Try.func104 (by kernel_rfl) rfl #[.slice Ao11 y265.length co11] rfl uM ?_; (with_reducible refine (nat_right.calls _ _ y265 false _ ?side1 ?side2 A3.out).mono ?_); (case side1 => exact uC (Kd.N_reads' HO267.out).2.2); (case side2 => exact (Kd.N_reads' HO267.out).2.1); rintro e w' ⟨rfl, ⟨nd, rfl⟩⟩; refine ⟨_, rfl, ?_⟩))
 go_ret
 exact ⟨uF, uB⟩
end Go.Proofs.Ytlkinjhmgljapaa.F
end
section
namespace Go.Proofs.Ytlkinjhmgljapaa.F
open Go.RowKit Go.Proofs.YtlkinjhmgljapaaW.PrintWords Go.Proofs.YtlkinjhmgljapaaW.PrintLast Go.Proofs.YtlkinjhmgljapaaW.PrintMore
set_option linter.unusedVariables false
set_option linter.unusedSimpArgs false
def Rd (w : World) (A : Option Addr) (c : Nat) (l : List Int) : Prop := Kd.C (Kd.int .u64) w A l.length l ∧ l.length ≤ c
theorem Rd.below {w w' : World} {A : Option Addr} {c : Nat} {l : List Int} (h : Rd w A c l) (hb : Below w.heap.size w w') : Rd w' A c l := ⟨Kd.C_below h.1 hb, h.2⟩
theorem Rd.V {w : World} {A : Option Addr} {c : Nat} {l : List Int} (h : Rd w A c l) : Kd.V (Kd.int .u64) 50 w w.heap.size (fun k => k < w.heap.size) (.slice A l.length c) l := Kd.V_mk h.2 (Kd.C_F (Kd.heap_int _) h.1)
theorem Rd.of {w : World} {A : Option Addr} {n c e base : Nat} {ok : Nat → Prop} {l : List Int} (h : Kd.R (Kd.int .u64) e w base ok (.slice A l.length c) l) : Rd w A c l := ⟨(Kd.R_reads' h).2.2, (Kd.R_reads' h).2.1⟩
def RingAt (w : World) (g : Nat) (n one next : List Int) (minus : Int) : Prop :=
  ∃ An cn Ao co Ax cx, w.heap[g]? = some (.cells #[.slice An n.length cn, .int .u64 minus, .slice Ao one.length co, .slice Ax next.length cx] 57 (0, 0)) ∧ Rd w An cn n ∧ Rd w Ao co one ∧ Rd w Ax cx next
theorem RingAt.below {w w' : World} {g : Nat} {n one next : List Int} {minus : Int} (h : RingAt w g n one next minus) (hb : Below w.heap.size w w') : RingAt w' g n one next minus := by
  obtain ⟨An, cn, Ao, co, Ax, cx, h1, h2, h3, h4⟩ := h
  exact ⟨An, cn, Ao, co, Ax, cx, blk_below h1 hb, h2.below hb, h3.below hb, h4.below hb⟩
def mont_below.one (k : Nat) (n a : List Int) : Option Bool := (nat_Right.f a).bind fun b => if b = true then (nat_Cmp.f k a n).bind fun c => some (decide (c < 0)) else some false
def mont_below.f (k : Nat) (n : List Int) : List (List Int) → Option Bool
  | [] => some true
  | a :: l => (mont_below.one k n a).bind fun b => if b = true then mont_below.f k n l else some false
theorem mont_below.ix_of {k : Nat} {n : List Int} {l : List (List Int)} {r : Bool} (h : mont_below.f k n l = some r) : ∃ i, i ≤ l.length ∧ (r = true ↔ i = l.length) ∧ (∀ j, j < i → mont_below.one k n (l.getD j []) = some true) ∧ (i < l.length → mont_below.one k n (l.getD i []) = some false) := by
  induction l generalizing r with
  | nil =>
    simp only [mont_below.f, Option.some.injEq] at h
    exact ⟨0, Nat.le_refl _, by simp [← h], fun j hj => absurd hj (Nat.not_lt_zero _), fun hj => absurd hj (Nat.not_lt_zero _)⟩
  | cons a l ih =>
    simp only [mont_below.f] at h
    cases hb : mont_below.one k n a with
    | none => rw [hb] at h; simp at h
    | some b =>
      rw [hb] at h
      simp only [Option.bind_some] at h
      cases b with
      | true =>
        simp only [if_true] at h
        obtain ⟨i, hle, hr, hj, hl⟩ := ih h
        refine ⟨i + 1, by simp; omega, by simp [hr], ?_, ?_⟩
        · intro j hjk
          cases j with
          | zero => simpa using hb
          | succ j => simpa using hj j (by omega)
        · intro hlt
          simpa using hl (by simpa using hlt)
      | false =>
        simp at h
        refine ⟨0, Nat.zero_le _, ?_, fun j hj => absurd hj (Nat.not_lt_zero _), fun _ => by simpa using hb⟩
        simp [← h]
set_option maxHeartbeats 2000000 in
theorem mont_below.closure (k : Nat) (g gb : Nat) (n one next : List Int) (minus : Int) (A0 : Option Addr) (c0 : Nat) (l0 : List Int) (r : Bool) (w : World) (hR : RingAt w g n one next minus) (hb : w.heap[gb]? = some (.cells #[.pointer (some ⟨g, 0, none⟩)] 24 (0, 0))) (h0 : Rd w A0 c0 l0) (h : mont_below.one k n l0 = some r) :
    Calls Try.prog 75 #[.slice A0 l0.length c0, .pointer (some ⟨gb, 0, none⟩)] w fun e w' => e = .returned (.bool (!r)) ∧ Below w.heap.size w w' := by
  obtain ⟨An, cn, Ao, co, Ax, cx, h1, h2, h3, h4⟩ := hR
  unfold mont_below.one at h
  cases hq : nat_Right.f l0 with
  | none => rw [hq] at h; simp at h
  | some b =>
    rw [hq] at h
    simp only [Option.bind_some] at h
    have hcall := Aside0.mk (nat_Right.calls A0 c0 l0 b w h0.1 h0.2 hq)
    have hcb : w.cell? ⟨gb, 0, none⟩ = some (.pointer (some ⟨g, 0, none⟩)) := (blk_cell hb 0).trans rfl
    have hcg : w.cell? ⟨g, 0, none⟩ = some (.slice An n.length cn) := (blk_cell h1 0).trans rfl
    have H0 := Aside0.mk h0
    have H2 := Aside0.mk h2
    clear hq h1 hb h3 h4 h0 h2
    cases b with
    | false =>
      simp at h
      subst h
      go_enter Try.func75, Try.ntmps75
      go_wp2_with (go_at_call 42; refine hcall.out.mono ?_; rintro e w' ⟨rfl, ⟨q, rfl⟩⟩)
      go_ret
      exact ⟨rfl, by repeat (first | exact Below.refl _ _ | apply pw_below_drewN)⟩
    | true =>
      simp only [if_true] at h
      cases hc : nat_Cmp.f k l0 n with
      | none => rw [hc] at h; simp at h
      | some c =>
        rw [hc] at h
        simp only [Option.bind_some, Option.some.injEq] at h
        subst h
        have HC := Aside0.mk hc
        clear hc
        go_enter Try.func75, Try.ntmps75
        go_wp2_with (first
          | (go_at_call 42; refine hcall.out.mono ?_; rintro e w' ⟨rfl, ⟨q, rfl⟩⟩)
          | (go_at_call 70; refine (nat_Cmp.calls k _ A0 c0 l0 _ An cn n c _ (H0.out.below (by repeat (first | exact Below.refl _ _ | apply pw_below_drewN))).V (H2.out.below (by repeat (first | exact Below.refl _ _ | apply pw_below_drewN))).V HC.out).mono ?_; rintro e w' ⟨rfl, hb2⟩; have HB2 := Aside0.mk hb2; clear hb2))
        go_ret
        exact ⟨by by_cases hcc : c < 0 <;> simp [hcc] <;> omega, below_step (by repeat (first | exact Below.refl _ _ | apply pw_below_drewN)) HB2.out⟩
set_option maxHeartbeats 8000000 in
set_option maxRecDepth 100000 in
theorem mont_below.index (k : Nat) (g gb : Nat) (n one next : List Int) (minus : Int) (A0 : Option Addr) (c0 : Nat) (l0 : List (List Int)) (r : Bool) (w : World) (hR : RingAt w g n one next minus) (hb : w.heap[gb]? = some (.cells #[.pointer (some ⟨g, 0, none⟩)] 24 (0, 0))) (hr0 : Kd.C (Kd.slice 50 (Kd.int .u64)) w A0 l0.length l0) (hc0 : l0.length ≤ c0) (h : mont_below.f k n l0 = some r) :
    Calls Try.prog 108 #[.slice A0 l0.length c0, .func (.func 75) #[] #[.pointer (some ⟨gb, 0, none⟩)]] w fun e w' => (∃ k : Int, e = .returned (.int .i64 k) ∧ decide (0 ≤ k) = !r) ∧ Below w.heap.size w w' := by
  have HR0 := Aside0.mk hr0
  obtain ⟨i, hle, hr, hj, hl⟩ := mont_below.ix_of h
  have hbig : l0.length ≤ 9223372036854775807 := hr0.2.1
  have HJ := Aside0.mk hj
  have HL := Aside0.mk hl
  have HRR := Aside0.mk hr
  have HRG := Aside0.mk hR
  have HBB := Aside0.mk hb
  clear hr0 hc0 hj hl h hr hR hb
  go_enter Try.func108, Try.ntmps108
  go_wp2
  go_loopg [5, 8] l0.length (fun gg _ s8 wr => ∃ kk : Nat, kk ≤ i ∧ l0.length - kk ≤ gg ∧ s8 = .int .i64 kk ∧ Aside0 (Below w.heap.size w wr))
  case atStart => exact ⟨0, Nat.zero_le _, by omega, rfl, ⟨Below.refl _ _⟩⟩
  case round =>
    obtain ⟨kk, hkk, hg, rfl, D⟩ := hrel
    by_cases hlt : kk < l0.length
    · have hltz : (kk : Int) < (l0.length : Int) := by omega
      have hC1 : Kd.C (Kd.slice 50 (Kd.int .u64)) wr A0 l0.length l0 := Kd.C_below HR0.out D.out
      have h0k : (0 : Int) ≤ (kk : Int) := Int.natCast_nonneg kk
      obtain ⟨ad, c, hA, _, hK, hc⟩ := Kd.C_get hC1 ([] : List Int) (kk : Int) h0k hltz
      obtain ⟨A1, c1, rfl, hl1, hi1⟩ := hK
      subst hA
      have hcell := hc 0 _ rfl
      rw [Nat.add_zero, show (Kd.slice 50 (Kd.int .u64)).sz = 1 from rfl, Nat.mul_one] at hcell
      simp only [Go.IntWalk.toNatUp] at hcell hl1 hi1
      have HX := HJ.out kk
      have HY := HL.out
      clear hc hC1
      generalize hx : l0.getD kk [] = x at hcell hl1 hi1 HX
      by_cases hlast : kk < i
      · have hcall := Aside0.mk (mont_below.closure k g gb n one next minus A1 c1 x true wr (HRG.out.below D.out) (blk_below HBB.out D.out) ⟨hi1, hl1⟩ (HX hlast))
        have D2 := D
        clear D hi1 HX HY hx
        go_wp2_with (go_at_call 75; refine hcall.out.mono ?_; rintro e w' ⟨rfl, hb⟩; have D3 := Aside0.mk (below_step D2.out hb); clear hb)
        go_roundg (l0.length - (kk + 1))
        case measure => omega
        case rel => exact ⟨kk + 1, by omega, by omega, by go_num, D3⟩
      · have hkk' : kk = i := by omega
        subst hkk'
        have HZ := HY hlt
        rw [hx] at HZ
        have hcall := Aside0.mk (mont_below.closure k g gb n one next minus A1 c1 x false wr (HRG.out.below D.out) (blk_below HBB.out D.out) ⟨hi1, hl1⟩ HZ)
        have hr : r = false := by
          cases r with
          | false => rfl
          | true => have := HRR.out.1 rfl; omega
        have HR := Aside0.mk hr
        have D2 := D
        clear D hi1 HX HY hx HZ hr
        go_wp2_with (go_at_call 75; refine hcall.out.mono ?_; rintro e w' ⟨rfl, hb⟩; have D3 := Aside0.mk (below_step D2.out hb); clear hb)
        go_ret
        exact ⟨⟨_, rfl, by rw [HR.out]; simp⟩, D3.out⟩
    · have hltz : ¬ (kk : Int) < (l0.length : Int) := by omega
      have hr : r = true := HRR.out.2 (by omega)
      have HR := Aside0.mk hr
      clear hr
      go_wp2
      go_ret
      exact ⟨⟨_, rfl, by rw [HR.out]; simp⟩, D.out⟩
set_option maxHeartbeats 8000000 in
set_option maxRecDepth 100000 in
theorem mont_below.contains (k : Nat) (g gb : Nat) (n one next : List Int) (minus : Int) (A0 : Option Addr) (c0 : Nat) (l0 : List (List Int)) (r : Bool) (w : World) (hR : RingAt w g n one next minus) (hb : w.heap[gb]? = some (.cells #[.pointer (some ⟨g, 0, none⟩)] 24 (0, 0))) (hr0 : Kd.C (Kd.slice 50 (Kd.int .u64)) w A0 l0.length l0) (hc0 : l0.length ≤ c0) (h : mont_below.f k n l0 = some r) :
    Calls Try.prog 74 #[.slice A0 l0.length c0, .func (.func 75) #[] #[.pointer (some ⟨gb, 0, none⟩)]] w fun e w' => e = .returned (.bool (!r)) ∧ Below w.heap.size w w' := by
  have hcall := Aside0.mk (mont_below.index k g gb n one next minus A0 c0 l0 r w hR hb hr0 hc0 h)
  clear hr0 hc0 h hR hb
  go_enter Try.func74, Try.ntmps74
  go_wp2_with (go_at_call 108; refine hcall.out.mono ?_; rintro e w' ⟨⟨k, rfl, hk⟩, hd⟩; have HK := Aside0.mk hk; have HD := Aside0.mk hd; clear hk hd)
  go_ret
  exact ⟨by rw [← HK.out]; rfl, HD.out⟩
set_option maxHeartbeats 8000000 in
set_option maxRecDepth 100000 in
theorem mont_below.calls (k : Nat) (g : Nat) (n one next : List Int) (minus : Int) (A0 : Option Addr) (c0 : Nat) (l0 : List (List Int)) (r : Bool) (w : World) (hR : RingAt w g n one next minus) (hr0 : Kd.C (Kd.slice 50 (Kd.int .u64)) w A0 l0.length l0) (hc0 : l0.length ≤ c0) (h : mont_below.f k n l0 = some r) :
    Calls Try.prog 36 #[.pointer (some ⟨g, 0, none⟩), .slice A0 l0.length c0] w fun e w' => e = .returned (.bool r) ∧ Below w.heap.size w w' := by
  have HRG := Aside0.mk hR
  have HR0 := Aside0.mk hr0
  have HH := Aside0.mk h
  have HB := Aside0.mk (Below.refl w.heap.size w)
  clear hr0 h hR
  go_enter Try.func36, Try.ntmps36
  go_wp2_with (first | ((with_reducible refine gate_dst (N := 2) rfl ?_); (try (refine gate_guard (by rfl) ?_; dsimp only)); refine box_event ?hg (N := 2) ?hd (cs := #[.pointer (some ⟨g, 0, none⟩)]) (t := 24) ?hr ?_; (case hd => rfl); (case hg => rfl); (case hr => first | (go_simp; done) | (go_simp; rfl)); intro gb hg w5 hbox hb; have n0_ := Aside0.mk (below_step HB.out hb); have BK := Aside0.mk hbox; clear HB; have HB := n0_; clear n0_ hb hbox hg) | (go_at_call 74; refine (mont_below.contains k g _ n one next minus A0 c0 l0 r _ (HRG.out.below uB) (uK BK.out) (Kd.C_below HR0.out uB) hc0 HH.out).mono ?_; rintro e w' ⟨rfl, hd⟩; have n0_ := Aside0.mk (below_step uB hd); clear HB hd; have HB := n0_; clear n0_))
  go_ret
  exact ⟨by cases r <;> rfl, uB⟩
end Go.Proofs.Ytlkinjhmgljapaa.F
end
section
namespace Go.Proofs.Ytlkinjhmgljapaa.F
open Go.RowKit Go.Proofs.YtlkinjhmgljapaaW.PrintWords Go.Proofs.YtlkinjhmgljapaaW.PrintLast Go.Proofs.YtlkinjhmgljapaaW.PrintMore
attribute [local go_sem] max2_int min2_int max_two min_two max_three min_three max_four min_four
set_option linter.unusedVariables false
set_option linter.unusedSimpArgs false
attribute [local go_sem] add64_run
def mont_add.l0 : Nat → List Int → List Int → Int → Int → Int → Int → Option (List Int)
 | 0, _, _, _, _, _, _ => none
 | k + 1, x0, x1, x2, x6, x12, x13 => if x13 < x12 then (if x13 < (x1.length : Int) then (if 0 ≤ x13 then ((bits_Mul64.f (rd x1 x13) x2).bind fun bt271 => (if carry01 0 = true then (if x13 < (x0.length : Int) then (mont_add.l0 k (x0.set (x13 : Int).toNat (add64_s (rd x0 x13) (add64_s bt271.2 x6 0) 0)) x1 x2 (IntKind.u64.wrap ((IntKind.u64.wrap (bt271.1 + (add64_c bt271.2 x6 0))) + (add64_c (rd x0 x13) (add64_s bt271.2 x6 0) 0))) x12 (wrap64 (x13 + 1))) else (none)) else (none))) else (none)) else (if carry01 0 = true then (if 0 ≤ x13 then (if x13 < (x0.length : Int) then (mont_add.l0 k (x0.set (x13 : Int).toNat (add64_s (rd x0 x13) (add64_s 0 x6 0) 0)) x1 x2 (IntKind.u64.wrap ((IntKind.u64.wrap (0 + (add64_c 0 x6 0))) + (add64_c (rd x0 x13) (add64_s 0 x6 0) 0))) x12 (wrap64 (x13 + 1))) else (none)) else (none)) else (none))) else (some x0)
def mont_add.f (k : Nat) (l0 : List Int) (l1 : List Int) (a2 : Int) : Option (List Int) := mont_add.l0 k l0 l1 a2 0 (l0.length : Int) 0
set_option maxHeartbeats 8000000 in
set_option maxRecDepth 100000 in
theorem mont_add.calls (k : Nat) (P0_ : Nat → Prop) (u9000_ : Value) (l0 : List Int) (A1 : Option Addr) (c1 : Nat) (l1 : List Int) (a2 : Int) (r : List Int) (w0 w : World) (hB : Below w0.heap.size w0 w) (ho0 : Kd.R (Kd.int .u64) 50 w w0.heap.size P0_ u9000_ l0) (hr1 : ∀ W_, Kept w W_ (fun k_ => P0_ k_) → Kd.C (Kd.int .u64) W_ A1 l1.length l1) (hc1 : l1.length ≤ c1) (h : mont_add.f k l0 l1 a2 = some r) :
  Calls Try.prog 76 #[u9000_, .slice A1 l1.length c1, .int .u64 a2] w fun e w' => e = .returned (.tuple #[]) ∧ Kd.R (Kd.int .u64) 50 w' w0.heap.size (fun k_ => (P0_ k_ ∨ w.heap.size ≤ k_)) u9000_ r ∧ Below w0.heap.size w0 w' ∧ Kept w w' (fun k_ => P0_ k_) := by
 have HO0 := Aside0.mk (show Kd.R (Kd.int .u64) 50 w w0.heap.size (fun k_ => (P0_ k_ ∨ w.heap.size ≤ k_)) u9000_ l0 from Kd.R_mono ho0 (fun k_ hk => (.inl hk)))
 have HR1 := Aside0.mk hr1; have HC1 := Aside0.mk hc1; clear hr1 hc1
 have HK := Aside0.mk (Kept.refl w (fun k_ => P0_ k_))
 have HW0 := Aside0.mk hB.size
 have HB := Aside0.mk hB; clear hB
 have H : (mont_add.l0 k l0 l1 a2 0 (l0.length : Int) 0) = some r := h
 clear h
 have H' := Aside0.mk H
 clear H
 obtain ⟨Ao4, co4, eo4⟩ := Kd.R_slice HO0.out
 subst eo4
 go_enter Try.func76, Try.ntmps76
 go_wp2
 go_loopg [6, 13] k (fun kq v6 v13 w' => ∃ (x0_1 : List Int) (x6_1 : Int) (x13_1 : Int), v6 = .int .u64 x6_1 ∧ v13 = .int .i64 x13_1 ∧ Aside0 (mont_add.l0 kq x0_1 l1 a2 x6_1 (l0.length : Int) x13_1 = some r) ∧ Aside0 (kq ≤ k) ∧ Aside0 (Kd.R (Kd.int .u64) 50 w' w0.heap.size (fun k_ => (P0_ k_ ∨ w.heap.size ≤ k_)) (.slice Ao4 l0.length co4) x0_1) ∧ Aside0 (Kept w w' (fun k_ => P0_ k_)) ∧ Aside0 (Below w0.heap.size w0 w'))
 case atStart => exact ⟨(l0), (0), (0), uG, uG, H', ⟨Nat.le_refl _⟩, ⟨uR HO0.out⟩, ⟨by repeat (first | (with_reducible first | exact HK.out | apply Kept.alloc | apply Kept.drewN | apply Kept.drew) | exact HK.out)⟩, ⟨uB⟩⟩
 case round =>
  clear H'
  (try clear c1); (try clear p2)
  obtain ⟨x0_1, x6_1, x13_1, rfl, rfl, HA, HK1, HO_0, HK, HB⟩ := hrel
  have hl0_1 := (Kd.R_reads' HO_0.out).1
  rw [hl0_1] at HO_0
  (try simp only [hl0_1])
  cases gk with
  | zero => exact absurd HA.out (by simp [mont_add.l0])
  | succ k1 =>
   have H := HA.out
   clear HA
   simp only [mont_add.l0] at H
   by_cases c5 : x13_1 < (l0.length : Int)
   ·
    rw [if_pos c5] at H
    have c5b0 : decide (x13_1 < (l0.length : Int)) = true := decide_eq_true c5
    (try (have c5b0h0 := c5b0; simp only [hl0_1] at c5b0h0))
    clear c5
    by_cases c6 : x13_1 < (l1.length : Int)
    ·
     rw [if_pos c6] at H
     have c6b0 : decide (x13_1 < (l1.length : Int)) = true := decide_eq_true c6
     (try (have c6b0h0 := c6b0; simp only [hl0_1] at c6b0h0))
     clear c6
     replace H := uT H; obtain ⟨c7, H⟩ := H
     have c7b0 : decide (0 ≤ x13_1) = true := decide_eq_true c7
     clear c7
     replace H := ub H; obtain ⟨⟨t271, t272⟩, A8, H⟩ := H
     (try dsimp only at H)
     replace H := uT H; obtain ⟨c9, H⟩ := H
     have c9b0 : carry01 0 = true := c9
     clear c9
     replace H := uT H; obtain ⟨c10, H⟩ := H
     have c10b0 : decide (x13_1 < (x0_1.length : Int)) = true := decide_eq_true c10
     (try (have c10b0h0 := c10b0; simp only [hl0_1] at c10b0h0))
     clear c10
     obtain ⟨y274, hy274⟩ : ∃ y_ : List Int, y_ = (x0_1.set (x13_1 : Int).toNat (add64_s (rd x0_1 x13_1) (add64_s t272 x6_1 0) 0)) := ⟨_, rfl⟩
     replace H : (mont_add.l0 k1 y274 l1 a2 (IntKind.u64.wrap ((IntKind.u64.wrap (t271 + (add64_c t272 x6_1 0))) + (add64_c (rd x0_1 x13_1) (add64_s t272 x6_1 0) 0))) (l0.length : Int) (wrap64 (x13_1 + 1))) = some r := by first | (rw [hy274]; with_reducible exact H) | (have H2_ := (Option.bind_some _ _).symm.trans H; rw [hy274]; with_reducible exact H2_) | (have H2_ := (Option.bind_some _ _).symm.trans H; with_reducible exact H2_) | with_reducible exact H | (rw [hy274]; exact H) | exact H
     have Ny274 := Aside0.mk hy274; clear hy274
     have H' := Aside0.mk H
     clear H
     have p270 : 0 ≤ (x13_1 : Int) := uO
     have q270 : x13_1 < (l1.length : Int) := uO
     obtain ⟨ad270, e270, hx270_0⟩ := Kd.at_int (Kd.C_kept_now HR1.out HK.out) x13_1 p270 q270
     cases e270
     replace p270 := eq_true p270
     replace q270 := eq_true q270
     go_wp2_with (first | ((with_reducible refine gate_callee (f := 61) rfl ?_); refine goesL_ (some 26) rfl rfl Try.func61 (by kernel_rfl) rfl #[.int .u64 (rd l1 x13_1), .int .u64 a2] rfl uM ?_; (with_reducible refine (bits_Mul64.calls (rd l1 x13_1) a2 t271 t272 _ A8.out).mono ?_); rintro e w' ⟨rfl, ⟨nd, rfl⟩⟩; refine ⟨_, rfl, ?_⟩; (try (rw [drewN_self wr]; generalize hq_ : World.drewN wr _ = wr; replace HO_0 : Aside0 (Kd.R (Kd.int .u64) 50 wr w0.heap.size (fun k_ => (P0_ k_ ∨ w.heap.size ≤ k_)) (.slice Ao4 x0_1.length co4) x0_1) := ⟨by rw [← hq_]; exact (uR HO_0.out)⟩; replace HK : Aside0 (Kept w wr (fun k_ => P0_ k_)) := ⟨by rw [← hq_]; exact (by repeat (first | (with_reducible first | exact HK.out | apply Kept.alloc | apply Kept.drewN | apply Kept.drew) | exact HK.out))⟩; replace HB : Aside0 (Below w0.heap.size w0 wr) := ⟨by rw [← hq_]; exact uB⟩; clear hq_)); have p273 : 0 ≤ (x13_1 : Int) := uO; have q273 : x13_1 < (x0_1.length : Int) := uO; obtain ⟨ad273, e273, hx273_0⟩ := Kd.at_int (Kd.R_reads' HO_0.out).2.2 x13_1 p273 q273; cases e273; replace p273 := eq_true p273; replace q273 := eq_true q273; have p11 : 0 ≤ (x13_1 : Int) := uO; have q11 : (x13_1 : Int) < ((x0_1.length : Int) : Int) := uO; obtain ⟨go11, co11, eo11, gb11, gl11, cl11, HG11⟩ := Kd.R_form HO_0.out (by omega); (first | cases eo11 | (injection eo11 with ea_ en_ ec_; (first | subst ea_ | (injection ea_ with ea_; subst ea_)); subst ec_; clear en_)); have GB11 := Aside0.mk gb11; have GG11 := Aside0.mk HG11; clear gb11 gl11 HG11; have HMgo11 := Aside0.mk (show (P0_ go11 ∨ w.heap.size ≤ go11) from (HO_0.out.1 _ rfl)); (first | simp only [add_plain] at hx273_0 | skip); obtain ⟨hx11_0, hf11_0⟩ := Kd.R_celln 0 HO_0.out (x13_1 : Int) p11 q11; replace p11 := eq_true p11; replace q11 := eq_true q11; obtain ⟨hy12_, hz12_⟩ := Kd.R_celln 0 HO_0.out (x13_1 : Int) uO uO; have HP12 := Kd.R_putg HO_0.out (x13_1 : Int) (add64_s (rd x0_1 x13_1) (add64_s t272 x6_1 0) 0)) | ((with_reducible refine gate_store (t := 50) (p := 49) rfl ?_); refine store_event (t := 50) (p := 49) (v := ?vo_w13) (w1 := (wr.setCell ⟨go11, (x13_1 : Int).toNat, none⟩ (.int .u64 (add64_s (rd x0_1 x13_1) (add64_s t272 x6_1 0) 0)))) ?hg ?ho ?hn ?hr ?_; (case ho => rfl); (case hg => rfl); (case hn => rfl); (case hr => first | (go_simp; done) | (go_simp; rfl) | (obtain ⟨hy_, hz_⟩ := Kd.R_celln 0 HO_0.out (x13_1 : Int) uO uO; (try simp only [Go.IntWalk.toNatUp] at hy_ hz_); (try simp only [Int.reduceToNat, Int.toNat_zero, Int.toNat_ofNat] at hy_ hz_); first | (go_simp; done) | (go_simp; rfl))); intro w13 hw; have hg : wr.grownBy w13 (some go11) := (by rw [hw]; exact HP12.2); have hp_ : Kd.R (Kd.int .u64) 50 w13 w0.heap.size (fun k_ => (P0_ k_ ∨ w.heap.size ≤ k_)) (.slice (some ⟨go11, 0, none⟩) x0_1.length co4) y274 := (by rw [hw, Ny274.out]; exact HP12.1); clear HP12; replace HB := Aside0.mk ((by rw [hw]; exact below_set (HB.out) GB11.out : Below w0.heap.size w0 w13)); replace HK := Aside0.mk (Kept.of_grown (S := (fun k_ => P0_ k_)) hg (by repeat (first | (with_reducible first | exact HK.out | apply Kept.alloc | apply Kept.drewN | apply Kept.drew) | exact HK.out)) (fun k_ e_ => (HO_0.out.1 k_ e_))); replace HO_0 := Aside0.mk (hp_); clear hg hw hp_))
     (try simp only [← hl0_1])
     go_roundg k1
     case measure => have := HK1.out; omega
     case rel => exact ⟨(y274), (IntKind.u64.wrap ((IntKind.u64.wrap (t271 + (add64_c t272 x6_1 0))) + (add64_c (rd x0_1 x13_1) (add64_s t272 x6_1 0) 0))), (wrap64 (x13_1 + 1)), uG, uG, H', ⟨by have := HK1.out; omega⟩, ⟨by (try simp only [hl0_1]); (with_reducible repeat (first | apply Kd.R_alloc | apply Kd.R_drewN | apply Kd.R_drew)); exact HO_0.out⟩, ⟨by repeat (first | (with_reducible first | exact HK.out | apply Kept.alloc | apply Kept.drewN | apply Kept.drew) | exact HK.out)⟩, ⟨uB⟩⟩
    rw [if_neg c6] at H
    have c6b0 : decide (x13_1 < (l1.length : Int)) = false := decide_eq_false c6
    (try (have c6b0h0 := c6b0; simp only [hl0_1] at c6b0h0))
    clear c6
    replace H := uT H; obtain ⟨c14, H⟩ := H
    have c14b0 : carry01 0 = true := c14
    clear c14
    replace H := uT H; obtain ⟨c15, H⟩ := H
    have c15b0 : decide (0 ≤ x13_1) = true := decide_eq_true c15
    clear c15
    replace H := uT H; obtain ⟨c16, H⟩ := H
    have c16b0 : decide (x13_1 < (x0_1.length : Int)) = true := decide_eq_true c16
    (try (have c16b0h0 := c16b0; simp only [hl0_1] at c16b0h0))
    clear c16
    obtain ⟨y276, hy276⟩ : ∃ y_ : List Int, y_ = (x0_1.set (x13_1 : Int).toNat (add64_s (rd x0_1 x13_1) (add64_s 0 x6_1 0) 0)) := ⟨_, rfl⟩
    replace H : (mont_add.l0 k1 y276 l1 a2 (IntKind.u64.wrap ((IntKind.u64.wrap (0 + (add64_c 0 x6_1 0))) + (add64_c (rd x0_1 x13_1) (add64_s 0 x6_1 0) 0))) (l0.length : Int) (wrap64 (x13_1 + 1))) = some r := by first | (rw [hy276]; with_reducible exact H) | (have H2_ := (Option.bind_some _ _).symm.trans H; rw [hy276]; with_reducible exact H2_) | (have H2_ := (Option.bind_some _ _).symm.trans H; with_reducible exact H2_) | with_reducible exact H | (rw [hy276]; exact H) | exact H
    have Ny276 := Aside0.mk hy276; clear hy276
    have H' := Aside0.mk H
    clear H
    have p275 : 0 ≤ (x13_1 : Int) := uO
    have q275 : x13_1 < (x0_1.length : Int) := uO
    obtain ⟨ad275, e275, hx275_0⟩ := Kd.at_int (Kd.R_reads' HO_0.out).2.2 x13_1 p275 q275
    cases e275
    replace p275 := eq_true p275
    replace q275 := eq_true q275
    have p17 : 0 ≤ (x13_1 : Int) := uO
    have q17 : (x13_1 : Int) < ((x0_1.length : Int) : Int) := uO
    obtain ⟨go17, co17, eo17, gb17, gl17, cl17, HG17⟩ := Kd.R_form HO_0.out (by omega)
    (first | cases eo17 | (injection eo17 with ea_ en_ ec_; (first | subst ea_ | (injection ea_ with ea_; subst ea_)); subst ec_; clear en_))
    have GB17 := Aside0.mk gb17; have GG17 := Aside0.mk HG17; clear gb17 gl17 HG17
    have HMgo17 := Aside0.mk (show (P0_ go17 ∨ w.heap.size ≤ go17) from (HO_0.out.1 _ rfl))
    (first | simp only [add_plain] at hx275_0 | skip)
    obtain ⟨hx17_0, hf17_0⟩ := Kd.R_celln 0 HO_0.out (x13_1 : Int) p17 q17
    replace p17 := eq_true p17
    replace q17 := eq_true q17
    have HP18 := Kd.R_putg HO_0.out (x13_1 : Int) (add64_s (rd x0_1 x13_1) (add64_s 0 x6_1 0) 0)
    go_wp2_with (first | ((with_reducible refine gate_store (t := 50) (p := 49) rfl ?_); refine store_event (t := 50) (p := 49) (v := ?vo_w19) (w1 := (wr.setCell ⟨go17, (x13_1 : Int).toNat, none⟩ (.int .u64 (add64_s (rd x0_1 x13_1) (add64_s 0 x6_1 0) 0)))) ?hg ?ho ?hn ?hr ?_; (case ho => rfl); (case hg => rfl); (case hn => rfl); (case hr => first | (go_simp; done) | (go_simp; rfl) | (obtain ⟨hy_, hz_⟩ := Kd.R_celln 0 HO_0.out (x13_1 : Int) uO uO; (try simp only [Go.IntWalk.toNatUp] at hy_ hz_); (try simp only [Int.reduceToNat, Int.toNat_zero, Int.toNat_ofNat] at hy_ hz_); first | (go_simp; done) | (go_simp; rfl))); intro w19 hw; have hg : wr.grownBy w19 (some go17) := (by rw [hw]; exact HP18.2); have hp_ : Kd.R (Kd.int .u64) 50 w19 w0.heap.size (fun k_ => (P0_ k_ ∨ w.heap.size ≤ k_)) (.slice (some ⟨go17, 0, none⟩) x0_1.length co4) y276 := (by rw [hw, Ny276.out]; exact HP18.1); clear HP18; replace HB := Aside0.mk ((by rw [hw]; exact below_set (HB.out) GB17.out : Below w0.heap.size w0 w19)); replace HK := Aside0.mk (Kept.of_grown (S := (fun k_ => P0_ k_)) hg (by repeat (first | (with_reducible first | exact HK.out | apply Kept.alloc | apply Kept.drewN | apply Kept.drew) | exact HK.out)) (fun k_ e_ => (HO_0.out.1 k_ e_))); replace HO_0 := Aside0.mk (hp_); clear hg hw hp_))
    (try simp only [← hl0_1])
    go_roundg k1
    case measure => have := HK1.out; omega
    case rel => exact ⟨(y276), (IntKind.u64.wrap ((IntKind.u64.wrap (0 + (add64_c 0 x6_1 0))) + (add64_c (rd x0_1 x13_1) (add64_s 0 x6_1 0) 0))), (wrap64 (x13_1 + 1)), uG, uG, H', ⟨by have := HK1.out; omega⟩, ⟨by (try simp only [hl0_1]); (with_reducible repeat (first | apply Kd.R_alloc | apply Kd.R_drewN | apply Kd.R_drew)); exact HO_0.out⟩, ⟨by repeat (first | (with_reducible first | exact HK.out | apply Kept.alloc | apply Kept.drewN | apply Kept.drew) | exact HK.out)⟩, ⟨uB⟩⟩
   rw [if_neg c5] at H
   have c5b0 : decide (x13_1 < (l0.length : Int)) = false := decide_eq_false c5
   (try (have c5b0h0 := c5b0; simp only [hl0_1] at c5b0h0))
   clear c5
   obtain rfl := Option.some.inj H
   go_wp2
   first | go_end0 | ((try simp only [Exit.inBlock, Exit.then]); refine bodyPost_ret (results_none rfl _ _ _) rfl ?_)
   exact ⟨uF, (by first | exact (uR HO_0.out) | (simp only [hl0_1]; exact (uR HO_0.out))), uB, by repeat (first | (with_reducible first | exact HK.out | apply Kept.alloc | apply Kept.drewN | apply Kept.drew) | exact HK.out)⟩
end Go.Proofs.Ytlkinjhmgljapaa.F
end
section
namespace Go.Proofs.Ytlkinjhmgljapaa.F
open Go.RowKit Go.Proofs.YtlkinjhmgljapaaW.PrintWords Go.Proofs.YtlkinjhmgljapaaW.PrintLast Go.Proofs.YtlkinjhmgljapaaW.PrintMore
attribute [local go_sem] max2_int min2_int max_two min_two max_three min_three max_four min_four
set_option linter.unusedVariables false
set_option linter.unusedSimpArgs false
attribute [local go_sem] sub64_run
def nat_less.l0 : Nat → List Int → List Int → List Int → Int → Int → Int → Option (List Int)
 | 0, _, _, _, _, _, _ => none
 | k + 1, x0, x1, x5, x6, x13, x14 => if x14 < x13 then (if x14 < (x1.length : Int) then (if 0 ≤ x14 then (if x14 < (x0.length : Int) then (if carry01 x6 = true then (if x14 < (x5.length : Int) then (nat_less.l0 k x0 x1 (x5.set (x14 : Int).toNat (sub64_s (rd x0 x14) (rd x1 x14) x6)) (sub64_c (rd x0 x14) (rd x1 x14) x6) x13 (wrap64 (x14 + 1))) else (none)) else (none)) else (none)) else (none)) else (if 0 ≤ x14 then (if x14 < (x0.length : Int) then (if carry01 x6 = true then (if x14 < (x5.length : Int) then (nat_less.l0 k x0 x1 (x5.set (x14 : Int).toNat (sub64_s (rd x0 x14) 0 x6)) (sub64_c (rd x0 x14) 0 x6) x13 (wrap64 (x14 + 1))) else (none)) else (none)) else (none)) else (none))) else (some x5)
def nat_less.f (k : Nat) (l0 : List Int) (l1 : List Int) : Option (List Int) := if 0 ≤ (l0.length : Int) then (if ((l0.length : Int) : Int).toNat ≤ 35184372088832 then (nat_less.l0 k l0 l1 (List.replicate ((l0.length : Int) : Int).toNat 0) 0 (l0.length : Int) 0) else (none)) else (none)
set_option maxHeartbeats 8000000 in
set_option maxRecDepth 100000 in
theorem nat_less.calls (k : Nat) (A0 : Option Addr) (c0 : Nat) (l0 : List Int) (A1 : Option Addr) (c1 : Nat) (l1 : List Int) (r : List Int) (w : World) (hr0 : Kd.C (Kd.int .u64) w A0 l0.length l0) (hc0 : l0.length ≤ c0) (hr1 : Kd.C (Kd.int .u64) w A1 l1.length l1) (hc1 : l1.length ≤ c1) (h : nat_less.f k l0 l1 = some r) :
  Calls Try.prog 111 #[.slice A0 l0.length c0, .slice A1 l1.length c1] w fun e w' => ∃ v0_ : Value, e = .returned (v0_) ∧ Kd.R (Kd.int .u64) 50 w' w.heap.size (fun _ => True) v0_ r ∧ Below w.heap.size w w' := by
 have HR0 := Aside0.mk hr0; have HC0 := Aside0.mk hc0; clear hr0 hc0; have HR1 := Aside0.mk hr1; have HC1 := Aside0.mk hc1; clear hr1 hc1
 have HB := Aside0.mk (Below.refl w.heap.size w)
 have H : (if 0 ≤ (l0.length : Int) then (if ((l0.length : Int) : Int).toNat ≤ 35184372088832 then (nat_less.l0 k l0 l1 (List.replicate ((l0.length : Int) : Int).toNat 0) 0 (l0.length : Int) 0) else (none)) else (none)) = some r := h
 clear h
 replace H := uT H; obtain ⟨c3, H⟩ := H
 have c3b0 := eq_true c3
 have c3b1 : decide (0 ≤ (l0.length : Int)) = true := decide_eq_true c3
 clear c3
 replace H := uT H; obtain ⟨c4, H⟩ := H
 have c4b0 := eq_true c4
 have c4b1 : decide (((l0.length : Int) : Int).toNat ≤ 35184372088832) = true := decide_eq_true c4
 clear c4
 obtain ⟨y137, hy137⟩ : ∃ y_ : List Int, y_ = (List.replicate ((l0.length : Int) : Int).toNat 0) := ⟨_, rfl⟩
 replace H : (nat_less.l0 k l0 l1 y137 0 (l0.length : Int) 0) = some r := by first | (rw [hy137]; with_reducible exact H) | (have H2_ := (Option.bind_some _ _).symm.trans H; rw [hy137]; with_reducible exact H2_) | (have H2_ := (Option.bind_some _ _).symm.trans H; with_reducible exact H2_) | with_reducible exact H | (rw [hy137]; exact H) | exact H
 have Ny137 := Aside0.mk hy137; clear hy137
 have H' := Aside0.mk H
 clear H
 go_enter Try.func111, Try.ntmps111
 go_wp2_with (first | ((with_reducible refine gate_dst (N := 11) rfl ?_); refine Kd.R_make (Kd.int .u64) _ 50 rfl (N := 11) rfl 23 _ _ rfl (l0.length : Int) rfl rfl Try.underlying23 (.int .u64 0) 8 info50 rfl (by decide) (by omega) 0 (ok := fun _ => True) (okp := fun _ => True) rfl (fun _ hk => hk) trivial uO (Nat.le_trans (Nat.mul_le_mul_right _ (uO : (l0.length : Int).toNat ≤ 35184372088832)) (by omega)) (Below.refl _ _) (Nat.le_refl _) ?_; intro v138 w5 ho6 hb hg_ hnew_; clear hg_ hnew_; (first | rw [← Ny137.out] at ho6 | (simp only [Int.reduceToNat] at ho6; rw [← Ny137.out] at ho6)); have HO139 := Aside0.mk (Kd.R_lower ho6 (below_size uB)); replace HB := uy hb; clear hb ho6))
 go_loopg [6, 14] k (fun kq v6 v14 w' => ∃ (x5_1 : List Int) (x6_1 : Int) (x14_1 : Int), v6 = .int .u64 x6_1 ∧ v14 = .int .i64 x14_1 ∧ Aside0 (nat_less.l0 kq l0 l1 x5_1 x6_1 (l0.length : Int) x14_1 = some r) ∧ Aside0 (kq ≤ k) ∧ Aside0 (Kd.R (Kd.int .u64) 50 w' w.heap.size (fun _ => True) v138 x5_1) ∧ Aside0 (Below w.heap.size w w'))
 case atStart => exact ⟨(y137), (0), (0), uG, uG, H', ⟨Nat.le_refl _⟩, ⟨uR HO139.out⟩, ⟨uB⟩⟩
 case round =>
  clear H'
  (try clear c1); (try clear p2); (try clear c3); (try clear c3b0); (try clear c3b1); (try clear c4); (try clear c4b0); (try clear c4b1)
  obtain ⟨x5_1, x6_1, x14_1, rfl, rfl, HA, HK1, HO_5, HB⟩ := hrel
  cases gk with
  | zero => exact absurd HA.out (by simp [nat_less.l0])
  | succ k1 =>
   have H := HA.out
   clear HA
   simp only [nat_less.l0] at H
   by_cases c7 : x14_1 < (l0.length : Int)
   ·
    rw [if_pos c7] at H
    have c7b0 : decide (x14_1 < (l0.length : Int)) = true := decide_eq_true c7
    clear c7
    by_cases c8 : x14_1 < (l1.length : Int)
    ·
     rw [if_pos c8] at H
     have c8b0 : decide (x14_1 < (l1.length : Int)) = true := decide_eq_true c8
     clear c8
     replace H := uT H; obtain ⟨c9, H⟩ := H
     have c9b0 : decide (0 ≤ x14_1) = true := decide_eq_true c9
     clear c9
     replace H := uT H; obtain ⟨c10, H⟩ := H
     have c10b0 : decide (x14_1 < (l0.length : Int)) = true := decide_eq_true c10
     clear c10
     replace H := uT H; obtain ⟨c11, H⟩ := H
     have c11b0 : carry01 x6_1 = true := c11
     clear c11
     replace H := uT H; obtain ⟨c12, H⟩ := H
     have c12b0 : decide (x14_1 < (x5_1.length : Int)) = true := decide_eq_true c12
     clear c12
     obtain ⟨y142, hy142⟩ : ∃ y_ : List Int, y_ = (x5_1.set (x14_1 : Int).toNat (sub64_s (rd l0 x14_1) (rd l1 x14_1) x6_1)) := ⟨_, rfl⟩
     replace H : (nat_less.l0 k1 l0 l1 y142 (sub64_c (rd l0 x14_1) (rd l1 x14_1) x6_1) (l0.length : Int) (wrap64 (x14_1 + 1))) = some r := by first | (rw [hy142]; with_reducible exact H) | (have H2_ := (Option.bind_some _ _).symm.trans H; rw [hy142]; with_reducible exact H2_) | (have H2_ := (Option.bind_some _ _).symm.trans H; with_reducible exact H2_) | with_reducible exact H | (rw [hy142]; exact H) | exact H
     have Ny142 := Aside0.mk hy142; clear hy142
     have H' := Aside0.mk H
     clear H
     have p140 : 0 ≤ (x14_1 : Int) := uO
     have q140 : x14_1 < (l1.length : Int) := uO
     obtain ⟨ad140, e140, hx140_0⟩ := Kd.at_int HR1.out x14_1 p140 q140
     cases e140
     replace hx140_0 := (HB.out.cell (World.block_lt_of_cell? w _ hx140_0)).trans hx140_0
     replace p140 := eq_true p140
     replace q140 := eq_true q140
     have p141 : 0 ≤ (x14_1 : Int) := uO
     have q141 : x14_1 < (l0.length : Int) := uO
     obtain ⟨ad141, e141, hx141_0⟩ := Kd.at_int HR0.out x14_1 p141 q141
     cases e141
     replace hx141_0 := (HB.out.cell (World.block_lt_of_cell? w _ hx141_0)).trans hx141_0
     replace p141 := eq_true p141
     replace q141 := eq_true q141
     have p13 : 0 ≤ (x14_1 : Int) := uO
     have q13 : (x14_1 : Int) < ((x5_1.length : Int) : Int) := uO
     obtain ⟨go13, co13, eo13, gb13, gl13, cl13, HG13⟩ := Kd.R_form HO_5.out (by omega)
     (first | cases eo13 | (injection eo13 with ea_ en_ ec_; (first | subst ea_ | (injection ea_ with ea_; subst ea_)); subst ec_; clear en_))
     have GB13 := Aside0.mk gb13; have GG13 := Aside0.mk HG13; clear gb13 gl13 HG13
     obtain ⟨hx13_0, hf13_0⟩ := Kd.R_celln 0 HO_5.out (x14_1 : Int) p13 q13
     replace p13 := eq_true p13
     replace q13 := eq_true q13
     have HP14 := Kd.R_putg HO_5.out (x14_1 : Int) (sub64_s (rd l0 x14_1) (rd l1 x14_1) x6_1)
     go_wp2_with (first | ((with_reducible refine gate_store (t := 50) (p := 37) rfl ?_); refine store_event (t := 50) (p := 37) (v := ?vo_w15) (w1 := (wr.setCell ⟨go13, (x14_1 : Int).toNat, none⟩ (.int .u64 (sub64_s (rd l0 x14_1) (rd l1 x14_1) x6_1)))) ?hg ?ho ?hn ?hr ?_; (case ho => rfl); (case hg => rfl); (case hn => rfl); (case hr => first | (go_simp; done) | (go_simp; rfl) | (obtain ⟨hy_, hz_⟩ := Kd.R_celln 0 HO_5.out (x14_1 : Int) uO uO; (try simp only [Go.IntWalk.toNatUp] at hy_ hz_); (try simp only [Int.reduceToNat, Int.toNat_zero, Int.toNat_ofNat] at hy_ hz_); first | (go_simp; done) | (go_simp; rfl))); intro w15 hw; have hg : wr.grownBy w15 (some go13) := (by rw [hw]; exact HP14.2); have hp_ : Kd.R (Kd.int .u64) 50 w15 w.heap.size (fun _ => True) (.slice (some ⟨go13, 0, none⟩) x5_1.length co13) y142 := (by rw [hw, Ny142.out]; exact HP14.1); clear HP14; replace HO_5 := Aside0.mk (hp_); replace HB := Aside0.mk ((by rw [hw]; exact below_set (HB.out) GB13.out : Below w.heap.size w w15)); clear hg hw hp_))
     go_roundg k1
     case measure => have := HK1.out; omega
     case rel => exact ⟨(y142), (sub64_c (rd l0 x14_1) (rd l1 x14_1) x6_1), (wrap64 (x14_1 + 1)), uG, uG, H', ⟨by have := HK1.out; omega⟩, ⟨uR HO_5.out⟩, ⟨uB⟩⟩
    rw [if_neg c8] at H
    have c8b0 : decide (x14_1 < (l1.length : Int)) = false := decide_eq_false c8
    clear c8
    replace H := uT H; obtain ⟨c16, H⟩ := H
    have c16b0 : decide (0 ≤ x14_1) = true := decide_eq_true c16
    clear c16
    replace H := uT H; obtain ⟨c17, H⟩ := H
    have c17b0 : decide (x14_1 < (l0.length : Int)) = true := decide_eq_true c17
    clear c17
    replace H := uT H; obtain ⟨c18, H⟩ := H
    have c18b0 : carry01 x6_1 = true := c18
    clear c18
    replace H := uT H; obtain ⟨c19, H⟩ := H
    have c19b0 : decide (x14_1 < (x5_1.length : Int)) = true := decide_eq_true c19
    clear c19
    obtain ⟨y144, hy144⟩ : ∃ y_ : List Int, y_ = (x5_1.set (x14_1 : Int).toNat (sub64_s (rd l0 x14_1) 0 x6_1)) := ⟨_, rfl⟩
    replace H : (nat_less.l0 k1 l0 l1 y144 (sub64_c (rd l0 x14_1) 0 x6_1) (l0.length : Int) (wrap64 (x14_1 + 1))) = some r := by first | (rw [hy144]; with_reducible exact H) | (have H2_ := (Option.bind_some _ _).symm.trans H; rw [hy144]; with_reducible exact H2_) | (have H2_ := (Option.bind_some _ _).symm.trans H; with_reducible exact H2_) | with_reducible exact H | (rw [hy144]; exact H) | exact H
    have Ny144 := Aside0.mk hy144; clear hy144
    have H' := Aside0.mk H
    clear H
    have p143 : 0 ≤ (x14_1 : Int) := uO
    have q143 : x14_1 < (l0.length : Int) := uO
    obtain ⟨ad143, e143, hx143_0⟩ := Kd.at_int HR0.out x14_1 p143 q143
    cases e143
    replace hx143_0 := (HB.out.cell (World.block_lt_of_cell? w _ hx143_0)).trans hx143_0
    replace p143 := eq_true p143
    replace q143 := eq_true q143
    have p20 : 0 ≤ (x14_1 : Int) := uO
    have q20 : (x14_1 : Int) < ((x5_1.length : Int) : Int) := uO
    obtain ⟨go20, co20, eo20, gb20, gl20, cl20, HG20⟩ := Kd.R_form HO_5.out (by omega)
    (first | cases eo20 | (injection eo20 with ea_ en_ ec_; (first | subst ea_ | (injection ea_ with ea_; subst ea_)); subst ec_; clear en_))
    have GB20 := Aside0.mk gb20; have GG20 := Aside0.mk HG20; clear gb20 gl20 HG20
    obtain ⟨hx20_0, hf20_0⟩ := Kd.R_celln 0 HO_5.out (x14_1 : Int) p20 q20
    replace p20 := eq_true p20
    replace q20 := eq_true q20
    have HP21 := Kd.R_putg HO_5.out (x14_1 : Int) (sub64_s (rd l0 x14_1) 0 x6_1)
    go_wp2_with (first | ((with_reducible refine gate_store (t := 50) (p := 37) rfl ?_); refine store_event (t := 50) (p := 37) (v := ?vo_w22) (w1 := (wr.setCell ⟨go20, (x14_1 : Int).toNat, none⟩ (.int .u64 (sub64_s (rd l0 x14_1) 0 x6_1)))) ?hg ?ho ?hn ?hr ?_; (case ho => rfl); (case hg => rfl); (case hn => rfl); (case hr => first | (go_simp; done) | (go_simp; rfl) | (obtain ⟨hy_, hz_⟩ := Kd.R_celln 0 HO_5.out (x14_1 : Int) uO uO; (try simp only [Go.IntWalk.toNatUp] at hy_ hz_); (try simp only [Int.reduceToNat, Int.toNat_zero, Int.toNat_ofNat] at hy_ hz_); first | (go_simp; done) | (go_simp; rfl))); intro w22 hw; have hg : wr.grownBy w22 (some go20) := (by rw [hw]; exact HP21.2); have hp_ : Kd.R (Kd.int .u64) 50 w22 w.heap.size (fun _ => True) (.slice (some ⟨go20, 0, none⟩) x5_1.length co20) y144 := (by rw [hw, Ny144.out]; exact HP21.1); clear HP21; replace HO_5 := Aside0.mk (hp_); replace HB := Aside0.mk ((by rw [hw]; exact below_set (HB.out) GB20.out : Below w.heap.size w w22)); clear hg hw hp_))
    go_roundg k1
    case measure => have := HK1.out; omega
    case rel => exact ⟨(y144), (sub64_c (rd l0 x14_1) 0 x6_1), (wrap64 (x14_1 + 1)), uG, uG, H', ⟨by have := HK1.out; omega⟩, ⟨uR HO_5.out⟩, ⟨uB⟩⟩
   rw [if_neg c7] at H
   have c7b0 : decide (x14_1 < (l0.length : Int)) = false := decide_eq_false c7
   clear c7
   obtain rfl := Option.some.inj H
   go_wp2
   go_ret
   exact ⟨_, uF, uR HO_5.out, uB⟩
end Go.Proofs.Ytlkinjhmgljapaa.F
end
section
namespace Go.Proofs.Ytlkinjhmgljapaa.F
open Go.RowKit Go.Proofs.YtlkinjhmgljapaaW.PrintWords Go.Proofs.YtlkinjhmgljapaaW.PrintLast Go.Proofs.YtlkinjhmgljapaaW.PrintMore
attribute [local go_sem] max2_int min2_int max_two min_two max_three min_three max_four min_four
set_option linter.unusedVariables false
set_option linter.unusedSimpArgs false
def nat_Sub.f (k : Nat) (l0 : List Int) (l1 : List Int) : Option (List Int × Int) := (nat_right.f (([l0, l1] : List (List Int)))).bind fun t290 => (if t290 = true then ((nat_compare.f k l0 l1).bind fun t291 => (if t291 < 0 then (some (([] : List Int), 2)) else ((nat_less.f k l0 l1).bind fun t292 => ((nat_told.f k t292).bind fun bt295 => (some (bt295.1, bt295.2)))))) else (some (([] : List Int), 1)))
set_option maxHeartbeats 8000000 in
set_option maxRecDepth 100000 in
theorem nat_Sub.calls (k : Nat) (P0_ : Nat → Prop) (A0 : Option Addr) (c0 : Nat) (l0 : List Int) (P1_ : Nat → Prop) (A1 : Option Addr) (c1 : Nat) (l1 : List Int) (r1 : List Int) (r2 : Int) (w : World) (hs0 : Kd.V (Kd.int .u64) 50 w w.heap.size (fun k_ => P0_ k_) (.slice A0 l0.length c0) l0) (hs1 : Kd.V (Kd.int .u64) 50 w w.heap.size (fun k_ => P1_ k_) (.slice A1 l1.length c1) l1) (h : nat_Sub.f k l0 l1 = some (r1, r2)) :
  Calls Try.prog 78 #[.slice A0 l0.length c0, .slice A1 l1.length c1] w fun e w' => ∃ v0_ : Value, e = .returned (.tuple #[v0_, .int .i64 r2]) ∧ Kd.R (Kd.int .u64) 50 w' w.heap.size (fun k_ => (w.heap.size ≤ k_)) v0_ r1 ∧ Below w.heap.size w w' := by
 have HO0 := Aside0.mk (show Kd.V (Kd.int .u64) 50 w w.heap.size (fun k_ => ((P0_ k_ ∨ P1_ k_) ∨ w.heap.size ≤ k_)) (.slice A0 l0.length c0) l0 from Kd.V_mono hs0 (fun k_ hk => .inl (.inl hk)))
 have HO1 := Aside0.mk (show Kd.V (Kd.int .u64) 50 w w.heap.size (fun k_ => ((P0_ k_ ∨ P1_ k_) ∨ w.heap.size ≤ k_)) (.slice A1 l1.length c1) l1 from Kd.V_mono hs1 (fun k_ hk => .inl (.inr hk)))
 have HB := Aside0.mk (Below.refl w.heap.size w)
 have H : ((nat_right.f (([l0, l1] : List (List Int)))).bind fun t290 => (if t290 = true then ((nat_compare.f k l0 l1).bind fun t291 => (if t291 < 0 then (some (([] : List Int), 2)) else ((nat_less.f k l0 l1).bind fun t292 => ((nat_told.f k t292).bind fun bt295 => (some (bt295.1, bt295.2)))))) else (some (([] : List Int), 1)))) = some (r1, r2) := h
 clear h
 obtain ⟨y287, hy287⟩ : ∃ y_ : List (List Int), y_ = (([l0, l1] : List (List Int))) := ⟨_, rfl⟩
 replace H : ((nat_right.f y287).bind fun t290 => (if t290 = true then ((nat_compare.f k l0 l1).bind fun t291 => (if t291 < 0 then (some (([] : List Int), 2)) else ((nat_less.f k l0 l1).bind fun t292 => ((nat_told.f k t292).bind fun bt295 => (some (bt295.1, bt295.2)))))) else (some (([] : List Int), 1)))) = some (r1, r2) := by first | (rw [hy287]; with_reducible exact H) | (have H2_ := (Option.bind_some _ _).symm.trans H; rw [hy287]; with_reducible exact H2_) | (have H2_ := (Option.bind_some _ _).symm.trans H; with_reducible exact H2_) | with_reducible exact H | (rw [hy287]; exact H) | exact H
 have Ny287 := Aside0.mk hy287; clear hy287
 replace H := ub H; obtain ⟨t290, A3, H⟩ := H
 by_cases c4 : t290 = true
 ·
  subst c4
  have H1 : ((nat_compare.f k l0 l1).bind fun t291 => (if t291 < 0 then (some (([] : List Int), 2)) else ((nat_less.f k l0 l1).bind fun t292 => ((nat_told.f k t292).bind fun bt295 => (some (bt295.1, bt295.2)))))) = some (r1, r2) := by rw [if_pos rfl] at H; exact H
  clear H; have H := H1; clear H1
  replace H := ub H; obtain ⟨t291, A5, H⟩ := H
  by_cases c6 : t291 < 0
  ·
   rw [if_pos c6] at H
   have c6b0 : decide (t291 < 0) = true := decide_eq_true c6
   clear c6
   simp only [Option.some.injEq, Prod.mk.injEq] at H
   obtain ⟨rfl, rfl⟩ := H
   go_enter Try.func78, Try.ntmps78
   go_wp2_with (first | ((with_reducible refine gate_dst (N := 9) rfl ?_); refine Kd.N_lit (Kd.slice 50 (Kd.int .u64)) _ 23 ?hg (N' := 9) ?hd (xs := ([l0, l1] : List (List Int))) (inner := [.slice A0 l0.length c0, .slice A1 l1.length c1]) (ok := (fun k_ => ((P0_ k_ ∨ P1_ k_) ∨ w.heap.size ≤ k_))) (okp := (fun k_ => ((P0_ k_ ∨ P1_ k_) ∨ w.heap.size ≤ k_))) ?hr ?hp (fun _ hk => hk) ((show ∀ k_, w.heap.size ≤ k_ → (fun k_ => ((P0_ k_ ∨ P1_ k_) ∨ w.heap.size ≤ k_)) k_ from fun k_ hk => (.inr (Nat.le_trans (below_size uB) hk))) _ (Nat.le_refl _)) (Below.refl _ _) (Nat.le_refl _) (by simp) ?_; (case hd => rfl); (case hg => rfl); (case hr => first | (go_simp; done) | (go_simp; rfl) | (go_simp; simp only [u64_u8]; done) | (go_simp; simp only [u64_u8]; rfl)); (case hp => exact (Reps.one (show Kd.FK (Kd.slice 50 (Kd.int .u64)) _ _ l0 [.slice A0 l0.length c0] from (Kd.FK_slice_mk (Kd.V_reads' (Kd.V_mono (ok' := (fun k_ => ((P0_ k_ ∨ P1_ k_) ∨ w.heap.size ≤ k_))) (HO0.out) (fun k_ hk => hk))).2.1 (Kd.V_F (Kd.V_mono (ok' := (fun k_ => ((P0_ k_ ∨ P1_ k_) ∨ w.heap.size ≤ k_))) (HO0.out) (fun k_ hk => hk))))) (Reps.one (show Kd.FK (Kd.slice 50 (Kd.int .u64)) _ _ l1 [.slice A1 l1.length c1] from (Kd.FK_slice_mk (Kd.V_reads' (Kd.V_mono (ok' := (fun k_ => ((P0_ k_ ∨ P1_ k_) ∨ w.heap.size ≤ k_))) (HO1.out) (fun k_ hk => hk))).2.1 (Kd.V_F (Kd.V_mono (ok' := (fun k_ => ((P0_ k_ ∨ P1_ k_) ∨ w.heap.size ≤ k_))) (HO1.out) (fun k_ hk => hk))))) (Reps.none _ _)))); intro v288 w7 ho8 hb hg_ hnew_; clear hg_ hnew_; (first | rw [← Ny287.out] at ho8 | (simp only [Int.reduceToNat] at ho8; rw [← Ny287.out] at ho8)); replace HO0 := Aside0.mk (Kd.V_elder' (uV HO0.out) (Kd.N_base ho8) hb); replace HO1 := Aside0.mk (Kd.V_elder' (uV HO1.out) (Kd.N_base ho8) hb); have HO289 := Aside0.mk (Kd.N_lower ho8 (below_size uB)); replace HB := uy hb; clear hb ho8; obtain ⟨Ao9, co9, eo9⟩ := Kd.N_slice HO289.out; subst eo9) | ((with_reducible refine gate_callee (f := 104) rfl ?_); refine goesL_ (some 10) rfl rfl Try.func104 (by kernel_rfl) rfl #[.slice Ao9 y287.length co9] rfl uM ?_; (with_reducible refine (nat_right.calls _ _ y287 true _ ?side1 ?side2 A3.out).mono ?_); (case side1 => exact uC (Kd.N_reads' HO289.out).2.2); (case side2 => exact (Kd.N_reads' HO289.out).2.1); rintro e w' ⟨rfl, ⟨nd, rfl⟩⟩; refine ⟨_, rfl, ?_⟩) | ((with_reducible refine gate_callee (f := 105) rfl ?_); refine goesL_ (some 15) rfl rfl Try.func105 (by kernel_rfl) rfl #[.slice A0 l0.length c0, .slice A1 l1.length c1] rfl uM ?_; (with_reducible refine (nat_compare.calls k _ _ l0 _ _ l1 t291 _ ?side1 ?side2 ?side3 ?side4 A5.out).mono ?_); (case side1 => exact uC (Kd.V_reads' HO0.out).2.2); (case side2 => exact (Kd.V_reads' HO0.out).2.1); (case side3 => exact uC (Kd.V_reads' HO1.out).2.2); (case side4 => exact (Kd.V_reads' HO1.out).2.1); rintro e w' ⟨rfl, ⟨nd, rfl⟩⟩; refine ⟨_, rfl, ?_⟩))
   go_ret2
   exact ⟨_, by first | rfl | (simp [errW_none, errW_some] <;> rfl) | (simp [*, errW_none, errW_some] <;> rfl), by first | exact Kd.R_nil _ _ _ _ _ | exact Kd.N_nil _ _ _ _ _ | exact Kd.V_nil _ _ _ _ _ | exact Kd.Q_nil _ _ _ _ _ | exact Kd.S_nil _ _ _ _ _, uB⟩
  rw [if_neg c6] at H
  have c6b0 : decide (t291 < 0) = false := decide_eq_false c6
  clear c6
  replace H := ub H; obtain ⟨t292, A10, H⟩ := H
  replace H := ub H; obtain ⟨⟨t295, t298⟩, A11, H⟩ := H
  (try dsimp only at H)
  simp only [Option.some.injEq, Prod.mk.injEq] at H
  obtain ⟨rfl, rfl⟩ := H
  go_enter Try.func78, Try.ntmps78
  go_wp2_with (first | ((with_reducible refine gate_dst (N := 9) rfl ?_); refine Kd.N_lit (Kd.slice 50 (Kd.int .u64)) _ 23 ?hg (N' := 9) ?hd (xs := ([l0, l1] : List (List Int))) (inner := [.slice A0 l0.length c0, .slice A1 l1.length c1]) (ok := (fun k_ => ((P0_ k_ ∨ P1_ k_) ∨ w.heap.size ≤ k_))) (okp := (fun k_ => ((P0_ k_ ∨ P1_ k_) ∨ w.heap.size ≤ k_))) ?hr ?hp (fun _ hk => hk) ((show ∀ k_, w.heap.size ≤ k_ → (fun k_ => ((P0_ k_ ∨ P1_ k_) ∨ w.heap.size ≤ k_)) k_ from fun k_ hk => (.inr (Nat.le_trans (below_size uB) hk))) _ (Nat.le_refl _)) (Below.refl _ _) (Nat.le_refl _) (by simp) ?_; (case hd => rfl); (case hg => rfl); (case hr => first | (go_simp; done) | (go_simp; rfl) | (go_simp; simp only [u64_u8]; done) | (go_simp; simp only [u64_u8]; rfl)); (case hp => exact (Reps.one (show Kd.FK (Kd.slice 50 (Kd.int .u64)) _ _ l0 [.slice A0 l0.length c0] from (Kd.FK_slice_mk (Kd.V_reads' (Kd.V_mono (ok' := (fun k_ => ((P0_ k_ ∨ P1_ k_) ∨ w.heap.size ≤ k_))) (HO0.out) (fun k_ hk => hk))).2.1 (Kd.V_F (Kd.V_mono (ok' := (fun k_ => ((P0_ k_ ∨ P1_ k_) ∨ w.heap.size ≤ k_))) (HO0.out) (fun k_ hk => hk))))) (Reps.one (show Kd.FK (Kd.slice 50 (Kd.int .u64)) _ _ l1 [.slice A1 l1.length c1] from (Kd.FK_slice_mk (Kd.V_reads' (Kd.V_mono (ok' := (fun k_ => ((P0_ k_ ∨ P1_ k_) ∨ w.heap.size ≤ k_))) (HO1.out) (fun k_ hk => hk))).2.1 (Kd.V_F (Kd.V_mono (ok' := (fun k_ => ((P0_ k_ ∨ P1_ k_) ∨ w.heap.size ≤ k_))) (HO1.out) (fun k_ hk => hk))))) (Reps.none _ _)))); intro v288 w12 ho13 hb hg_ hnew_; clear hg_ hnew_; (first | rw [← Ny287.out] at ho13 | (simp only [Int.reduceToNat] at ho13; rw [← Ny287.out] at ho13)); replace HO0 := Aside0.mk (Kd.V_elder' (uV HO0.out) (Kd.N_base ho13) hb); replace HO1 := Aside0.mk (Kd.V_elder' (uV HO1.out) (Kd.N_base ho13) hb); have HO289 := Aside0.mk (Kd.N_lower ho13 (below_size uB)); replace HB := uy hb; clear hb ho13; obtain ⟨Ao14, co14, eo14⟩ := Kd.N_slice HO289.out; subst eo14) | ((with_reducible refine gate_callee (f := 104) rfl ?_); refine goesL_ (some 10) rfl rfl Try.func104 (by kernel_rfl) rfl #[.slice Ao14 y287.length co14] rfl uM ?_; (with_reducible refine (nat_right.calls _ _ y287 true _ ?side1 ?side2 A3.out).mono ?_); (case side1 => exact uC (Kd.N_reads' HO289.out).2.2); (case side2 => exact (Kd.N_reads' HO289.out).2.1); rintro e w' ⟨rfl, ⟨nd, rfl⟩⟩; refine ⟨_, rfl, ?_⟩) | ((with_reducible refine gate_callee (f := 105) rfl ?_); refine goesL_ (some 15) rfl rfl Try.func105 (by kernel_rfl) rfl #[.slice A0 l0.length c0, .slice A1 l1.length c1] rfl uM ?_; (with_reducible refine (nat_compare.calls k _ _ l0 _ _ l1 t291 _ ?side1 ?side2 ?side3 ?side4 A5.out).mono ?_); (case side1 => exact uC (Kd.V_reads' HO0.out).2.2); (case side2 => exact (Kd.V_reads' HO0.out).2.1); (case side3 => exact uC (Kd.V_reads' HO1.out).2.2); (case side4 => exact (Kd.V_reads' HO1.out).2.1); rintro e w' ⟨rfl, ⟨nd, rfl⟩⟩; refine ⟨_, rfl, ?_⟩) | ((with_reducible refine gate_callee (f := 111) rfl ?_); refine goesL_ (some 19) rfl rfl Try.func111 (by kernel_rfl) rfl #[.slice A0 l0.length c0, .slice A1 l1.length c1] rfl uM ?_; (with_reducible refine (nat_less.calls k _ _ l0 _ _ l1 t292 _ ?side1 ?side2 ?side3 ?side4 A10.out).mono ?_); (case side1 => exact uC (Kd.V_reads' HO0.out).2.2); (case side2 => exact (Kd.V_reads' HO0.out).2.1); (case side3 => exact uC (Kd.V_reads' HO1.out).2.2); (case side4 => exact (Kd.V_reads' HO1.out).2.1); rintro e w15 ⟨v293, rfl, ho0, hb⟩; refine ⟨_, rfl, ?_⟩; replace HO0 := ueV HO0 ho0 hb; replace HO1 := ueV HO1 ho0 hb; replace HO289 := ueN HO289 ho0 hb; have HO294 := Aside0.mk (Kd.R_lower (Kd.R_newM (M := fun k_ => (w.heap.size ≤ k_)) ho0 (below_size uB) (fun k_ h_ => h_)) (below_size uB)); replace HB := uy hb; (try clear hb ho0); obtain ⟨Ao16, co16, eo16⟩ := Kd.R_slice HO294.out; subst eo16) | ((with_reducible refine gate_callee (f := 110) rfl ?_); refine goesL_ (some 20) rfl rfl Try.func110 (by kernel_rfl) rfl #[.slice Ao16 t292.length co16] rfl uM ?_; (with_reducible refine (nat_told.calls k (fun k_ => some k_ = (.slice Ao16 t292.length co16 : Value).ownBlock) (.slice Ao16 t292.length co16) t292 t295 t298 w _ ?side1 ?side2 A11.out).mono ?_); (case side1 => repeat (first | (with_reducible first | exact HB.out | apply below_alloc | apply pw_below_drewN | apply below_drew1) | exact HB.out)); (case side2 => exact Kd.R_tight rfl HO294.out); rintro e w17 ⟨v296, rfl, ho0, hb, hkp⟩; refine ⟨_, rfl, ?_⟩; replace HO0 := Aside0.mk (Kd.V_mono (ok' := fun k_ => ((P0_ k_ ∨ P1_ k_) ∨ w.heap.size ≤ k_) ∧ some k_ ≠ (.slice Ao14 y287.length co14 : Value).ownBlock ∧ some k_ ≠ (v296 : Value).ownBlock) (Kd.V_keptB (HO0.out) hkp (fun k_ hk_ hs_ => (hk_.2) hs_)) (fun k_ hk_ => ⟨hk_.1.1.1, hk_.1.1.2, fun e_ => Or.elim (ho0.1 k_ e_.symm) (fun hs_ => hk_.2.1 hs_) (fun hn_ => Nat.not_le.2 hk_.2.2 hn_)⟩)); replace HO1 := Aside0.mk (Kd.V_mono (ok' := fun k_ => ((P0_ k_ ∨ P1_ k_) ∨ w.heap.size ≤ k_) ∧ some k_ ≠ (.slice Ao14 y287.length co14 : Value).ownBlock ∧ some k_ ≠ (v296 : Value).ownBlock) (Kd.V_keptB (HO1.out) hkp (fun k_ hk_ hs_ => (hk_.2) hs_)) (fun k_ hk_ => ⟨hk_.1.1.1, hk_.1.1.2, fun e_ => Or.elim (ho0.1 k_ e_.symm) (fun hs_ => hk_.2.1 hs_) (fun hn_ => Nat.not_le.2 hk_.2.2 hn_)⟩)); replace HO289 := Aside0.mk (Kd.N_mono (ok' := fun k_ => ((P0_ k_ ∨ P1_ k_) ∨ w.heap.size ≤ k_) ∧ some k_ ≠ (v296 : Value).ownBlock) (Kd.N_keptB (HO289.out) hkp (fun k_ hk_ hs_ => (hk_.2) hs_)) (fun k_ hk_ => ⟨hk_.1.1, fun e_ => Or.elim (ho0.1 k_ e_.symm) (fun hs_ => hk_.2.1 hs_) (fun hn_ => Nat.not_le.2 hk_.2.2 hn_)⟩)); have HO297 := Aside0.mk (Kd.R_mono (ok' := fun k_ => (w.heap.size ≤ k_)) ho0 (fun k_ hk_ => Or.elim hk_ (fun hs_ => (HO294.out.1 k_ (hs_).symm).1) (fun hn_ => (Nat.le_trans (below_size uB) hn_)))); replace HB := Aside0.mk (hb); clear HO294; (try clear hb); (try clear hkp); (try clear ho0)))
  go_ret2
  exact ⟨_, uF, uR HO297.out, uB⟩
 replace c4 := Bool.eq_false_iff.mpr c4
 subst c4
 have H1 : (some (([] : List Int), 1)) = some (r1, r2) := by rw [if_neg (show ¬ (false = true) by decide)] at H; exact H
 clear H; have H := H1; clear H1
 simp only [Option.some.injEq, Prod.mk.injEq] at H
 obtain ⟨rfl, rfl⟩ := H
 go_enter Try.func78, Try.ntmps78
 go_wp2_with (first | ((with_reducible refine gate_dst (N := 9) rfl ?_); refine Kd.N_lit (Kd.slice 50 (Kd.int .u64)) _ 23 ?hg (N' := 9) ?hd (xs := ([l0, l1] : List (List Int))) (inner := [.slice A0 l0.length c0, .slice A1 l1.length c1]) (ok := (fun k_ => ((P0_ k_ ∨ P1_ k_) ∨ w.heap.size ≤ k_))) (okp := (fun k_ => ((P0_ k_ ∨ P1_ k_) ∨ w.heap.size ≤ k_))) ?hr ?hp (fun _ hk => hk) ((show ∀ k_, w.heap.size ≤ k_ → (fun k_ => ((P0_ k_ ∨ P1_ k_) ∨ w.heap.size ≤ k_)) k_ from fun k_ hk => (.inr (Nat.le_trans (below_size uB) hk))) _ (Nat.le_refl _)) (Below.refl _ _) (Nat.le_refl _) (by simp) ?_; (case hd => rfl); (case hg => rfl); (case hr => first | (go_simp; done) | (go_simp; rfl) | (go_simp; simp only [u64_u8]; done) | (go_simp; simp only [u64_u8]; rfl)); (case hp => exact (Reps.one (show Kd.FK (Kd.slice 50 (Kd.int .u64)) _ _ l0 [.slice A0 l0.length c0] from (Kd.FK_slice_mk (Kd.V_reads' (Kd.V_mono (ok' := (fun k_ => ((P0_ k_ ∨ P1_ k_) ∨ w.heap.size ≤ k_))) (HO0.out) (fun k_ hk => hk))).2.1 (Kd.V_F (Kd.V_mono (ok' := (fun k_ => ((P0_ k_ ∨ P1_ k_) ∨ w.heap.size ≤ k_))) (HO0.out) (fun k_ hk => hk))))) (Reps.one (show Kd.FK (Kd.slice 50 (Kd.int .u64)) _ _ l1 [.slice A1 l1.length c1] from (Kd.FK_slice_mk (Kd.V_reads' (Kd.V_mono (ok' := (fun k_ => ((P0_ k_ ∨ P1_ k_) ∨ w.heap.size ≤ k_))) (HO1.out) (fun k_ hk => hk))).2.1 (Kd.V_F (Kd.V_mono (ok' := (fun k_ => ((P0_ k_ ∨ P1_ k_) ∨ w.heap.size ≤ k_))) (HO1.out) (fun k_ hk => hk))))) (Reps.none _ _)))); intro v288 w18 ho19 hb hg_ hnew_; clear hg_ hnew_; (first | rw [← Ny287.out] at ho19 | (simp only [Int.reduceToNat] at ho19; rw [← Ny287.out] at ho19)); replace HO0 := Aside0.mk (Kd.V_elder' (uV HO0.out) (Kd.N_base ho19) hb); replace HO1 := Aside0.mk (Kd.V_elder' (uV HO1.out) (Kd.N_base ho19) hb); have HO289 := Aside0.mk (Kd.N_lower ho19 (below_size uB)); replace HB := uy hb; clear hb ho19; obtain ⟨Ao20, co20, eo20⟩ := Kd.N_slice HO289.out; subst eo20) | ((with_reducible refine gate_callee (f := 104) rfl ?_); refine goesL_ (some 10) rfl rfl Try.func104 (by kernel_rfl) rfl #[.slice Ao20 y287.length co20] rfl uM ?_; (with_reducible refine (nat_right.calls _ _ y287 false _ ?side1 ?side2 A3.out).mono ?_); (case side1 => exact uC (Kd.N_reads' HO289.out).2.2); (case side2 => exact (Kd.N_reads' HO289.out).2.1); rintro e w' ⟨rfl, ⟨nd, rfl⟩⟩; refine ⟨_, rfl, ?_⟩))
 go_ret2
 exact ⟨_, by first | rfl | (simp [errW_none, errW_some] <;> rfl) | (simp [*, errW_none, errW_some] <;> rfl), by first | exact Kd.R_nil _ _ _ _ _ | exact Kd.N_nil _ _ _ _ _ | exact Kd.V_nil _ _ _ _ _ | exact Kd.Q_nil _ _ _ _ _ | exact Kd.S_nil _ _ _ _ _, uB⟩
end Go.Proofs.Ytlkinjhmgljapaa.F
end
section
namespace Go.Proofs.Ytlkinjhmgljapaa.F
open Go.RowKit Go.Proofs.YtlkinjhmgljapaaW.PrintWords Go.Proofs.YtlkinjhmgljapaaW.PrintLast Go.Proofs.YtlkinjhmgljapaaW.PrintMore
set_option linter.unusedVariables false
set_option linter.unusedSimpArgs false
theorem R_copyto {P : Program} {ops : Array Oper} {rest : List Oper} {o : Oper} {a : Act} {Q : Exit → Act → World → Prop} {α : Type} {enc : α → Value} {h1 : ∀ x, (enc x).oneCell' = true} (d : α) {w0 W : World} (base : Nat) (hgd : o.guard = none) (s x : Operand) (t t' e : TypeId)
    (ho : o.op = .call { callee := .builtin .copy, args := #[s, x], argTypes := #[t, t'] }) (ht : P.underlying t = some (.slice e)) (hinfo : (P.info? e).map (·.size) = some 1)
    {n c k m c1 m2 c2 : Nat} {A0 A A2 : Option Addr} {xs ys : List α} {ok : Nat → Prop}
    (hs : a.eval s = .slice A m c1) (hx : a.eval x = .slice A2 m2 c2) (hA : A = if c = k then A0 else A0.map (·.add (k * 1)))
    (HR : (Kd.scalar enc h1).C W A2 m2 ys) (hmm : m2 ≤ m) (HO : (Kd.scalar enc h1).R e W base ok (.slice A0 n c) xs) (hk : k + m ≤ n) (HB : Below base w0 W) (hbase : base ≤ W.heap.size)
    (h : ∀ w1, (Kd.scalar enc h1).R e w1 base ok (.slice A0 n c) (xs.take k ++ (ys ++ xs.drop (k + m2))) → Below base w0 w1 → W.grownBy w1 (Value.slice A0 n c).ownBlock → wpList P ops Q rest (a.put o.dst (.int .i64 (m2 : Int))) w1) :
    wpList P ops Q (o :: rest) a W := by
  have hR := Kd.reads_of_C (enc := enc) (d := d) (h1 := h1) HR
  have hm : ys.length = m2 := hR.1
  have hown := Kd.own_of_R HO
  have hlen : xs.length = n := (Kd.R_reads' HO).1.symm
  have fin : ∀ w1, (Builtin.copy_ #[t, t'] o.type #[.slice A m c1, .slice A2 m2 c2]).run P W = .ok (goInt (m2 : Int)) w1 → (Kd.scalar enc h1).R e w1 base ok (.slice A0 n c) (xs.take k ++ (ys ++ xs.drop (k + m2))) → W.grownBy w1 (Value.slice A0 n c).ownBlock → wpList P ops Q (o :: rest) a W := by
    intro w1 hr hrow hg
    refine wpList_plain hgd fun K hK => ?_
    unfold Oper.wp execOp
    simp only [ho, resolve, invoke, builtin, Sem.run_bind, Sem.run_pure, Result.andThen_ok, List.map_toArray, List.map_cons, List.map_nil, hs, hx, hr]
    exact hK _ _ (h w1 hrow (HB.grown hg hbase (fun k hk => Kd.R_base HO k hk)) hg)
  rcases Nat.eq_zero_or_pos m2 with h0 | hp
  · refine fin W ?_ ?_ (World.grownBy.refl W _)
    · rw [show (m2 : Int) = 0 by omega]
      exact run_copy_none W t t' o.type e A A2 m c1 m2 c2 ht hinfo (by rw [h0]; exact Nat.zero_min _)
    · have : ys = [] := List.eq_nil_of_length_eq_zero (by omega)
      rw [this, h0, List.nil_append, Nat.add_zero, List.take_append_drop]
      exact HO
  · obtain ⟨ad, hA2, hc⟩ := hR.2.2 (by omega)
    rcases hown.2 with ⟨_, hx0⟩ | ⟨g', cap, cur, hv, hb, hh, hnc, hcm, hcs, htake⟩
    · omega
    obtain ⟨rfl, rfl, rfl⟩ : A0 = some ⟨g', 0, none⟩ ∧ xs.length = n ∧ cap = c := by
      injection hv with h1 h2 h3
      exact ⟨h1, h2.symm, h3.symm⟩
    have hAk : A = some ⟨g', k, none⟩ := by
      rw [hA]
      have : ¬ cap = k := by omega
      rw [if_neg this]
      simp [Addr.add]
      omega
    have hcs1 : cur.size = cap := by omega
    have hkl : (encs enc ys).length = m2 := by rw [encs_length]; omega
    have hsrc : ∀ j u, (encs enc ys)[j]? = some u → W.cell? (ad.add j) = some u := by
      intro j u hu
      have hj : j < ys.length := by
        rcases Nat.lt_or_ge j ys.length with h | h
        · exact h
        · rw [List.getElem?_eq_none (by rw [encs_length]; exact h)] at hu
          cases hu
      rw [encs_get (d := d) _ j hj] at hu
      rw [hc j (by omega), ← hu]
    have hr := run_copy_cells (P := P) W t t' o.type e g' k m c1 ad m2 c2 (encs enc ys) ht hinfo (by rw [hkl]; exact (Nat.min_eq_left hmm).symm) hsrc
      (fun j hj => by rw [cell_of_row W g' _ cur e (0, 0) hh]; simp; omega) (fun j _ => blk_frozen hh _) (by intro u hu; simp only [encs, List.mem_map] at hu; obtain ⟨q, _, rfl⟩ := hu; exact h1 q)
    obtain ⟨cur', h3, h4, h5⟩ := setCells_row (encs enc ys) k W cur hh (by rw [hkl]; omega)
    obtain ⟨s1, s2, s3, s4⟩ := setCells_same g' (encs enc ys) k W
    refine fin _ (by rw [hAk, hA2, hr, hkl]) (Kd.R_of_own ?_ HO.1) ⟨s1, s2, s3, by rw [s4]; exact Nat.le_refl _, fun k' _ hk' => setCells_far _ _ k' (fun he => hk' (by rw [he]; simp [Value.ownBlock]))⟩
    have hln : (xs.take k ++ (ys ++ xs.drop (k + m2))).length = xs.length := by
      simp only [List.length_append, List.length_take, List.length_drop]
      omega
    have htk : cur.toList.take xs.length = encs enc xs := by rw [← htake, Nat.mul_one]
    have htk2 : cur.toList.take k = encs enc (xs.take k) := by
      have : encs enc (xs.take k) = (encs enc xs).take k := by simp [encs, List.map_take]
      rw [this, ← htk, List.take_take, Nat.min_eq_left (by omega)]
    have hd : encs enc (xs.drop (k + m2)) = (encs enc xs).drop (k + m2) := by simp [encs, List.map_drop]
    refine ⟨by rw [encs_length, hln, Nat.mul_one], .inr ⟨g', cap, cur', by rw [hln], hb, h3, by rw [hln]; exact hnc, hcm, by rw [h4, hcs], ?_⟩⟩
    rw [hln, h5, hkl, Nat.mul_one, encs_append, encs_append, htk2, hd, ← htk, List.drop_take]
    have hl1 : (encs enc (xs.take k)).length = k := by rw [encs_length, List.length_take]; omega
    have key : ∀ X Y Z : List Value, X.length = k → Y.length = m2 → (X ++ Y ++ Z).take xs.length = X ++ (Y ++ Z.take (xs.length - (k + m2))) := by
      intro X Y Z hX hY
      rw [List.append_assoc, List.take_append, List.take_append, List.take_of_length_le (l := X) (by omega), List.take_of_length_le (l := Y) (by omega), hX, hY, Nat.sub_sub]
    exact key _ _ _ hl1 hkl
theorem Rd.kept {w W W' : World} {A : Option Addr} {c : Nat} {l : List Int} {S : Nat → Prop} (h : Rd w A c l) (hB : Below w.heap.size w W) (hk : Kept W W' S) (hS : ∀ k, S k → w.heap.size ≤ k) : Kd.C (Kd.int .u64) W' A l.length l :=
  Kd.F_now (Kd.F_kept (Kd.F_kept (Kd.C_F (Kd.heap_int _) h.1) (Kept.of_below hB (fun _ => False)) (fun _ _ h => h)) hk (fun k hk2 hs => by have := hS k hs; have : k < w.heap.size := hk2; omega))
theorem shift_eq (t : List Int) (m : Nat) (h : t.length = m + 2) : (t.take 0 ++ (t.drop 1 ++ t.drop (0 + (m + 1)))).set (m + 1) 0 = t.drop 1 ++ [0] := by
  have h1 : (t.drop 1).length = m + 1 := by rw [List.length_drop]; omega
  have h2 : (t.drop (0 + (m + 1))).length = 1 := by rw [List.length_drop]; omega
  obtain ⟨z, hz⟩ := List.length_eq_one_iff.1 h2
  rw [hz, List.take_zero, List.nil_append, List.set_append, if_neg (by omega), h1, Nat.sub_self]
  rfl
theorem cut_one {e gt m ct base : Nat} {ok : Nat → Prop} {w : World} {t : List Int} (h : Kd.R (Kd.int .u64) e w base ok (.slice (some ⟨gt, 0, none⟩) (m + 2) ct) t) (hne : ¬ ct = 1) : Kd.C (Kd.int .u64) w (some ⟨gt, 1, none⟩) (m + 1) (t.drop 1) := by
  obtain ⟨h1, h2, h3⟩ := Kd.R_reads' h
  have h := Kd.C_drop (m := 1) h3 (by omega) (c := ct) (by omega)
  rw [if_neg hne, List.length_drop] at h
  rw [show m + 1 = t.length - 1 from by omega]
  exact h
def mont_product.l (k : Nat) (n x y : List Int) (minus : Int) : Nat → Nat → List Int → Option (List Int)
  | 0, _, t => some t
  | m + 1, i, t => (mont_add.f k t y (x.getD i 0)).bind fun t1 => (mont_add.f k t1 n (IntKind.u64.wrap (t1.getD 0 0 * minus))).bind fun t2 => mont_product.l k n x y minus m (i + 1) (t2.drop 1 ++ [0])
def mont_product.f (k : Nat) (n x y : List Int) (minus : Int) : Option (List Int) :=
  (mont_product.l k n x y minus n.length 0 (List.replicate (n.length + 2) 0)).bind fun t => (mont_trim.f k t).bind fun o => (nat_Cmp.f k o n).bind fun c => if c ≥ 0 then (nat_Sub.f k o n).bind fun s => some s.1 else some o
set_option maxHeartbeats 8000000 in
set_option maxRecDepth 100000 in
theorem mont_product.own (k : Nat) (g : Nat) (n one next x y : List Int) (minus : Int) (Ax : Option Addr) (cx : Nat) (Ay : Option Addr) (cy : Nat) (r : List Int) (w : World) (hR : RingAt w g n one next minus) (hx : Rd w Ax cx x) (hy : Rd w Ay cy y) (hn : n.length ≤ 1000) (h : mont_product.f k n x y minus = some r) :
    Calls Try.prog 37 #[.pointer (some ⟨g, 0, none⟩), .slice Ax x.length cx, .slice Ay y.length cy] w fun e w' => ∃ A c, e = .returned (.slice A r.length c) ∧ Kd.R (Kd.int .u64) 50 w' w.heap.size (fun _ => True) (.slice A r.length c) r ∧ Below w.heap.size w w' := by
  obtain ⟨An, cn, Ao, co, Aq, cq, h1, h2, h3, h4⟩ := hR
  unfold mont_product.f at h
  obtain ⟨T, hT, h⟩ := Option.bind_eq_some_iff.mp h
  obtain ⟨o, ho, h⟩ := Option.bind_eq_some_iff.mp h
  obtain ⟨c, hc, h⟩ := Option.bind_eq_some_iff.mp h
  have hcg : w.cell? ⟨g, 0, none⟩ = some (.slice An n.length cn) := (blk_cell h1 0).trans rfl
  have hK2 : ((n.length : Int) + 2).toNat = n.length + 2 := by omega
  have H1 := Aside0.mk h1
  have H2 := Aside0.mk h2
  have HX := Aside0.mk hx
  have HY := Aside0.mk hy
  have HT := Aside0.mk hT
  have HO := Aside0.mk ho
  have HC := Aside0.mk hc
  have HH := Aside0.mk h
  have HB := Aside0.mk (Below.refl w.heap.size w)
  clear h1 h2 h3 h4 hx hy hT ho hc h
  go_enter Try.func37, Try.ntmps37
  go_wp2_with (first | ((with_reducible refine gate_dst (N := 19) rfl ?_); refine Kd.R_make (Kd.int .u64) _ 50 rfl (N := 19) rfl 22 _ _ rfl ((n.length : Int) + 2) rfl rfl Try.underlying22 (.int .u64 0) 8 info50 rfl (by decide) (by omega) 0 (ok := fun _ => True) (okp := fun _ => True) rfl (fun _ hk => hk) trivial (by omega) (by omega) (Below.refl _ _) (Nat.le_refl _) ?_; intro v0 w1 ho1 hb hg_ hnew_; clear hg_ hnew_; rw [hK2] at ho1; have HB1 := Aside0.mk (below_step (by repeat (first | exact Below.refl _ _ | apply pw_below_drewN)) hb); obtain ⟨gt, ct, ev, hgt, hgl, _⟩ := Kd.R_form ho1 (by simp); rw [List.length_replicate] at ev; subst ev; have HO1 := Aside0.mk (Kd.R_lower (base' := w.heap.size) ho1 (by first | exact Nat.le_refl _ | simp)); have HGT := Aside0.mk hgt; clear HB hb ho1 hgt hgl))
  go_loopg [21] n.length (fun gg v21 wr => ∃ (i : Nat) (t : List Int), v21 = .int .i64 i ∧ i ≤ n.length ∧ n.length - i ≤ gg ∧ Aside0 (mont_product.l k n x y minus (n.length - i) i t = some T) ∧ Aside0 (Kd.R (Kd.int .u64) 50 wr w.heap.size (fun _ => True) (.slice (some ⟨gt, 0, none⟩) (n.length + 2) ct) t) ∧ Aside0 (Below w.heap.size w wr))
  case atStart => exact ⟨0, List.replicate (n.length + 2) 0, rfl, Nat.zero_le _, by omega, HT, HO1, HB1⟩
  case round =>
    clear HO1 HB1
    obtain ⟨i, t, rfl, hi, hgg, HL, HO1, HB1⟩ := hrel
    by_cases hlt : i < n.length
    · have hltz : (i : Int) < (n.length : Int) := by omega
      have hL := HL.out
      rw [show n.length - i = (n.length - (i + 1)) + 1 from by omega] at hL
      obtain ⟨t1, ht1, hL⟩ := Option.bind_eq_some_iff.mp hL
      obtain ⟨t2, ht2, hL⟩ := Option.bind_eq_some_iff.mp hL
      have HL2 := Aside0.mk hL
      have hcg : wr.cell? ⟨g, 0, none⟩ = some (.slice An n.length cn) := (blk_cell (blk_below H1.out HB1.out) 0).trans rfl
      obtain ⟨a, ha⟩ : ∃ a : Int, a = x.getD i 0 := ⟨_, rfl⟩
      rw [← ha] at ht1
      have K1 := Aside0.mk ht1
      have K2 := Aside0.mk ht2
      clear HL hL ht1 ht2
      by_cases hxi : i < x.length
      · have hxz : (i : Int) < (x.length : Int) := by omega
        have h0k : (0 : Int) ≤ (i : Int) := Int.natCast_nonneg i
        obtain ⟨ad, hA, hcell⟩ := Kd.at_int (HX.out.below HB1.out).1 (i : Int) h0k hxz
        subst hA
        simp only [Go.IntWalk.toNatUp] at hcell
        rw [show rd x (i : Int) = a from ha.symm] at hcell
        clear ha
        go_wp2_with (go_at_call 76; refine (mont_add.calls k (fun k_ => some k_ = (Value.slice (some ⟨gt, 0, none⟩) (n.length + 2) ct).ownBlock) _ t Ay cy y _ t1 w _ ?sB ?sR ?sK HY.out.2 K1.out).mono ?_; (case sB => repeat (first | exact HB1.out | apply pw_below_drewN)); (case sR => exact Kd.R_tight rfl (uR HO1.out)); (case sK => intro W_ hk; exact Rd.kept HY.out (by repeat (first | exact HB1.out | apply pw_below_drewN)) hk (fun k hk => by have hg := HGT.out; simp [Value.ownBlock] at hk; omega)); rintro e w2 ⟨rfl, hR, hb, hkp⟩; have HO2 := Aside0.mk (Kd.R_mono hR (ok' := fun _ => True) (fun _ _ => trivial)); have HB2 := Aside0.mk hb; clear hR hb hkp HO1 HB1)
        have hc0 : w2.cell? ⟨g, 0, none⟩ = some (.slice An n.length cn) := (blk_cell (blk_below H1.out HB2.out) 0).trans rfl
        have hc1 : w2.cell? ⟨g, 1, none⟩ = some (.int .u64 minus) := (blk_cell (blk_below H1.out HB2.out) 1).trans rfl
        obtain ⟨b, hb⟩ : ∃ b : Int, b = t1.getD 0 0 := ⟨_, rfl⟩
        have hct : w2.cell? ⟨gt, 0, none⟩ = some (.int .u64 b) := by
          have := (Kd.R_celln 0 HO2.out 0 (by omega) (by omega)).1
          rw [hb]
          exact this
        have K3 := Aside0.mk (show mont_add.f k t1 n (IntKind.u64.wrap (b * minus)) = some t2 from by rw [hb]; exact K2.out)
        clear K2 hb
        have HNE := Aside0.mk (show ¬ ct = 1 from by have := (Kd.R_reads' HO2.out).2.1; omega)
        have hK1 : ((n.length : Int) + 1).toNat = n.length + 1 := by omega
        have hct2 : w2.drew.cell? ⟨gt, 0, none⟩ = some (.int .u64 b) := hct
        have hz1 : (0 : Int) < (n.length : Int) + 2 := by omega
        have hz2 : (0 : Int) < ((n.length + 2 : Nat) : Int) := by omega
        go_still_tail 13, (by kernel_rfl)
        change wpList _ _ _ _ _ w2.drew
        go_wp2_with (first
          | (go_at_call 76; refine (mont_add.calls k (fun k_ => some k_ = (Value.slice (some ⟨gt, 0, none⟩) (n.length + 2) ct).ownBlock) _ t1 An cn n _ t2 w _ ?sB ?sR ?sK H2.out.2 K3.out).mono ?_; (case sB => repeat (first | exact HB2.out | apply below_drew)); (case sR => exact Kd.R_tight rfl (Kd.R_drew HO2.out)); (case sK => intro W_ hk; exact Rd.kept H2.out (by repeat (first | exact HB2.out | apply below_drew)) hk (fun k hk => by have hg := HGT.out; simp [Value.ownBlock] at hk; omega)); rintro e w3 ⟨rfl, hR, hb, hkp⟩; have HO3 := Aside0.mk (Kd.R_mono hR (ok' := fun _ => True) (fun _ _ => trivial)); have HB3 := Aside0.mk hb; clear hR hb hkp HO2 HB2; have hne : ¬ ct = 1 := HNE.out; have HLEN := Aside0.mk (Kd.R_reads' HO3.out).1; have HCC := Aside0.mk (cut_one HO3.out hne))
          | ((with_reducible refine gate_dst (N := 53) rfl ?_); refine R_copyto (0 : Int) (w0 := w) w.heap.size rfl (.tmp 50) (.tmp 52) 22 22 50 rfl Try.underlying22 (by kernel_rfl) (A0 := some ⟨gt, 0, none⟩) (n := n.length + 2) (c := ct) (k := 0) (m := n.length + 2) (m2 := n.length + 1) (ys := t2.drop 1) rfl rfl ?hA HCC.out (by omega) HO3.out (by omega) HB3.out ?hb ?_; (case hA => split <;> rfl); (case hb => exact below_size HB3.out); intro w4 ho hb hg; have HO4 := Aside0.mk ho; have HB4 := Aside0.mk hb; clear ho hb hg HO3 HB3 HCC; obtain ⟨hy_, hz_⟩ := Kd.R_celln 0 HO4.out ((n.length : Int) + 1) (by omega) (by omega); have HP := Aside0.mk (Kd.R_putg HO4.out ((n.length : Int) + 1) 0); rw [hK1] at hy_ hz_)
          | ((with_reducible refine gate_store (t := 50) (p := 57) rfl ?_); refine store_event (t := 50) (p := 57) (v := ?vo) (w1 := (w4.setCell ⟨gt, n.length + 1, none⟩ (.int .u64 0))) ?hg ?ho ?hn ?hr ?_; (case ho => rfl); (case hg => rfl); (case hn => rfl); (case hr => first | (go_simp; done) | (go_simp; rfl)); intro w5 hw))
        have HO5 := Aside0.mk (show Kd.R (Kd.int .u64) 50 (w4.setCell ⟨gt, n.length + 1, none⟩ (.int .u64 0)) w.heap.size (fun _ => True) (.slice (some ⟨gt, 0, none⟩) (n.length + 2) ct) (t2.drop 1 ++ [0]) from by
          have h := HP.out.1
          rw [hK1, shift_eq t2 n.length HLEN.out.symm] at h
          exact h)
        have HB5 := Aside0.mk (below_set (g := gt) (j := n.length + 1) (v := .int .u64 0) HB4.out HGT.out)
        clear HP HO4 HB4
        go_roundg (n.length - (i + 1))
        case measure => omega
        case rel => exact ⟨i + 1, t2.drop 1 ++ [0], by go_num, by omega, by omega, HL2, HO5, HB5⟩
      · have hxz : ¬ (i : Int) < (x.length : Int) := by omega
        have ha0 : a = 0 := by rw [ha, List.getD_eq_getElem?_getD, List.getElem?_eq_none (by omega)]; rfl
        subst ha0
        clear ha
        go_wp2_with (go_at_call 76; refine (mont_add.calls k (fun k_ => some k_ = (Value.slice (some ⟨gt, 0, none⟩) (n.length + 2) ct).ownBlock) _ t Ay cy y _ t1 w _ ?sB ?sR ?sK HY.out.2 K1.out).mono ?_; (case sB => repeat (first | exact HB1.out | apply pw_below_drewN)); (case sR => exact Kd.R_tight rfl (uR HO1.out)); (case sK => intro W_ hk; exact Rd.kept HY.out (by repeat (first | exact HB1.out | apply pw_below_drewN)) hk (fun k hk => by have hg := HGT.out; simp [Value.ownBlock] at hk; omega)); rintro e w2 ⟨rfl, hR, hb, hkp⟩; have HO2 := Aside0.mk (Kd.R_mono hR (ok' := fun _ => True) (fun _ _ => trivial)); have HB2 := Aside0.mk hb; clear hR hb hkp HO1 HB1)
        have hc0 : w2.cell? ⟨g, 0, none⟩ = some (.slice An n.length cn) := (blk_cell (blk_below H1.out HB2.out) 0).trans rfl
        have hc1 : w2.cell? ⟨g, 1, none⟩ = some (.int .u64 minus) := (blk_cell (blk_below H1.out HB2.out) 1).trans rfl
        obtain ⟨b, hb⟩ : ∃ b : Int, b = t1.getD 0 0 := ⟨_, rfl⟩
        have hct : w2.cell? ⟨gt, 0, none⟩ = some (.int .u64 b) := by
          have := (Kd.R_celln 0 HO2.out 0 (by omega) (by omega)).1
          rw [hb]
          exact this
        have K3 := Aside0.mk (show mont_add.f k t1 n (IntKind.u64.wrap (b * minus)) = some t2 from by rw [hb]; exact K2.out)
        clear K2 hb
        have HNE := Aside0.mk (show ¬ ct = 1 from by have := (Kd.R_reads' HO2.out).2.1; omega)
        have hK1 : ((n.length : Int) + 1).toNat = n.length + 1 := by omega
        have hct2 : w2.drew.cell? ⟨gt, 0, none⟩ = some (.int .u64 b) := hct
        have hz1 : (0 : Int) < (n.length : Int) + 2 := by omega
        have hz2 : (0 : Int) < ((n.length + 2 : Nat) : Int) := by omega
        go_still_tail 13, (by kernel_rfl)
        change wpList _ _ _ _ _ w2.drew
        go_wp2_with (first
          | (go_at_call 76; refine (mont_add.calls k (fun k_ => some k_ = (Value.slice (some ⟨gt, 0, none⟩) (n.length + 2) ct).ownBlock) _ t1 An cn n _ t2 w _ ?sB ?sR ?sK H2.out.2 K3.out).mono ?_; (case sB => repeat (first | exact HB2.out | apply below_drew)); (case sR => exact Kd.R_tight rfl (Kd.R_drew HO2.out)); (case sK => intro W_ hk; exact Rd.kept H2.out (by repeat (first | exact HB2.out | apply below_drew)) hk (fun k hk => by have hg := HGT.out; simp [Value.ownBlock] at hk; omega)); rintro e w3 ⟨rfl, hR, hb, hkp⟩; have HO3 := Aside0.mk (Kd.R_mono hR (ok' := fun _ => True) (fun _ _ => trivial)); have HB3 := Aside0.mk hb; clear hR hb hkp HO2 HB2; have hne : ¬ ct = 1 := HNE.out; have HLEN := Aside0.mk (Kd.R_reads' HO3.out).1; have HCC := Aside0.mk (cut_one HO3.out hne))
          | ((with_reducible refine gate_dst (N := 53) rfl ?_); refine R_copyto (0 : Int) (w0 := w) w.heap.size rfl (.tmp 50) (.tmp 52) 22 22 50 rfl Try.underlying22 (by kernel_rfl) (A0 := some ⟨gt, 0, none⟩) (n := n.length + 2) (c := ct) (k := 0) (m := n.length + 2) (m2 := n.length + 1) (ys := t2.drop 1) rfl rfl ?hA HCC.out (by omega) HO3.out (by omega) HB3.out ?hb ?_; (case hA => split <;> rfl); (case hb => exact below_size HB3.out); intro w4 ho hb hg; have HO4 := Aside0.mk ho; have HB4 := Aside0.mk hb; clear ho hb hg HO3 HB3 HCC; obtain ⟨hy_, hz_⟩ := Kd.R_celln 0 HO4.out ((n.length : Int) + 1) (by omega) (by omega); have HP := Aside0.mk (Kd.R_putg HO4.out ((n.length : Int) + 1) 0); rw [hK1] at hy_ hz_)
          | ((with_reducible refine gate_store (t := 50) (p := 57) rfl ?_); refine store_event (t := 50) (p := 57) (v := ?vo) (w1 := (w4.setCell ⟨gt, n.length + 1, none⟩ (.int .u64 0))) ?hg ?ho ?hn ?hr ?_; (case ho => rfl); (case hg => rfl); (case hn => rfl); (case hr => first | (go_simp; done) | (go_simp; rfl)); intro w5 hw))
        have HO5 := Aside0.mk (show Kd.R (Kd.int .u64) 50 (w4.setCell ⟨gt, n.length + 1, none⟩ (.int .u64 0)) w.heap.size (fun _ => True) (.slice (some ⟨gt, 0, none⟩) (n.length + 2) ct) (t2.drop 1 ++ [0]) from by
          have h := HP.out.1
          rw [hK1, shift_eq t2 n.length HLEN.out.symm] at h
          exact h)
        have HB5 := Aside0.mk (below_set (g := gt) (j := n.length + 1) (v := .int .u64 0) HB4.out HGT.out)
        clear HP HO4 HB4
        go_roundg (n.length - (i + 1))
        case measure => omega
        case rel => exact ⟨i + 1, t2.drop 1 ++ [0], by go_num, by omega, by omega, HL2, HO5, HB5⟩
    · have hltz : ¬ (i : Int) < (n.length : Int) := by omega
      obtain rfl : t = T := by
        have h := HL.out
        rw [show n.length - i = 0 from by omega] at h
        exact Option.some.inj h
      have hcg : wr.cell? ⟨g, 0, none⟩ = some (.slice An n.length cn) := (blk_cell (blk_below H1.out HB1.out) 0).trans rfl
      clear HL
      have HH1 := HH.out
      by_cases hcc : c ≥ 0
      · rw [if_pos hcc] at HH1
        obtain ⟨⟨s1, s2⟩, hs, hr⟩ := Option.bind_eq_some_iff.mp HH1
        obtain rfl : s1 = r := Option.some.inj hr
        have HS := Aside0.mk hs
        have hc0 : (0 : Int) ≤ c := hcc
        clear HH1 hs hr
        go_wp2_with (first
          | (go_at_call 77; refine (mont_trim.calls k (fun _ => True) _ t o w _ ?sB ?sR HO.out).mono ?_; (case sB => repeat (first | exact HB1.out | apply pw_below_drewN)); (case sR => exact HO1.out); rintro e w2 ⟨v2, rfl, hR, hb, hkp⟩; obtain ⟨Az, cz, ez⟩ := Kd.R_slice hR; subst ez; have HZ := Aside0.mk (Rd.of (n := 0) hR); have HB2 := Aside0.mk hb; have hcg2 : w2.cell? ⟨g, 0, none⟩ = some (.slice An n.length cn) := (blk_cell (blk_below H1.out hb) 0).trans rfl; clear hR hb hkp HO1 HB1)
          | (go_at_call 70; refine (nat_Cmp.calls k _ Az cz o _ An cn n c _ HZ.out.V (H2.out.below HB2.out).V HC.out).mono ?_; rintro e w3 ⟨rfl, hb⟩; have HZ3 := Aside0.mk (HZ.out.below hb); have HB3 := Aside0.mk (below_step HB2.out hb); have hcg3 : w3.cell? ⟨g, 0, none⟩ = some (.slice An n.length cn) := (blk_cell (blk_below H1.out HB3.out) 0).trans rfl; clear HZ HB2 hb)
          | (go_at_call 78; refine (nat_Sub.calls k _ Az cz o _ An cn n s1 s2 _ HZ3.out.V (H2.out.below HB3.out).V HS.out).mono ?_; rintro e w4 ⟨v4, rfl, hR, hb⟩; obtain ⟨Ay4, cy4, ey4⟩ := Kd.R_slice hR; subst ey4; have HR4 := Aside0.mk (Kd.R_lower (Kd.R_mono hR (ok' := fun _ => True) (fun _ _ => trivial)) (below_size HB3.out)); have HB4 := Aside0.mk (below_step HB3.out hb); clear hR hb HZ3 HB3))
        go_ret
        exact ⟨_, _, rfl, HR4.out, HB4.out⟩
      · rw [if_neg hcc] at HH1
        obtain rfl : o = r := Option.some.inj HH1
        have hc0 : ¬ (0 : Int) ≤ c := hcc
        clear HH1
        go_wp2_with (first
          | (go_at_call 77; refine (mont_trim.calls k (fun _ => True) _ t o w _ ?sB ?sR HO.out).mono ?_; (case sB => repeat (first | exact HB1.out | apply pw_below_drewN)); (case sR => exact HO1.out); rintro e w2 ⟨v2, rfl, hR, hb, hkp⟩; obtain ⟨Az, cz, ez⟩ := Kd.R_slice hR; subst ez; have HZ := Aside0.mk (Rd.of (n := 0) hR); have HZR := Aside0.mk (Kd.R_mono hR (ok' := fun _ => True) (fun _ _ => trivial)); have HB2 := Aside0.mk hb; have hcg2 : w2.cell? ⟨g, 0, none⟩ = some (.slice An n.length cn) := (blk_cell (blk_below H1.out hb) 0).trans rfl; clear hR hb hkp HO1 HB1)
          | (go_at_call 70; refine (nat_Cmp.calls k _ Az cz o _ An cn n c _ HZ.out.V (H2.out.below HB2.out).V HC.out).mono ?_; rintro e w3 ⟨rfl, hb⟩; have HZ3 := Aside0.mk (Kd.R_below HZR.out hb); have HB3 := Aside0.mk (below_step HB2.out hb); clear HZ HZR HB2 hb))
        go_ret
        exact ⟨_, _, rfl, HZ3.out, HB3.out⟩
theorem Rd.one {w : World} {A : Option Addr} {c : Nat} {l : List Int} (h : Rd w A c l) : Kd.FK (Kd.slice 50 (Kd.int .u64)) w (fun _ => True) l [.slice A l.length c] := Kd.FK_slice_mk h.2 (Kd.F_mono (Kd.C_F (Kd.heap_int _) h.1) (fun _ _ => trivial))
def mont_Mul.f (k : Nat) (n : List Int) (minus : Int) (x y : List Int) : Option (List Int × Int) := (mont_below.f k n [x, y]).bind fun b => if b = true then (mont_product.f k n x y minus).bind fun r => some (r, 0) else some ([], 1)
theorem Rd.nil (w : World) : Rd w none 0 [] := ⟨Kd.C_nil _ _, Nat.le_refl _⟩
def mont_Exp.pows (k : Nat) (n : List Int) (minus : Int) (first : List Int) : Nat → List (List Int) → Option (List (List Int))
  | 0, P => some P
  | m + 1, P => (mont_product.f k n (P.getD (P.length - 1) []) first minus).bind fun q => mont_Exp.pows k n minus first m (P ++ [q])
def mont_Exp.bits (k : Nat) (n : List Int) (minus : Int) (e : List Int) (j : Nat) : Nat → List Int → Int → Option (List Int × Int)
  | 0, out, d => some (out, d)
  | m + 1, out, d => (mont_product.f k n out out minus).bind fun o => (nat_Bit.f e ((j : Int) * 4 - 1 - (3 - (m : Int)))).bind fun b => mont_Exp.bits k n minus e j m o (if b = true then d + 2 ^ m else d)
def mont_Exp.outs (k : Nat) (n : List Int) (minus : Int) (e : List Int) (P : List (List Int)) : Nat → List Int → Option (List Int)
  | 0, out => some out
  | j + 1, out => (mont_Exp.bits k n minus e (j + 1) 4 out 0).bind fun o => (mont_product.f k n o.1 (P.getD o.2.toNat []) minus).bind fun q => mont_Exp.outs k n minus e P j q
def mont_Exp.f (k : Nat) (n one next : List Int) (minus : Int) (a e : List Int) : Option (List Int × Int) :=
  (mont_below.f k n [a]).bind fun b => (nat_Right.f e).bind fun r =>
    if b = true ∧ r = true ∧ e.length ≤ 8 then
      (mont_product.f k n a next minus).bind fun first => (mont_Exp.pows k n minus first 15 [one]).bind fun P => (nat_Bits.f k e).bind fun z =>
        if 0 ≤ z ∧ z ≤ 1000 then (mont_Exp.outs k n minus e P ((z.toNat + 3) / 4) one).bind fun o => (mont_product.f k n o [1] minus).bind fun q => some (q, 0) else none
    else some ([], 1)
theorem or_digit {m : Nat} {d : Int} (hm : m < 4) (h0 : 0 ≤ d) (h1 : d < 16) (h : d % 2 ^ (4 - m) = 0) : Go.bits .or .i64 d (wrap64 (2 ^ (3 - m))) = d + 2 ^ (4 - (m + 1)) := by
  have hc : m = 0 ∨ m = 1 ∨ m = 2 ∨ m = 3 := by omega
  rcases hc with rfl | rfl | rfl | rfl <;> simp only [Nat.reduceSub, Nat.reduceAdd, Int.reducePow] at h ⊢
  · obtain rfl : d = 0 := by omega
    decide +kernel
  · have hd : d = 0 ∨ d = 8 := by omega
    rcases hd with rfl | rfl <;> decide +kernel
  · have hd : d = 0 ∨ d = 4 ∨ d = 8 ∨ d = 12 := by omega
    rcases hd with rfl | rfl | rfl | rfl <;> decide +kernel
  · have hd : d = 0 ∨ d = 2 ∨ d = 4 ∨ d = 6 ∨ d = 8 ∨ d = 10 ∨ d = 12 ∨ d = 14 := by omega
    rcases hd with rfl | rfl | rfl | rfl | rfl | rfl | rfl | rfl <;> decide +kernel
theorem dig_new {m : Nat} {d : Int} (hm : m < 4) (h0 : 0 ≤ d) (h1 : d < 16) (h : d % 2 ^ (4 - m) = 0) : 0 ≤ d + 2 ^ (4 - (m + 1)) ∧ d + 2 ^ (4 - (m + 1)) < 16 ∧ (d + 2 ^ (4 - (m + 1))) % 2 ^ (4 - (m + 1)) = 0 := by
  have hc : m = 0 ∨ m = 1 ∨ m = 2 ∨ m = 3 := by omega
  rcases hc with rfl | rfl | rfl | rfl <;> simp only [Nat.reduceSub, Nat.reduceAdd, Int.reducePow] at h ⊢ <;> omega
theorem dig_step {m : Nat} {d : Int} (hm : m < 4) (h : d % 2 ^ (4 - m) = 0) : d % 2 ^ (4 - (m + 1)) = 0 := by
  have hc : m = 0 ∨ m = 1 ∨ m = 2 ∨ m = 3 := by omega
  rcases hc with rfl | rfl | rfl | rfl <;> (simp only [Nat.reduceSub, Nat.reduceAdd, Int.reducePow] at h ⊢; omega)
theorem own_ge {e base : Nat} {ok : Nat → Prop} {w : World} {v : Value} {xs : List Int} (h : Kd.R (Kd.int .u64) e w base ok v xs) : ∀ k, v.ownBlock = some k → base ≤ k := Kd.R_base h
set_option maxHeartbeats 8000000 in
set_option maxRecDepth 100000 in
theorem mont_Exp.good (k : Nat) (g : Nat) (n one next a e : List Int) (minus : Int) (Aa : Option Addr) (ca : Nat) (Ae : Option Addr) (ce : Nat) (first : List Int) (PW : List (List Int)) (zn : Nat) (o q : List Int) (w : World) (hR : RingAt w g n one next minus) (ha : Rd w Aa ca a) (he : Rd w Ae ce e) (hn : n.length ≤ 1000) (hle : e.length ≤ 8) (hb : mont_below.f k n [a] = some true) (hr : nat_Right.f e = some true) (h1 : mont_product.f k n a next minus = some first) (h2 : mont_Exp.pows k n minus first 15 [one] = some PW) (h3 : nat_Bits.f k e = some (zn : Int)) (hz : zn ≤ 1000) (h4 : mont_Exp.outs k n minus e PW ((zn + 3) / 4) one = some o) (h5 : mont_product.f k n o [1] minus = some q) :
    Calls Try.prog 21 #[.pointer (some ⟨g, 0, none⟩), .slice Aa a.length ca, .slice Ae e.length ce] w fun x w' => ∃ A c, x = .returned (.tuple #[.slice A q.length c, .int .i64 0]) ∧ Rd w' A c q ∧ Below w.heap.size w w' := by
  have HRR := Aside0.mk hR
  obtain ⟨An, cn, Ao, co, Aq, cq, g1, g2, g3, g4⟩ := hR
  have PROD := Aside0.mk (fun (W : World) (x y r : List Int) (Ax : Option Addr) (cx : Nat) (Ay : Option Addr) (cy : Nat) (hB : Below w.heap.size w W) (hx : Rd W Ax cx x) (hy : Rd W Ay cy y) (h : mont_product.f k n x y minus = some r) => mont_product.own k g n one next x y minus Ax cx Ay cy r W (HRR.out.below hB) hx hy hn h)
  have HG := Aside0.mk g1
  have HON := Aside0.mk g3
  have HNX := Aside0.mk g4
  have HA := Aside0.mk ha
  have HE := Aside0.mk he
  have HT := Aside0.mk hb
  have HRI := Aside0.mk hr
  have K1 := Aside0.mk h1
  have K2 := Aside0.mk h2
  have K3 := Aside0.mk h3
  have K4 := Aside0.mk h4
  have K5 := Aside0.mk h5
  have HB := Aside0.mk (Below.refl w.heap.size w)
  have hle2 : decide ((8 : Int) < (e.length : Int)) = false := decide_eq_false (by omega)
  clear g1 g2 g3 g4 ha he hb hr h1 h2 h3 h4 h5
  go_enter Try.func21, Try.ntmps21
  go_wp2_with (first
    | ((with_reducible refine gate_dst (N := 17) rfl ?_); refine Kd.N_lit (Kd.slice 50 (Kd.int .u64)) _ 23 ?hg (N' := 17) ?hd (xs := ([a] : List (List Int))) (inner := [.slice Aa a.length ca]) (ok := fun _ => True) (okp := fun _ => True) ?hr ?hp (fun _ hk => hk) trivial (Below.refl _ _) (Nat.le_refl _) (by simp) ?_; (case hd => rfl); (case hg => rfl); (case hr => first | (go_simp; done) | (go_simp; rfl)); (case hp => exact Reps.one (HA.out.below uB).one (Reps.none _ _)); intro v1 w1 ho hb hg_ hnew_; clear hg_ hnew_; obtain ⟨A1, c1, e1⟩ := Kd.N_slice ho; subst e1; have HL1 := Aside0.mk ho; have HB1 := Aside0.mk (below_step uB hb); clear HB hb ho)
    | (go_at_call 36; refine (mont_below.calls k g n one next minus A1 c1 [a] true _ (HRR.out.below uB) (Kd.N_reads' HL1.out).2.2 (Kd.N_reads' HL1.out).2.1 HT.out).mono ?_; rintro x w2 ⟨rfl, hd⟩; have HB2 := Aside0.mk (below_step uB hd); have hcg2 : w2.cell? ⟨g, 2, none⟩ = some (.slice Ao one.length co) := (blk_cell (blk_below HG.out HB2.out) 2).trans rfl; clear HB1 hd HL1)
    | (go_at_call 42; refine (nat_Right.calls Ae ce e true _ (HE.out.below uB).1 HE.out.2 HRI.out).mono ?_; rintro x w' ⟨rfl, ⟨z_, rfl⟩⟩)
    | ((with_reducible refine gate_dst (N := 36) rfl ?_); refine Kd.N_lit (Kd.slice 50 (Kd.int .u64)) _ 23 ?hg (N' := 36) ?hd (xs := ([one] : List (List Int))) (inner := [.slice Ao one.length co]) (ok := fun _ => True) (okp := fun _ => True) ?hr ?hp (fun _ hk => hk) trivial (Below.refl _ _) (Nat.le_refl _) (by simp) ?_; (case hd => rfl); (case hg => rfl); (case hr => first | (go_simp; done) | (go_simp; rfl)); (case hp => exact Reps.one (HON.out.below uB).one (Reps.none _ _)); intro v3 w3 ho hb hg_ hnew_; clear hg_ hnew_; obtain ⟨Ap, cp, ep⟩ := Kd.N_slice ho; subst ep; have HP3 := Aside0.mk (Kd.N_lower (Kd.N_bound ho) (below_size (w := w) uB)); have HB3 := Aside0.mk (below_step uB hb); have hcg3 : w3.cell? ⟨g, 3, none⟩ = some (.slice Aq next.length cq) := (blk_cell (blk_below HG.out HB3.out) 3).trans rfl; clear HB2 hb ho)
    | (go_at_call 37; refine (PROD.out _ a next first Aa ca Aq cq uB (HA.out.below uB) (HNX.out.below uB) K1.out).mono ?_; rintro x w4 ⟨Af, cf, rfl, h4, hd⟩; have KF := Aside0.mk h4; have HP4 := Aside0.mk (Kd.N_below HP3.out hd); have HB4 := Aside0.mk (below_step uB hd); have HFB := Aside0.mk (fun k hk => (show w3.heap.size ≤ k from own_ge h4 k hk)); have HPL := Aside0.mk (fun k hk => (show k < w3.heap.size from Kd.N_lt HP3.out k hk)); clear hd h4 HB3 HP3))
  have HP5 := Aside0.mk (show Kd.N (Kd.slice 50 (Kd.int .u64)) 23 w4 w.heap.size (fun k_ => some k_ ≠ (Value.slice Af first.length cf).ownBlock) (.slice Ap (0 + 1) cp) [one] from Kd.N_mono HP4.out (fun k_ hk he => by have h1 := HFB.out k_ he.symm; have h2 := hk.2; omega))
  have HF5 := Aside0.mk (Kd.R_F (Kd.R_tight rfl KF.out))
  have HFL := Aside0.mk (fun k_ h => Kd.R_lt KF.out k_ h)
  have hcf := (Kd.R_reads' KF.out).2.1
  clear HP4 KF HFB HPL hcg2 hcg3
  go_loopg [9, 44] 15 (fun gg v9 v44 wr => ∃ (i : Nat) (P : List (List Int)) (A : Option Addr) (c : Nat), v9 = .slice A (i + 1) c ∧ v44 = .int .i64 (i : Int) ∧ i ≤ 15 ∧ 15 - i ≤ gg ∧ P.length = i + 1 ∧ Aside0 (mont_Exp.pows k n minus first (15 - i) P = some PW) ∧ Aside0 (Kd.N (Kd.slice 50 (Kd.int .u64)) 23 wr w.heap.size (fun k_ => some k_ ≠ (Value.slice Af first.length cf).ownBlock) (.slice A (i + 1) c) P) ∧ Aside0 (Kd.F (Kd.int .u64) wr (fun k_ => some k_ = (Value.slice Af first.length cf).ownBlock) Af first.length first) ∧ Aside0 (w4.heap.size ≤ wr.heap.size) ∧ Aside0 (Below w.heap.size w wr))
  case atStart => exact ⟨0, [one], Ap, cp, rfl, rfl, by omega, by omega, rfl, K2, HP5, HF5, ⟨Nat.le_refl _⟩, HB4⟩
  case round =>
    clear HP5 HF5 HB4
    obtain ⟨i, P, A, c, rfl, rfl, hi, hg, hlen, HK, HN, HF, HS, HB5⟩ := hrel
    by_cases hlt : i < 15
    · have hltz : (i : Int) < 15 := by omega
      have hK := HK.out
      rw [show 15 - i = (15 - (i + 1)) + 1 from by omega, mont_Exp.pows] at hK
      obtain ⟨q1, hq1, hK⟩ := Option.bind_eq_some_iff.mp hK
      rw [hlen, Nat.add_sub_cancel] at hq1
      have HK2 := Aside0.mk hK
      have hC := (Kd.N_reads' HN.out).2.2
      have h0k : (0 : Int) ≤ (i : Int) := Int.natCast_nonneg i
      obtain ⟨ad, c1, hA, _, hKK, hc⟩ := Kd.C_get hC ([] : List Int) (i : Int) h0k (by omega)
      obtain ⟨A1, c1, rfl, hl1, hi1⟩ := hKK
      subst hA
      have hcell := hc 0 _ rfl
      rw [Nat.add_zero, show (Kd.slice 50 (Kd.int .u64)).sz = 1 from rfl, Nat.mul_one] at hcell
      simp only [Go.IntWalk.toNatUp] at hcell hl1 hi1
      generalize hx : P.getD i [] = x at hcell hl1 hi1 hq1
      have HX := Aside0.mk (show Rd wr A1 c1 x from ⟨hi1, hl1⟩)
      have HQ1 := Aside0.mk hq1
      have HLEN := Aside0.mk hlen
      have hz2 : (i : Int) < (i : Int) + 1 := by omega
      clear hK HK hq1 hC hc hl1 hi1 hx hlen
      go_wp2_with (first
        | (go_at_call 37; refine (PROD.out _ x first q1 A1 c1 Af cf uB HX.out ⟨Kd.F_now HF.out, hcf⟩ HQ1.out).mono ?_; rintro y w7 ⟨Aq1, cq1, rfl, h7, hd⟩; have KQ := Aside0.mk h7; have HN7 := Aside0.mk (Kd.N_below HN.out hd); have HNL := Aside0.mk (Kd.N_lt HN.out); have HF7 := Aside0.mk (Kd.F_below HF.out hd); have HB7 := Aside0.mk (below_step uB hd); have HS6 := Aside0.mk (below_size hd); clear hd h7 HB5 HN HF)
        | ((with_reducible refine gate_builtin (b := .append) (xs := #[.tmp 46, .tmp 56]) rfl ?_); at_builtin; refine Kd.N_append (Kd.slice 50 (Kd.int .u64)) (w0 := w) w.heap.size rfl (.tmp 46) (.tmp 56) 59 23 (.slice none 0 0) 24 rfl Try.underlying59 info23 rfl (by decide) (by omega) (.slice (some ad) (i + 1) c) P q1 [.slice Aq1 q1.length cq1] (fun k_ => some k_ ≠ (Value.slice Af first.length cf).ownBlock) (fun k_ => some k_ ≠ (Value.slice Af first.length cf).ownBlock ∧ some k_ ≠ (Value.slice (some ad) (i + 1) c).ownBlock) rfl rfl ?aP (fun _ hk => hk) ?aF ?aO ?aB ?aS ?aL ?_; (case aP => exact Kd.FK_slice_mk (Kd.R_reads' KQ.out).2.1 (Kd.F_mono (Kd.R_F (Kd.R_tight rfl KQ.out)) (fun k_ hk => ⟨fun he => by have h1 := HFL.out k_ he.symm; have h2 := Kd.R_base KQ.out k_ hk.symm; have h3 := HS.out; omega, fun he => by have h1 := HNL.out k_ he.symm; have h2 := Kd.R_base KQ.out k_ hk.symm; omega⟩))); (case aB => exact HB7.out); (case aF => exact fun k_ hk he => by have h1 := HFL.out k_ he.symm; have h3 := HS.out; have h4 := HS6.out; omega); (case aO => exact HN7.out); (case aS => exact below_size HB7.out); (case aL => have h := HLEN.out; omega); intro v8 w8 ho hb hgr hat; have HN8 := Aside0.mk ho; have HB8 := Aside0.mk hb; have HF8 := Aside0.mk (Kd.F_grown HF7.out hgr (fun k_ hk he => HN7.out.1 k_ he.symm hk)); have HS8 := Aside0.mk (Nat.le_trans HS.out (Nat.le_trans HS6.out hgr.size)); clear ho hb hgr hat HB7 HN7 HF7))
      obtain ⟨A8, c8, e8⟩ := Kd.N_slice HN8.out
      subst e8
      have hl8 : (P ++ [q1]).length = i + 1 + 1 := by rw [List.length_append, HLEN.out]; rfl
      go_roundg (15 - (i + 1))
      case measure => omega
      case rel => exact ⟨i + 1, P ++ [q1], A8, c8, by rw [hl8], by go_num, by omega, by omega, hl8, HK2, ⟨hl8 ▸ HN8.out⟩, HF8, HS8, HB8⟩
    · have hltz : ¬ (i : Int) < 15 := by omega
      obtain rfl : i = 15 := by omega
      obtain rfl : P = PW := Option.some.inj HK.out
      have HC := Aside0.mk (Kd.N_reads' HN.out).2.2
      have hcg2 : wr.cell? ⟨g, 2, none⟩ = some (.slice Ao one.length co) := (blk_cell (blk_below HG.out HB5.out) 2).trans rfl
      clear HN HF HS HK hlt hltz hg hi hcf HFL
      go_wp2_with (go_at_call 43; refine (nat_Bits.calls k Ae ce e (zn : Int) _ (HE.out.below uB).1 HE.out.2 K3.out).mono ?_; rintro x w' ⟨rfl, ⟨z2, rfl⟩⟩)
      go_loopg [11, 12] ((zn + 3) / 4) (fun gg v11 v12 w2r => ∃ (j : Nat) (u : List Int) (Au : Option Addr) (cu : Nat), v11 = .slice Au u.length cu ∧ v12 = .int .i64 (j : Int) ∧ j ≤ (zn + 3) / 4 ∧ j ≤ gg ∧ Aside0 (mont_Exp.outs k n minus e P j u = some o) ∧ Aside0 (Rd w2r Au cu u) ∧ Aside0 (Kd.C (Kd.slice 50 (Kd.int .u64)) w2r A P.length P) ∧ Aside0 (Below w.heap.size w w2r))
      case atStart =>
        refine ⟨(zn + 3) / 4, one, Ao, co, rfl, ?_, Nat.le_refl _, Nat.le_refl _, K4, ⟨HON.out.below uB⟩, ⟨Kd.C_below HC.out (by repeat (first | exact Below.refl _ _ | apply below_drew | apply pw_below_drewN))⟩, ⟨uB⟩⟩
        congr 1
        omega
      case round =>
        clear HC hcg2 HB5
        obtain ⟨j, u, Au, cu, rfl, rfl, hj, hg, HK, HU, HC, HB6⟩ := hrel
        by_cases hlt : 0 < j
        · have hltz : (0 : Int) < (j : Int) := by omega
          obtain ⟨j, rfl⟩ : ∃ j', j = j' + 1 := ⟨j - 1, by omega⟩
          have hK := HK.out
          rw [mont_Exp.outs] at hK
          obtain ⟨⟨o2, d2⟩, hq1, hK⟩ := Option.bind_eq_some_iff.mp hK
          obtain ⟨q2, hq2, hK⟩ := Option.bind_eq_some_iff.mp hK
          have HK1 := Aside0.mk hq1
          have hq2 : mont_product.f k n o2 (P.getD d2.toNat []) minus = some q2 := hq2
          have HK2 := Aside0.mk hq2
          have HK3 := Aside0.mk hK
          clear HK hK hq1 hq2
          go_wp2
          go_loopg [11, 13, 72] 4 (fun gg v11 v13 v72 w3r => ∃ (m : Nat) (u : List Int) (Au : Option Addr) (cu : Nat) (d : Int), v11 = .slice Au u.length cu ∧ v13 = .int .i64 d ∧ v72 = .int .i64 (m : Int) ∧ m ≤ 4 ∧ 4 - m ≤ gg ∧ 0 ≤ d ∧ d < 16 ∧ d % 2 ^ (4 - m) = 0 ∧ Aside0 (mont_Exp.bits k n minus e (j + 1) (4 - m) u d = some (o2, d2)) ∧ Aside0 (Rd w3r Au cu u) ∧ Aside0 (Kd.C (Kd.slice 50 (Kd.int .u64)) w3r A P.length P) ∧ Aside0 (Below w.heap.size w w3r))
          case atStart => exact ⟨0, u, Au, cu, 0, rfl, rfl, rfl, by omega, by omega, by omega, by omega, rfl, HK1, ⟨HU.out.below (by repeat (first | exact Below.refl _ _ | apply below_drew | apply pw_below_drewN))⟩, ⟨Kd.C_below HC.out (by repeat (first | exact Below.refl _ _ | apply below_drew | apply pw_below_drewN))⟩, ⟨uB⟩⟩
          case round =>
            clear HU HC HB6
            obtain ⟨m, u, Au, cu, d, rfl, rfl, rfl, hm, hg2, hd0, hd1, hd2, HK, HU, HC, HB7⟩ := hrel
            by_cases hlm : m < 4
            · have hlmz : (m : Int) < 4 := by omega
              have hK := HK.out
              rw [show 4 - m = (4 - (m + 1)) + 1 from by omega, mont_Exp.bits] at hK
              obtain ⟨o1, hq1, hK⟩ := Option.bind_eq_some_iff.mp hK
              obtain ⟨b, hq2, hK⟩ := Option.bind_eq_some_iff.mp hK
              have hi3 : (((j + 1 : Nat) : Int) * 4 - 1 - (3 - ((4 - (m + 1) : Nat) : Int))) = ((j : Int) + 1) * 4 - 1 - (m : Int) := by omega
              rw [hi3] at hq2
              have HQ1 := Aside0.mk hq1
              have HQ2 := Aside0.mk hq2
              have HK4 := Aside0.mk hK
              clear hK hq1 hq2 HK hi3
              cases b with
              | true =>
                go_wp2_with (first
                  | (go_at_call 37; refine (PROD.out _ u u o1 Au cu Au cu uB HU.out HU.out HQ1.out).mono ?_; rintro y w8 ⟨A8, c8, rfl, h8, hd⟩; have KQ := Aside0.mk h8; have HB8 := Aside0.mk (below_step uB hd); have HC8 := Aside0.mk (Kd.C_below HC.out hd); clear hd h8 HB7 HU HC)
                  | (go_at_call 44; refine (nat_Bit.calls Ae ce e (((j : Int) + 1) * 4 - 1 - (m : Int)) true _ (HE.out.below uB).1 HE.out.2 HQ2.out).mono ?_; rintro y w9 ⟨rfl, ⟨z9, rfl⟩⟩))
                go_roundg (4 - (m + 1))
                case measure => omega
                case rel => exact ⟨m + 1, o1, A8, c8, d + 2 ^ (4 - (m + 1)), rfl, by rw [or_digit hlm hd0 hd1 hd2], by go_num, by omega, by omega, (dig_new hlm hd0 hd1 hd2).1, (dig_new hlm hd0 hd1 hd2).2.1, (dig_new hlm hd0 hd1 hd2).2.2, HK4, ⟨(Rd.of (n := 0) KQ.out).below (by repeat (first | exact Below.refl _ _ | apply below_drew | apply pw_below_drewN))⟩, ⟨Kd.C_below HC8.out (by repeat (first | exact Below.refl _ _ | apply below_drew | apply pw_below_drewN))⟩, ⟨uB⟩⟩
              | false =>
                go_wp2_with (first
                  | (go_at_call 37; refine (PROD.out _ u u o1 Au cu Au cu uB HU.out HU.out HQ1.out).mono ?_; rintro y w8 ⟨A8, c8, rfl, h8, hd⟩; have KQ := Aside0.mk h8; have HB8 := Aside0.mk (below_step uB hd); have HC8 := Aside0.mk (Kd.C_below HC.out hd); clear hd h8 HB7 HU HC)
                  | (go_at_call 44; refine (nat_Bit.calls Ae ce e (((j : Int) + 1) * 4 - 1 - (m : Int)) false _ (HE.out.below uB).1 HE.out.2 HQ2.out).mono ?_; rintro y w9 ⟨rfl, ⟨z9, rfl⟩⟩))
                go_roundg (4 - (m + 1))
                case measure => omega
                case rel => exact ⟨m + 1, o1, A8, c8, d, rfl, rfl, by go_num, by omega, by omega, hd0, hd1, dig_step (by omega) hd2, HK4, ⟨(Rd.of (n := 0) KQ.out).below (by repeat (first | exact Below.refl _ _ | apply below_drew | apply pw_below_drewN))⟩, ⟨Kd.C_below HC8.out (by repeat (first | exact Below.refl _ _ | apply below_drew | apply pw_below_drewN))⟩, ⟨uB⟩⟩
            · have hlmz : ¬ (m : Int) < 4 := by omega
              obtain rfl : m = 4 := by omega
              obtain ⟨rfl, rfl⟩ : u = o2 ∧ d = d2 := by have h := Option.some.inj HK.out; exact ⟨congrArg Prod.fst h, congrArg Prod.snd h⟩
              obtain ⟨ad, c1, hA, _, hKK, hc⟩ := Kd.C_get HC.out ([] : List Int) d hd0 (by omega)
              obtain ⟨A1, c1, rfl, hl1, hi1⟩ := hKK
              subst hA
              have hcell := hc 0 _ rfl
              rw [Nat.add_zero, show (Kd.slice 50 (Kd.int .u64)).sz = 1 from rfl, Nat.mul_one] at hcell
              have hk2 := HK2.out
              generalize hx : P.getD d.toNat [] = x at hcell hl1 hi1 hk2
              have HX := Aside0.mk (show Rd wr A1 c1 x from ⟨hi1, hl1⟩)
              have HK5 := Aside0.mk hk2
              clear hc hl1 hi1 HK hk2 HK2 hx
              go_wp2_with (go_at_call 37; refine (PROD.out _ u x q2 Au cu A1 c1 uB HU.out HX.out HK5.out).mono ?_; rintro y w8 ⟨A8, c8, rfl, h8, hd⟩; have KQ := Aside0.mk h8; have HB8 := Aside0.mk (below_step uB hd); have HC8 := Aside0.mk (Kd.C_below HC.out hd); clear hd h8 HB7 HU HC)
              go_roundg j
              case measure => omega
              case rel => exact ⟨j, q2, A8, c8, rfl, by go_num, by omega, Nat.le_refl _, HK3, ⟨Rd.of (n := 0) KQ.out⟩, HC8, HB8⟩
        · have hltz : ¬ (0 : Int) < (j : Int) := by omega
          obtain rfl : j = 0 := by omega
          obtain rfl : u = o := Option.some.inj HK.out
          clear HK HC hg hj
          go_wp2_with (first
            | ((with_reducible refine gate_dst (N := 101) rfl ?_); refine Kd.R_lit (Kd.int .u64) _ 50 ?hg (N := 101) ?hd (xs := ([1] : List Int)) (inner := [.int .u64 1]) (ok := fun _ => True) (okp := fun _ => True) ?hr ?hp (fun _ hk => hk) trivial (Below.refl _ _) (Nat.le_refl _) (by simp) ?_; (case hd => rfl); (case hg => rfl); (case hr => first | (go_simp; done) | (go_simp; rfl)); (case hp => exact (Reps.one (show Kd.M (Kd.int .u64) _ _ _ 1 [.int .u64 1] from rfl) (Reps.none _ _))); intro v1 w7 ho hb hg_ hnew_; clear hg_ hnew_; obtain ⟨Ax, cx, ex⟩ := Kd.R_slice ho; subst ex; have HL := Aside0.mk (Rd.of (n := 0) ho); have HU7 := Aside0.mk (HU.out.below (below_step (by repeat (first | exact Below.refl _ _ | apply below_drew | apply pw_below_drewN)) hb)); have HB7 := Aside0.mk (below_step uB hb); clear HB6 hb ho HU)
            | (go_at_call 37; refine (PROD.out _ u [1] q Au cu Ax cx uB HU7.out HL.out K5.out).mono ?_; rintro y w8 ⟨A8, c8, rfl, h8, hd⟩; have KQ := Aside0.mk h8; have HB8 := Aside0.mk (below_step uB hd); clear hd h8 HB7))
          go_ret2
          exact ⟨_, _, rfl, Rd.of (n := 0) KQ.out, HB8.out⟩
set_option maxHeartbeats 8000000 in
set_option maxRecDepth 100000 in
theorem mont_Exp.bad (k : Nat) (g : Nat) (n one next a e : List Int) (minus : Int) (Aa : Option Addr) (ca : Nat) (Ae : Option Addr) (ce : Nat) (b r : Bool) (w : World) (hR : RingAt w g n one next minus) (ha : Rd w Aa ca a) (he : Rd w Ae ce e) (hb : mont_below.f k n [a] = some b) (hr : nat_Right.f e = some r) (hc : ¬ (b = true ∧ r = true ∧ e.length ≤ 8)) :
    Calls Try.prog 21 #[.pointer (some ⟨g, 0, none⟩), .slice Aa a.length ca, .slice Ae e.length ce] w fun x w' => x = .returned (.tuple #[.slice none 0 0, .int .i64 1]) ∧ Below w.heap.size w w' := by
  have HRR := Aside0.mk hR
  have HA := Aside0.mk ha
  have HE := Aside0.mk he
  have HT := Aside0.mk hb
  have HRI := Aside0.mk hr
  have HB := Aside0.mk (Below.refl w.heap.size w)
  have key : b = false ∨ b = true ∧ (r = false ∨ r = true ∧ decide ((8 : Int) < (e.length : Int)) = true) := by
    cases b with
    | false => exact .inl rfl
    | true =>
      refine .inr ⟨rfl, ?_⟩
      cases r with
      | false => exact .inl rfl
      | true => exact .inr ⟨rfl, decide_eq_true (by have h2 : ¬ e.length ≤ 8 := fun h => hc ⟨rfl, rfl, h⟩; omega)⟩
  clear hR ha he hb hr hc
  rcases key with rfl | ⟨rfl, rfl | ⟨rfl, hl8⟩⟩
  all_goals
    go_enter Try.func21, Try.ntmps21
    go_wp2_with (first
      | ((with_reducible refine gate_dst (N := 17) rfl ?_); refine Kd.N_lit (Kd.slice 50 (Kd.int .u64)) _ 23 ?hg (N' := 17) ?hd (xs := ([a] : List (List Int))) (inner := [.slice Aa a.length ca]) (ok := fun _ => True) (okp := fun _ => True) ?hr ?hp (fun _ hk => hk) trivial (Below.refl _ _) (Nat.le_refl _) (by simp) ?_; (case hd => rfl); (case hg => rfl); (case hr => first | (go_simp; done) | (go_simp; rfl)); (case hp => exact Reps.one (HA.out.below uB).one (Reps.none _ _)); intro v1 w1 ho hb hg_ hnew_; clear hg_ hnew_; obtain ⟨A1, c1, e1⟩ := Kd.N_slice ho; subst e1; have HL1 := Aside0.mk ho; have HB1 := Aside0.mk (below_step uB hb); clear HB hb ho)
      | (go_at_call 36; refine (mont_below.calls k g n one next minus A1 c1 [a] _ _ (HRR.out.below uB) (Kd.N_reads' HL1.out).2.2 (Kd.N_reads' HL1.out).2.1 HT.out).mono ?_; rintro x w2 ⟨rfl, hd⟩; have HB2 := Aside0.mk (below_step uB hd); clear HB1 hd HL1)
      | (go_at_call 42; refine (nat_Right.calls Ae ce e _ _ (HE.out.below uB).1 HE.out.2 HRI.out).mono ?_; rintro x w' ⟨rfl, ⟨z_, rfl⟩⟩))
    go_ret2
    exact ⟨rfl, uB⟩
theorem mont_Exp.calls (k : Nat) (g : Nat) (n one next a e : List Int) (minus : Int) (Aa : Option Addr) (ca : Nat) (Ae : Option Addr) (ce : Nat) (q : List Int) (s : Int) (w : World) (hR : RingAt w g n one next minus) (ha : Rd w Aa ca a) (he : Rd w Ae ce e) (hn : n.length ≤ 1000) (h : mont_Exp.f k n one next minus a e = some (q, s)) :
    Calls Try.prog 21 #[.pointer (some ⟨g, 0, none⟩), .slice Aa a.length ca, .slice Ae e.length ce] w fun x w' => ∃ A c, x = .returned (.tuple #[.slice A q.length c, .int .i64 s]) ∧ Rd w' A c q ∧ Below w.heap.size w w' := by
  unfold mont_Exp.f at h
  obtain ⟨b, hb, h⟩ := Option.bind_eq_some_iff.mp h
  obtain ⟨r, hr, h⟩ := Option.bind_eq_some_iff.mp h
  by_cases hc : b = true ∧ r = true ∧ e.length ≤ 8
  · rw [if_pos hc] at h
    obtain ⟨first, h1, h⟩ := Option.bind_eq_some_iff.mp h
    obtain ⟨PW, h2, h⟩ := Option.bind_eq_some_iff.mp h
    obtain ⟨z, h3, h⟩ := Option.bind_eq_some_iff.mp h
    by_cases hz : 0 ≤ z ∧ z ≤ 1000
    · rw [if_pos hz] at h
      obtain ⟨o, h4, h⟩ := Option.bind_eq_some_iff.mp h
      obtain ⟨q', h5, h⟩ := Option.bind_eq_some_iff.mp h
      simp only [Option.some.injEq, Prod.mk.injEq] at h
      obtain ⟨rfl, rfl⟩ := h
      obtain ⟨zn, rfl⟩ := Int.eq_ofNat_of_zero_le hz.1
      obtain ⟨rfl, rfl, hle⟩ := hc
      exact mont_Exp.good k g n one next a e minus Aa ca Ae ce first PW zn o q' w hR ha he hn hle hb hr h1 h2 h3 (by omega) h4 h5
    · rw [if_neg hz] at h
      exact absurd h (by simp)
  · rw [if_neg hc] at h
    simp only [Option.some.injEq, Prod.mk.injEq] at h
    obtain ⟨rfl, rfl⟩ := h
    refine (mont_Exp.bad k g n one next a e minus Aa ca Ae ce b r w hR ha he hb hr hc).mono ?_
    rintro x w' ⟨rfl, hd⟩
    exact ⟨none, 0, rfl, Rd.nil _, hd⟩
end Go.Proofs.Ytlkinjhmgljapaa.F
end
section
namespace Go.Proofs.Ytlkinjhmgljapaa.F
open Go.RowKit Go.Proofs.YtlkinjhmgljapaaW.PrintWords Go.Proofs.YtlkinjhmgljapaaW.PrintLast Go.Proofs.YtlkinjhmgljapaaW.PrintMore
attribute [local go_sem] max2_int min2_int max_two min_two max_three min_three max_four min_four
set_option linter.unusedVariables false
set_option linter.unusedSimpArgs false
mutual
def bits_Div64.j2 : Nat → Int → Int → Int → Int → Int → Int → Int → Int → Option (Int × Int)
 | 0, _, _, _, _, _, _, _, _ => none
 | k + 1, x2, x8, x9, x10, x11, x13, x14, x15 => if x9 = 0 then (none) else (bits_Div64.l1 k x2 x8 x9 x10 x14 x15 (IntKind.u64.wrap ((IntKind.u64.wrap ((IntKind.u64.wrap ((IntKind.u64.wrap (x11 * 4294967296)) + x13)) - (IntKind.u64.wrap (x15 * x2)))) - (IntKind.u64.wrap ((IntKind.u64.wrap (Int.tdiv (IntKind.u64.wrap ((IntKind.u64.wrap ((IntKind.u64.wrap (x11 * 4294967296)) + x13)) - (IntKind.u64.wrap (x15 * x2)))) x9)) * x9)))) (IntKind.u64.wrap ((IntKind.u64.wrap ((IntKind.u64.wrap (x11 * 4294967296)) + x13)) - (IntKind.u64.wrap (x15 * x2)))) (IntKind.u64.wrap (Int.tdiv (IntKind.u64.wrap ((IntKind.u64.wrap ((IntKind.u64.wrap (x11 * 4294967296)) + x13)) - (IntKind.u64.wrap (x15 * x2)))) x9)))
def bits_Div64.l1 : Nat → Int → Int → Int → Int → Int → Int → Int → Int → Int → Option (Int × Int)
 | 0, _, _, _, _, _, _, _, _, _ => none
 | k + 1, x2, x8, x9, x10, x14, x15, x16, x17, x18 => if x18 ≥ 4294967296 then (bits_Div64.j4 k x2 x8 x9 x10 x14 x15 x16 x17 x18 true) else (bits_Div64.j4 k x2 x8 x9 x10 x14 x15 x16 x17 x18 (decide ((IntKind.u64.wrap (x18 * x10)) > (IntKind.u64.wrap ((IntKind.u64.wrap (4294967296 * x16)) + x14)))))
def bits_Div64.j4 : Nat → Int → Int → Int → Int → Int → Int → Int → Int → Int → Bool → Option (Int × Int)
 | 0, _, _, _, _, _, _, _, _, _, _ => none
 | k + 1, x2, x8, x9, x10, x14, x15, x16, x17, x18, x113 => if x113 = true then (if (IntKind.u64.wrap (x16 + x9)) ≥ 4294967296 then (if 0 ≤ x8 then (some (IntKind.u64.wrap ((IntKind.u64.wrap (x15 * 4294967296)) + (IntKind.u64.wrap (x18 - 1))), shr .u64 (IntKind.u64.wrap ((IntKind.u64.wrap ((IntKind.u64.wrap (x17 * 4294967296)) + x14)) - (IntKind.u64.wrap ((IntKind.u64.wrap (x18 - 1)) * x2)))) x8)) else (none)) else (bits_Div64.l1 k x2 x8 x9 x10 x14 x15 (IntKind.u64.wrap (x16 + x9)) x17 (IntKind.u64.wrap (x18 - 1)))) else (if 0 ≤ x8 then (some (IntKind.u64.wrap ((IntKind.u64.wrap (x15 * 4294967296)) + x18), shr .u64 (IntKind.u64.wrap ((IntKind.u64.wrap ((IntKind.u64.wrap (x17 * 4294967296)) + x14)) - (IntKind.u64.wrap (x18 * x2)))) x8)) else (none))
def bits_Div64.l0 : Nat → Int → Int → Int → Int → Int → Int → Int → Int → Int → Option (Int × Int)
 | 0, _, _, _, _, _, _, _, _, _ => none
 | k + 1, x2, x8, x9, x10, x11, x13, x14, x15, x16 => if x15 ≥ 4294967296 then (bits_Div64.j1 k x2 x8 x9 x10 x11 x13 x14 x15 x16 true) else (bits_Div64.j1 k x2 x8 x9 x10 x11 x13 x14 x15 x16 (decide ((IntKind.u64.wrap (x15 * x10)) > (IntKind.u64.wrap ((IntKind.u64.wrap (4294967296 * x16)) + x13)))))
def bits_Div64.j1 : Nat → Int → Int → Int → Int → Int → Int → Int → Int → Int → Bool → Option (Int × Int)
 | 0, _, _, _, _, _, _, _, _, _, _ => none
 | k + 1, x2, x8, x9, x10, x11, x13, x14, x15, x16, x78 => if x78 = true then (if (IntKind.u64.wrap (x16 + x9)) ≥ 4294967296 then (bits_Div64.j2 k x2 x8 x9 x10 x11 x13 x14 (IntKind.u64.wrap (x15 - 1))) else (bits_Div64.l0 k x2 x8 x9 x10 x11 x13 x14 (IntKind.u64.wrap (x15 - 1)) (IntKind.u64.wrap (x16 + x9)))) else (bits_Div64.j2 k x2 x8 x9 x10 x11 x13 x14 x15)
end
def bits_Div64.f (k : Nat) (a0 : Int) (a1 : Int) (a2 : Int) : Option (Int × Int) := if a2 = 0 then (none) else (if a2 ≤ a0 then (none) else (if a0 = 0 then (some (IntKind.u64.wrap (Int.tdiv a1 a2), Int.tmod a1 a2)) else ((bits_LeadingZeros64.f k a2).bind fun t126 => (if 0 ≤ (IntKind.u64.wrap (t126)) then (if 0 ≤ (IntKind.u64.wrap (64 - (IntKind.u64.wrap (t126)))) then (if ((shl .u64 a2 (IntKind.u64.wrap (t126))) / 4294967296) = 0 then (none) else (bits_Div64.l0 k (shl .u64 a2 (IntKind.u64.wrap (t126))) (IntKind.u64.wrap (t126)) ((shl .u64 a2 (IntKind.u64.wrap (t126))) / 4294967296) (Go.bits .and .u64 (shl .u64 a2 (IntKind.u64.wrap (t126))) 4294967295) (Go.bits .or .u64 (shl .u64 a0 (IntKind.u64.wrap (t126))) (shr .u64 a1 (IntKind.u64.wrap (64 - (IntKind.u64.wrap (t126)))))) ((shl .u64 a1 (IntKind.u64.wrap (t126))) / 4294967296) (Go.bits .and .u64 (shl .u64 a1 (IntKind.u64.wrap (t126))) 4294967295) (IntKind.u64.wrap (Int.tdiv (Go.bits .or .u64 (shl .u64 a0 (IntKind.u64.wrap (t126))) (shr .u64 a1 (IntKind.u64.wrap (64 - (IntKind.u64.wrap (t126)))))) ((shl .u64 a2 (IntKind.u64.wrap (t126))) / 4294967296))) (IntKind.u64.wrap ((Go.bits .or .u64 (shl .u64 a0 (IntKind.u64.wrap (t126))) (shr .u64 a1 (IntKind.u64.wrap (64 - (IntKind.u64.wrap (t126)))))) - (IntKind.u64.wrap ((IntKind.u64.wrap (Int.tdiv (Go.bits .or .u64 (shl .u64 a0 (IntKind.u64.wrap (t126))) (shr .u64 a1 (IntKind.u64.wrap (64 - (IntKind.u64.wrap (t126)))))) ((shl .u64 a2 (IntKind.u64.wrap (t126))) / 4294967296))) * ((shl .u64 a2 (IntKind.u64.wrap (t126))) / 4294967296))))))) else (none)) else (none)))))
set_option maxHeartbeats 8000000 in
set_option maxRecDepth 100000 in
theorem bits_Div64.calls (k : Nat) (a0 : Int) (a1 : Int) (a2 : Int) (r1 : Int) (r2 : Int) (w : World) (h : bits_Div64.f k a0 a1 a2 = some (r1, r2)) :
  Calls Try.prog 122 #[.int .u64 a0, .int .u64 a1, .int .u64 a2] w fun e w' => e = .returned (.tuple #[.int .u64 r1, .int .u64 r2]) ∧ Drawn0 w w' := by
 have H : (if a2 = 0 then (none) else (if a2 ≤ a0 then (none) else (if a0 = 0 then (some (IntKind.u64.wrap (Int.tdiv a1 a2), Int.tmod a1 a2)) else ((bits_LeadingZeros64.f k a2).bind fun t126 => (if 0 ≤ (IntKind.u64.wrap (t126)) then (if 0 ≤ (IntKind.u64.wrap (64 - (IntKind.u64.wrap (t126)))) then (if ((shl .u64 a2 (IntKind.u64.wrap (t126))) / 4294967296) = 0 then (none) else (bits_Div64.l0 k (shl .u64 a2 (IntKind.u64.wrap (t126))) (IntKind.u64.wrap (t126)) ((shl .u64 a2 (IntKind.u64.wrap (t126))) / 4294967296) (Go.bits .and .u64 (shl .u64 a2 (IntKind.u64.wrap (t126))) 4294967295) (Go.bits .or .u64 (shl .u64 a0 (IntKind.u64.wrap (t126))) (shr .u64 a1 (IntKind.u64.wrap (64 - (IntKind.u64.wrap (t126)))))) ((shl .u64 a1 (IntKind.u64.wrap (t126))) / 4294967296) (Go.bits .and .u64 (shl .u64 a1 (IntKind.u64.wrap (t126))) 4294967295) (IntKind.u64.wrap (Int.tdiv (Go.bits .or .u64 (shl .u64 a0 (IntKind.u64.wrap (t126))) (shr .u64 a1 (IntKind.u64.wrap (64 - (IntKind.u64.wrap (t126)))))) ((shl .u64 a2 (IntKind.u64.wrap (t126))) / 4294967296))) (IntKind.u64.wrap ((Go.bits .or .u64 (shl .u64 a0 (IntKind.u64.wrap (t126))) (shr .u64 a1 (IntKind.u64.wrap (64 - (IntKind.u64.wrap (t126)))))) - (IntKind.u64.wrap ((IntKind.u64.wrap (Int.tdiv (Go.bits .or .u64 (shl .u64 a0 (IntKind.u64.wrap (t126))) (shr .u64 a1 (IntKind.u64.wrap (64 - (IntKind.u64.wrap (t126)))))) ((shl .u64 a2 (IntKind.u64.wrap (t126))) / 4294967296))) * ((shl .u64 a2 (IntKind.u64.wrap (t126))) / 4294967296))))))) else (none)) else (none)))))) = some (r1, r2) := h
 clear h
 replace H := uE H; obtain ⟨c4, H⟩ := H
 have c4b0 : (a2 == 0) = false := beq_eq_false_iff_ne.mpr c4
 have c4b1 : (a2 != 0) = true := bne_iff_ne.mpr c4
 replace H := uE H; obtain ⟨c5, H⟩ := H
 have c5b0 : decide (a2 ≤ a0) = false := decide_eq_false c5
 clear c5
 by_cases c6 : a0 = 0
 ·
  rw [if_pos c6] at H
  have c6b0 : (a0 == 0) = true := beq_iff_eq.mpr c6
  have c6b1 : (a0 != 0) = false := bne_eq_false_iff_eq.mpr c6
  clear c6
  simp only [Option.some.injEq, Prod.mk.injEq] at H
  obtain ⟨rfl, rfl⟩ := H
  go_enter Try.func122, Try.ntmps122
  go_wp2
  repeat (go_quiet (fail); try go_wp2)
  go_ret2
  exact ⟨by first | rfl | (simp; done) | (simp [*]; done), by repeat (first | exact Drawn0.refl _ | apply Drawn0.step)⟩
 rw [if_neg c6] at H
 have c6b0 : (a0 == 0) = false := beq_eq_false_iff_ne.mpr c6
 have c6b1 : (a0 != 0) = true := bne_iff_ne.mpr c6
 replace H := ub H; obtain ⟨t126, A7, H⟩ := H
 obtain ⟨ji8, hji8⟩ : ∃ j_ : Int, (IntKind.u64.wrap (t126)) = j_ := ⟨_, rfl⟩
 first | rw [hji8] at H | simp only [hji8] at H
 (try rw [hji8] at A7)
 replace H := uT H; obtain ⟨c9, H⟩ := H
 have c9b0 := eq_true c9
 have c9b1 : decide (0 ≤ (ji8)) = true := decide_eq_true c9
 clear c9
 obtain ⟨ji10, hji10⟩ : ∃ j_ : Int, (shl .u64 a2 (ji8)) = j_ := ⟨_, rfl⟩
 first | rw [hji10] at H | simp only [hji10] at H
 (try rw [hji10] at A7)
 have hji10_ : (IntKind.u64.wrap (a2 * 2 ^ min (ji8).toNat 64)) = ji10 := hji10
 have hji10z : (ji8) ≤ 64 → (IntKind.u64.wrap (a2 * 2 ^ (ji8).toNat)) = ji10 := shl_small hji10
 have c11b0 := eq_true (uO : 0 ≤ (ji8))
 obtain ⟨ji12, hji12⟩ : ∃ j_ : Int, (shl .u64 a0 (ji8)) = j_ := ⟨_, rfl⟩
 first | rw [hji12] at H | simp only [hji12] at H
 (try rw [hji12] at A7)
 have hji12_ : (IntKind.u64.wrap (a0 * 2 ^ min (ji8).toNat 64)) = ji12 := hji12
 have hji12z : (ji8) ≤ 64 → (IntKind.u64.wrap (a0 * 2 ^ (ji8).toNat)) = ji12 := shl_small hji12
 obtain ⟨ji13, hji13⟩ : ∃ j_ : Int, (IntKind.u64.wrap (64 - (ji8))) = j_ := ⟨_, rfl⟩
 first | rw [hji13] at H | simp only [hji13] at H
 (try rw [hji13] at A7)
 replace H := uT H; obtain ⟨c14, H⟩ := H
 have c14b0 := eq_true c14
 have c14b1 : decide (0 ≤ (ji13)) = true := decide_eq_true c14
 clear c14
 obtain ⟨ji15, hji15⟩ : ∃ j_ : Int, (shr .u64 a1 (ji13)) = j_ := ⟨_, rfl⟩
 first | rw [hji15] at H | simp only [hji15] at H
 (try rw [hji15] at A7)
 have hji15_ : (a1 / 2 ^ min (ji13).toNat 64) = ji15 := hji15
 have hji15z : (ji13) ≤ 64 → (a1 / 2 ^ (ji13).toNat) = ji15 := shr_small hji15
 have c16b0 := eq_true (uO : 0 ≤ (ji8))
 obtain ⟨ji17, hji17⟩ : ∃ j_ : Int, (shl .u64 a1 (ji8)) = j_ := ⟨_, rfl⟩
 first | rw [hji17] at H | simp only [hji17] at H
 (try rw [hji17] at A7)
 have hji17_ : (IntKind.u64.wrap (a1 * 2 ^ min (ji8).toNat 64)) = ji17 := hji17
 have hji17z : (ji8) ≤ 64 → (IntKind.u64.wrap (a1 * 2 ^ (ji8).toNat)) = ji17 := shl_small hji17
 replace H := uE H; obtain ⟨c18, H⟩ := H
 have c18b0 : (((ji10) / 4294967296) == 0) = false := beq_eq_false_iff_ne.mpr c18
 have c18b1 : (((ji10) / 4294967296) != 0) = true := bne_iff_ne.mpr c18
 have HC19 := Aside0.mk H; clear H
 go_enter Try.func122, Try.ntmps122
 go_upto_block 0 with (first | (go_at_call 123; (with_reducible refine (bits_LeadingZeros64.calls k a2 t126 _ A7.out).mono ?_); rintro e w' ⟨rfl, ⟨nd, rfl⟩⟩; (try first | exact ⟨rfl, _, World.drewN_drewN _ _ _⟩ | exact ⟨rfl, _, Eq.trans (World.drewN_drewN _ _ _) (congrArg (World.drewN _) (Nat.add_assoc _ _ _))⟩)))
 repeat (go_quiet (first | (go_at_call 123; (with_reducible refine (bits_LeadingZeros64.calls k a2 t126 _ A7.out).mono ?_); rintro e w' ⟨rfl, ⟨nd, rfl⟩⟩; (try first | exact ⟨rfl, _, World.drewN_drewN _ _ _⟩ | exact ⟨rfl, _, Eq.trans (World.drewN_drewN _ _ _) (congrArg (World.drewN _) (Nat.add_assoc _ _ _))⟩))); go_upto_block 0 with (first | (go_at_call 123; (with_reducible refine (bits_LeadingZeros64.calls k a2 t126 _ A7.out).mono ?_); rintro e w' ⟨rfl, ⟨nd, rfl⟩⟩; (try first | exact ⟨rfl, _, World.drewN_drewN _ _ _⟩ | exact ⟨rfl, _, Eq.trans (World.drewN_drewN _ _ _) (congrArg (World.drewN _) (Nat.add_assoc _ _ _))⟩))))
 (try simp only [Act.put, List.setIfInBounds_toArray, List.set_cons_zero, List.set_cons_succ])
 go_cut [15] (fun v15 wc => ∃ (kq : Nat) (x15_18 : Int), v15 = .int .u64 x15_18 ∧ Aside0 (bits_Div64.j2 kq ji10 ji8 ((ji10) / 4294967296) (Go.bits .and .u64 (ji10) 4294967295) (Go.bits .or .u64 (ji12) (ji15)) ((ji17) / 4294967296) (Go.bits .and .u64 (ji17) 4294967295) x15_18 = some (r1, r2)) ∧ Aside0 (kq ≤ k) ∧ Drawn0 w wc)
 case first =>
  have H := HC19.out
  clear HC19
  have H' := Aside0.mk H
  clear H
  go_wp2
  repeat (go_quiet (fail); try go_wp2)
  go_loopg [15, 16] k (fun kq v15 v16 w' => ∃ (x15_1 : Int) (x16_1 : Int), v15 = .int .u64 x15_1 ∧ v16 = .int .u64 x16_1 ∧ Aside0 (bits_Div64.l0 kq ji10 ji8 ((ji10) / 4294967296) (Go.bits .and .u64 (ji10) 4294967295) (Go.bits .or .u64 (ji12) (ji15)) ((ji17) / 4294967296) (Go.bits .and .u64 (ji17) 4294967295) x15_1 x16_1 = some (r1, r2)) ∧ Aside0 (kq ≤ k) ∧ Drawn0 w w')
  case atStart => exact ⟨(IntKind.u64.wrap (Int.tdiv (Go.bits .or .u64 (ji12) (ji15)) ((ji10) / 4294967296))), (IntKind.u64.wrap ((Go.bits .or .u64 (ji12) (ji15)) - (IntKind.u64.wrap ((IntKind.u64.wrap (Int.tdiv (Go.bits .or .u64 (ji12) (ji15)) ((ji10) / 4294967296))) * ((ji10) / 4294967296))))), (by first | rfl | (simp; done) | (simp only [← hji10, ← hji12, ← hji15] <;> (first | rfl | simp)) | (simp [*]; done)), (by first | rfl | (simp; done) | (simp only [← hji10, ← hji12, ← hji15] <;> (first | rfl | simp)) | (simp [*]; done)), H', ⟨Nat.le_refl _⟩, by repeat (first | exact Drawn0.refl _ | apply Drawn0.step)⟩
  case round =>
   clear H'
   (try clear c1); (try clear p2); (try clear c4); (try clear c4b0); (try clear c4b1); (try clear c5); (try clear c5b0); (try clear c6); (try clear c6b0); (try clear c6b1); (try clear c9); (try clear c9b0); (try clear c9b1); (try clear c11); (try clear c11b0); (try clear c12); (try clear c14); (try clear c14b0); (try clear c14b1); (try clear c16); (try clear c16b0); (try clear c18); (try clear c18b0); (try clear c18b1)
   obtain ⟨x15_1, x16_1, rfl, rfl, HA, HK1, ⟨m1, rfl⟩⟩ := hrel
   cases gk with
   | zero => exact absurd HA.out (by simp [bits_Div64.l0])
   | succ k1 =>
    have H := HA.out
    clear HA
    simp only [bits_Div64.l0] at H
    have HC20 := Aside0.mk H; clear H
    go_upto_region 17 with (fail)
    repeat (go_quiet (fail); go_upto_region 17 with (fail))
    go_cut [78] (fun v78 wc => ∃ (kq : Nat) (x78_19 : Bool), v78 = .bool x78_19 ∧ Aside0 (bits_Div64.j1 kq ji10 ji8 ((ji10) / 4294967296) (Go.bits .and .u64 (ji10) 4294967295) (Go.bits .or .u64 (ji12) (ji15)) ((ji17) / 4294967296) (Go.bits .and .u64 (ji17) 4294967295) x15_1 x16_1 x78_19 = some (r1, r2)) ∧ Aside0 (kq ≤ k1) ∧ Drawn0 w wc)
    case first =>
     have H := HC20.out
     clear HC20
     by_cases c21 : x15_1 ≥ 4294967296
     ·
      rw [if_pos c21] at H
      have c21b0 : decide (4294967296 ≤ x15_1) = true := decide_eq_true c21
      clear c21
      (first | rw [c21b0] | (simp only [i64_w, i32_w]; rw [c21b0]) | skip)
      have H' := Aside0.mk H
      clear H
      go_wp2
      repeat (go_quiet (fail); try go_wp2)
      go_meet
      case rel => exact ⟨_, (true), uG, H', ⟨by have := HK1.out; first | omega | exact Nat.le_refl _⟩, by repeat (first | exact Drawn0.refl _ | apply Drawn0.step)⟩
     rw [if_neg c21] at H
     have c21b0 : decide (4294967296 ≤ x15_1) = false := decide_eq_false c21
     clear c21
     (first | rw [c21b0] | (simp only [i64_w, i32_w]; rw [c21b0]) | skip)
     have H' := Aside0.mk H
     clear H
     go_wp2
     repeat (go_quiet (fail); try go_wp2)
     go_meet
     case rel => exact ⟨_, (decide ((IntKind.u64.wrap (x15_1 * (Go.bits .and .u64 (ji10) 4294967295))) > (IntKind.u64.wrap ((IntKind.u64.wrap (4294967296 * x16_1)) + ((ji17) / 4294967296))))), (by first | rfl | (simp; done) | (simp only [← hji10, ← hji17] <;> (first | rfl | simp)) | (simp [*]; done)), H', ⟨by have := HK1.out; first | omega | exact Nat.le_refl _⟩, by repeat (first | exact Drawn0.refl _ | apply Drawn0.step)⟩
    case rest =>
     clear HC20; (try clear c1); (try clear c2); (try clear p2); (try clear c4); (try clear c4b0); (try clear c4b1); (try clear c5); (try clear c5b0); (try clear c6); (try clear c6b0); (try clear c6b1); (try clear c9); (try clear c9b0); (try clear c9b1); (try clear c11); (try clear c11b0); (try clear c12); (try clear c14); (try clear c14b0); (try clear c14b1); (try clear c16); (try clear c16b0); (try clear c18); (try clear c18b0); (try clear c18b1); (try clear c21); (try clear c21b0); (try clear p2)
     obtain ⟨kq, x78_19, rfl, HA, HJ19, ⟨mc19, rfl⟩⟩ := hcut
     cases kq with
     | zero => exact absurd HA.out (by simp [bits_Div64.j1])
     | succ kj19 =>
      have H := HA.out
      clear HA
      simp only [bits_Div64.j1] at H
      by_cases c22 : x78_19 = true
      ·
       subst c22
       have H1 : (if (IntKind.u64.wrap (x16_1 + ((ji10) / 4294967296))) ≥ 4294967296 then (bits_Div64.j2 kj19 ji10 ji8 ((ji10) / 4294967296) (Go.bits .and .u64 (ji10) 4294967295) (Go.bits .or .u64 (ji12) (ji15)) ((ji17) / 4294967296) (Go.bits .and .u64 (ji17) 4294967295) (IntKind.u64.wrap (x15_1 - 1))) else (bits_Div64.l0 kj19 ji10 ji8 ((ji10) / 4294967296) (Go.bits .and .u64 (ji10) 4294967295) (Go.bits .or .u64 (ji12) (ji15)) ((ji17) / 4294967296) (Go.bits .and .u64 (ji17) 4294967295) (IntKind.u64.wrap (x15_1 - 1)) (IntKind.u64.wrap (x16_1 + ((ji10) / 4294967296))))) = some (r1, r2) := by rw [if_pos rfl] at H; exact H
       clear H; have H := H1; clear H1
       by_cases c23 : (IntKind.u64.wrap (x16_1 + ((ji10) / 4294967296))) ≥ 4294967296
       ·
        rw [if_pos c23] at H
        have c23b0 : decide (4294967296 ≤ (IntKind.u64.wrap (x16_1 + ((ji10) / 4294967296)))) = true := decide_eq_true c23
        clear c23
        have H' := Aside0.mk H
        clear H
        go_wp2
        repeat (go_quiet (fail); try go_wp2)
        go_meet
        case rel => exact ⟨_, (IntKind.u64.wrap (x15_1 - 1)), uG, H', ⟨by have := HK1.out; have := HJ19.out; first | omega | exact Nat.le_refl _⟩, by repeat (first | exact Drawn0.refl _ | apply Drawn0.step)⟩
       rw [if_neg c23] at H
       have c23b0 : decide (4294967296 ≤ (IntKind.u64.wrap (x16_1 + ((ji10) / 4294967296)))) = false := decide_eq_false c23
       clear c23
       have H' := Aside0.mk H
       clear H
       go_wp2
       repeat (go_quiet (fail); try go_wp2)
       first | go_roundg kj19 | ((try simp only [← hji17] at H'); simp only [← hji17]; go_roundg kj19) | ((try simp only [← hji15] at H'); simp only [← hji15]; go_roundg kj19) | ((try simp only [← hji13] at H'); simp only [← hji13]; go_roundg kj19) | ((try simp only [← hji12] at H'); simp only [← hji12]; go_roundg kj19) | ((try simp only [← hji10] at H'); simp only [← hji10]; go_roundg kj19) | ((try simp only [← hji8] at H'); simp only [← hji8]; go_roundg kj19)
       case measure => have := HK1.out; have := HJ19.out; omega
       case rel => first | exact ⟨(IntKind.u64.wrap (x15_1 - 1)), (IntKind.u64.wrap (x16_1 + ((ji10) / 4294967296))), uG, (by first | rfl | (simp; done) | (simp only [← hji10] <;> (first | rfl | simp)) | (simp [*]; done)), H', ⟨by have := HK1.out; have := HJ19.out; omega⟩, by repeat (first | exact Drawn0.refl _ | apply Drawn0.step)⟩ | (simp only [← hji17] at H'; exact ⟨(IntKind.u64.wrap (x15_1 - 1)), (IntKind.u64.wrap (x16_1 + ((ji10) / 4294967296))), uG, (by first | rfl | (simp; done) | (simp only [← hji10] <;> (first | rfl | simp)) | (simp [*]; done)), H', ⟨by have := HK1.out; have := HJ19.out; omega⟩, by repeat (first | exact Drawn0.refl _ | apply Drawn0.step)⟩) | (simp only [← hji15] at H'; exact ⟨(IntKind.u64.wrap (x15_1 - 1)), (IntKind.u64.wrap (x16_1 + ((ji10) / 4294967296))), uG, (by first | rfl | (simp; done) | (simp only [← hji10] <;> (first | rfl | simp)) | (simp [*]; done)), H', ⟨by have := HK1.out; have := HJ19.out; omega⟩, by repeat (first | exact Drawn0.refl _ | apply Drawn0.step)⟩) | (simp only [← hji13] at H'; exact ⟨(IntKind.u64.wrap (x15_1 - 1)), (IntKind.u64.wrap (x16_1 + ((ji10) / 4294967296))), uG, (by first | rfl | (simp; done) | (simp only [← hji10] <;> (first | rfl | simp)) | (simp [*]; done)), H', ⟨by have := HK1.out; have := HJ19.out; omega⟩, by repeat (first | exact Drawn0.refl _ | apply Drawn0.step)⟩) | (simp only [← hji12] at H'; exact ⟨(IntKind.u64.wrap (x15_1 - 1)), (IntKind.u64.wrap (x16_1 + ((ji10) / 4294967296))), uG, (by first | rfl | (simp; done) | (simp only [← hji10] <;> (first | rfl | simp)) | (simp [*]; done)), H', ⟨by have := HK1.out; have := HJ19.out; omega⟩, by repeat (first | exact Drawn0.refl _ | apply Drawn0.step)⟩) | (simp only [← hji10] at H'; exact ⟨(IntKind.u64.wrap (x15_1 - 1)), (IntKind.u64.wrap (x16_1 + ((ji10) / 4294967296))), uG, (by first | rfl | (simp; done) | (simp only [← hji10] <;> (first | rfl | simp)) | (simp [*]; done)), H', ⟨by have := HK1.out; have := HJ19.out; omega⟩, by repeat (first | exact Drawn0.refl _ | apply Drawn0.step)⟩) | (simp only [← hji8] at H'; exact ⟨(IntKind.u64.wrap (x15_1 - 1)), (IntKind.u64.wrap (x16_1 + ((ji10) / 4294967296))), uG, (by first | rfl | (simp; done) | (simp only [← hji10] <;> (first | rfl | simp)) | (simp [*]; done)), H', ⟨by have := HK1.out; have := HJ19.out; omega⟩, by repeat (first | exact Drawn0.refl _ | apply Drawn0.step)⟩)
      replace c22 := Bool.eq_false_iff.mpr c22
      subst c22
      have H1 : (bits_Div64.j2 kj19 ji10 ji8 ((ji10) / 4294967296) (Go.bits .and .u64 (ji10) 4294967295) (Go.bits .or .u64 (ji12) (ji15)) ((ji17) / 4294967296) (Go.bits .and .u64 (ji17) 4294967295) x15_1) = some (r1, r2) := by rw [if_neg (show ¬ (false = true) by decide)] at H; exact H
      clear H; have H := H1; clear H1
      have H' := Aside0.mk H
      clear H
      go_wp2
      repeat (go_quiet (fail); try go_wp2)
      go_meet
      case rel => exact ⟨_, (x15_1), uG, H', ⟨by have := HK1.out; have := HJ19.out; first | omega | exact Nat.le_refl _⟩, by repeat (first | exact Drawn0.refl _ | apply Drawn0.step)⟩
 case rest =>
  clear HC19; (try clear c1); (try clear c2); (try clear p2); (try clear c4); (try clear c4b0); (try clear c4b1); (try clear c5); (try clear c5b0); (try clear c6); (try clear c6b0); (try clear c6b1); (try clear c9); (try clear c9b0); (try clear c9b1); (try clear c11); (try clear c11b0); (try clear c12); (try clear c14); (try clear c14b0); (try clear c14b1); (try clear c16); (try clear c16b0); (try clear c18); (try clear c18b0); (try clear c18b1); (try clear c19); (try clear c21); (try clear c21b0); (try clear c22); (try clear c23); (try clear c23b0); (try clear p2)
  obtain ⟨kq, x15_18, rfl, HA, HJ18, ⟨mc18, rfl⟩⟩ := hcut
  cases kq with
  | zero => exact absurd HA.out (by simp [bits_Div64.j2])
  | succ kj18 =>
   have H := HA.out
   clear HA
   simp only [bits_Div64.j2] at H
   replace H := uE H; obtain ⟨c24, H⟩ := H
   have c24b0 : (((ji10) / 4294967296) == 0) = false := beq_eq_false_iff_ne.mpr c24
   have c24b1 : (((ji10) / 4294967296) != 0) = true := bne_iff_ne.mpr c24
   have H' := Aside0.mk H
   clear H
   go_wp2
   repeat (go_quiet (fail); try go_wp2)
   go_loopg [16, 18] kj18 (fun kq v16 v18 w' => ∃ (x16_2 : Int) (x18_2 : Int), v16 = .int .u64 x16_2 ∧ v18 = .int .u64 x18_2 ∧ Aside0 (bits_Div64.l1 kq ji10 ji8 ((ji10) / 4294967296) (Go.bits .and .u64 (ji10) 4294967295) (Go.bits .and .u64 (ji17) 4294967295) x15_18 x16_2 (IntKind.u64.wrap ((IntKind.u64.wrap ((IntKind.u64.wrap ((Go.bits .or .u64 (ji12) (ji15)) * 4294967296)) + ((ji17) / 4294967296))) - (IntKind.u64.wrap (x15_18 * ji10)))) x18_2 = some (r1, r2)) ∧ Aside0 (kq ≤ kj18) ∧ Drawn0 w w')
   case atStart => exact ⟨(IntKind.u64.wrap ((IntKind.u64.wrap ((IntKind.u64.wrap ((IntKind.u64.wrap ((Go.bits .or .u64 (ji12) (ji15)) * 4294967296)) + ((ji17) / 4294967296))) - (IntKind.u64.wrap (x15_18 * ji10)))) - (IntKind.u64.wrap ((IntKind.u64.wrap (Int.tdiv (IntKind.u64.wrap ((IntKind.u64.wrap ((IntKind.u64.wrap ((Go.bits .or .u64 (ji12) (ji15)) * 4294967296)) + ((ji17) / 4294967296))) - (IntKind.u64.wrap (x15_18 * ji10)))) ((ji10) / 4294967296))) * ((ji10) / 4294967296))))), (IntKind.u64.wrap (Int.tdiv (IntKind.u64.wrap ((IntKind.u64.wrap ((IntKind.u64.wrap ((Go.bits .or .u64 (ji12) (ji15)) * 4294967296)) + ((ji17) / 4294967296))) - (IntKind.u64.wrap (x15_18 * ji10)))) ((ji10) / 4294967296))), (by first | rfl | (simp; done) | (simp only [← hji10, ← hji12, ← hji15, ← hji17] <;> (first | rfl | simp)) | (simp [*]; done)), (by first | rfl | (simp; done) | (simp only [← hji10, ← hji12, ← hji15, ← hji17] <;> (first | rfl | simp)) | (simp [*]; done)), H', ⟨Nat.le_refl _⟩, by repeat (first | exact Drawn0.refl _ | apply Drawn0.step)⟩
   case round =>
    clear H'
    (try clear c1); (try clear c2); (try clear p2); (try clear c4); (try clear c4b0); (try clear c4b1); (try clear c5); (try clear c5b0); (try clear c6); (try clear c6b0); (try clear c6b1); (try clear c9); (try clear c9b0); (try clear c9b1); (try clear c11); (try clear c11b0); (try clear c12); (try clear c14); (try clear c14b0); (try clear c14b1); (try clear c16); (try clear c16b0); (try clear c18); (try clear c18b0); (try clear c18b1); (try clear c19); (try clear c21); (try clear c21b0); (try clear c22); (try clear c23); (try clear c23b0); (try clear c24); (try clear c24b0); (try clear c24b1); (try clear p2)
    obtain ⟨x16_2, x18_2, rfl, rfl, HA, HK2, ⟨m2, rfl⟩⟩ := hrel
    cases gk with
    | zero => exact absurd HA.out (by simp [bits_Div64.l1])
    | succ k2 =>
     have H := HA.out
     clear HA
     simp only [bits_Div64.l1] at H
     have HC25 := Aside0.mk H; clear H
     go_upto_region 24 with (fail)
     repeat (go_quiet (fail); go_upto_region 24 with (fail))
     go_cut [113] (fun v113 wc => ∃ (kq : Nat) (x113_24 : Bool), v113 = .bool x113_24 ∧ Aside0 (bits_Div64.j4 kq ji10 ji8 ((ji10) / 4294967296) (Go.bits .and .u64 (ji10) 4294967295) (Go.bits .and .u64 (ji17) 4294967295) x15_18 x16_2 (IntKind.u64.wrap ((IntKind.u64.wrap ((IntKind.u64.wrap ((Go.bits .or .u64 (ji12) (ji15)) * 4294967296)) + ((ji17) / 4294967296))) - (IntKind.u64.wrap (x15_18 * ji10)))) x18_2 x113_24 = some (r1, r2)) ∧ Aside0 (kq ≤ k2) ∧ Drawn0 w wc)
     case first =>
      have H := HC25.out
      clear HC25
      by_cases c26 : x18_2 ≥ 4294967296
      ·
       rw [if_pos c26] at H
       have c26b0 : decide (4294967296 ≤ x18_2) = true := decide_eq_true c26
       clear c26
       (first | rw [c26b0] | (simp only [i64_w, i32_w]; rw [c26b0]) | skip)
       have H' := Aside0.mk H
       clear H
       go_wp2
       repeat (go_quiet (fail); try go_wp2)
       go_meet
       case rel => exact ⟨_, (true), uG, H', ⟨by have := HJ18.out; have := HK2.out; first | omega | exact Nat.le_refl _⟩, by repeat (first | exact Drawn0.refl _ | apply Drawn0.step)⟩
      rw [if_neg c26] at H
      have c26b0 : decide (4294967296 ≤ x18_2) = false := decide_eq_false c26
      clear c26
      (first | rw [c26b0] | (simp only [i64_w, i32_w]; rw [c26b0]) | skip)
      have H' := Aside0.mk H
      clear H
      go_wp2
      repeat (go_quiet (fail); try go_wp2)
      go_meet
      case rel => exact ⟨_, (decide ((IntKind.u64.wrap (x18_2 * (Go.bits .and .u64 (ji10) 4294967295))) > (IntKind.u64.wrap ((IntKind.u64.wrap (4294967296 * x16_2)) + (Go.bits .and .u64 (ji17) 4294967295))))), (by first | rfl | (simp; done) | (simp only [← hji10, ← hji17] <;> (first | rfl | simp)) | (simp [*]; done)), H', ⟨by have := HJ18.out; have := HK2.out; first | omega | exact Nat.le_refl _⟩, by repeat (first | exact Drawn0.refl _ | apply Drawn0.step)⟩
     case rest =>
      clear HC25; (try clear c1); (try clear c2); (try clear p2); (try clear c4); (try clear c4b0); (try clear c4b1); (try clear c5); (try clear c5b0); (try clear c6); (try clear c6b0); (try clear c6b1); (try clear c9); (try clear c9b0); (try clear c9b1); (try clear c11); (try clear c11b0); (try clear c12); (try clear c14); (try clear c14b0); (try clear c14b1); (try clear c16); (try clear c16b0); (try clear c18); (try clear c18b0); (try clear c18b1); (try clear c19); (try clear c21); (try clear c21b0); (try clear c22); (try clear c23); (try clear c23b0); (try clear c24); (try clear c24b0); (try clear c24b1); (try clear c26); (try clear c26b0); (try clear p2)
      obtain ⟨kq, x113_24, rfl, HA, HJ24, ⟨mc24, rfl⟩⟩ := hcut
      cases kq with
      | zero => exact absurd HA.out (by simp [bits_Div64.j4])
      | succ kj24 =>
       have H := HA.out
       clear HA
       simp only [bits_Div64.j4] at H
       by_cases c27 : x113_24 = true
       ·
        subst c27
        have H1 : (if (IntKind.u64.wrap (x16_2 + ((ji10) / 4294967296))) ≥ 4294967296 then (if 0 ≤ ji8 then (some (IntKind.u64.wrap ((IntKind.u64.wrap (x15_18 * 4294967296)) + (IntKind.u64.wrap (x18_2 - 1))), shr .u64 (IntKind.u64.wrap ((IntKind.u64.wrap ((IntKind.u64.wrap ((IntKind.u64.wrap ((IntKind.u64.wrap ((IntKind.u64.wrap ((Go.bits .or .u64 (ji12) (ji15)) * 4294967296)) + ((ji17) / 4294967296))) - (IntKind.u64.wrap (x15_18 * ji10)))) * 4294967296)) + (Go.bits .and .u64 (ji17) 4294967295))) - (IntKind.u64.wrap ((IntKind.u64.wrap (x18_2 - 1)) * ji10)))) ji8)) else (none)) else (bits_Div64.l1 kj24 ji10 ji8 ((ji10) / 4294967296) (Go.bits .and .u64 (ji10) 4294967295) (Go.bits .and .u64 (ji17) 4294967295) x15_18 (IntKind.u64.wrap (x16_2 + ((ji10) / 4294967296))) (IntKind.u64.wrap ((IntKind.u64.wrap ((IntKind.u64.wrap ((Go.bits .or .u64 (ji12) (ji15)) * 4294967296)) + ((ji17) / 4294967296))) - (IntKind.u64.wrap (x15_18 * ji10)))) (IntKind.u64.wrap (x18_2 - 1)))) = some (r1, r2) := by rw [if_pos rfl] at H; exact H
        clear H; have H := H1; clear H1
        by_cases c28 : (IntKind.u64.wrap (x16_2 + ((ji10) / 4294967296))) ≥ 4294967296
        ·
         rw [if_pos c28] at H
         have c28b0 : decide (4294967296 ≤ (IntKind.u64.wrap (x16_2 + ((ji10) / 4294967296)))) = true := decide_eq_true c28
         clear c28
         replace H := uT H; obtain ⟨c29, H⟩ := H
         have c29b0 := eq_true c29
         have c29b1 : decide (0 ≤ ji8) = true := decide_eq_true c29
         clear c29
         obtain ⟨ji30, hji30⟩ : ∃ j_ : Int, (shr .u64 (IntKind.u64.wrap ((IntKind.u64.wrap ((IntKind.u64.wrap ((IntKind.u64.wrap ((IntKind.u64.wrap ((IntKind.u64.wrap ((Go.bits .or .u64 (ji12) (ji15)) * 4294967296)) + ((ji17) / 4294967296))) - (IntKind.u64.wrap (x15_18 * ji10)))) * 4294967296)) + (Go.bits .and .u64 (ji17) 4294967295))) - (IntKind.u64.wrap ((IntKind.u64.wrap (x18_2 - 1)) * ji10)))) ji8) = j_ := ⟨_, rfl⟩
         first | rw [hji30] at H | simp only [hji30] at H
         have hji30_ : ((IntKind.u64.wrap ((IntKind.u64.wrap ((IntKind.u64.wrap ((IntKind.u64.wrap ((IntKind.u64.wrap ((IntKind.u64.wrap ((Go.bits .or .u64 (ji12) (ji15)) * 4294967296)) + ((ji17) / 4294967296))) - (IntKind.u64.wrap (x15_18 * ji10)))) * 4294967296)) + (Go.bits .and .u64 (ji17) 4294967295))) - (IntKind.u64.wrap ((IntKind.u64.wrap (x18_2 - 1)) * ji10)))) / 2 ^ min ji8.toNat 64) = ji30 := hji30
         have hji30z : ji8 ≤ 64 → ((IntKind.u64.wrap ((IntKind.u64.wrap ((IntKind.u64.wrap ((IntKind.u64.wrap ((IntKind.u64.wrap ((IntKind.u64.wrap ((Go.bits .or .u64 (ji12) (ji15)) * 4294967296)) + ((ji17) / 4294967296))) - (IntKind.u64.wrap (x15_18 * ji10)))) * 4294967296)) + (Go.bits .and .u64 (ji17) 4294967295))) - (IntKind.u64.wrap ((IntKind.u64.wrap (x18_2 - 1)) * ji10)))) / 2 ^ ji8.toNat) = ji30 := shr_small hji30
         simp only [Option.some.injEq, Prod.mk.injEq] at H
         obtain ⟨rfl, rfl⟩ := H
         go_wp2
         repeat (go_quiet (fail); try go_wp2)
         go_ret2
         exact ⟨by first | rfl | (simp; done) | (simp only [← hji8, ← hji10, ← hji12, ← hji13, ← hji15, ← hji17, ← hji30] <;> (first | rfl | simp)) | (simp [*]; done), by repeat (first | exact Drawn0.refl _ | apply Drawn0.step)⟩
        rw [if_neg c28] at H
        have c28b0 : decide (4294967296 ≤ (IntKind.u64.wrap (x16_2 + ((ji10) / 4294967296)))) = false := decide_eq_false c28
        clear c28
        have H' := Aside0.mk H
        clear H
        go_wp2
        repeat (go_quiet (fail); try go_wp2)
        first | go_roundg kj24 | ((try simp only [← hji30] at H'); simp only [← hji30]; go_roundg kj24) | ((try simp only [← hji17] at H'); simp only [← hji17]; go_roundg kj24) | ((try simp only [← hji15] at H'); simp only [← hji15]; go_roundg kj24) | ((try simp only [← hji13] at H'); simp only [← hji13]; go_roundg kj24) | ((try simp only [← hji12] at H'); simp only [← hji12]; go_roundg kj24) | ((try simp only [← hji10] at H'); simp only [← hji10]; go_roundg kj24)
        case measure => have := HJ18.out; have := HK2.out; have := HJ24.out; omega
        case rel => first | exact ⟨(IntKind.u64.wrap (x16_2 + ((ji10) / 4294967296))), (IntKind.u64.wrap (x18_2 - 1)), (by first | rfl | (simp; done) | (simp only [← hji10] <;> (first | rfl | simp)) | (simp [*]; done)), uG, H', ⟨by have := HJ18.out; have := HK2.out; have := HJ24.out; omega⟩, by repeat (first | exact Drawn0.refl _ | apply Drawn0.step)⟩ | (simp only [← hji30] at H'; exact ⟨(IntKind.u64.wrap (x16_2 + ((ji10) / 4294967296))), (IntKind.u64.wrap (x18_2 - 1)), (by first | rfl | (simp; done) | (simp only [← hji10] <;> (first | rfl | simp)) | (simp [*]; done)), uG, H', ⟨by have := HJ18.out; have := HK2.out; have := HJ24.out; omega⟩, by repeat (first | exact Drawn0.refl _ | apply Drawn0.step)⟩) | (simp only [← hji17] at H'; exact ⟨(IntKind.u64.wrap (x16_2 + ((ji10) / 4294967296))), (IntKind.u64.wrap (x18_2 - 1)), (by first | rfl | (simp; done) | (simp only [← hji10] <;> (first | rfl | simp)) | (simp [*]; done)), uG, H', ⟨by have := HJ18.out; have := HK2.out; have := HJ24.out; omega⟩, by repeat (first | exact Drawn0.refl _ | apply Drawn0.step)⟩) | (simp only [← hji15] at H'; exact ⟨(IntKind.u64.wrap (x16_2 + ((ji10) / 4294967296))), (IntKind.u64.wrap (x18_2 - 1)), (by first | rfl | (simp; done) | (simp only [← hji10] <;> (first | rfl | simp)) | (simp [*]; done)), uG, H', ⟨by have := HJ18.out; have := HK2.out; have := HJ24.out; omega⟩, by repeat (first | exact Drawn0.refl _ | apply Drawn0.step)⟩) | (simp only [← hji13] at H'; exact ⟨(IntKind.u64.wrap (x16_2 + ((ji10) / 4294967296))), (IntKind.u64.wrap (x18_2 - 1)), (by first | rfl | (simp; done) | (simp only [← hji10] <;> (first | rfl | simp)) | (simp [*]; done)), uG, H', ⟨by have := HJ18.out; have := HK2.out; have := HJ24.out; omega⟩, by repeat (first | exact Drawn0.refl _ | apply Drawn0.step)⟩) | (simp only [← hji12] at H'; exact ⟨(IntKind.u64.wrap (x16_2 + ((ji10) / 4294967296))), (IntKind.u64.wrap (x18_2 - 1)), (by first | rfl | (simp; done) | (simp only [← hji10] <;> (first | rfl | simp)) | (simp [*]; done)), uG, H', ⟨by have := HJ18.out; have := HK2.out; have := HJ24.out; omega⟩, by repeat (first | exact Drawn0.refl _ | apply Drawn0.step)⟩) | (simp only [← hji10] at H'; exact ⟨(IntKind.u64.wrap (x16_2 + ((ji10) / 4294967296))), (IntKind.u64.wrap (x18_2 - 1)), (by first | rfl | (simp; done) | (simp only [← hji10] <;> (first | rfl | simp)) | (simp [*]; done)), uG, H', ⟨by have := HJ18.out; have := HK2.out; have := HJ24.out; omega⟩, by repeat (first | exact Drawn0.refl _ | apply Drawn0.step)⟩)
       replace c27 := Bool.eq_false_iff.mpr c27
       subst c27
       have H1 : (if 0 ≤ ji8 then (some (IntKind.u64.wrap ((IntKind.u64.wrap (x15_18 * 4294967296)) + x18_2), shr .u64 (IntKind.u64.wrap ((IntKind.u64.wrap ((IntKind.u64.wrap ((IntKind.u64.wrap ((IntKind.u64.wrap ((IntKind.u64.wrap ((Go.bits .or .u64 (ji12) (ji15)) * 4294967296)) + ((ji17) / 4294967296))) - (IntKind.u64.wrap (x15_18 * ji10)))) * 4294967296)) + (Go.bits .and .u64 (ji17) 4294967295))) - (IntKind.u64.wrap (x18_2 * ji10)))) ji8)) else (none)) = some (r1, r2) := by rw [if_neg (show ¬ (false = true) by decide)] at H; exact H
       clear H; have H := H1; clear H1
       replace H := uT H; obtain ⟨c31, H⟩ := H
       have c31b0 := eq_true c31
       have c31b1 : decide (0 ≤ ji8) = true := decide_eq_true c31
       clear c31
       obtain ⟨ji32, hji32⟩ : ∃ j_ : Int, (shr .u64 (IntKind.u64.wrap ((IntKind.u64.wrap ((IntKind.u64.wrap ((IntKind.u64.wrap ((IntKind.u64.wrap ((IntKind.u64.wrap ((Go.bits .or .u64 (ji12) (ji15)) * 4294967296)) + ((ji17) / 4294967296))) - (IntKind.u64.wrap (x15_18 * ji10)))) * 4294967296)) + (Go.bits .and .u64 (ji17) 4294967295))) - (IntKind.u64.wrap (x18_2 * ji10)))) ji8) = j_ := ⟨_, rfl⟩
       first | rw [hji32] at H | simp only [hji32] at H
       have hji32_ : ((IntKind.u64.wrap ((IntKind.u64.wrap ((IntKind.u64.wrap ((IntKind.u64.wrap ((IntKind.u64.wrap ((IntKind.u64.wrap ((Go.bits .or .u64 (ji12) (ji15)) * 4294967296)) + ((ji17) / 4294967296))) - (IntKind.u64.wrap (x15_18 * ji10)))) * 4294967296)) + (Go.bits .and .u64 (ji17) 4294967295))) - (IntKind.u64.wrap (x18_2 * ji10)))) / 2 ^ min ji8.toNat 64) = ji32 := hji32
       have hji32z : ji8 ≤ 64 → ((IntKind.u64.wrap ((IntKind.u64.wrap ((IntKind.u64.wrap ((IntKind.u64.wrap ((IntKind.u64.wrap ((IntKind.u64.wrap ((Go.bits .or .u64 (ji12) (ji15)) * 4294967296)) + ((ji17) / 4294967296))) - (IntKind.u64.wrap (x15_18 * ji10)))) * 4294967296)) + (Go.bits .and .u64 (ji17) 4294967295))) - (IntKind.u64.wrap (x18_2 * ji10)))) / 2 ^ ji8.toNat) = ji32 := shr_small hji32
       simp only [Option.some.injEq, Prod.mk.injEq] at H
       obtain ⟨rfl, rfl⟩ := H
       go_wp2
       repeat (go_quiet (fail); try go_wp2)
       go_ret2
       exact ⟨by first | rfl | (simp; done) | (simp only [← hji8, ← hji10, ← hji12, ← hji13, ← hji15, ← hji17, ← hji32] <;> (first | rfl | simp)) | (simp [*]; done), by repeat (first | exact Drawn0.refl _ | apply Drawn0.step)⟩
end Go.Proofs.Ytlkinjhmgljapaa.F
end
section
namespace Go.Proofs.Ytlkinjhmgljapaa.F
open Go.RowKit Go.Proofs.YtlkinjhmgljapaaW.PrintWords Go.Proofs.YtlkinjhmgljapaaW.PrintLast Go.Proofs.YtlkinjhmgljapaaW.PrintMore
attribute [local go_sem] max2_int min2_int max_two min_two max_three min_three max_four min_four
set_option linter.unusedVariables false
set_option linter.unusedSimpArgs false
def nat_short.l0 : Nat → List Int → Int → List Int → Int → Int → Option (List Int × Int)
 | 0, _, _, _, _, _ => none
 | k + 1, x0, x1, x6, x7, x8 => if x8 ≥ 0 then (if 0 ≤ x8 then (if x8 < (x0.length : Int) then ((bits_Div64.f k x7 (rd x0 x8) x1).bind fun bt131 => (if x8 < (x6.length : Int) then (nat_short.l0 k x0 x1 (x6.set (x8 : Int).toNat bt131.1) bt131.2 (wrap64 (x8 - 1))) else (none))) else (none)) else (none)) else ((nat_trim.f k x6).bind fun t134 => (some (t134, x7)))
def nat_short.f (k : Nat) (l0 : List Int) (a1 : Int) : Option (List Int × Int) := if 0 ≤ (l0.length : Int) then (if ((l0.length : Int) : Int).toNat ≤ 35184372088832 then (nat_short.l0 k l0 a1 (List.replicate ((l0.length : Int) : Int).toNat 0) 0 (wrap64 ((l0.length : Int) - 1))) else (none)) else (none)
set_option maxHeartbeats 8000000 in
set_option maxRecDepth 100000 in
theorem nat_short.calls (k : Nat) (A0 : Option Addr) (c0 : Nat) (l0 : List Int) (a1 : Int) (r1 : List Int) (r2 : Int) (w : World) (hr0 : Kd.C (Kd.int .u64) w A0 l0.length l0) (hc0 : l0.length ≤ c0) (h : nat_short.f k l0 a1 = some (r1, r2)) :
  Calls Try.prog 106 #[.slice A0 l0.length c0, .int .u64 a1] w fun e w' => ∃ v0_ : Value, e = .returned (.tuple #[v0_, .int .u64 r2]) ∧ Kd.R (Kd.int .u64) 50 w' w.heap.size (fun _ => True) v0_ r1 ∧ Below w.heap.size w w' := by
 have HR0 := Aside0.mk hr0; have HC0 := Aside0.mk hc0; clear hr0 hc0
 have HB := Aside0.mk (Below.refl w.heap.size w)
 have H : (if 0 ≤ (l0.length : Int) then (if ((l0.length : Int) : Int).toNat ≤ 35184372088832 then (nat_short.l0 k l0 a1 (List.replicate ((l0.length : Int) : Int).toNat 0) 0 (wrap64 ((l0.length : Int) - 1))) else (none)) else (none)) = some (r1, r2) := h
 clear h
 replace H := uT H; obtain ⟨c3, H⟩ := H
 have c3b0 := eq_true c3
 have c3b1 : decide (0 ≤ (l0.length : Int)) = true := decide_eq_true c3
 clear c3
 replace H := uT H; obtain ⟨c4, H⟩ := H
 have c4b0 := eq_true c4
 have c4b1 : decide (((l0.length : Int) : Int).toNat ≤ 35184372088832) = true := decide_eq_true c4
 clear c4
 obtain ⟨y127, hy127⟩ : ∃ y_ : List Int, y_ = (List.replicate ((l0.length : Int) : Int).toNat 0) := ⟨_, rfl⟩
 replace H : (nat_short.l0 k l0 a1 y127 0 (wrap64 ((l0.length : Int) - 1))) = some (r1, r2) := by first | (rw [hy127]; with_reducible exact H) | (have H2_ := (Option.bind_some _ _).symm.trans H; rw [hy127]; with_reducible exact H2_) | (have H2_ := (Option.bind_some _ _).symm.trans H; with_reducible exact H2_) | with_reducible exact H | (rw [hy127]; exact H) | exact H
 have Ny127 := Aside0.mk hy127; clear hy127
 have H' := Aside0.mk H
 clear H
 go_enter Try.func106, Try.ntmps106
 go_wp2_with (first | ((with_reducible refine gate_dst (N := 11) rfl ?_); refine Kd.R_make (Kd.int .u64) _ 50 rfl (N := 11) rfl 23 _ _ rfl (l0.length : Int) rfl rfl Try.underlying23 (.int .u64 0) 8 info50 rfl (by decide) (by omega) 0 (ok := fun _ => True) (okp := fun _ => True) rfl (fun _ hk => hk) trivial uO (Nat.le_trans (Nat.mul_le_mul_right _ (uO : (l0.length : Int).toNat ≤ 35184372088832)) (by omega)) (Below.refl _ _) (Nat.le_refl _) ?_; intro v128 w5 ho6 hb hg_ hnew_; clear hg_ hnew_; (first | rw [← Ny127.out] at ho6 | (simp only [Int.reduceToNat] at ho6; rw [← Ny127.out] at ho6)); have HO129 := Aside0.mk (Kd.R_lower ho6 (below_size uB)); replace HB := uy hb; clear hb ho6))
 go_loopg [7, 8] k (fun kq v7 v8 w' => ∃ (x6_1 : List Int) (x7_1 : Int) (x8_1 : Int), v7 = .int .u64 x7_1 ∧ v8 = .int .i64 x8_1 ∧ Aside0 (nat_short.l0 kq l0 a1 x6_1 x7_1 x8_1 = some (r1, r2)) ∧ Aside0 (kq ≤ k) ∧ Aside0 (Kd.R (Kd.int .u64) 50 w' w.heap.size (fun _ => True) v128 x6_1) ∧ Aside0 (Below w.heap.size w w'))
 case atStart => exact ⟨(y127), (0), (wrap64 ((l0.length : Int) - 1)), uG, uG, H', ⟨Nat.le_refl _⟩, ⟨uR HO129.out⟩, ⟨uB⟩⟩
 case round =>
  clear H'
  (try clear c1); (try clear p2); (try clear c3); (try clear c3b0); (try clear c3b1); (try clear c4); (try clear c4b0); (try clear c4b1); (try clear p6)
  obtain ⟨x6_1, x7_1, x8_1, rfl, rfl, HA, HK1, HO_6, HB⟩ := hrel
  cases gk with
  | zero => exact absurd HA.out (by simp [nat_short.l0])
  | succ k1 =>
   have H := HA.out
   clear HA
   simp only [nat_short.l0] at H
   by_cases c7 : x8_1 ≥ 0
   ·
    rw [if_pos c7] at H
    have c7b0 : decide (0 ≤ x8_1) = true := decide_eq_true c7
    clear c7
    replace H := uT H; obtain ⟨c8, H⟩ := H
    have c8b0 : decide (0 ≤ x8_1) = true := decide_eq_true c8
    clear c8
    replace H := uT H; obtain ⟨c9, H⟩ := H
    have c9b0 : decide (x8_1 < (l0.length : Int)) = true := decide_eq_true c9
    clear c9
    replace H := ub H; obtain ⟨⟨t131, t132⟩, A10, H⟩ := H
    (try dsimp only at H)
    replace H := uT H; obtain ⟨c11, H⟩ := H
    have c11b0 : decide (x8_1 < (x6_1.length : Int)) = true := decide_eq_true c11
    clear c11
    obtain ⟨y133, hy133⟩ : ∃ y_ : List Int, y_ = (x6_1.set (x8_1 : Int).toNat t131) := ⟨_, rfl⟩
    replace H : (nat_short.l0 k1 l0 a1 y133 t132 (wrap64 (x8_1 - 1))) = some (r1, r2) := by first | (rw [hy133]; with_reducible exact H) | (have H2_ := (Option.bind_some _ _).symm.trans H; rw [hy133]; with_reducible exact H2_) | (have H2_ := (Option.bind_some _ _).symm.trans H; with_reducible exact H2_) | with_reducible exact H | (rw [hy133]; exact H) | exact H
    have Ny133 := Aside0.mk hy133; clear hy133
    have H' := Aside0.mk H
    clear H
    have p130 : 0 ≤ (x8_1 : Int) := uO
    have q130 : x8_1 < (l0.length : Int) := uO
    obtain ⟨ad130, e130, hx130_0⟩ := Kd.at_int HR0.out x8_1 p130 q130
    cases e130
    replace hx130_0 := (HB.out.cell (World.block_lt_of_cell? w _ hx130_0)).trans hx130_0
    replace p130 := eq_true p130
    replace q130 := eq_true q130
    go_wp2_with (first | ((with_reducible refine gate_callee (f := 122) rfl ?_); refine goesL_ (some 28) rfl rfl Try.func122 (by kernel_rfl) rfl #[.int .u64 x7_1, .int .u64 (rd l0 x8_1), .int .u64 a1] rfl uM ?_; (with_reducible refine (bits_Div64.calls k1 x7_1 (rd l0 x8_1) a1 t131 t132 _ A10.out).mono ?_); rintro e w' ⟨rfl, ⟨nd, rfl⟩⟩; refine ⟨_, rfl, ?_⟩; (try (rw [drewN_self wr]; generalize hq_ : World.drewN wr _ = wr; replace HO_6 : Aside0 (Kd.R (Kd.int .u64) 50 wr w.heap.size (fun _ => True) v128 x6_1) := ⟨by rw [← hq_]; exact (uR HO_6.out)⟩; replace HB : Aside0 (Below w.heap.size w wr) := ⟨by rw [← hq_]; exact uB⟩; clear hq_)); have p12 : 0 ≤ (x8_1 : Int) := uO; have q12 : (x8_1 : Int) < ((x6_1.length : Int) : Int) := uO; obtain ⟨go12, co12, eo12, gb12, gl12, cl12, HG12⟩ := Kd.R_form HO_6.out (by omega); (first | cases eo12 | (injection eo12 with ea_ en_ ec_; (first | subst ea_ | (injection ea_ with ea_; subst ea_)); subst ec_; clear en_)); have GB12 := Aside0.mk gb12; have GG12 := Aside0.mk HG12; clear gb12 gl12 HG12; obtain ⟨hx12_0, hf12_0⟩ := Kd.R_celln 0 HO_6.out (x8_1 : Int) p12 q12; replace p12 := eq_true p12; replace q12 := eq_true q12; obtain ⟨hy13_, hz13_⟩ := Kd.R_celln 0 HO_6.out (x8_1 : Int) uO uO; have HP13 := Kd.R_putg HO_6.out (x8_1 : Int) t131) | ((with_reducible refine gate_store (t := 50) (p := 31) rfl ?_); refine store_event (t := 50) (p := 31) (v := ?vo_w14) (w1 := (wr.setCell ⟨go12, (x8_1 : Int).toNat, none⟩ (.int .u64 t131))) ?hg ?ho ?hn ?hr ?_; (case ho => rfl); (case hg => rfl); (case hn => rfl); (case hr => first | (go_simp; done) | (go_simp; rfl) | (obtain ⟨hy_, hz_⟩ := Kd.R_celln 0 HO_6.out (x8_1 : Int) uO uO; (try simp only [Go.IntWalk.toNatUp] at hy_ hz_); (try simp only [Int.reduceToNat, Int.toNat_zero, Int.toNat_ofNat] at hy_ hz_); first | (go_simp; done) | (go_simp; rfl))); intro w14 hw; have hg : wr.grownBy w14 (some go12) := (by rw [hw]; exact HP13.2); have hp_ : Kd.R (Kd.int .u64) 50 w14 w.heap.size (fun _ => True) (.slice (some ⟨go12, 0, none⟩) x6_1.length co12) y133 := (by rw [hw, Ny133.out]; exact HP13.1); clear HP13; replace HO_6 := Aside0.mk (hp_); replace HB := Aside0.mk ((by rw [hw]; exact below_set (HB.out) GB12.out : Below w.heap.size w w14)); clear hg hw hp_))
    go_roundg k1
    case measure => have := HK1.out; omega
    case rel => exact ⟨(y133), (t132), (wrap64 (x8_1 - 1)), uG, uG, H', ⟨by have := HK1.out; omega⟩, ⟨uR HO_6.out⟩, ⟨uB⟩⟩
   rw [if_neg c7] at H
   have c7b0 : decide (0 ≤ x8_1) = false := decide_eq_false c7
   clear c7
   replace H := ub H; obtain ⟨t134, A15, H⟩ := H
   simp only [Option.some.injEq, Prod.mk.injEq] at H
   obtain ⟨rfl, rfl⟩ := H
   obtain ⟨Ao16, co16, eo16⟩ := Kd.R_slice HO_6.out
   subst eo16
   go_wp2_with (first | ((with_reducible refine gate_callee (f := 116) rfl ?_); refine goesL_ (some 33) rfl rfl Try.func116 (by kernel_rfl) rfl #[.slice Ao16 x6_1.length co16] rfl uM ?_; (with_reducible refine (nat_trim.calls k1 (fun k_ => some k_ = (.slice Ao16 x6_1.length co16 : Value).ownBlock) (.slice Ao16 x6_1.length co16) x6_1 t134 w _ ?side1 ?side2 A15.out).mono ?_); (case side1 => repeat (first | (with_reducible first | exact HB.out | apply below_alloc | apply pw_below_drewN | apply below_drew1) | exact HB.out)); (case side2 => exact Kd.R_tight rfl HO_6.out); rintro e w17 ⟨v135, rfl, ho0, hb, hkp⟩; refine ⟨_, rfl, ?_⟩; have HO136 := Aside0.mk (Kd.R_mono (ok' := fun k_ => True) ho0 (fun k_ hk_ => trivial)); replace HB := Aside0.mk (hb); clear HO_6; (try clear hb); (try clear hkp); (try clear ho0)))
   go_ret2
   exact ⟨_, uF, uR HO136.out, uB⟩
end Go.Proofs.Ytlkinjhmgljapaa.F
end
section
namespace Go.Proofs.Ytlkinjhmgljapaa.F
open Go.RowKit Go.Proofs.YtlkinjhmgljapaaW.PrintWords Go.Proofs.YtlkinjhmgljapaaW.PrintLast Go.Proofs.YtlkinjhmgljapaaW.PrintMore
attribute [local go_sem] max2_int min2_int max_two min_two max_three min_three max_four min_four
set_option linter.unusedVariables false
set_option linter.unusedSimpArgs false
mutual
def nat_guess.l0 : Nat → Int → Int → Int → Int → Int → Option (Int)
 | 0, _, _, _, _, _ => none
 | k + 1, x2, x3, x4, x11, x12 => (bits_Mul64.f x11 x4).bind fun bt154 => (if bt154.1 < x12 then (nat_guess.j1 k x2 x3 x4 x11 x12 true) else (if bt154.1 = x12 then (nat_guess.j1 k x2 x3 x4 x11 x12 (decide (bt154.2 ≤ x2))) else (nat_guess.j1 k x2 x3 x4 x11 x12 false)))
def nat_guess.j1 : Nat → Int → Int → Int → Int → Int → Bool → Option (Int)
 | 0, _, _, _, _, _, _ => none
 | k + 1, x2, x3, x4, x11, x12, x44 => if x44 = true then (some x11) else (if (IntKind.u64.wrap (x12 + x3)) < x12 then (some (IntKind.u64.wrap (x11 - 1))) else (nat_guess.l0 k x2 x3 x4 (IntKind.u64.wrap (x11 - 1)) (IntKind.u64.wrap (x12 + x3))))
end
def nat_guess.f (k : Nat) (a0 : Int) (a1 : Int) (a2 : Int) (a3 : Int) (a4 : Int) : Option (Int) := if a0 ≥ a3 then (some 18446744073709551615) else ((bits_Div64.f k a0 a1 a3).bind fun bt152 => (nat_guess.l0 k a2 a3 a4 bt152.1 bt152.2))
set_option maxHeartbeats 8000000 in
set_option maxRecDepth 100000 in
theorem nat_guess.calls (k : Nat) (a0 : Int) (a1 : Int) (a2 : Int) (a3 : Int) (a4 : Int) (r : Int) (w : World) (h : nat_guess.f k a0 a1 a2 a3 a4 = some r) :
  Calls Try.prog 124 #[.int .u64 a0, .int .u64 a1, .int .u64 a2, .int .u64 a3, .int .u64 a4] w fun e w' => e = .returned (.int .u64 r) ∧ Drawn0 w w' := by
 have H : (if a0 ≥ a3 then (some 18446744073709551615) else ((bits_Div64.f k a0 a1 a3).bind fun bt152 => (nat_guess.l0 k a2 a3 a4 bt152.1 bt152.2))) = some r := h
 clear h
 by_cases c6 : a0 ≥ a3
 ·
  rw [if_pos c6] at H
  have c6b0 : decide (a3 ≤ a0) = true := decide_eq_true c6
  clear c6
  obtain rfl := Option.some.inj H
  go_enter Try.func124, Try.ntmps124
  go_wp2
  go_ret
  exact ⟨by first | rfl | (simp; done) | (simp [*]; done), by repeat (first | exact Drawn0.refl _ | apply Drawn0.step)⟩
 rw [if_neg c6] at H
 have c6b0 : decide (a3 ≤ a0) = false := decide_eq_false c6
 clear c6
 replace H := ub H; obtain ⟨⟨t152, t153⟩, A7, H⟩ := H
 (try dsimp only at H)
 have H' := Aside0.mk H
 clear H
 go_enter Try.func124, Try.ntmps124
 go_wp2_with (first | ((with_reducible refine gate_callee (f := 122) rfl ?_); refine goesL_ (some 23) rfl rfl Try.func122 (by kernel_rfl) rfl #[.int .u64 a0, .int .u64 a1, .int .u64 a3] rfl uM ?_; (with_reducible refine (bits_Div64.calls k a0 a1 a3 t152 t153 _ A7.out).mono ?_); rintro e w' ⟨rfl, ⟨nd, rfl⟩⟩; refine ⟨_, rfl, ?_⟩))
 go_loopg [11, 12] k (fun kq v11 v12 w' => ∃ (x11_1 : Int) (x12_1 : Int), v11 = .int .u64 x11_1 ∧ v12 = .int .u64 x12_1 ∧ Aside0 (nat_guess.l0 kq a2 a3 a4 x11_1 x12_1 = some r) ∧ Aside0 (kq ≤ k) ∧ Drawn0 w w')
 case atStart => exact ⟨(t152), (t153), uG, uG, H', ⟨Nat.le_refl _⟩, by repeat (first | exact Drawn0.refl _ | apply Drawn0.step)⟩
 case round =>
  clear H'
  (try clear c1); (try clear p2); (try clear c6); (try clear c6b0)
  obtain ⟨x11_1, x12_1, rfl, rfl, HA, HK1, ⟨m1, rfl⟩⟩ := hrel
  cases gk with
  | zero => exact absurd HA.out (by simp [nat_guess.l0])
  | succ k1 =>
   have H := HA.out
   clear HA
   simp only [nat_guess.l0] at H
   replace H := ub H; obtain ⟨⟨t154, t155⟩, A8, H⟩ := H
   (try dsimp only at H)
   have HC9 := Aside0.mk H; clear H
   go_upto_region 5 with (first | ((with_reducible refine gate_callee (f := 61) rfl ?_); refine goesL_ (some 29) rfl rfl Try.func61 (by kernel_rfl) rfl #[.int .u64 x11_1, .int .u64 a4] rfl uM ?_; (with_reducible refine (bits_Mul64.calls x11_1 a4 t154 t155 _ A8.out).mono ?_); rintro e w' ⟨rfl, ⟨nd, rfl⟩⟩; refine ⟨_, rfl, ?_⟩))
   (try simp only [Act.put, List.setIfInBounds_toArray, List.set_cons_zero, List.set_cons_succ])
   go_cut [44] (fun v44 wc => ∃ (kq : Nat) (x44_8 : Bool), v44 = .bool x44_8 ∧ Aside0 (nat_guess.j1 kq a2 a3 a4 x11_1 x12_1 x44_8 = some r) ∧ Aside0 (kq ≤ k1) ∧ Drawn0 w wc)
   case first =>
    have H := HC9.out
    clear HC9
    by_cases c10 : t154 < x12_1
    ·
     rw [if_pos c10] at H
     have c10b0 : decide (t154 < x12_1) = true := decide_eq_true c10
     clear c10
     (first | rw [c10b0] | (simp only [i64_w, i32_w]; rw [c10b0]) | skip)
     have H' := Aside0.mk H
     clear H
     go_wp2
     go_meet
     case rel => exact ⟨_, (true), uG, H', ⟨by have := HK1.out; first | omega | exact Nat.le_refl _⟩, by repeat (first | exact Drawn0.refl _ | apply Drawn0.step)⟩
    rw [if_neg c10] at H
    have c10b0 : decide (t154 < x12_1) = false := decide_eq_false c10
    clear c10
    (first | rw [c10b0] | (simp only [i64_w, i32_w]; rw [c10b0]) | skip)
    by_cases c11 : t154 = x12_1
    ·
     rw [if_pos c11] at H
     have c11b0 : (t154 == x12_1) = true := beq_iff_eq.mpr c11
     have c11b1 : (t154 != x12_1) = false := bne_eq_false_iff_eq.mpr c11
     clear c11
     have H' := Aside0.mk H
     clear H
     go_wp2
     go_meet
     case rel => exact ⟨_, (decide (t155 ≤ a2)), uG, H', ⟨by have := HK1.out; first | omega | exact Nat.le_refl _⟩, by repeat (first | exact Drawn0.refl _ | apply Drawn0.step)⟩
    rw [if_neg c11] at H
    have c11b0 : (t154 == x12_1) = false := beq_eq_false_iff_ne.mpr c11
    have c11b1 : (t154 != x12_1) = true := bne_iff_ne.mpr c11
    have H' := Aside0.mk H
    clear H
    go_wp2
    go_meet
    case rel => exact ⟨_, (false), uG, H', ⟨by have := HK1.out; first | omega | exact Nat.le_refl _⟩, by repeat (first | exact Drawn0.refl _ | apply Drawn0.step)⟩
   case rest =>
    clear HC9; (try clear c1); (try clear p2); (try clear c6); (try clear c6b0); (try clear c10); (try clear c10b0); (try clear c11); (try clear c11b0); (try clear c11b1); (try clear p2)
    obtain ⟨kq, x44_8, rfl, HA, HJ8, ⟨mc8, rfl⟩⟩ := hcut
    cases kq with
    | zero => exact absurd HA.out (by simp [nat_guess.j1])
    | succ kj8 =>
     have H := HA.out
     clear HA
     simp only [nat_guess.j1] at H
     by_cases c12 : x44_8 = true
     ·
      subst c12
      have H1 : (some x11_1) = some r := by rw [if_pos rfl] at H; exact H
      clear H; have H := H1; clear H1
      obtain rfl := Option.some.inj H
      go_wp2
      go_ret
      exact ⟨by first | rfl | (simp; done) | (simp [*]; done), by repeat (first | exact Drawn0.refl _ | apply Drawn0.step)⟩
     replace c12 := Bool.eq_false_iff.mpr c12
     subst c12
     have H1 : (if (IntKind.u64.wrap (x12_1 + a3)) < x12_1 then (some (IntKind.u64.wrap (x11_1 - 1))) else (nat_guess.l0 kj8 a2 a3 a4 (IntKind.u64.wrap (x11_1 - 1)) (IntKind.u64.wrap (x12_1 + a3)))) = some r := by rw [if_neg (show ¬ (false = true) by decide)] at H; exact H
     clear H; have H := H1; clear H1
     by_cases c13 : (IntKind.u64.wrap (x12_1 + a3)) < x12_1
     ·
      rw [if_pos c13] at H
      have c13b0 : decide ((IntKind.u64.wrap (x12_1 + a3)) < x12_1) = true := decide_eq_true c13
      clear c13
      obtain rfl := Option.some.inj H
      go_wp2
      go_ret
      exact ⟨by first | rfl | (simp; done) | (simp [*]; done), by repeat (first | exact Drawn0.refl _ | apply Drawn0.step)⟩
     rw [if_neg c13] at H
     have c13b0 : decide ((IntKind.u64.wrap (x12_1 + a3)) < x12_1) = false := decide_eq_false c13
     clear c13
     have H' := Aside0.mk H
     clear H
     go_wp2
     go_roundg kj8
     case measure => have := HK1.out; have := HJ8.out; omega
     case rel => exact ⟨(IntKind.u64.wrap (x11_1 - 1)), (IntKind.u64.wrap (x12_1 + a3)), uG, uG, H', ⟨by have := HK1.out; have := HJ8.out; omega⟩, by repeat (first | exact Drawn0.refl _ | apply Drawn0.step)⟩
end Go.Proofs.Ytlkinjhmgljapaa.F
end
section
namespace Go.Proofs.Ytlkinjhmgljapaa.F
open Go.RowKit Go.Proofs.YtlkinjhmgljapaaW.PrintWords Go.Proofs.YtlkinjhmgljapaaW.PrintLast Go.Proofs.YtlkinjhmgljapaaW.PrintMore
attribute [local go_sem] max2_int min2_int max_two min_two max_three min_three max_four min_four
set_option linter.unusedVariables false
set_option linter.unusedSimpArgs false
attribute [local go_sem] add64_run
mutual
def nat_school.l0 : Nat → List Int → List Int → List Int → Int → Int → Option (List Int)
 | 0, _, _, _, _, _ => none
 | k + 1, x1, x5, x20, x21, x22 => if x22 < x21 then (if 0 ≤ x22 then (if x22 < (x20.length : Int) then (nat_school.l1 k x1 x5 x22 (rd x20 x22) 0 x20 x21 x22 x1 (x1.length : Int) 0) else (none)) else (none)) else ((nat_trim.f k x5).bind fun t159 => (some t159))
def nat_school.l1 : Nat → List Int → List Int → Int → Int → Int → List Int → Int → Int → List Int → Int → Int → Option (List Int)
 | 0, _, _, _, _, _, _, _, _, _, _, _ => none
 | k + 1, x1, x5, x6, x7, x8, x20, x21, x22, x27, x28, x29 => if x29 < x28 then (if 0 ≤ x29 then (if x29 < (x27.length : Int) then ((bits_Mul64.f x7 (rd x27 x29)).bind fun bt164 => (if 0 ≤ (wrap64 (x6 + x29)) then (if (wrap64 (x6 + x29)) < (x5.length : Int) then (if carry01 0 = true then (nat_school.l1 k x1 (x5.set ((wrap64 (x6 + x29)) : Int).toNat (add64_s (add64_s bt164.2 (rd x5 (wrap64 (x6 + x29))) 0) x8 0)) x6 x7 (IntKind.u64.wrap ((IntKind.u64.wrap (bt164.1 + (add64_c bt164.2 (rd x5 (wrap64 (x6 + x29))) 0))) + (add64_c (add64_s bt164.2 (rd x5 (wrap64 (x6 + x29))) 0) x8 0))) x20 x21 x22 x27 x28 (wrap64 (x29 + 1))) else (none)) else (none)) else (none))) else (none)) else (none)) else (if 0 ≤ (wrap64 (x6 + (x1.length : Int))) then (if (wrap64 (x6 + (x1.length : Int))) < (x5.length : Int) then (nat_school.l0 k x1 (x5.set ((wrap64 (x6 + (x1.length : Int))) : Int).toNat x8) x20 x21 (wrap64 (x22 + 1))) else (none)) else (none))
end
def nat_school.f (k : Nat) (l0 : List Int) (l1 : List Int) : Option (List Int) := if 0 ≤ (wrap64 ((l0.length : Int) + (l1.length : Int))) then (if (wrap64 ((l0.length : Int) + (l1.length : Int)) : Int).toNat ≤ 35184372088832 then (nat_school.l0 k l1 (List.replicate (wrap64 ((l0.length : Int) + (l1.length : Int)) : Int).toNat 0) l0 (l0.length : Int) 0) else (none)) else (none)
set_option maxHeartbeats 8000000 in
set_option maxRecDepth 100000 in
theorem nat_school.calls (k : Nat) (A0 : Option Addr) (c0 : Nat) (l0 : List Int) (A1 : Option Addr) (c1 : Nat) (l1 : List Int) (r : List Int) (w : World) (hr0 : Kd.C (Kd.int .u64) w A0 l0.length l0) (hc0 : l0.length ≤ c0) (hr1 : Kd.C (Kd.int .u64) w A1 l1.length l1) (hc1 : l1.length ≤ c1) (h : nat_school.f k l0 l1 = some r) :
  Calls Try.prog 125 #[.slice A0 l0.length c0, .slice A1 l1.length c1] w fun e w' => ∃ v0_ : Value, e = .returned (v0_) ∧ Kd.R (Kd.int .u64) 50 w' w.heap.size (fun _ => True) v0_ r ∧ Below w.heap.size w w' := by
 have HR0 := Aside0.mk hr0; have HC0 := Aside0.mk hc0; clear hr0 hc0; have HR1 := Aside0.mk hr1; have HC1 := Aside0.mk hc1; clear hr1 hc1
 have HB := Aside0.mk (Below.refl w.heap.size w)
 have H : (if 0 ≤ (wrap64 ((l0.length : Int) + (l1.length : Int))) then (if (wrap64 ((l0.length : Int) + (l1.length : Int)) : Int).toNat ≤ 35184372088832 then (nat_school.l0 k l1 (List.replicate (wrap64 ((l0.length : Int) + (l1.length : Int)) : Int).toNat 0) l0 (l0.length : Int) 0) else (none)) else (none)) = some r := h
 clear h
 obtain ⟨ji3, hji3⟩ : ∃ j_ : Int, (wrap64 ((l0.length : Int) + (l1.length : Int))) = j_ := ⟨_, rfl⟩
 first | rw [hji3] at H | simp only [hji3] at H
 have hji3w : (IntKind.i64.wrap ((l0.length : Int) + (l1.length : Int))) = ji3 := (i64_w _).trans hji3
 replace H := uT H; obtain ⟨c4, H⟩ := H
 have c4b0 := eq_true c4
 have c4b1 : decide (0 ≤ (ji3)) = true := decide_eq_true c4
 clear c4
 replace H := uT H; obtain ⟨c5, H⟩ := H
 have c5b0 := eq_true c5
 have c5b1 : decide ((ji3 : Int).toNat ≤ 35184372088832) = true := decide_eq_true c5
 clear c5
 obtain ⟨y156, hy156⟩ : ∃ y_ : List Int, y_ = (List.replicate (ji3 : Int).toNat 0) := ⟨_, rfl⟩
 replace H : (nat_school.l0 k l1 y156 l0 (l0.length : Int) 0) = some r := by first | (rw [hy156]; with_reducible exact H) | (have H2_ := (Option.bind_some _ _).symm.trans H; rw [hy156]; with_reducible exact H2_) | (have H2_ := (Option.bind_some _ _).symm.trans H; with_reducible exact H2_) | with_reducible exact H | (rw [hy156]; exact H) | exact H
 have Ny156 := Aside0.mk hy156; clear hy156
 have H' := Aside0.mk H
 clear H
 go_enter Try.func125, Try.ntmps125
 go_wp2_with (first | ((with_reducible refine gate_dst (N := 19) rfl ?_); refine Kd.R_make (Kd.int .u64) _ 50 rfl (N := 19) rfl 23 _ _ rfl ji3 rfl rfl Try.underlying23 (.int .u64 0) 8 info50 rfl (by decide) (by omega) 0 (ok := fun _ => True) (okp := fun _ => True) rfl (fun _ hk => hk) trivial uO (Nat.le_trans (Nat.mul_le_mul_right _ (uO : ji3.toNat ≤ 35184372088832)) (by omega)) (Below.refl _ _) (Nat.le_refl _) ?_; intro v157 w6 ho7 hb hg_ hnew_; clear hg_ hnew_; (first | rw [← Ny156.out] at ho7 | (simp only [Int.reduceToNat] at ho7; rw [← Ny156.out] at ho7)); have HO158 := Aside0.mk (Kd.R_lower ho7 (below_size uB)); replace HB := uy hb; clear hb ho7))
 go_loopg [22] k (fun kq v22 w' => ∃ (x5_1 : List Int) (x22_1 : Int), v22 = .int .i64 x22_1 ∧ Aside0 (nat_school.l0 kq l1 x5_1 l0 (l0.length : Int) x22_1 = some r) ∧ Aside0 (kq ≤ k) ∧ Aside0 (Kd.R (Kd.int .u64) 50 w' w.heap.size (fun _ => True) v157 x5_1) ∧ Aside0 (Below w.heap.size w w'))
 case atStart => exact ⟨(y156), (0), uG, H', ⟨Nat.le_refl _⟩, ⟨uR HO158.out⟩, ⟨uB⟩⟩
 case round =>
  clear H'
  (try clear c1); (try clear p2); (try clear c4); (try clear c4b0); (try clear c4b1); (try clear c5); (try clear c5b0); (try clear c5b1); (try clear p6)
  obtain ⟨x5_1, x22_1, rfl, HA, HK1, HO_5, HB⟩ := hrel
  cases gk with
  | zero => exact absurd HA.out (by simp [nat_school.l0])
  | succ k1 =>
   have H := HA.out
   clear HA
   simp only [nat_school.l0] at H
   by_cases c8 : x22_1 < (l0.length : Int)
   ·
    rw [if_pos c8] at H
    have c8b0 : decide (x22_1 < (l0.length : Int)) = true := decide_eq_true c8
    clear c8
    replace H := uT H; obtain ⟨c9, H⟩ := H
    have c9b0 : decide (0 ≤ x22_1) = true := decide_eq_true c9
    clear c9
    replace H := uT H; obtain ⟨c10, H⟩ := H
    have c10b0 : decide (x22_1 < (l0.length : Int)) = true := decide_eq_true c10
    clear c10
    have H' := Aside0.mk H
    clear H
    have p162 : 0 ≤ (x22_1 : Int) := uO
    have q162 : x22_1 < (l0.length : Int) := uO
    obtain ⟨ad162, e162, hx162_0⟩ := Kd.at_int HR0.out x22_1 p162 q162
    cases e162
    replace hx162_0 := (HB.out.cell (World.block_lt_of_cell? w _ hx162_0)).trans hx162_0
    replace p162 := eq_true p162
    replace q162 := eq_true q162
    go_wp2
    go_loopg [8, 29] k1 (fun kq v8 v29 w' => ∃ (x5_2 : List Int) (x8_2 : Int) (x29_2 : Int), v8 = .int .u64 x8_2 ∧ v29 = .int .i64 x29_2 ∧ Aside0 (nat_school.l1 kq l1 x5_2 x22_1 (rd l0 x22_1) x8_2 l0 (l0.length : Int) x22_1 l1 (l1.length : Int) x29_2 = some r) ∧ Aside0 (kq ≤ k1) ∧ Aside0 (Kd.R (Kd.int .u64) 50 w' w.heap.size (fun _ => True) v157 x5_2) ∧ Aside0 (Below w.heap.size w w'))
    case atStart => exact ⟨(x5_1), (0), (0), uG, uG, H', ⟨Nat.le_refl _⟩, ⟨uR HO_5.out⟩, ⟨uB⟩⟩
    case round =>
     clear H'
     (try clear c1); (try clear p1); (try clear q1); (try clear hx1); (try clear p2 p2); (try clear c4); (try clear c4b0); (try clear c4b1); (try clear c5); (try clear c5b0); (try clear c5b1); (try clear p6 p6); (try clear c8); (try clear c8b0); (try clear c9); (try clear c9b0); (try clear c10); (try clear c10b0); (try clear hx162_0); (try clear p162); (try clear q162)
     obtain ⟨x5_2, x8_2, x29_2, rfl, rfl, HA, HK2, HO_5, HB⟩ := hrel
     cases gk with
     | zero => exact absurd HA.out (by simp [nat_school.l1])
     | succ k2 =>
      have H := HA.out
      clear HA
      simp only [nat_school.l1] at H
      by_cases c11 : x29_2 < (l1.length : Int)
      ·
       rw [if_pos c11] at H
       have c11b0 : decide (x29_2 < (l1.length : Int)) = true := decide_eq_true c11
       clear c11
       replace H := uT H; obtain ⟨c12, H⟩ := H
       have c12b0 : decide (0 ≤ x29_2) = true := decide_eq_true c12
       clear c12
       replace H := uT H; obtain ⟨c13, H⟩ := H
       have c13b0 : decide (x29_2 < (l1.length : Int)) = true := decide_eq_true c13
       clear c13
       replace H := ub H; obtain ⟨⟨t164, t165⟩, A14, H⟩ := H
       (try dsimp only at H)
       obtain ⟨ji15, hji15⟩ : ∃ j_ : Int, (wrap64 (x22_1 + x29_2)) = j_ := ⟨_, rfl⟩
       first | rw [hji15] at H | simp only [hji15] at H
       (try rw [hji15] at A14)
       have hji15w : (IntKind.i64.wrap (x22_1 + x29_2)) = ji15 := (i64_w _).trans hji15
       replace H := uT H; obtain ⟨c16, H⟩ := H
       have c16b0 : decide (0 ≤ (ji15)) = true := decide_eq_true c16
       clear c16
       replace H := uT H; obtain ⟨c17, H⟩ := H
       have c17b0 : decide ((ji15) < (x5_2.length : Int)) = true := decide_eq_true c17
       clear c17
       replace H := uT H; obtain ⟨c18, H⟩ := H
       have c18b0 : carry01 0 = true := c18
       clear c18
       obtain ⟨y167, hy167⟩ : ∃ y_ : List Int, y_ = (x5_2.set ((ji15) : Int).toNat (add64_s (add64_s t165 (rd x5_2 (ji15)) 0) x8_2 0)) := ⟨_, rfl⟩
       replace H : (nat_school.l1 k2 l1 y167 x22_1 (rd l0 x22_1) (IntKind.u64.wrap ((IntKind.u64.wrap (t164 + (add64_c t165 (rd x5_2 (ji15)) 0))) + (add64_c (add64_s t165 (rd x5_2 (ji15)) 0) x8_2 0))) l0 (l0.length : Int) x22_1 l1 (l1.length : Int) (wrap64 (x29_2 + 1))) = some r := by first | (rw [hy167]; with_reducible exact H) | (have H2_ := (Option.bind_some _ _).symm.trans H; rw [hy167]; with_reducible exact H2_) | (have H2_ := (Option.bind_some _ _).symm.trans H; with_reducible exact H2_) | with_reducible exact H | (rw [hy167]; exact H) | exact H
       have Ny167 := Aside0.mk hy167; clear hy167
       have H' := Aside0.mk H
       clear H
       have p163 : 0 ≤ (x29_2 : Int) := uO
       have q163 : x29_2 < (l1.length : Int) := uO
       obtain ⟨ad163, e163, hx163_0⟩ := Kd.at_int HR1.out x29_2 p163 q163
       cases e163
       replace hx163_0 := (HB.out.cell (World.block_lt_of_cell? w _ hx163_0)).trans hx163_0
       replace p163 := eq_true p163
       replace q163 := eq_true q163
       go_wp2_with (first | ((with_reducible refine gate_callee (f := 61) rfl ?_); refine goesL_ (some 37) rfl rfl Try.func61 (by kernel_rfl) rfl #[.int .u64 (rd l0 x22_1), .int .u64 (rd l1 x29_2)] rfl uM ?_; (with_reducible refine (bits_Mul64.calls (rd l0 x22_1) (rd l1 x29_2) t164 t165 _ A14.out).mono ?_); rintro e w' ⟨rfl, ⟨nd, rfl⟩⟩; refine ⟨_, rfl, ?_⟩; (try (rw [drewN_self wr]; generalize hq_ : World.drewN wr _ = wr; replace HO_5 : Aside0 (Kd.R (Kd.int .u64) 50 wr w.heap.size (fun _ => True) v157 x5_2) := ⟨by rw [← hq_]; exact (uR HO_5.out)⟩; replace HB : Aside0 (Below w.heap.size w wr) := ⟨by rw [← hq_]; exact uB⟩; clear hq_)); obtain ⟨Ao20, co20, eo20⟩ := Kd.R_slice HO_5.out; subst eo20; have p166 : 0 ≤ ((ji15) : Int) := uO; have q166 : (ji15) < (x5_2.length : Int) := uO; obtain ⟨ad166, e166, hx166_0⟩ := Kd.at_int (Kd.R_reads' HO_5.out).2.2 (ji15) p166 q166; cases e166; replace p166 := eq_true p166; replace q166 := eq_true q166; have p19 : 0 ≤ ((ji15) : Int) := uO; have q19 : ((ji15) : Int) < ((x5_2.length : Int) : Int) := uO; obtain ⟨go19, co19, eo19, gb19, gl19, cl19, HG19⟩ := Kd.R_form HO_5.out (by omega); (first | cases eo19 | (injection eo19 with ea_ en_ ec_; (first | subst ea_ | (injection ea_ with ea_; subst ea_)); subst ec_; clear en_)); have GB19 := Aside0.mk gb19; have GG19 := Aside0.mk HG19; clear gb19 gl19 HG19; (first | simp only [add_plain] at hx166_0 | skip); obtain ⟨hx19_0, hf19_0⟩ := Kd.R_celln 0 HO_5.out ((ji15) : Int) p19 q19; replace p19 := eq_true p19; replace q19 := eq_true q19; obtain ⟨hy21_, hz21_⟩ := Kd.R_celln 0 HO_5.out ((ji15) : Int) uO uO; have HP21 := Kd.R_putg HO_5.out ((ji15) : Int) (add64_s (add64_s t165 (rd x5_2 (ji15)) 0) x8_2 0)) | ((with_reducible refine gate_store (t := 50) (p := 68) rfl ?_); refine store_event (t := 50) (p := 68) (v := ?vo_w22) (w1 := (wr.setCell ⟨go19, ((ji15) : Int).toNat, none⟩ (.int .u64 (add64_s (add64_s t165 (rd x5_2 (ji15)) 0) x8_2 0)))) ?hg ?ho ?hn ?hr ?_; (case ho => rfl); (case hg => rfl); (case hn => rfl); (case hr => first | (go_simp; done) | (go_simp; rfl) | (obtain ⟨hy_, hz_⟩ := Kd.R_celln 0 HO_5.out ((ji15) : Int) uO uO; (try simp only [Go.IntWalk.toNatUp] at hy_ hz_); (try simp only [Int.reduceToNat, Int.toNat_zero, Int.toNat_ofNat] at hy_ hz_); first | (go_simp; done) | (go_simp; rfl))); intro w22 hw; have hg : wr.grownBy w22 (some go19) := (by rw [hw]; exact HP21.2); have hp_ : Kd.R (Kd.int .u64) 50 w22 w.heap.size (fun _ => True) (.slice (some ⟨go19, 0, none⟩) x5_2.length co20) y167 := (by rw [hw, Ny167.out]; exact HP21.1); clear HP21; replace HO_5 := Aside0.mk (hp_); replace HB := Aside0.mk ((by rw [hw]; exact below_set (HB.out) GB19.out : Below w.heap.size w w22)); clear hg hw hp_))
       first | go_roundg k2 | ((try simp only [← hji15] at H'); simp only [← hji15]; go_roundg k2) | ((try simp only [← hji3] at H'); simp only [← hji3]; go_roundg k2)
       case measure => have := HK1.out; have := HK2.out; omega
       case rel => first | exact ⟨(y167), (IntKind.u64.wrap ((IntKind.u64.wrap (t164 + (add64_c t165 (rd x5_2 (ji15)) 0))) + (add64_c (add64_s t165 (rd x5_2 (ji15)) 0) x8_2 0))), (wrap64 (x29_2 + 1)), (by first | rfl | (simp; done) | (simp only [← hji15] <;> (first | rfl | simp)) | (simp [*]; done)), uG, H', ⟨by have := HK1.out; have := HK2.out; omega⟩, ⟨uR HO_5.out⟩, ⟨uB⟩⟩ | (simp only [← hji15] at H'; exact ⟨(y167), (IntKind.u64.wrap ((IntKind.u64.wrap (t164 + (add64_c t165 (rd x5_2 (ji15)) 0))) + (add64_c (add64_s t165 (rd x5_2 (ji15)) 0) x8_2 0))), (wrap64 (x29_2 + 1)), (by first | rfl | (simp; done) | (simp only [← hji15] <;> (first | rfl | simp)) | (simp [*]; done)), uG, H', ⟨by have := HK1.out; have := HK2.out; omega⟩, ⟨uR HO_5.out⟩, ⟨uB⟩⟩) | (simp only [← hji3] at H'; exact ⟨(y167), (IntKind.u64.wrap ((IntKind.u64.wrap (t164 + (add64_c t165 (rd x5_2 (ji15)) 0))) + (add64_c (add64_s t165 (rd x5_2 (ji15)) 0) x8_2 0))), (wrap64 (x29_2 + 1)), (by first | rfl | (simp; done) | (simp only [← hji15] <;> (first | rfl | simp)) | (simp [*]; done)), uG, H', ⟨by have := HK1.out; have := HK2.out; omega⟩, ⟨uR HO_5.out⟩, ⟨uB⟩⟩)
      rw [if_neg c11] at H
      have c11b0 : decide (x29_2 < (l1.length : Int)) = false := decide_eq_false c11
      clear c11
      obtain ⟨ji23, hji23⟩ : ∃ j_ : Int, (wrap64 (x22_1 + (l1.length : Int))) = j_ := ⟨_, rfl⟩
      first | rw [hji23] at H | simp only [hji23] at H
      have hji23w : (IntKind.i64.wrap (x22_1 + (l1.length : Int))) = ji23 := (i64_w _).trans hji23
      replace H := uT H; obtain ⟨c24, H⟩ := H
      have c24b0 : decide (0 ≤ (ji23)) = true := decide_eq_true c24
      clear c24
      replace H := uT H; obtain ⟨c25, H⟩ := H
      have c25b0 : decide ((ji23) < (x5_2.length : Int)) = true := decide_eq_true c25
      clear c25
      obtain ⟨y168, hy168⟩ : ∃ y_ : List Int, y_ = (x5_2.set ((ji23) : Int).toNat x8_2) := ⟨_, rfl⟩
      replace H : (nat_school.l0 k2 l1 y168 l0 (l0.length : Int) (wrap64 (x22_1 + 1))) = some r := by first | (rw [hy168]; with_reducible exact H) | (have H2_ := (Option.bind_some _ _).symm.trans H; rw [hy168]; with_reducible exact H2_) | (have H2_ := (Option.bind_some _ _).symm.trans H; with_reducible exact H2_) | with_reducible exact H | (rw [hy168]; exact H) | exact H
      have Ny168 := Aside0.mk hy168; clear hy168
      have H' := Aside0.mk H
      clear H
      have p26 : 0 ≤ ((ji23) : Int) := uO
      have q26 : ((ji23) : Int) < ((x5_2.length : Int) : Int) := uO
      obtain ⟨go26, co26, eo26, gb26, gl26, cl26, HG26⟩ := Kd.R_form HO_5.out (by omega)
      (first | cases eo26 | (injection eo26 with ea_ en_ ec_; (first | subst ea_ | (injection ea_ with ea_; subst ea_)); subst ec_; clear en_))
      have GB26 := Aside0.mk gb26; have GG26 := Aside0.mk HG26; clear gb26 gl26 HG26
      obtain ⟨hx26_0, hf26_0⟩ := Kd.R_celln 0 HO_5.out ((ji23) : Int) p26 q26
      replace p26 := eq_true p26
      replace q26 := eq_true q26
      have HP27 := Kd.R_putg HO_5.out ((ji23) : Int) x8_2
      go_wp2_with (first | ((with_reducible refine gate_store (t := 50) (p := 76) rfl ?_); refine store_event (t := 50) (p := 76) (v := ?vo_w28) (w1 := (wr.setCell ⟨go26, ((ji23) : Int).toNat, none⟩ (.int .u64 x8_2))) ?hg ?ho ?hn ?hr ?_; (case ho => rfl); (case hg => rfl); (case hn => rfl); (case hr => first | (go_simp; done) | (go_simp; rfl) | (obtain ⟨hy_, hz_⟩ := Kd.R_celln 0 HO_5.out ((ji23) : Int) uO uO; (try simp only [Go.IntWalk.toNatUp] at hy_ hz_); (try simp only [Int.reduceToNat, Int.toNat_zero, Int.toNat_ofNat] at hy_ hz_); first | (go_simp; done) | (go_simp; rfl))); intro w28 hw; have hg : wr.grownBy w28 (some go26) := (by rw [hw]; exact HP27.2); have hp_ : Kd.R (Kd.int .u64) 50 w28 w.heap.size (fun _ => True) (.slice (some ⟨go26, 0, none⟩) x5_2.length co26) y168 := (by rw [hw, Ny168.out]; exact HP27.1); clear HP27; replace HO_5 := Aside0.mk (hp_); replace HB := Aside0.mk ((by rw [hw]; exact below_set (HB.out) GB26.out : Below w.heap.size w w28)); clear hg hw hp_))
      first | go_roundg k2 | ((try simp only [← hji23] at H'); simp only [← hji23]; go_roundg k2) | ((try simp only [← hji15] at H'); simp only [← hji15]; go_roundg k2) | ((try simp only [← hji3] at H'); simp only [← hji3]; go_roundg k2)
      case measure => have := HK1.out; have := HK2.out; omega
      case rel => first | exact ⟨(y168), (wrap64 (x22_1 + 1)), uG, H', ⟨by have := HK1.out; have := HK2.out; omega⟩, ⟨uR HO_5.out⟩, ⟨uB⟩⟩ | (simp only [← hji23] at H'; exact ⟨(y168), (wrap64 (x22_1 + 1)), uG, H', ⟨by have := HK1.out; have := HK2.out; omega⟩, ⟨uR HO_5.out⟩, ⟨uB⟩⟩) | (simp only [← hji15] at H'; exact ⟨(y168), (wrap64 (x22_1 + 1)), uG, H', ⟨by have := HK1.out; have := HK2.out; omega⟩, ⟨uR HO_5.out⟩, ⟨uB⟩⟩) | (simp only [← hji3] at H'; exact ⟨(y168), (wrap64 (x22_1 + 1)), uG, H', ⟨by have := HK1.out; have := HK2.out; omega⟩, ⟨uR HO_5.out⟩, ⟨uB⟩⟩)
   rw [if_neg c8] at H
   have c8b0 : decide (x22_1 < (l0.length : Int)) = false := decide_eq_false c8
   clear c8
   replace H := ub H; obtain ⟨t159, A29, H⟩ := H
   obtain rfl := Option.some.inj H
   obtain ⟨Ao30, co30, eo30⟩ := Kd.R_slice HO_5.out
   subst eo30
   go_wp2_with (first | ((with_reducible refine gate_callee (f := 116) rfl ?_); refine goesL_ (some 79) rfl rfl Try.func116 (by kernel_rfl) rfl #[.slice Ao30 x5_1.length co30] rfl uM ?_; (with_reducible refine (nat_trim.calls k1 (fun k_ => some k_ = (.slice Ao30 x5_1.length co30 : Value).ownBlock) (.slice Ao30 x5_1.length co30) x5_1 t159 w _ ?side1 ?side2 A29.out).mono ?_); (case side1 => repeat (first | (with_reducible first | exact HB.out | apply below_alloc | apply pw_below_drewN | apply below_drew1) | exact HB.out)); (case side2 => exact Kd.R_tight rfl HO_5.out); rintro e w31 ⟨v160, rfl, ho0, hb, hkp⟩; refine ⟨_, rfl, ?_⟩; have HO161 := Aside0.mk (Kd.R_mono (ok' := fun k_ => True) ho0 (fun k_ hk_ => trivial)); replace HB := Aside0.mk (hb); clear HO_5; (try clear hb); (try clear hkp); (try clear ho0)))
   go_ret
   exact ⟨_, by first | rfl | (simp [errW_none, errW_some] <;> rfl) | (simp only [← hji3]; first | rfl | (simp [errW_none, errW_some] <;> rfl)) | (simp [*, errW_none, errW_some] <;> rfl), uR HO161.out, uB⟩
end Go.Proofs.Ytlkinjhmgljapaa.F
end
