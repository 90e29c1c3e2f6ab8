/- Proved: the law FixencBack of layer 7, the stage's theorem: what was encoded, or packed, is told again; for every input, without a condition. -/
import Derived.Test.YtgeanpnkllnipabMFixencBacka
section
namespace Go.Proofs.Ytgeanpnkllnipab.F
open Go.RowKit Go.Proofs.YtgeanpnkllnipabW.PrintWords Go.Proofs.YtgeanpnkllnipabW.PrintLast Go.Proofs.YtgeanpnkllnipabW.PrintMore
attribute [local go_sem] max2_int min2_int max_two min_two max_three min_three max_four min_four
set_option linter.unusedVariables false
set_option linter.unusedSimpArgs false
def bits_Len64.j0 : Nat → Int → Int → Option (Int)
 | 0, _, _ => none
 | k + 1, x0, x2 => if x0 ≥ 65536 then (if (x0 / 65536) ≥ 256 then (if 0 ≤ (((x0 / 65536) / 256) % 256) then (if (((x0 / 65536) / 256) % 256) < 256 then (some (wrap64 ((wrap64 ((wrap64 (x2 + 16)) + 8)) + (wrap64 (bt (⟨#[0, 1, 2, 2, 3, 3, 3, 3, 4, 4, 4, 4, 4, 4, 4, 4, 5, 5, 5, 5, 5, 5, 5, 5, 5, 5, 5, 5, 5, 5, 5, 5, 6, 6, 6, 6, 6, 6, 6, 6, 6, 6, 6, 6, 6, 6, 6, 6, 6, 6, 6, 6, 6, 6, 6, 6, 6, 6, 6, 6, 6, 6, 6, 6, 7, 7, 7, 7, 7, 7, 7, 7, 7, 7, 7, 7, 7, 7, 7, 7, 7, 7, 7, 7, 7, 7, 7, 7, 7, 7, 7, 7, 7, 7, 7, 7, 7, 7, 7, 7, 7, 7, 7, 7, 7, 7, 7, 7, 7, 7, 7, 7, 7, 7, 7, 7, 7, 7, 7, 7, 7, 7, 7, 7, 7, 7, 7, 7, 8, 8, 8, 8, 8, 8, 8, 8, 8, 8, 8, 8, 8, 8, 8, 8, 8, 8, 8, 8, 8, 8, 8, 8, 8, 8, 8, 8, 8, 8, 8, 8, 8, 8, 8, 8, 8, 8, 8, 8, 8, 8, 8, 8, 8, 8, 8, 8, 8, 8, 8, 8, 8, 8, 8, 8, 8, 8, 8, 8, 8, 8, 8, 8, 8, 8, 8, 8, 8, 8, 8, 8, 8, 8, 8, 8, 8, 8, 8, 8, 8, 8, 8, 8, 8, 8, 8, 8, 8, 8, 8, 8, 8, 8, 8, 8, 8, 8, 8, 8, 8, 8, 8, 8, 8, 8, 8, 8, 8, 8, 8, 8, 8, 8, 8, 8, 8, 8, 8, 8, 8, 8, 8, 8, 8, 8, 8, 8]⟩ : ByteArray) (((x0 / 65536) / 256) % 256)))))) else (none)) else (none)) else (if 0 ≤ ((x0 / 65536) % 256) then (if ((x0 / 65536) % 256) < 256 then (some (wrap64 ((wrap64 (x2 + 16)) + (wrap64 (bt (⟨#[0, 1, 2, 2, 3, 3, 3, 3, 4, 4, 4, 4, 4, 4, 4, 4, 5, 5, 5, 5, 5, 5, 5, 5, 5, 5, 5, 5, 5, 5, 5, 5, 6, 6, 6, 6, 6, 6, 6, 6, 6, 6, 6, 6, 6, 6, 6, 6, 6, 6, 6, 6, 6, 6, 6, 6, 6, 6, 6, 6, 6, 6, 6, 6, 7, 7, 7, 7, 7, 7, 7, 7, 7, 7, 7, 7, 7, 7, 7, 7, 7, 7, 7, 7, 7, 7, 7, 7, 7, 7, 7, 7, 7, 7, 7, 7, 7, 7, 7, 7, 7, 7, 7, 7, 7, 7, 7, 7, 7, 7, 7, 7, 7, 7, 7, 7, 7, 7, 7, 7, 7, 7, 7, 7, 7, 7, 7, 7, 8, 8, 8, 8, 8, 8, 8, 8, 8, 8, 8, 8, 8, 8, 8, 8, 8, 8, 8, 8, 8, 8, 8, 8, 8, 8, 8, 8, 8, 8, 8, 8, 8, 8, 8, 8, 8, 8, 8, 8, 8, 8, 8, 8, 8, 8, 8, 8, 8, 8, 8, 8, 8, 8, 8, 8, 8, 8, 8, 8, 8, 8, 8, 8, 8, 8, 8, 8, 8, 8, 8, 8, 8, 8, 8, 8, 8, 8, 8, 8, 8, 8, 8, 8, 8, 8, 8, 8, 8, 8, 8, 8, 8, 8, 8, 8, 8, 8, 8, 8, 8, 8, 8, 8, 8, 8, 8, 8, 8, 8, 8, 8, 8, 8, 8, 8, 8, 8, 8, 8, 8, 8, 8, 8, 8, 8, 8, 8]⟩ : ByteArray) ((x0 / 65536) % 256)))))) else (none)) else (none))) else (if x0 ≥ 256 then (if 0 ≤ ((x0 / 256) % 256) then (if ((x0 / 256) % 256) < 256 then (some (wrap64 ((wrap64 (x2 + 8)) + (wrap64 (bt (⟨#[0, 1, 2, 2, 3, 3, 3, 3, 4, 4, 4, 4, 4, 4, 4, 4, 5, 5, 5, 5, 5, 5, 5, 5, 5, 5, 5, 5, 5, 5, 5, 5, 6, 6, 6, 6, 6, 6, 6, 6, 6, 6, 6, 6, 6, 6, 6, 6, 6, 6, 6, 6, 6, 6, 6, 6, 6, 6, 6, 6, 6, 6, 6, 6, 7, 7, 7, 7, 7, 7, 7, 7, 7, 7, 7, 7, 7, 7, 7, 7, 7, 7, 7, 7, 7, 7, 7, 7, 7, 7, 7, 7, 7, 7, 7, 7, 7, 7, 7, 7, 7, 7, 7, 7, 7, 7, 7, 7, 7, 7, 7, 7, 7, 7, 7, 7, 7, 7, 7, 7, 7, 7, 7, 7, 7, 7, 7, 7, 8, 8, 8, 8, 8, 8, 8, 8, 8, 8, 8, 8, 8, 8, 8, 8, 8, 8, 8, 8, 8, 8, 8, 8, 8, 8, 8, 8, 8, 8, 8, 8, 8, 8, 8, 8, 8, 8, 8, 8, 8, 8, 8, 8, 8, 8, 8, 8, 8, 8, 8, 8, 8, 8, 8, 8, 8, 8, 8, 8, 8, 8, 8, 8, 8, 8, 8, 8, 8, 8, 8, 8, 8, 8, 8, 8, 8, 8, 8, 8, 8, 8, 8, 8, 8, 8, 8, 8, 8, 8, 8, 8, 8, 8, 8, 8, 8, 8, 8, 8, 8, 8, 8, 8, 8, 8, 8, 8, 8, 8, 8, 8, 8, 8, 8, 8, 8, 8, 8, 8, 8, 8, 8, 8, 8, 8, 8, 8]⟩ : ByteArray) ((x0 / 256) % 256)))))) else (none)) else (none)) else (if 0 ≤ ((x0) % 256) then (if ((x0) % 256) < 256 then (some (wrap64 (x2 + (wrap64 (bt (⟨#[0, 1, 2, 2, 3, 3, 3, 3, 4, 4, 4, 4, 4, 4, 4, 4, 5, 5, 5, 5, 5, 5, 5, 5, 5, 5, 5, 5, 5, 5, 5, 5, 6, 6, 6, 6, 6, 6, 6, 6, 6, 6, 6, 6, 6, 6, 6, 6, 6, 6, 6, 6, 6, 6, 6, 6, 6, 6, 6, 6, 6, 6, 6, 6, 7, 7, 7, 7, 7, 7, 7, 7, 7, 7, 7, 7, 7, 7, 7, 7, 7, 7, 7, 7, 7, 7, 7, 7, 7, 7, 7, 7, 7, 7, 7, 7, 7, 7, 7, 7, 7, 7, 7, 7, 7, 7, 7, 7, 7, 7, 7, 7, 7, 7, 7, 7, 7, 7, 7, 7, 7, 7, 7, 7, 7, 7, 7, 7, 8, 8, 8, 8, 8, 8, 8, 8, 8, 8, 8, 8, 8, 8, 8, 8, 8, 8, 8, 8, 8, 8, 8, 8, 8, 8, 8, 8, 8, 8, 8, 8, 8, 8, 8, 8, 8, 8, 8, 8, 8, 8, 8, 8, 8, 8, 8, 8, 8, 8, 8, 8, 8, 8, 8, 8, 8, 8, 8, 8, 8, 8, 8, 8, 8, 8, 8, 8, 8, 8, 8, 8, 8, 8, 8, 8, 8, 8, 8, 8, 8, 8, 8, 8, 8, 8, 8, 8, 8, 8, 8, 8, 8, 8, 8, 8, 8, 8, 8, 8, 8, 8, 8, 8, 8, 8, 8, 8, 8, 8, 8, 8, 8, 8, 8, 8, 8, 8, 8, 8, 8, 8, 8, 8, 8, 8, 8, 8]⟩ : ByteArray) ((x0) % 256)))))) else (none)) else (none)))
def bits_Len64.f (k : Nat) (a0 : Int) : Option (Int) := if a0 ≥ 4294967296 then (bits_Len64.j0 k (a0 / 4294967296) 32) else (bits_Len64.j0 k a0 0)
set_option maxHeartbeats 8000000 in
set_option maxRecDepth 100000 in
theorem bits_Len64.calls (k : Nat) (a0 : Int) (r : Int) (w : World) (h : bits_Len64.f k a0 = some r) :
  Calls Try.prog 67 #[.int .u64 a0] w fun e w' => e = .returned (.int .i64 r) ∧ Drawn0 w w' := by
 have H : (if a0 ≥ 4294967296 then (bits_Len64.j0 k (a0 / 4294967296) 32) else (bits_Len64.j0 k a0 0)) = some r := h
 clear h; have HC2 := Aside0.mk H; clear H
 go_enter Try.func67, Try.ntmps67
 go_upto_if 4 with (fail)
 go_cut [0, 2] (fun v0 v2 wc => ∃ (kq : Nat) (x0_1 : Int) (x2_1 : Int), v0 = .int .u64 x0_1 ∧ v2 = .int .i64 x2_1 ∧ Aside0 (bits_Len64.j0 kq x0_1 x2_1 = some r) ∧ Aside0 (kq ≤ k) ∧ Drawn0 w wc)
 case first =>
  have H := HC2.out
  clear HC2
  by_cases c3 : a0 ≥ 4294967296
  ·
   rw [if_pos c3] at H
   have c3b0 : decide (4294967296 ≤ a0) = true := decide_eq_true c3
   clear c3
   (first | rw [c3b0] | (simp only [i64_w, i32_w]; rw [c3b0]) | skip)
   have H' := Aside0.mk H
   clear H
   go_wp2
   go_meet
   case rel => exact ⟨_, (a0 / 4294967296), (32), uG, uG, H', ⟨uW⟩, by repeat (first | exact Drawn0.refl _ | apply Drawn0.step)⟩
  rw [if_neg c3] at H
  have c3b0 : decide (4294967296 ≤ a0) = false := decide_eq_false c3
  clear c3
  (first | rw [c3b0] | (simp only [i64_w, i32_w]; rw [c3b0]) | skip)
  have H' := Aside0.mk H
  clear H
  go_wp2
  go_meet
  case rel => exact ⟨_, (a0), (0), uG, uG, H', ⟨uW⟩, by repeat (first | exact Drawn0.refl _ | apply Drawn0.step)⟩
 case rest =>
  clear HC2; (try clear p2); (try clear c3); (try clear c3b0)
  obtain ⟨kq, x0_1, x2_1, rfl, rfl, HA, HJ1, ⟨mc1, rfl⟩⟩ := hcut
  cases kq with
  | zero => exact absurd HA.out (by simp [bits_Len64.j0])
  | succ kj1 =>
   have H := HA.out
   clear HA
   simp only [bits_Len64.j0] at H
   by_cases c4 : x0_1 ≥ 65536
   ·
    rw [if_pos c4] at H
    have c4b0 : decide (65536 ≤ x0_1) = true := decide_eq_true c4
    clear c4
    by_cases c5 : (x0_1 / 65536) ≥ 256
    ·
     rw [if_pos c5] at H
     have c5b0 : decide (256 ≤ (x0_1 / 65536)) = true := decide_eq_true c5
     clear c5
     obtain ⟨ji6, hji6⟩ : ∃ j_ : Int, (((x0_1 / 65536) / 256) % 256) = j_ := ⟨_, rfl⟩
     first | rw [hji6] at H | simp only [hji6] at H
     replace H := uT H; obtain ⟨c7, H⟩ := H
     have c7b0 : decide (0 ≤ (ji6)) = true := decide_eq_true c7
     clear c7
     replace H := uT H; obtain ⟨c8, H⟩ := H
     have c8b0 : decide ((ji6) < 256) = true := decide_eq_true c8
     clear c8
     obtain rfl := Option.some.inj H
     have p9 : 0 ≤ ((ji6) : Int) := uO
     have q9 : (ji6) < (256 : Int) := uO
     have hx9 := bt_at (⟨#[0, 1, 2, 2, 3, 3, 3, 3, 4, 4, 4, 4, 4, 4, 4, 4, 5, 5, 5, 5, 5, 5, 5, 5, 5, 5, 5, 5, 5, 5, 5, 5, 6, 6, 6, 6, 6, 6, 6, 6, 6, 6, 6, 6, 6, 6, 6, 6, 6, 6, 6, 6, 6, 6, 6, 6, 6, 6, 6, 6, 6, 6, 6, 6, 7, 7, 7, 7, 7, 7, 7, 7, 7, 7, 7, 7, 7, 7, 7, 7, 7, 7, 7, 7, 7, 7, 7, 7, 7, 7, 7, 7, 7, 7, 7, 7, 7, 7, 7, 7, 7, 7, 7, 7, 7, 7, 7, 7, 7, 7, 7, 7, 7, 7, 7, 7, 7, 7, 7, 7, 7, 7, 7, 7, 7, 7, 7, 7, 8, 8, 8, 8, 8, 8, 8, 8, 8, 8, 8, 8, 8, 8, 8, 8, 8, 8, 8, 8, 8, 8, 8, 8, 8, 8, 8, 8, 8, 8, 8, 8, 8, 8, 8, 8, 8, 8, 8, 8, 8, 8, 8, 8, 8, 8, 8, 8, 8, 8, 8, 8, 8, 8, 8, 8, 8, 8, 8, 8, 8, 8, 8, 8, 8, 8, 8, 8, 8, 8, 8, 8, 8, 8, 8, 8, 8, 8, 8, 8, 8, 8, 8, 8, 8, 8, 8, 8, 8, 8, 8, 8, 8, 8, 8, 8, 8, 8, 8, 8, 8, 8, 8, 8, 8, 8, 8, 8, 8, 8, 8, 8, 8, 8, 8, 8, 8, 8, 8, 8, 8, 8, 8, 8, 8, 8, 8, 8]⟩ : ByteArray) (ji6)
     replace p9 := eq_true p9
     replace q9 := eq_true q9
     go_wp2
     go_ret
     exact ⟨by first | rfl | (simp; done) | (simp only [← hji6] <;> (first | rfl | simp)) | (simp [*]; done), by repeat (first | exact Drawn0.refl _ | apply Drawn0.step)⟩
    rw [if_neg c5] at H
    have c5b0 : decide (256 ≤ (x0_1 / 65536)) = false := decide_eq_false c5
    clear c5
    obtain ⟨ji10, hji10⟩ : ∃ j_ : Int, ((x0_1 / 65536) % 256) = j_ := ⟨_, rfl⟩
    first | rw [hji10] at H | simp only [hji10] at H
    replace H := uT H; obtain ⟨c11, H⟩ := H
    have c11b0 : decide (0 ≤ (ji10)) = true := decide_eq_true c11
    clear c11
    replace H := uT H; obtain ⟨c12, H⟩ := H
    have c12b0 : decide ((ji10) < 256) = true := decide_eq_true c12
    clear c12
    obtain rfl := Option.some.inj H
    have p13 : 0 ≤ ((ji10) : Int) := uO
    have q13 : (ji10) < (256 : Int) := uO
    have hx13 := bt_at (⟨#[0, 1, 2, 2, 3, 3, 3, 3, 4, 4, 4, 4, 4, 4, 4, 4, 5, 5, 5, 5, 5, 5, 5, 5, 5, 5, 5, 5, 5, 5, 5, 5, 6, 6, 6, 6, 6, 6, 6, 6, 6, 6, 6, 6, 6, 6, 6, 6, 6, 6, 6, 6, 6, 6, 6, 6, 6, 6, 6, 6, 6, 6, 6, 6, 7, 7, 7, 7, 7, 7, 7, 7, 7, 7, 7, 7, 7, 7, 7, 7, 7, 7, 7, 7, 7, 7, 7, 7, 7, 7, 7, 7, 7, 7, 7, 7, 7, 7, 7, 7, 7, 7, 7, 7, 7, 7, 7, 7, 7, 7, 7, 7, 7, 7, 7, 7, 7, 7, 7, 7, 7, 7, 7, 7, 7, 7, 7, 7, 8, 8, 8, 8, 8, 8, 8, 8, 8, 8, 8, 8, 8, 8, 8, 8, 8, 8, 8, 8, 8, 8, 8, 8, 8, 8, 8, 8, 8, 8, 8, 8, 8, 8, 8, 8, 8, 8, 8, 8, 8, 8, 8, 8, 8, 8, 8, 8, 8, 8, 8, 8, 8, 8, 8, 8, 8, 8, 8, 8, 8, 8, 8, 8, 8, 8, 8, 8, 8, 8, 8, 8, 8, 8, 8, 8, 8, 8, 8, 8, 8, 8, 8, 8, 8, 8, 8, 8, 8, 8, 8, 8, 8, 8, 8, 8, 8, 8, 8, 8, 8, 8, 8, 8, 8, 8, 8, 8, 8, 8, 8, 8, 8, 8, 8, 8, 8, 8, 8, 8, 8, 8, 8, 8, 8, 8, 8, 8]⟩ : ByteArray) (ji10)
    replace p13 := eq_true p13
    replace q13 := eq_true q13
    go_wp2
    go_ret
    exact ⟨by first | rfl | (simp; done) | (simp only [← hji10] <;> (first | rfl | simp)) | (simp [*]; done), by repeat (first | exact Drawn0.refl _ | apply Drawn0.step)⟩
   rw [if_neg c4] at H
   have c4b0 : decide (65536 ≤ x0_1) = false := decide_eq_false c4
   clear c4
   by_cases c14 : x0_1 ≥ 256
   ·
    rw [if_pos c14] at H
    have c14b0 : decide (256 ≤ x0_1) = true := decide_eq_true c14
    clear c14
    obtain ⟨ji15, hji15⟩ : ∃ j_ : Int, ((x0_1 / 256) % 256) = j_ := ⟨_, rfl⟩
    first | rw [hji15] at H | simp only [hji15] at H
    replace H := uT H; obtain ⟨c16, H⟩ := H
    have c16b0 : decide (0 ≤ (ji15)) = true := decide_eq_true c16
    clear c16
    replace H := uT H; obtain ⟨c17, H⟩ := H
    have c17b0 : decide ((ji15) < 256) = true := decide_eq_true c17
    clear c17
    obtain rfl := Option.some.inj H
    have p18 : 0 ≤ ((ji15) : Int) := uO
    have q18 : (ji15) < (256 : Int) := uO
    have hx18 := bt_at (⟨#[0, 1, 2, 2, 3, 3, 3, 3, 4, 4, 4, 4, 4, 4, 4, 4, 5, 5, 5, 5, 5, 5, 5, 5, 5, 5, 5, 5, 5, 5, 5, 5, 6, 6, 6, 6, 6, 6, 6, 6, 6, 6, 6, 6, 6, 6, 6, 6, 6, 6, 6, 6, 6, 6, 6, 6, 6, 6, 6, 6, 6, 6, 6, 6, 7, 7, 7, 7, 7, 7, 7, 7, 7, 7, 7, 7, 7, 7, 7, 7, 7, 7, 7, 7, 7, 7, 7, 7, 7, 7, 7, 7, 7, 7, 7, 7, 7, 7, 7, 7, 7, 7, 7, 7, 7, 7, 7, 7, 7, 7, 7, 7, 7, 7, 7, 7, 7, 7, 7, 7, 7, 7, 7, 7, 7, 7, 7, 7, 8, 8, 8, 8, 8, 8, 8, 8, 8, 8, 8, 8, 8, 8, 8, 8, 8, 8, 8, 8, 8, 8, 8, 8, 8, 8, 8, 8, 8, 8, 8, 8, 8, 8, 8, 8, 8, 8, 8, 8, 8, 8, 8, 8, 8, 8, 8, 8, 8, 8, 8, 8, 8, 8, 8, 8, 8, 8, 8, 8, 8, 8, 8, 8, 8, 8, 8, 8, 8, 8, 8, 8, 8, 8, 8, 8, 8, 8, 8, 8, 8, 8, 8, 8, 8, 8, 8, 8, 8, 8, 8, 8, 8, 8, 8, 8, 8, 8, 8, 8, 8, 8, 8, 8, 8, 8, 8, 8, 8, 8, 8, 8, 8, 8, 8, 8, 8, 8, 8, 8, 8, 8, 8, 8, 8, 8, 8, 8]⟩ : ByteArray) (ji15)
    replace p18 := eq_true p18
    replace q18 := eq_true q18
    go_wp2
    go_ret
    exact ⟨by first | rfl | (simp; done) | (simp only [← hji15] <;> (first | rfl | simp)) | (simp [*]; done), by repeat (first | exact Drawn0.refl _ | apply Drawn0.step)⟩
   rw [if_neg c14] at H
   have c14b0 : decide (256 ≤ x0_1) = false := decide_eq_false c14
   clear c14
   obtain ⟨ji19, hji19⟩ : ∃ j_ : Int, ((x0_1) % 256) = j_ := ⟨_, rfl⟩
   first | rw [hji19] at H | simp only [hji19] at H
   replace H := uT H; obtain ⟨c20, H⟩ := H
   have c20b0 : decide (0 ≤ (ji19)) = true := decide_eq_true c20
   clear c20
   replace H := uT H; obtain ⟨c21, H⟩ := H
   have c21b0 : decide ((ji19) < 256) = true := decide_eq_true c21
   clear c21
   obtain rfl := Option.some.inj H
   have p22 : 0 ≤ ((ji19) : Int) := uO
   have q22 : (ji19) < (256 : Int) := uO
   have hx22 := bt_at (⟨#[0, 1, 2, 2, 3, 3, 3, 3, 4, 4, 4, 4, 4, 4, 4, 4, 5, 5, 5, 5, 5, 5, 5, 5, 5, 5, 5, 5, 5, 5, 5, 5, 6, 6, 6, 6, 6, 6, 6, 6, 6, 6, 6, 6, 6, 6, 6, 6, 6, 6, 6, 6, 6, 6, 6, 6, 6, 6, 6, 6, 6, 6, 6, 6, 7, 7, 7, 7, 7, 7, 7, 7, 7, 7, 7, 7, 7, 7, 7, 7, 7, 7, 7, 7, 7, 7, 7, 7, 7, 7, 7, 7, 7, 7, 7, 7, 7, 7, 7, 7, 7, 7, 7, 7, 7, 7, 7, 7, 7, 7, 7, 7, 7, 7, 7, 7, 7, 7, 7, 7, 7, 7, 7, 7, 7, 7, 7, 7, 8, 8, 8, 8, 8, 8, 8, 8, 8, 8, 8, 8, 8, 8, 8, 8, 8, 8, 8, 8, 8, 8, 8, 8, 8, 8, 8, 8, 8, 8, 8, 8, 8, 8, 8, 8, 8, 8, 8, 8, 8, 8, 8, 8, 8, 8, 8, 8, 8, 8, 8, 8, 8, 8, 8, 8, 8, 8, 8, 8, 8, 8, 8, 8, 8, 8, 8, 8, 8, 8, 8, 8, 8, 8, 8, 8, 8, 8, 8, 8, 8, 8, 8, 8, 8, 8, 8, 8, 8, 8, 8, 8, 8, 8, 8, 8, 8, 8, 8, 8, 8, 8, 8, 8, 8, 8, 8, 8, 8, 8, 8, 8, 8, 8, 8, 8, 8, 8, 8, 8, 8, 8, 8, 8, 8, 8, 8, 8]⟩ : ByteArray) (ji19)
   replace p22 := eq_true p22
   replace q22 := eq_true q22
   go_wp2
   go_ret
   exact ⟨by first | rfl | (simp; done) | (simp only [← hji19] <;> (first | rfl | simp)) | (simp [*]; done), by repeat (first | exact Drawn0.refl _ | apply Drawn0.step)⟩
def bits_LeadingZeros64.f (k : Nat) (a0 : Int) : Option (Int) := (bits_Len64.f k a0).bind fun t125 => (some (wrap64 (64 - t125)))
set_option maxHeartbeats 8000000 in
set_option maxRecDepth 100000 in
theorem bits_LeadingZeros64.calls (k : Nat) (a0 : Int) (r : Int) (w : World) (h : bits_LeadingZeros64.f k a0 = some r) :
  Calls Try.prog 140 #[.int .u64 a0] w fun e w' => e = .returned (.int .i64 r) ∧ Drawn0 w w' := by
 have H : ((bits_Len64.f k a0).bind fun t125 => (some (wrap64 (64 - t125)))) = some r := h
 clear h
 replace H := ub H; obtain ⟨t125, A2, H⟩ := H
 obtain rfl := Option.some.inj H
 go_enter Try.func140, Try.ntmps140
 go_wp2_with (first | ((with_reducible refine gate_callee (f := 67) rfl ?_); refine goesL_ (some 4) rfl rfl Try.func67 (by kernel_rfl) rfl #[.int .u64 a0] rfl uM ?_; (with_reducible refine (bits_Len64.calls k a0 t125 _ A2.out).mono ?_); rintro e w' ⟨rfl, ⟨nd, rfl⟩⟩; refine ⟨_, rfl, ?_⟩))
 go_ret
 exact ⟨by first | rfl | (simp; done) | (simp [*]; done), by repeat (first | exact Drawn0.refl _ | apply Drawn0.step)⟩
def bits_Mul64.f (a0 : Int) (a1 : Int) : Option (Int × Int) := some (IntKind.u64.wrap ((IntKind.u64.wrap ((IntKind.u64.wrap ((a0 / 4294967296) * (a1 / 4294967296))) + ((IntKind.u64.wrap ((IntKind.u64.wrap ((a0 / 4294967296) * (Go.bits .and .u64 a1 4294967295))) + ((IntKind.u64.wrap ((Go.bits .and .u64 a0 4294967295) * (Go.bits .and .u64 a1 4294967295))) / 4294967296))) / 4294967296))) + ((IntKind.u64.wrap ((Go.bits .and .u64 (IntKind.u64.wrap ((IntKind.u64.wrap ((a0 / 4294967296) * (Go.bits .and .u64 a1 4294967295))) + ((IntKind.u64.wrap ((Go.bits .and .u64 a0 4294967295) * (Go.bits .and .u64 a1 4294967295))) / 4294967296))) 4294967295) + (IntKind.u64.wrap ((Go.bits .and .u64 a0 4294967295) * (a1 / 4294967296))))) / 4294967296)), IntKind.u64.wrap (a0 * a1))
set_option maxHeartbeats 8000000 in
set_option maxRecDepth 100000 in
theorem bits_Mul64.calls (a0 : Int) (a1 : Int) (r1 : Int) (r2 : Int) (w : World) (h : bits_Mul64.f a0 a1 = some (r1, r2)) :
  Calls Try.prog 66 #[.int .u64 a0, .int .u64 a1] w fun e w' => e = .returned (.tuple #[.int .u64 r1, .int .u64 r2]) ∧ Drawn0 w w' := by
 have H : (some (IntKind.u64.wrap ((IntKind.u64.wrap ((IntKind.u64.wrap ((a0 / 4294967296) * (a1 / 4294967296))) + ((IntKind.u64.wrap ((IntKind.u64.wrap ((a0 / 4294967296) * (Go.bits .and .u64 a1 4294967295))) + ((IntKind.u64.wrap ((Go.bits .and .u64 a0 4294967295) * (Go.bits .and .u64 a1 4294967295))) / 4294967296))) / 4294967296))) + ((IntKind.u64.wrap ((Go.bits .and .u64 (IntKind.u64.wrap ((IntKind.u64.wrap ((a0 / 4294967296) * (Go.bits .and .u64 a1 4294967295))) + ((IntKind.u64.wrap ((Go.bits .and .u64 a0 4294967295) * (Go.bits .and .u64 a1 4294967295))) / 4294967296))) 4294967295) + (IntKind.u64.wrap ((Go.bits .and .u64 a0 4294967295) * (a1 / 4294967296))))) / 4294967296)), IntKind.u64.wrap (a0 * a1))) = some (r1, r2) := h
 clear h
 simp only [Option.some.injEq, Prod.mk.injEq] at H
 obtain ⟨rfl, rfl⟩ := H
 go_enter Try.func66, Try.ntmps66
 go_wp2
 go_ret2
 exact ⟨by first | rfl | (simp; done) | (simp [*]; done), by repeat (first | exact Drawn0.refl _ | apply Drawn0.step)⟩
def nat_Small.j0 : Nat → List Int → Bool → Option (Int × Bool)
 | 0, _, _ => none
 | k + 1, x0, x4 => if x4 = true then (some (0, false)) else (if (x0.length : Int) = 0 then (some (0, true)) else (if 0 < (x0.length : Int) then (some (rd x0 0, true)) else (none)))
def nat_Small.f (k : Nat) (l0 : List Int) : Option (Int × Bool) := (nat_Right.f l0).bind fun t1215 => (if t1215 = true then (nat_Small.j0 k l0 (decide ((l0.length : Int) > 1))) else (nat_Small.j0 k l0 true))
set_option maxHeartbeats 8000000 in
set_option maxRecDepth 100000 in
theorem nat_Small.calls (k : Nat) (A0 : Option Addr) (c0 : Nat) (l0 : List Int) (r1 : Int) (r2 : Bool) (w : World) (hr0 : Kd.C (Kd.int .u64) w A0 l0.length l0) (hc0 : l0.length ≤ c0) (h : nat_Small.f k l0 = some (r1, r2)) :
  Calls Try.prog 112 #[.slice A0 l0.length c0] w fun e w' => e = .returned (.tuple #[.int .u64 r1, .bool r2]) ∧ Drawn0 w w' := by
 have HR0 := Aside0.mk hr0; have HC0 := Aside0.mk hc0; clear hr0 hc0
 have H : ((nat_Right.f l0).bind fun t1215 => (if t1215 = true then (nat_Small.j0 k l0 (decide ((l0.length : Int) > 1))) else (nat_Small.j0 k l0 true))) = some (r1, r2) := h
 clear h; have HC2 := Aside0.mk H; clear H
 go_enter Try.func112, Try.ntmps112
 go_upto_region 1 with (fail)
 go_cut [4] (fun v4 wc => ∃ (kq : Nat) (x4_1 : Bool), v4 = .bool x4_1 ∧ Aside0 (nat_Small.j0 kq l0 x4_1 = some (r1, r2)) ∧ Aside0 (kq ≤ k) ∧ Drawn0 w wc)
 case first =>
  have H := HC2.out
  clear HC2
  replace H := ub H; obtain ⟨t1215, A3, H⟩ := H
  by_cases c4 : t1215 = true
  ·
   subst c4
   have H1 : (nat_Small.j0 k l0 (decide ((l0.length : Int) > 1))) = some (r1, r2) := by rw [if_pos rfl] at H; exact H
   clear H; have H := H1; clear H1
   have H' := Aside0.mk H
   clear H
   go_wp2_with (first | ((with_reducible refine gate_callee (f := 47) rfl ?_); refine goesL_ (some 6) rfl rfl Try.func47 (by kernel_rfl) rfl #[.slice A0 l0.length c0] rfl uM ?_; (with_reducible refine (nat_Right.calls _ _ l0 true _ ?side1 ?side2 A3.out).mono ?_); (case side1 => exact uC HR0.out); (case side2 => exact HC0.out); rintro e w' ⟨rfl, ⟨nd, rfl⟩⟩; refine ⟨_, rfl, ?_⟩))
   go_meet
   case rel => exact ⟨_, (decide ((l0.length : Int) > 1)), uG, H', ⟨uW⟩, by repeat (first | exact Drawn0.refl _ | apply Drawn0.step)⟩
  replace c4 := Bool.eq_false_iff.mpr c4
  subst c4
  have H1 : (nat_Small.j0 k l0 true) = some (r1, r2) := by rw [if_neg (show ¬ (false = true) by decide)] at H; exact H
  clear H; have H := H1; clear H1
  have H' := Aside0.mk H
  clear H
  go_wp2_with (first | ((with_reducible refine gate_callee (f := 47) rfl ?_); refine goesL_ (some 6) rfl rfl Try.func47 (by kernel_rfl) rfl #[.slice A0 l0.length c0] rfl uM ?_; (with_reducible refine (nat_Right.calls _ _ l0 false _ ?side1 ?side2 A3.out).mono ?_); (case side1 => exact uC HR0.out); (case side2 => exact HC0.out); rintro e w' ⟨rfl, ⟨nd, rfl⟩⟩; refine ⟨_, rfl, ?_⟩))
  go_meet
  case rel => exact ⟨_, (true), uG, H', ⟨uW⟩, by repeat (first | exact Drawn0.refl _ | apply Drawn0.step)⟩
 case rest =>
  clear HC2; (try clear c1); (try clear p2); (try clear c4)
  obtain ⟨kq, x4_1, rfl, HA, HJ1, ⟨mc1, rfl⟩⟩ := hcut
  cases kq with
  | zero => exact absurd HA.out (by simp [nat_Small.j0])
  | succ kj1 =>
   have H := HA.out
   clear HA
   simp only [nat_Small.j0] at H
   by_cases c5 : x4_1 = true
   ·
    subst c5
    have H1 : (some (0, false)) = some (r1, r2) := by rw [if_pos rfl] at H; exact H
    clear H; have H := H1; clear H1
    simp only [Option.some.injEq, Prod.mk.injEq] at H
    obtain ⟨rfl, rfl⟩ := H
    go_wp2
    go_ret2
    exact ⟨by first | rfl | (simp; done) | (simp [*]; done), by repeat (first | exact Drawn0.refl _ | apply Drawn0.step)⟩
   replace c5 := Bool.eq_false_iff.mpr c5
   subst c5
   have H1 : (if (l0.length : Int) = 0 then (some (0, true)) else (if 0 < (l0.length : Int) then (some (rd l0 0, true)) else (none))) = some (r1, r2) := by rw [if_neg (show ¬ (false = true) by decide)] at H; exact H
   clear H; have H := H1; clear H1
   by_cases c6 : (l0.length : Int) = 0
   ·
    rw [if_pos c6] at H
    have c6b0 : ((l0.length : Int) == 0) = true := beq_iff_eq.mpr c6
    have c6b1 : ((l0.length : Int) != 0) = false := bne_eq_false_iff_eq.mpr c6
    clear c6
    simp only [Option.some.injEq, Prod.mk.injEq] at H
    obtain ⟨rfl, rfl⟩ := H
    go_wp2
    go_ret2
    exact ⟨by first | rfl | (simp; done) | (simp [*]; done), by repeat (first | exact Drawn0.refl _ | apply Drawn0.step)⟩
   rw [if_neg c6] at H
   have c6b0 : ((l0.length : Int) == 0) = false := beq_eq_false_iff_ne.mpr c6
   have c6b1 : ((l0.length : Int) != 0) = true := bne_iff_ne.mpr c6
   have c6b2 : ¬ (l0 = []) := fun h_ => c6 (by rw [h_]; rfl)
   replace H := uT H; obtain ⟨c7, H⟩ := H
   have c7b0 : decide (0 < (l0.length : Int)) = true := decide_eq_true c7
   have c7b1 : decide (0 < l0.length) = true := decide_eq_true (by omega)
   clear c7
   simp only [Option.some.injEq, Prod.mk.injEq] at H
   obtain ⟨rfl, rfl⟩ := H
   have p1216 : 0 ≤ (0 : Int) := (by omega)
   have q1216 : 0 < (l0.length : Int) := uO
   obtain ⟨ad1216, e1216, hx1216_0⟩ := Kd.at_int HR0.out 0 p1216 q1216
   cases e1216
   have qi1216 : (0 < l0.length) = True := eq_true (by omega)
   (try rw [show ((0 : Int)).toNat = 0 from rfl] at hx1216_0)
   (try rw [Addr.add_zero'] at hx1216_0)
   replace p1216 := eq_true p1216
   replace q1216 := eq_true q1216
   go_wp2
   go_ret2
   exact ⟨by first | rfl | (simp; done) | (simp [*]; done), by repeat (first | exact Drawn0.refl _ | apply Drawn0.step)⟩
def windbreakref01_Same.l0 : Nat → List Int → List Int → Int → Option (Bool)
 | 0, _, _, _ => none
 | k + 1, x0, x1, x5 => if x5 < (x0.length : Int) then (if 0 ≤ x5 then (if x5 < (x1.length : Int) then (if (rd x0 x5) = (rd x1 x5) then (windbreakref01_Same.l0 k x0 x1 (wrap64 (x5 + 1))) else (some false)) else (none)) else (none)) else (some true)
def windbreakref01_Same.f (k : Nat) (l0 : List Int) (l1 : List Int) : Option (Bool) := if (l0.length : Int) = (l1.length : Int) then (windbreakref01_Same.l0 k l0 l1 0) else (some false)
set_option maxHeartbeats 8000000 in
set_option maxRecDepth 100000 in
theorem windbreakref01_Same.calls (k : Nat) (A0 : Option Addr) (c0 : Nat) (l0 : List Int) (A1 : Option Addr) (c1 : Nat) (l1 : List Int) (r : Bool) (w : World) (hr0 : Kd.C (Kd.int .u64) w A0 l0.length l0) (hc0 : l0.length ≤ c0) (hr1 : Kd.C (Kd.int .u64) w A1 l1.length l1) (hc1 : l1.length ≤ c1) (h : windbreakref01_Same.f k l0 l1 = some r) :
  Calls Try.prog 18 #[.slice A0 l0.length c0, .slice A1 l1.length c1] w fun e w' => e = .returned (.bool r) ∧ Drawn0 w w' := by
 have HR0 := Aside0.mk hr0; have HC0 := Aside0.mk hc0; clear hr0 hc0; have HR1 := Aside0.mk hr1; have HC1 := Aside0.mk hc1; clear hr1 hc1
 have H : (if (l0.length : Int) = (l1.length : Int) then (windbreakref01_Same.l0 k l0 l1 0) else (some false)) = some r := h
 clear h
 by_cases c3 : (l0.length : Int) = (l1.length : Int)
 ·
  rw [if_pos c3] at H
  have c3b0 : ((l0.length : Int) == (l1.length : Int)) = true := beq_iff_eq.mpr c3
  have c3b1 : ((l0.length : Int) != (l1.length : Int)) = false := bne_eq_false_iff_eq.mpr c3
  have c3b2 : (l0.length == l1.length) = true := by first | simpa using c3 | (simp at c3 ⊢; omega)
  clear c3
  have H' := Aside0.mk H
  clear H
  go_enter Try.func18, Try.ntmps18
  go_wp2
  repeat (go_quiet (fail); try go_wp2)
  go_loopg [5] k (fun kq v5 w' => ∃ (x5_1 : Int), v5 = .int .i64 x5_1 ∧ Aside0 (windbreakref01_Same.l0 kq l0 l1 x5_1 = some r) ∧ Aside0 (kq ≤ k) ∧ Drawn0 w w')
  case atStart => exact ⟨(0), uG, H', ⟨Nat.le_refl _⟩, by repeat (first | exact Drawn0.refl _ | apply Drawn0.step)⟩
  case round =>
   clear H'
   (try clear c1); (try clear p2); (try clear c3); (try clear c3b0); (try clear c3b1); (try clear c3b2)
   obtain ⟨x5_1, rfl, HA, HK1, ⟨m1, rfl⟩⟩ := hrel
   cases gk with
   | zero => exact absurd HA.out (by simp [windbreakref01_Same.l0])
   | succ k1 =>
    have H := HA.out
    clear HA
    simp only [windbreakref01_Same.l0] at H
    by_cases c4 : x5_1 < (l0.length : Int)
    ·
     rw [if_pos c4] at H
     have c4b0 : decide (x5_1 < (l0.length : Int)) = true := decide_eq_true c4
     clear c4
     replace H := uT H; obtain ⟨c5, H⟩ := H
     have c5b0 : decide (0 ≤ x5_1) = true := decide_eq_true c5
     clear c5
     replace H := uT H; obtain ⟨c6, H⟩ := H
     have c6b0 : decide (x5_1 < (l1.length : Int)) = true := decide_eq_true c6
     clear c6
     by_cases c7 : (rd l0 x5_1) = (rd l1 x5_1)
     ·
      rw [if_pos c7] at H
      have c7b0 : ((rd l0 x5_1) == (rd l1 x5_1)) = true := beq_iff_eq.mpr c7
      have c7b1 : ((rd l0 x5_1) != (rd l1 x5_1)) = false := bne_eq_false_iff_eq.mpr c7
      clear c7
      have H' := Aside0.mk H
      clear H
      have p532 : 0 ≤ (x5_1 : Int) := uO
      have q532 : x5_1 < (l0.length : Int) := uO
      obtain ⟨ad532, e532, hx532_0⟩ := Kd.at_int HR0.out x5_1 p532 q532
      cases e532
      replace p532 := eq_true p532
      replace q532 := eq_true q532
      have p533 : 0 ≤ (x5_1 : Int) := uO
      have q533 : x5_1 < (l1.length : Int) := uO
      obtain ⟨ad533, e533, hx533_0⟩ := Kd.at_int HR1.out x5_1 p533 q533
      cases e533
      replace p533 := eq_true p533
      replace q533 := eq_true q533
      go_wp2
      repeat (go_quiet (fail); try go_wp2)
      go_roundg k1
      case measure => have := HK1.out; omega
      case rel => exact ⟨(wrap64 (x5_1 + 1)), uG, H', ⟨by have := HK1.out; omega⟩, by repeat (first | exact Drawn0.refl _ | apply Drawn0.step)⟩
     rw [if_neg c7] at H
     have c7b0 : ((rd l0 x5_1) == (rd l1 x5_1)) = false := beq_eq_false_iff_ne.mpr c7
     have c7b1 : ((rd l0 x5_1) != (rd l1 x5_1)) = true := bne_iff_ne.mpr c7
     obtain rfl := Option.some.inj H
     have p532 : 0 ≤ (x5_1 : Int) := uO
     have q532 : x5_1 < (l0.length : Int) := uO
     obtain ⟨ad532, e532, hx532_0⟩ := Kd.at_int HR0.out x5_1 p532 q532
     cases e532
     replace p532 := eq_true p532
     replace q532 := eq_true q532
     have p533 : 0 ≤ (x5_1 : Int) := uO
     have q533 : x5_1 < (l1.length : Int) := uO
     obtain ⟨ad533, e533, hx533_0⟩ := Kd.at_int HR1.out x5_1 p533 q533
     cases e533
     replace p533 := eq_true p533
     replace q533 := eq_true q533
     go_wp2
     repeat (go_quiet (fail); try go_wp2)
     go_ret
     exact ⟨by first | rfl | (simp; done) | (simp [*]; done), by repeat (first | exact Drawn0.refl _ | apply Drawn0.step)⟩
    rw [if_neg c4] at H
    have c4b0 : decide (x5_1 < (l0.length : Int)) = false := decide_eq_false c4
    clear c4
    obtain rfl := Option.some.inj H
    go_wp2
    repeat (go_quiet (fail); try go_wp2)
    go_ret
    exact ⟨by first | rfl | (simp; done) | (simp [*]; done), by repeat (first | exact Drawn0.refl _ | apply Drawn0.step)⟩
 rw [if_neg c3] at H
 have c3b0 : ((l0.length : Int) == (l1.length : Int)) = false := beq_eq_false_iff_ne.mpr c3
 have c3b1 : ((l0.length : Int) != (l1.length : Int)) = true := bne_iff_ne.mpr c3
 have c3b2 : (l0.length == l1.length) = false := by first | simpa using c3 | (simp at c3 ⊢; omega)
 obtain rfl := Option.some.inj H
 go_enter Try.func18, Try.ntmps18
 go_wp2
 repeat (go_quiet (fail); try go_wp2)
 go_ret
 exact ⟨by first | rfl | (simp; done) | (simp [*]; done), by repeat (first | exact Drawn0.refl _ | apply Drawn0.step)⟩
def windbreakref03_Same.f (k : Nat) (a0_0 : Bool) (l0_1 : List Int) (a1_0 : Bool) (l1_1 : List Int) : Option (Bool) := (windbreakref01_Same.f k l0_1 l1_1).bind fun t1360 => (if (a0_0 == a1_0) = true then (some t1360) else (some false))
set_option maxHeartbeats 8000000 in
set_option maxRecDepth 100000 in
theorem windbreakref03_Same.calls (k : Nat) (a0_0 : Bool) (A0_1 : Option Addr) (c0_1 : Nat) (l0_1 : List Int) (a1_0 : Bool) (A1_1 : Option Addr) (c1_1 : Nat) (l1_1 : List Int) (r : Bool) (w : World) (hr0_1 : Kd.C (Kd.int .u64) w A0_1 l0_1.length l0_1) (hc0_1 : l0_1.length ≤ c0_1) (hr1_1 : Kd.C (Kd.int .u64) w A1_1 l1_1.length l1_1) (hc1_1 : l1_1.length ≤ c1_1) (h : windbreakref03_Same.f k a0_0 l0_1 a1_0 l1_1 = some r) :
  Calls Try.prog 37 #[.agg #[.bool a0_0, .slice A0_1 l0_1.length c0_1], .agg #[.bool a1_0, .slice A1_1 l1_1.length c1_1]] w fun e w' => e = .returned (.bool r) ∧ Below w.heap.size w w' := by
 have hu52 := Try.underlying52
 have HR0_1 := Aside0.mk hr0_1; have HC0_1 := Aside0.mk hc0_1; clear hr0_1 hc0_1; have HR1_1 := Aside0.mk hr1_1; have HC1_1 := Aside0.mk hc1_1; clear hr1_1 hc1_1
 have HB := Aside0.mk (Below.refl w.heap.size w)
 have H : ((windbreakref01_Same.f k l0_1 l1_1).bind fun t1360 => (if (a0_0 == a1_0) = true then (some t1360) else (some false))) = some r := h
 clear h
 replace H := ub H; obtain ⟨t1360, A3, H⟩ := H
 by_cases c4 : (a0_0 == a1_0) = true
 ·
  rw [if_pos c4] at H
  have c4b0 : (a0_0 == a1_0) = true := c4
  (try (have c4b1 : decide (a0_0 = a1_0) = true := by simpa using c4))
  (try (have c4b2 : (a0_0 == a1_0) = true := by simpa using c4))
  clear c4
  obtain rfl := Option.some.inj H
  go_enter Try.func37, Try.ntmps37
  go_wp2_with (first | ((with_reducible refine gate_dst (N := 2) rfl ?_); refine box_event ?hg (N := 2) ?hd (cs := #[.bool a0_0, .slice A0_1 l0_1.length c0_1]) (t := 52) ?hr ?_; (case hd => rfl); (case hg => rfl); (case hr => first | (go_simp; done) | (go_simp; rfl)); intro gb1358 hg w5 hbox hb; have BK1358 := Aside0.mk (hbox); have GW1358 := us hg; have GE1358 := us hg; replace HB := uy hb; clear hb hbox hg) | ((with_reducible refine gate_dst (N := 3) rfl ?_); refine box_event ?hg (N := 3) ?hd (cs := #[.bool a1_0, .slice A1_1 l1_1.length c1_1]) (t := 52) ?hr ?_; (case hd => rfl); (case hg => rfl); (case hr => first | (go_simp; done) | (go_simp; rfl)); intro gb1359 hg w6 hbox hb; have BK1359 := Aside0.mk (hbox); have GW1359 := us hg; have GE1359 := us hg; replace HB := uy hb; have NB1358_1359 := Aside0.mk ((by rw [hg]; exact Nat.ne_of_lt (blk_lt (uK BK1358.out)) : gb1358 ≠ gb1359)); have NB1359_1358 := Aside0.mk ((by rw [hg]; exact Nat.ne_of_gt (blk_lt (uK BK1358.out)) : gb1359 ≠ gb1358)); replace BK1358 := ux BK1358 hb; clear hb hbox hg; have hnb7 := NB1358_1359.out; have hnc7 := NB1359_1358.out; have hcz8_0 : w6.cell? ⟨gb1358, 0, none⟩ = some (.bool a0_0) := (blk_cell BK1358.out 0).trans rfl; have hcz8_1 : w6.cell? ⟨gb1358, 1, none⟩ = some (.slice A0_1 l0_1.length c0_1) := (blk_cell BK1358.out 1).trans rfl; have hfz8_0 := blk_frozen BK1358.out 0; have hfz8_1 := blk_frozen BK1358.out 1; have hcz9_0 : w6.cell? ⟨gb1359, 0, none⟩ = some (.bool a1_0) := (blk_cell BK1359.out 0).trans rfl; have hcz9_1 : w6.cell? ⟨gb1359, 1, none⟩ = some (.slice A1_1 l1_1.length c1_1) := (blk_cell BK1359.out 1).trans rfl; have hfz9_0 := blk_frozen BK1359.out 0; have hfz9_1 := blk_frozen BK1359.out 1) | ((with_reducible refine gate_callee (f := 18) rfl ?_); refine goesL_ (some 10) rfl rfl Try.func18 (by kernel_rfl) rfl #[.slice A0_1 l0_1.length c0_1, .slice A1_1 l1_1.length c1_1] rfl uM ?_; (with_reducible refine (windbreakref01_Same.calls k _ _ l0_1 _ _ l1_1 t1360 _ ?side1 ?side2 ?side3 ?side4 A3.out).mono ?_); (case side1 => exact uC (Kd.C_below HR0_1.out HB.out)); (case side2 => exact HC0_1.out); (case side3 => exact uC (Kd.C_below HR1_1.out HB.out)); (case side4 => exact HC1_1.out); rintro e w' ⟨rfl, ⟨nd, rfl⟩⟩; refine ⟨_, rfl, ?_⟩))
  go_ret
  exact ⟨uF, uB⟩
 rw [if_neg c4] at H
 have c4b0 : (a0_0 == a1_0) = false := by simpa using c4
 (try (have c4b1 : decide (a0_0 = a1_0) = false := by simpa using c4))
 (try (have c4b2 : (a0_0 == a1_0) = false := by simpa using c4))
 (try (have c4b3 : ¬ (a0_0 = a1_0) := by simpa using c4))
 clear c4
 obtain rfl := Option.some.inj H
 go_enter Try.func37, Try.ntmps37
 go_wp2_with (first | ((with_reducible refine gate_dst (N := 2) rfl ?_); refine box_event ?hg (N := 2) ?hd (cs := #[.bool a0_0, .slice A0_1 l0_1.length c0_1]) (t := 52) ?hr ?_; (case hd => rfl); (case hg => rfl); (case hr => first | (go_simp; done) | (go_simp; rfl)); intro gb1358 hg w10 hbox hb; have BK1358 := Aside0.mk (hbox); have GW1358 := us hg; have GE1358 := us hg; replace HB := uy hb; clear hb hbox hg) | ((with_reducible refine gate_dst (N := 3) rfl ?_); refine box_event ?hg (N := 3) ?hd (cs := #[.bool a1_0, .slice A1_1 l1_1.length c1_1]) (t := 52) ?hr ?_; (case hd => rfl); (case hg => rfl); (case hr => first | (go_simp; done) | (go_simp; rfl)); intro gb1359 hg w11 hbox hb; have BK1359 := Aside0.mk (hbox); have GW1359 := us hg; have GE1359 := us hg; replace HB := uy hb; have NB1358_1359 := Aside0.mk ((by rw [hg]; exact Nat.ne_of_lt (blk_lt (uK BK1358.out)) : gb1358 ≠ gb1359)); have NB1359_1358 := Aside0.mk ((by rw [hg]; exact Nat.ne_of_gt (blk_lt (uK BK1358.out)) : gb1359 ≠ gb1358)); replace BK1358 := ux BK1358 hb; clear hb hbox hg; have hnb12 := NB1358_1359.out; have hnc12 := NB1359_1358.out; have hcz13_0 : w11.cell? ⟨gb1358, 0, none⟩ = some (.bool a0_0) := (blk_cell BK1358.out 0).trans rfl; have hcz13_1 : w11.cell? ⟨gb1358, 1, none⟩ = some (.slice A0_1 l0_1.length c0_1) := (blk_cell BK1358.out 1).trans rfl; have hfz13_0 := blk_frozen BK1358.out 0; have hfz13_1 := blk_frozen BK1358.out 1; have hcz14_0 : w11.cell? ⟨gb1359, 0, none⟩ = some (.bool a1_0) := (blk_cell BK1359.out 0).trans rfl; have hcz14_1 : w11.cell? ⟨gb1359, 1, none⟩ = some (.slice A1_1 l1_1.length c1_1) := (blk_cell BK1359.out 1).trans rfl; have hfz14_0 := blk_frozen BK1359.out 0; have hfz14_1 := blk_frozen BK1359.out 1) | ((with_reducible refine gate_callee (f := 18) rfl ?_); refine goesL_ (some 10) rfl rfl Try.func18 (by kernel_rfl) rfl #[.slice A0_1 l0_1.length c0_1, .slice A1_1 l1_1.length c1_1] rfl uM ?_; (with_reducible refine (windbreakref01_Same.calls k _ _ l0_1 _ _ l1_1 t1360 _ ?side1 ?side2 ?side3 ?side4 A3.out).mono ?_); (case side1 => exact uC (Kd.C_below HR0_1.out HB.out)); (case side2 => exact HC0_1.out); (case side3 => exact uC (Kd.C_below HR1_1.out HB.out)); (case side4 => exact HC1_1.out); rintro e w' ⟨rfl, ⟨nd, rfl⟩⟩; refine ⟨_, rfl, ?_⟩))
 go_ret
 exact ⟨uF, uB⟩
def windbreakref01_compare.l0 : Nat → List Int → List Int → Int → Option (Int)
 | 0, _, _, _ => none
 | k + 1, x0, x1, x5 => if x5 ≥ 0 then (if 0 ≤ x5 then (if x5 < (x0.length : Int) then (if x5 < (x1.length : Int) then (if (rd x0 x5) < (rd x1 x5) then (some (-1)) else (if (rd x0 x5) > (rd x1 x5) then (some 1) else (windbreakref01_compare.l0 k x0 x1 (wrap64 (x5 - 1))))) else (none)) else (none)) else (none)) else (some 0)
def windbreakref01_compare.f (k : Nat) (l0 : List Int) (l1 : List Int) : Option (Int) := if (l0.length : Int) = (l1.length : Int) then (windbreakref01_compare.l0 k l0 l1 (wrap64 ((l0.length : Int) - 1))) else (if (l0.length : Int) < (l1.length : Int) then (some (-1)) else (some 1))
def modint_Neg.f (a0_0 : Bool) (l0_1 : List Int) : Option (Bool × List Int) := (modint_Right.f a0_0 l0_1).bind fun t996 => (if t996 = true then ((modint_From.f (!a0_0) l0_1).bind fun bt997 => (some (bt997.1, bt997.2))) else (some (false, ([] : List Int))))
def windbreakref01_Right.f (l0 : List Int) : Option (Bool) := if (l0.length : Int) ≤ 64 then (if (l0.length : Int) = 0 then (some true) else (if 0 ≤ (wrap64 ((l0.length : Int) - 1)) then (if (wrap64 ((l0.length : Int) - 1)) < (l0.length : Int) then (some ((rd l0 (wrap64 ((l0.length : Int) - 1))) != 0)) else (none)) else (none))) else (some false)
def windbreakref01_cut.l0 : Nat → List Int → Int → Option (List Int)
 | 0, _, _ => none
 | k + 1, x0, x3 => if x3 > 0 then (if 0 ≤ (wrap64 (x3 - 1)) then (if (wrap64 (x3 - 1)) < (x0.length : Int) then (if (rd x0 (wrap64 (x3 - 1))) = 0 then (windbreakref01_cut.l0 k x0 (wrap64 (x3 - 1))) else (if 0 ≤ x3 then (if x3 ≤ (x0.length : Int) then (some (x0.take (x3 : Int).toNat)) else (none)) else (none))) else (none)) else (none)) else (if 0 ≤ x3 then (if x3 ≤ (x0.length : Int) then (some (x0.take (x3 : Int).toNat)) else (none)) else (none))
def windbreakref01_cut.f (k : Nat) (l0 : List Int) : Option (List Int) := windbreakref01_cut.l0 k l0 (l0.length : Int)
def windbreakref01_power.l0 : Nat → Int → List Int → Int → Option (List Int)
 | 0, _, _, _ => none
 | k + 1, x0, x3, x4 => if x4 < (Int.tmod x0 16) then (if 0 ≤ (wrap64 (Int.tdiv x0 16)) then (if (wrap64 (Int.tdiv x0 16)) < (x3.length : Int) then (windbreakref01_power.l0 k x0 (x3.set ((wrap64 (Int.tdiv x0 16)) : Int).toNat (IntKind.u64.wrap ((rd x3 (wrap64 (Int.tdiv x0 16))) * 2))) (wrap64 (x4 + 1))) else (none)) else (none)) else (some x3)
def windbreakref01_power.f (k : Nat) (a0 : Int) : Option (List Int) := if 0 ≤ (wrap64 ((wrap64 (Int.tdiv a0 16)) + 1)) then (if (wrap64 ((wrap64 (Int.tdiv a0 16)) + 1) : Int).toNat ≤ 35184372088832 then ((some (List.replicate (wrap64 ((wrap64 (Int.tdiv a0 16)) + 1) : Int).toNat 0 : List Int)).bind fun y380 => (if 0 ≤ (wrap64 (Int.tdiv a0 16)) then (if (wrap64 (Int.tdiv a0 16)) < (y380.length : Int) then (windbreakref01_power.l0 k a0 (y380.set ((wrap64 (Int.tdiv a0 16)) : Int).toNat 1) 0) else (none)) else (none))) else (none)) else (none)
def windbreakref01_digit.f (l0 : List Int) (a1 : Int) : Option (Int) := if a1 < (l0.length : Int) then (if 0 ≤ a1 then (some (rd l0 a1)) else (none)) else (some 0)
def windbreakref01_sub.l0 : Nat → List Int → List Int → List Int → Int → Int → Option (List Int)
 | 0, _, _, _, _, _ => none
 | k + 1, x0, x1, x5, x6, x7 => if x7 < (x0.length : Int) then (if 0 ≤ x7 then ((windbreakref01_digit.f x1 x7).bind fun t398 => (if x5.length < 17592186044416 then (windbreakref01_sub.l0 k x0 x1 (x5 ++ [Int.tmod (IntKind.u64.wrap ((IntKind.u64.wrap ((IntKind.u64.wrap (65536 + (rd x0 x7))) - t398)) - x6)) 65536]) (IntKind.u64.wrap (1 - (IntKind.u64.wrap (Int.tdiv (IntKind.u64.wrap ((IntKind.u64.wrap ((IntKind.u64.wrap (65536 + (rd x0 x7))) - t398)) - x6)) 65536)))) (wrap64 (x7 + 1))) else (none))) else (none)) else ((windbreakref01_cut.f k x5).bind fun t402 => (some t402))
def windbreakref01_sub.f (k : Nat) (l0 : List Int) (l1 : List Int) : Option (List Int) := windbreakref01_sub.l0 k l0 l1 ([] : List Int) 0 0
def windbreakref01_Of.f (a0 : Int) : Option (List Int) := if a0 = 0 then (some ([] : List Int)) else (some (([a0] : List Int)))
def windbreakref03_Right.f (a0_0 : Bool) (l0_1 : List Int) : Option (Bool) := (windbreakref01_Right.f l0_1).bind fun t782 => (if t782 = true then (if a0_0 = true then (some (decide ((l0_1.length : Int) > 0))) else (some true)) else (some false))
def windbreakref03_From.f (a0 : Bool) (l1 : List Int) : Option (Bool × List Int) := (windbreakref01_Right.f l1).bind fun t790 => (if t790 = true then (if (l1.length : Int) = 0 then (some (false, ([] : List Int))) else ((some (([] : List Int) : List Int)).bind fun y791 => (if y791.length + l1.length < 17592186044416 then (some (a0, (y791 ++ l1))) else (none)))) else (some (false, ([] : List Int))))
end Go.Proofs.Ytgeanpnkllnipab.F
end
section
namespace Go.Proofs.Ytgeanpnkllnipab.F
open Go.RowKit Go.Proofs.YtgeanpnkllnipabW.PrintWords Go.Proofs.YtgeanpnkllnipabW.PrintLast Go.Proofs.YtgeanpnkllnipabW.PrintMore
attribute [local go_sem] max2_int min2_int max_two min_two max_three min_three max_four min_four
set_option linter.unusedVariables false
set_option linter.unusedSimpArgs false
attribute [local go_sem] sub64_run
def nat_less.l0 : Nat → List Int → List Int → List Int → Int → Int → Int → Option (List Int)
 | 0, _, _, _, _, _, _ => none
 | k + 1, x0, x1, x5, x6, x13, x14 => if x14 < x13 then (if x14 < (x1.length : Int) then (if 0 ≤ x14 then (if x14 < (x0.length : Int) then (if carry01 x6 = true then (if x14 < (x5.length : Int) then (nat_less.l0 k x0 x1 (x5.set (x14 : Int).toNat (sub64_s (rd x0 x14) (rd x1 x14) x6)) (sub64_c (rd x0 x14) (rd x1 x14) x6) x13 (wrap64 (x14 + 1))) else (none)) else (none)) else (none)) else (none)) else (if 0 ≤ x14 then (if x14 < (x0.length : Int) then (if carry01 x6 = true then (if x14 < (x5.length : Int) then (nat_less.l0 k x0 x1 (x5.set (x14 : Int).toNat (sub64_s (rd x0 x14) 0 x6)) (sub64_c (rd x0 x14) 0 x6) x13 (wrap64 (x14 + 1))) else (none)) else (none)) else (none)) else (none))) else (some x5)
def nat_less.f (k : Nat) (l0 : List Int) (l1 : List Int) : Option (List Int) := if 0 ≤ (l0.length : Int) then (if ((l0.length : Int) : Int).toNat ≤ 35184372088832 then (nat_less.l0 k l0 l1 (List.replicate ((l0.length : Int) : Int).toNat 0) 0 (l0.length : Int) 0) else (none)) else (none)
set_option maxHeartbeats 8000000 in
set_option maxRecDepth 100000 in
theorem nat_less.calls (k : Nat) (A0 : Option Addr) (c0 : Nat) (l0 : List Int) (A1 : Option Addr) (c1 : Nat) (l1 : List Int) (r : List Int) (w : World) (hr0 : Kd.C (Kd.int .u64) w A0 l0.length l0) (hc0 : l0.length ≤ c0) (hr1 : Kd.C (Kd.int .u64) w A1 l1.length l1) (hc1 : l1.length ≤ c1) (h : nat_less.f k l0 l1 = some r) :
  Calls Try.prog 117 #[.slice A0 l0.length c0, .slice A1 l1.length c1] w fun e w' => ∃ v0_ : Value, e = .returned (v0_) ∧ Kd.R (Kd.int .u64) 27 w' w.heap.size (fun _ => True) v0_ r ∧ Below w.heap.size w w' := by
 have HR0 := Aside0.mk hr0; have HC0 := Aside0.mk hc0; clear hr0 hc0; have HR1 := Aside0.mk hr1; have HC1 := Aside0.mk hc1; clear hr1 hc1
 have HB := Aside0.mk (Below.refl w.heap.size w)
 have H : (if 0 ≤ (l0.length : Int) then (if ((l0.length : Int) : Int).toNat ≤ 35184372088832 then (nat_less.l0 k l0 l1 (List.replicate ((l0.length : Int) : Int).toNat 0) 0 (l0.length : Int) 0) else (none)) else (none)) = some r := h
 clear h
 replace H := uT H; obtain ⟨c3, H⟩ := H
 have c3b0 := eq_true c3
 have c3b1 : decide (0 ≤ (l0.length : Int)) = true := decide_eq_true c3
 clear c3
 replace H := uT H; obtain ⟨c4, H⟩ := H
 have c4b0 := eq_true c4
 have c4b1 : decide (((l0.length : Int) : Int).toNat ≤ 35184372088832) = true := decide_eq_true c4
 clear c4
 obtain ⟨y137, hy137⟩ : ∃ y_ : List Int, y_ = (List.replicate ((l0.length : Int) : Int).toNat 0) := ⟨_, rfl⟩
 replace H : (nat_less.l0 k l0 l1 y137 0 (l0.length : Int) 0) = some r := by first | (rw [hy137]; with_reducible exact H) | (have H2_ := (Option.bind_some _ _).symm.trans H; rw [hy137]; with_reducible exact H2_) | (have H2_ := (Option.bind_some _ _).symm.trans H; with_reducible exact H2_) | with_reducible exact H | (rw [hy137]; exact H) | exact H
 have Ny137 := Aside0.mk hy137; clear hy137
 have H' := Aside0.mk H
 clear H
 go_enter Try.func117, Try.ntmps117
 go_wp2_with (first | ((with_reducible refine gate_dst (N := 11) rfl ?_); refine Kd.R_make (Kd.int .u64) _ 27 rfl (N := 11) rfl 23 _ _ rfl (l0.length : Int) rfl rfl Try.underlying23 (.int .u64 0) 8 info27 rfl (by decide) (by omega) 0 (ok := fun _ => True) (okp := fun _ => True) rfl (fun _ hk => hk) trivial uO (Nat.le_trans (Nat.mul_le_mul_right _ (uO : (l0.length : Int).toNat ≤ 35184372088832)) (by omega)) (Below.refl _ _) (Nat.le_refl _) ?_; intro v138 w5 ho6 hb hg_ hnew_; clear hg_ hnew_; (first | rw [← Ny137.out] at ho6 | (simp only [Int.reduceToNat] at ho6; rw [← Ny137.out] at ho6)); have HO139 := Aside0.mk (Kd.R_lower ho6 (below_size uB)); replace HB := uy hb; clear hb ho6))
 go_loopg [6, 14] k (fun kq v6 v14 w' => ∃ (x5_1 : List Int) (x6_1 : Int) (x14_1 : Int), v6 = .int .u64 x6_1 ∧ v14 = .int .i64 x14_1 ∧ Aside0 (nat_less.l0 kq l0 l1 x5_1 x6_1 (l0.length : Int) x14_1 = some r) ∧ Aside0 (kq ≤ k) ∧ Aside0 (Kd.R (Kd.int .u64) 27 w' w.heap.size (fun _ => True) v138 x5_1) ∧ Aside0 (Below w.heap.size w w'))
 case atStart => exact ⟨(y137), (0), (0), uG, uG, H', ⟨Nat.le_refl _⟩, ⟨uR HO139.out⟩, ⟨uB⟩⟩
 case round =>
  clear H'
  (try clear c1); (try clear p2); (try clear c3); (try clear c3b0); (try clear c3b1); (try clear c4); (try clear c4b0); (try clear c4b1)
  obtain ⟨x5_1, x6_1, x14_1, rfl, rfl, HA, HK1, HO_5, HB⟩ := hrel
  cases gk with
  | zero => exact absurd HA.out (by simp [nat_less.l0])
  | succ k1 =>
   have H := HA.out
   clear HA
   simp only [nat_less.l0] at H
   by_cases c7 : x14_1 < (l0.length : Int)
   ·
    rw [if_pos c7] at H
    have c7b0 : decide (x14_1 < (l0.length : Int)) = true := decide_eq_true c7
    clear c7
    by_cases c8 : x14_1 < (l1.length : Int)
    ·
     rw [if_pos c8] at H
     have c8b0 : decide (x14_1 < (l1.length : Int)) = true := decide_eq_true c8
     clear c8
     replace H := uT H; obtain ⟨c9, H⟩ := H
     have c9b0 : decide (0 ≤ x14_1) = true := decide_eq_true c9
     clear c9
     replace H := uT H; obtain ⟨c10, H⟩ := H
     have c10b0 : decide (x14_1 < (l0.length : Int)) = true := decide_eq_true c10
     clear c10
     replace H := uT H; obtain ⟨c11, H⟩ := H
     have c11b0 : carry01 x6_1 = true := c11
     clear c11
     replace H := uT H; obtain ⟨c12, H⟩ := H
     have c12b0 : decide (x14_1 < (x5_1.length : Int)) = true := decide_eq_true c12
     clear c12
     obtain ⟨y142, hy142⟩ : ∃ y_ : List Int, y_ = (x5_1.set (x14_1 : Int).toNat (sub64_s (rd l0 x14_1) (rd l1 x14_1) x6_1)) := ⟨_, rfl⟩
     replace H : (nat_less.l0 k1 l0 l1 y142 (sub64_c (rd l0 x14_1) (rd l1 x14_1) x6_1) (l0.length : Int) (wrap64 (x14_1 + 1))) = some r := by first | (rw [hy142]; with_reducible exact H) | (have H2_ := (Option.bind_some _ _).symm.trans H; rw [hy142]; with_reducible exact H2_) | (have H2_ := (Option.bind_some _ _).symm.trans H; with_reducible exact H2_) | with_reducible exact H | (rw [hy142]; exact H) | exact H
     have Ny142 := Aside0.mk hy142; clear hy142
     have H' := Aside0.mk H
     clear H
     have p140 : 0 ≤ (x14_1 : Int) := uO
     have q140 : x14_1 < (l1.length : Int) := uO
     obtain ⟨ad140, e140, hx140_0⟩ := Kd.at_int HR1.out x14_1 p140 q140
     cases e140
     replace hx140_0 := (HB.out.cell (World.block_lt_of_cell? w _ hx140_0)).trans hx140_0
     replace p140 := eq_true p140
     replace q140 := eq_true q140
     have p141 : 0 ≤ (x14_1 : Int) := uO
     have q141 : x14_1 < (l0.length : Int) := uO
     obtain ⟨ad141, e141, hx141_0⟩ := Kd.at_int HR0.out x14_1 p141 q141
     cases e141
     replace hx141_0 := (HB.out.cell (World.block_lt_of_cell? w _ hx141_0)).trans hx141_0
     replace p141 := eq_true p141
     replace q141 := eq_true q141
     have p13 : 0 ≤ (x14_1 : Int) := uO
     have q13 : (x14_1 : Int) < ((x5_1.length : Int) : Int) := uO
     obtain ⟨go13, co13, eo13, gb13, gl13, cl13, HG13⟩ := Kd.R_form HO_5.out (by omega)
     (first | cases eo13 | (injection eo13 with ea_ en_ ec_; (first | subst ea_ | (injection ea_ with ea_; subst ea_)); subst ec_; clear en_))
     have GB13 := Aside0.mk gb13; have GG13 := Aside0.mk HG13; clear gb13 gl13 HG13
     obtain ⟨hx13_0, hf13_0⟩ := Kd.R_celln 0 HO_5.out (x14_1 : Int) p13 q13
     replace p13 := eq_true p13
     replace q13 := eq_true q13
     have HP14 := Kd.R_putg HO_5.out (x14_1 : Int) (sub64_s (rd l0 x14_1) (rd l1 x14_1) x6_1)
     go_wp2_with (first | ((with_reducible refine gate_store (t := 27) (p := 37) rfl ?_); refine store_event (t := 27) (p := 37) (v := ?vo_w15) (w1 := (wr.setCell ⟨go13, (x14_1 : Int).toNat, none⟩ (.int .u64 (sub64_s (rd l0 x14_1) (rd l1 x14_1) x6_1)))) ?hg ?ho ?hn ?hr ?_; (case ho => rfl); (case hg => rfl); (case hn => rfl); (case hr => first | (go_simp; done) | (go_simp; rfl) | (obtain ⟨hy_, hz_⟩ := Kd.R_celln 0 HO_5.out (x14_1 : Int) uO uO; (try simp only [Go.IntWalk.toNatUp] at hy_ hz_); (try simp only [Int.reduceToNat, Int.toNat_zero, Int.toNat_ofNat] at hy_ hz_); first | (go_simp; done) | (go_simp; rfl))); intro w15 hw; have hg : wr.grownBy w15 (some go13) := (by rw [hw]; exact HP14.2); have hp_ : Kd.R (Kd.int .u64) 27 w15 w.heap.size (fun _ => True) (.slice (some ⟨go13, 0, none⟩) x5_1.length co13) y142 := (by rw [hw, Ny142.out]; exact HP14.1); clear HP14; replace HO_5 := Aside0.mk (hp_); replace HB := Aside0.mk ((by rw [hw]; exact below_set (HB.out) GB13.out : Below w.heap.size w w15)); clear hg hw hp_))
     go_roundg k1
     case measure => have := HK1.out; omega
     case rel => exact ⟨(y142), (sub64_c (rd l0 x14_1) (rd l1 x14_1) x6_1), (wrap64 (x14_1 + 1)), uG, uG, H', ⟨by have := HK1.out; omega⟩, ⟨uR HO_5.out⟩, ⟨uB⟩⟩
    rw [if_neg c8] at H
    have c8b0 : decide (x14_1 < (l1.length : Int)) = false := decide_eq_false c8
    clear c8
    replace H := uT H; obtain ⟨c16, H⟩ := H
    have c16b0 : decide (0 ≤ x14_1) = true := decide_eq_true c16
    clear c16
    replace H := uT H; obtain ⟨c17, H⟩ := H
    have c17b0 : decide (x14_1 < (l0.length : Int)) = true := decide_eq_true c17
    clear c17
    replace H := uT H; obtain ⟨c18, H⟩ := H
    have c18b0 : carry01 x6_1 = true := c18
    clear c18
    replace H := uT H; obtain ⟨c19, H⟩ := H
    have c19b0 : decide (x14_1 < (x5_1.length : Int)) = true := decide_eq_true c19
    clear c19
    obtain ⟨y144, hy144⟩ : ∃ y_ : List Int, y_ = (x5_1.set (x14_1 : Int).toNat (sub64_s (rd l0 x14_1) 0 x6_1)) := ⟨_, rfl⟩
    replace H : (nat_less.l0 k1 l0 l1 y144 (sub64_c (rd l0 x14_1) 0 x6_1) (l0.length : Int) (wrap64 (x14_1 + 1))) = some r := by first | (rw [hy144]; with_reducible exact H) | (have H2_ := (Option.bind_some _ _).symm.trans H; rw [hy144]; with_reducible exact H2_) | (have H2_ := (Option.bind_some _ _).symm.trans H; with_reducible exact H2_) | with_reducible exact H | (rw [hy144]; exact H) | exact H
    have Ny144 := Aside0.mk hy144; clear hy144
    have H' := Aside0.mk H
    clear H
    have p143 : 0 ≤ (x14_1 : Int) := uO
    have q143 : x14_1 < (l0.length : Int) := uO
    obtain ⟨ad143, e143, hx143_0⟩ := Kd.at_int HR0.out x14_1 p143 q143
    cases e143
    replace hx143_0 := (HB.out.cell (World.block_lt_of_cell? w _ hx143_0)).trans hx143_0
    replace p143 := eq_true p143
    replace q143 := eq_true q143
    have p20 : 0 ≤ (x14_1 : Int) := uO
    have q20 : (x14_1 : Int) < ((x5_1.length : Int) : Int) := uO
    obtain ⟨go20, co20, eo20, gb20, gl20, cl20, HG20⟩ := Kd.R_form HO_5.out (by omega)
    (first | cases eo20 | (injection eo20 with ea_ en_ ec_; (first | subst ea_ | (injection ea_ with ea_; subst ea_)); subst ec_; clear en_))
    have GB20 := Aside0.mk gb20; have GG20 := Aside0.mk HG20; clear gb20 gl20 HG20
    obtain ⟨hx20_0, hf20_0⟩ := Kd.R_celln 0 HO_5.out (x14_1 : Int) p20 q20
    replace p20 := eq_true p20
    replace q20 := eq_true q20
    have HP21 := Kd.R_putg HO_5.out (x14_1 : Int) (sub64_s (rd l0 x14_1) 0 x6_1)
    go_wp2_with (first | ((with_reducible refine gate_store (t := 27) (p := 37) rfl ?_); refine store_event (t := 27) (p := 37) (v := ?vo_w22) (w1 := (wr.setCell ⟨go20, (x14_1 : Int).toNat, none⟩ (.int .u64 (sub64_s (rd l0 x14_1) 0 x6_1)))) ?hg ?ho ?hn ?hr ?_; (case ho => rfl); (case hg => rfl); (case hn => rfl); (case hr => first | (go_simp; done) | (go_simp; rfl) | (obtain ⟨hy_, hz_⟩ := Kd.R_celln 0 HO_5.out (x14_1 : Int) uO uO; (try simp only [Go.IntWalk.toNatUp] at hy_ hz_); (try simp only [Int.reduceToNat, Int.toNat_zero, Int.toNat_ofNat] at hy_ hz_); first | (go_simp; done) | (go_simp; rfl))); intro w22 hw; have hg : wr.grownBy w22 (some go20) := (by rw [hw]; exact HP21.2); have hp_ : Kd.R (Kd.int .u64) 27 w22 w.heap.size (fun _ => True) (.slice (some ⟨go20, 0, none⟩) x5_1.length co20) y144 := (by rw [hw, Ny144.out]; exact HP21.1); clear HP21; replace HO_5 := Aside0.mk (hp_); replace HB := Aside0.mk ((by rw [hw]; exact below_set (HB.out) GB20.out : Below w.heap.size w w22)); clear hg hw hp_))
    go_roundg k1
    case measure => have := HK1.out; omega
    case rel => exact ⟨(y144), (sub64_c (rd l0 x14_1) 0 x6_1), (wrap64 (x14_1 + 1)), uG, uG, H', ⟨by have := HK1.out; omega⟩, ⟨uR HO_5.out⟩, ⟨uB⟩⟩
   rw [if_neg c7] at H
   have c7b0 : decide (x14_1 < (l0.length : Int)) = false := decide_eq_false c7
   clear c7
   obtain rfl := Option.some.inj H
   go_wp2
   go_ret
   exact ⟨_, uF, uR HO_5.out, uB⟩
end Go.Proofs.Ytgeanpnkllnipab.F
end
section
namespace Go.Proofs.Ytgeanpnkllnipab.F
open Go.RowKit Go.Proofs.YtgeanpnkllnipabW.PrintWords Go.Proofs.YtgeanpnkllnipabW.PrintLast Go.Proofs.YtgeanpnkllnipabW.PrintMore
set_option linter.unusedVariables false
set_option linter.unusedSimpArgs false
def nat_right.f : List (List Int) → Option Bool
  | [] => some true
  | a :: l => (nat_Right.f a).bind fun b => if b = true then nat_right.f l else some false
def nat_right.ix : List (List Int) → Option Nat
  | [] => some 0
  | a :: l => (nat_Right.f a).bind fun b => if b = true then (nat_right.ix l).map (· + 1) else some 0
theorem nat_right.ix_of {l : List (List Int)} {r : Bool} (h : nat_right.f l = some r) : ∃ k, nat_right.ix l = some k ∧ k ≤ l.length ∧ (r = true ↔ k = l.length) ∧ (∀ j, j < k → nat_Right.f (l.getD j []) = some true) ∧ (k < l.length → nat_Right.f (l.getD k []) = some false) := by
  induction l generalizing r with
  | nil =>
    simp only [nat_right.f, Option.some.injEq] at h
    exact ⟨0, rfl, Nat.le_refl _, by simp [← h], fun j hj => absurd hj (Nat.not_lt_zero _), fun hj => absurd hj (Nat.not_lt_zero _)⟩
  | cons a l ih =>
    simp only [nat_right.f] at h
    cases hb : nat_Right.f a with
    | none => rw [hb] at h; simp at h
    | some b =>
      rw [hb] at h
      simp only [Option.bind_some] at h
      cases b with
      | true =>
        simp only [if_true] at h
        obtain ⟨k, hk, hle, hr, hj, hl⟩ := ih h
        refine ⟨k + 1, by simp [nat_right.ix, hb, hk], by simp; omega, by simp [hr], ?_, ?_⟩
        · intro j hjk
          cases j with
          | zero => simpa using hb
          | succ j => simpa using hj j (by omega)
        · intro hlt
          simpa using hl (by simpa using hlt)
      | false =>
        simp at h
        refine ⟨0, by simp [nat_right.ix, hb], Nat.zero_le _, ?_, fun j hj => absurd hj (Nat.not_lt_zero _), fun _ => by simpa using hb⟩
        simp [← h]
set_option maxHeartbeats 1000000 in
theorem nat_right.closure (A0 : Option Addr) (c0 : Nat) (l0 : List Int) (r : Bool) (w : World) (hr0 : Kd.C (Kd.int .u64) w A0 l0.length l0) (hc0 : l0.length ≤ c0) (h : nat_Right.f l0 = some r) :
    Calls Try.prog 131 #[.slice A0 l0.length c0] w fun e w' => e = .returned (.bool (!r)) ∧ Drawn0 w w' := by
  have hcall := nat_Right.calls A0 c0 l0 r w hr0 hc0 h
  clear hr0 hc0 h
  have HC := Aside0.mk hcall
  clear hcall
  go_enter Try.func131, Try.ntmps131
  go_wp2_with (go_at_call 47; refine HC.out.mono ?_; rintro e w' ⟨rfl, hd⟩)
  go_ret
  exact ⟨rfl, hd⟩
set_option maxHeartbeats 8000000 in
set_option maxRecDepth 100000 in
theorem nat_right.index (A0 : Option Addr) (c0 : Nat) (l0 : List (List Int)) (r : Bool) (w : World) (hr0 : Kd.C (Kd.slice 27 (Kd.int .u64)) w A0 l0.length l0) (hc0 : l0.length ≤ c0) (h : nat_right.f l0 = some r) :
    Calls Try.prog 120 #[.slice A0 l0.length c0, .func (.func 131) #[] #[]] w fun e w' => (∃ k : Int, e = .returned (.int .i64 k) ∧ decide (0 ≤ k) = !r) ∧ Drawn0 w w' := by
  have HR0 := Aside0.mk hr0
  obtain ⟨k, hk, hle, hr, hj, hl⟩ := nat_right.ix_of h
  have hbig : l0.length ≤ 9223372036854775807 := hr0.2.1
  have HJ := Aside0.mk hj
  have HL := Aside0.mk hl
  have HRR := Aside0.mk hr
  clear hr0 hc0 hj hl hk h hr
  go_enter Try.func120, Try.ntmps120
  go_wp2
  go_loopg [5, 8] l0.length (fun gg _ s8 wr => ∃ kk : Nat, kk ≤ k ∧ l0.length - kk ≤ gg ∧ s8 = .int .i64 kk ∧ Aside0 (Drawn0 w wr))
  case atStart => exact ⟨0, Nat.zero_le _, by omega, rfl, ⟨Drawn0.refl _⟩⟩
  case round =>
    obtain ⟨kk, hkk, hg, rfl, D⟩ := hrel
    by_cases hlt : kk < l0.length
    · have hltz : (kk : Int) < (l0.length : Int) := by omega
      have hC1 : Kd.C (Kd.slice 27 (Kd.int .u64)) wr A0 l0.length l0 := Kd.C_below HR0.out D.out.below
      have h0k : (0 : Int) ≤ (kk : Int) := Int.natCast_nonneg kk
      obtain ⟨ad, c, hA, _, hK, hc⟩ := Kd.C_get hC1 ([] : List Int) (kk : Int) h0k hltz
      obtain ⟨A1, c1, rfl, hl1, hi1⟩ := hK
      subst hA
      have hcell := hc 0 _ rfl
      rw [Nat.add_zero, show (Kd.slice 27 (Kd.int .u64)).sz = 1 from rfl, Nat.mul_one] at hcell
      simp only [Go.IntWalk.toNatUp] at hcell hl1 hi1
      have HX := HJ.out kk
      have HY := HL.out
      clear hc hC1
      generalize hx : l0.getD kk [] = x at hcell hl1 hi1 HX
      by_cases hlast : kk < k
      · have hcall := Aside0.mk (nat_right.closure A1 c1 x true wr hi1 hl1 (HX hlast))
        have D2 := D
        clear D hi1 HX HY hx
        go_wp2_with (go_at_call 131; refine hcall.out.mono ?_; rintro e w' ⟨rfl, ⟨q, rfl⟩⟩)
        go_roundg (l0.length - (kk + 1))
        case measure => omega
        case rel => exact ⟨kk + 1, by omega, by omega, by go_num, ⟨D2.out.step _⟩⟩
      · have hkk' : kk = k := by omega
        subst hkk'
        have HZ := HY hlt
        rw [hx] at HZ
        have hcall := Aside0.mk (nat_right.closure A1 c1 x false wr hi1 hl1 HZ)
        have hr : r = false := by
          cases r with
          | false => rfl
          | true => have := HRR.out.1 rfl; omega
        have HR := Aside0.mk hr
        have D2 := D
        clear D hi1 HX HY hx HZ hr
        go_wp2_with (go_at_call 131; refine hcall.out.mono ?_; rintro e w' ⟨rfl, ⟨q, rfl⟩⟩)
        go_ret
        exact ⟨⟨_, rfl, by rw [HR.out]; simp⟩, D2.out.step _⟩
    · have hltz : ¬ (kk : Int) < (l0.length : Int) := by omega
      have hr : r = true := HRR.out.2 (by omega)
      have HR := Aside0.mk hr
      clear hr
      go_wp2
      go_ret
      exact ⟨⟨_, rfl, by rw [HR.out]; simp⟩, D.out⟩
set_option maxHeartbeats 8000000 in
set_option maxRecDepth 100000 in
theorem nat_right.contains (A0 : Option Addr) (c0 : Nat) (l0 : List (List Int)) (r : Bool) (w : World) (hr0 : Kd.C (Kd.slice 27 (Kd.int .u64)) w A0 l0.length l0) (hc0 : l0.length ≤ c0) (h : nat_right.f l0 = some r) :
    Calls Try.prog 87 #[.slice A0 l0.length c0, .func (.func 131) #[] #[]] w fun e w' => e = .returned (.bool (!r)) ∧ Drawn0 w w' := by
  have hcall := Aside0.mk (nat_right.index A0 c0 l0 r w hr0 hc0 h)
  clear hr0 hc0 h
  go_enter Try.func87, Try.ntmps87
  go_wp2_with (go_at_call 120; refine hcall.out.mono ?_; rintro e w' ⟨⟨k, rfl, hk⟩, hd⟩; have HK := Aside0.mk hk; have HD := Aside0.mk hd; clear hk hd)
  go_ret
  exact ⟨by rw [← HK.out]; rfl, HD.out⟩
set_option maxHeartbeats 8000000 in
set_option maxRecDepth 100000 in
theorem nat_right.calls (A0 : Option Addr) (c0 : Nat) (l0 : List (List Int)) (r : Bool) (w : World) (hr0 : Kd.C (Kd.slice 27 (Kd.int .u64)) w A0 l0.length l0) (hc0 : l0.length ≤ c0) (h : nat_right.f l0 = some r) :
    Calls Try.prog 114 #[.slice A0 l0.length c0] w fun e w' => e = .returned (.bool r) ∧ Drawn0 w w' := by
  have hcall := Aside0.mk (nat_right.contains A0 c0 l0 r w hr0 hc0 h)
  clear hr0 hc0 h
  go_enter Try.func114, Try.ntmps114
  go_wp2_with (go_at_call 87; refine hcall.out.mono ?_; rintro e w' ⟨rfl, hd⟩; have HD := Aside0.mk hd; clear hd)
  go_ret
  exact ⟨by cases r <;> rfl, HD.out⟩
def modint_right.f : List S52 → Option Bool
  | [] => some true
  | a :: l => (modint_Right.f a.f0 a.f1).bind fun b => if b = true then modint_right.f l else some false
def modint_right.ix : List S52 → Option Nat
  | [] => some 0
  | a :: l => (modint_Right.f a.f0 a.f1).bind fun b => if b = true then (modint_right.ix l).map (· + 1) else some 0
theorem modint_right.ix_of {l : List S52} {r : Bool} (h : modint_right.f l = some r) : ∃ k, modint_right.ix l = some k ∧ k ≤ l.length ∧ (r = true ↔ k = l.length) ∧ (∀ j, j < k → modint_Right.f (l.getD j z52).f0 (l.getD j z52).f1 = some true) ∧ (k < l.length → modint_Right.f (l.getD k z52).f0 (l.getD k z52).f1 = some false) := by
  induction l generalizing r with
  | nil =>
    simp only [modint_right.f, Option.some.injEq] at h
    exact ⟨0, rfl, Nat.le_refl _, by simp [← h], fun j hj => absurd hj (Nat.not_lt_zero _), fun hj => absurd hj (Nat.not_lt_zero _)⟩
  | cons a l ih =>
    simp only [modint_right.f] at h
    cases hb : modint_Right.f a.f0 a.f1 with
    | none => rw [hb] at h; simp at h
    | some b =>
      rw [hb] at h
      simp only [Option.bind_some] at h
      cases b with
      | true =>
        simp only [if_true] at h
        obtain ⟨k, hk, hle, hr, hj, hl⟩ := ih h
        refine ⟨k + 1, by simp [modint_right.ix, hb, hk], by simp; omega, by simp [hr], ?_, ?_⟩
        · intro j hjk
          cases j with
          | zero => simpa using hb
          | succ j => simpa using hj j (by omega)
        · intro hlt
          simpa using hl (by simpa using hlt)
      | false =>
        simp at h
        refine ⟨0, by simp [modint_right.ix, hb], Nat.zero_le _, ?_, fun j hj => absurd hj (Nat.not_lt_zero _), fun _ => by simpa using hb⟩
        simp [← h]
set_option maxHeartbeats 1000000 in
theorem modint_right.closure (b0 : Bool) (A0 : Option Addr) (c0 : Nat) (l0 : List Int) (r : Bool) (w : World) (hr0 : Kd.C (Kd.int .u64) w A0 l0.length l0) (hc0 : l0.length ≤ c0) (h : modint_Right.f b0 l0 = some r) :
    Calls Try.prog 123 #[.agg #[.bool b0, .slice A0 l0.length c0]] w fun e w' => e = .returned (.bool (!r)) ∧ Below w.heap.size w w' := by
  have HR0 := Aside0.mk hr0
  have HC0 := Aside0.mk hc0
  have HH := Aside0.mk h
  have HB := Aside0.mk (Below.refl w.heap.size w)
  clear hr0 hc0 h
  go_enter Try.func123, Try.ntmps123
  go_wp2_with (first | ((with_reducible refine gate_dst (N := 1) rfl ?_); (try (refine gate_guard (by rfl) ?_; dsimp only)); refine box_event ?hg (N := 1) ?hd (cs := #[.bool b0, .slice A0 l0.length c0]) (t := 52) ?hr ?_; (case hd => rfl); (case hg => rfl); (case hr => first | (go_simp; done) | (go_simp; rfl)); intro gb622 hg w5 hbox hb; have n0_ := Aside0.mk (below_step HB.out hb); have n1_ := Aside0.mk hbox; clear HB; have HB := n0_; have BK622 := n1_; clear n0_ n1_; clear hb hbox hg; have hcz6_0 : w5.cell? ⟨gb622, 0, none⟩ = some (.bool b0) := (blk_cell BK622.out 0).trans rfl; have hcz6_1 : w5.cell? ⟨gb622, 1, none⟩ = some (.slice A0 l0.length c0) := (blk_cell BK622.out 1).trans rfl; have hfz6_0 := blk_frozen BK622.out 0; have hfz6_1 := blk_frozen BK622.out 1) | (go_at_call 79; refine (modint_Right.calls b0 A0 c0 l0 r _ ?side1 HC0.out HH.out).mono ?_; (case side1 => repeat (first | exact (Kd.C_below HR0.out HB.out) | (with_reducible refine Kd.C_alloc ?_ _) | (with_reducible refine Kd.C_drewN ?_ _) | (with_reducible refine Kd.C_drew ?_))); rintro e w' ⟨rfl, hd⟩; have n0_ := Aside0.mk (below_step (by repeat (first | (with_reducible first | exact HB.out | apply below_alloc | apply pw_below_drewN | apply below_drew1) | exact HB.out)) hd); clear HB hd; have HB := n0_; clear n0_))
  go_ret
  exact ⟨rfl, by repeat (first | (with_reducible first | exact HB.out | apply below_alloc | apply pw_below_drewN | apply below_drew1) | exact HB.out)⟩
set_option maxHeartbeats 8000000 in
set_option maxRecDepth 100000 in
theorem modint_right.index (A0 : Option Addr) (c0 : Nat) (l0 : List S52) (r : Bool) (w : World) (hr0 : Kd.C k52 w A0 l0.length l0) (hc0 : l0.length ≤ c0) (h : modint_right.f l0 = some r) :
    Calls Try.prog 133 #[.slice A0 l0.length c0, .func (.func 123) #[] #[]] w fun e w' => (∃ k : Int, e = .returned (.int .i64 k) ∧ decide (0 ≤ k) = !r) ∧ Below w.heap.size w w' := by
  have HR0 := Aside0.mk hr0
  obtain ⟨k, hk, hle, hr, hj, hl⟩ := modint_right.ix_of h
  have hbig : l0.length ≤ 9223372036854775807 := hr0.2.1
  have HJ := Aside0.mk hj
  have HL := Aside0.mk hl
  have HRR := Aside0.mk hr
  clear hr0 hc0 hj hl hk h hr
  go_enter Try.func133, Try.ntmps133
  go_wp2
  go_loopg [5, 8] l0.length (fun gg _ s8 wr => ∃ kk : Nat, kk ≤ k ∧ l0.length - kk ≤ gg ∧ s8 = .int .i64 kk ∧ Aside0 (Below w.heap.size w wr))
  case atStart => exact ⟨0, Nat.zero_le _, by omega, rfl, ⟨Below.refl _ _⟩⟩
  case round =>
    obtain ⟨kk, hkk, hg, rfl, D⟩ := hrel
    by_cases hlt : kk < l0.length
    · have hltz : (kk : Int) < (l0.length : Int) := by omega
      have hC1 : Kd.C k52 wr A0 l0.length l0 := Kd.C_below HR0.out D.out
      have h0k : (0 : Int) ≤ (kk : Int) := Int.natCast_nonneg kk
      obtain ⟨ad, A1, c1, hA, hcell, hcell1, hl1, hi1⟩ := at_T52 hC1 (kk : Int) h0k hltz
      subst hA
      simp only [Go.IntWalk.toNatUp, rd_T52] at hcell hcell1 hl1 hi1
      have HX := HJ.out kk
      have HY := HL.out
      clear hC1
      generalize hx : l0.getD kk z52 = x at hcell hcell1 hl1 hi1 HX
      obtain ⟨x0, x1⟩ := x
      by_cases hlast : kk < k
      · have hcall := Aside0.mk (modint_right.closure x0 A1 c1 x1 true wr hi1 hl1 (HX hlast))
        have D2 := D
        clear D hi1 HX HY hx
        go_wp2_with (go_at_call 123; refine hcall.out.mono ?_; rintro e w' ⟨rfl, hb⟩; have D3 := Aside0.mk (below_step D2.out hb); clear hb)
        go_roundg (l0.length - (kk + 1))
        case measure => omega
        case rel => exact ⟨kk + 1, by omega, by omega, by go_num, D3⟩
      · have hkk' : kk = k := by omega
        subst hkk'
        have HZ := HY hlt
        rw [hx] at HZ
        have hcall := Aside0.mk (modint_right.closure x0 A1 c1 x1 false wr hi1 hl1 HZ)
        have hr : r = false := by
          cases r with
          | false => rfl
          | true => have := HRR.out.1 rfl; omega
        have HR := Aside0.mk hr
        have D2 := D
        clear D hi1 HX HY hx HZ hr
        go_wp2_with (go_at_call 123; refine hcall.out.mono ?_; rintro e w' ⟨rfl, hb⟩; have D3 := Aside0.mk (below_step D2.out hb); clear hb)
        go_ret
        exact ⟨⟨_, rfl, by rw [HR.out]; simp⟩, D3.out⟩
    · have hltz : ¬ (kk : Int) < (l0.length : Int) := by omega
      have hr : r = true := HRR.out.2 (by omega)
      have HR := Aside0.mk hr
      clear hr
      go_wp2
      go_ret
      exact ⟨⟨_, rfl, by rw [HR.out]; simp⟩, D.out⟩
set_option maxHeartbeats 8000000 in
set_option maxRecDepth 100000 in
theorem modint_right.contains (A0 : Option Addr) (c0 : Nat) (l0 : List S52) (r : Bool) (w : World) (hr0 : Kd.C k52 w A0 l0.length l0) (hc0 : l0.length ≤ c0) (h : modint_right.f l0 = some r) :
    Calls Try.prog 122 #[.slice A0 l0.length c0, .func (.func 123) #[] #[]] w fun e w' => e = .returned (.bool (!r)) ∧ Below w.heap.size w w' := by
  have hcall := Aside0.mk (modint_right.index A0 c0 l0 r w hr0 hc0 h)
  clear hr0 hc0 h
  go_enter Try.func122, Try.ntmps122
  go_wp2_with (go_at_call 133; refine hcall.out.mono ?_; rintro e w' ⟨⟨k, rfl, hk⟩, hd⟩; have HK := Aside0.mk hk; have HD := Aside0.mk hd; clear hk hd)
  go_ret
  exact ⟨by rw [← HK.out]; rfl, HD.out⟩
set_option maxHeartbeats 8000000 in
set_option maxRecDepth 100000 in
theorem modint_right.calls (A0 : Option Addr) (c0 : Nat) (l0 : List S52) (r : Bool) (w : World) (hr0 : Kd.C k52 w A0 l0.length l0) (hc0 : l0.length ≤ c0) (h : modint_right.f l0 = some r) :
    Calls Try.prog 100 #[.slice A0 l0.length c0] w fun e w' => e = .returned (.bool r) ∧ Below w.heap.size w w' := by
  have hcall := Aside0.mk (modint_right.contains A0 c0 l0 r w hr0 hc0 h)
  clear hr0 hc0 h
  go_enter Try.func100, Try.ntmps100
  go_wp2_with (go_at_call 122; refine hcall.out.mono ?_; rintro e w' ⟨rfl, hd⟩; have HD := Aside0.mk hd; clear hd)
  go_ret
  exact ⟨by cases r <;> rfl, HD.out⟩
end Go.Proofs.Ytgeanpnkllnipab.F
end
section
namespace Go.Proofs.Ytgeanpnkllnipab.F
open Go.RowKit Go.Proofs.YtgeanpnkllnipabW.PrintWords Go.Proofs.YtgeanpnkllnipabW.PrintLast Go.Proofs.YtgeanpnkllnipabW.PrintMore
attribute [local go_sem] max2_int min2_int max_two min_two max_three min_three max_four min_four
set_option linter.unusedVariables false
set_option linter.unusedSimpArgs false
def nat_Sub.f (k : Nat) (l0 : List Int) (l1 : List Int) : Option (List Int × Int) := (nat_right.f (([l0, l1] : List (List Int)))).bind fun t279 => (if t279 = true then ((nat_compare.f k l0 l1).bind fun t280 => (if t280 < 0 then (some (([] : List Int), 2)) else ((nat_less.f k l0 l1).bind fun t281 => ((nat_told.f k t281).bind fun bt284 => (some (bt284.1, bt284.2)))))) else (some (([] : List Int), 1)))
set_option maxHeartbeats 8000000 in
set_option maxRecDepth 100000 in
theorem nat_Sub.calls (k : Nat) (P0_ : Nat → Prop) (A0 : Option Addr) (c0 : Nat) (l0 : List Int) (P1_ : Nat → Prop) (A1 : Option Addr) (c1 : Nat) (l1 : List Int) (r1 : List Int) (r2 : Int) (w : World) (hs0 : Kd.V (Kd.int .u64) 27 w w.heap.size (fun k_ => P0_ k_) (.slice A0 l0.length c0) l0) (hs1 : Kd.V (Kd.int .u64) 27 w w.heap.size (fun k_ => P1_ k_) (.slice A1 l1.length c1) l1) (h : nat_Sub.f k l0 l1 = some (r1, r2)) :
  Calls Try.prog 80 #[.slice A0 l0.length c0, .slice A1 l1.length c1] w fun e w' => ∃ v0_ : Value, e = .returned (.tuple #[v0_, .int .i64 r2]) ∧ Kd.R (Kd.int .u64) 27 w' w.heap.size (fun k_ => (w.heap.size ≤ k_)) v0_ r1 ∧ Below w.heap.size w w' := by
 have HO0 := Aside0.mk (show Kd.V (Kd.int .u64) 27 w w.heap.size (fun k_ => ((P0_ k_ ∨ P1_ k_) ∨ w.heap.size ≤ k_)) (.slice A0 l0.length c0) l0 from Kd.V_mono hs0 (fun k_ hk => .inl (.inl hk)))
 have HO1 := Aside0.mk (show Kd.V (Kd.int .u64) 27 w w.heap.size (fun k_ => ((P0_ k_ ∨ P1_ k_) ∨ w.heap.size ≤ k_)) (.slice A1 l1.length c1) l1 from Kd.V_mono hs1 (fun k_ hk => .inl (.inr hk)))
 have HB := Aside0.mk (Below.refl w.heap.size w)
 have H : ((nat_right.f (([l0, l1] : List (List Int)))).bind fun t279 => (if t279 = true then ((nat_compare.f k l0 l1).bind fun t280 => (if t280 < 0 then (some (([] : List Int), 2)) else ((nat_less.f k l0 l1).bind fun t281 => ((nat_told.f k t281).bind fun bt284 => (some (bt284.1, bt284.2)))))) else (some (([] : List Int), 1)))) = some (r1, r2) := h
 clear h
 obtain ⟨y276, hy276⟩ : ∃ y_ : List (List Int), y_ = (([l0, l1] : List (List Int))) := ⟨_, rfl⟩
 replace H : ((nat_right.f y276).bind fun t279 => (if t279 = true then ((nat_compare.f k l0 l1).bind fun t280 => (if t280 < 0 then (some (([] : List Int), 2)) else ((nat_less.f k l0 l1).bind fun t281 => ((nat_told.f k t281).bind fun bt284 => (some (bt284.1, bt284.2)))))) else (some (([] : List Int), 1)))) = some (r1, r2) := by first | (rw [hy276]; with_reducible exact H) | (have H2_ := (Option.bind_some _ _).symm.trans H; rw [hy276]; with_reducible exact H2_) | (have H2_ := (Option.bind_some _ _).symm.trans H; with_reducible exact H2_) | with_reducible exact H | (rw [hy276]; exact H) | exact H
 have Ny276 := Aside0.mk hy276; clear hy276
 replace H := ub H; obtain ⟨t279, A3, H⟩ := H
 by_cases c4 : t279 = true
 ·
  subst c4
  have H1 : ((nat_compare.f k l0 l1).bind fun t280 => (if t280 < 0 then (some (([] : List Int), 2)) else ((nat_less.f k l0 l1).bind fun t281 => ((nat_told.f k t281).bind fun bt284 => (some (bt284.1, bt284.2)))))) = some (r1, r2) := by rw [if_pos rfl] at H; exact H
  clear H; have H := H1; clear H1
  replace H := ub H; obtain ⟨t280, A5, H⟩ := H
  by_cases c6 : t280 < 0
  ·
   rw [if_pos c6] at H
   have c6b0 : decide (t280 < 0) = true := decide_eq_true c6
   clear c6
   simp only [Option.some.injEq, Prod.mk.injEq] at H
   obtain ⟨rfl, rfl⟩ := H
   go_enter Try.func80, Try.ntmps80
   go_wp2_with (first | ((with_reducible refine gate_dst (N := 9) rfl ?_); refine Kd.N_lit (Kd.slice 27 (Kd.int .u64)) _ 23 ?hg (N' := 9) ?hd (xs := ([l0, l1] : List (List Int))) (inner := [.slice A0 l0.length c0, .slice A1 l1.length c1]) (ok := (fun k_ => ((P0_ k_ ∨ P1_ k_) ∨ w.heap.size ≤ k_))) (okp := (fun k_ => ((P0_ k_ ∨ P1_ k_) ∨ w.heap.size ≤ k_))) ?hr ?hp (fun _ hk => hk) ((show ∀ k_, w.heap.size ≤ k_ → (fun k_ => ((P0_ k_ ∨ P1_ k_) ∨ w.heap.size ≤ k_)) k_ from fun k_ hk => (.inr (Nat.le_trans (below_size uB) hk))) _ (Nat.le_refl _)) (Below.refl _ _) (Nat.le_refl _) (by simp) ?_; (case hd => rfl); (case hg => rfl); (case hr => first | (go_simp; done) | (go_simp; rfl) | (go_simp; simp only [u64_u8]; done) | (go_simp; simp only [u64_u8]; rfl)); (case hp => exact (Reps.one (show Kd.FK (Kd.slice 27 (Kd.int .u64)) _ _ l0 [.slice A0 l0.length c0] from (Kd.FK_slice_mk (Kd.V_reads' (Kd.V_mono (ok' := (fun k_ => ((P0_ k_ ∨ P1_ k_) ∨ w.heap.size ≤ k_))) (HO0.out) (fun k_ hk => hk))).2.1 (Kd.V_F (Kd.V_mono (ok' := (fun k_ => ((P0_ k_ ∨ P1_ k_) ∨ w.heap.size ≤ k_))) (HO0.out) (fun k_ hk => hk))))) (Reps.one (show Kd.FK (Kd.slice 27 (Kd.int .u64)) _ _ l1 [.slice A1 l1.length c1] from (Kd.FK_slice_mk (Kd.V_reads' (Kd.V_mono (ok' := (fun k_ => ((P0_ k_ ∨ P1_ k_) ∨ w.heap.size ≤ k_))) (HO1.out) (fun k_ hk => hk))).2.1 (Kd.V_F (Kd.V_mono (ok' := (fun k_ => ((P0_ k_ ∨ P1_ k_) ∨ w.heap.size ≤ k_))) (HO1.out) (fun k_ hk => hk))))) (Reps.none _ _)))); intro v277 w7 ho8 hb hg_ hnew_; clear hg_ hnew_; (first | rw [← Ny276.out] at ho8 | (simp only [Int.reduceToNat] at ho8; rw [← Ny276.out] at ho8)); replace HO0 := Aside0.mk (Kd.V_elder' (uV HO0.out) (Kd.N_base ho8) hb); replace HO1 := Aside0.mk (Kd.V_elder' (uV HO1.out) (Kd.N_base ho8) hb); have HO278 := Aside0.mk (Kd.N_lower ho8 (below_size uB)); replace HB := uy hb; clear hb ho8; obtain ⟨Ao9, co9, eo9⟩ := Kd.N_slice HO278.out; subst eo9) | ((with_reducible refine gate_callee (f := 114) rfl ?_); refine goesL_ (some 10) rfl rfl Try.func114 (by kernel_rfl) rfl #[.slice Ao9 y276.length co9] rfl uM ?_; (with_reducible refine (nat_right.calls _ _ y276 true _ ?side1 ?side2 A3.out).mono ?_); (case side1 => exact uC (Kd.N_reads' HO278.out).2.2); (case side2 => exact (Kd.N_reads' HO278.out).2.1); rintro e w' ⟨rfl, ⟨nd, rfl⟩⟩; refine ⟨_, rfl, ?_⟩) | ((with_reducible refine gate_callee (f := 115) rfl ?_); refine goesL_ (some 15) rfl rfl Try.func115 (by kernel_rfl) rfl #[.slice A0 l0.length c0, .slice A1 l1.length c1] rfl uM ?_; (with_reducible refine (nat_compare.calls k _ _ l0 _ _ l1 t280 _ ?side1 ?side2 ?side3 ?side4 A5.out).mono ?_); (case side1 => exact uC (Kd.V_reads' HO0.out).2.2); (case side2 => exact (Kd.V_reads' HO0.out).2.1); (case side3 => exact uC (Kd.V_reads' HO1.out).2.2); (case side4 => exact (Kd.V_reads' HO1.out).2.1); rintro e w' ⟨rfl, ⟨nd, rfl⟩⟩; refine ⟨_, rfl, ?_⟩))
   go_ret2
   exact ⟨_, uF, uI, uB⟩
  rw [if_neg c6] at H
  have c6b0 : decide (t280 < 0) = false := decide_eq_false c6
  clear c6
  replace H := ub H; obtain ⟨t281, A10, H⟩ := H
  replace H := ub H; obtain ⟨⟨t284, t287⟩, A11, H⟩ := H
  (try dsimp only at H)
  simp only [Option.some.injEq, Prod.mk.injEq] at H
  obtain ⟨rfl, rfl⟩ := H
  go_enter Try.func80, Try.ntmps80
  go_wp2_with (first | ((with_reducible refine gate_dst (N := 9) rfl ?_); refine Kd.N_lit (Kd.slice 27 (Kd.int .u64)) _ 23 ?hg (N' := 9) ?hd (xs := ([l0, l1] : List (List Int))) (inner := [.slice A0 l0.length c0, .slice A1 l1.length c1]) (ok := (fun k_ => ((P0_ k_ ∨ P1_ k_) ∨ w.heap.size ≤ k_))) (okp := (fun k_ => ((P0_ k_ ∨ P1_ k_) ∨ w.heap.size ≤ k_))) ?hr ?hp (fun _ hk => hk) ((show ∀ k_, w.heap.size ≤ k_ → (fun k_ => ((P0_ k_ ∨ P1_ k_) ∨ w.heap.size ≤ k_)) k_ from fun k_ hk => (.inr (Nat.le_trans (below_size uB) hk))) _ (Nat.le_refl _)) (Below.refl _ _) (Nat.le_refl _) (by simp) ?_; (case hd => rfl); (case hg => rfl); (case hr => first | (go_simp; done) | (go_simp; rfl) | (go_simp; simp only [u64_u8]; done) | (go_simp; simp only [u64_u8]; rfl)); (case hp => exact (Reps.one (show Kd.FK (Kd.slice 27 (Kd.int .u64)) _ _ l0 [.slice A0 l0.length c0] from (Kd.FK_slice_mk (Kd.V_reads' (Kd.V_mono (ok' := (fun k_ => ((P0_ k_ ∨ P1_ k_) ∨ w.heap.size ≤ k_))) (HO0.out) (fun k_ hk => hk))).2.1 (Kd.V_F (Kd.V_mono (ok' := (fun k_ => ((P0_ k_ ∨ P1_ k_) ∨ w.heap.size ≤ k_))) (HO0.out) (fun k_ hk => hk))))) (Reps.one (show Kd.FK (Kd.slice 27 (Kd.int .u64)) _ _ l1 [.slice A1 l1.length c1] from (Kd.FK_slice_mk (Kd.V_reads' (Kd.V_mono (ok' := (fun k_ => ((P0_ k_ ∨ P1_ k_) ∨ w.heap.size ≤ k_))) (HO1.out) (fun k_ hk => hk))).2.1 (Kd.V_F (Kd.V_mono (ok' := (fun k_ => ((P0_ k_ ∨ P1_ k_) ∨ w.heap.size ≤ k_))) (HO1.out) (fun k_ hk => hk))))) (Reps.none _ _)))); intro v277 w12 ho13 hb hg_ hnew_; clear hg_ hnew_; (first | rw [← Ny276.out] at ho13 | (simp only [Int.reduceToNat] at ho13; rw [← Ny276.out] at ho13)); replace HO0 := Aside0.mk (Kd.V_elder' (uV HO0.out) (Kd.N_base ho13) hb); replace HO1 := Aside0.mk (Kd.V_elder' (uV HO1.out) (Kd.N_base ho13) hb); have HO278 := Aside0.mk (Kd.N_lower ho13 (below_size uB)); replace HB := uy hb; clear hb ho13; obtain ⟨Ao14, co14, eo14⟩ := Kd.N_slice HO278.out; subst eo14) | ((with_reducible refine gate_callee (f := 114) rfl ?_); refine goesL_ (some 10) rfl rfl Try.func114 (by kernel_rfl) rfl #[.slice Ao14 y276.length co14] rfl uM ?_; (with_reducible refine (nat_right.calls _ _ y276 true _ ?side1 ?side2 A3.out).mono ?_); (case side1 => exact uC (Kd.N_reads' HO278.out).2.2); (case side2 => exact (Kd.N_reads' HO278.out).2.1); rintro e w' ⟨rfl, ⟨nd, rfl⟩⟩; refine ⟨_, rfl, ?_⟩) | ((with_reducible refine gate_callee (f := 115) rfl ?_); refine goesL_ (some 15) rfl rfl Try.func115 (by kernel_rfl) rfl #[.slice A0 l0.length c0, .slice A1 l1.length c1] rfl uM ?_; (with_reducible refine (nat_compare.calls k _ _ l0 _ _ l1 t280 _ ?side1 ?side2 ?side3 ?side4 A5.out).mono ?_); (case side1 => exact uC (Kd.V_reads' HO0.out).2.2); (case side2 => exact (Kd.V_reads' HO0.out).2.1); (case side3 => exact uC (Kd.V_reads' HO1.out).2.2); (case side4 => exact (Kd.V_reads' HO1.out).2.1); rintro e w' ⟨rfl, ⟨nd, rfl⟩⟩; refine ⟨_, rfl, ?_⟩) | ((with_reducible refine gate_callee (f := 117) rfl ?_); refine goesL_ (some 19) rfl rfl Try.func117 (by kernel_rfl) rfl #[.slice A0 l0.length c0, .slice A1 l1.length c1] rfl uM ?_; (with_reducible refine (nat_less.calls k _ _ l0 _ _ l1 t281 _ ?side1 ?side2 ?side3 ?side4 A10.out).mono ?_); (case side1 => exact uC (Kd.V_reads' HO0.out).2.2); (case side2 => exact (Kd.V_reads' HO0.out).2.1); (case side3 => exact uC (Kd.V_reads' HO1.out).2.2); (case side4 => exact (Kd.V_reads' HO1.out).2.1); rintro e w15 ⟨v282, rfl, ho0, hb⟩; refine ⟨_, rfl, ?_⟩; replace HO0 := ueV HO0 ho0 hb; replace HO1 := ueV HO1 ho0 hb; replace HO278 := ueN HO278 ho0 hb; have HO283 := Aside0.mk (Kd.R_lower (Kd.R_newM (M := fun k_ => (w.heap.size ≤ k_)) ho0 (below_size uB) (fun k_ h_ => h_)) (below_size uB)); replace HB := uy hb; (try clear hb ho0); obtain ⟨Ao16, co16, eo16⟩ := Kd.R_slice HO283.out; subst eo16) | ((with_reducible refine gate_callee (f := 116) rfl ?_); refine goesL_ (some 20) rfl rfl Try.func116 (by kernel_rfl) rfl #[.slice Ao16 t281.length co16] rfl uM ?_; (with_reducible refine (nat_told.calls k (fun k_ => some k_ = (.slice Ao16 t281.length co16 : Value).ownBlock) (.slice Ao16 t281.length co16) t281 t284 t287 w _ ?side1 ?side2 A11.out).mono ?_); (case side1 => repeat (first | (with_reducible first | exact HB.out | apply below_alloc | apply pw_below_drewN | apply below_drew1) | exact HB.out)); (case side2 => exact Kd.R_tight rfl HO283.out); rintro e w17 ⟨v285, rfl, ho0, hb, hkp⟩; refine ⟨_, rfl, ?_⟩; replace HO0 := Aside0.mk (Kd.V_mono (ok' := fun k_ => ((P0_ k_ ∨ P1_ k_) ∨ w.heap.size ≤ k_) ∧ some k_ ≠ (.slice Ao14 y276.length co14 : Value).ownBlock ∧ some k_ ≠ (v285 : Value).ownBlock) (Kd.V_keptB (HO0.out) hkp (fun k_ hk_ hs_ => (hk_.2) hs_)) (fun k_ hk_ => ⟨hk_.1.1.1, hk_.1.1.2, fun e_ => Or.elim (ho0.1 k_ e_.symm) (fun hs_ => hk_.2.1 hs_) (fun hn_ => Nat.not_le.2 hk_.2.2 hn_)⟩)); replace HO1 := Aside0.mk (Kd.V_mono (ok' := fun k_ => ((P0_ k_ ∨ P1_ k_) ∨ w.heap.size ≤ k_) ∧ some k_ ≠ (.slice Ao14 y276.length co14 : Value).ownBlock ∧ some k_ ≠ (v285 : Value).ownBlock) (Kd.V_keptB (HO1.out) hkp (fun k_ hk_ hs_ => (hk_.2) hs_)) (fun k_ hk_ => ⟨hk_.1.1.1, hk_.1.1.2, fun e_ => Or.elim (ho0.1 k_ e_.symm) (fun hs_ => hk_.2.1 hs_) (fun hn_ => Nat.not_le.2 hk_.2.2 hn_)⟩)); replace HO278 := Aside0.mk (Kd.N_mono (ok' := fun k_ => ((P0_ k_ ∨ P1_ k_) ∨ w.heap.size ≤ k_) ∧ some k_ ≠ (v285 : Value).ownBlock) (Kd.N_keptB (HO278.out) hkp (fun k_ hk_ hs_ => (hk_.2) hs_)) (fun k_ hk_ => ⟨hk_.1.1, fun e_ => Or.elim (ho0.1 k_ e_.symm) (fun hs_ => hk_.2.1 hs_) (fun hn_ => Nat.not_le.2 hk_.2.2 hn_)⟩)); have HO286 := Aside0.mk (Kd.R_mono (ok' := fun k_ => (w.heap.size ≤ k_)) ho0 (fun k_ hk_ => Or.elim hk_ (fun hs_ => (HO283.out.1 k_ (hs_).symm).1) (fun hn_ => (Nat.le_trans (below_size uB) hn_)))); replace HB := Aside0.mk (hb); clear HO283; (try clear hb); (try clear hkp); (try clear ho0)))
  go_ret2
  exact ⟨_, uF, uR HO286.out, uB⟩
 replace c4 := Bool.eq_false_iff.mpr c4
 subst c4
 have H1 : (some (([] : List Int), 1)) = some (r1, r2) := by rw [if_neg (show ¬ (false = true) by decide)] at H; exact H
 clear H; have H := H1; clear H1
 simp only [Option.some.injEq, Prod.mk.injEq] at H
 obtain ⟨rfl, rfl⟩ := H
 go_enter Try.func80, Try.ntmps80
 go_wp2_with (first | ((with_reducible refine gate_dst (N := 9) rfl ?_); refine Kd.N_lit (Kd.slice 27 (Kd.int .u64)) _ 23 ?hg (N' := 9) ?hd (xs := ([l0, l1] : List (List Int))) (inner := [.slice A0 l0.length c0, .slice A1 l1.length c1]) (ok := (fun k_ => ((P0_ k_ ∨ P1_ k_) ∨ w.heap.size ≤ k_))) (okp := (fun k_ => ((P0_ k_ ∨ P1_ k_) ∨ w.heap.size ≤ k_))) ?hr ?hp (fun _ hk => hk) ((show ∀ k_, w.heap.size ≤ k_ → (fun k_ => ((P0_ k_ ∨ P1_ k_) ∨ w.heap.size ≤ k_)) k_ from fun k_ hk => (.inr (Nat.le_trans (below_size uB) hk))) _ (Nat.le_refl _)) (Below.refl _ _) (Nat.le_refl _) (by simp) ?_; (case hd => rfl); (case hg => rfl); (case hr => first | (go_simp; done) | (go_simp; rfl) | (go_simp; simp only [u64_u8]; done) | (go_simp; simp only [u64_u8]; rfl)); (case hp => exact (Reps.one (show Kd.FK (Kd.slice 27 (Kd.int .u64)) _ _ l0 [.slice A0 l0.length c0] from (Kd.FK_slice_mk (Kd.V_reads' (Kd.V_mono (ok' := (fun k_ => ((P0_ k_ ∨ P1_ k_) ∨ w.heap.size ≤ k_))) (HO0.out) (fun k_ hk => hk))).2.1 (Kd.V_F (Kd.V_mono (ok' := (fun k_ => ((P0_ k_ ∨ P1_ k_) ∨ w.heap.size ≤ k_))) (HO0.out) (fun k_ hk => hk))))) (Reps.one (show Kd.FK (Kd.slice 27 (Kd.int .u64)) _ _ l1 [.slice A1 l1.length c1] from (Kd.FK_slice_mk (Kd.V_reads' (Kd.V_mono (ok' := (fun k_ => ((P0_ k_ ∨ P1_ k_) ∨ w.heap.size ≤ k_))) (HO1.out) (fun k_ hk => hk))).2.1 (Kd.V_F (Kd.V_mono (ok' := (fun k_ => ((P0_ k_ ∨ P1_ k_) ∨ w.heap.size ≤ k_))) (HO1.out) (fun k_ hk => hk))))) (Reps.none _ _)))); intro v277 w18 ho19 hb hg_ hnew_; clear hg_ hnew_; (first | rw [← Ny276.out] at ho19 | (simp only [Int.reduceToNat] at ho19; rw [← Ny276.out] at ho19)); replace HO0 := Aside0.mk (Kd.V_elder' (uV HO0.out) (Kd.N_base ho19) hb); replace HO1 := Aside0.mk (Kd.V_elder' (uV HO1.out) (Kd.N_base ho19) hb); have HO278 := Aside0.mk (Kd.N_lower ho19 (below_size uB)); replace HB := uy hb; clear hb ho19; obtain ⟨Ao20, co20, eo20⟩ := Kd.N_slice HO278.out; subst eo20) | ((with_reducible refine gate_callee (f := 114) rfl ?_); refine goesL_ (some 10) rfl rfl Try.func114 (by kernel_rfl) rfl #[.slice Ao20 y276.length co20] rfl uM ?_; (with_reducible refine (nat_right.calls _ _ y276 false _ ?side1 ?side2 A3.out).mono ?_); (case side1 => exact uC (Kd.N_reads' HO278.out).2.2); (case side2 => exact (Kd.N_reads' HO278.out).2.1); rintro e w' ⟨rfl, ⟨nd, rfl⟩⟩; refine ⟨_, rfl, ?_⟩))
 go_ret2
 exact ⟨_, uF, uI, uB⟩
def nat_Cmp.f (k : Nat) (l0 : List Int) (l1 : List Int) : Option (Int) := (nat_right.f (([l0, l1] : List (List Int)))).bind fun t271 => (if t271 = true then ((nat_compare.f k l0 l1).bind fun t272 => (some t272)) else (some 0))
set_option maxHeartbeats 8000000 in
set_option maxRecDepth 100000 in
theorem nat_Cmp.calls (k : Nat) (P0_ : Nat → Prop) (A0 : Option Addr) (c0 : Nat) (l0 : List Int) (P1_ : Nat → Prop) (A1 : Option Addr) (c1 : Nat) (l1 : List Int) (r : Int) (w : World) (hs0 : Kd.V (Kd.int .u64) 27 w w.heap.size (fun k_ => P0_ k_) (.slice A0 l0.length c0) l0) (hs1 : Kd.V (Kd.int .u64) 27 w w.heap.size (fun k_ => P1_ k_) (.slice A1 l1.length c1) l1) (h : nat_Cmp.f k l0 l1 = some r) :
  Calls Try.prog 82 #[.slice A0 l0.length c0, .slice A1 l1.length c1] w fun e w' => e = .returned (.int .i64 r) ∧ Below w.heap.size w w' := by
 have HO0 := Aside0.mk (show Kd.V (Kd.int .u64) 27 w w.heap.size (fun k_ => ((P0_ k_ ∨ P1_ k_) ∨ w.heap.size ≤ k_)) (.slice A0 l0.length c0) l0 from Kd.V_mono hs0 (fun k_ hk => .inl (.inl hk)))
 have HO1 := Aside0.mk (show Kd.V (Kd.int .u64) 27 w w.heap.size (fun k_ => ((P0_ k_ ∨ P1_ k_) ∨ w.heap.size ≤ k_)) (.slice A1 l1.length c1) l1 from Kd.V_mono hs1 (fun k_ hk => .inl (.inr hk)))
 have HB := Aside0.mk (Below.refl w.heap.size w)
 have H : ((nat_right.f (([l0, l1] : List (List Int)))).bind fun t271 => (if t271 = true then ((nat_compare.f k l0 l1).bind fun t272 => (some t272)) else (some 0))) = some r := h
 clear h
 obtain ⟨y268, hy268⟩ : ∃ y_ : List (List Int), y_ = (([l0, l1] : List (List Int))) := ⟨_, rfl⟩
 replace H : ((nat_right.f y268).bind fun t271 => (if t271 = true then ((nat_compare.f k l0 l1).bind fun t272 => (some t272)) else (some 0))) = some r := by first | (rw [hy268]; with_reducible exact H) | (have H2_ := (Option.bind_some _ _).symm.trans H; rw [hy268]; with_reducible exact H2_) | (have H2_ := (Option.bind_some _ _).symm.trans H; with_reducible exact H2_) | with_reducible exact H | (rw [hy268]; exact H) | exact H
 have Ny268 := Aside0.mk hy268; clear hy268
 replace H := ub H; obtain ⟨t271, A3, H⟩ := H
 by_cases c4 : t271 = true
 ·
  subst c4
  have H1 : ((nat_compare.f k l0 l1).bind fun t272 => (some t272)) = some r := by rw [if_pos rfl] at H; exact H
  clear H; have H := H1; clear H1
  replace H := ub H; obtain ⟨t272, A5, H⟩ := H
  obtain rfl := Option.some.inj H
  go_enter Try.func82, Try.ntmps82
  go_wp2_with (first | ((with_reducible refine gate_dst (N := 7) rfl ?_); refine Kd.N_lit (Kd.slice 27 (Kd.int .u64)) _ 23 ?hg (N' := 7) ?hd (xs := ([l0, l1] : List (List Int))) (inner := [.slice A0 l0.length c0, .slice A1 l1.length c1]) (ok := (fun k_ => ((P0_ k_ ∨ P1_ k_) ∨ w.heap.size ≤ k_))) (okp := (fun k_ => ((P0_ k_ ∨ P1_ k_) ∨ w.heap.size ≤ k_))) ?hr ?hp (fun _ hk => hk) ((show ∀ k_, w.heap.size ≤ k_ → (fun k_ => ((P0_ k_ ∨ P1_ k_) ∨ w.heap.size ≤ k_)) k_ from fun k_ hk => (.inr (Nat.le_trans (below_size uB) hk))) _ (Nat.le_refl _)) (Below.refl _ _) (Nat.le_refl _) (by simp) ?_; (case hd => rfl); (case hg => rfl); (case hr => first | (go_simp; done) | (go_simp; rfl) | (go_simp; simp only [u64_u8]; done) | (go_simp; simp only [u64_u8]; rfl)); (case hp => exact (Reps.one (show Kd.FK (Kd.slice 27 (Kd.int .u64)) _ _ l0 [.slice A0 l0.length c0] from (Kd.FK_slice_mk (Kd.V_reads' (Kd.V_mono (ok' := (fun k_ => ((P0_ k_ ∨ P1_ k_) ∨ w.heap.size ≤ k_))) (HO0.out) (fun k_ hk => hk))).2.1 (Kd.V_F (Kd.V_mono (ok' := (fun k_ => ((P0_ k_ ∨ P1_ k_) ∨ w.heap.size ≤ k_))) (HO0.out) (fun k_ hk => hk))))) (Reps.one (show Kd.FK (Kd.slice 27 (Kd.int .u64)) _ _ l1 [.slice A1 l1.length c1] from (Kd.FK_slice_mk (Kd.V_reads' (Kd.V_mono (ok' := (fun k_ => ((P0_ k_ ∨ P1_ k_) ∨ w.heap.size ≤ k_))) (HO1.out) (fun k_ hk => hk))).2.1 (Kd.V_F (Kd.V_mono (ok' := (fun k_ => ((P0_ k_ ∨ P1_ k_) ∨ w.heap.size ≤ k_))) (HO1.out) (fun k_ hk => hk))))) (Reps.none _ _)))); intro v269 w6 ho7 hb hg_ hnew_; clear hg_ hnew_; (first | rw [← Ny268.out] at ho7 | (simp only [Int.reduceToNat] at ho7; rw [← Ny268.out] at ho7)); replace HO0 := Aside0.mk (Kd.V_elder' (uV HO0.out) (Kd.N_base ho7) hb); replace HO1 := Aside0.mk (Kd.V_elder' (uV HO1.out) (Kd.N_base ho7) hb); have HO270 := Aside0.mk (Kd.N_lower ho7 (below_size uB)); replace HB := uy hb; clear hb ho7; obtain ⟨Ao8, co8, eo8⟩ := Kd.N_slice HO270.out; subst eo8) | ((with_reducible refine gate_callee (f := 114) rfl ?_); refine goesL_ (some 8) rfl rfl Try.func114 (by kernel_rfl) rfl #[.slice Ao8 y268.length co8] rfl uM ?_; (with_reducible refine (nat_right.calls _ _ y268 true _ ?side1 ?side2 A3.out).mono ?_); (case side1 => exact uC (Kd.N_reads' HO270.out).2.2); (case side2 => exact (Kd.N_reads' HO270.out).2.1); rintro e w' ⟨rfl, ⟨nd, rfl⟩⟩; refine ⟨_, rfl, ?_⟩) | ((with_reducible refine gate_callee (f := 115) rfl ?_); refine goesL_ (some 12) rfl rfl Try.func115 (by kernel_rfl) rfl #[.slice A0 l0.length c0, .slice A1 l1.length c1] rfl uM ?_; (with_reducible refine (nat_compare.calls k _ _ l0 _ _ l1 t272 _ ?side1 ?side2 ?side3 ?side4 A5.out).mono ?_); (case side1 => exact uC (Kd.V_reads' HO0.out).2.2); (case side2 => exact (Kd.V_reads' HO0.out).2.1); (case side3 => exact uC (Kd.V_reads' HO1.out).2.2); (case side4 => exact (Kd.V_reads' HO1.out).2.1); rintro e w' ⟨rfl, ⟨nd, rfl⟩⟩; refine ⟨_, rfl, ?_⟩))
  go_ret
  exact ⟨uF, uB⟩
 replace c4 := Bool.eq_false_iff.mpr c4
 subst c4
 have H1 : (some 0) = some r := by rw [if_neg (show ¬ (false = true) by decide)] at H; exact H
 clear H; have H := H1; clear H1
 obtain rfl := Option.some.inj H
 go_enter Try.func82, Try.ntmps82
 go_wp2_with (first | ((with_reducible refine gate_dst (N := 7) rfl ?_); refine Kd.N_lit (Kd.slice 27 (Kd.int .u64)) _ 23 ?hg (N' := 7) ?hd (xs := ([l0, l1] : List (List Int))) (inner := [.slice A0 l0.length c0, .slice A1 l1.length c1]) (ok := (fun k_ => ((P0_ k_ ∨ P1_ k_) ∨ w.heap.size ≤ k_))) (okp := (fun k_ => ((P0_ k_ ∨ P1_ k_) ∨ w.heap.size ≤ k_))) ?hr ?hp (fun _ hk => hk) ((show ∀ k_, w.heap.size ≤ k_ → (fun k_ => ((P0_ k_ ∨ P1_ k_) ∨ w.heap.size ≤ k_)) k_ from fun k_ hk => (.inr (Nat.le_trans (below_size uB) hk))) _ (Nat.le_refl _)) (Below.refl _ _) (Nat.le_refl _) (by simp) ?_; (case hd => rfl); (case hg => rfl); (case hr => first | (go_simp; done) | (go_simp; rfl) | (go_simp; simp only [u64_u8]; done) | (go_simp; simp only [u64_u8]; rfl)); (case hp => exact (Reps.one (show Kd.FK (Kd.slice 27 (Kd.int .u64)) _ _ l0 [.slice A0 l0.length c0] from (Kd.FK_slice_mk (Kd.V_reads' (Kd.V_mono (ok' := (fun k_ => ((P0_ k_ ∨ P1_ k_) ∨ w.heap.size ≤ k_))) (HO0.out) (fun k_ hk => hk))).2.1 (Kd.V_F (Kd.V_mono (ok' := (fun k_ => ((P0_ k_ ∨ P1_ k_) ∨ w.heap.size ≤ k_))) (HO0.out) (fun k_ hk => hk))))) (Reps.one (show Kd.FK (Kd.slice 27 (Kd.int .u64)) _ _ l1 [.slice A1 l1.length c1] from (Kd.FK_slice_mk (Kd.V_reads' (Kd.V_mono (ok' := (fun k_ => ((P0_ k_ ∨ P1_ k_) ∨ w.heap.size ≤ k_))) (HO1.out) (fun k_ hk => hk))).2.1 (Kd.V_F (Kd.V_mono (ok' := (fun k_ => ((P0_ k_ ∨ P1_ k_) ∨ w.heap.size ≤ k_))) (HO1.out) (fun k_ hk => hk))))) (Reps.none _ _)))); intro v269 w9 ho10 hb hg_ hnew_; clear hg_ hnew_; (first | rw [← Ny268.out] at ho10 | (simp only [Int.reduceToNat] at ho10; rw [← Ny268.out] at ho10)); replace HO0 := Aside0.mk (Kd.V_elder' (uV HO0.out) (Kd.N_base ho10) hb); replace HO1 := Aside0.mk (Kd.V_elder' (uV HO1.out) (Kd.N_base ho10) hb); have HO270 := Aside0.mk (Kd.N_lower ho10 (below_size uB)); replace HB := uy hb; clear hb ho10; obtain ⟨Ao11, co11, eo11⟩ := Kd.N_slice HO270.out; subst eo11) | ((with_reducible refine gate_callee (f := 114) rfl ?_); refine goesL_ (some 8) rfl rfl Try.func114 (by kernel_rfl) rfl #[.slice Ao11 y268.length co11] rfl uM ?_; (with_reducible refine (nat_right.calls _ _ y268 false _ ?side1 ?side2 A3.out).mono ?_); (case side1 => exact uC (Kd.N_reads' HO270.out).2.2); (case side2 => exact (Kd.N_reads' HO270.out).2.1); rintro e w' ⟨rfl, ⟨nd, rfl⟩⟩; refine ⟨_, rfl, ?_⟩))
 go_ret
 exact ⟨uF, uB⟩
def fixenc_modulus_may.f (k : Nat) (l0 : List Int) : Option (Bool) := (nat_Right.f l0).bind fun t592 => (if t592 = true then (if (l0.length : Int) ≤ 8 then ((nat_Cmp.f k l0 (([3] : List Int))).bind fun t596 => (some (decide (t596 ≥ 0)))) else (some false)) else (some false))
set_option maxHeartbeats 8000000 in
set_option maxRecDepth 100000 in
theorem fixenc_modulus_may.calls (k : Nat) (A0 : Option Addr) (c0 : Nat) (l0 : List Int) (r : Bool) (w : World) (hr0 : Kd.C (Kd.int .u64) w A0 l0.length l0) (hc0 : l0.length ≤ c0) (h : fixenc_modulus_may.f k l0 = some r) :
  Calls Try.prog 55 #[.slice A0 l0.length c0] w fun e w' => e = .returned (.bool r) ∧ Below w.heap.size w w' := by
 have HR0 := Aside0.mk hr0; have HC0 := Aside0.mk hc0; clear hr0 hc0
 have HB := Aside0.mk (Below.refl w.heap.size w)
 have H : ((nat_Right.f l0).bind fun t592 => (if t592 = true then (if (l0.length : Int) ≤ 8 then ((nat_Cmp.f k l0 (([3] : List Int))).bind fun t596 => (some (decide (t596 ≥ 0)))) else (some false)) else (some false))) = some r := h
 clear h
 replace H := ub H; obtain ⟨t592, A2, H⟩ := H
 by_cases c3 : t592 = true
 ·
  subst c3
  have H1 : (if (l0.length : Int) ≤ 8 then ((nat_Cmp.f k l0 (([3] : List Int))).bind fun t596 => (some (decide (t596 ≥ 0)))) else (some false)) = some r := by rw [if_pos rfl] at H; exact H
  clear H; have H := H1; clear H1
  by_cases c4 : (l0.length : Int) ≤ 8
  ·
   rw [if_pos c4] at H
   have c4b0 : decide ((l0.length : Int) ≤ 8) = true := decide_eq_true c4
   have c4b1 : decide (l0.length ≤ 8) = true := decide_eq_true (by omega)
   clear c4
   obtain ⟨y593, hy593⟩ : ∃ y_ : List Int, y_ = (([3] : List Int)) := ⟨_, rfl⟩
   replace H : ((nat_Cmp.f k l0 y593).bind fun t596 => (some (decide (t596 ≥ 0)))) = some r := by first | (rw [hy593]; with_reducible exact H) | (have H2_ := (Option.bind_some _ _).symm.trans H; rw [hy593]; with_reducible exact H2_) | (have H2_ := (Option.bind_some _ _).symm.trans H; with_reducible exact H2_) | with_reducible exact H | (rw [hy593]; exact H) | exact H
   have Ny593 := Aside0.mk hy593; clear hy593
   replace H := ub H; obtain ⟨t596, A5, H⟩ := H
   obtain rfl := Option.some.inj H
   go_enter Try.func55, Try.ntmps55
   go_wp2_with (first | ((with_reducible refine gate_callee (f := 47) rfl ?_); refine goesL_ (some 4) rfl rfl Try.func47 (by kernel_rfl) rfl #[.slice A0 l0.length c0] rfl uM ?_; (with_reducible refine (nat_Right.calls _ _ l0 true _ ?side1 ?side2 A2.out).mono ?_); (case side1 => exact uC HR0.out); (case side2 => exact HC0.out); rintro e w' ⟨rfl, ⟨nd, rfl⟩⟩; refine ⟨_, rfl, ?_⟩) | ((with_reducible refine gate_dst (N := 12) rfl ?_); (try (refine gate_guard (by rfl) ?_; dsimp only)); refine Kd.R_lit (Kd.int .u64) _ 27 ?hg (N := 12) ?hd (xs := ([3] : List Int)) (inner := [.int .u64 3]) (ok := fun _ => True) (okp := fun _ => True) ?hr ?hp (fun _ hk => hk) trivial (Below.refl _ _) (Nat.le_refl _) (by simp) ?_; (case hd => rfl); (case hg => rfl); (case hr => first | (go_simp; done) | (go_simp; rfl) | (go_simp; simp only [u64_u8]; done) | (go_simp; simp only [u64_u8]; rfl)); (case hp => exact (Reps.one (show Kd.M (Kd.int .u64) _ _ _ 3 [.int .u64 3] from rfl) (Reps.none _ _))); intro v594 w6 ho7 hb hg_ hnew_; clear hg_ hnew_; (first | rw [← Ny593.out] at ho7 | (simp only [Int.reduceToNat] at ho7; rw [← Ny593.out] at ho7)); have HO595 := Aside0.mk (Kd.R_lower ho7 (below_size uB)); replace HB := uy hb; clear hb ho7; obtain ⟨Ao8, co8, eo8⟩ := Kd.R_slice HO595.out; subst eo8) | (go_at_call 82; (with_reducible refine (nat_Cmp.calls k (fun k_ => k_ < w.heap.size) _ _ l0 (fun k_ => some k_ = (.slice Ao8 y593.length co8 : Value).ownBlock) _ _ y593 t596 _ ?side1 ?side2 A5.out).mono ?_); (case side1 => exact Kd.V_mk HC0.out (Kd.F_below (Kd.C_F (Kd.heap_int .u64) HR0.out) uB)); (case side2 => exact Kd.R_V (Kd.R_tight rfl (HO595.out))); rintro e w9 ⟨rfl, hb⟩; replace HO595 := Aside0.mk (Kd.R_below (uR HO595.out) hb); replace HB := uy hb; (try clear hb)))
   go_ret
   exact ⟨uF, uB⟩
  rw [if_neg c4] at H
  have c4b0 : decide ((l0.length : Int) ≤ 8) = false := decide_eq_false c4
  have c4b1 : decide (l0.length ≤ 8) = false := decide_eq_false (by omega)
  clear c4
  obtain rfl := Option.some.inj H
  go_enter Try.func55, Try.ntmps55
  go_wp2_with (first | ((with_reducible refine gate_callee (f := 47) rfl ?_); refine goesL_ (some 4) rfl rfl Try.func47 (by kernel_rfl) rfl #[.slice A0 l0.length c0] rfl uM ?_; (with_reducible refine (nat_Right.calls _ _ l0 true _ ?side1 ?side2 A2.out).mono ?_); (case side1 => exact uC HR0.out); (case side2 => exact HC0.out); rintro e w' ⟨rfl, ⟨nd, rfl⟩⟩; refine ⟨_, rfl, ?_⟩))
  go_ret
  exact ⟨uF, uB⟩
 replace c3 := Bool.eq_false_iff.mpr c3
 subst c3
 have H1 : (some false) = some r := by rw [if_neg (show ¬ (false = true) by decide)] at H; exact H
 clear H; have H := H1; clear H1
 obtain rfl := Option.some.inj H
 go_enter Try.func55, Try.ntmps55
 go_wp2_with (first | ((with_reducible refine gate_callee (f := 47) rfl ?_); refine goesL_ (some 4) rfl rfl Try.func47 (by kernel_rfl) rfl #[.slice A0 l0.length c0] rfl uM ?_; (with_reducible refine (nat_Right.calls _ _ l0 false _ ?side1 ?side2 A2.out).mono ?_); (case side1 => exact uC HR0.out); (case side2 => exact HC0.out); rintro e w' ⟨rfl, ⟨nd, rfl⟩⟩; refine ⟨_, rfl, ?_⟩))
 go_ret
 exact ⟨uF, uB⟩
end Go.Proofs.Ytgeanpnkllnipab.F
end
section
namespace Go.Proofs.Ytgeanpnkllnipab.F
open Go.RowKit Go.Proofs.YtgeanpnkllnipabW.PrintWords Go.Proofs.YtgeanpnkllnipabW.PrintLast Go.Proofs.YtgeanpnkllnipabW.PrintMore
attribute [local go_sem] max2_int min2_int max_two min_two max_three min_three max_four min_four
set_option linter.unusedVariables false
set_option linter.unusedSimpArgs false
attribute [local go_sem] add64_run
mutual
def nat_sum.l0 : Nat → List Int → List Int → List Int → Int → Int → Int → Option (List Int)
 | 0, _, _, _, _, _, _ => none
 | k + 1, x0, x1, x5, x6, x21, x22 => if x22 < x21 then (if x22 < (x1.length : Int) then (if 0 ≤ x22 then (if x22 < (x0.length : Int) then (if carry01 x6 = true then (if x22 < (x5.length : Int) then (nat_sum.l0 k x0 x1 (x5.set (x22 : Int).toNat (add64_s (rd x0 x22) (rd x1 x22) x6)) (add64_c (rd x0 x22) (rd x1 x22) x6) x21 (wrap64 (x22 + 1))) else (none)) else (none)) else (none)) else (none)) else (if 0 ≤ x22 then (if x22 < (x0.length : Int) then (if carry01 x6 = true then (if x22 < (x5.length : Int) then (nat_sum.l0 k x0 x1 (x5.set (x22 : Int).toNat (add64_s (rd x0 x22) 0 x6)) (add64_c (rd x0 x22) 0 x6) x21 (wrap64 (x22 + 1))) else (none)) else (none)) else (none)) else (none))) else (if 0 ≤ (x0.length : Int) then (if (x0.length : Int) < (x5.length : Int) then (some (x5.set ((x0.length : Int) : Int).toNat x6)) else (none)) else (none))
def nat_sum.l51 : Nat → List Int → List Int → List Int → Int → Int → Int → Option (List Int)
 | 0, _, _, _, _, _, _ => none
 | k + 1, x0, x1, x5, x6, x21, x22 => if x22 < x21 then (if x22 < (x1.length : Int) then (if 0 ≤ x22 then (if x22 < (x0.length : Int) then (if carry01 x6 = true then (if x22 < (x5.length : Int) then (nat_sum.l51 k x0 x1 (x5.set (x22 : Int).toNat (add64_s (rd x0 x22) (rd x1 x22) x6)) (add64_c (rd x0 x22) (rd x1 x22) x6) x21 (wrap64 (x22 + 1))) else (none)) else (none)) else (none)) else (none)) else (if 0 ≤ x22 then (if x22 < (x0.length : Int) then (if carry01 x6 = true then (if x22 < (x5.length : Int) then (nat_sum.l51 k x0 x1 (x5.set (x22 : Int).toNat (add64_s (rd x0 x22) 0 x6)) (add64_c (rd x0 x22) 0 x6) x21 (wrap64 (x22 + 1))) else (none)) else (none)) else (none)) else (none))) else (if 0 ≤ (x0.length : Int) then (if (x0.length : Int) < (x5.length : Int) then (some (x5.set ((x0.length : Int) : Int).toNat x6)) else (none)) else (none))
end
def nat_sum.f (k : Nat) (l0 : List Int) (l1 : List Int) : Option (List Int) := if (l0.length : Int) < (l1.length : Int) then (if 0 ≤ (wrap64 ((l1.length : Int) + 1)) then (if (wrap64 ((l1.length : Int) + 1) : Int).toNat ≤ 35184372088832 then (nat_sum.l0 k l1 l0 (List.replicate (wrap64 ((l1.length : Int) + 1) : Int).toNat 0) 0 (l1.length : Int) 0) else (none)) else (none)) else (if 0 ≤ (wrap64 ((l0.length : Int) + 1)) then (if (wrap64 ((l0.length : Int) + 1) : Int).toNat ≤ 35184372088832 then (nat_sum.l51 k l0 l1 (List.replicate (wrap64 ((l0.length : Int) + 1) : Int).toNat 0) 0 (l0.length : Int) 0) else (none)) else (none))
set_option maxHeartbeats 8000000 in
set_option maxRecDepth 100000 in
theorem nat_sum.calls (k : Nat) (A0 : Option Addr) (c0 : Nat) (l0 : List Int) (A1 : Option Addr) (c1 : Nat) (l1 : List Int) (r : List Int) (w : World) (hr0 : Kd.C (Kd.int .u64) w A0 l0.length l0) (hc0 : l0.length ≤ c0) (hr1 : Kd.C (Kd.int .u64) w A1 l1.length l1) (hc1 : l1.length ≤ c1) (h : nat_sum.f k l0 l1 = some r) :
  Calls Try.prog 118 #[.slice A0 l0.length c0, .slice A1 l1.length c1] w fun e w' => ∃ v0_ : Value, e = .returned (v0_) ∧ Kd.R (Kd.int .u64) 27 w' w.heap.size (fun _ => True) v0_ r ∧ Below w.heap.size w w' := by
 have HR0 := Aside0.mk hr0; have HC0 := Aside0.mk hc0; clear hr0 hc0; have HR1 := Aside0.mk hr1; have HC1 := Aside0.mk hc1; clear hr1 hc1
 have HB := Aside0.mk (Below.refl w.heap.size w)
 have H : (if (l0.length : Int) < (l1.length : Int) then (if 0 ≤ (wrap64 ((l1.length : Int) + 1)) then (if (wrap64 ((l1.length : Int) + 1) : Int).toNat ≤ 35184372088832 then (nat_sum.l0 k l1 l0 (List.replicate (wrap64 ((l1.length : Int) + 1) : Int).toNat 0) 0 (l1.length : Int) 0) else (none)) else (none)) else (if 0 ≤ (wrap64 ((l0.length : Int) + 1)) then (if (wrap64 ((l0.length : Int) + 1) : Int).toNat ≤ 35184372088832 then (nat_sum.l51 k l0 l1 (List.replicate (wrap64 ((l0.length : Int) + 1) : Int).toNat 0) 0 (l0.length : Int) 0) else (none)) else (none))) = some r := h
 clear h
 by_cases c3 : (l0.length : Int) < (l1.length : Int)
 ·
  rw [if_pos c3] at H
  have c3b0 : decide ((l0.length : Int) < (l1.length : Int)) = true := decide_eq_true c3
  have c3b1 : decide (l0.length < l1.length) = true := decide_eq_true (Int.ofNat_lt.mp c3)
  clear c3
  obtain ⟨ji4, hji4⟩ : ∃ j_ : Int, (wrap64 ((l1.length : Int) + 1)) = j_ := ⟨_, rfl⟩
  first | rw [hji4] at H | simp only [hji4] at H
  have hji4w : (IntKind.i64.wrap ((l1.length : Int) + 1)) = ji4 := (i64_w _).trans hji4
  replace H := uT H; obtain ⟨c5, H⟩ := H
  have c5b0 := eq_true c5
  have c5b1 : decide (0 ≤ (ji4)) = true := decide_eq_true c5
  clear c5
  replace H := uT H; obtain ⟨c6, H⟩ := H
  have c6b0 := eq_true c6
  have c6b1 : decide ((ji4 : Int).toNat ≤ 35184372088832) = true := decide_eq_true c6
  clear c6
  obtain ⟨y625, hy625⟩ : ∃ y_ : List Int, y_ = (List.replicate (ji4 : Int).toNat 0) := ⟨_, rfl⟩
  replace H : (nat_sum.l0 k l1 l0 y625 0 (l1.length : Int) 0) = some r := by first | (rw [hy625]; with_reducible exact H) | (have H2_ := (Option.bind_some _ _).symm.trans H; rw [hy625]; with_reducible exact H2_) | (have H2_ := (Option.bind_some _ _).symm.trans H; with_reducible exact H2_) | with_reducible exact H | (rw [hy625]; exact H) | exact H
  have Ny625 := Aside0.mk hy625; clear hy625
  have H' := Aside0.mk H
  clear H
  go_enter Try.func118, Try.ntmps118
  go_wp2_with (first | ((with_reducible refine gate_dst (N := 19) rfl ?_); refine Kd.R_make (Kd.int .u64) _ 27 rfl (N := 19) rfl 23 _ _ rfl ji4 rfl rfl Try.underlying23 (.int .u64 0) 8 info27 rfl (by decide) (by omega) 0 (ok := fun _ => True) (okp := fun _ => True) rfl (fun _ hk => hk) trivial uO (Nat.le_trans (Nat.mul_le_mul_right _ (uO : ji4.toNat ≤ 35184372088832)) (by omega)) (Below.refl _ _) (Nat.le_refl _) ?_; intro v626 w7 ho8 hb hg_ hnew_; clear hg_ hnew_; (first | rw [← Ny625.out] at ho8 | (simp only [Int.reduceToNat] at ho8; rw [← Ny625.out] at ho8)); have HO627 := Aside0.mk (Kd.R_lower ho8 (below_size uB)); replace HB := uy hb; clear hb ho8))
  go_loopg [6, 22] k (fun kq v6 v22 w' => ∃ (x5_1 : List Int) (x6_1 : Int) (x22_1 : Int), v6 = .int .u64 x6_1 ∧ v22 = .int .i64 x22_1 ∧ Aside0 (nat_sum.l0 kq l1 l0 x5_1 x6_1 (l1.length : Int) x22_1 = some r) ∧ Aside0 (kq ≤ k) ∧ Aside0 (Kd.R (Kd.int .u64) 27 w' w.heap.size (fun _ => True) v626 x5_1) ∧ Aside0 (Below w.heap.size w w'))
  case atStart => exact ⟨(y625), (0), (0), uG, uG, H', ⟨Nat.le_refl _⟩, ⟨uR HO627.out⟩, ⟨uB⟩⟩
  case round =>
   clear H'
   (try clear c1); (try clear p2); (try clear c3); (try clear c3b0); (try clear c3b1); (try clear c5); (try clear c5b0); (try clear c5b1); (try clear c6); (try clear c6b0); (try clear c6b1); (try clear p6)
   obtain ⟨x5_1, x6_1, x22_1, rfl, rfl, HA, HK1, HO_5, HB⟩ := hrel
   cases gk with
   | zero => exact absurd HA.out (by simp [nat_sum.l0])
   | succ k1 =>
    have H := HA.out
    clear HA
    simp only [nat_sum.l0] at H
    by_cases c9 : x22_1 < (l1.length : Int)
    ·
     rw [if_pos c9] at H
     have c9b0 : decide (x22_1 < (l1.length : Int)) = true := decide_eq_true c9
     clear c9
     by_cases c10 : x22_1 < (l0.length : Int)
     ·
      rw [if_pos c10] at H
      have c10b0 : decide (x22_1 < (l0.length : Int)) = true := decide_eq_true c10
      clear c10
      replace H := uT H; obtain ⟨c11, H⟩ := H
      have c11b0 : decide (0 ≤ x22_1) = true := decide_eq_true c11
      clear c11
      replace H := uT H; obtain ⟨c12, H⟩ := H
      have c12b0 : decide (x22_1 < (l1.length : Int)) = true := decide_eq_true c12
      clear c12
      replace H := uT H; obtain ⟨c13, H⟩ := H
      have c13b0 : carry01 x6_1 = true := c13
      clear c13
      replace H := uT H; obtain ⟨c14, H⟩ := H
      have c14b0 : decide (x22_1 < (x5_1.length : Int)) = true := decide_eq_true c14
      clear c14
      obtain ⟨y630, hy630⟩ : ∃ y_ : List Int, y_ = (x5_1.set (x22_1 : Int).toNat (add64_s (rd l1 x22_1) (rd l0 x22_1) x6_1)) := ⟨_, rfl⟩
      replace H : (nat_sum.l0 k1 l1 l0 y630 (add64_c (rd l1 x22_1) (rd l0 x22_1) x6_1) (l1.length : Int) (wrap64 (x22_1 + 1))) = some r := by first | (rw [hy630]; with_reducible exact H) | (have H2_ := (Option.bind_some _ _).symm.trans H; rw [hy630]; with_reducible exact H2_) | (have H2_ := (Option.bind_some _ _).symm.trans H; with_reducible exact H2_) | with_reducible exact H | (rw [hy630]; exact H) | exact H
      have Ny630 := Aside0.mk hy630; clear hy630
      have H' := Aside0.mk H
      clear H
      have p628 : 0 ≤ (x22_1 : Int) := uO
      have q628 : x22_1 < (l0.length : Int) := uO
      obtain ⟨ad628, e628, hx628_0⟩ := Kd.at_int HR0.out x22_1 p628 q628
      cases e628
      replace hx628_0 := (HB.out.cell (World.block_lt_of_cell? w _ hx628_0)).trans hx628_0
      replace p628 := eq_true p628
      replace q628 := eq_true q628
      have p629 : 0 ≤ (x22_1 : Int) := uO
      have q629 : x22_1 < (l1.length : Int) := uO
      obtain ⟨ad629, e629, hx629_0⟩ := Kd.at_int HR1.out x22_1 p629 q629
      cases e629
      replace hx629_0 := (HB.out.cell (World.block_lt_of_cell? w _ hx629_0)).trans hx629_0
      replace p629 := eq_true p629
      replace q629 := eq_true q629
      have p15 : 0 ≤ (x22_1 : Int) := uO
      have q15 : (x22_1 : Int) < ((x5_1.length : Int) : Int) := uO
      obtain ⟨go15, co15, eo15, gb15, gl15, cl15, HG15⟩ := Kd.R_form HO_5.out (by omega)
      (first | cases eo15 | (injection eo15 with ea_ en_ ec_; (first | subst ea_ | (injection ea_ with ea_; subst ea_)); subst ec_; clear en_))
      have GB15 := Aside0.mk gb15; have GG15 := Aside0.mk HG15; clear gb15 gl15 HG15
      obtain ⟨hx15_0, hf15_0⟩ := Kd.R_celln 0 HO_5.out (x22_1 : Int) p15 q15
      replace p15 := eq_true p15
      replace q15 := eq_true q15
      have HP16 := Kd.R_putg HO_5.out (x22_1 : Int) (add64_s (rd l1 x22_1) (rd l0 x22_1) x6_1)
      go_wp2_with (first | ((with_reducible refine gate_store (t := 27) (p := 45) rfl ?_); refine store_event (t := 27) (p := 45) (v := ?vo_w17) (w1 := (wr.setCell ⟨go15, (x22_1 : Int).toNat, none⟩ (.int .u64 (add64_s (rd l1 x22_1) (rd l0 x22_1) x6_1)))) ?hg ?ho ?hn ?hr ?_; (case ho => rfl); (case hg => rfl); (case hn => rfl); (case hr => first | (go_simp; done) | (go_simp; rfl) | (obtain ⟨hy_, hz_⟩ := Kd.R_celln 0 HO_5.out (x22_1 : Int) uO uO; (try simp only [Go.IntWalk.toNatUp] at hy_ hz_); (try simp only [Int.reduceToNat, Int.toNat_zero, Int.toNat_ofNat] at hy_ hz_); first | (go_simp; done) | (go_simp; rfl))); intro w17 hw; have hg : wr.grownBy w17 (some go15) := (by rw [hw]; exact HP16.2); have hp_ : Kd.R (Kd.int .u64) 27 w17 w.heap.size (fun _ => True) (.slice (some ⟨go15, 0, none⟩) x5_1.length co15) y630 := (by rw [hw, Ny630.out]; exact HP16.1); clear HP16; replace HO_5 := Aside0.mk (hp_); replace HB := Aside0.mk ((by rw [hw]; exact below_set (HB.out) GB15.out : Below w.heap.size w w17)); clear hg hw hp_))
      first | go_roundg k1 | ((try simp only [← hji4] at H'); simp only [← hji4]; go_roundg k1)
      case measure => have := HK1.out; omega
      case rel => first | exact ⟨(y630), (add64_c (rd l1 x22_1) (rd l0 x22_1) x6_1), (wrap64 (x22_1 + 1)), uG, uG, H', ⟨by have := HK1.out; omega⟩, ⟨uR HO_5.out⟩, ⟨uB⟩⟩ | (simp only [← hji4] at H'; exact ⟨(y630), (add64_c (rd l1 x22_1) (rd l0 x22_1) x6_1), (wrap64 (x22_1 + 1)), uG, uG, H', ⟨by have := HK1.out; omega⟩, ⟨uR HO_5.out⟩, ⟨uB⟩⟩)
     rw [if_neg c10] at H
     have c10b0 : decide (x22_1 < (l0.length : Int)) = false := decide_eq_false c10
     clear c10
     replace H := uT H; obtain ⟨c18, H⟩ := H
     have c18b0 : decide (0 ≤ x22_1) = true := decide_eq_true c18
     clear c18
     replace H := uT H; obtain ⟨c19, H⟩ := H
     have c19b0 : decide (x22_1 < (l1.length : Int)) = true := decide_eq_true c19
     clear c19
     replace H := uT H; obtain ⟨c20, H⟩ := H
     have c20b0 : carry01 x6_1 = true := c20
     clear c20
     replace H := uT H; obtain ⟨c21, H⟩ := H
     have c21b0 : decide (x22_1 < (x5_1.length : Int)) = true := decide_eq_true c21
     clear c21
     obtain ⟨y632, hy632⟩ : ∃ y_ : List Int, y_ = (x5_1.set (x22_1 : Int).toNat (add64_s (rd l1 x22_1) 0 x6_1)) := ⟨_, rfl⟩
     replace H : (nat_sum.l0 k1 l1 l0 y632 (add64_c (rd l1 x22_1) 0 x6_1) (l1.length : Int) (wrap64 (x22_1 + 1))) = some r := by first | (rw [hy632]; with_reducible exact H) | (have H2_ := (Option.bind_some _ _).symm.trans H; rw [hy632]; with_reducible exact H2_) | (have H2_ := (Option.bind_some _ _).symm.trans H; with_reducible exact H2_) | with_reducible exact H | (rw [hy632]; exact H) | exact H
     have Ny632 := Aside0.mk hy632; clear hy632
     have H' := Aside0.mk H
     clear H
     have p631 : 0 ≤ (x22_1 : Int) := uO
     have q631 : x22_1 < (l1.length : Int) := uO
     obtain ⟨ad631, e631, hx631_0⟩ := Kd.at_int HR1.out x22_1 p631 q631
     cases e631
     replace hx631_0 := (HB.out.cell (World.block_lt_of_cell? w _ hx631_0)).trans hx631_0
     replace p631 := eq_true p631
     replace q631 := eq_true q631
     have p22 : 0 ≤ (x22_1 : Int) := uO
     have q22 : (x22_1 : Int) < ((x5_1.length : Int) : Int) := uO
     obtain ⟨go22, co22, eo22, gb22, gl22, cl22, HG22⟩ := Kd.R_form HO_5.out (by omega)
     (first | cases eo22 | (injection eo22 with ea_ en_ ec_; (first | subst ea_ | (injection ea_ with ea_; subst ea_)); subst ec_; clear en_))
     have GB22 := Aside0.mk gb22; have GG22 := Aside0.mk HG22; clear gb22 gl22 HG22
     obtain ⟨hx22_0, hf22_0⟩ := Kd.R_celln 0 HO_5.out (x22_1 : Int) p22 q22
     replace p22 := eq_true p22
     replace q22 := eq_true q22
     have HP23 := Kd.R_putg HO_5.out (x22_1 : Int) (add64_s (rd l1 x22_1) 0 x6_1)
     go_wp2_with (first | ((with_reducible refine gate_store (t := 27) (p := 45) rfl ?_); refine store_event (t := 27) (p := 45) (v := ?vo_w24) (w1 := (wr.setCell ⟨go22, (x22_1 : Int).toNat, none⟩ (.int .u64 (add64_s (rd l1 x22_1) 0 x6_1)))) ?hg ?ho ?hn ?hr ?_; (case ho => rfl); (case hg => rfl); (case hn => rfl); (case hr => first | (go_simp; done) | (go_simp; rfl) | (obtain ⟨hy_, hz_⟩ := Kd.R_celln 0 HO_5.out (x22_1 : Int) uO uO; (try simp only [Go.IntWalk.toNatUp] at hy_ hz_); (try simp only [Int.reduceToNat, Int.toNat_zero, Int.toNat_ofNat] at hy_ hz_); first | (go_simp; done) | (go_simp; rfl))); intro w24 hw; have hg : wr.grownBy w24 (some go22) := (by rw [hw]; exact HP23.2); have hp_ : Kd.R (Kd.int .u64) 27 w24 w.heap.size (fun _ => True) (.slice (some ⟨go22, 0, none⟩) x5_1.length co22) y632 := (by rw [hw, Ny632.out]; exact HP23.1); clear HP23; replace HO_5 := Aside0.mk (hp_); replace HB := Aside0.mk ((by rw [hw]; exact below_set (HB.out) GB22.out : Below w.heap.size w w24)); clear hg hw hp_))
     first | go_roundg k1 | ((try simp only [← hji4] at H'); simp only [← hji4]; go_roundg k1)
     case measure => have := HK1.out; omega
     case rel => first | exact ⟨(y632), (add64_c (rd l1 x22_1) 0 x6_1), (wrap64 (x22_1 + 1)), uG, uG, H', ⟨by have := HK1.out; omega⟩, ⟨uR HO_5.out⟩, ⟨uB⟩⟩ | (simp only [← hji4] at H'; exact ⟨(y632), (add64_c (rd l1 x22_1) 0 x6_1), (wrap64 (x22_1 + 1)), uG, uG, H', ⟨by have := HK1.out; omega⟩, ⟨uR HO_5.out⟩, ⟨uB⟩⟩)
    rw [if_neg c9] at H
    have c9b0 : decide (x22_1 < (l1.length : Int)) = false := decide_eq_false c9
    clear c9
    replace H := uT H; obtain ⟨c25, H⟩ := H
    have c25b0 : decide (0 ≤ (l1.length : Int)) = true := decide_eq_true c25
    have c25b1 : decide (0 ≤ l1.length) = true := decide_eq_true (by omega)
    clear c25
    replace H := uT H; obtain ⟨c26, H⟩ := H
    have c26b0 : decide ((l1.length : Int) < (x5_1.length : Int)) = true := decide_eq_true c26
    have c26b1 : decide (l1.length < x5_1.length) = true := decide_eq_true (Int.ofNat_lt.mp c26)
    clear c26
    obtain ⟨y633, hy633⟩ : ∃ y_ : List Int, y_ = (x5_1.set ((l1.length : Int) : Int).toNat x6_1) := ⟨_, rfl⟩
    replace H : (some y633) = some r := by first | (rw [hy633]; with_reducible exact H) | (have H2_ := (Option.bind_some _ _).symm.trans H; rw [hy633]; with_reducible exact H2_) | (have H2_ := (Option.bind_some _ _).symm.trans H; with_reducible exact H2_) | with_reducible exact H | (rw [hy633]; exact H) | exact H
    have Ny633 := Aside0.mk hy633; clear hy633
    obtain rfl := Option.some.inj H
    have p27 : 0 ≤ ((l1.length : Int) : Int) := uO
    have q27 : ((l1.length : Int) : Int) < ((x5_1.length : Int) : Int) := uO
    obtain ⟨go27, co27, eo27, gb27, gl27, cl27, HG27⟩ := Kd.R_form HO_5.out (by omega)
    (first | cases eo27 | (injection eo27 with ea_ en_ ec_; (first | subst ea_ | (injection ea_ with ea_; subst ea_)); subst ec_; clear en_))
    have GB27 := Aside0.mk gb27; have GG27 := Aside0.mk HG27; clear gb27 gl27 HG27
    obtain ⟨hx27_0, hf27_0⟩ := Kd.R_celln 0 HO_5.out ((l1.length : Int) : Int) p27 q27
    (try simp only [Go.IntWalk.toNatUp] at hx27_0 hf27_0)
    replace p27 := eq_true p27
    replace q27 := eq_true q27
    have HP28 := Kd.R_putg HO_5.out ((l1.length : Int) : Int) x6_1
    go_wp2_with (first | ((with_reducible refine gate_store (t := 27) (p := 51) rfl ?_); refine store_event (t := 27) (p := 51) (v := ?vo_w29) (w1 := (wr.setCell ⟨go27, ((l1.length : Int) : Int).toNat, none⟩ (.int .u64 x6_1))) ?hg ?ho ?hn ?hr ?_; (case ho => rfl); (case hg => rfl); (case hn => rfl); (case hr => first | (go_simp; done) | (go_simp; rfl) | (obtain ⟨hy_, hz_⟩ := Kd.R_celln 0 HO_5.out ((l1.length : Int) : Int) uO uO; (try simp only [Go.IntWalk.toNatUp] at hy_ hz_); (try simp only [Int.reduceToNat, Int.toNat_zero, Int.toNat_ofNat] at hy_ hz_); first | (go_simp; done) | (go_simp; rfl))); intro w29 hw; have hg : wr.grownBy w29 (some go27) := (by rw [hw]; exact HP28.2); have hp_ : Kd.R (Kd.int .u64) 27 w29 w.heap.size (fun _ => True) (.slice (some ⟨go27, 0, none⟩) x5_1.length co27) y633 := (by rw [hw, Ny633.out]; exact HP28.1); clear HP28; replace HO_5 := Aside0.mk (hp_); replace HB := Aside0.mk ((by rw [hw]; exact below_set (HB.out) GB27.out : Below w.heap.size w w29)); clear hg hw hp_))
    go_ret
    exact ⟨_, by first | rfl | (simp [errW_none, errW_some] <;> rfl) | (simp only [← hji4]; first | rfl | (simp [errW_none, errW_some] <;> rfl)) | (simp [*, errW_none, errW_some] <;> rfl), uR HO_5.out, uB⟩
 rw [if_neg c3] at H
 have c3b0 : decide ((l0.length : Int) < (l1.length : Int)) = false := decide_eq_false c3
 have c3b1 : decide (l0.length < l1.length) = false := decide_eq_false (fun h => c3 (Int.ofNat_lt.mpr h))
 clear c3
 obtain ⟨ji30, hji30⟩ : ∃ j_ : Int, (wrap64 ((l0.length : Int) + 1)) = j_ := ⟨_, rfl⟩
 first | rw [hji30] at H | simp only [hji30] at H
 have hji30w : (IntKind.i64.wrap ((l0.length : Int) + 1)) = ji30 := (i64_w _).trans hji30
 replace H := uT H; obtain ⟨c31, H⟩ := H
 have c31b0 := eq_true c31
 have c31b1 : decide (0 ≤ (ji30)) = true := decide_eq_true c31
 clear c31
 replace H := uT H; obtain ⟨c32, H⟩ := H
 have c32b0 := eq_true c32
 have c32b1 : decide ((ji30 : Int).toNat ≤ 35184372088832) = true := decide_eq_true c32
 clear c32
 obtain ⟨y634, hy634⟩ : ∃ y_ : List Int, y_ = (List.replicate (ji30 : Int).toNat 0) := ⟨_, rfl⟩
 replace H : (nat_sum.l51 k l0 l1 y634 0 (l0.length : Int) 0) = some r := by first | (rw [hy634]; with_reducible exact H) | (have H2_ := (Option.bind_some _ _).symm.trans H; rw [hy634]; with_reducible exact H2_) | (have H2_ := (Option.bind_some _ _).symm.trans H; with_reducible exact H2_) | with_reducible exact H | (rw [hy634]; exact H) | exact H
 have Ny634 := Aside0.mk hy634; clear hy634
 have H' := Aside0.mk H
 clear H
 go_enter Try.func118, Try.ntmps118
 go_wp2_with (first | ((with_reducible refine gate_dst (N := 19) rfl ?_); refine Kd.R_make (Kd.int .u64) _ 27 rfl (N := 19) rfl 23 _ _ rfl ji30 rfl rfl Try.underlying23 (.int .u64 0) 8 info27 rfl (by decide) (by omega) 0 (ok := fun _ => True) (okp := fun _ => True) rfl (fun _ hk => hk) trivial uO (Nat.le_trans (Nat.mul_le_mul_right _ (uO : ji30.toNat ≤ 35184372088832)) (by omega)) (Below.refl _ _) (Nat.le_refl _) ?_; intro v635 w33 ho34 hb hg_ hnew_; clear hg_ hnew_; (first | rw [← Ny634.out] at ho34 | (simp only [Int.reduceToNat] at ho34; rw [← Ny634.out] at ho34)); have HO636 := Aside0.mk (Kd.R_lower ho34 (below_size uB)); replace HB := uy hb; clear hb ho34))
 go_loopg [6, 22] k (fun kq v6 v22 w' => ∃ (x5_1 : List Int) (x6_1 : Int) (x22_1 : Int), v6 = .int .u64 x6_1 ∧ v22 = .int .i64 x22_1 ∧ Aside0 (nat_sum.l51 kq l0 l1 x5_1 x6_1 (l0.length : Int) x22_1 = some r) ∧ Aside0 (kq ≤ k) ∧ Aside0 (Kd.R (Kd.int .u64) 27 w' w.heap.size (fun _ => True) v635 x5_1) ∧ Aside0 (Below w.heap.size w w'))
 case atStart => exact ⟨(y634), (0), (0), uG, uG, H', ⟨Nat.le_refl _⟩, ⟨uR HO636.out⟩, ⟨uB⟩⟩
 case round =>
  clear H'
  (try clear c1); (try clear p1); (try clear q1); (try clear hx1); (try clear c2); (try clear p2 p2); (try clear q2); (try clear hx2); (try clear hf2); (try clear c3); (try clear c3b0); (try clear c3b1); (try clear c5); (try clear c5b0); (try clear c5b1); (try clear c6); (try clear c6b0); (try clear c6b1); (try clear p6 p6); (try clear q6); (try clear hx6); (try clear c9); (try clear c9b0); (try clear c10); (try clear c10b0); (try clear c11); (try clear c11b0); (try clear c12); (try clear c12b0); (try clear c13); (try clear c13b0); (try clear c14); (try clear c14b0); (try clear p15 p15); (try clear q15 q15); (try clear hx15 hx15_0); (try clear hf15); (try clear c18); (try clear c18b0); (try clear c19); (try clear c19b0); (try clear c20); (try clear c20b0); (try clear c21); (try clear c21b0); (try clear p22 p22); (try clear q22 q22); (try clear hx22 hx22_0); (try clear hf22); (try clear c25); (try clear c25b0); (try clear c25b1); (try clear c26); (try clear c26b0); (try clear c26b1); (try clear p27 p27); (try clear q27 q27); (try clear hx27 hx27_0); (try clear hf27); (try clear c31); (try clear c31b0); (try clear c31b1); (try clear c32); (try clear c32b0); (try clear c32b1); (try clear hx628_0); (try clear hx629_0); (try clear hx631_0); (try clear p628); (try clear p629); (try clear p631); (try clear q628); (try clear q629); (try clear q631)
  obtain ⟨x5_1, x6_1, x22_1, rfl, rfl, HA, HK1, HO_5, HB⟩ := hrel
  cases gk with
  | zero => exact absurd HA.out (by simp [nat_sum.l51])
  | succ k1 =>
   have H := HA.out
   clear HA
   simp only [nat_sum.l51] at H
   by_cases c35 : x22_1 < (l0.length : Int)
   ·
    rw [if_pos c35] at H
    have c35b0 : decide (x22_1 < (l0.length : Int)) = true := decide_eq_true c35
    clear c35
    by_cases c36 : x22_1 < (l1.length : Int)
    ·
     rw [if_pos c36] at H
     have c36b0 : decide (x22_1 < (l1.length : Int)) = true := decide_eq_true c36
     clear c36
     replace H := uT H; obtain ⟨c37, H⟩ := H
     have c37b0 : decide (0 ≤ x22_1) = true := decide_eq_true c37
     clear c37
     replace H := uT H; obtain ⟨c38, H⟩ := H
     have c38b0 : decide (x22_1 < (l0.length : Int)) = true := decide_eq_true c38
     clear c38
     replace H := uT H; obtain ⟨c39, H⟩ := H
     have c39b0 : carry01 x6_1 = true := c39
     clear c39
     replace H := uT H; obtain ⟨c40, H⟩ := H
     have c40b0 : decide (x22_1 < (x5_1.length : Int)) = true := decide_eq_true c40
     clear c40
     obtain ⟨y639, hy639⟩ : ∃ y_ : List Int, y_ = (x5_1.set (x22_1 : Int).toNat (add64_s (rd l0 x22_1) (rd l1 x22_1) x6_1)) := ⟨_, rfl⟩
     replace H : (nat_sum.l51 k1 l0 l1 y639 (add64_c (rd l0 x22_1) (rd l1 x22_1) x6_1) (l0.length : Int) (wrap64 (x22_1 + 1))) = some r := by first | (rw [hy639]; with_reducible exact H) | (have H2_ := (Option.bind_some _ _).symm.trans H; rw [hy639]; with_reducible exact H2_) | (have H2_ := (Option.bind_some _ _).symm.trans H; with_reducible exact H2_) | with_reducible exact H | (rw [hy639]; exact H) | exact H
     have Ny639 := Aside0.mk hy639; clear hy639
     have H' := Aside0.mk H
     clear H
     have p637 : 0 ≤ (x22_1 : Int) := uO
     have q637 : x22_1 < (l1.length : Int) := uO
     obtain ⟨ad637, e637, hx637_0⟩ := Kd.at_int HR1.out x22_1 p637 q637
     cases e637
     replace hx637_0 := (HB.out.cell (World.block_lt_of_cell? w _ hx637_0)).trans hx637_0
     replace p637 := eq_true p637
     replace q637 := eq_true q637
     have p638 : 0 ≤ (x22_1 : Int) := uO
     have q638 : x22_1 < (l0.length : Int) := uO
     obtain ⟨ad638, e638, hx638_0⟩ := Kd.at_int HR0.out x22_1 p638 q638
     cases e638
     replace hx638_0 := (HB.out.cell (World.block_lt_of_cell? w _ hx638_0)).trans hx638_0
     replace p638 := eq_true p638
     replace q638 := eq_true q638
     have p41 : 0 ≤ (x22_1 : Int) := uO
     have q41 : (x22_1 : Int) < ((x5_1.length : Int) : Int) := uO
     obtain ⟨go41, co41, eo41, gb41, gl41, cl41, HG41⟩ := Kd.R_form HO_5.out (by omega)
     (first | cases eo41 | (injection eo41 with ea_ en_ ec_; (first | subst ea_ | (injection ea_ with ea_; subst ea_)); subst ec_; clear en_))
     have GB41 := Aside0.mk gb41; have GG41 := Aside0.mk HG41; clear gb41 gl41 HG41
     obtain ⟨hx41_0, hf41_0⟩ := Kd.R_celln 0 HO_5.out (x22_1 : Int) p41 q41
     replace p41 := eq_true p41
     replace q41 := eq_true q41
     have HP42 := Kd.R_putg HO_5.out (x22_1 : Int) (add64_s (rd l0 x22_1) (rd l1 x22_1) x6_1)
     go_wp2_with (first | ((with_reducible refine gate_store (t := 27) (p := 45) rfl ?_); refine store_event (t := 27) (p := 45) (v := ?vo_w43) (w1 := (wr.setCell ⟨go41, (x22_1 : Int).toNat, none⟩ (.int .u64 (add64_s (rd l0 x22_1) (rd l1 x22_1) x6_1)))) ?hg ?ho ?hn ?hr ?_; (case ho => rfl); (case hg => rfl); (case hn => rfl); (case hr => first | (go_simp; done) | (go_simp; rfl) | (obtain ⟨hy_, hz_⟩ := Kd.R_celln 0 HO_5.out (x22_1 : Int) uO uO; (try simp only [Go.IntWalk.toNatUp] at hy_ hz_); (try simp only [Int.reduceToNat, Int.toNat_zero, Int.toNat_ofNat] at hy_ hz_); first | (go_simp; done) | (go_simp; rfl))); intro w43 hw; have hg : wr.grownBy w43 (some go41) := (by rw [hw]; exact HP42.2); have hp_ : Kd.R (Kd.int .u64) 27 w43 w.heap.size (fun _ => True) (.slice (some ⟨go41, 0, none⟩) x5_1.length co41) y639 := (by rw [hw, Ny639.out]; exact HP42.1); clear HP42; replace HO_5 := Aside0.mk (hp_); replace HB := Aside0.mk ((by rw [hw]; exact below_set (HB.out) GB41.out : Below w.heap.size w w43)); clear hg hw hp_))
     first | go_roundg k1 | ((try simp only [← hji30] at H'); simp only [← hji30]; go_roundg k1) | ((try simp only [← hji4] at H'); simp only [← hji4]; go_roundg k1)
     case measure => have := HK1.out; omega
     case rel => first | exact ⟨(y639), (add64_c (rd l0 x22_1) (rd l1 x22_1) x6_1), (wrap64 (x22_1 + 1)), uG, uG, H', ⟨by have := HK1.out; omega⟩, ⟨uR HO_5.out⟩, ⟨uB⟩⟩ | (simp only [← hji30] at H'; exact ⟨(y639), (add64_c (rd l0 x22_1) (rd l1 x22_1) x6_1), (wrap64 (x22_1 + 1)), uG, uG, H', ⟨by have := HK1.out; omega⟩, ⟨uR HO_5.out⟩, ⟨uB⟩⟩) | (simp only [← hji4] at H'; exact ⟨(y639), (add64_c (rd l0 x22_1) (rd l1 x22_1) x6_1), (wrap64 (x22_1 + 1)), uG, uG, H', ⟨by have := HK1.out; omega⟩, ⟨uR HO_5.out⟩, ⟨uB⟩⟩)
    rw [if_neg c36] at H
    have c36b0 : decide (x22_1 < (l1.length : Int)) = false := decide_eq_false c36
    clear c36
    replace H := uT H; obtain ⟨c44, H⟩ := H
    have c44b0 : decide (0 ≤ x22_1) = true := decide_eq_true c44
    clear c44
    replace H := uT H; obtain ⟨c45, H⟩ := H
    have c45b0 : decide (x22_1 < (l0.length : Int)) = true := decide_eq_true c45
    clear c45
    replace H := uT H; obtain ⟨c46, H⟩ := H
    have c46b0 : carry01 x6_1 = true := c46
    clear c46
    replace H := uT H; obtain ⟨c47, H⟩ := H
    have c47b0 : decide (x22_1 < (x5_1.length : Int)) = true := decide_eq_true c47
    clear c47
    obtain ⟨y641, hy641⟩ : ∃ y_ : List Int, y_ = (x5_1.set (x22_1 : Int).toNat (add64_s (rd l0 x22_1) 0 x6_1)) := ⟨_, rfl⟩
    replace H : (nat_sum.l51 k1 l0 l1 y641 (add64_c (rd l0 x22_1) 0 x6_1) (l0.length : Int) (wrap64 (x22_1 + 1))) = some r := by first | (rw [hy641]; with_reducible exact H) | (have H2_ := (Option.bind_some _ _).symm.trans H; rw [hy641]; with_reducible exact H2_) | (have H2_ := (Option.bind_some _ _).symm.trans H; with_reducible exact H2_) | with_reducible exact H | (rw [hy641]; exact H) | exact H
    have Ny641 := Aside0.mk hy641; clear hy641
    have H' := Aside0.mk H
    clear H
    have p640 : 0 ≤ (x22_1 : Int) := uO
    have q640 : x22_1 < (l0.length : Int) := uO
    obtain ⟨ad640, e640, hx640_0⟩ := Kd.at_int HR0.out x22_1 p640 q640
    cases e640
    replace hx640_0 := (HB.out.cell (World.block_lt_of_cell? w _ hx640_0)).trans hx640_0
    replace p640 := eq_true p640
    replace q640 := eq_true q640
    have p48 : 0 ≤ (x22_1 : Int) := uO
    have q48 : (x22_1 : Int) < ((x5_1.length : Int) : Int) := uO
    obtain ⟨go48, co48, eo48, gb48, gl48, cl48, HG48⟩ := Kd.R_form HO_5.out (by omega)
    (first | cases eo48 | (injection eo48 with ea_ en_ ec_; (first | subst ea_ | (injection ea_ with ea_; subst ea_)); subst ec_; clear en_))
    have GB48 := Aside0.mk gb48; have GG48 := Aside0.mk HG48; clear gb48 gl48 HG48
    obtain ⟨hx48_0, hf48_0⟩ := Kd.R_celln 0 HO_5.out (x22_1 : Int) p48 q48
    replace p48 := eq_true p48
    replace q48 := eq_true q48
    have HP49 := Kd.R_putg HO_5.out (x22_1 : Int) (add64_s (rd l0 x22_1) 0 x6_1)
    go_wp2_with (first | ((with_reducible refine gate_store (t := 27) (p := 45) rfl ?_); refine store_event (t := 27) (p := 45) (v := ?vo_w50) (w1 := (wr.setCell ⟨go48, (x22_1 : Int).toNat, none⟩ (.int .u64 (add64_s (rd l0 x22_1) 0 x6_1)))) ?hg ?ho ?hn ?hr ?_; (case ho => rfl); (case hg => rfl); (case hn => rfl); (case hr => first | (go_simp; done) | (go_simp; rfl) | (obtain ⟨hy_, hz_⟩ := Kd.R_celln 0 HO_5.out (x22_1 : Int) uO uO; (try simp only [Go.IntWalk.toNatUp] at hy_ hz_); (try simp only [Int.reduceToNat, Int.toNat_zero, Int.toNat_ofNat] at hy_ hz_); first | (go_simp; done) | (go_simp; rfl))); intro w50 hw; have hg : wr.grownBy w50 (some go48) := (by rw [hw]; exact HP49.2); have hp_ : Kd.R (Kd.int .u64) 27 w50 w.heap.size (fun _ => True) (.slice (some ⟨go48, 0, none⟩) x5_1.length co48) y641 := (by rw [hw, Ny641.out]; exact HP49.1); clear HP49; replace HO_5 := Aside0.mk (hp_); replace HB := Aside0.mk ((by rw [hw]; exact below_set (HB.out) GB48.out : Below w.heap.size w w50)); clear hg hw hp_))
    first | go_roundg k1 | ((try simp only [← hji30] at H'); simp only [← hji30]; go_roundg k1) | ((try simp only [← hji4] at H'); simp only [← hji4]; go_roundg k1)
    case measure => have := HK1.out; omega
    case rel => first | exact ⟨(y641), (add64_c (rd l0 x22_1) 0 x6_1), (wrap64 (x22_1 + 1)), uG, uG, H', ⟨by have := HK1.out; omega⟩, ⟨uR HO_5.out⟩, ⟨uB⟩⟩ | (simp only [← hji30] at H'; exact ⟨(y641), (add64_c (rd l0 x22_1) 0 x6_1), (wrap64 (x22_1 + 1)), uG, uG, H', ⟨by have := HK1.out; omega⟩, ⟨uR HO_5.out⟩, ⟨uB⟩⟩) | (simp only [← hji4] at H'; exact ⟨(y641), (add64_c (rd l0 x22_1) 0 x6_1), (wrap64 (x22_1 + 1)), uG, uG, H', ⟨by have := HK1.out; omega⟩, ⟨uR HO_5.out⟩, ⟨uB⟩⟩)
   rw [if_neg c35] at H
   have c35b0 : decide (x22_1 < (l0.length : Int)) = false := decide_eq_false c35
   clear c35
   replace H := uT H; obtain ⟨c51, H⟩ := H
   have c51b0 : decide (0 ≤ (l0.length : Int)) = true := decide_eq_true c51
   have c51b1 : decide (0 ≤ l0.length) = true := decide_eq_true (by omega)
   clear c51
   replace H := uT H; obtain ⟨c52, H⟩ := H
   have c52b0 : decide ((l0.length : Int) < (x5_1.length : Int)) = true := decide_eq_true c52
   have c52b1 : decide (l0.length < x5_1.length) = true := decide_eq_true (Int.ofNat_lt.mp c52)
   clear c52
   obtain ⟨y642, hy642⟩ : ∃ y_ : List Int, y_ = (x5_1.set ((l0.length : Int) : Int).toNat x6_1) := ⟨_, rfl⟩
   replace H : (some y642) = some r := by first | (rw [hy642]; with_reducible exact H) | (have H2_ := (Option.bind_some _ _).symm.trans H; rw [hy642]; with_reducible exact H2_) | (have H2_ := (Option.bind_some _ _).symm.trans H; with_reducible exact H2_) | with_reducible exact H | (rw [hy642]; exact H) | exact H
   have Ny642 := Aside0.mk hy642; clear hy642
   obtain rfl := Option.some.inj H
   have p53 : 0 ≤ ((l0.length : Int) : Int) := uO
   have q53 : ((l0.length : Int) : Int) < ((x5_1.length : Int) : Int) := uO
   obtain ⟨go53, co53, eo53, gb53, gl53, cl53, HG53⟩ := Kd.R_form HO_5.out (by omega)
   (first | cases eo53 | (injection eo53 with ea_ en_ ec_; (first | subst ea_ | (injection ea_ with ea_; subst ea_)); subst ec_; clear en_))
   have GB53 := Aside0.mk gb53; have GG53 := Aside0.mk HG53; clear gb53 gl53 HG53
   obtain ⟨hx53_0, hf53_0⟩ := Kd.R_celln 0 HO_5.out ((l0.length : Int) : Int) p53 q53
   (try simp only [Go.IntWalk.toNatUp] at hx53_0 hf53_0)
   replace p53 := eq_true p53
   replace q53 := eq_true q53
   have HP54 := Kd.R_putg HO_5.out ((l0.length : Int) : Int) x6_1
   go_wp2_with (first | ((with_reducible refine gate_store (t := 27) (p := 51) rfl ?_); refine store_event (t := 27) (p := 51) (v := ?vo_w55) (w1 := (wr.setCell ⟨go53, ((l0.length : Int) : Int).toNat, none⟩ (.int .u64 x6_1))) ?hg ?ho ?hn ?hr ?_; (case ho => rfl); (case hg => rfl); (case hn => rfl); (case hr => first | (go_simp; done) | (go_simp; rfl) | (obtain ⟨hy_, hz_⟩ := Kd.R_celln 0 HO_5.out ((l0.length : Int) : Int) uO uO; (try simp only [Go.IntWalk.toNatUp] at hy_ hz_); (try simp only [Int.reduceToNat, Int.toNat_zero, Int.toNat_ofNat] at hy_ hz_); first | (go_simp; done) | (go_simp; rfl))); intro w55 hw; have hg : wr.grownBy w55 (some go53) := (by rw [hw]; exact HP54.2); have hp_ : Kd.R (Kd.int .u64) 27 w55 w.heap.size (fun _ => True) (.slice (some ⟨go53, 0, none⟩) x5_1.length co53) y642 := (by rw [hw, Ny642.out]; exact HP54.1); clear HP54; replace HO_5 := Aside0.mk (hp_); replace HB := Aside0.mk ((by rw [hw]; exact below_set (HB.out) GB53.out : Below w.heap.size w w55)); clear hg hw hp_))
   go_ret
   exact ⟨_, by first | rfl | (simp [errW_none, errW_some] <;> rfl) | (simp only [← hji30]; first | rfl | (simp [errW_none, errW_some] <;> rfl)) | (simp [*, errW_none, errW_some] <;> rfl), uR HO_5.out, uB⟩
end Go.Proofs.Ytgeanpnkllnipab.F
end
section
namespace Go.Proofs.Ytgeanpnkllnipab.F
open Go.RowKit Go.Proofs.YtgeanpnkllnipabW.PrintWords Go.Proofs.YtgeanpnkllnipabW.PrintLast Go.Proofs.YtgeanpnkllnipabW.PrintMore
attribute [local go_sem] max2_int min2_int max_two min_two max_three min_three max_four min_four
set_option linter.unusedVariables false
set_option linter.unusedSimpArgs false
def nat_Add.f (k : Nat) (l0 : List Int) (l1 : List Int) : Option (List Int × Int) := (nat_right.f (([l0, l1] : List (List Int)))).bind fun t646 => (if t646 = true then ((nat_sum.f k l0 l1).bind fun t647 => ((nat_told.f k t647).bind fun bt650 => (some (bt650.1, bt650.2)))) else (some (([] : List Int), 1)))
set_option maxHeartbeats 8000000 in
set_option maxRecDepth 100000 in
theorem nat_Add.calls (k : Nat) (P0_ : Nat → Prop) (A0 : Option Addr) (c0 : Nat) (l0 : List Int) (P1_ : Nat → Prop) (A1 : Option Addr) (c1 : Nat) (l1 : List Int) (r1 : List Int) (r2 : Int) (w : World) (hs0 : Kd.V (Kd.int .u64) 27 w w.heap.size (fun k_ => P0_ k_) (.slice A0 l0.length c0) l0) (hs1 : Kd.V (Kd.int .u64) 27 w w.heap.size (fun k_ => P1_ k_) (.slice A1 l1.length c1) l1) (h : nat_Add.f k l0 l1 = some (r1, r2)) :
  Calls Try.prog 81 #[.slice A0 l0.length c0, .slice A1 l1.length c1] w fun e w' => ∃ v0_ : Value, e = .returned (.tuple #[v0_, .int .i64 r2]) ∧ Kd.R (Kd.int .u64) 27 w' w.heap.size (fun k_ => (w.heap.size ≤ k_)) v0_ r1 ∧ Below w.heap.size w w' := by
 have HO0 := Aside0.mk (show Kd.V (Kd.int .u64) 27 w w.heap.size (fun k_ => ((P0_ k_ ∨ P1_ k_) ∨ w.heap.size ≤ k_)) (.slice A0 l0.length c0) l0 from Kd.V_mono hs0 (fun k_ hk => .inl (.inl hk)))
 have HO1 := Aside0.mk (show Kd.V (Kd.int .u64) 27 w w.heap.size (fun k_ => ((P0_ k_ ∨ P1_ k_) ∨ w.heap.size ≤ k_)) (.slice A1 l1.length c1) l1 from Kd.V_mono hs1 (fun k_ hk => .inl (.inr hk)))
 have HB := Aside0.mk (Below.refl w.heap.size w)
 have H : ((nat_right.f (([l0, l1] : List (List Int)))).bind fun t646 => (if t646 = true then ((nat_sum.f k l0 l1).bind fun t647 => ((nat_told.f k t647).bind fun bt650 => (some (bt650.1, bt650.2)))) else (some (([] : List Int), 1)))) = some (r1, r2) := h
 clear h
 obtain ⟨y643, hy643⟩ : ∃ y_ : List (List Int), y_ = (([l0, l1] : List (List Int))) := ⟨_, rfl⟩
 replace H : ((nat_right.f y643).bind fun t646 => (if t646 = true then ((nat_sum.f k l0 l1).bind fun t647 => ((nat_told.f k t647).bind fun bt650 => (some (bt650.1, bt650.2)))) else (some (([] : List Int), 1)))) = some (r1, r2) := by first | (rw [hy643]; with_reducible exact H) | (have H2_ := (Option.bind_some _ _).symm.trans H; rw [hy643]; with_reducible exact H2_) | (have H2_ := (Option.bind_some _ _).symm.trans H; with_reducible exact H2_) | with_reducible exact H | (rw [hy643]; exact H) | exact H
 have Ny643 := Aside0.mk hy643; clear hy643
 replace H := ub H; obtain ⟨t646, A3, H⟩ := H
 by_cases c4 : t646 = true
 ·
  subst c4
  have H1 : ((nat_sum.f k l0 l1).bind fun t647 => ((nat_told.f k t647).bind fun bt650 => (some (bt650.1, bt650.2)))) = some (r1, r2) := by rw [if_pos rfl] at H; exact H
  clear H; have H := H1; clear H1
  replace H := ub H; obtain ⟨t647, A5, H⟩ := H
  replace H := ub H; obtain ⟨⟨t650, t653⟩, A6, H⟩ := H
  (try dsimp only at H)
  simp only [Option.some.injEq, Prod.mk.injEq] at H
  obtain ⟨rfl, rfl⟩ := H
  go_enter Try.func81, Try.ntmps81
  go_wp2_with (first | ((with_reducible refine gate_dst (N := 8) rfl ?_); refine Kd.N_lit (Kd.slice 27 (Kd.int .u64)) _ 23 ?hg (N' := 8) ?hd (xs := ([l0, l1] : List (List Int))) (inner := [.slice A0 l0.length c0, .slice A1 l1.length c1]) (ok := (fun k_ => ((P0_ k_ ∨ P1_ k_) ∨ w.heap.size ≤ k_))) (okp := (fun k_ => ((P0_ k_ ∨ P1_ k_) ∨ w.heap.size ≤ k_))) ?hr ?hp (fun _ hk => hk) ((show ∀ k_, w.heap.size ≤ k_ → (fun k_ => ((P0_ k_ ∨ P1_ k_) ∨ w.heap.size ≤ k_)) k_ from fun k_ hk => (.inr (Nat.le_trans (below_size uB) hk))) _ (Nat.le_refl _)) (Below.refl _ _) (Nat.le_refl _) (by simp) ?_; (case hd => rfl); (case hg => rfl); (case hr => first | (go_simp; done) | (go_simp; rfl) | (go_simp; simp only [u64_u8]; done) | (go_simp; simp only [u64_u8]; rfl)); (case hp => exact (Reps.one (show Kd.FK (Kd.slice 27 (Kd.int .u64)) _ _ l0 [.slice A0 l0.length c0] from (Kd.FK_slice_mk (Kd.V_reads' (Kd.V_mono (ok' := (fun k_ => ((P0_ k_ ∨ P1_ k_) ∨ w.heap.size ≤ k_))) (HO0.out) (fun k_ hk => hk))).2.1 (Kd.V_F (Kd.V_mono (ok' := (fun k_ => ((P0_ k_ ∨ P1_ k_) ∨ w.heap.size ≤ k_))) (HO0.out) (fun k_ hk => hk))))) (Reps.one (show Kd.FK (Kd.slice 27 (Kd.int .u64)) _ _ l1 [.slice A1 l1.length c1] from (Kd.FK_slice_mk (Kd.V_reads' (Kd.V_mono (ok' := (fun k_ => ((P0_ k_ ∨ P1_ k_) ∨ w.heap.size ≤ k_))) (HO1.out) (fun k_ hk => hk))).2.1 (Kd.V_F (Kd.V_mono (ok' := (fun k_ => ((P0_ k_ ∨ P1_ k_) ∨ w.heap.size ≤ k_))) (HO1.out) (fun k_ hk => hk))))) (Reps.none _ _)))); intro v644 w7 ho8 hb hg_ hnew_; clear hg_ hnew_; (first | rw [← Ny643.out] at ho8 | (simp only [Int.reduceToNat] at ho8; rw [← Ny643.out] at ho8)); replace HO0 := Aside0.mk (Kd.V_elder' (uV HO0.out) (Kd.N_base ho8) hb); replace HO1 := Aside0.mk (Kd.V_elder' (uV HO1.out) (Kd.N_base ho8) hb); have HO645 := Aside0.mk (Kd.N_lower ho8 (below_size uB)); replace HB := uy hb; clear hb ho8; obtain ⟨Ao9, co9, eo9⟩ := Kd.N_slice HO645.out; subst eo9) | ((with_reducible refine gate_callee (f := 114) rfl ?_); refine goesL_ (some 9) rfl rfl Try.func114 (by kernel_rfl) rfl #[.slice Ao9 y643.length co9] rfl uM ?_; (with_reducible refine (nat_right.calls _ _ y643 true _ ?side1 ?side2 A3.out).mono ?_); (case side1 => exact uC (Kd.N_reads' HO645.out).2.2); (case side2 => exact (Kd.N_reads' HO645.out).2.1); rintro e w' ⟨rfl, ⟨nd, rfl⟩⟩; refine ⟨_, rfl, ?_⟩) | ((with_reducible refine gate_callee (f := 118) rfl ?_); refine goesL_ (some 13) rfl rfl Try.func118 (by kernel_rfl) rfl #[.slice A0 l0.length c0, .slice A1 l1.length c1] rfl uM ?_; (with_reducible refine (nat_sum.calls k _ _ l0 _ _ l1 t647 _ ?side1 ?side2 ?side3 ?side4 A5.out).mono ?_); (case side1 => exact uC (Kd.V_reads' HO0.out).2.2); (case side2 => exact (Kd.V_reads' HO0.out).2.1); (case side3 => exact uC (Kd.V_reads' HO1.out).2.2); (case side4 => exact (Kd.V_reads' HO1.out).2.1); rintro e w10 ⟨v648, rfl, ho0, hb⟩; refine ⟨_, rfl, ?_⟩; replace HO0 := ueV HO0 ho0 hb; replace HO1 := ueV HO1 ho0 hb; replace HO645 := ueN HO645 ho0 hb; have HO649 := Aside0.mk (Kd.R_lower (Kd.R_newM (M := fun k_ => (w.heap.size ≤ k_)) ho0 (below_size uB) (fun k_ h_ => h_)) (below_size uB)); replace HB := uy hb; (try clear hb ho0); obtain ⟨Ao11, co11, eo11⟩ := Kd.R_slice HO649.out; subst eo11) | ((with_reducible refine gate_callee (f := 116) rfl ?_); refine goesL_ (some 14) rfl rfl Try.func116 (by kernel_rfl) rfl #[.slice Ao11 t647.length co11] rfl uM ?_; (with_reducible refine (nat_told.calls k (fun k_ => some k_ = (.slice Ao11 t647.length co11 : Value).ownBlock) (.slice Ao11 t647.length co11) t647 t650 t653 w _ ?side1 ?side2 A6.out).mono ?_); (case side1 => repeat (first | (with_reducible first | exact HB.out | apply below_alloc | apply pw_below_drewN | apply below_drew1) | exact HB.out)); (case side2 => exact Kd.R_tight rfl HO649.out); rintro e w12 ⟨v651, rfl, ho0, hb, hkp⟩; refine ⟨_, rfl, ?_⟩; replace HO0 := Aside0.mk (Kd.V_mono (ok' := fun k_ => ((P0_ k_ ∨ P1_ k_) ∨ w.heap.size ≤ k_) ∧ some k_ ≠ (.slice Ao9 y643.length co9 : Value).ownBlock ∧ some k_ ≠ (v651 : Value).ownBlock) (Kd.V_keptB (HO0.out) hkp (fun k_ hk_ hs_ => (hk_.2) hs_)) (fun k_ hk_ => ⟨hk_.1.1.1, hk_.1.1.2, fun e_ => Or.elim (ho0.1 k_ e_.symm) (fun hs_ => hk_.2.1 hs_) (fun hn_ => Nat.not_le.2 hk_.2.2 hn_)⟩)); replace HO1 := Aside0.mk (Kd.V_mono (ok' := fun k_ => ((P0_ k_ ∨ P1_ k_) ∨ w.heap.size ≤ k_) ∧ some k_ ≠ (.slice Ao9 y643.length co9 : Value).ownBlock ∧ some k_ ≠ (v651 : Value).ownBlock) (Kd.V_keptB (HO1.out) hkp (fun k_ hk_ hs_ => (hk_.2) hs_)) (fun k_ hk_ => ⟨hk_.1.1.1, hk_.1.1.2, fun e_ => Or.elim (ho0.1 k_ e_.symm) (fun hs_ => hk_.2.1 hs_) (fun hn_ => Nat.not_le.2 hk_.2.2 hn_)⟩)); replace HO645 := Aside0.mk (Kd.N_mono (ok' := fun k_ => ((P0_ k_ ∨ P1_ k_) ∨ w.heap.size ≤ k_) ∧ some k_ ≠ (v651 : Value).ownBlock) (Kd.N_keptB (HO645.out) hkp (fun k_ hk_ hs_ => (hk_.2) hs_)) (fun k_ hk_ => ⟨hk_.1.1, fun e_ => Or.elim (ho0.1 k_ e_.symm) (fun hs_ => hk_.2.1 hs_) (fun hn_ => Nat.not_le.2 hk_.2.2 hn_)⟩)); have HO652 := Aside0.mk (Kd.R_mono (ok' := fun k_ => (w.heap.size ≤ k_)) ho0 (fun k_ hk_ => Or.elim hk_ (fun hs_ => (HO649.out.1 k_ (hs_).symm).1) (fun hn_ => (Nat.le_trans (below_size uB) hn_)))); replace HB := Aside0.mk (hb); clear HO649; (try clear hb); (try clear hkp); (try clear ho0)))
  go_ret2
  exact ⟨_, uF, uR HO652.out, uB⟩
 replace c4 := Bool.eq_false_iff.mpr c4
 subst c4
 have H1 : (some (([] : List Int), 1)) = some (r1, r2) := by rw [if_neg (show ¬ (false = true) by decide)] at H; exact H
 clear H; have H := H1; clear H1
 simp only [Option.some.injEq, Prod.mk.injEq] at H
 obtain ⟨rfl, rfl⟩ := H
 go_enter Try.func81, Try.ntmps81
 go_wp2_with (first | ((with_reducible refine gate_dst (N := 8) rfl ?_); refine Kd.N_lit (Kd.slice 27 (Kd.int .u64)) _ 23 ?hg (N' := 8) ?hd (xs := ([l0, l1] : List (List Int))) (inner := [.slice A0 l0.length c0, .slice A1 l1.length c1]) (ok := (fun k_ => ((P0_ k_ ∨ P1_ k_) ∨ w.heap.size ≤ k_))) (okp := (fun k_ => ((P0_ k_ ∨ P1_ k_) ∨ w.heap.size ≤ k_))) ?hr ?hp (fun _ hk => hk) ((show ∀ k_, w.heap.size ≤ k_ → (fun k_ => ((P0_ k_ ∨ P1_ k_) ∨ w.heap.size ≤ k_)) k_ from fun k_ hk => (.inr (Nat.le_trans (below_size uB) hk))) _ (Nat.le_refl _)) (Below.refl _ _) (Nat.le_refl _) (by simp) ?_; (case hd => rfl); (case hg => rfl); (case hr => first | (go_simp; done) | (go_simp; rfl) | (go_simp; simp only [u64_u8]; done) | (go_simp; simp only [u64_u8]; rfl)); (case hp => exact (Reps.one (show Kd.FK (Kd.slice 27 (Kd.int .u64)) _ _ l0 [.slice A0 l0.length c0] from (Kd.FK_slice_mk (Kd.V_reads' (Kd.V_mono (ok' := (fun k_ => ((P0_ k_ ∨ P1_ k_) ∨ w.heap.size ≤ k_))) (HO0.out) (fun k_ hk => hk))).2.1 (Kd.V_F (Kd.V_mono (ok' := (fun k_ => ((P0_ k_ ∨ P1_ k_) ∨ w.heap.size ≤ k_))) (HO0.out) (fun k_ hk => hk))))) (Reps.one (show Kd.FK (Kd.slice 27 (Kd.int .u64)) _ _ l1 [.slice A1 l1.length c1] from (Kd.FK_slice_mk (Kd.V_reads' (Kd.V_mono (ok' := (fun k_ => ((P0_ k_ ∨ P1_ k_) ∨ w.heap.size ≤ k_))) (HO1.out) (fun k_ hk => hk))).2.1 (Kd.V_F (Kd.V_mono (ok' := (fun k_ => ((P0_ k_ ∨ P1_ k_) ∨ w.heap.size ≤ k_))) (HO1.out) (fun k_ hk => hk))))) (Reps.none _ _)))); intro v644 w13 ho14 hb hg_ hnew_; clear hg_ hnew_; (first | rw [← Ny643.out] at ho14 | (simp only [Int.reduceToNat] at ho14; rw [← Ny643.out] at ho14)); replace HO0 := Aside0.mk (Kd.V_elder' (uV HO0.out) (Kd.N_base ho14) hb); replace HO1 := Aside0.mk (Kd.V_elder' (uV HO1.out) (Kd.N_base ho14) hb); have HO645 := Aside0.mk (Kd.N_lower ho14 (below_size uB)); replace HB := uy hb; clear hb ho14; obtain ⟨Ao15, co15, eo15⟩ := Kd.N_slice HO645.out; subst eo15) | ((with_reducible refine gate_callee (f := 114) rfl ?_); refine goesL_ (some 9) rfl rfl Try.func114 (by kernel_rfl) rfl #[.slice Ao15 y643.length co15] rfl uM ?_; (with_reducible refine (nat_right.calls _ _ y643 false _ ?side1 ?side2 A3.out).mono ?_); (case side1 => exact uC (Kd.N_reads' HO645.out).2.2); (case side2 => exact (Kd.N_reads' HO645.out).2.1); rintro e w' ⟨rfl, ⟨nd, rfl⟩⟩; refine ⟨_, rfl, ?_⟩))
 go_ret2
 exact ⟨_, uF, uI, uB⟩
def modint_Add.f (k : Nat) (a0_0 : Bool) (l0_1 : List Int) (a1_0 : Bool) (l1_1 : List Int) : Option (Bool × List Int × Int) := (modint_right.f (([(⟨a0_0, l0_1⟩ : S52), (⟨a1_0, l1_1⟩ : S52)] : List (S52)))).bind fun t688 => (if t688 = true then (if (a0_0 == a1_0) = true then ((nat_Add.f k l0_1 l1_1).bind fun bt689 => ((modint_From.f a0_0 bt689.1).bind fun bt693 => (some (bt693.1, bt693.2, bt689.2)))) else ((nat_Cmp.f k l0_1 l1_1).bind fun t697 => (if t697 < 0 then ((nat_Sub.f k l1_1 l0_1).bind fun bt698 => ((modint_From.f a1_0 bt698.1).bind fun bt702 => (some (bt702.1, bt702.2, bt698.2)))) else ((nat_Sub.f k l0_1 l1_1).bind fun bt706 => ((modint_From.f a0_0 bt706.1).bind fun bt710 => (some (bt710.1, bt710.2, bt706.2))))))) else (some (false, ([] : List Int), 1)))
set_option maxHeartbeats 8000000 in
set_option maxRecDepth 100000 in
theorem modint_Add.calls (k : Nat) (a0_0 : Bool) (P0_1_ : Nat → Prop) (A0_1 : Option Addr) (c0_1 : Nat) (l0_1 : List Int) (a1_0 : Bool) (P1_1_ : Nat → Prop) (A1_1 : Option Addr) (c1_1 : Nat) (l1_1 : List Int) (r1 : Bool) (r2 : List Int) (r3 : Int) (w : World) (hs0_1 : Kd.V (Kd.int .u64) 27 w w.heap.size (fun k_ => P0_1_ k_) (.slice A0_1 l0_1.length c0_1) l0_1) (hs1_1 : Kd.V (Kd.int .u64) 27 w w.heap.size (fun k_ => P1_1_ k_) (.slice A1_1 l1_1.length c1_1) l1_1) (h : modint_Add.f k a0_0 l0_1 a1_0 l1_1 = some (r1, r2, r3)) :
  Calls Try.prog 56 #[.agg #[.bool a0_0, .slice A0_1 l0_1.length c0_1], .agg #[.bool a1_0, .slice A1_1 l1_1.length c1_1]] w fun e w' => ∃ v1_ : Value, e = .returned (.tuple #[.agg #[.bool r1, v1_], .int .i64 r3]) ∧ Kd.R (Kd.int .u64) 27 w' w.heap.size (fun k_ => (w.heap.size ≤ k_)) v1_ r2 ∧ Below w.heap.size w w' := by
 have hu52 := Try.underlying52
 have HO0_1 := Aside0.mk (show Kd.V (Kd.int .u64) 27 w w.heap.size (fun k_ => ((P0_1_ k_ ∨ P1_1_ k_) ∨ w.heap.size ≤ k_)) (.slice A0_1 l0_1.length c0_1) l0_1 from Kd.V_mono hs0_1 (fun k_ hk => .inl (.inl hk)))
 have HO1_1 := Aside0.mk (show Kd.V (Kd.int .u64) 27 w w.heap.size (fun k_ => ((P0_1_ k_ ∨ P1_1_ k_) ∨ w.heap.size ≤ k_)) (.slice A1_1 l1_1.length c1_1) l1_1 from Kd.V_mono hs1_1 (fun k_ hk => .inl (.inr hk)))
 have HB := Aside0.mk (Below.refl w.heap.size w)
 have H : ((modint_right.f (([(⟨a0_0, l0_1⟩ : S52), (⟨a1_0, l1_1⟩ : S52)] : List (S52)))).bind fun t688 => (if t688 = true then (if (a0_0 == a1_0) = true then ((nat_Add.f k l0_1 l1_1).bind fun bt689 => ((modint_From.f a0_0 bt689.1).bind fun bt693 => (some (bt693.1, bt693.2, bt689.2)))) else ((nat_Cmp.f k l0_1 l1_1).bind fun t697 => (if t697 < 0 then ((nat_Sub.f k l1_1 l0_1).bind fun bt698 => ((modint_From.f a1_0 bt698.1).bind fun bt702 => (some (bt702.1, bt702.2, bt698.2)))) else ((nat_Sub.f k l0_1 l1_1).bind fun bt706 => ((modint_From.f a0_0 bt706.1).bind fun bt710 => (some (bt710.1, bt710.2, bt706.2))))))) else (some (false, ([] : List Int), 1)))) = some (r1, r2, r3) := h
 clear h
 obtain ⟨y685, hy685⟩ : ∃ y_ : List (S52), y_ = (([(⟨a0_0, l0_1⟩ : S52), (⟨a1_0, l1_1⟩ : S52)] : List (S52))) := ⟨_, rfl⟩
 replace H : ((modint_right.f y685).bind fun t688 => (if t688 = true then (if (a0_0 == a1_0) = true then ((nat_Add.f k l0_1 l1_1).bind fun bt689 => ((modint_From.f a0_0 bt689.1).bind fun bt693 => (some (bt693.1, bt693.2, bt689.2)))) else ((nat_Cmp.f k l0_1 l1_1).bind fun t697 => (if t697 < 0 then ((nat_Sub.f k l1_1 l0_1).bind fun bt698 => ((modint_From.f a1_0 bt698.1).bind fun bt702 => (some (bt702.1, bt702.2, bt698.2)))) else ((nat_Sub.f k l0_1 l1_1).bind fun bt706 => ((modint_From.f a0_0 bt706.1).bind fun bt710 => (some (bt710.1, bt710.2, bt706.2))))))) else (some (false, ([] : List Int), 1)))) = some (r1, r2, r3) := by first | (rw [hy685]; with_reducible exact H) | (have H2_ := (Option.bind_some _ _).symm.trans H; rw [hy685]; with_reducible exact H2_) | (have H2_ := (Option.bind_some _ _).symm.trans H; with_reducible exact H2_) | with_reducible exact H | (rw [hy685]; exact H) | exact H
 have Ny685 := Aside0.mk hy685; clear hy685
 replace H := ub H; obtain ⟨t688, A3, H⟩ := H
 by_cases c4 : t688 = true
 ·
  subst c4
  have H1 : (if (a0_0 == a1_0) = true then ((nat_Add.f k l0_1 l1_1).bind fun bt689 => ((modint_From.f a0_0 bt689.1).bind fun bt693 => (some (bt693.1, bt693.2, bt689.2)))) else ((nat_Cmp.f k l0_1 l1_1).bind fun t697 => (if t697 < 0 then ((nat_Sub.f k l1_1 l0_1).bind fun bt698 => ((modint_From.f a1_0 bt698.1).bind fun bt702 => (some (bt702.1, bt702.2, bt698.2)))) else ((nat_Sub.f k l0_1 l1_1).bind fun bt706 => ((modint_From.f a0_0 bt706.1).bind fun bt710 => (some (bt710.1, bt710.2, bt706.2))))))) = some (r1, r2, r3) := by rw [if_pos rfl] at H; exact H
  clear H; have H := H1; clear H1
  by_cases c5 : (a0_0 == a1_0) = true
  ·
   rw [if_pos c5] at H
   have c5b0 : (a0_0 == a1_0) = true := c5
   (try (have c5b1 : decide (a0_0 = a1_0) = true := by simpa using c5))
   (try (have c5b2 : (a0_0 == a1_0) = true := by simpa using c5))
   clear c5
   replace H := ub H; obtain ⟨⟨t689, t692⟩, A6, H⟩ := H
   (try dsimp only at H)
   replace H := ub H; obtain ⟨⟨t693, t694⟩, A7, H⟩ := H
   (try dsimp only at H)
   simp only [Option.some.injEq, Prod.mk.injEq] at H
   obtain ⟨rfl, rfl, rfl⟩ := H
   go_enter Try.func56, Try.ntmps56
   go_wp2_with (first | ((with_reducible refine gate_dst (N := 2) rfl ?_); refine box_event ?hg (N := 2) ?hd (cs := #[.bool a0_0, .slice A0_1 l0_1.length c0_1]) (t := 52) ?hr ?_; (case hd => rfl); (case hg => rfl); (case hr => first | (go_simp; done) | (go_simp; rfl)); intro gb682 hg w8 hbox hb; replace HO0_1 := Aside0.mk (Kd.V_below (Kd.V_elderB (uV HO0_1.out) gb682 (Nat.le_of_eq hg.symm)) hb); replace HO1_1 := Aside0.mk (Kd.V_below (Kd.V_elderB (uV HO1_1.out) gb682 (Nat.le_of_eq hg.symm)) hb); have BK682 := Aside0.mk (hbox); have GW682 := us hg; have GE682 := us hg; replace HB := uy hb; clear hb hbox hg) | ((with_reducible refine gate_dst (N := 3) rfl ?_); refine box_event ?hg (N := 3) ?hd (cs := #[.bool a1_0, .slice A1_1 l1_1.length c1_1]) (t := 52) ?hr ?_; (case hd => rfl); (case hg => rfl); (case hr => first | (go_simp; done) | (go_simp; rfl)); intro gb683 hg w9 hbox hb; replace HO0_1 := Aside0.mk (Kd.V_below (Kd.V_elderB (uV HO0_1.out) gb683 (Nat.le_of_eq hg.symm)) hb); replace HO1_1 := Aside0.mk (Kd.V_below (Kd.V_elderB (uV HO1_1.out) gb683 (Nat.le_of_eq hg.symm)) hb); have BK683 := Aside0.mk (hbox); have GW683 := us hg; have GE683 := us hg; replace HB := uy hb; have NB682_683 := Aside0.mk ((by rw [hg]; exact Nat.ne_of_lt (blk_lt (uK BK682.out)) : gb682 ≠ gb683)); have NB683_682 := Aside0.mk ((by rw [hg]; exact Nat.ne_of_gt (blk_lt (uK BK682.out)) : gb683 ≠ gb682)); replace BK682 := ux BK682 hb; clear hb hbox hg) | ((with_reducible refine gate_dst (N := 4) rfl ?_); refine box_event ?hg (N := 4) ?hd (cs := #[.bool false, .slice none 0 0]) (t := 52) ?hr ?_; (case hd => rfl); (case hg => rfl); (case hr => first | (go_simp; done) | (go_simp; rfl)); intro gb684 hg w10 hbox hb; replace HO0_1 := Aside0.mk (Kd.V_below (Kd.V_elderB (uV HO0_1.out) gb684 (Nat.le_of_eq hg.symm)) hb); replace HO1_1 := Aside0.mk (Kd.V_below (Kd.V_elderB (uV HO1_1.out) gb684 (Nat.le_of_eq hg.symm)) hb); have BK684 := Aside0.mk (hbox); have GW684 := us hg; have GE684 := us hg; replace HB := uy hb; have NB682_684 := Aside0.mk ((by rw [hg]; exact Nat.ne_of_lt (blk_lt (uK BK682.out)) : gb682 ≠ gb684)); have NB684_682 := Aside0.mk ((by rw [hg]; exact Nat.ne_of_gt (blk_lt (uK BK682.out)) : gb684 ≠ gb682)); replace BK682 := ux BK682 hb; have NB683_684 := Aside0.mk ((by rw [hg]; exact Nat.ne_of_lt (blk_lt (uK BK683.out)) : gb683 ≠ gb684)); have NB684_683 := Aside0.mk ((by rw [hg]; exact Nat.ne_of_gt (blk_lt (uK BK683.out)) : gb684 ≠ gb683)); replace BK683 := ux BK683 hb; clear hb hbox hg; have hnb11 := NB682_683.out; have hnc11 := NB683_682.out; have hnb12 := NB682_684.out; have hnc12 := NB684_682.out; have hcz13_0 : w10.cell? ⟨gb682, 0, none⟩ = some (.bool a0_0) := (blk_cell BK682.out 0).trans rfl; have hcz13_1 : w10.cell? ⟨gb682, 1, none⟩ = some (.slice A0_1 l0_1.length c0_1) := (blk_cell BK682.out 1).trans rfl; have hfz13_0 := blk_frozen BK682.out 0; have hfz13_1 := blk_frozen BK682.out 1; have hnb14 := NB683_684.out; have hnc14 := NB684_683.out; have hcz15_0 : w10.cell? ⟨gb683, 0, none⟩ = some (.bool a1_0) := (blk_cell BK683.out 0).trans rfl; have hcz15_1 : w10.cell? ⟨gb683, 1, none⟩ = some (.slice A1_1 l1_1.length c1_1) := (blk_cell BK683.out 1).trans rfl; have hfz15_0 := blk_frozen BK683.out 0; have hfz15_1 := blk_frozen BK683.out 1) | ((with_reducible refine gate_dst (N := 12) rfl ?_); refine Kd.N_lit k52 _ 52 ?hg (N' := 12) ?hd (xs := ([(⟨a0_0, l0_1⟩ : S52), (⟨a1_0, l1_1⟩ : S52)] : List (S52))) (inner := [.bool a0_0, .slice A0_1 l0_1.length c0_1, .bool a1_0, .slice A1_1 l1_1.length c1_1]) (ok := (fun k_ => ((P0_1_ k_ ∨ P1_1_ k_) ∨ w.heap.size ≤ k_) ∧ k_ ≠ gb682 ∧ k_ ≠ gb683 ∧ k_ ≠ gb684)) (okp := (fun k_ => ((P0_1_ k_ ∨ P1_1_ k_) ∨ w.heap.size ≤ k_) ∧ k_ ≠ gb682 ∧ k_ ≠ gb683 ∧ k_ ≠ gb684)) ?hr ?hp (fun _ hk => hk) ((show ∀ k_, w10.heap.size ≤ k_ → (fun k_ => ((P0_1_ k_ ∨ P1_1_ k_) ∨ w.heap.size ≤ k_) ∧ k_ ≠ gb682 ∧ k_ ≠ gb683 ∧ k_ ≠ gb684) k_ from fun k_ hk => ⟨(.inr (Nat.le_trans (below_size uB) hk)), Kd.freshB (g := gb682) (o := .cells #[.bool a0_0, .slice A0_1 l0_1.length c0_1] 52 (0, 0)) (uK BK682.out) k_ hk, Kd.freshB (g := gb683) (o := .cells #[.bool a1_0, .slice A1_1 l1_1.length c1_1] 52 (0, 0)) (uK BK683.out) k_ hk, Kd.freshB (g := gb684) (o := .cells #[.bool false, .slice none 0 0] 52 (0, 0)) (uK BK684.out) k_ hk⟩) _ (Nat.le_refl _)) (Below.refl _ _) (Nat.le_refl _) (by simp) ?_; (case hd => rfl); (case hg => rfl); (case hr => first | (go_simp; done) | (go_simp; rfl) | (go_simp; simp only [u64_u8]; done) | (go_simp; simp only [u64_u8]; rfl)); (case hp => exact (Reps.c2 (show Kd.FK k52 _ _ (⟨a0_0, l0_1⟩ : S52) [.bool a0_0, .slice A0_1 l0_1.length c0_1] from (k52_mkF _ _ (⟨a0_0, l0_1⟩ : S52) (Kd.V_reads' (Kd.V_mono (ok' := (fun k_ => ((P0_1_ k_ ∨ P1_1_ k_) ∨ w.heap.size ≤ k_) ∧ k_ ≠ gb682 ∧ k_ ≠ gb683 ∧ k_ ≠ gb684)) (HO0_1.out) (fun k_ hk => ⟨hk.1.1.1, ⟨hk.1.1.2, ⟨hk.1.2, hk.2⟩⟩⟩))).2.1 (Kd.V_F (Kd.V_mono (ok' := (fun k_ => ((P0_1_ k_ ∨ P1_1_ k_) ∨ w.heap.size ≤ k_) ∧ k_ ≠ gb682 ∧ k_ ≠ gb683 ∧ k_ ≠ gb684)) (HO0_1.out) (fun k_ hk => ⟨hk.1.1.1, ⟨hk.1.1.2, ⟨hk.1.2, hk.2⟩⟩⟩))))) (Reps.c2 (show Kd.FK k52 _ _ (⟨a1_0, l1_1⟩ : S52) [.bool a1_0, .slice A1_1 l1_1.length c1_1] from (k52_mkF _ _ (⟨a1_0, l1_1⟩ : S52) (Kd.V_reads' (Kd.V_mono (ok' := (fun k_ => ((P0_1_ k_ ∨ P1_1_ k_) ∨ w.heap.size ≤ k_) ∧ k_ ≠ gb682 ∧ k_ ≠ gb683 ∧ k_ ≠ gb684)) (HO1_1.out) (fun k_ hk => ⟨hk.1.1.1, ⟨hk.1.1.2, ⟨hk.1.2, hk.2⟩⟩⟩))).2.1 (Kd.V_F (Kd.V_mono (ok' := (fun k_ => ((P0_1_ k_ ∨ P1_1_ k_) ∨ w.heap.size ≤ k_) ∧ k_ ≠ gb682 ∧ k_ ≠ gb683 ∧ k_ ≠ gb684)) (HO1_1.out) (fun k_ hk => ⟨hk.1.1.1, ⟨hk.1.1.2, ⟨hk.1.2, hk.2⟩⟩⟩))))) (Reps.none _ _)))); intro v686 w16 ho17 hb hg_ hnew_; clear hg_ hnew_; (first | rw [← Ny685.out] at ho17 | (simp only [Int.reduceToNat] at ho17; rw [← Ny685.out] at ho17)); replace HO0_1 := Aside0.mk (Kd.V_elder' (uV HO0_1.out) (Kd.N_base ho17) hb); replace HO1_1 := Aside0.mk (Kd.V_elder' (uV HO1_1.out) (Kd.N_base ho17) hb); have HO687 := Aside0.mk (Kd.N_lower ho17 (below_size uB)); replace BK682 := ux BK682 hb; replace BK683 := ux BK683 hb; replace BK684 := ux BK684 hb; replace HB := uy hb; clear hb ho17; obtain ⟨Ao18, co18, eo18⟩ := Kd.N_slice HO687.out; subst eo18) | ((with_reducible refine gate_callee (f := 100) rfl ?_); refine goesL_ (some 13) rfl rfl Try.func100 (by kernel_rfl) rfl #[.slice Ao18 y685.length co18] rfl uM ?_; (with_reducible refine (modint_right.calls _ _ y685 true _ ?side1 ?side2 A3.out).mono ?_); (case side1 => exact uC (Kd.N_reads' HO687.out).2.2); (case side2 => exact (Kd.N_reads' HO687.out).2.1); rintro e w19 ⟨rfl, hb⟩; refine ⟨_, rfl, ?_⟩; replace HO0_1 := Aside0.mk (Kd.V_below (uV HO0_1.out) hb); replace HO1_1 := Aside0.mk (Kd.V_below (uV HO1_1.out) hb); replace HO687 := Aside0.mk (Kd.N_below (uN HO687.out) hb); replace BK682 := ux BK682 hb; replace BK683 := ux BK683 hb; replace BK684 := ux BK684 hb; replace HB := uy hb; (try clear hb); have hcz20_0 : w19.cell? ⟨gb682, 0, none⟩ = some (.bool a0_0) := (blk_cell BK682.out 0).trans rfl; have hcz20_1 : w19.cell? ⟨gb682, 1, none⟩ = some (.slice A0_1 l0_1.length c0_1) := (blk_cell BK682.out 1).trans rfl; have hfz20_0 := blk_frozen BK682.out 0; have hfz20_1 := blk_frozen BK682.out 1; have hcz21_0 : w19.cell? ⟨gb683, 0, none⟩ = some (.bool a1_0) := (blk_cell BK683.out 0).trans rfl; have hcz21_1 : w19.cell? ⟨gb683, 1, none⟩ = some (.slice A1_1 l1_1.length c1_1) := (blk_cell BK683.out 1).trans rfl; have hfz21_0 := blk_frozen BK683.out 0; have hfz21_1 := blk_frozen BK683.out 1) | ((with_reducible refine gate_callee (f := 81) rfl ?_); refine goesL_ (some 26) rfl rfl Try.func81 (by kernel_rfl) rfl #[.slice A0_1 l0_1.length c0_1, .slice A1_1 l1_1.length c1_1] rfl uM ?_; (with_reducible refine (nat_Add.calls k (fun k_ => ((((((P0_1_ k_ ∨ P1_1_ k_) ∨ w.heap.size ≤ k_) ∧ k_ ≠ gb682) ∧ k_ ≠ gb683) ∧ k_ ≠ gb684) ∧ some k_ ≠ (.slice Ao18 y685.length co18 : Value).ownBlock)) _ _ l0_1 (fun k_ => ((((((P0_1_ k_ ∨ P1_1_ k_) ∨ w.heap.size ≤ k_) ∧ k_ ≠ gb682) ∧ k_ ≠ gb683) ∧ k_ ≠ gb684) ∧ some k_ ≠ (.slice Ao18 y685.length co18 : Value).ownBlock)) _ _ l1_1 t689 t692 _ ?side1 ?side2 A6.out).mono ?_); (case side1 => exact HO0_1.out); (case side2 => exact HO1_1.out); rintro e w22 ⟨v690, rfl, ho0, hb⟩; refine ⟨_, rfl, ?_⟩; replace HO0_1 := ueV HO0_1 ho0 hb; replace HO1_1 := ueV HO1_1 ho0 hb; replace HO687 := ueN HO687 ho0 hb; have HO691 := Aside0.mk (Kd.R_lower (Kd.R_newM (M := fun k_ => (w.heap.size ≤ k_)) (Kd.R_mono (ok' := fun k_ => True) ho0 (fun _ hk_ => trivial)) (below_size uB) (fun k_ h_ => h_)) (below_size uB)); replace BK682 := ux BK682 hb; replace BK683 := ux BK683 hb; replace BK684 := ux BK684 hb; replace HB := uy hb; (try clear hb ho0); have hcz23_0 : w22.cell? ⟨gb682, 0, none⟩ = some (.bool a0_0) := (blk_cell BK682.out 0).trans rfl; have hcz23_1 : w22.cell? ⟨gb682, 1, none⟩ = some (.slice A0_1 l0_1.length c0_1) := (blk_cell BK682.out 1).trans rfl; have hfz23_0 := blk_frozen BK682.out 0; have hfz23_1 := blk_frozen BK682.out 1; obtain ⟨Ao24, co24, eo24⟩ := Kd.R_slice HO691.out; subst eo24) | ((with_reducible refine gate_callee (f := 83) rfl ?_); refine goesL_ (some 32) rfl rfl Try.func83 (by kernel_rfl) rfl #[.bool a0_0, .slice Ao24 t689.length co24] rfl uM ?_; (with_reducible refine (modint_From.calls a0_0 _ _ t689 t693 t694 _ ?side1 ?side2 A7.out).mono ?_); (case side1 => exact uC (Kd.R_reads' HO691.out).2.2); (case side2 => exact (Kd.R_reads' HO691.out).2.1); rintro e w25 ⟨v695, rfl, ho0, hb⟩; refine ⟨_, rfl, ?_⟩; replace HO0_1 := ueV HO0_1 ho0 hb; replace HO1_1 := ueV HO1_1 ho0 hb; replace HO687 := ueN HO687 ho0 hb; have HO696 := Aside0.mk (Kd.R_lower (Kd.R_new' (Kd.R_newM (M := fun k_ => (w.heap.size ≤ k_)) ho0 (below_size uB) (fun k_ h_ => h_)) (Kd.R_lt (uR HO691.out))) (below_size uB)); replace HO691 := ueR HO691 ho0 hb; replace BK682 := ux BK682 hb; replace BK683 := ux BK683 hb; replace BK684 := ux BK684 hb; replace HB := uy hb; (try clear hb ho0); have hcz26_0 : w25.cell? ⟨gb684, 0, none⟩ = some (.bool false) := (blk_cell BK684.out 0).trans rfl; have hcz26_1 : w25.cell? ⟨gb684, 1, none⟩ = some (.slice none 0 0) := (blk_cell BK684.out 1).trans rfl; have hfz26_0 := blk_frozen BK684.out 0; have hfz26_1 := blk_frozen BK684.out 1; obtain ⟨Ao27, co27, eo27⟩ := Kd.R_slice HO696.out; subst eo27))
   refine bodyPost_ret (results_ct rfl _ _ gb684 52 #[.bool t693, .slice Ao27 t694.length co27] (0, 0) _ rfl (by (with_reducible repeat (first | refine blk_drewN ?_ _ | refine blk_drew ?_ | refine blk_alloc ?_ _)); refine blk_put (cs := #[.bool t693, .slice none 0 0]) ?_ 1 _ rfl; (with_reducible repeat (first | refine blk_drewN ?_ _ | refine blk_drew ?_ | refine blk_alloc ?_ _)); refine blk_put (cs := #[.bool false, .slice none 0 0]) ?_ 0 _ rfl; (with_reducible repeat (first | refine blk_drewN ?_ _ | refine blk_drew ?_ | refine blk_alloc ?_ _)); exact BK684.out) Try.underlying52 rfl (by kernel_rfl)) rfl ?_
   exact ⟨_, uF, by (with_reducible repeat (first | apply Kd.R_alloc | apply Kd.R_drewN | apply Kd.R_drew)); exact Kd.R_mono (Kd.R_far (p := ⟨gb684, 1, none⟩) (Kd.R_far (p := ⟨gb684, 0, none⟩) (Kd.R_types HO696.out BK684.out (by decide)) (fun _ hk => hk.2) (.bool t693)) (fun _ hk => hk.2) (.slice Ao27 t694.length co27)) (fun _ hk => hk.1.1.1), uB⟩
  rw [if_neg c5] at H
  have c5b0 : (a0_0 == a1_0) = false := by simpa using c5
  (try (have c5b1 : decide (a0_0 = a1_0) = false := by simpa using c5))
  (try (have c5b2 : (a0_0 == a1_0) = false := by simpa using c5))
  (try (have c5b3 : ¬ (a0_0 = a1_0) := by simpa using c5))
  clear c5
  replace H := ub H; obtain ⟨t697, A28, H⟩ := H
  by_cases c29 : t697 < 0
  ·
   rw [if_pos c29] at H
   have c29b0 : decide (t697 < 0) = true := decide_eq_true c29
   clear c29
   replace H := ub H; obtain ⟨⟨t698, t701⟩, A30, H⟩ := H
   (try dsimp only at H)
   replace H := ub H; obtain ⟨⟨t702, t703⟩, A31, H⟩ := H
   (try dsimp only at H)
   simp only [Option.some.injEq, Prod.mk.injEq] at H
   obtain ⟨rfl, rfl, rfl⟩ := H
   go_enter Try.func56, Try.ntmps56
   go_wp2_with (first | ((with_reducible refine gate_dst (N := 2) rfl ?_); refine box_event ?hg (N := 2) ?hd (cs := #[.bool a0_0, .slice A0_1 l0_1.length c0_1]) (t := 52) ?hr ?_; (case hd => rfl); (case hg => rfl); (case hr => first | (go_simp; done) | (go_simp; rfl)); intro gb682 hg w32 hbox hb; replace HO0_1 := Aside0.mk (Kd.V_below (Kd.V_elderB (uV HO0_1.out) gb682 (Nat.le_of_eq hg.symm)) hb); replace HO1_1 := Aside0.mk (Kd.V_below (Kd.V_elderB (uV HO1_1.out) gb682 (Nat.le_of_eq hg.symm)) hb); have BK682 := Aside0.mk (hbox); have GW682 := us hg; have GE682 := us hg; replace HB := uy hb; clear hb hbox hg) | ((with_reducible refine gate_dst (N := 3) rfl ?_); refine box_event ?hg (N := 3) ?hd (cs := #[.bool a1_0, .slice A1_1 l1_1.length c1_1]) (t := 52) ?hr ?_; (case hd => rfl); (case hg => rfl); (case hr => first | (go_simp; done) | (go_simp; rfl)); intro gb683 hg w33 hbox hb; replace HO0_1 := Aside0.mk (Kd.V_below (Kd.V_elderB (uV HO0_1.out) gb683 (Nat.le_of_eq hg.symm)) hb); replace HO1_1 := Aside0.mk (Kd.V_below (Kd.V_elderB (uV HO1_1.out) gb683 (Nat.le_of_eq hg.symm)) hb); have BK683 := Aside0.mk (hbox); have GW683 := us hg; have GE683 := us hg; replace HB := uy hb; have NB682_683 := Aside0.mk ((by rw [hg]; exact Nat.ne_of_lt (blk_lt (uK BK682.out)) : gb682 ≠ gb683)); have NB683_682 := Aside0.mk ((by rw [hg]; exact Nat.ne_of_gt (blk_lt (uK BK682.out)) : gb683 ≠ gb682)); replace BK682 := ux BK682 hb; clear hb hbox hg) | ((with_reducible refine gate_dst (N := 4) rfl ?_); refine box_event ?hg (N := 4) ?hd (cs := #[.bool false, .slice none 0 0]) (t := 52) ?hr ?_; (case hd => rfl); (case hg => rfl); (case hr => first | (go_simp; done) | (go_simp; rfl)); intro gb684 hg w34 hbox hb; replace HO0_1 := Aside0.mk (Kd.V_below (Kd.V_elderB (uV HO0_1.out) gb684 (Nat.le_of_eq hg.symm)) hb); replace HO1_1 := Aside0.mk (Kd.V_below (Kd.V_elderB (uV HO1_1.out) gb684 (Nat.le_of_eq hg.symm)) hb); have BK684 := Aside0.mk (hbox); have GW684 := us hg; have GE684 := us hg; replace HB := uy hb; have NB682_684 := Aside0.mk ((by rw [hg]; exact Nat.ne_of_lt (blk_lt (uK BK682.out)) : gb682 ≠ gb684)); have NB684_682 := Aside0.mk ((by rw [hg]; exact Nat.ne_of_gt (blk_lt (uK BK682.out)) : gb684 ≠ gb682)); replace BK682 := ux BK682 hb; have NB683_684 := Aside0.mk ((by rw [hg]; exact Nat.ne_of_lt (blk_lt (uK BK683.out)) : gb683 ≠ gb684)); have NB684_683 := Aside0.mk ((by rw [hg]; exact Nat.ne_of_gt (blk_lt (uK BK683.out)) : gb684 ≠ gb683)); replace BK683 := ux BK683 hb; clear hb hbox hg; have hnb35 := NB682_683.out; have hnc35 := NB683_682.out; have hnb36 := NB682_684.out; have hnc36 := NB684_682.out; have hcz37_0 : w34.cell? ⟨gb682, 0, none⟩ = some (.bool a0_0) := (blk_cell BK682.out 0).trans rfl; have hcz37_1 : w34.cell? ⟨gb682, 1, none⟩ = some (.slice A0_1 l0_1.length c0_1) := (blk_cell BK682.out 1).trans rfl; have hfz37_0 := blk_frozen BK682.out 0; have hfz37_1 := blk_frozen BK682.out 1; have hnb38 := NB683_684.out; have hnc38 := NB684_683.out; have hcz39_0 : w34.cell? ⟨gb683, 0, none⟩ = some (.bool a1_0) := (blk_cell BK683.out 0).trans rfl; have hcz39_1 : w34.cell? ⟨gb683, 1, none⟩ = some (.slice A1_1 l1_1.length c1_1) := (blk_cell BK683.out 1).trans rfl; have hfz39_0 := blk_frozen BK683.out 0; have hfz39_1 := blk_frozen BK683.out 1) | ((with_reducible refine gate_dst (N := 12) rfl ?_); refine Kd.N_lit k52 _ 52 ?hg (N' := 12) ?hd (xs := ([(⟨a0_0, l0_1⟩ : S52), (⟨a1_0, l1_1⟩ : S52)] : List (S52))) (inner := [.bool a0_0, .slice A0_1 l0_1.length c0_1, .bool a1_0, .slice A1_1 l1_1.length c1_1]) (ok := (fun k_ => ((P0_1_ k_ ∨ P1_1_ k_) ∨ w.heap.size ≤ k_) ∧ k_ ≠ gb682 ∧ k_ ≠ gb683 ∧ k_ ≠ gb684)) (okp := (fun k_ => ((P0_1_ k_ ∨ P1_1_ k_) ∨ w.heap.size ≤ k_) ∧ k_ ≠ gb682 ∧ k_ ≠ gb683 ∧ k_ ≠ gb684)) ?hr ?hp (fun _ hk => hk) ((show ∀ k_, w34.heap.size ≤ k_ → (fun k_ => ((P0_1_ k_ ∨ P1_1_ k_) ∨ w.heap.size ≤ k_) ∧ k_ ≠ gb682 ∧ k_ ≠ gb683 ∧ k_ ≠ gb684) k_ from fun k_ hk => ⟨(.inr (Nat.le_trans (below_size uB) hk)), Kd.freshB (g := gb682) (o := .cells #[.bool a0_0, .slice A0_1 l0_1.length c0_1] 52 (0, 0)) (uK BK682.out) k_ hk, Kd.freshB (g := gb683) (o := .cells #[.bool a1_0, .slice A1_1 l1_1.length c1_1] 52 (0, 0)) (uK BK683.out) k_ hk, Kd.freshB (g := gb684) (o := .cells #[.bool false, .slice none 0 0] 52 (0, 0)) (uK BK684.out) k_ hk⟩) _ (Nat.le_refl _)) (Below.refl _ _) (Nat.le_refl _) (by simp) ?_; (case hd => rfl); (case hg => rfl); (case hr => first | (go_simp; done) | (go_simp; rfl) | (go_simp; simp only [u64_u8]; done) | (go_simp; simp only [u64_u8]; rfl)); (case hp => exact (Reps.c2 (show Kd.FK k52 _ _ (⟨a0_0, l0_1⟩ : S52) [.bool a0_0, .slice A0_1 l0_1.length c0_1] from (k52_mkF _ _ (⟨a0_0, l0_1⟩ : S52) (Kd.V_reads' (Kd.V_mono (ok' := (fun k_ => ((P0_1_ k_ ∨ P1_1_ k_) ∨ w.heap.size ≤ k_) ∧ k_ ≠ gb682 ∧ k_ ≠ gb683 ∧ k_ ≠ gb684)) (HO0_1.out) (fun k_ hk => ⟨hk.1.1.1, ⟨hk.1.1.2, ⟨hk.1.2, hk.2⟩⟩⟩))).2.1 (Kd.V_F (Kd.V_mono (ok' := (fun k_ => ((P0_1_ k_ ∨ P1_1_ k_) ∨ w.heap.size ≤ k_) ∧ k_ ≠ gb682 ∧ k_ ≠ gb683 ∧ k_ ≠ gb684)) (HO0_1.out) (fun k_ hk => ⟨hk.1.1.1, ⟨hk.1.1.2, ⟨hk.1.2, hk.2⟩⟩⟩))))) (Reps.c2 (show Kd.FK k52 _ _ (⟨a1_0, l1_1⟩ : S52) [.bool a1_0, .slice A1_1 l1_1.length c1_1] from (k52_mkF _ _ (⟨a1_0, l1_1⟩ : S52) (Kd.V_reads' (Kd.V_mono (ok' := (fun k_ => ((P0_1_ k_ ∨ P1_1_ k_) ∨ w.heap.size ≤ k_) ∧ k_ ≠ gb682 ∧ k_ ≠ gb683 ∧ k_ ≠ gb684)) (HO1_1.out) (fun k_ hk => ⟨hk.1.1.1, ⟨hk.1.1.2, ⟨hk.1.2, hk.2⟩⟩⟩))).2.1 (Kd.V_F (Kd.V_mono (ok' := (fun k_ => ((P0_1_ k_ ∨ P1_1_ k_) ∨ w.heap.size ≤ k_) ∧ k_ ≠ gb682 ∧ k_ ≠ gb683 ∧ k_ ≠ gb684)) (HO1_1.out) (fun k_ hk => ⟨hk.1.1.1, ⟨hk.1.1.2, ⟨hk.1.2, hk.2⟩⟩⟩))))) (Reps.none _ _)))); intro v686 w40 ho41 hb hg_ hnew_; clear hg_ hnew_; (first | rw [← Ny685.out] at ho41 | (simp only [Int.reduceToNat] at ho41; rw [← Ny685.out] at ho41)); replace HO0_1 := Aside0.mk (Kd.V_elder' (uV HO0_1.out) (Kd.N_base ho41) hb); replace HO1_1 := Aside0.mk (Kd.V_elder' (uV HO1_1.out) (Kd.N_base ho41) hb); have HO687 := Aside0.mk (Kd.N_lower ho41 (below_size uB)); replace BK682 := ux BK682 hb; replace BK683 := ux BK683 hb; replace BK684 := ux BK684 hb; replace HB := uy hb; clear hb ho41; obtain ⟨Ao42, co42, eo42⟩ := Kd.N_slice HO687.out; subst eo42) | ((with_reducible refine gate_callee (f := 100) rfl ?_); refine goesL_ (some 13) rfl rfl Try.func100 (by kernel_rfl) rfl #[.slice Ao42 y685.length co42] rfl uM ?_; (with_reducible refine (modint_right.calls _ _ y685 true _ ?side1 ?side2 A3.out).mono ?_); (case side1 => exact uC (Kd.N_reads' HO687.out).2.2); (case side2 => exact (Kd.N_reads' HO687.out).2.1); rintro e w43 ⟨rfl, hb⟩; refine ⟨_, rfl, ?_⟩; replace HO0_1 := Aside0.mk (Kd.V_below (uV HO0_1.out) hb); replace HO1_1 := Aside0.mk (Kd.V_below (uV HO1_1.out) hb); replace HO687 := Aside0.mk (Kd.N_below (uN HO687.out) hb); replace BK682 := ux BK682 hb; replace BK683 := ux BK683 hb; replace BK684 := ux BK684 hb; replace HB := uy hb; (try clear hb); have hcz44_0 : w43.cell? ⟨gb682, 0, none⟩ = some (.bool a0_0) := (blk_cell BK682.out 0).trans rfl; have hcz44_1 : w43.cell? ⟨gb682, 1, none⟩ = some (.slice A0_1 l0_1.length c0_1) := (blk_cell BK682.out 1).trans rfl; have hfz44_0 := blk_frozen BK682.out 0; have hfz44_1 := blk_frozen BK682.out 1; have hcz45_0 : w43.cell? ⟨gb683, 0, none⟩ = some (.bool a1_0) := (blk_cell BK683.out 0).trans rfl; have hcz45_1 : w43.cell? ⟨gb683, 1, none⟩ = some (.slice A1_1 l1_1.length c1_1) := (blk_cell BK683.out 1).trans rfl; have hfz45_0 := blk_frozen BK683.out 0; have hfz45_1 := blk_frozen BK683.out 1) | ((with_reducible refine gate_callee (f := 82) rfl ?_); refine goesL_ (some 38) rfl rfl Try.func82 (by kernel_rfl) rfl #[.slice A0_1 l0_1.length c0_1, .slice A1_1 l1_1.length c1_1] rfl uM ?_; (with_reducible refine (nat_Cmp.calls k (fun k_ => ((((((P0_1_ k_ ∨ P1_1_ k_) ∨ w.heap.size ≤ k_) ∧ k_ ≠ gb682) ∧ k_ ≠ gb683) ∧ k_ ≠ gb684) ∧ some k_ ≠ (.slice Ao42 y685.length co42 : Value).ownBlock)) _ _ l0_1 (fun k_ => ((((((P0_1_ k_ ∨ P1_1_ k_) ∨ w.heap.size ≤ k_) ∧ k_ ≠ gb682) ∧ k_ ≠ gb683) ∧ k_ ≠ gb684) ∧ some k_ ≠ (.slice Ao42 y685.length co42 : Value).ownBlock)) _ _ l1_1 t697 _ ?side1 ?side2 A28.out).mono ?_); (case side1 => exact HO0_1.out); (case side2 => exact HO1_1.out); rintro e w46 ⟨rfl, hb⟩; refine ⟨_, rfl, ?_⟩; replace HO0_1 := Aside0.mk (Kd.V_below (uV HO0_1.out) hb); replace HO1_1 := Aside0.mk (Kd.V_below (uV HO1_1.out) hb); replace HO687 := Aside0.mk (Kd.N_below (uN HO687.out) hb); replace BK682 := ux BK682 hb; replace BK683 := ux BK683 hb; replace BK684 := ux BK684 hb; replace HB := uy hb; (try clear hb); have hcz47_0 : w46.cell? ⟨gb683, 0, none⟩ = some (.bool a1_0) := (blk_cell BK683.out 0).trans rfl; have hcz47_1 : w46.cell? ⟨gb683, 1, none⟩ = some (.slice A1_1 l1_1.length c1_1) := (blk_cell BK683.out 1).trans rfl; have hfz47_0 := blk_frozen BK683.out 0; have hfz47_1 := blk_frozen BK683.out 1; have hcz48_0 : w46.cell? ⟨gb682, 0, none⟩ = some (.bool a0_0) := (blk_cell BK682.out 0).trans rfl; have hcz48_1 : w46.cell? ⟨gb682, 1, none⟩ = some (.slice A0_1 l0_1.length c0_1) := (blk_cell BK682.out 1).trans rfl; have hfz48_0 := blk_frozen BK682.out 0; have hfz48_1 := blk_frozen BK682.out 1) | ((with_reducible refine gate_store (t := 52) (p := 2) rfl ?_); refine store_event (t := 52) (p := 2) (v := ?vo_w49) (w1 := ((w46.setCell ⟨gb682, 0, none⟩ (.bool a1_0)).setCell ⟨gb682, 1, none⟩ (.slice A1_1 l1_1.length c1_1))) ?hg ?ho ?hn ?hr ?_; (case ho => rfl); (case hg => rfl); (case hn => rfl); (case hr => first | (go_simp; done) | (go_simp; rfl)); intro w49 hw; replace HO0_1 : Aside0 (Kd.V (Kd.int .u64) 27 w49 w.heap.size (fun k_ => ((P0_1_ k_ ∨ P1_1_ k_) ∨ w.heap.size ≤ k_) ∧ some k_ ≠ (.slice Ao42 y685.length co42 : Value).ownBlock ∧ k_ ≠ gb682 ∧ k_ ≠ gb683 ∧ k_ ≠ gb684) (.slice A0_1 l0_1.length c0_1) l0_1) := ⟨(by rw [hw]; exact (uV (Kd.V_mono (Kd.V_far (p := ⟨gb682, 1, none⟩) (Kd.V_far (p := ⟨gb682, 0, none⟩) (Kd.V_mono HO0_1.out (fun k_ hk => (⟨hk, hk.1.1.1.2⟩ : _ ∧ k_ ≠ gb682))) (fun _ hk => hk.2) (.bool a1_0)) (fun _ hk => hk.2) (.slice A1_1 l1_1.length c1_1)) (fun _ hk => ⟨hk.1.1.1.1.1, ⟨hk.1.2, ⟨hk.1.1.1.1.2, ⟨hk.1.1.1.2, hk.1.1.2⟩⟩⟩⟩))))⟩; replace HO1_1 : Aside0 (Kd.V (Kd.int .u64) 27 w49 w.heap.size (fun k_ => ((P0_1_ k_ ∨ P1_1_ k_) ∨ w.heap.size ≤ k_) ∧ some k_ ≠ (.slice Ao42 y685.length co42 : Value).ownBlock ∧ k_ ≠ gb682 ∧ k_ ≠ gb683 ∧ k_ ≠ gb684) (.slice A1_1 l1_1.length c1_1) l1_1) := ⟨(by rw [hw]; exact (uV (Kd.V_mono (Kd.V_far (p := ⟨gb682, 1, none⟩) (Kd.V_far (p := ⟨gb682, 0, none⟩) (Kd.V_mono HO1_1.out (fun k_ hk => (⟨hk, hk.1.1.1.2⟩ : _ ∧ k_ ≠ gb682))) (fun _ hk => hk.2) (.bool a1_0)) (fun _ hk => hk.2) (.slice A1_1 l1_1.length c1_1)) (fun _ hk => ⟨hk.1.1.1.1.1, ⟨hk.1.2, ⟨hk.1.1.1.1.2, ⟨hk.1.1.1.2, hk.1.1.2⟩⟩⟩⟩))))⟩; replace HO687 : Aside0 (Kd.N k52 52 w49 w.heap.size (fun k_ => ((P0_1_ k_ ∨ P1_1_ k_) ∨ w.heap.size ≤ k_) ∧ k_ ≠ gb682 ∧ k_ ≠ gb683 ∧ k_ ≠ gb684) (.slice Ao42 y685.length co42) y685) := ⟨(by rw [hw]; exact (uN (Kd.N_mono (Kd.N_far (p := ⟨gb682, 1, none⟩) (Kd.N_far (p := ⟨gb682, 0, none⟩) (Kd.N_mono HO687.out (fun k_ hk => (⟨hk, hk.2.1⟩ : _ ∧ k_ ≠ gb682))) (fun _ hk => hk.2) (.bool a1_0)) (fun _ hk => hk.2) (.slice A1_1 l1_1.length c1_1)) (fun _ hk => ⟨hk.1.1, ⟨hk.1.2.1, ⟨hk.1.2.2.1, hk.1.2.2.2⟩⟩⟩))))⟩; replace BK682 : Aside0 (w49.heap[gb682]? = some (.cells #[.bool a1_0, .slice A1_1 l1_1.length c1_1] 52 (0, 0))) := ⟨(by rw [hw]; exact (by (with_reducible repeat (first | refine blk_drewN ?_ _ | refine blk_drew ?_ | refine blk_alloc ?_ _)); refine blk_put (cs := #[.bool a1_0, .slice A0_1 l0_1.length c0_1]) ?_ 1 _ rfl; (with_reducible repeat (first | refine blk_drewN ?_ _ | refine blk_drew ?_ | refine blk_alloc ?_ _)); refine blk_put (cs := #[.bool a0_0, .slice A0_1 l0_1.length c0_1]) ?_ 0 _ rfl; (with_reducible repeat (first | refine blk_drewN ?_ _ | refine blk_drew ?_ | refine blk_alloc ?_ _)); exact BK682.out))⟩; replace BK683 : Aside0 (w49.heap[gb683]? = some (.cells #[.bool a1_0, .slice A1_1 l1_1.length c1_1] 52 (0, 0))) := ⟨(by rw [hw]; exact (by (with_reducible repeat (first | refine blk_drewN ?_ _ | refine blk_drew ?_ | refine blk_alloc ?_ _)); refine blk_far ?_ NB683_682.out _; (with_reducible repeat (first | refine blk_drewN ?_ _ | refine blk_drew ?_ | refine blk_alloc ?_ _)); refine blk_far ?_ NB683_682.out _; (with_reducible repeat (first | refine blk_drewN ?_ _ | refine blk_drew ?_ | refine blk_alloc ?_ _)); exact BK683.out))⟩; replace BK684 : Aside0 (w49.heap[gb684]? = some (.cells #[.bool false, .slice none 0 0] 52 (0, 0))) := ⟨(by rw [hw]; exact (by (with_reducible repeat (first | refine blk_drewN ?_ _ | refine blk_drew ?_ | refine blk_alloc ?_ _)); refine blk_far ?_ NB684_682.out _; (with_reducible repeat (first | refine blk_drewN ?_ _ | refine blk_drew ?_ | refine blk_alloc ?_ _)); refine blk_far ?_ NB684_682.out _; (with_reducible repeat (first | refine blk_drewN ?_ _ | refine blk_drew ?_ | refine blk_alloc ?_ _)); exact BK684.out))⟩; replace HB : Aside0 (Below w.heap.size w w49) := ⟨(by rw [hw]; exact uB)⟩; clear hw; have hcz50_0 : w49.cell? ⟨gb683, 0, none⟩ = some (.bool a1_0) := (blk_cell BK683.out 0).trans rfl; have hcz50_1 : w49.cell? ⟨gb683, 1, none⟩ = some (.slice A1_1 l1_1.length c1_1) := (blk_cell BK683.out 1).trans rfl; have hfz50_0 := blk_frozen BK683.out 0; have hfz50_1 := blk_frozen BK683.out 1) | ((with_reducible refine gate_store (t := 52) (p := 3) rfl ?_); refine store_event (t := 52) (p := 3) (v := ?vo_w51) (w1 := ((w49.setCell ⟨gb683, 0, none⟩ (.bool a0_0)).setCell ⟨gb683, 1, none⟩ (.slice A0_1 l0_1.length c0_1))) ?hg ?ho ?hn ?hr ?_; (case ho => rfl); (case hg => rfl); (case hn => rfl); (case hr => first | (go_simp; done) | (go_simp; rfl)); intro w51 hw; replace HO0_1 : Aside0 (Kd.V (Kd.int .u64) 27 w51 w.heap.size (fun k_ => ((P0_1_ k_ ∨ P1_1_ k_) ∨ w.heap.size ≤ k_) ∧ some k_ ≠ (.slice Ao42 y685.length co42 : Value).ownBlock ∧ k_ ≠ gb682 ∧ k_ ≠ gb683 ∧ k_ ≠ gb684) (.slice A0_1 l0_1.length c0_1) l0_1) := ⟨(by rw [hw]; exact (uV (Kd.V_mono (Kd.V_far (p := ⟨gb683, 1, none⟩) (Kd.V_far (p := ⟨gb683, 0, none⟩) (Kd.V_mono HO0_1.out (fun k_ hk => (⟨hk, hk.2.2.2.1⟩ : _ ∧ k_ ≠ gb683))) (fun _ hk => hk.2) (.bool a0_0)) (fun _ hk => hk.2) (.slice A0_1 l0_1.length c0_1)) (fun _ hk => ⟨hk.1.1, ⟨hk.1.2.1, ⟨hk.1.2.2.1, ⟨hk.1.2.2.2.1, hk.1.2.2.2.2⟩⟩⟩⟩))))⟩; replace HO1_1 : Aside0 (Kd.V (Kd.int .u64) 27 w51 w.heap.size (fun k_ => ((P0_1_ k_ ∨ P1_1_ k_) ∨ w.heap.size ≤ k_) ∧ some k_ ≠ (.slice Ao42 y685.length co42 : Value).ownBlock ∧ k_ ≠ gb682 ∧ k_ ≠ gb683 ∧ k_ ≠ gb684) (.slice A1_1 l1_1.length c1_1) l1_1) := ⟨(by rw [hw]; exact (uV (Kd.V_mono (Kd.V_far (p := ⟨gb683, 1, none⟩) (Kd.V_far (p := ⟨gb683, 0, none⟩) (Kd.V_mono HO1_1.out (fun k_ hk => (⟨hk, hk.2.2.2.1⟩ : _ ∧ k_ ≠ gb683))) (fun _ hk => hk.2) (.bool a0_0)) (fun _ hk => hk.2) (.slice A0_1 l0_1.length c0_1)) (fun _ hk => ⟨hk.1.1, ⟨hk.1.2.1, ⟨hk.1.2.2.1, ⟨hk.1.2.2.2.1, hk.1.2.2.2.2⟩⟩⟩⟩))))⟩; replace HO687 : Aside0 (Kd.N k52 52 w51 w.heap.size (fun k_ => ((P0_1_ k_ ∨ P1_1_ k_) ∨ w.heap.size ≤ k_) ∧ k_ ≠ gb682 ∧ k_ ≠ gb683 ∧ k_ ≠ gb684) (.slice Ao42 y685.length co42) y685) := ⟨(by rw [hw]; exact (uN (Kd.N_mono (Kd.N_far (p := ⟨gb683, 1, none⟩) (Kd.N_far (p := ⟨gb683, 0, none⟩) (Kd.N_mono HO687.out (fun k_ hk => (⟨hk, hk.2.2.1⟩ : _ ∧ k_ ≠ gb683))) (fun _ hk => hk.2) (.bool a0_0)) (fun _ hk => hk.2) (.slice A0_1 l0_1.length c0_1)) (fun _ hk => ⟨hk.1.1, ⟨hk.1.2.1, ⟨hk.1.2.2.1, hk.1.2.2.2⟩⟩⟩))))⟩; replace BK682 : Aside0 (w51.heap[gb682]? = some (.cells #[.bool a1_0, .slice A1_1 l1_1.length c1_1] 52 (0, 0))) := ⟨(by rw [hw]; exact (by (with_reducible repeat (first | refine blk_drewN ?_ _ | refine blk_drew ?_ | refine blk_alloc ?_ _)); refine blk_far ?_ NB682_683.out _; (with_reducible repeat (first | refine blk_drewN ?_ _ | refine blk_drew ?_ | refine blk_alloc ?_ _)); refine blk_far ?_ NB682_683.out _; (with_reducible repeat (first | refine blk_drewN ?_ _ | refine blk_drew ?_ | refine blk_alloc ?_ _)); exact BK682.out))⟩; replace BK683 : Aside0 (w51.heap[gb683]? = some (.cells #[.bool a0_0, .slice A0_1 l0_1.length c0_1] 52 (0, 0))) := ⟨(by rw [hw]; exact (by (with_reducible repeat (first | refine blk_drewN ?_ _ | refine blk_drew ?_ | refine blk_alloc ?_ _)); refine blk_put (cs := #[.bool a0_0, .slice A1_1 l1_1.length c1_1]) ?_ 1 _ rfl; (with_reducible repeat (first | refine blk_drewN ?_ _ | refine blk_drew ?_ | refine blk_alloc ?_ _)); refine blk_put (cs := #[.bool a1_0, .slice A1_1 l1_1.length c1_1]) ?_ 0 _ rfl; (with_reducible repeat (first | refine blk_drewN ?_ _ | refine blk_drew ?_ | refine blk_alloc ?_ _)); exact BK683.out))⟩; replace BK684 : Aside0 (w51.heap[gb684]? = some (.cells #[.bool false, .slice none 0 0] 52 (0, 0))) := ⟨(by rw [hw]; exact (by (with_reducible repeat (first | refine blk_drewN ?_ _ | refine blk_drew ?_ | refine blk_alloc ?_ _)); refine blk_far ?_ NB684_683.out _; (with_reducible repeat (first | refine blk_drewN ?_ _ | refine blk_drew ?_ | refine blk_alloc ?_ _)); refine blk_far ?_ NB684_683.out _; (with_reducible repeat (first | refine blk_drewN ?_ _ | refine blk_drew ?_ | refine blk_alloc ?_ _)); exact BK684.out))⟩; replace HB : Aside0 (Below w.heap.size w w51) := ⟨(by rw [hw]; exact uB)⟩; clear hw; have hcz52_0 : w51.cell? ⟨gb682, 0, none⟩ = some (.bool a1_0) := (blk_cell BK682.out 0).trans rfl; have hcz52_1 : w51.cell? ⟨gb682, 1, none⟩ = some (.slice A1_1 l1_1.length c1_1) := (blk_cell BK682.out 1).trans rfl; have hfz52_0 := blk_frozen BK682.out 0; have hfz52_1 := blk_frozen BK682.out 1; have hcz53_0 : w51.cell? ⟨gb683, 0, none⟩ = some (.bool a0_0) := (blk_cell BK683.out 0).trans rfl; have hcz53_1 : w51.cell? ⟨gb683, 1, none⟩ = some (.slice A0_1 l0_1.length c0_1) := (blk_cell BK683.out 1).trans rfl; have hfz53_0 := blk_frozen BK683.out 0; have hfz53_1 := blk_frozen BK683.out 1) | ((with_reducible refine gate_callee (f := 80) rfl ?_); refine goesL_ (some 47) rfl rfl Try.func80 (by kernel_rfl) rfl #[.slice A1_1 l1_1.length c1_1, .slice A0_1 l0_1.length c0_1] rfl uM ?_; (with_reducible refine (nat_Sub.calls k (fun k_ => (((P0_1_ k_ ∨ P1_1_ k_) ∨ w.heap.size ≤ k_) ∧ (some k_ ≠ (.slice Ao42 y685.length co42 : Value).ownBlock ∧ (k_ ≠ gb682 ∧ (k_ ≠ gb683 ∧ k_ ≠ gb684))))) _ _ l1_1 (fun k_ => (((P0_1_ k_ ∨ P1_1_ k_) ∨ w.heap.size ≤ k_) ∧ (some k_ ≠ (.slice Ao42 y685.length co42 : Value).ownBlock ∧ (k_ ≠ gb682 ∧ (k_ ≠ gb683 ∧ k_ ≠ gb684))))) _ _ l0_1 t698 t701 _ ?side1 ?side2 A30.out).mono ?_); (case side1 => exact HO1_1.out); (case side2 => exact HO0_1.out); rintro e w54 ⟨v699, rfl, ho0, hb⟩; refine ⟨_, rfl, ?_⟩; replace HO0_1 := ueV HO0_1 ho0 hb; replace HO1_1 := ueV HO1_1 ho0 hb; replace HO687 := ueN HO687 ho0 hb; have HO700 := Aside0.mk (Kd.R_lower (Kd.R_newM (M := fun k_ => (w.heap.size ≤ k_)) (Kd.R_mono (ok' := fun k_ => True) ho0 (fun _ hk_ => trivial)) (below_size uB) (fun k_ h_ => h_)) (below_size uB)); replace BK682 := ux BK682 hb; replace BK683 := ux BK683 hb; replace BK684 := ux BK684 hb; replace HB := uy hb; (try clear hb ho0); have hcz55_0 : w54.cell? ⟨gb682, 0, none⟩ = some (.bool a1_0) := (blk_cell BK682.out 0).trans rfl; have hcz55_1 : w54.cell? ⟨gb682, 1, none⟩ = some (.slice A1_1 l1_1.length c1_1) := (blk_cell BK682.out 1).trans rfl; have hfz55_0 := blk_frozen BK682.out 0; have hfz55_1 := blk_frozen BK682.out 1; obtain ⟨Ao56, co56, eo56⟩ := Kd.R_slice HO700.out; subst eo56) | ((with_reducible refine gate_callee (f := 83) rfl ?_); refine goesL_ (some 53) rfl rfl Try.func83 (by kernel_rfl) rfl #[.bool a1_0, .slice Ao56 t698.length co56] rfl uM ?_; (with_reducible refine (modint_From.calls a1_0 _ _ t698 t702 t703 _ ?side1 ?side2 A31.out).mono ?_); (case side1 => exact uC (Kd.R_reads' HO700.out).2.2); (case side2 => exact (Kd.R_reads' HO700.out).2.1); rintro e w57 ⟨v704, rfl, ho0, hb⟩; refine ⟨_, rfl, ?_⟩; replace HO0_1 := ueV HO0_1 ho0 hb; replace HO1_1 := ueV HO1_1 ho0 hb; replace HO687 := ueN HO687 ho0 hb; have HO705 := Aside0.mk (Kd.R_lower (Kd.R_new' (Kd.R_newM (M := fun k_ => (w.heap.size ≤ k_)) ho0 (below_size uB) (fun k_ h_ => h_)) (Kd.R_lt (uR HO700.out))) (below_size uB)); replace HO700 := ueR HO700 ho0 hb; replace BK682 := ux BK682 hb; replace BK683 := ux BK683 hb; replace BK684 := ux BK684 hb; replace HB := uy hb; (try clear hb ho0); have hcz58_0 : w57.cell? ⟨gb684, 0, none⟩ = some (.bool false) := (blk_cell BK684.out 0).trans rfl; have hcz58_1 : w57.cell? ⟨gb684, 1, none⟩ = some (.slice none 0 0) := (blk_cell BK684.out 1).trans rfl; have hfz58_0 := blk_frozen BK684.out 0; have hfz58_1 := blk_frozen BK684.out 1; obtain ⟨Ao59, co59, eo59⟩ := Kd.R_slice HO705.out; subst eo59))
   refine bodyPost_ret (results_ct rfl _ _ gb684 52 #[.bool t702, .slice Ao59 t703.length co59] (0, 0) _ rfl (by (with_reducible repeat (first | refine blk_drewN ?_ _ | refine blk_drew ?_ | refine blk_alloc ?_ _)); refine blk_put (cs := #[.bool t702, .slice none 0 0]) ?_ 1 _ rfl; (with_reducible repeat (first | refine blk_drewN ?_ _ | refine blk_drew ?_ | refine blk_alloc ?_ _)); refine blk_put (cs := #[.bool false, .slice none 0 0]) ?_ 0 _ rfl; (with_reducible repeat (first | refine blk_drewN ?_ _ | refine blk_drew ?_ | refine blk_alloc ?_ _)); exact BK684.out) Try.underlying52 rfl (by kernel_rfl)) rfl ?_
   exact ⟨_, uF, by (with_reducible repeat (first | apply Kd.R_alloc | apply Kd.R_drewN | apply Kd.R_drew)); exact Kd.R_mono (Kd.R_far (p := ⟨gb684, 1, none⟩) (Kd.R_far (p := ⟨gb684, 0, none⟩) (Kd.R_types HO705.out BK684.out (by decide)) (fun _ hk => hk.2) (.bool t702)) (fun _ hk => hk.2) (.slice Ao59 t703.length co59)) (fun _ hk => hk.1.1.1), uB⟩
  rw [if_neg c29] at H
  have c29b0 : decide (t697 < 0) = false := decide_eq_false c29
  clear c29
  replace H := ub H; obtain ⟨⟨t706, t709⟩, A60, H⟩ := H
  (try dsimp only at H)
  replace H := ub H; obtain ⟨⟨t710, t711⟩, A61, H⟩ := H
  (try dsimp only at H)
  simp only [Option.some.injEq, Prod.mk.injEq] at H
  obtain ⟨rfl, rfl, rfl⟩ := H
  go_enter Try.func56, Try.ntmps56
  go_wp2_with (first | ((with_reducible refine gate_dst (N := 2) rfl ?_); refine box_event ?hg (N := 2) ?hd (cs := #[.bool a0_0, .slice A0_1 l0_1.length c0_1]) (t := 52) ?hr ?_; (case hd => rfl); (case hg => rfl); (case hr => first | (go_simp; done) | (go_simp; rfl)); intro gb682 hg w62 hbox hb; replace HO0_1 := Aside0.mk (Kd.V_below (Kd.V_elderB (uV HO0_1.out) gb682 (Nat.le_of_eq hg.symm)) hb); replace HO1_1 := Aside0.mk (Kd.V_below (Kd.V_elderB (uV HO1_1.out) gb682 (Nat.le_of_eq hg.symm)) hb); have BK682 := Aside0.mk (hbox); have GW682 := us hg; have GE682 := us hg; replace HB := uy hb; clear hb hbox hg) | ((with_reducible refine gate_dst (N := 3) rfl ?_); refine box_event ?hg (N := 3) ?hd (cs := #[.bool a1_0, .slice A1_1 l1_1.length c1_1]) (t := 52) ?hr ?_; (case hd => rfl); (case hg => rfl); (case hr => first | (go_simp; done) | (go_simp; rfl)); intro gb683 hg w63 hbox hb; replace HO0_1 := Aside0.mk (Kd.V_below (Kd.V_elderB (uV HO0_1.out) gb683 (Nat.le_of_eq hg.symm)) hb); replace HO1_1 := Aside0.mk (Kd.V_below (Kd.V_elderB (uV HO1_1.out) gb683 (Nat.le_of_eq hg.symm)) hb); have BK683 := Aside0.mk (hbox); have GW683 := us hg; have GE683 := us hg; replace HB := uy hb; have NB682_683 := Aside0.mk ((by rw [hg]; exact Nat.ne_of_lt (blk_lt (uK BK682.out)) : gb682 ≠ gb683)); have NB683_682 := Aside0.mk ((by rw [hg]; exact Nat.ne_of_gt (blk_lt (uK BK682.out)) : gb683 ≠ gb682)); replace BK682 := ux BK682 hb; clear hb hbox hg) | ((with_reducible refine gate_dst (N := 4) rfl ?_); refine box_event ?hg (N := 4) ?hd (cs := #[.bool false, .slice none 0 0]) (t := 52) ?hr ?_; (case hd => rfl); (case hg => rfl); (case hr => first | (go_simp; done) | (go_simp; rfl)); intro gb684 hg w64 hbox hb; replace HO0_1 := Aside0.mk (Kd.V_below (Kd.V_elderB (uV HO0_1.out) gb684 (Nat.le_of_eq hg.symm)) hb); replace HO1_1 := Aside0.mk (Kd.V_below (Kd.V_elderB (uV HO1_1.out) gb684 (Nat.le_of_eq hg.symm)) hb); have BK684 := Aside0.mk (hbox); have GW684 := us hg; have GE684 := us hg; replace HB := uy hb; have NB682_684 := Aside0.mk ((by rw [hg]; exact Nat.ne_of_lt (blk_lt (uK BK682.out)) : gb682 ≠ gb684)); have NB684_682 := Aside0.mk ((by rw [hg]; exact Nat.ne_of_gt (blk_lt (uK BK682.out)) : gb684 ≠ gb682)); replace BK682 := ux BK682 hb; have NB683_684 := Aside0.mk ((by rw [hg]; exact Nat.ne_of_lt (blk_lt (uK BK683.out)) : gb683 ≠ gb684)); have NB684_683 := Aside0.mk ((by rw [hg]; exact Nat.ne_of_gt (blk_lt (uK BK683.out)) : gb684 ≠ gb683)); replace BK683 := ux BK683 hb; clear hb hbox hg; have hnb65 := NB682_683.out; have hnc65 := NB683_682.out; have hnb66 := NB682_684.out; have hnc66 := NB684_682.out; have hcz67_0 : w64.cell? ⟨gb682, 0, none⟩ = some (.bool a0_0) := (blk_cell BK682.out 0).trans rfl; have hcz67_1 : w64.cell? ⟨gb682, 1, none⟩ = some (.slice A0_1 l0_1.length c0_1) := (blk_cell BK682.out 1).trans rfl; have hfz67_0 := blk_frozen BK682.out 0; have hfz67_1 := blk_frozen BK682.out 1; have hnb68 := NB683_684.out; have hnc68 := NB684_683.out; have hcz69_0 : w64.cell? ⟨gb683, 0, none⟩ = some (.bool a1_0) := (blk_cell BK683.out 0).trans rfl; have hcz69_1 : w64.cell? ⟨gb683, 1, none⟩ = some (.slice A1_1 l1_1.length c1_1) := (blk_cell BK683.out 1).trans rfl; have hfz69_0 := blk_frozen BK683.out 0; have hfz69_1 := blk_frozen BK683.out 1) | ((with_reducible refine gate_dst (N := 12) rfl ?_); refine Kd.N_lit k52 _ 52 ?hg (N' := 12) ?hd (xs := ([(⟨a0_0, l0_1⟩ : S52), (⟨a1_0, l1_1⟩ : S52)] : List (S52))) (inner := [.bool a0_0, .slice A0_1 l0_1.length c0_1, .bool a1_0, .slice A1_1 l1_1.length c1_1]) (ok := (fun k_ => ((P0_1_ k_ ∨ P1_1_ k_) ∨ w.heap.size ≤ k_) ∧ k_ ≠ gb682 ∧ k_ ≠ gb683 ∧ k_ ≠ gb684)) (okp := (fun k_ => ((P0_1_ k_ ∨ P1_1_ k_) ∨ w.heap.size ≤ k_) ∧ k_ ≠ gb682 ∧ k_ ≠ gb683 ∧ k_ ≠ gb684)) ?hr ?hp (fun _ hk => hk) ((show ∀ k_, w64.heap.size ≤ k_ → (fun k_ => ((P0_1_ k_ ∨ P1_1_ k_) ∨ w.heap.size ≤ k_) ∧ k_ ≠ gb682 ∧ k_ ≠ gb683 ∧ k_ ≠ gb684) k_ from fun k_ hk => ⟨(.inr (Nat.le_trans (below_size uB) hk)), Kd.freshB (g := gb682) (o := .cells #[.bool a0_0, .slice A0_1 l0_1.length c0_1] 52 (0, 0)) (uK BK682.out) k_ hk, Kd.freshB (g := gb683) (o := .cells #[.bool a1_0, .slice A1_1 l1_1.length c1_1] 52 (0, 0)) (uK BK683.out) k_ hk, Kd.freshB (g := gb684) (o := .cells #[.bool false, .slice none 0 0] 52 (0, 0)) (uK BK684.out) k_ hk⟩) _ (Nat.le_refl _)) (Below.refl _ _) (Nat.le_refl _) (by simp) ?_; (case hd => rfl); (case hg => rfl); (case hr => first | (go_simp; done) | (go_simp; rfl) | (go_simp; simp only [u64_u8]; done) | (go_simp; simp only [u64_u8]; rfl)); (case hp => exact (Reps.c2 (show Kd.FK k52 _ _ (⟨a0_0, l0_1⟩ : S52) [.bool a0_0, .slice A0_1 l0_1.length c0_1] from (k52_mkF _ _ (⟨a0_0, l0_1⟩ : S52) (Kd.V_reads' (Kd.V_mono (ok' := (fun k_ => ((P0_1_ k_ ∨ P1_1_ k_) ∨ w.heap.size ≤ k_) ∧ k_ ≠ gb682 ∧ k_ ≠ gb683 ∧ k_ ≠ gb684)) (HO0_1.out) (fun k_ hk => ⟨hk.1.1.1, ⟨hk.1.1.2, ⟨hk.1.2, hk.2⟩⟩⟩))).2.1 (Kd.V_F (Kd.V_mono (ok' := (fun k_ => ((P0_1_ k_ ∨ P1_1_ k_) ∨ w.heap.size ≤ k_) ∧ k_ ≠ gb682 ∧ k_ ≠ gb683 ∧ k_ ≠ gb684)) (HO0_1.out) (fun k_ hk => ⟨hk.1.1.1, ⟨hk.1.1.2, ⟨hk.1.2, hk.2⟩⟩⟩))))) (Reps.c2 (show Kd.FK k52 _ _ (⟨a1_0, l1_1⟩ : S52) [.bool a1_0, .slice A1_1 l1_1.length c1_1] from (k52_mkF _ _ (⟨a1_0, l1_1⟩ : S52) (Kd.V_reads' (Kd.V_mono (ok' := (fun k_ => ((P0_1_ k_ ∨ P1_1_ k_) ∨ w.heap.size ≤ k_) ∧ k_ ≠ gb682 ∧ k_ ≠ gb683 ∧ k_ ≠ gb684)) (HO1_1.out) (fun k_ hk => ⟨hk.1.1.1, ⟨hk.1.1.2, ⟨hk.1.2, hk.2⟩⟩⟩))).2.1 (Kd.V_F (Kd.V_mono (ok' := (fun k_ => ((P0_1_ k_ ∨ P1_1_ k_) ∨ w.heap.size ≤ k_) ∧ k_ ≠ gb682 ∧ k_ ≠ gb683 ∧ k_ ≠ gb684)) (HO1_1.out) (fun k_ hk => ⟨hk.1.1.1, ⟨hk.1.1.2, ⟨hk.1.2, hk.2⟩⟩⟩))))) (Reps.none _ _)))); intro v686 w70 ho71 hb hg_ hnew_; clear hg_ hnew_; (first | rw [← Ny685.out] at ho71 | (simp only [Int.reduceToNat] at ho71; rw [← Ny685.out] at ho71)); replace HO0_1 := Aside0.mk (Kd.V_elder' (uV HO0_1.out) (Kd.N_base ho71) hb); replace HO1_1 := Aside0.mk (Kd.V_elder' (uV HO1_1.out) (Kd.N_base ho71) hb); have HO687 := Aside0.mk (Kd.N_lower ho71 (below_size uB)); replace BK682 := ux BK682 hb; replace BK683 := ux BK683 hb; replace BK684 := ux BK684 hb; replace HB := uy hb; clear hb ho71; obtain ⟨Ao72, co72, eo72⟩ := Kd.N_slice HO687.out; subst eo72) | ((with_reducible refine gate_callee (f := 100) rfl ?_); refine goesL_ (some 13) rfl rfl Try.func100 (by kernel_rfl) rfl #[.slice Ao72 y685.length co72] rfl uM ?_; (with_reducible refine (modint_right.calls _ _ y685 true _ ?side1 ?side2 A3.out).mono ?_); (case side1 => exact uC (Kd.N_reads' HO687.out).2.2); (case side2 => exact (Kd.N_reads' HO687.out).2.1); rintro e w73 ⟨rfl, hb⟩; refine ⟨_, rfl, ?_⟩; replace HO0_1 := Aside0.mk (Kd.V_below (uV HO0_1.out) hb); replace HO1_1 := Aside0.mk (Kd.V_below (uV HO1_1.out) hb); replace HO687 := Aside0.mk (Kd.N_below (uN HO687.out) hb); replace BK682 := ux BK682 hb; replace BK683 := ux BK683 hb; replace BK684 := ux BK684 hb; replace HB := uy hb; (try clear hb); have hcz74_0 : w73.cell? ⟨gb682, 0, none⟩ = some (.bool a0_0) := (blk_cell BK682.out 0).trans rfl; have hcz74_1 : w73.cell? ⟨gb682, 1, none⟩ = some (.slice A0_1 l0_1.length c0_1) := (blk_cell BK682.out 1).trans rfl; have hfz74_0 := blk_frozen BK682.out 0; have hfz74_1 := blk_frozen BK682.out 1; have hcz75_0 : w73.cell? ⟨gb683, 0, none⟩ = some (.bool a1_0) := (blk_cell BK683.out 0).trans rfl; have hcz75_1 : w73.cell? ⟨gb683, 1, none⟩ = some (.slice A1_1 l1_1.length c1_1) := (blk_cell BK683.out 1).trans rfl; have hfz75_0 := blk_frozen BK683.out 0; have hfz75_1 := blk_frozen BK683.out 1) | ((with_reducible refine gate_callee (f := 82) rfl ?_); refine goesL_ (some 38) rfl rfl Try.func82 (by kernel_rfl) rfl #[.slice A0_1 l0_1.length c0_1, .slice A1_1 l1_1.length c1_1] rfl uM ?_; (with_reducible refine (nat_Cmp.calls k (fun k_ => ((((((P0_1_ k_ ∨ P1_1_ k_) ∨ w.heap.size ≤ k_) ∧ k_ ≠ gb682) ∧ k_ ≠ gb683) ∧ k_ ≠ gb684) ∧ some k_ ≠ (.slice Ao72 y685.length co72 : Value).ownBlock)) _ _ l0_1 (fun k_ => ((((((P0_1_ k_ ∨ P1_1_ k_) ∨ w.heap.size ≤ k_) ∧ k_ ≠ gb682) ∧ k_ ≠ gb683) ∧ k_ ≠ gb684) ∧ some k_ ≠ (.slice Ao72 y685.length co72 : Value).ownBlock)) _ _ l1_1 t697 _ ?side1 ?side2 A28.out).mono ?_); (case side1 => exact HO0_1.out); (case side2 => exact HO1_1.out); rintro e w76 ⟨rfl, hb⟩; refine ⟨_, rfl, ?_⟩; replace HO0_1 := Aside0.mk (Kd.V_below (uV HO0_1.out) hb); replace HO1_1 := Aside0.mk (Kd.V_below (uV HO1_1.out) hb); replace HO687 := Aside0.mk (Kd.N_below (uN HO687.out) hb); replace BK682 := ux BK682 hb; replace BK683 := ux BK683 hb; replace BK684 := ux BK684 hb; replace HB := uy hb; (try clear hb); have hcz77_0 : w76.cell? ⟨gb682, 0, none⟩ = some (.bool a0_0) := (blk_cell BK682.out 0).trans rfl; have hcz77_1 : w76.cell? ⟨gb682, 1, none⟩ = some (.slice A0_1 l0_1.length c0_1) := (blk_cell BK682.out 1).trans rfl; have hfz77_0 := blk_frozen BK682.out 0; have hfz77_1 := blk_frozen BK682.out 1; have hcz78_0 : w76.cell? ⟨gb683, 0, none⟩ = some (.bool a1_0) := (blk_cell BK683.out 0).trans rfl; have hcz78_1 : w76.cell? ⟨gb683, 1, none⟩ = some (.slice A1_1 l1_1.length c1_1) := (blk_cell BK683.out 1).trans rfl; have hfz78_0 := blk_frozen BK683.out 0; have hfz78_1 := blk_frozen BK683.out 1) | ((with_reducible refine gate_callee (f := 80) rfl ?_); refine goesL_ (some 47) rfl rfl Try.func80 (by kernel_rfl) rfl #[.slice A0_1 l0_1.length c0_1, .slice A1_1 l1_1.length c1_1] rfl uM ?_; (with_reducible refine (nat_Sub.calls k (fun k_ => ((((((P0_1_ k_ ∨ P1_1_ k_) ∨ w.heap.size ≤ k_) ∧ k_ ≠ gb682) ∧ k_ ≠ gb683) ∧ k_ ≠ gb684) ∧ some k_ ≠ (.slice Ao72 y685.length co72 : Value).ownBlock)) _ _ l0_1 (fun k_ => ((((((P0_1_ k_ ∨ P1_1_ k_) ∨ w.heap.size ≤ k_) ∧ k_ ≠ gb682) ∧ k_ ≠ gb683) ∧ k_ ≠ gb684) ∧ some k_ ≠ (.slice Ao72 y685.length co72 : Value).ownBlock)) _ _ l1_1 t706 t709 _ ?side1 ?side2 A60.out).mono ?_); (case side1 => exact HO0_1.out); (case side2 => exact HO1_1.out); rintro e w79 ⟨v707, rfl, ho0, hb⟩; refine ⟨_, rfl, ?_⟩; replace HO0_1 := ueV HO0_1 ho0 hb; replace HO1_1 := ueV HO1_1 ho0 hb; replace HO687 := ueN HO687 ho0 hb; have HO708 := Aside0.mk (Kd.R_lower (Kd.R_newM (M := fun k_ => (w.heap.size ≤ k_)) (Kd.R_mono (ok' := fun k_ => True) ho0 (fun _ hk_ => trivial)) (below_size uB) (fun k_ h_ => h_)) (below_size uB)); replace BK682 := ux BK682 hb; replace BK683 := ux BK683 hb; replace BK684 := ux BK684 hb; replace HB := uy hb; (try clear hb ho0); have hcz80_0 : w79.cell? ⟨gb682, 0, none⟩ = some (.bool a0_0) := (blk_cell BK682.out 0).trans rfl; have hcz80_1 : w79.cell? ⟨gb682, 1, none⟩ = some (.slice A0_1 l0_1.length c0_1) := (blk_cell BK682.out 1).trans rfl; have hfz80_0 := blk_frozen BK682.out 0; have hfz80_1 := blk_frozen BK682.out 1; obtain ⟨Ao81, co81, eo81⟩ := Kd.R_slice HO708.out; subst eo81) | ((with_reducible refine gate_callee (f := 83) rfl ?_); refine goesL_ (some 53) rfl rfl Try.func83 (by kernel_rfl) rfl #[.bool a0_0, .slice Ao81 t706.length co81] rfl uM ?_; (with_reducible refine (modint_From.calls a0_0 _ _ t706 t710 t711 _ ?side1 ?side2 A61.out).mono ?_); (case side1 => exact uC (Kd.R_reads' HO708.out).2.2); (case side2 => exact (Kd.R_reads' HO708.out).2.1); rintro e w82 ⟨v712, rfl, ho0, hb⟩; refine ⟨_, rfl, ?_⟩; replace HO0_1 := ueV HO0_1 ho0 hb; replace HO1_1 := ueV HO1_1 ho0 hb; replace HO687 := ueN HO687 ho0 hb; have HO713 := Aside0.mk (Kd.R_lower (Kd.R_new' (Kd.R_newM (M := fun k_ => (w.heap.size ≤ k_)) ho0 (below_size uB) (fun k_ h_ => h_)) (Kd.R_lt (uR HO708.out))) (below_size uB)); replace HO708 := ueR HO708 ho0 hb; replace BK682 := ux BK682 hb; replace BK683 := ux BK683 hb; replace BK684 := ux BK684 hb; replace HB := uy hb; (try clear hb ho0); have hcz83_0 : w82.cell? ⟨gb684, 0, none⟩ = some (.bool false) := (blk_cell BK684.out 0).trans rfl; have hcz83_1 : w82.cell? ⟨gb684, 1, none⟩ = some (.slice none 0 0) := (blk_cell BK684.out 1).trans rfl; have hfz83_0 := blk_frozen BK684.out 0; have hfz83_1 := blk_frozen BK684.out 1; obtain ⟨Ao84, co84, eo84⟩ := Kd.R_slice HO713.out; subst eo84))
  refine bodyPost_ret (results_ct rfl _ _ gb684 52 #[.bool t710, .slice Ao84 t711.length co84] (0, 0) _ rfl (by (with_reducible repeat (first | refine blk_drewN ?_ _ | refine blk_drew ?_ | refine blk_alloc ?_ _)); refine blk_put (cs := #[.bool t710, .slice none 0 0]) ?_ 1 _ rfl; (with_reducible repeat (first | refine blk_drewN ?_ _ | refine blk_drew ?_ | refine blk_alloc ?_ _)); refine blk_put (cs := #[.bool false, .slice none 0 0]) ?_ 0 _ rfl; (with_reducible repeat (first | refine blk_drewN ?_ _ | refine blk_drew ?_ | refine blk_alloc ?_ _)); exact BK684.out) Try.underlying52 rfl (by kernel_rfl)) rfl ?_
  exact ⟨_, uF, by (with_reducible repeat (first | apply Kd.R_alloc | apply Kd.R_drewN | apply Kd.R_drew)); exact Kd.R_mono (Kd.R_far (p := ⟨gb684, 1, none⟩) (Kd.R_far (p := ⟨gb684, 0, none⟩) (Kd.R_types HO713.out BK684.out (by decide)) (fun _ hk => hk.2) (.bool t710)) (fun _ hk => hk.2) (.slice Ao84 t711.length co84)) (fun _ hk => hk.1.1.1), uB⟩
 replace c4 := Bool.eq_false_iff.mpr c4
 subst c4
 have H1 : (some (false, ([] : List Int), 1)) = some (r1, r2, r3) := by rw [if_neg (show ¬ (false = true) by decide)] at H; exact H
 clear H; have H := H1; clear H1
 simp only [Option.some.injEq, Prod.mk.injEq] at H
 obtain ⟨rfl, rfl, rfl⟩ := H
 go_enter Try.func56, Try.ntmps56
 go_wp2_with (first | ((with_reducible refine gate_dst (N := 2) rfl ?_); refine box_event ?hg (N := 2) ?hd (cs := #[.bool a0_0, .slice A0_1 l0_1.length c0_1]) (t := 52) ?hr ?_; (case hd => rfl); (case hg => rfl); (case hr => first | (go_simp; done) | (go_simp; rfl)); intro gb682 hg w85 hbox hb; replace HO0_1 := Aside0.mk (Kd.V_below (Kd.V_elderB (uV HO0_1.out) gb682 (Nat.le_of_eq hg.symm)) hb); replace HO1_1 := Aside0.mk (Kd.V_below (Kd.V_elderB (uV HO1_1.out) gb682 (Nat.le_of_eq hg.symm)) hb); have BK682 := Aside0.mk (hbox); have GW682 := us hg; have GE682 := us hg; replace HB := uy hb; clear hb hbox hg) | ((with_reducible refine gate_dst (N := 3) rfl ?_); refine box_event ?hg (N := 3) ?hd (cs := #[.bool a1_0, .slice A1_1 l1_1.length c1_1]) (t := 52) ?hr ?_; (case hd => rfl); (case hg => rfl); (case hr => first | (go_simp; done) | (go_simp; rfl)); intro gb683 hg w86 hbox hb; replace HO0_1 := Aside0.mk (Kd.V_below (Kd.V_elderB (uV HO0_1.out) gb683 (Nat.le_of_eq hg.symm)) hb); replace HO1_1 := Aside0.mk (Kd.V_below (Kd.V_elderB (uV HO1_1.out) gb683 (Nat.le_of_eq hg.symm)) hb); have BK683 := Aside0.mk (hbox); have GW683 := us hg; have GE683 := us hg; replace HB := uy hb; have NB682_683 := Aside0.mk ((by rw [hg]; exact Nat.ne_of_lt (blk_lt (uK BK682.out)) : gb682 ≠ gb683)); have NB683_682 := Aside0.mk ((by rw [hg]; exact Nat.ne_of_gt (blk_lt (uK BK682.out)) : gb683 ≠ gb682)); replace BK682 := ux BK682 hb; clear hb hbox hg) | ((with_reducible refine gate_dst (N := 4) rfl ?_); refine box_event ?hg (N := 4) ?hd (cs := #[.bool false, .slice none 0 0]) (t := 52) ?hr ?_; (case hd => rfl); (case hg => rfl); (case hr => first | (go_simp; done) | (go_simp; rfl)); intro gb684 hg w87 hbox hb; replace HO0_1 := Aside0.mk (Kd.V_below (Kd.V_elderB (uV HO0_1.out) gb684 (Nat.le_of_eq hg.symm)) hb); replace HO1_1 := Aside0.mk (Kd.V_below (Kd.V_elderB (uV HO1_1.out) gb684 (Nat.le_of_eq hg.symm)) hb); have BK684 := Aside0.mk (hbox); have GW684 := us hg; have GE684 := us hg; replace HB := uy hb; have NB682_684 := Aside0.mk ((by rw [hg]; exact Nat.ne_of_lt (blk_lt (uK BK682.out)) : gb682 ≠ gb684)); have NB684_682 := Aside0.mk ((by rw [hg]; exact Nat.ne_of_gt (blk_lt (uK BK682.out)) : gb684 ≠ gb682)); replace BK682 := ux BK682 hb; have NB683_684 := Aside0.mk ((by rw [hg]; exact Nat.ne_of_lt (blk_lt (uK BK683.out)) : gb683 ≠ gb684)); have NB684_683 := Aside0.mk ((by rw [hg]; exact Nat.ne_of_gt (blk_lt (uK BK683.out)) : gb684 ≠ gb683)); replace BK683 := ux BK683 hb; clear hb hbox hg; have hnb88 := NB682_683.out; have hnc88 := NB683_682.out; have hnb89 := NB682_684.out; have hnc89 := NB684_682.out; have hcz90_0 : w87.cell? ⟨gb682, 0, none⟩ = some (.bool a0_0) := (blk_cell BK682.out 0).trans rfl; have hcz90_1 : w87.cell? ⟨gb682, 1, none⟩ = some (.slice A0_1 l0_1.length c0_1) := (blk_cell BK682.out 1).trans rfl; have hfz90_0 := blk_frozen BK682.out 0; have hfz90_1 := blk_frozen BK682.out 1; have hnb91 := NB683_684.out; have hnc91 := NB684_683.out; have hcz92_0 : w87.cell? ⟨gb683, 0, none⟩ = some (.bool a1_0) := (blk_cell BK683.out 0).trans rfl; have hcz92_1 : w87.cell? ⟨gb683, 1, none⟩ = some (.slice A1_1 l1_1.length c1_1) := (blk_cell BK683.out 1).trans rfl; have hfz92_0 := blk_frozen BK683.out 0; have hfz92_1 := blk_frozen BK683.out 1) | ((with_reducible refine gate_dst (N := 12) rfl ?_); refine Kd.N_lit k52 _ 52 ?hg (N' := 12) ?hd (xs := ([(⟨a0_0, l0_1⟩ : S52), (⟨a1_0, l1_1⟩ : S52)] : List (S52))) (inner := [.bool a0_0, .slice A0_1 l0_1.length c0_1, .bool a1_0, .slice A1_1 l1_1.length c1_1]) (ok := (fun k_ => ((P0_1_ k_ ∨ P1_1_ k_) ∨ w.heap.size ≤ k_) ∧ k_ ≠ gb682 ∧ k_ ≠ gb683 ∧ k_ ≠ gb684)) (okp := (fun k_ => ((P0_1_ k_ ∨ P1_1_ k_) ∨ w.heap.size ≤ k_) ∧ k_ ≠ gb682 ∧ k_ ≠ gb683 ∧ k_ ≠ gb684)) ?hr ?hp (fun _ hk => hk) ((show ∀ k_, w87.heap.size ≤ k_ → (fun k_ => ((P0_1_ k_ ∨ P1_1_ k_) ∨ w.heap.size ≤ k_) ∧ k_ ≠ gb682 ∧ k_ ≠ gb683 ∧ k_ ≠ gb684) k_ from fun k_ hk => ⟨(.inr (Nat.le_trans (below_size uB) hk)), Kd.freshB (g := gb682) (o := .cells #[.bool a0_0, .slice A0_1 l0_1.length c0_1] 52 (0, 0)) (uK BK682.out) k_ hk, Kd.freshB (g := gb683) (o := .cells #[.bool a1_0, .slice A1_1 l1_1.length c1_1] 52 (0, 0)) (uK BK683.out) k_ hk, Kd.freshB (g := gb684) (o := .cells #[.bool false, .slice none 0 0] 52 (0, 0)) (uK BK684.out) k_ hk⟩) _ (Nat.le_refl _)) (Below.refl _ _) (Nat.le_refl _) (by simp) ?_; (case hd => rfl); (case hg => rfl); (case hr => first | (go_simp; done) | (go_simp; rfl) | (go_simp; simp only [u64_u8]; done) | (go_simp; simp only [u64_u8]; rfl)); (case hp => exact (Reps.c2 (show Kd.FK k52 _ _ (⟨a0_0, l0_1⟩ : S52) [.bool a0_0, .slice A0_1 l0_1.length c0_1] from (k52_mkF _ _ (⟨a0_0, l0_1⟩ : S52) (Kd.V_reads' (Kd.V_mono (ok' := (fun k_ => ((P0_1_ k_ ∨ P1_1_ k_) ∨ w.heap.size ≤ k_) ∧ k_ ≠ gb682 ∧ k_ ≠ gb683 ∧ k_ ≠ gb684)) (HO0_1.out) (fun k_ hk => ⟨hk.1.1.1, ⟨hk.1.1.2, ⟨hk.1.2, hk.2⟩⟩⟩))).2.1 (Kd.V_F (Kd.V_mono (ok' := (fun k_ => ((P0_1_ k_ ∨ P1_1_ k_) ∨ w.heap.size ≤ k_) ∧ k_ ≠ gb682 ∧ k_ ≠ gb683 ∧ k_ ≠ gb684)) (HO0_1.out) (fun k_ hk => ⟨hk.1.1.1, ⟨hk.1.1.2, ⟨hk.1.2, hk.2⟩⟩⟩))))) (Reps.c2 (show Kd.FK k52 _ _ (⟨a1_0, l1_1⟩ : S52) [.bool a1_0, .slice A1_1 l1_1.length c1_1] from (k52_mkF _ _ (⟨a1_0, l1_1⟩ : S52) (Kd.V_reads' (Kd.V_mono (ok' := (fun k_ => ((P0_1_ k_ ∨ P1_1_ k_) ∨ w.heap.size ≤ k_) ∧ k_ ≠ gb682 ∧ k_ ≠ gb683 ∧ k_ ≠ gb684)) (HO1_1.out) (fun k_ hk => ⟨hk.1.1.1, ⟨hk.1.1.2, ⟨hk.1.2, hk.2⟩⟩⟩))).2.1 (Kd.V_F (Kd.V_mono (ok' := (fun k_ => ((P0_1_ k_ ∨ P1_1_ k_) ∨ w.heap.size ≤ k_) ∧ k_ ≠ gb682 ∧ k_ ≠ gb683 ∧ k_ ≠ gb684)) (HO1_1.out) (fun k_ hk => ⟨hk.1.1.1, ⟨hk.1.1.2, ⟨hk.1.2, hk.2⟩⟩⟩))))) (Reps.none _ _)))); intro v686 w93 ho94 hb hg_ hnew_; clear hg_ hnew_; (first | rw [← Ny685.out] at ho94 | (simp only [Int.reduceToNat] at ho94; rw [← Ny685.out] at ho94)); replace HO0_1 := Aside0.mk (Kd.V_elder' (uV HO0_1.out) (Kd.N_base ho94) hb); replace HO1_1 := Aside0.mk (Kd.V_elder' (uV HO1_1.out) (Kd.N_base ho94) hb); have HO687 := Aside0.mk (Kd.N_lower ho94 (below_size uB)); replace BK682 := ux BK682 hb; replace BK683 := ux BK683 hb; replace BK684 := ux BK684 hb; replace HB := uy hb; clear hb ho94; obtain ⟨Ao95, co95, eo95⟩ := Kd.N_slice HO687.out; subst eo95) | ((with_reducible refine gate_callee (f := 100) rfl ?_); refine goesL_ (some 13) rfl rfl Try.func100 (by kernel_rfl) rfl #[.slice Ao95 y685.length co95] rfl uM ?_; (with_reducible refine (modint_right.calls _ _ y685 false _ ?side1 ?side2 A3.out).mono ?_); (case side1 => exact uC (Kd.N_reads' HO687.out).2.2); (case side2 => exact (Kd.N_reads' HO687.out).2.1); rintro e w96 ⟨rfl, hb⟩; refine ⟨_, rfl, ?_⟩; replace HO0_1 := Aside0.mk (Kd.V_below (uV HO0_1.out) hb); replace HO1_1 := Aside0.mk (Kd.V_below (uV HO1_1.out) hb); replace HO687 := Aside0.mk (Kd.N_below (uN HO687.out) hb); replace BK682 := ux BK682 hb; replace BK683 := ux BK683 hb; replace BK684 := ux BK684 hb; replace HB := uy hb; (try clear hb); have hcz97_0 : w96.cell? ⟨gb684, 0, none⟩ = some (.bool false) := (blk_cell BK684.out 0).trans rfl; have hcz97_1 : w96.cell? ⟨gb684, 1, none⟩ = some (.slice none 0 0) := (blk_cell BK684.out 1).trans rfl; have hfz97_0 := blk_frozen BK684.out 0; have hfz97_1 := blk_frozen BK684.out 1))
 refine bodyPost_ret (results_ct rfl _ _ gb684 52 #[.bool false, .slice none 0 0] (0, 0) _ rfl (by (with_reducible repeat (first | refine blk_drewN ?_ _ | refine blk_drew ?_ | refine blk_alloc ?_ _)); refine blk_put (cs := #[.bool false, .slice none 0 0]) ?_ 1 _ rfl; (with_reducible repeat (first | refine blk_drewN ?_ _ | refine blk_drew ?_ | refine blk_alloc ?_ _)); refine blk_put (cs := #[.bool false, .slice none 0 0]) ?_ 0 _ rfl; (with_reducible repeat (first | refine blk_drewN ?_ _ | refine blk_drew ?_ | refine blk_alloc ?_ _)); exact BK684.out) Try.underlying52 rfl (by kernel_rfl)) rfl ?_
 exact ⟨_, uF, uI, uB⟩
def modint_Sub.f (k : Nat) (a0_0 : Bool) (l0_1 : List Int) (a1_0 : Bool) (l1_1 : List Int) : Option (Bool × List Int × Int) := (modint_right.f (([(⟨a0_0, l0_1⟩ : S52), (⟨a1_0, l1_1⟩ : S52)] : List (S52)))).bind fun t1007 => (if t1007 = true then ((modint_Neg.f a1_0 l1_1).bind fun bt1008 => ((modint_Add.f k a0_0 l0_1 bt1008.1 bt1008.2).bind fun bt1012 => (some (bt1012.1, bt1012.2.1, bt1012.2.2)))) else (some (false, ([] : List Int), 1)))
end Go.Proofs.Ytgeanpnkllnipab.F
end
section
namespace Go.Proofs.Ytgeanpnkllnipab.F
open Go.RowKit Go.Proofs.YtgeanpnkllnipabW.PrintWords Go.Proofs.YtgeanpnkllnipabW.PrintLast Go.Proofs.YtgeanpnkllnipabW.PrintMore
attribute [local go_sem] max2_int min2_int max_two min_two max_three min_three max_four min_four
set_option linter.unusedVariables false
set_option linter.unusedSimpArgs false
mutual
def nat_Shr.j0 : Nat → List Int → Int → Bool → Option (List Int × Int)
 | 0, _, _, _ => none
 | k + 1, x0, x1, x9 => if x9 = true then (some (([] : List Int), 1)) else (if (wrap64 (Int.tdiv x1 64)) ≥ (x0.length : Int) then (some (([] : List Int), 0)) else (if 0 ≤ (wrap64 (Int.tdiv x1 64)) then (if (wrap64 (Int.tdiv x1 64)) ≤ (x0.length : Int) then (if 0 ≤ ((x0.drop ((wrap64 (Int.tdiv x1 64)) : Int).toNat).length : Int) then (if (((x0.drop ((wrap64 (Int.tdiv x1 64)) : Int).toNat).length : Int) : Int).toNat ≤ 35184372088832 then (nat_Shr.l0 k (x0.drop ((wrap64 (Int.tdiv x1 64)) : Int).toNat) (IntKind.u64.wrap (Int.tmod x1 64)) (List.replicate (((x0.drop ((wrap64 (Int.tdiv x1 64)) : Int).toNat).length : Int) : Int).toNat 0) ((x0.drop ((wrap64 (Int.tdiv x1 64)) : Int).toNat).length : Int) 0) else (none)) else (none)) else (none)) else (none)))
def nat_Shr.l0 : Nat → List Int → Int → List Int → Int → Int → Option (List Int × Int)
 | 0, _, _, _, _, _ => none
 | k + 1, x0, x6, x7, x34, x35 => if x35 < x34 then (if 0 ≤ x35 then (if x35 < (x0.length : Int) then (if 0 ≤ x6 then (if x35 < (x7.length : Int) then ((some (x7.set (x35 : Int).toNat (shr .u64 (rd x0 x35) x6) : List Int)).bind fun y603 => (if x6 > 0 then (if (wrap64 (x35 + 1)) < (x0.length : Int) then (if 0 ≤ (wrap64 (x35 + 1)) then (if 0 ≤ (IntKind.u64.wrap (64 - x6)) then (nat_Shr.l0 k x0 x6 (y603.set (x35 : Int).toNat (Go.bits .or .u64 (rd y603 x35) (shl .u64 (rd x0 (wrap64 (x35 + 1))) (IntKind.u64.wrap (64 - x6))))) x34 (wrap64 (x35 + 1))) else (none)) else (none)) else (nat_Shr.l0 k x0 x6 y603 x34 (wrap64 (x35 + 1)))) else (nat_Shr.l0 k x0 x6 y603 x34 (wrap64 (x35 + 1))))) else (none)) else (none)) else (none)) else (none)) else ((nat_told.f k x7).bind fun bt607 => (some (bt607.1, bt607.2)))
end
def nat_Shr.f (k : Nat) (l0 : List Int) (a1 : Int) : Option (List Int × Int) := (nat_Right.f l0).bind fun t597 => (if t597 = true then (nat_Shr.j0 k l0 a1 (decide (a1 < 0))) else (nat_Shr.j0 k l0 a1 true))
def nat_Shr.T13 : Bool × List (List Nat × List Nat) := (true, [([], []), ([], []), ([0, 1], [0, 1]), ([2], [2]), ([], []), ([], []), ([5], [5]), ([4, 6], [4, 6]), ([7], [7]), ([], []), ([9], [9]), ([8, 10], [8, 10]), ([3, 11], [3, 11]), ([0, 1, 0, 1, 2, 3, 4, 5, 6, 7, 8, 9, 10, 11, 12], [0, 1]), ([13, 12, 0, 1, 2, 3, 4, 5, 6, 7, 8, 9, 10, 11, 12], [12, 13])])
def nat_Shr.B13 : List Nat := [0, 0, 3, 7, 0, 0, 32, 112, 240, 0, 512, 2032, 4095, 8191, 16383]
theorem nat_Shr.tab13 : rtab .any (opsOf Try.f128 13) = nat_Shr.T13 := by kernel_rfl
theorem nat_Shr.bits13 : waitsOk nat_Shr.T13.2 nat_Shr.B13 = true := by kernel_rfl
set_option maxHeartbeats 8000000 in
set_option maxRecDepth 100000 in
theorem nat_Shr.calls (k : Nat) (A0 : Option Addr) (c0 : Nat) (l0 : List Int) (a1 : Int) (r1 : List Int) (r2 : Int) (w : World) (hr0 : Kd.C (Kd.int .u64) w A0 l0.length l0) (hc0 : l0.length ≤ c0) (h : nat_Shr.f k l0 a1 = some (r1, r2)) :
  Calls Try.prog 128 #[.slice A0 l0.length c0, .int .i64 a1] w fun e w' => ∃ v0_ : Value, e = .returned (.tuple #[v0_, .int .i64 r2]) ∧ Kd.R (Kd.int .u64) 27 w' w.heap.size (fun _ => True) v0_ r1 ∧ Below w.heap.size w w' := by
 have HR0 := Aside0.mk hr0; have HC0 := Aside0.mk hc0; clear hr0 hc0
 have HB := Aside0.mk (Below.refl w.heap.size w)
 have H : ((nat_Right.f l0).bind fun t597 => (if t597 = true then (nat_Shr.j0 k l0 a1 (decide (a1 < 0))) else (nat_Shr.j0 k l0 a1 true))) = some (r1, r2) := h
 clear h; have HC3 := Aside0.mk H; clear H
 go_enter Try.func128, Try.ntmps128
 go_upto_region 1 with (fail)
 go_cut [9] (fun v9 wc => ∃ (kq : Nat) (x9_2 : Bool), v9 = .bool x9_2 ∧ Aside0 (nat_Shr.j0 kq l0 a1 x9_2 = some (r1, r2)) ∧ Aside0 (kq ≤ k) ∧ Aside0 (Below w.heap.size w wc))
 case first =>
  have H := HC3.out
  clear HC3
  replace H := ub H; obtain ⟨t597, A4, H⟩ := H
  by_cases c5 : t597 = true
  ·
   subst c5
   have H1 : (nat_Shr.j0 k l0 a1 (decide (a1 < 0))) = some (r1, r2) := by rw [if_pos rfl] at H; exact H
   clear H; have H := H1; clear H1
   have H' := Aside0.mk H
   clear H
   go_wp2_with (first | ((with_reducible refine gate_callee (f := 47) rfl ?_); refine goesL_ (some 11) rfl rfl Try.func47 (by kernel_rfl) rfl #[.slice A0 l0.length c0] rfl uM ?_; (with_reducible refine (nat_Right.calls _ _ l0 true _ ?side1 ?side2 A4.out).mono ?_); (case side1 => exact uC (Kd.C_below HR0.out HB.out)); (case side2 => exact HC0.out); rintro e w' ⟨rfl, ⟨nd, rfl⟩⟩; refine ⟨_, rfl, ?_⟩))
   go_meet
   case rel => exact ⟨_, (decide (a1 < 0)), uG, H', ⟨uW⟩, ⟨uB⟩⟩
  replace c5 := Bool.eq_false_iff.mpr c5
  subst c5
  have H1 : (nat_Shr.j0 k l0 a1 true) = some (r1, r2) := by rw [if_neg (show ¬ (false = true) by decide)] at H; exact H
  clear H; have H := H1; clear H1
  have H' := Aside0.mk H
  clear H
  go_wp2_with (first | ((with_reducible refine gate_callee (f := 47) rfl ?_); refine goesL_ (some 11) rfl rfl Try.func47 (by kernel_rfl) rfl #[.slice A0 l0.length c0] rfl uM ?_; (with_reducible refine (nat_Right.calls _ _ l0 false _ ?side1 ?side2 A4.out).mono ?_); (case side1 => exact uC (Kd.C_below HR0.out HB.out)); (case side2 => exact HC0.out); rintro e w' ⟨rfl, ⟨nd, rfl⟩⟩; refine ⟨_, rfl, ?_⟩))
  go_meet
  case rel => exact ⟨_, (true), uG, H', ⟨uW⟩, ⟨uB⟩⟩
 case rest =>
  clear HC3; (try clear c1); (try clear p2); (try clear c4); (try clear c5)
  obtain ⟨kq, x9_2, rfl, HA, HJ2, HB⟩ := hcut
  cases kq with
  | zero => exact absurd HA.out (by simp [nat_Shr.j0])
  | succ kj2 =>
   have H := HA.out
   clear HA
   simp only [nat_Shr.j0] at H
   by_cases c6 : x9_2 = true
   ·
    subst c6
    have H1 : (some (([] : List Int), 1)) = some (r1, r2) := by rw [if_pos rfl] at H; exact H
    clear H; have H := H1; clear H1
    simp only [Option.some.injEq, Prod.mk.injEq] at H
    obtain ⟨rfl, rfl⟩ := H
    go_wp2
    go_ret2
    exact ⟨_, uF, uI, uB⟩
   replace c6 := Bool.eq_false_iff.mpr c6
   subst c6
   have H1 : (if (wrap64 (Int.tdiv a1 64)) ≥ (l0.length : Int) then (some (([] : List Int), 0)) else (if 0 ≤ (wrap64 (Int.tdiv a1 64)) then (if (wrap64 (Int.tdiv a1 64)) ≤ (l0.length : Int) then (if 0 ≤ ((l0.drop ((wrap64 (Int.tdiv a1 64)) : Int).toNat).length : Int) then (if (((l0.drop ((wrap64 (Int.tdiv a1 64)) : Int).toNat).length : Int) : Int).toNat ≤ 35184372088832 then (nat_Shr.l0 kj2 (l0.drop ((wrap64 (Int.tdiv a1 64)) : Int).toNat) (IntKind.u64.wrap (Int.tmod a1 64)) (List.replicate (((l0.drop ((wrap64 (Int.tdiv a1 64)) : Int).toNat).length : Int) : Int).toNat 0) ((l0.drop ((wrap64 (Int.tdiv a1 64)) : Int).toNat).length : Int) 0) else (none)) else (none)) else (none)) else (none))) = some (r1, r2) := by rw [if_neg (show ¬ (false = true) by decide)] at H; exact H
   clear H; have H := H1; clear H1
   by_cases c7 : (wrap64 (Int.tdiv a1 64)) ≥ (l0.length : Int)
   ·
    rw [if_pos c7] at H
    have c7b0 : decide ((l0.length : Int) ≤ (wrap64 (Int.tdiv a1 64))) = true := decide_eq_true c7
    clear c7
    simp only [Option.some.injEq, Prod.mk.injEq] at H
    obtain ⟨rfl, rfl⟩ := H
    go_wp2
    go_ret2
    exact ⟨_, uF, uI, uB⟩
   rw [if_neg c7] at H
   have c7b0 : decide ((l0.length : Int) ≤ (wrap64 (Int.tdiv a1 64))) = false := decide_eq_false c7
   clear c7
   obtain ⟨ji8, hji8⟩ : ∃ j_ : Int, (wrap64 (Int.tdiv a1 64)) = j_ := ⟨_, rfl⟩
   first | rw [hji8] at H | simp only [hji8] at H
   (try rw [hji8] at c7b0)
   have hji8w : (IntKind.i64.wrap (Int.tdiv a1 64)) = ji8 := (i64_w _).trans hji8
   replace H := uT H; obtain ⟨c9, H⟩ := H
   have c9b0 := eq_true c9
   have c9b1 : decide (0 ≤ (ji8)) = true := decide_eq_true c9
   clear c9
   replace H := uT H; obtain ⟨c10, H⟩ := H
   have c10b0 := eq_true c10
   have c10b1 : decide ((ji8) ≤ (l0.length : Int)) = true := decide_eq_true c10
   clear c10
   replace H := uT H; obtain ⟨c11, H⟩ := H
   have c11b0 := eq_true c11
   have c11b1 : decide (0 ≤ ((l0.drop ((ji8) : Int).toNat).length : Int)) = true := decide_eq_true c11
   clear c11
   replace H := uT H; obtain ⟨c12, H⟩ := H
   have c12b0 := eq_true c12
   have c12b1 : decide ((((l0.drop ((ji8) : Int).toNat).length : Int) : Int).toNat ≤ 35184372088832) = true := decide_eq_true c12
   clear c12
   obtain ⟨y599, hy599⟩ : ∃ y_ : List Int, y_ = (List.replicate (((l0.drop ((ji8) : Int).toNat).length : Int) : Int).toNat 0) := ⟨_, rfl⟩
   replace H : (nat_Shr.l0 kj2 (l0.drop ((ji8) : Int).toNat) (IntKind.u64.wrap (Int.tmod a1 64)) y599 ((l0.drop ((ji8) : Int).toNat).length : Int) 0) = some (r1, r2) := by first | (rw [hy599]; with_reducible exact H) | (have H2_ := (Option.bind_some _ _).symm.trans H; rw [hy599]; with_reducible exact H2_) | (have H2_ := (Option.bind_some _ _).symm.trans H; with_reducible exact H2_) | with_reducible exact H | (rw [hy599]; exact H) | exact H
   have Ny599 := Aside0.mk hy599; clear hy599
   have H' := Aside0.mk H
   clear H
   obtain ⟨i013, hi013, _, hsz13, _⟩ := info_parts info27
   obtain ⟨A13, hcut13, hA13, hC13⟩ := print_drop_of (P := Try.prog) (Value.int .u64) 0 23 27 .i64 Try.underlying23 hi013 hsz13 A0 c0 l0 (ji8) uO uO HC0.out
   have HR598 := Aside0.mk (Kd.C_of_reads (h1 := fun _ => rfl) (hA13 _ (Kd.reads_of_C HR0.out)))
   have HC598 := Aside0.mk hC13; clear hA13 hC13 hi013 hsz13
   go_wp2_with (first | ((with_reducible refine gate_dst (N := 32) rfl ?_); (try (refine gate_guard (by rfl) ?_; dsimp only)); refine Kd.R_make (Kd.int .u64) _ 27 rfl (N := 32) rfl 23 _ _ rfl ((l0.drop ((ji8) : Int).toNat).length : Int) (by first | rfl | (simp only [List.length_drop, List.length_take]; rfl) | (simp; done)) (by first | rfl | (simp only [List.length_drop, List.length_take]; rfl) | (simp; done)) Try.underlying23 (.int .u64 0) 8 info27 rfl (by decide) (by omega) 0 (ok := fun _ => True) (okp := fun _ => True) rfl (fun _ hk => hk) trivial uO (Nat.le_trans (Nat.mul_le_mul_right _ (uO : ((l0.drop ((ji8) : Int).toNat).length : Int).toNat ≤ 35184372088832)) (by omega)) (Below.refl _ _) (Nat.le_refl _) ?_; intro v600 w14 ho15 hb hg_ hnew_; clear hg_ hnew_; (first | rw [← Ny599.out] at ho15 | (simp only [Int.reduceToNat] at ho15; rw [← Ny599.out] at ho15)); have HO601 := Aside0.mk (Kd.R_lower ho15 (below_size uB)); replace HB := uy hb; clear hb ho15))
   go_loopg [35] kj2 (fun kq v35 w' => ∃ (x7_2 : List Int) (x35_2 : Int), v35 = .int .i64 x35_2 ∧ Aside0 (nat_Shr.l0 kq (l0.drop ((ji8) : Int).toNat) (IntKind.u64.wrap (Int.tmod a1 64)) x7_2 ((l0.drop ((ji8) : Int).toNat).length : Int) x35_2 = some (r1, r2)) ∧ Aside0 (kq ≤ kj2) ∧ Aside0 (Kd.R (Kd.int .u64) 27 w' w.heap.size (fun _ => True) v600 x7_2) ∧ Aside0 (Below w.heap.size w w'))
   case atStart => exact ⟨(y599), (0), uG, H', ⟨Nat.le_refl _⟩, ⟨uR HO601.out⟩, ⟨uB⟩⟩
   case round =>
    clear H'
    (try clear c1); (try clear p2); (try clear c4); (try clear c5); (try clear c6); (try clear p6); (try clear c7); (try clear c7b0); (try clear c9); (try clear c9b0); (try clear c9b1); (try clear c10); (try clear c10b0); (try clear c10b1); (try clear c11); (try clear c11b0); (try clear c11b1); (try clear c12); (try clear c12b0); (try clear c12b1); (try clear p2)
    obtain ⟨x7_2, x35_2, rfl, HA, HK2, HO_7, HB⟩ := hrel
    cases gk with
    | zero => exact absurd HA.out (by simp [nat_Shr.l0])
    | succ k2 =>
     have H := HA.out
     clear HA
     simp only [nat_Shr.l0] at H
     by_cases c16 : x35_2 < ((l0.drop ((ji8) : Int).toNat).length : Int)
     ·
      rw [if_pos c16] at H
      have c16b0 : decide (x35_2 < ((l0.drop ((ji8) : Int).toNat).length : Int)) = true := decide_eq_true c16
      (try (have c16b0z := c16b0; simp only [List.length_drop, List.length_take] at c16b0z))
      clear c16
      replace H := uT H; obtain ⟨c17, H⟩ := H
      have c17b0 : decide (0 ≤ x35_2) = true := decide_eq_true c17
      clear c17
      replace H := uT H; obtain ⟨c18, H⟩ := H
      have c18b0 : decide (x35_2 < ((l0.drop ((ji8) : Int).toNat).length : Int)) = true := decide_eq_true c18
      (try (have c18b0z := c18b0; simp only [List.length_drop, List.length_take] at c18b0z))
      clear c18
      obtain ⟨ji19, hji19⟩ : ∃ j_ : Int, (IntKind.u64.wrap (Int.tmod a1 64)) = j_ := ⟨_, rfl⟩
      first | rw [hji19] at H | simp only [hji19] at H
      replace H := uT H; obtain ⟨c20, H⟩ := H
      have c20b0 := eq_true c20
      have c20b1 : decide (0 ≤ (ji19)) = true := decide_eq_true c20
      clear c20
      obtain ⟨ji21, hji21⟩ : ∃ j_ : Int, (shr .u64 (rd (l0.drop ((ji8) : Int).toNat) x35_2) (ji19)) = j_ := ⟨_, rfl⟩
      first | rw [hji21] at H | simp only [hji21] at H
      have hji21_ : ((rd (l0.drop ((ji8) : Int).toNat) x35_2) / 2 ^ min (ji19).toNat 64) = ji21 := hji21
      have hji21z : (ji19) ≤ 64 → ((rd (l0.drop ((ji8) : Int).toNat) x35_2) / 2 ^ (ji19).toNat) = ji21 := shr_small hji21
      replace H := uT H; obtain ⟨c22, H⟩ := H
      have c22b0 : decide (x35_2 < (x7_2.length : Int)) = true := decide_eq_true c22
      clear c22
      obtain ⟨y603, hy603⟩ : ∃ y_ : List Int, y_ = (x7_2.set (x35_2 : Int).toNat (ji21)) := ⟨_, rfl⟩
      replace H : (if (ji19) > 0 then (if (wrap64 (x35_2 + 1)) < ((l0.drop ((ji8) : Int).toNat).length : Int) then (if 0 ≤ (wrap64 (x35_2 + 1)) then (if 0 ≤ (IntKind.u64.wrap (64 - (ji19))) then (nat_Shr.l0 k2 (l0.drop ((ji8) : Int).toNat) (ji19) (y603.set (x35_2 : Int).toNat (Go.bits .or .u64 (rd y603 x35_2) (shl .u64 (rd (l0.drop ((ji8) : Int).toNat) (wrap64 (x35_2 + 1))) (IntKind.u64.wrap (64 - (ji19)))))) ((l0.drop ((ji8) : Int).toNat).length : Int) (wrap64 (x35_2 + 1))) else (none)) else (none)) else (nat_Shr.l0 k2 (l0.drop ((ji8) : Int).toNat) (ji19) y603 ((l0.drop ((ji8) : Int).toNat).length : Int) (wrap64 (x35_2 + 1)))) else (nat_Shr.l0 k2 (l0.drop ((ji8) : Int).toNat) (ji19) y603 ((l0.drop ((ji8) : Int).toNat).length : Int) (wrap64 (x35_2 + 1)))) = some (r1, r2) := by first | (rw [hy603]; with_reducible exact H) | (have H2_ := (Option.bind_some _ _).symm.trans H; rw [hy603]; with_reducible exact H2_) | (have H2_ := (Option.bind_some _ _).symm.trans H; with_reducible exact H2_) | with_reducible exact H | (rw [hy603]; exact H) | exact H
      have Ny603 := Aside0.mk hy603; clear hy603
      by_cases c24 : (ji19) > 0
      ·
       rw [if_pos c24] at H
       have c24b0 : decide (0 < (ji19)) = true := decide_eq_true c24
       clear c24
       by_cases c25 : (wrap64 (x35_2 + 1)) < ((l0.drop ((ji8) : Int).toNat).length : Int)
       ·
        rw [if_pos c25] at H
        have c25b0 : decide ((wrap64 (x35_2 + 1)) < ((l0.drop ((ji8) : Int).toNat).length : Int)) = true := decide_eq_true c25
        (try (have c25b0z := c25b0; simp only [List.length_drop, List.length_take] at c25b0z))
        clear c25
        obtain ⟨ji26, hji26⟩ : ∃ j_ : Int, (wrap64 (x35_2 + 1)) = j_ := ⟨_, rfl⟩
        first | rw [hji26] at H | simp only [hji26] at H
        (try rw [hji26] at c25b0)
        (try rw [hji26] at c25b0z)
        have hji26w : (IntKind.i64.wrap (x35_2 + 1)) = ji26 := (i64_w _).trans hji26
        replace H := uT H; obtain ⟨c27, H⟩ := H
        have c27b0 : decide (0 ≤ (ji26)) = true := decide_eq_true c27
        clear c27
        obtain ⟨ji28, hji28⟩ : ∃ j_ : Int, (IntKind.u64.wrap (64 - (ji19))) = j_ := ⟨_, rfl⟩
        first | rw [hji28] at H | simp only [hji28] at H
        replace H := uT H; obtain ⟨c29, H⟩ := H
        have c29b0 := eq_true c29
        have c29b1 : decide (0 ≤ (ji28)) = true := decide_eq_true c29
        clear c29
        obtain ⟨ji30, hji30⟩ : ∃ j_ : Int, (shl .u64 (rd (l0.drop ((ji8) : Int).toNat) (ji26)) (ji28)) = j_ := ⟨_, rfl⟩
        first | rw [hji30] at H | simp only [hji30] at H
        have hji30_ : (IntKind.u64.wrap ((rd (l0.drop ((ji8) : Int).toNat) (ji26)) * 2 ^ min (ji28).toNat 64)) = ji30 := hji30
        have hji30z : (ji28) ≤ 64 → (IntKind.u64.wrap ((rd (l0.drop ((ji8) : Int).toNat) (ji26)) * 2 ^ (ji28).toNat)) = ji30 := shl_small hji30
        obtain ⟨y606, hy606⟩ : ∃ y_ : List Int, y_ = (y603.set (x35_2 : Int).toNat (Go.bits .or .u64 (rd y603 x35_2) (ji30))) := ⟨_, rfl⟩
        replace H : (nat_Shr.l0 k2 (l0.drop ((ji8) : Int).toNat) (ji19) y606 ((l0.drop ((ji8) : Int).toNat).length : Int) ji26) = some (r1, r2) := by first | (rw [hy606]; with_reducible exact H) | (have H2_ := (Option.bind_some _ _).symm.trans H; rw [hy606]; with_reducible exact H2_) | (have H2_ := (Option.bind_some _ _).symm.trans H; with_reducible exact H2_) | with_reducible exact H | (rw [hy606]; exact H) | exact H
        have Ny606 := Aside0.mk hy606; clear hy606
        have H' := Aside0.mk H
        clear H
        have p602 : 0 ≤ (x35_2 : Int) := uO
        have q602 : x35_2 < ((l0.drop ((ji8) : Int).toNat).length : Int) := uO
        obtain ⟨ad602, e602, hx602_0⟩ := Kd.at_int HR598.out x35_2 p602 q602
        cases e602
        replace hx602_0 := (HB.out.cell (World.block_lt_of_cell? w _ hx602_0)).trans hx602_0
        replace p602 := eq_true p602
        replace q602 := eq_true q602
        (try (have q602z := q602; simp only [List.length_drop, List.length_take] at q602z))
        have p23 : 0 ≤ (x35_2 : Int) := uO
        have q23 : (x35_2 : Int) < ((x7_2.length : Int) : Int) := uO
        obtain ⟨go23, co23, eo23, gb23, gl23, cl23, HG23⟩ := Kd.R_form HO_7.out (by omega)
        (first | cases eo23 | (injection eo23 with ea_ en_ ec_; (first | subst ea_ | (injection ea_ with ea_; subst ea_)); subst ec_; clear en_))
        have GB23 := Aside0.mk gb23; have GG23 := Aside0.mk HG23; clear gb23 gl23 HG23
        obtain ⟨hx23_0, hf23_0⟩ := Kd.R_celln 0 HO_7.out (x35_2 : Int) p23 q23
        replace p23 := eq_true p23
        replace q23 := eq_true q23
        have HP32 := Kd.R_putg HO_7.out (x35_2 : Int) ji21
        try go_wp2_with (first | ((with_reducible refine gate_store (t := 27) (p := 46) rfl ?_); refine store_event (t := 27) (p := 46) (v := ?vo_w33) (w1 := (wr.setCell ⟨go23, (x35_2 : Int).toNat, none⟩ (.int .u64 ji21))) ?hg ?ho ?hn ?hr ?_; (case ho => rfl); (case hg => rfl); (case hn => rfl); (case hr => first | (go_simp; done) | (go_simp; rfl) | (obtain ⟨hy_, hz_⟩ := Kd.R_celln 0 HO_7.out (x35_2 : Int) uO uO; (try simp only [Go.IntWalk.toNatUp] at hy_ hz_); (try simp only [Int.reduceToNat, Int.toNat_zero, Int.toNat_ofNat] at hy_ hz_); first | (go_simp; done) | (go_simp; rfl))); intro w33 hw; have hg : wr.grownBy w33 (some go23) := (by rw [hw]; exact HP32.2); have hp_ : Kd.R (Kd.int .u64) 27 w33 w.heap.size (fun _ => True) (.slice (some ⟨go23, 0, none⟩) x7_2.length co23) y603 := (by rw [hw, Ny603.out]; exact HP32.1); clear HP32; replace HO_7 := Aside0.mk (hp_); replace HB := Aside0.mk ((by rw [hw]; exact below_set (HB.out) GB23.out : Below w.heap.size w w33)); clear hg hw hp_))
        replace HO_7 := Aside0.mk (Kd.R_drew HO_7.out); replace HB := Aside0.mk (below_drew1 HB.out)
        have p604 : 0 ≤ (x35_2 : Int) := uO
        have q604 : x35_2 < (y603.length : Int) := (by have h_ : (x35_2 : Int) < ((x7_2.length : Int) : Int) := uO; first | (have e_ := (Kd.R_reads' HO_7.out).1; omega) | simpa only [Ny603.out, List.length_set] using h_)
        have ql604 : ((x35_2 : Int) < ((x7_2.length : Int) : Int)) = True := eq_true uO
        obtain ⟨ad604, e604, hx604_0⟩ := Kd.at_int (Kd.R_reads' HO_7.out).2.2 x35_2 p604 q604
        obtain rfl : (⟨go23, 0, none⟩ : Addr) = ad604 := (by injection e604)
        (first | simp only [add_plain] at hx604_0 | simp only [add_at] at hx604_0 | simp only [Addr.add, Nat.zero_add] at hx604_0 | skip)
        replace p604 := eq_true p604
        replace q604 := eq_true q604
        have p605 : 0 ≤ ((ji26) : Int) := uO
        have q605 : (ji26) < ((l0.drop ((ji8) : Int).toNat).length : Int) := uO
        obtain ⟨ad605, e605, hx605_0⟩ := Kd.at_int HR598.out (ji26) p605 q605
        have hw605_0 := hx605_0
        obtain rfl : ad602 = ad605 := (by injection e605)
        replace hx605_0 := (HB.out.cell (World.block_lt_of_cell? w _ hx605_0)).trans hx605_0
        replace p605 := eq_true p605
        replace q605 := eq_true q605
        (try (have q605z := q605; simp only [List.length_drop, List.length_take] at q605z))
        have p31 : 0 ≤ (x35_2 : Int) := uO
        have q31 : (x35_2 : Int) < ((x7_2.length : Int) : Int) := uO
        obtain ⟨hx31_0, hf31_0⟩ := Kd.R_celln 0 HO_7.out (x35_2 : Int) p31 q31
        replace p31 := eq_true p31
        replace q31 := eq_true q31
        have HP35 := Kd.R_putn HO_7.out (x35_2 : Int) (Go.bits .or .u64 (rd y603 x35_2) (ji30))
        rw [← Ny606.out] at HP35
        have HQ35 := Aside0.mk HP35; clear HP35
        refine start_ (n := 15) (S := fun w' => w'.cell? ⟨go23, (x35_2).toNat, none⟩ = some (.int .u64 (rd y603 x35_2)) ∧ w'.cell? (ad602.add ((ji26)).toNat) = some (.int .u64 (rd (l0.drop ((ji8) : Int).toNat) (ji26)))) (ds := [14]) #[false,false,false,false,false,false,false,false,false,false,false,false,false,false,false] (by kernel_rfl) rfl rfl ⟨hx604_0, ((HB.out.cell (World.block_lt_of_cell? w _ hw605_0)).trans hw605_0)⟩ (fun hHeld => ?_); refine with_tabW nat_Shr.tab13 nat_Shr.bits13 (fun HT_ HW_ => ?_)
        generalize w33.drew = w34 at HO_7 HB HQ35 hf31_0 hx31_0 hx604_0 hx605_0 hHeld ⊢
        refine pure_ (i := 0) (N := some 56) (v := ?_) (a' := ?_) #[true,false,false,false,false,false,false,false,false,false,false,false,false,false,false] rfl rfl (any_of HT_.out (by kernel_rfl)) (fun _ _ _ h => h) (Or.inl ⟨by rfl, ?_⟩) ?_ ?_
        rotate_left
        ·
         intro w'
         go_simp
         with_reducible rfl
        rotate_left
        · exact uQ
        refine pure_ (i := 1) (N := some 57) (v := ?_) (a' := ?_) #[true,true,false,false,false,false,false,false,false,false,false,false,false,false,false] rfl rfl (any_of HT_.out (by kernel_rfl)) (fun _ _ _ h => h) (Or.inl ⟨by rfl, ?_⟩) ?_ ?_
        rotate_left
        ·
         intro w'
         go_simp
         with_reducible rfl
        rotate_left
        · exact uQ
        refine pure_ (i := 2) (N := some 58) (v := ?_) (a' := ?_) #[true,true,true,false,false,false,false,false,false,false,false,false,false,false,false] rfl rfl (any_of HT_.out (by kernel_rfl)) (fun _ _ _ h => h) (Or.inl ⟨by rfl, ?_⟩) ?_ ?_
        rotate_left
        ·
         intro w'
         go_simp
         with_reducible rfl
        rotate_left
        · exact uQ
        refine pure_ (i := 4) (N := some 60) (v := ?_) (a' := ?_) #[true,true,true,false,true,false,false,false,false,false,false,false,false,false,false] rfl rfl (any_of HT_.out (by kernel_rfl)) (fun _ _ _ h => h) (Or.inl ⟨by rfl, ?_⟩) ?_ ?_
        rotate_left
        ·
         intro w'
         go_simp
         with_reducible rfl
        rotate_left
        · exact uQ
        refine pure_ (i := 5) (N := some 61) (v := ?_) (a' := ?_) #[true,true,true,false,true,true,false,false,false,false,false,false,false,false,false] rfl rfl (any_of HT_.out (by kernel_rfl)) (fun _ _ _ h => h) (Or.inl ⟨by rfl, ?_⟩) ?_ ?_
        rotate_left
        ·
         intro w'
         go_simp
         with_reducible rfl
        rotate_left
        · exact uQ
        refine pure_ (i := 6) (N := some 62) (v := ?_) (a' := ?_) #[true,true,true,false,true,true,true,false,false,false,false,false,false,false,false] rfl rfl (any_of HT_.out (by kernel_rfl)) (fun _ _ _ h => h) (Or.inl ⟨by rfl, ?_⟩) ?_ ?_
        rotate_left
        ·
         intro w'
         go_simp
         with_reducible rfl
        rotate_left
        · exact uQ
        refine pure_ (i := 7) (N := some 63) (v := ?_) (a' := ?_) #[true,true,true,false,true,true,true,true,false,false,false,false,false,false,false] rfl rfl (any_of HT_.out (by kernel_rfl)) (fun _ _ _ h => h) (Or.inl ⟨by rfl, ?_⟩) ?_ ?_
        rotate_left
        ·
         intro w'
         go_simp
         with_reducible rfl
        rotate_left
        · exact uQ
        refine pure_ (i := 9) (N := some 65) (v := ?_) (a' := ?_) #[true,true,true,false,true,true,true,true,false,true,false,false,false,false,false] rfl rfl (any_of HT_.out (by kernel_rfl)) (fun _ _ _ h => h) (Or.inl ⟨by rfl, ?_⟩) ?_ ?_
        rotate_left
        ·
         intro w'
         go_simp
         with_reducible rfl
        rotate_left
        · exact uQ
        refine pure_ (i := 10) (N := some 66) (v := ?_) (a' := ?_) #[true,true,true,false,true,true,true,true,false,true,true,false,false,false,false] rfl rfl (any_of HT_.out (by kernel_rfl)) (fun _ _ _ h => h) (Or.inl ⟨by rfl, ?_⟩) ?_ ?_
        rotate_left
        ·
         intro w'
         go_simp
         with_reducible rfl
        rotate_left
        · exact uQ
        refine take_ (i := 3) (N := some 59) (v := ?_) (a' := ?_) #[true,true,true,true,true,true,true,true,false,true,true,false,false,false,false] rfl rfl (take_ofW HT_.out HW_.out (by kernel_rfl)) (fun _ _ _ h => h) (Or.inl ⟨by rfl, ?_⟩) hHeld ?_ ?_
        rotate_left
        ·
         rintro w' ⟨s0, s1⟩
         go_simp
         with_reducible rfl
        rotate_left
        · exact uQ
        refine take_ (i := 8) (N := some 64) (v := ?_) (a' := ?_) #[true,true,true,true,true,true,true,true,true,true,true,false,false,false,false] rfl rfl (take_ofW HT_.out HW_.out (by kernel_rfl)) (fun _ _ _ h => h) (Or.inl ⟨by rfl, ?_⟩) hHeld ?_ ?_
        rotate_left
        ·
         rintro w' ⟨s0, s1⟩
         go_simp
         with_reducible rfl
        rotate_left
        · exact uQ
        refine pure_ (i := 11) (N := some 67) (v := ?_) (a' := ?_) #[true,true,true,true,true,true,true,true,true,true,true,true,false,false,false] rfl rfl (any_of HT_.out (by kernel_rfl)) (fun _ _ _ h => h) (Or.inl ⟨by rfl, ?_⟩) ?_ ?_
        rotate_left
        ·
         intro w'
         go_simp
         with_reducible rfl
        rotate_left
        · exact uQ
        refine pure_ (i := 12) (N := some 68) (v := ?_) (a' := ?_) #[true,true,true,true,true,true,true,true,true,true,true,true,true,false,false] rfl rfl (any_of HT_.out (by kernel_rfl)) (fun _ _ _ h => h) (Or.inl ⟨by rfl, ?_⟩) ?_ ?_
        rotate_left
        ·
         intro w'
         go_simp
         with_reducible rfl
        rotate_left
        · exact uQ
        refine pure_ (i := 13) (N := some 69) (v := ?_) (a' := ?_) #[true,true,true,true,true,true,true,true,true,true,true,true,true,true,false] rfl rfl (any_of HT_.out (by kernel_rfl)) (fun _ _ _ h => h) (Or.inl ⟨by rfl, ?_⟩) ?_ ?_
        rotate_left
        ·
         intro w'
         go_simp
         with_reducible rfl
        rotate_left
        · exact uQ
        refine last_ (i := 14) (N := none) #[true,true,true,true,true,true,true,true,true,true,true,true,true,true,true] rfl rfl (one_of HT_.out (by kernel_rfl)) (by decide) (fun K hK => ?_)
        refine skip_ (w1 := ?_) (by rfl) rfl ?_ ?_
        rotate_left
        ·
         go_simp
         rfl
        refine hK.out _ _ ?_; clear hK K
        refine done_ (done_of HT_.out (by kernel_rfl)) ?_
        try go_wp2
        first | go_roundg k2 | ((try simp only [← hji30] at H'); simp only [← hji30]; go_roundg k2) | ((try simp only [← hji28] at H'); simp only [← hji28]; go_roundg k2) | ((try simp only [← hji26] at H'); simp only [← hji26]; go_roundg k2) | ((try simp only [← hji21] at H'); simp only [← hji21]; go_roundg k2) | ((try simp only [← hji19] at H'); simp only [← hji19]; go_roundg k2) | ((try simp only [← hji8] at H'); simp only [← hji8]; go_roundg k2)
        case measure => have := HJ2.out; have := HK2.out; omega
        case rel => first | exact ⟨(y606), (ji26), (by first | rfl | (simp; done) | (simp only [← hji26] <;> (first | rfl | simp)) | (simp [*]; done)), H', ⟨by have := HJ2.out; have := HK2.out; omega⟩, ⟨uR HQ35.out⟩, ⟨uB⟩⟩ | (simp only [← hji30] at H'; exact ⟨(y606), (ji26), (by first | rfl | (simp; done) | (simp only [← hji26] <;> (first | rfl | simp)) | (simp [*]; done)), H', ⟨by have := HJ2.out; have := HK2.out; omega⟩, ⟨uR HQ35.out⟩, ⟨uB⟩⟩) | (simp only [← hji28] at H'; exact ⟨(y606), (ji26), (by first | rfl | (simp; done) | (simp only [← hji26] <;> (first | rfl | simp)) | (simp [*]; done)), H', ⟨by have := HJ2.out; have := HK2.out; omega⟩, ⟨uR HQ35.out⟩, ⟨uB⟩⟩) | (simp only [← hji26] at H'; exact ⟨(y606), (ji26), (by first | rfl | (simp; done) | (simp only [← hji26] <;> (first | rfl | simp)) | (simp [*]; done)), H', ⟨by have := HJ2.out; have := HK2.out; omega⟩, ⟨uR HQ35.out⟩, ⟨uB⟩⟩) | (simp only [← hji21] at H'; exact ⟨(y606), (ji26), (by first | rfl | (simp; done) | (simp only [← hji26] <;> (first | rfl | simp)) | (simp [*]; done)), H', ⟨by have := HJ2.out; have := HK2.out; omega⟩, ⟨uR HQ35.out⟩, ⟨uB⟩⟩) | (simp only [← hji19] at H'; exact ⟨(y606), (ji26), (by first | rfl | (simp; done) | (simp only [← hji26] <;> (first | rfl | simp)) | (simp [*]; done)), H', ⟨by have := HJ2.out; have := HK2.out; omega⟩, ⟨uR HQ35.out⟩, ⟨uB⟩⟩) | (simp only [← hji8] at H'; exact ⟨(y606), (ji26), (by first | rfl | (simp; done) | (simp only [← hji26] <;> (first | rfl | simp)) | (simp [*]; done)), H', ⟨by have := HJ2.out; have := HK2.out; omega⟩, ⟨uR HQ35.out⟩, ⟨uB⟩⟩)
       rw [if_neg c25] at H
       have c25b0 : decide ((wrap64 (x35_2 + 1)) < ((l0.drop ((ji8) : Int).toNat).length : Int)) = false := decide_eq_false c25
       (try (have c25b0z := c25b0; simp only [List.length_drop, List.length_take] at c25b0z))
       clear c25
       have H' := Aside0.mk H
       clear H
       have p602 : 0 ≤ (x35_2 : Int) := uO
       have q602 : x35_2 < ((l0.drop ((ji8) : Int).toNat).length : Int) := uO
       obtain ⟨ad602, e602, hx602_0⟩ := Kd.at_int HR598.out x35_2 p602 q602
       cases e602
       replace hx602_0 := (HB.out.cell (World.block_lt_of_cell? w _ hx602_0)).trans hx602_0
       replace p602 := eq_true p602
       replace q602 := eq_true q602
       (try (have q602z := q602; simp only [List.length_drop, List.length_take] at q602z))
       have p23 : 0 ≤ (x35_2 : Int) := uO
       have q23 : (x35_2 : Int) < ((x7_2.length : Int) : Int) := uO
       obtain ⟨go23, co23, eo23, gb23, gl23, cl23, HG23⟩ := Kd.R_form HO_7.out (by omega)
       (first | cases eo23 | (injection eo23 with ea_ en_ ec_; (first | subst ea_ | (injection ea_ with ea_; subst ea_)); subst ec_; clear en_))
       have GB23 := Aside0.mk gb23; have GG23 := Aside0.mk HG23; clear gb23 gl23 HG23
       obtain ⟨hx23_0, hf23_0⟩ := Kd.R_celln 0 HO_7.out (x35_2 : Int) p23 q23
       replace p23 := eq_true p23
       replace q23 := eq_true q23
       have HP36 := Kd.R_putg HO_7.out (x35_2 : Int) ji21
       go_wp2_with (first | ((with_reducible refine gate_store (t := 27) (p := 46) rfl ?_); refine store_event (t := 27) (p := 46) (v := ?vo_w37) (w1 := (wr.setCell ⟨go23, (x35_2 : Int).toNat, none⟩ (.int .u64 ji21))) ?hg ?ho ?hn ?hr ?_; (case ho => rfl); (case hg => rfl); (case hn => rfl); (case hr => first | (go_simp; done) | (go_simp; rfl) | (obtain ⟨hy_, hz_⟩ := Kd.R_celln 0 HO_7.out (x35_2 : Int) uO uO; (try simp only [Go.IntWalk.toNatUp] at hy_ hz_); (try simp only [Int.reduceToNat, Int.toNat_zero, Int.toNat_ofNat] at hy_ hz_); first | (go_simp; done) | (go_simp; rfl))); intro w37 hw; have hg : wr.grownBy w37 (some go23) := (by rw [hw]; exact HP36.2); have hp_ : Kd.R (Kd.int .u64) 27 w37 w.heap.size (fun _ => True) (.slice (some ⟨go23, 0, none⟩) x7_2.length co23) y603 := (by rw [hw, Ny603.out]; exact HP36.1); clear HP36; replace HO_7 := Aside0.mk (hp_); replace HB := Aside0.mk ((by rw [hw]; exact below_set (HB.out) GB23.out : Below w.heap.size w w37)); clear hg hw hp_))
       first | go_roundg k2 | ((try simp only [← hji30] at H'); simp only [← hji30]; go_roundg k2) | ((try simp only [← hji28] at H'); simp only [← hji28]; go_roundg k2) | ((try simp only [← hji26] at H'); simp only [← hji26]; go_roundg k2) | ((try simp only [← hji21] at H'); simp only [← hji21]; go_roundg k2) | ((try simp only [← hji19] at H'); simp only [← hji19]; go_roundg k2) | ((try simp only [← hji8] at H'); simp only [← hji8]; go_roundg k2)
       case measure => have := HJ2.out; have := HK2.out; omega
       case rel => first | exact ⟨(y603), (wrap64 (x35_2 + 1)), uG, H', ⟨by have := HJ2.out; have := HK2.out; omega⟩, ⟨uR HO_7.out⟩, ⟨uB⟩⟩ | (simp only [← hji30] at H'; exact ⟨(y603), (wrap64 (x35_2 + 1)), uG, H', ⟨by have := HJ2.out; have := HK2.out; omega⟩, ⟨uR HO_7.out⟩, ⟨uB⟩⟩) | (simp only [← hji28] at H'; exact ⟨(y603), (wrap64 (x35_2 + 1)), uG, H', ⟨by have := HJ2.out; have := HK2.out; omega⟩, ⟨uR HO_7.out⟩, ⟨uB⟩⟩) | (simp only [← hji26] at H'; exact ⟨(y603), (wrap64 (x35_2 + 1)), uG, H', ⟨by have := HJ2.out; have := HK2.out; omega⟩, ⟨uR HO_7.out⟩, ⟨uB⟩⟩) | (simp only [← hji21] at H'; exact ⟨(y603), (wrap64 (x35_2 + 1)), uG, H', ⟨by have := HJ2.out; have := HK2.out; omega⟩, ⟨uR HO_7.out⟩, ⟨uB⟩⟩) | (simp only [← hji19] at H'; exact ⟨(y603), (wrap64 (x35_2 + 1)), uG, H', ⟨by have := HJ2.out; have := HK2.out; omega⟩, ⟨uR HO_7.out⟩, ⟨uB⟩⟩) | (simp only [← hji8] at H'; exact ⟨(y603), (wrap64 (x35_2 + 1)), uG, H', ⟨by have := HJ2.out; have := HK2.out; omega⟩, ⟨uR HO_7.out⟩, ⟨uB⟩⟩)
      rw [if_neg c24] at H
      have c24b0 : decide (0 < (ji19)) = false := decide_eq_false c24
      clear c24
      have H' := Aside0.mk H
      clear H
      have p602 : 0 ≤ (x35_2 : Int) := uO
      have q602 : x35_2 < ((l0.drop ((ji8) : Int).toNat).length : Int) := uO
      obtain ⟨ad602, e602, hx602_0⟩ := Kd.at_int HR598.out x35_2 p602 q602
      cases e602
      replace hx602_0 := (HB.out.cell (World.block_lt_of_cell? w _ hx602_0)).trans hx602_0
      replace p602 := eq_true p602
      replace q602 := eq_true q602
      (try (have q602z := q602; simp only [List.length_drop, List.length_take] at q602z))
      have p23 : 0 ≤ (x35_2 : Int) := uO
      have q23 : (x35_2 : Int) < ((x7_2.length : Int) : Int) := uO
      obtain ⟨go23, co23, eo23, gb23, gl23, cl23, HG23⟩ := Kd.R_form HO_7.out (by omega)
      (first | cases eo23 | (injection eo23 with ea_ en_ ec_; (first | subst ea_ | (injection ea_ with ea_; subst ea_)); subst ec_; clear en_))
      have GB23 := Aside0.mk gb23; have GG23 := Aside0.mk HG23; clear gb23 gl23 HG23
      obtain ⟨hx23_0, hf23_0⟩ := Kd.R_celln 0 HO_7.out (x35_2 : Int) p23 q23
      replace p23 := eq_true p23
      replace q23 := eq_true q23
      have HP38 := Kd.R_putg HO_7.out (x35_2 : Int) ji21
      go_wp2_with (first | ((with_reducible refine gate_store (t := 27) (p := 46) rfl ?_); refine store_event (t := 27) (p := 46) (v := ?vo_w39) (w1 := (wr.setCell ⟨go23, (x35_2 : Int).toNat, none⟩ (.int .u64 ji21))) ?hg ?ho ?hn ?hr ?_; (case ho => rfl); (case hg => rfl); (case hn => rfl); (case hr => first | (go_simp; done) | (go_simp; rfl) | (obtain ⟨hy_, hz_⟩ := Kd.R_celln 0 HO_7.out (x35_2 : Int) uO uO; (try simp only [Go.IntWalk.toNatUp] at hy_ hz_); (try simp only [Int.reduceToNat, Int.toNat_zero, Int.toNat_ofNat] at hy_ hz_); first | (go_simp; done) | (go_simp; rfl))); intro w39 hw; have hg : wr.grownBy w39 (some go23) := (by rw [hw]; exact HP38.2); have hp_ : Kd.R (Kd.int .u64) 27 w39 w.heap.size (fun _ => True) (.slice (some ⟨go23, 0, none⟩) x7_2.length co23) y603 := (by rw [hw, Ny603.out]; exact HP38.1); clear HP38; replace HO_7 := Aside0.mk (hp_); replace HB := Aside0.mk ((by rw [hw]; exact below_set (HB.out) GB23.out : Below w.heap.size w w39)); clear hg hw hp_))
      first | go_roundg k2 | ((try simp only [← hji30] at H'); simp only [← hji30]; go_roundg k2) | ((try simp only [← hji28] at H'); simp only [← hji28]; go_roundg k2) | ((try simp only [← hji26] at H'); simp only [← hji26]; go_roundg k2) | ((try simp only [← hji21] at H'); simp only [← hji21]; go_roundg k2) | ((try simp only [← hji19] at H'); simp only [← hji19]; go_roundg k2) | ((try simp only [← hji8] at H'); simp only [← hji8]; go_roundg k2)
      case measure => have := HJ2.out; have := HK2.out; omega
      case rel => first | exact ⟨(y603), (wrap64 (x35_2 + 1)), uG, H', ⟨by have := HJ2.out; have := HK2.out; omega⟩, ⟨uR HO_7.out⟩, ⟨uB⟩⟩ | (simp only [← hji30] at H'; exact ⟨(y603), (wrap64 (x35_2 + 1)), uG, H', ⟨by have := HJ2.out; have := HK2.out; omega⟩, ⟨uR HO_7.out⟩, ⟨uB⟩⟩) | (simp only [← hji28] at H'; exact ⟨(y603), (wrap64 (x35_2 + 1)), uG, H', ⟨by have := HJ2.out; have := HK2.out; omega⟩, ⟨uR HO_7.out⟩, ⟨uB⟩⟩) | (simp only [← hji26] at H'; exact ⟨(y603), (wrap64 (x35_2 + 1)), uG, H', ⟨by have := HJ2.out; have := HK2.out; omega⟩, ⟨uR HO_7.out⟩, ⟨uB⟩⟩) | (simp only [← hji21] at H'; exact ⟨(y603), (wrap64 (x35_2 + 1)), uG, H', ⟨by have := HJ2.out; have := HK2.out; omega⟩, ⟨uR HO_7.out⟩, ⟨uB⟩⟩) | (simp only [← hji19] at H'; exact ⟨(y603), (wrap64 (x35_2 + 1)), uG, H', ⟨by have := HJ2.out; have := HK2.out; omega⟩, ⟨uR HO_7.out⟩, ⟨uB⟩⟩) | (simp only [← hji8] at H'; exact ⟨(y603), (wrap64 (x35_2 + 1)), uG, H', ⟨by have := HJ2.out; have := HK2.out; omega⟩, ⟨uR HO_7.out⟩, ⟨uB⟩⟩)
     rw [if_neg c16] at H
     have c16b0 : decide (x35_2 < ((l0.drop ((ji8) : Int).toNat).length : Int)) = false := decide_eq_false c16
     (try (have c16b0z := c16b0; simp only [List.length_drop, List.length_take] at c16b0z))
     clear c16
     replace H := ub H; obtain ⟨⟨t607, t610⟩, A40, H⟩ := H
     (try dsimp only at H)
     simp only [Option.some.injEq, Prod.mk.injEq] at H
     obtain ⟨rfl, rfl⟩ := H
     obtain ⟨Ao41, co41, eo41⟩ := Kd.R_slice HO_7.out
     subst eo41
     go_wp2_with (first | ((with_reducible refine gate_callee (f := 116) rfl ?_); refine goesL_ (some 72) rfl rfl Try.func116 (by kernel_rfl) rfl #[.slice Ao41 x7_2.length co41] rfl uM ?_; (with_reducible refine (nat_told.calls k2 (fun k_ => some k_ = (.slice Ao41 x7_2.length co41 : Value).ownBlock) (.slice Ao41 x7_2.length co41) x7_2 t607 t610 w _ ?side1 ?side2 A40.out).mono ?_); (case side1 => repeat (first | (with_reducible first | exact HB.out | apply below_alloc | apply pw_below_drewN | apply below_drew1) | exact HB.out)); (case side2 => exact Kd.R_tight rfl HO_7.out); rintro e w42 ⟨v608, rfl, ho0, hb, hkp⟩; refine ⟨_, rfl, ?_⟩; have HO609 := Aside0.mk (Kd.R_mono (ok' := fun k_ => True) ho0 (fun k_ hk_ => trivial)); replace HB := Aside0.mk (hb); clear HO_7; (try clear hb); (try clear hkp); (try clear ho0)))
     go_ret2
     exact ⟨_, by first | rfl | (simp [errW_none, errW_some] <;> rfl) | (simp only [← hji8]; first | rfl | (simp [errW_none, errW_some] <;> rfl)) | (simp [*, errW_none, errW_some] <;> rfl), uR HO609.out, uB⟩
end Go.Proofs.Ytgeanpnkllnipab.F
end
section
namespace Go.Proofs.Ytgeanpnkllnipab.F
open Go.RowKit Go.Proofs.YtgeanpnkllnipabW.PrintWords Go.Proofs.YtgeanpnkllnipabW.PrintLast Go.Proofs.YtgeanpnkllnipabW.PrintMore
attribute [local go_sem] max2_int min2_int max_two min_two max_three min_three max_four min_four
set_option linter.unusedVariables false
set_option linter.unusedSimpArgs false
def fixenc_modulus_half.f (k : Nat) (l0 : List Int) : Option (List Int) := (nat_Shr.f k l0 1).bind fun bt611 => ((nat_Bit.f l0 0).bind fun t615 => (if t615 = true then (some bt611.1) else ((nat_Sub.f k bt611.1 (([1] : List Int))).bind fun bt619 => (some bt619.1))))
set_option maxHeartbeats 8000000 in
set_option maxRecDepth 100000 in
theorem fixenc_modulus_half.calls (k : Nat) (A0 : Option Addr) (c0 : Nat) (l0 : List Int) (r : List Int) (w : World) (hr0 : Kd.C (Kd.int .u64) w A0 l0.length l0) (hc0 : l0.length ≤ c0) (h : fixenc_modulus_half.f k l0 = some r) :
  Calls Try.prog 108 #[.slice A0 l0.length c0] w fun e w' => ∃ v0_ : Value, e = .returned (v0_) ∧ Kd.R (Kd.int .u64) 27 w' w.heap.size (fun _ => True) v0_ r ∧ Below w.heap.size w w' := by
 have HR0 := Aside0.mk hr0; have HC0 := Aside0.mk hc0; clear hr0 hc0
 have HB := Aside0.mk (Below.refl w.heap.size w)
 have H : ((nat_Shr.f k l0 1).bind fun bt611 => ((nat_Bit.f l0 0).bind fun t615 => (if t615 = true then (some bt611.1) else ((nat_Sub.f k bt611.1 (([1] : List Int))).bind fun bt619 => (some bt619.1))))) = some r := h
 clear h
 replace H := ub H; obtain ⟨⟨t611, t612⟩, A2, H⟩ := H
 (try dsimp only at H)
 replace H := ub H; obtain ⟨t615, A3, H⟩ := H
 by_cases c4 : t615 = true
 ·
  subst c4
  have H1 : (some t611) = some r := by rw [if_pos rfl] at H; exact H
  clear H; have H := H1; clear H1
  obtain rfl := Option.some.inj H
  go_enter Try.func108, Try.ntmps108
  go_wp2_with (first | ((with_reducible refine gate_callee (f := 128) rfl ?_); refine goesL_ (some 7) rfl rfl Try.func128 (by kernel_rfl) rfl #[.slice A0 l0.length c0, .int .i64 1] rfl uM ?_; (with_reducible refine (nat_Shr.calls k _ _ l0 1 t611 t612 _ ?side1 ?side2 A2.out).mono ?_); (case side1 => exact uC HR0.out); (case side2 => exact HC0.out); rintro e w5 ⟨v613, rfl, ho0, hb⟩; refine ⟨_, rfl, ?_⟩; have HO614 := Aside0.mk (Kd.R_lower ho0 (below_size uB)); replace HB := uy hb; (try clear hb ho0)) | ((with_reducible refine gate_callee (f := 49) rfl ?_); refine goesL_ (some 11) rfl rfl Try.func49 (by kernel_rfl) rfl #[.slice A0 l0.length c0, .int .i64 0] rfl uM ?_; (with_reducible refine (nat_Bit.calls _ _ l0 0 true _ ?side1 ?side2 A3.out).mono ?_); (case side1 => exact uC (Kd.C_below HR0.out HB.out)); (case side2 => exact HC0.out); rintro e w' ⟨rfl, ⟨nd, rfl⟩⟩; refine ⟨_, rfl, ?_⟩))
  go_ret
  exact ⟨_, uF, uR HO614.out, uB⟩
 replace c4 := Bool.eq_false_iff.mpr c4
 subst c4
 have H1 : ((nat_Sub.f k t611 (([1] : List Int))).bind fun bt619 => (some bt619.1)) = some r := by rw [if_neg (show ¬ (false = true) by decide)] at H; exact H
 clear H; have H := H1; clear H1
 obtain ⟨y616, hy616⟩ : ∃ y_ : List Int, y_ = (([1] : List Int)) := ⟨_, rfl⟩
 replace H : ((nat_Sub.f k t611 y616).bind fun bt619 => (some bt619.1)) = some r := by first | (rw [hy616]; with_reducible exact H) | (have H2_ := (Option.bind_some _ _).symm.trans H; rw [hy616]; with_reducible exact H2_) | (have H2_ := (Option.bind_some _ _).symm.trans H; with_reducible exact H2_) | with_reducible exact H | (rw [hy616]; exact H) | exact H
 have Ny616 := Aside0.mk hy616; clear hy616
 replace H := ub H; obtain ⟨⟨t619, t622⟩, A6, H⟩ := H
 (try dsimp only at H)
 obtain rfl := Option.some.inj H
 go_enter Try.func108, Try.ntmps108
 go_wp2_with (first | ((with_reducible refine gate_callee (f := 128) rfl ?_); refine goesL_ (some 7) rfl rfl Try.func128 (by kernel_rfl) rfl #[.slice A0 l0.length c0, .int .i64 1] rfl uM ?_; (with_reducible refine (nat_Shr.calls k _ _ l0 1 t611 t612 _ ?side1 ?side2 A2.out).mono ?_); (case side1 => exact uC HR0.out); (case side2 => exact HC0.out); rintro e w7 ⟨v613, rfl, ho0, hb⟩; refine ⟨_, rfl, ?_⟩; have HO614 := Aside0.mk (Kd.R_lower ho0 (below_size uB)); replace HB := uy hb; (try clear hb ho0)) | ((with_reducible refine gate_callee (f := 49) rfl ?_); refine goesL_ (some 11) rfl rfl Try.func49 (by kernel_rfl) rfl #[.slice A0 l0.length c0, .int .i64 0] rfl uM ?_; (with_reducible refine (nat_Bit.calls _ _ l0 0 false _ ?side1 ?side2 A3.out).mono ?_); (case side1 => exact uC (Kd.C_below HR0.out HB.out)); (case side2 => exact HC0.out); rintro e w' ⟨rfl, ⟨nd, rfl⟩⟩; refine ⟨_, rfl, ?_⟩) | ((with_reducible refine gate_dst (N := 15) rfl ?_); refine Kd.R_lit (Kd.int .u64) _ 27 ?hg (N := 15) ?hd (xs := ([1] : List Int)) (inner := [.int .u64 1]) (ok := fun _ => True) (okp := fun _ => True) ?hr ?hp (fun _ hk => hk) trivial (Below.refl _ _) (Nat.le_refl _) (by simp) ?_; (case hd => rfl); (case hg => rfl); (case hr => first | (go_simp; done) | (go_simp; rfl) | (go_simp; simp only [u64_u8]; done) | (go_simp; simp only [u64_u8]; rfl)); (case hp => exact (Reps.one (show Kd.M (Kd.int .u64) _ _ _ 1 [.int .u64 1] from rfl) (Reps.none _ _))); intro v617 w8 ho9 hb hg_ hnew_; clear hg_ hnew_; (first | rw [← Ny616.out] at ho9 | (simp only [Int.reduceToNat] at ho9; rw [← Ny616.out] at ho9)); have HO618 := Aside0.mk (Kd.R_lower (Kd.R_new' ho9 (Kd.R_lt (uR HO614.out))) (below_size uB)); replace HO614 := ueR HO614 ho9 hb; replace HB := uy hb; clear hb ho9; obtain ⟨Ao10, co10, eo10⟩ := Kd.R_slice HO614.out; subst eo10; obtain ⟨Ao11, co11, eo11⟩ := Kd.R_slice HO618.out; subst eo11) | ((with_reducible refine gate_callee (f := 80) rfl ?_); refine goesL_ (some 16) rfl rfl Try.func80 (by kernel_rfl) rfl #[.slice Ao10 t611.length co10, .slice Ao11 y616.length co11] rfl uM ?_; (with_reducible refine (nat_Sub.calls k (fun k_ => some k_ = (.slice Ao10 t611.length co10 : Value).ownBlock) _ _ t611 (fun k_ => some k_ = (.slice Ao11 y616.length co11 : Value).ownBlock) _ _ y616 t619 t622 _ ?side1 ?side2 A6.out).mono ?_); (case side1 => exact Kd.R_V (Kd.R_tight rfl (HO614.out))); (case side2 => exact Kd.R_V (Kd.R_tight rfl (HO618.out))); rintro e w12 ⟨v620, rfl, ho0, hb⟩; refine ⟨_, rfl, ?_⟩; have HO621 := Aside0.mk (Kd.R_lower (Kd.R_new' (Kd.R_new' (Kd.R_mono (ok' := fun k_ => True) ho0 (fun _ hk_ => trivial)) (Kd.R_lt (uR HO614.out))) (Kd.R_lt (uR HO618.out))) (below_size uB)); replace HO614 := ueR HO614 ho0 hb; replace HO618 := ueR HO618 ho0 hb; replace HB := uy hb; (try clear hb ho0)))
 go_ret
 exact ⟨_, uF, by (with_reducible repeat (first | apply Kd.R_alloc | apply Kd.R_drewN | apply Kd.R_drew)); exact Kd.R_mono HO621.out (fun _ hk => trivial), uB⟩
end Go.Proofs.Ytgeanpnkllnipab.F
end
section
namespace Go.Proofs.Ytgeanpnkllnipab.F
open Go.RowKit Go.Proofs.YtgeanpnkllnipabW.PrintWords Go.Proofs.YtgeanpnkllnipabW.PrintLast Go.Proofs.YtgeanpnkllnipabW.PrintMore
set_option linter.unusedVariables false
set_option linter.unusedSimpArgs false
def fixenc_fits.f (k : Nat) (l0 : List Int) (l1 : List Int) : Option Bool := (fixenc_modulus_half.f k l0).bind fun t => (nat_Cmp.f k l1 t).bind fun c => some (decide (c ≤ 0))
set_option maxHeartbeats 8000000 in
set_option maxRecDepth 100000 in
theorem fixenc_fits.calls (k : Nat) (A0 : Option Addr) (c0 : Nat) (l0 : List Int) (A1 : Option Addr) (c1 : Nat) (l1 : List Int) (r : Bool) (w : World) (hr0 : Kd.C (Kd.int .u64) w A0 l0.length l0) (hc0 : l0.length ≤ c0) (hr1 : Kd.C (Kd.int .u64) w A1 l1.length l1) (hc1 : l1.length ≤ c1) (h : fixenc_fits.f k l0 l1 = some r) :
    Calls Try.prog 70 #[.slice A0 l0.length c0, .slice A1 l1.length c1] w fun e w' => e = .returned (.bool r) ∧ Below w.heap.size w w' := by
  unfold fixenc_fits.f at h
  cases ht : fixenc_modulus_half.f k l0 with
  | none => rw [ht] at h; simp at h
  | some t =>
    rw [ht] at h
    simp only [Option.bind_some] at h
    cases hcm : nat_Cmp.f k l1 t with
    | none => rw [hcm] at h; simp at h
    | some c =>
      rw [hcm] at h
      simp only [Option.bind_some, Option.some.injEq] at h
      subst h
      have HT := Aside0.mk ht
      have HM := Aside0.mk hcm
      have HC0 := Aside0.mk hr0
      have HC1 := Aside0.mk hr1
      have HL0 := Aside0.mk hc0
      have HL1 := Aside0.mk hc1
      clear ht hcm hr0 hr1 hc0 hc1
      go_enter Try.func70, Try.ntmps70
      go_wp2_with (first
        | (go_at_call 108; refine (fixenc_modulus_half.calls k A0 c0 l0 t w HC0.out HL0.out HT.out).mono ?_; rintro e w1 ⟨v1, rfl, ho, hb⟩; obtain ⟨Ao, co, eo⟩ := Kd.R_slice ho; subst eo; have HO := Aside0.mk ho; have HB := Aside0.mk hb; clear ho hb)
        | (go_at_call 82; refine (nat_Cmp.calls k (fun k_ => k_ < w1.heap.size) A1 c1 l1 (fun k_ => k_ < w1.heap.size) Ao co t c w1 (Kd.V_mk HL1.out (Kd.C_F (Kd.heap_int _) (Kd.C_below HC1.out HB.out))) (Kd.V_mk (Kd.R_reads' HO.out).2.1 (Kd.C_F (Kd.heap_int _) (Kd.R_reads' HO.out).2.2)) HM.out).mono ?_; rintro e w2 ⟨rfl, hb2⟩; have HB2 := Aside0.mk (below_step HB.out hb2); clear hb2))
      go_ret
      exact ⟨by simp, HB2.out⟩
end Go.Proofs.Ytgeanpnkllnipab.F
end
section
namespace Go.Proofs.Ytgeanpnkllnipab.F
open Go.RowKit Go.Proofs.YtgeanpnkllnipabW.PrintWords Go.Proofs.YtgeanpnkllnipabW.PrintLast Go.Proofs.YtgeanpnkllnipabW.PrintMore
attribute [local go_sem] max2_int min2_int max_two min_two max_three min_three max_four min_four
set_option linter.unusedVariables false
set_option linter.unusedSimpArgs false
def fixenc_Encode.j0 : Nat → List Int → Bool → Bool → List Int → Option (List Int × Int)
 | 0, _, _, _, _ => none
 | k + 1, x0, x6, x655000, x655001 => if x6 = true then (some (([] : List Int), 1)) else ((fixenc_fits.f k x0 x655001).bind fun t657 => (if t657 = true then (if x655000 = true then ((nat_Sub.f k x0 x655001).bind fun bt658 => (some (bt658.1, bt658.2))) else ((nat_Add.f k x655001 ([] : List Int)).bind fun bt662 => (some (bt662.1, bt662.2)))) else (some (([] : List Int), 12))))
def fixenc_Encode.f (k : Nat) (l0 : List Int) (a1_0 : Bool) (l1_1 : List Int) : Option (List Int × Int) := (fixenc_modulus_may.f k l0).bind fun t655 => (if t655 = true then ((modint_Right.f a1_0 l1_1).bind fun t656 => (fixenc_Encode.j0 k l0 (!t656) a1_0 l1_1)) else (fixenc_Encode.j0 k l0 true a1_0 l1_1))
set_option maxHeartbeats 8000000 in
set_option maxRecDepth 100000 in
theorem fixenc_Encode.calls (k : Nat) (A0 : Option Addr) (c0 : Nat) (l0 : List Int) (a1_0 : Bool) (A1_1 : Option Addr) (c1_1 : Nat) (l1_1 : List Int) (r1 : List Int) (r2 : Int) (w : World) (hr0 : Kd.C (Kd.int .u64) w A0 l0.length l0) (hc0 : l0.length ≤ c0) (hr1_1 : Kd.C (Kd.int .u64) w A1_1 l1_1.length l1_1) (hc1_1 : l1_1.length ≤ c1_1) (h : fixenc_Encode.f k l0 a1_0 l1_1 = some (r1, r2)) :
  Calls Try.prog 35 #[.slice A0 l0.length c0, .agg #[.bool a1_0, .slice A1_1 l1_1.length c1_1]] w fun e w' => ∃ v0_ : Value, e = .returned (.tuple #[v0_, .int .i64 r2]) ∧ Kd.R (Kd.int .u64) 27 w' w.heap.size (fun _ => True) v0_ r1 ∧ Below w.heap.size w w' := by
 have hu52 := Try.underlying52
 have HR0 := Aside0.mk hr0; have HC0 := Aside0.mk hc0; clear hr0 hc0; have HR1_1 := Aside0.mk hr1_1; have HC1_1 := Aside0.mk hc1_1; clear hr1_1 hc1_1
 have HB := Aside0.mk (Below.refl w.heap.size w)
 have H : ((fixenc_modulus_may.f k l0).bind fun t655 => (if t655 = true then ((modint_Right.f a1_0 l1_1).bind fun t656 => (fixenc_Encode.j0 k l0 (!t656) a1_0 l1_1)) else (fixenc_Encode.j0 k l0 true a1_0 l1_1))) = some (r1, r2) := h
 clear h; have HC3 := Aside0.mk H; clear H
 go_enter Try.func35, Try.ntmps35
 go_upto_region 1 with (first | ((with_reducible refine gate_dst (N := 3) rfl ?_); refine box_event ?hg (N := 3) ?hd (cs := #[.bool a1_0, .slice A1_1 l1_1.length c1_1]) (t := 52) ?hr ?_; (case hd => rfl); (case hg => rfl); (case hr => first | (go_simp; done) | (go_simp; rfl)); intro gb654 hg w4 hbox hb; have BK654 := Aside0.mk (hbox); have GW654 := us hg; have GE654 := us hg; replace HB := uy hb; clear hb hbox hg))
 (try simp only [Act.put, List.setIfInBounds_toArray, List.set_cons_zero, List.set_cons_succ])
 go_cut [6] (fun v6 wc => ∃ (kq : Nat) (x6_2 : Bool), v6 = .bool x6_2 ∧ Aside0 (fixenc_Encode.j0 kq l0 x6_2 a1_0 l1_1 = some (r1, r2)) ∧ Aside0 (kq ≤ k) ∧ Aside0 (wc.heap[gb654]? = some (.cells #[.bool a1_0, (.slice A1_1 l1_1.length c1_1)] 52 (0, 0))) ∧ Aside0 (Below w.heap.size w wc))
 case first =>
  have H := HC3.out
  clear HC3
  replace H := ub H; obtain ⟨t655, A5, H⟩ := H
  by_cases c6 : t655 = true
  ·
   subst c6
   have H1 : ((modint_Right.f a1_0 l1_1).bind fun t656 => (fixenc_Encode.j0 k l0 (!t656) a1_0 l1_1)) = some (r1, r2) := by rw [if_pos rfl] at H; exact H
   clear H; have H := H1; clear H1
   replace H := ub H; obtain ⟨t656, A7, H⟩ := H
   have H' := Aside0.mk H
   clear H
   go_wp2_with (first | ((with_reducible refine gate_callee (f := 55) rfl ?_); refine goesL_ (some 8) rfl rfl Try.func55 (by kernel_rfl) rfl #[.slice A0 l0.length c0] rfl uM ?_; (with_reducible refine (fixenc_modulus_may.calls k _ _ l0 true _ ?side1 ?side2 A5.out).mono ?_); (case side1 => exact uC (Kd.C_below HR0.out HB.out)); (case side2 => exact HC0.out); rintro e w8 ⟨rfl, hb⟩; refine ⟨_, rfl, ?_⟩; replace BK654 := ux BK654 hb; replace HB := uy hb; (try clear hb); have hcz9_0 : w8.cell? ⟨gb654, 0, none⟩ = some (.bool a1_0) := (blk_cell BK654.out 0).trans rfl; have hcz9_1 : w8.cell? ⟨gb654, 1, none⟩ = some (.slice A1_1 l1_1.length c1_1) := (blk_cell BK654.out 1).trans rfl; have hfz9_0 := blk_frozen BK654.out 0; have hfz9_1 := blk_frozen BK654.out 1) | (go_at_call 79; (with_reducible refine (modint_Right.calls a1_0 _ _ l1_1 t656 _ ?side1 ?side2 A7.out).mono ?_); (case side1 => exact uC (Kd.C_below HR1_1.out HB.out)); (case side2 => exact HC1_1.out); rintro e w10 ⟨rfl, hb⟩; replace BK654 := ux BK654 hb; replace HB := uy hb; (try clear hb)))
   go_meet
   case rel => exact ⟨_, (!t656), uG, H', ⟨uW⟩, ⟨uK BK654.out⟩, ⟨uB⟩⟩
  replace c6 := Bool.eq_false_iff.mpr c6
  subst c6
  have H1 : (fixenc_Encode.j0 k l0 true a1_0 l1_1) = some (r1, r2) := by rw [if_neg (show ¬ (false = true) by decide)] at H; exact H
  clear H; have H := H1; clear H1
  have H' := Aside0.mk H
  clear H
  go_wp2_with (first | ((with_reducible refine gate_callee (f := 55) rfl ?_); refine goesL_ (some 8) rfl rfl Try.func55 (by kernel_rfl) rfl #[.slice A0 l0.length c0] rfl uM ?_; (with_reducible refine (fixenc_modulus_may.calls k _ _ l0 false _ ?side1 ?side2 A5.out).mono ?_); (case side1 => exact uC (Kd.C_below HR0.out HB.out)); (case side2 => exact HC0.out); rintro e w11 ⟨rfl, hb⟩; refine ⟨_, rfl, ?_⟩; replace BK654 := ux BK654 hb; replace HB := uy hb; (try clear hb)))
  go_meet
  case rel => exact ⟨_, (true), uG, H', ⟨uW⟩, ⟨uK BK654.out⟩, ⟨uB⟩⟩
 case rest =>
  clear HC3; (try clear c1); (try clear p2); (try clear c3); (try clear c5); (try clear c6); (try clear hcz9_0 hcz9_1); (try clear hfz9_0 hfz9_1)
  obtain ⟨kq, x6_2, rfl, HA, HJ2, BK654, HB⟩ := hcut
  cases kq with
  | zero => exact absurd HA.out (by simp [fixenc_Encode.j0])
  | succ kj2 =>
   have H := HA.out
   clear HA
   simp only [fixenc_Encode.j0] at H
   by_cases c12 : x6_2 = true
   ·
    subst c12
    have H1 : (some (([] : List Int), 1)) = some (r1, r2) := by rw [if_pos rfl] at H; exact H
    clear H; have H := H1; clear H1
    simp only [Option.some.injEq, Prod.mk.injEq] at H
    obtain ⟨rfl, rfl⟩ := H
    go_wp2
    go_ret2
    exact ⟨_, uF, uI, uB⟩
   replace c12 := Bool.eq_false_iff.mpr c12
   subst c12
   have H1 : ((fixenc_fits.f kj2 l0 l1_1).bind fun t657 => (if t657 = true then (if a1_0 = true then ((nat_Sub.f kj2 l0 l1_1).bind fun bt658 => (some (bt658.1, bt658.2))) else ((nat_Add.f kj2 l1_1 ([] : List Int)).bind fun bt662 => (some (bt662.1, bt662.2)))) else (some (([] : List Int), 12)))) = some (r1, r2) := by rw [if_neg (show ¬ (false = true) by decide)] at H; exact H
   clear H; have H := H1; clear H1
   replace H := ub H; obtain ⟨t657, A13, H⟩ := H
   by_cases c14 : t657 = true
   ·
    subst c14
    have H1 : (if a1_0 = true then ((nat_Sub.f kj2 l0 l1_1).bind fun bt658 => (some (bt658.1, bt658.2))) else ((nat_Add.f kj2 l1_1 ([] : List Int)).bind fun bt662 => (some (bt662.1, bt662.2)))) = some (r1, r2) := by rw [if_pos rfl] at H; exact H
    clear H; have H := H1; clear H1
    by_cases c15 : a1_0 = true
    ·
     subst c15
     have H1 : ((nat_Sub.f kj2 l0 l1_1).bind fun bt658 => (some (bt658.1, bt658.2))) = some (r1, r2) := by rw [if_pos rfl] at H; exact H
     clear H; have H := H1; clear H1
     replace H := ub H; obtain ⟨⟨t658, t661⟩, A16, H⟩ := H
     (try dsimp only at H)
     simp only [Option.some.injEq, Prod.mk.injEq] at H
     obtain ⟨rfl, rfl⟩ := H
     have hcz17_0 : wc.cell? ⟨gb654, 0, none⟩ = some (.bool true) := (blk_cell BK654.out 0).trans rfl; have hcz17_1 : wc.cell? ⟨gb654, 1, none⟩ = some (.slice A1_1 l1_1.length c1_1) := (blk_cell BK654.out 1).trans rfl; have hfz17_0 := blk_frozen BK654.out 0; have hfz17_1 := blk_frozen BK654.out 1
     go_wp2_with (first | ((with_reducible refine gate_callee (f := 70) rfl ?_); refine goesL_ (some 19) rfl rfl Try.func70 (by kernel_rfl) rfl #[.slice A0 l0.length c0, .slice A1_1 l1_1.length c1_1] rfl uM ?_; (with_reducible refine (fixenc_fits.calls kj2 _ _ l0 _ _ l1_1 true _ ?side1 ?side2 ?side3 ?side4 A13.out).mono ?_); (case side1 => exact uC (Kd.C_below HR0.out HB.out)); (case side2 => exact HC0.out); (case side3 => exact uC (Kd.C_below HR1_1.out HB.out)); (case side4 => exact HC1_1.out); rintro e w18 ⟨rfl, hb⟩; refine ⟨_, rfl, ?_⟩; replace BK654 := ux BK654 hb; replace HB := uy hb; (try clear hb); have hcz19_0 : w18.cell? ⟨gb654, 0, none⟩ = some (.bool true) := (blk_cell BK654.out 0).trans rfl; have hcz19_1 : w18.cell? ⟨gb654, 1, none⟩ = some (.slice A1_1 l1_1.length c1_1) := (blk_cell BK654.out 1).trans rfl; have hfz19_0 := blk_frozen BK654.out 0; have hfz19_1 := blk_frozen BK654.out 1) | ((with_reducible refine gate_callee (f := 80) rfl ?_); refine goesL_ (some 27) rfl rfl Try.func80 (by kernel_rfl) rfl #[.slice A0 l0.length c0, .slice A1_1 l1_1.length c1_1] rfl uM ?_; (with_reducible refine (nat_Sub.calls kj2 (fun k_ => k_ < w.heap.size) _ _ l0 (fun k_ => k_ < w.heap.size) _ _ l1_1 t658 t661 _ ?side1 ?side2 A16.out).mono ?_); (case side1 => exact Kd.V_mk HC0.out (Kd.F_below (Kd.C_F (Kd.heap_int .u64) HR0.out) uB)); (case side2 => exact Kd.V_mk HC1_1.out (Kd.F_below (Kd.C_F (Kd.heap_int .u64) HR1_1.out) uB)); rintro e w20 ⟨v659, rfl, ho0, hb⟩; refine ⟨_, rfl, ?_⟩; have HO660 := Aside0.mk (Kd.R_lower (Kd.R_mono (ok' := fun k_ => True) ho0 (fun _ hk_ => trivial)) (below_size uB)); replace BK654 := ux BK654 hb; replace HB := uy hb; (try clear hb ho0)))
     go_ret2
     exact ⟨_, uF, uR HO660.out, uB⟩
    replace c15 := Bool.eq_false_iff.mpr c15
    subst c15
    have H1 : ((nat_Add.f kj2 l1_1 ([] : List Int)).bind fun bt662 => (some (bt662.1, bt662.2))) = some (r1, r2) := by rw [if_neg (show ¬ (false = true) by decide)] at H; exact H
    clear H; have H := H1; clear H1
    replace H := ub H; obtain ⟨⟨t662, t665⟩, A21, H⟩ := H
    (try dsimp only at H)
    simp only [Option.some.injEq, Prod.mk.injEq] at H
    obtain ⟨rfl, rfl⟩ := H
    have hcz22_0 : wc.cell? ⟨gb654, 0, none⟩ = some (.bool false) := (blk_cell BK654.out 0).trans rfl; have hcz22_1 : wc.cell? ⟨gb654, 1, none⟩ = some (.slice A1_1 l1_1.length c1_1) := (blk_cell BK654.out 1).trans rfl; have hfz22_0 := blk_frozen BK654.out 0; have hfz22_1 := blk_frozen BK654.out 1
    go_wp2_with (first | ((with_reducible refine gate_callee (f := 70) rfl ?_); refine goesL_ (some 19) rfl rfl Try.func70 (by kernel_rfl) rfl #[.slice A0 l0.length c0, .slice A1_1 l1_1.length c1_1] rfl uM ?_; (with_reducible refine (fixenc_fits.calls kj2 _ _ l0 _ _ l1_1 true _ ?side1 ?side2 ?side3 ?side4 A13.out).mono ?_); (case side1 => exact uC (Kd.C_below HR0.out HB.out)); (case side2 => exact HC0.out); (case side3 => exact uC (Kd.C_below HR1_1.out HB.out)); (case side4 => exact HC1_1.out); rintro e w23 ⟨rfl, hb⟩; refine ⟨_, rfl, ?_⟩; replace BK654 := ux BK654 hb; replace HB := uy hb; (try clear hb); have hcz24_0 : w23.cell? ⟨gb654, 0, none⟩ = some (.bool false) := (blk_cell BK654.out 0).trans rfl; have hcz24_1 : w23.cell? ⟨gb654, 1, none⟩ = some (.slice A1_1 l1_1.length c1_1) := (blk_cell BK654.out 1).trans rfl; have hfz24_0 := blk_frozen BK654.out 0; have hfz24_1 := blk_frozen BK654.out 1) | ((with_reducible refine gate_callee (f := 81) rfl ?_); refine goesL_ (some 32) rfl rfl Try.func81 (by kernel_rfl) rfl #[.slice A1_1 l1_1.length c1_1, .slice none 0 0] rfl uM ?_; (refine (nat_Add.calls kj2 (fun k_ => k_ < w.heap.size) _ _ l1_1 (fun k_ => False) _ _ ([] : List Int) t662 t665 _ ?side1 ?side2 A21.out).mono ?_); (case side1 => exact Kd.V_mk HC1_1.out (Kd.F_below (Kd.C_F (Kd.heap_int .u64) HR1_1.out) uB)); (case side2 => exact Kd.V_nil _ _ _ _ _); rintro e w25 ⟨v663, rfl, ho0, hb⟩; refine ⟨_, rfl, ?_⟩; have HO664 := Aside0.mk (Kd.R_lower (Kd.R_mono (ok' := fun k_ => True) ho0 (fun _ hk_ => trivial)) (below_size uB)); replace BK654 := ux BK654 hb; replace HB := uy hb; (try clear hb ho0)))
    go_ret2
    exact ⟨_, uF, uR HO664.out, uB⟩
   replace c14 := Bool.eq_false_iff.mpr c14
   subst c14
   have H1 : (some (([] : List Int), 12)) = some (r1, r2) := by rw [if_neg (show ¬ (false = true) by decide)] at H; exact H
   clear H; have H := H1; clear H1
   simp only [Option.some.injEq, Prod.mk.injEq] at H
   obtain ⟨rfl, rfl⟩ := H
   have hcz26_0 : wc.cell? ⟨gb654, 0, none⟩ = some (.bool a1_0) := (blk_cell BK654.out 0).trans rfl; have hcz26_1 : wc.cell? ⟨gb654, 1, none⟩ = some (.slice A1_1 l1_1.length c1_1) := (blk_cell BK654.out 1).trans rfl; have hfz26_0 := blk_frozen BK654.out 0; have hfz26_1 := blk_frozen BK654.out 1
   go_wp2_with (first | ((with_reducible refine gate_callee (f := 70) rfl ?_); refine goesL_ (some 19) rfl rfl Try.func70 (by kernel_rfl) rfl #[.slice A0 l0.length c0, .slice A1_1 l1_1.length c1_1] rfl uM ?_; (with_reducible refine (fixenc_fits.calls kj2 _ _ l0 _ _ l1_1 false _ ?side1 ?side2 ?side3 ?side4 A13.out).mono ?_); (case side1 => exact uC (Kd.C_below HR0.out HB.out)); (case side2 => exact HC0.out); (case side3 => exact uC (Kd.C_below HR1_1.out HB.out)); (case side4 => exact HC1_1.out); rintro e w27 ⟨rfl, hb⟩; refine ⟨_, rfl, ?_⟩; replace BK654 := ux BK654 hb; replace HB := uy hb; (try clear hb)))
   go_ret2
   exact ⟨_, uF, uI, uB⟩
def windbreaklaw07_awake.f (k : Nat)  : Option (Bool) := (fixenc_Encode.f k (([101] : List Int)) true (([1] : List Int))).bind fun bt672 => (if bt672.2 = 0 then (if (bt672.1.length : Int) = 1 then (if 0 < (bt672.1.length : Int) then (some ((rd bt672.1 0) == 100)) else (none)) else (some false)) else (some false))
set_option maxHeartbeats 8000000 in
set_option maxRecDepth 100000 in
theorem windbreaklaw07_awake.calls (k : Nat)  (r : Bool) (w : World) (h : windbreaklaw07_awake.f k  = some r) :
  Calls Try.prog 28 #[] w fun e w' => e = .returned (.bool r) ∧ Below w.heap.size w w' := by
 have hu52 := Try.underlying52
 have HB := Aside0.mk (Below.refl w.heap.size w)
 have H : ((fixenc_Encode.f k (([101] : List Int)) true (([1] : List Int))).bind fun bt672 => (if bt672.2 = 0 then (if (bt672.1.length : Int) = 1 then (if 0 < (bt672.1.length : Int) then (some ((rd bt672.1 0) == 100)) else (none)) else (some false)) else (some false))) = some r := h
 clear h
 obtain ⟨y666, hy666⟩ : ∃ y_ : List Int, y_ = (([101] : List Int)) := ⟨_, rfl⟩
 replace H : ((fixenc_Encode.f k y666 true (([1] : List Int))).bind fun bt672 => (if bt672.2 = 0 then (if (bt672.1.length : Int) = 1 then (if 0 < (bt672.1.length : Int) then (some ((rd bt672.1 0) == 100)) else (none)) else (some false)) else (some false))) = some r := by first | (rw [hy666]; with_reducible exact H) | (have H2_ := (Option.bind_some _ _).symm.trans H; rw [hy666]; with_reducible exact H2_) | (have H2_ := (Option.bind_some _ _).symm.trans H; with_reducible exact H2_) | with_reducible exact H | (rw [hy666]; exact H) | exact H
 have Ny666 := Aside0.mk hy666; clear hy666
 obtain ⟨y669, hy669⟩ : ∃ y_ : List Int, y_ = (([1] : List Int)) := ⟨_, rfl⟩
 replace H : ((fixenc_Encode.f k y666 true y669).bind fun bt672 => (if bt672.2 = 0 then (if (bt672.1.length : Int) = 1 then (if 0 < (bt672.1.length : Int) then (some ((rd bt672.1 0) == 100)) else (none)) else (some false)) else (some false))) = some r := by first | (rw [hy669]; with_reducible exact H) | (have H2_ := (Option.bind_some _ _).symm.trans H; rw [hy669]; with_reducible exact H2_) | (have H2_ := (Option.bind_some _ _).symm.trans H; with_reducible exact H2_) | with_reducible exact H | (rw [hy669]; exact H) | exact H
 have Ny669 := Aside0.mk hy669; clear hy669
 replace H := ub H; obtain ⟨⟨t672, t675⟩, A1, H⟩ := H
 (try dsimp only at H)
 by_cases c2 : t675 = 0
 ·
  rw [if_pos c2] at H
  have c2b0 : (t675 == 0) = true := beq_iff_eq.mpr c2
  have c2b1 : (t675 != 0) = false := bne_eq_false_iff_eq.mpr c2
  clear c2
  by_cases c3 : (t672.length : Int) = 1
  ·
   rw [if_pos c3] at H
   have c3b0 : ((t672.length : Int) == 1) = true := beq_iff_eq.mpr c3
   have c3b1 : ((t672.length : Int) != 1) = false := bne_eq_false_iff_eq.mpr c3
   clear c3
   replace H := uT H; obtain ⟨c4, H⟩ := H
   have c4b0 : decide (0 < (t672.length : Int)) = true := decide_eq_true c4
   have c4b1 : decide (0 < t672.length) = true := decide_eq_true (by omega)
   clear c4
   obtain rfl := Option.some.inj H
   go_enter Try.func28, Try.ntmps28
   go_wp2_with (first | ((with_reducible refine gate_dst (N := 4) rfl ?_); (try (refine gate_guard (by rfl) ?_; dsimp only)); refine Kd.R_lit (Kd.int .u64) _ 27 ?hg (N := 4) ?hd (xs := ([101] : List Int)) (inner := [.int .u64 101]) (ok := fun _ => True) (okp := fun _ => True) ?hr ?hp (fun _ hk => hk) trivial (Below.refl _ _) (Nat.le_refl _) (by simp) ?_; (case hd => rfl); (case hg => rfl); (case hr => first | (go_simp; done) | (go_simp; rfl) | (go_simp; simp only [u64_u8]; done) | (go_simp; simp only [u64_u8]; rfl)); (case hp => exact (Reps.one (show Kd.M (Kd.int .u64) _ _ _ 101 [.int .u64 101] from rfl) (Reps.none _ _))); intro v667 w5 ho6 hb hg_ hnew_; clear hg_ hnew_; (first | rw [← Ny666.out] at ho6 | (simp only [Int.reduceToNat] at ho6; rw [← Ny666.out] at ho6)); have HO668 := Aside0.mk (Kd.R_lower ho6 (below_size uB)); replace HB := uy hb; clear hb ho6) | ((with_reducible refine gate_dst (N := 5) rfl ?_); (try (refine gate_guard (by rfl) ?_; dsimp only)); refine Kd.R_lit (Kd.int .u64) _ 27 ?hg (N := 5) ?hd (xs := ([1] : List Int)) (inner := [.int .u64 1]) (ok := fun _ => True) (okp := fun _ => True) ?hr ?hp (fun _ hk => hk) trivial (Below.refl _ _) (Nat.le_refl _) (by simp) ?_; (case hd => rfl); (case hg => rfl); (case hr => first | (go_simp; done) | (go_simp; rfl) | (go_simp; simp only [u64_u8]; done) | (go_simp; simp only [u64_u8]; rfl)); (case hp => exact (Reps.one (show Kd.M (Kd.int .u64) _ _ _ 1 [.int .u64 1] from rfl) (Reps.none _ _))); intro v670 w7 ho8 hb hg_ hnew_; clear hg_ hnew_; (first | rw [← Ny669.out] at ho8 | (simp only [Int.reduceToNat] at ho8; rw [← Ny669.out] at ho8)); have HO671 := Aside0.mk (Kd.R_lower (Kd.R_new' ho8 (Kd.R_lt (uR HO668.out))) (below_size uB)); replace HO668 := ueR HO668 ho8 hb; replace HB := uy hb; clear hb ho8; obtain ⟨Ao9, co9, eo9⟩ := Kd.R_slice HO671.out; subst eo9; obtain ⟨Ao10, co10, eo10⟩ := Kd.R_slice HO668.out; subst eo10) | ((with_reducible refine gate_callee (f := 35) rfl ?_); refine goesL_ (some 7) rfl rfl Try.func35 (by kernel_rfl) rfl #[.slice Ao10 y666.length co10, .agg #[.bool true, .slice Ao9 y669.length co9]] rfl uM ?_; (with_reducible refine (fixenc_Encode.calls k _ _ y666 true _ _ y669 t672 t675 _ ?side1 ?side2 ?side3 ?side4 A1.out).mono ?_); (case side1 => exact uC (Kd.R_reads' HO668.out).2.2); (case side2 => exact (Kd.R_reads' HO668.out).2.1); (case side3 => exact uC (Kd.R_reads' HO671.out).2.2); (case side4 => exact (Kd.R_reads' HO671.out).2.1); rintro e w11 ⟨v673, rfl, ho0, hb⟩; refine ⟨_, rfl, ?_⟩; have HO674 := Aside0.mk (Kd.R_lower (Kd.R_new' (Kd.R_new' ho0 (Kd.R_lt (uR HO668.out))) (Kd.R_lt (uR HO671.out))) (below_size uB)); replace HO668 := ueR HO668 ho0 hb; replace HO671 := ueR HO671 ho0 hb; replace HB := uy hb; (try clear hb ho0); obtain ⟨Ao12, co12, eo12⟩ := Kd.R_slice HO674.out; subst eo12; have p676 : 0 ≤ (0 : Int) := (by omega); have q676 : 0 < (t672.length : Int) := uO; obtain ⟨ad676, e676, hx676_0⟩ := Kd.at_int (Kd.R_reads' HO674.out).2.2 0 p676 q676; cases e676; have qi676 : (0 < t672.length) = True := eq_true (by omega); (try rw [show ((0 : Int)).toNat = 0 from rfl] at hx676_0); (try rw [Addr.add_zero'] at hx676_0); replace p676 := eq_true p676; replace q676 := eq_true q676))
   go_ret
   exact ⟨uF, uB⟩
  rw [if_neg c3] at H
  have c3b0 : ((t672.length : Int) == 1) = false := beq_eq_false_iff_ne.mpr c3
  have c3b1 : ((t672.length : Int) != 1) = true := bne_iff_ne.mpr c3
  obtain rfl := Option.some.inj H
  go_enter Try.func28, Try.ntmps28
  go_wp2_with (first | ((with_reducible refine gate_dst (N := 4) rfl ?_); (try (refine gate_guard (by rfl) ?_; dsimp only)); refine Kd.R_lit (Kd.int .u64) _ 27 ?hg (N := 4) ?hd (xs := ([101] : List Int)) (inner := [.int .u64 101]) (ok := fun _ => True) (okp := fun _ => True) ?hr ?hp (fun _ hk => hk) trivial (Below.refl _ _) (Nat.le_refl _) (by simp) ?_; (case hd => rfl); (case hg => rfl); (case hr => first | (go_simp; done) | (go_simp; rfl) | (go_simp; simp only [u64_u8]; done) | (go_simp; simp only [u64_u8]; rfl)); (case hp => exact (Reps.one (show Kd.M (Kd.int .u64) _ _ _ 101 [.int .u64 101] from rfl) (Reps.none _ _))); intro v667 w13 ho14 hb hg_ hnew_; clear hg_ hnew_; (first | rw [← Ny666.out] at ho14 | (simp only [Int.reduceToNat] at ho14; rw [← Ny666.out] at ho14)); have HO668 := Aside0.mk (Kd.R_lower ho14 (below_size uB)); replace HB := uy hb; clear hb ho14) | ((with_reducible refine gate_dst (N := 5) rfl ?_); (try (refine gate_guard (by rfl) ?_; dsimp only)); refine Kd.R_lit (Kd.int .u64) _ 27 ?hg (N := 5) ?hd (xs := ([1] : List Int)) (inner := [.int .u64 1]) (ok := fun _ => True) (okp := fun _ => True) ?hr ?hp (fun _ hk => hk) trivial (Below.refl _ _) (Nat.le_refl _) (by simp) ?_; (case hd => rfl); (case hg => rfl); (case hr => first | (go_simp; done) | (go_simp; rfl) | (go_simp; simp only [u64_u8]; done) | (go_simp; simp only [u64_u8]; rfl)); (case hp => exact (Reps.one (show Kd.M (Kd.int .u64) _ _ _ 1 [.int .u64 1] from rfl) (Reps.none _ _))); intro v670 w15 ho16 hb hg_ hnew_; clear hg_ hnew_; (first | rw [← Ny669.out] at ho16 | (simp only [Int.reduceToNat] at ho16; rw [← Ny669.out] at ho16)); have HO671 := Aside0.mk (Kd.R_lower (Kd.R_new' ho16 (Kd.R_lt (uR HO668.out))) (below_size uB)); replace HO668 := ueR HO668 ho16 hb; replace HB := uy hb; clear hb ho16; obtain ⟨Ao17, co17, eo17⟩ := Kd.R_slice HO671.out; subst eo17; obtain ⟨Ao18, co18, eo18⟩ := Kd.R_slice HO668.out; subst eo18) | ((with_reducible refine gate_callee (f := 35) rfl ?_); refine goesL_ (some 7) rfl rfl Try.func35 (by kernel_rfl) rfl #[.slice Ao18 y666.length co18, .agg #[.bool true, .slice Ao17 y669.length co17]] rfl uM ?_; (with_reducible refine (fixenc_Encode.calls k _ _ y666 true _ _ y669 t672 t675 _ ?side1 ?side2 ?side3 ?side4 A1.out).mono ?_); (case side1 => exact uC (Kd.R_reads' HO668.out).2.2); (case side2 => exact (Kd.R_reads' HO668.out).2.1); (case side3 => exact uC (Kd.R_reads' HO671.out).2.2); (case side4 => exact (Kd.R_reads' HO671.out).2.1); rintro e w19 ⟨v673, rfl, ho0, hb⟩; refine ⟨_, rfl, ?_⟩; have HO674 := Aside0.mk (Kd.R_lower (Kd.R_new' (Kd.R_new' ho0 (Kd.R_lt (uR HO668.out))) (Kd.R_lt (uR HO671.out))) (below_size uB)); replace HO668 := ueR HO668 ho0 hb; replace HO671 := ueR HO671 ho0 hb; replace HB := uy hb; (try clear hb ho0); obtain ⟨Ao20, co20, eo20⟩ := Kd.R_slice HO674.out; subst eo20))
  go_ret
  exact ⟨uF, uB⟩
 rw [if_neg c2] at H
 have c2b0 : (t675 == 0) = false := beq_eq_false_iff_ne.mpr c2
 have c2b1 : (t675 != 0) = true := bne_iff_ne.mpr c2
 obtain rfl := Option.some.inj H
 go_enter Try.func28, Try.ntmps28
 go_wp2_with (first | ((with_reducible refine gate_dst (N := 4) rfl ?_); (try (refine gate_guard (by rfl) ?_; dsimp only)); refine Kd.R_lit (Kd.int .u64) _ 27 ?hg (N := 4) ?hd (xs := ([101] : List Int)) (inner := [.int .u64 101]) (ok := fun _ => True) (okp := fun _ => True) ?hr ?hp (fun _ hk => hk) trivial (Below.refl _ _) (Nat.le_refl _) (by simp) ?_; (case hd => rfl); (case hg => rfl); (case hr => first | (go_simp; done) | (go_simp; rfl) | (go_simp; simp only [u64_u8]; done) | (go_simp; simp only [u64_u8]; rfl)); (case hp => exact (Reps.one (show Kd.M (Kd.int .u64) _ _ _ 101 [.int .u64 101] from rfl) (Reps.none _ _))); intro v667 w21 ho22 hb hg_ hnew_; clear hg_ hnew_; (first | rw [← Ny666.out] at ho22 | (simp only [Int.reduceToNat] at ho22; rw [← Ny666.out] at ho22)); have HO668 := Aside0.mk (Kd.R_lower ho22 (below_size uB)); replace HB := uy hb; clear hb ho22) | ((with_reducible refine gate_dst (N := 5) rfl ?_); (try (refine gate_guard (by rfl) ?_; dsimp only)); refine Kd.R_lit (Kd.int .u64) _ 27 ?hg (N := 5) ?hd (xs := ([1] : List Int)) (inner := [.int .u64 1]) (ok := fun _ => True) (okp := fun _ => True) ?hr ?hp (fun _ hk => hk) trivial (Below.refl _ _) (Nat.le_refl _) (by simp) ?_; (case hd => rfl); (case hg => rfl); (case hr => first | (go_simp; done) | (go_simp; rfl) | (go_simp; simp only [u64_u8]; done) | (go_simp; simp only [u64_u8]; rfl)); (case hp => exact (Reps.one (show Kd.M (Kd.int .u64) _ _ _ 1 [.int .u64 1] from rfl) (Reps.none _ _))); intro v670 w23 ho24 hb hg_ hnew_; clear hg_ hnew_; (first | rw [← Ny669.out] at ho24 | (simp only [Int.reduceToNat] at ho24; rw [← Ny669.out] at ho24)); have HO671 := Aside0.mk (Kd.R_lower (Kd.R_new' ho24 (Kd.R_lt (uR HO668.out))) (below_size uB)); replace HO668 := ueR HO668 ho24 hb; replace HB := uy hb; clear hb ho24; obtain ⟨Ao25, co25, eo25⟩ := Kd.R_slice HO671.out; subst eo25; obtain ⟨Ao26, co26, eo26⟩ := Kd.R_slice HO668.out; subst eo26) | ((with_reducible refine gate_callee (f := 35) rfl ?_); refine goesL_ (some 7) rfl rfl Try.func35 (by kernel_rfl) rfl #[.slice Ao26 y666.length co26, .agg #[.bool true, .slice Ao25 y669.length co25]] rfl uM ?_; (with_reducible refine (fixenc_Encode.calls k _ _ y666 true _ _ y669 t672 t675 _ ?side1 ?side2 ?side3 ?side4 A1.out).mono ?_); (case side1 => exact uC (Kd.R_reads' HO668.out).2.2); (case side2 => exact (Kd.R_reads' HO668.out).2.1); (case side3 => exact uC (Kd.R_reads' HO671.out).2.2); (case side4 => exact (Kd.R_reads' HO671.out).2.1); rintro e w27 ⟨v673, rfl, ho0, hb⟩; refine ⟨_, rfl, ?_⟩; have HO674 := Aside0.mk (Kd.R_lower (Kd.R_new' (Kd.R_new' ho0 (Kd.R_lt (uR HO668.out))) (Kd.R_lt (uR HO671.out))) (below_size uB)); replace HO668 := ueR HO668 ho0 hb; replace HO671 := ueR HO671 ho0 hb; replace HB := uy hb; (try clear hb ho0)))
 go_ret
 exact ⟨uF, uB⟩
end Go.Proofs.Ytgeanpnkllnipab.F
end
