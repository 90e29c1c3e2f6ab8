/- Proved: the law FixencUnpacks of layer 7: the two that any number tells are the document's; for every input, without a condition. -/
import Derived.Test.YtnaphgnkhhapoabMFixencUnpacksa
set_option maxHeartbeats 8000000
set_option maxRecDepth 100000
section
namespace Go.Proofs.Ytnaphgnkhhapoab.F
open Go.RowKit Go.Proofs.YtnaphgnkhhapoabW.PrintWords Go.Proofs.YtnaphgnkhhapoabW.PrintLast Go.Proofs.YtnaphgnkhhapoabW.PrintMore
attribute [local go_sem] max2_int min2_int max_two min_two max_three min_three max_four min_four
set_option linter.unusedVariables false
set_option linter.unusedSimpArgs false
mutual
def bits_Div64.j2 : Nat → Int → Int → Int → Int → Int → Int → Int → Int → Option (Int × Int)
 | 0, _, _, _, _, _, _, _, _ => none
 | k + 1, x2, x8, x9, x10, x11, x13, x14, x15 => if x9 = 0 then (none) else (bits_Div64.l1 k x2 x8 x9 x10 x14 x15 (IntKind.u64.wrap ((IntKind.u64.wrap ((IntKind.u64.wrap ((IntKind.u64.wrap (x11 * 4294967296)) + x13)) - (IntKind.u64.wrap (x15 * x2)))) - (IntKind.u64.wrap ((IntKind.u64.wrap (Int.tdiv (IntKind.u64.wrap ((IntKind.u64.wrap ((IntKind.u64.wrap (x11 * 4294967296)) + x13)) - (IntKind.u64.wrap (x15 * x2)))) x9)) * x9)))) (IntKind.u64.wrap ((IntKind.u64.wrap ((IntKind.u64.wrap (x11 * 4294967296)) + x13)) - (IntKind.u64.wrap (x15 * x2)))) (IntKind.u64.wrap (Int.tdiv (IntKind.u64.wrap ((IntKind.u64.wrap ((IntKind.u64.wrap (x11 * 4294967296)) + x13)) - (IntKind.u64.wrap (x15 * x2)))) x9)))
def bits_Div64.l1 : Nat → Int → Int → Int → Int → Int → Int → Int → Int → Int → Option (Int × Int)
 | 0, _, _, _, _, _, _, _, _, _ => none
 | k + 1, x2, x8, x9, x10, x14, x15, x16, x17, x18 => if x18 ≥ 4294967296 then (bits_Div64.j4 k x2 x8 x9 x10 x14 x15 x16 x17 x18 true) else (bits_Div64.j4 k x2 x8 x9 x10 x14 x15 x16 x17 x18 (decide ((IntKind.u64.wrap (x18 * x10)) > (IntKind.u64.wrap ((IntKind.u64.wrap (4294967296 * x16)) + x14)))))
def bits_Div64.j4 : Nat → Int → Int → Int → Int → Int → Int → Int → Int → Int → Bool → Option (Int × Int)
 | 0, _, _, _, _, _, _, _, _, _, _ => none
 | k + 1, x2, x8, x9, x10, x14, x15, x16, x17, x18, x113 => if x113 = true then (if (IntKind.u64.wrap (x16 + x9)) ≥ 4294967296 then (if 0 ≤ x8 then (some (IntKind.u64.wrap ((IntKind.u64.wrap (x15 * 4294967296)) + (IntKind.u64.wrap (x18 - 1))), shr .u64 (IntKind.u64.wrap ((IntKind.u64.wrap ((IntKind.u64.wrap (x17 * 4294967296)) + x14)) - (IntKind.u64.wrap ((IntKind.u64.wrap (x18 - 1)) * x2)))) x8)) else (none)) else (bits_Div64.l1 k x2 x8 x9 x10 x14 x15 (IntKind.u64.wrap (x16 + x9)) x17 (IntKind.u64.wrap (x18 - 1)))) else (if 0 ≤ x8 then (some (IntKind.u64.wrap ((IntKind.u64.wrap (x15 * 4294967296)) + x18), shr .u64 (IntKind.u64.wrap ((IntKind.u64.wrap ((IntKind.u64.wrap (x17 * 4294967296)) + x14)) - (IntKind.u64.wrap (x18 * x2)))) x8)) else (none))
def bits_Div64.l0 : Nat → Int → Int → Int → Int → Int → Int → Int → Int → Int → Option (Int × Int)
 | 0, _, _, _, _, _, _, _, _, _ => none
 | k + 1, x2, x8, x9, x10, x11, x13, x14, x15, x16 => if x15 ≥ 4294967296 then (bits_Div64.j1 k x2 x8 x9 x10 x11 x13 x14 x15 x16 true) else (bits_Div64.j1 k x2 x8 x9 x10 x11 x13 x14 x15 x16 (decide ((IntKind.u64.wrap (x15 * x10)) > (IntKind.u64.wrap ((IntKind.u64.wrap (4294967296 * x16)) + x13)))))
def bits_Div64.j1 : Nat → Int → Int → Int → Int → Int → Int → Int → Int → Int → Bool → Option (Int × Int)
 | 0, _, _, _, _, _, _, _, _, _, _ => none
 | k + 1, x2, x8, x9, x10, x11, x13, x14, x15, x16, x78 => if x78 = true then (if (IntKind.u64.wrap (x16 + x9)) ≥ 4294967296 then (bits_Div64.j2 k x2 x8 x9 x10 x11 x13 x14 (IntKind.u64.wrap (x15 - 1))) else (bits_Div64.l0 k x2 x8 x9 x10 x11 x13 x14 (IntKind.u64.wrap (x15 - 1)) (IntKind.u64.wrap (x16 + x9)))) else (bits_Div64.j2 k x2 x8 x9 x10 x11 x13 x14 x15)
end
def bits_Div64.f (k : Nat) (a0 : Int) (a1 : Int) (a2 : Int) : Option (Int × Int) := if a2 = 0 then (none) else (if a2 ≤ a0 then (none) else (if a0 = 0 then (some (IntKind.u64.wrap (Int.tdiv a1 a2), Int.tmod a1 a2)) else ((bits_LeadingZeros64.f k a2).bind fun t264 => (if 0 ≤ (IntKind.u64.wrap (t264)) then (if 0 ≤ (IntKind.u64.wrap (64 - (IntKind.u64.wrap (t264)))) then (if ((shl .u64 a2 (IntKind.u64.wrap (t264))) / 4294967296) = 0 then (none) else (bits_Div64.l0 k (shl .u64 a2 (IntKind.u64.wrap (t264))) (IntKind.u64.wrap (t264)) ((shl .u64 a2 (IntKind.u64.wrap (t264))) / 4294967296) (Go.bits .and .u64 (shl .u64 a2 (IntKind.u64.wrap (t264))) 4294967295) (Go.bits .or .u64 (shl .u64 a0 (IntKind.u64.wrap (t264))) (shr .u64 a1 (IntKind.u64.wrap (64 - (IntKind.u64.wrap (t264)))))) ((shl .u64 a1 (IntKind.u64.wrap (t264))) / 4294967296) (Go.bits .and .u64 (shl .u64 a1 (IntKind.u64.wrap (t264))) 4294967295) (IntKind.u64.wrap (Int.tdiv (Go.bits .or .u64 (shl .u64 a0 (IntKind.u64.wrap (t264))) (shr .u64 a1 (IntKind.u64.wrap (64 - (IntKind.u64.wrap (t264)))))) ((shl .u64 a2 (IntKind.u64.wrap (t264))) / 4294967296))) (IntKind.u64.wrap ((Go.bits .or .u64 (shl .u64 a0 (IntKind.u64.wrap (t264))) (shr .u64 a1 (IntKind.u64.wrap (64 - (IntKind.u64.wrap (t264)))))) - (IntKind.u64.wrap ((IntKind.u64.wrap (Int.tdiv (Go.bits .or .u64 (shl .u64 a0 (IntKind.u64.wrap (t264))) (shr .u64 a1 (IntKind.u64.wrap (64 - (IntKind.u64.wrap (t264)))))) ((shl .u64 a2 (IntKind.u64.wrap (t264))) / 4294967296))) * ((shl .u64 a2 (IntKind.u64.wrap (t264))) / 4294967296))))))) else (none)) else (none)))))
theorem bits_Div64.calls (k : Nat) (a0 : Int) (a1 : Int) (a2 : Int) (r1 : Int) (r2 : Int) (w : World) (h : bits_Div64.f k a0 a1 a2 = some (r1, r2)) :
  Calls Try.prog 87 #[.int .u64 a0, .int .u64 a1, .int .u64 a2] w fun e w' => e = .returned (.tuple #[.int .u64 r1, .int .u64 r2]) ∧ Drawn0 w w' := by
 have H : (if a2 = 0 then (none) else (if a2 ≤ a0 then (none) else (if a0 = 0 then (some (IntKind.u64.wrap (Int.tdiv a1 a2), Int.tmod a1 a2)) else ((bits_LeadingZeros64.f k a2).bind fun t264 => (if 0 ≤ (IntKind.u64.wrap (t264)) then (if 0 ≤ (IntKind.u64.wrap (64 - (IntKind.u64.wrap (t264)))) then (if ((shl .u64 a2 (IntKind.u64.wrap (t264))) / 4294967296) = 0 then (none) else (bits_Div64.l0 k (shl .u64 a2 (IntKind.u64.wrap (t264))) (IntKind.u64.wrap (t264)) ((shl .u64 a2 (IntKind.u64.wrap (t264))) / 4294967296) (Go.bits .and .u64 (shl .u64 a2 (IntKind.u64.wrap (t264))) 4294967295) (Go.bits .or .u64 (shl .u64 a0 (IntKind.u64.wrap (t264))) (shr .u64 a1 (IntKind.u64.wrap (64 - (IntKind.u64.wrap (t264)))))) ((shl .u64 a1 (IntKind.u64.wrap (t264))) / 4294967296) (Go.bits .and .u64 (shl .u64 a1 (IntKind.u64.wrap (t264))) 4294967295) (IntKind.u64.wrap (Int.tdiv (Go.bits .or .u64 (shl .u64 a0 (IntKind.u64.wrap (t264))) (shr .u64 a1 (IntKind.u64.wrap (64 - (IntKind.u64.wrap (t264)))))) ((shl .u64 a2 (IntKind.u64.wrap (t264))) / 4294967296))) (IntKind.u64.wrap ((Go.bits .or .u64 (shl .u64 a0 (IntKind.u64.wrap (t264))) (shr .u64 a1 (IntKind.u64.wrap (64 - (IntKind.u64.wrap (t264)))))) - (IntKind.u64.wrap ((IntKind.u64.wrap (Int.tdiv (Go.bits .or .u64 (shl .u64 a0 (IntKind.u64.wrap (t264))) (shr .u64 a1 (IntKind.u64.wrap (64 - (IntKind.u64.wrap (t264)))))) ((shl .u64 a2 (IntKind.u64.wrap (t264))) / 4294967296))) * ((shl .u64 a2 (IntKind.u64.wrap (t264))) / 4294967296))))))) else (none)) else (none)))))) = some (r1, r2) := h
 clear h
 replace H := uE H; obtain ⟨c4, H⟩ := H
 have c4b0 := beq_eq_false_iff_ne.mpr c4
 have c4b1 := bne_iff_ne.mpr c4
 replace H := uE H; obtain ⟨c5, H⟩ := H
 have c5b0 := decide_eq_false c5
 clear c5
 by_cases c6 : a0 = 0
 ·
  rw [if_pos c6] at H
  have c6b0 := beq_iff_eq.mpr c6
  have c6b1 := bne_eq_false_iff_eq.mpr c6
  clear c6
  simp only [Option.some.injEq, Prod.mk.injEq] at H
  obtain ⟨rfl, rfl⟩ := H
  go_enter Try.func87, Try.ntmps87
  go_wp2
  repeat (go_quiet (fail); try go_wp2)
  go_ret2
  exact ⟨by first | rfl | (simp; done) | (simp [*]; done), by repeat (first | exact Drawn0.refl _ | apply Drawn0.step)⟩
 rw [if_neg c6] at H
 have c6b0 := beq_eq_false_iff_ne.mpr c6
 have c6b1 := bne_iff_ne.mpr c6
 replace H := ub H; obtain ⟨t264, A7, H⟩ := H
 obtain ⟨ji8, hji8⟩ : ∃ j_ : Int, (IntKind.u64.wrap (t264)) = j_ := ⟨_, rfl⟩
 first | rw [hji8] at H | simp only [hji8] at H
 (try rw [hji8] at A7)
 replace H := uT H; obtain ⟨c9, H⟩ := H
 have c9b0 := eq_true c9
 have c9b1 := decide_eq_true c9
 clear c9
 obtain ⟨ji10, hji10⟩ : ∃ j_ : Int, (shl .u64 a2 (ji8)) = j_ := ⟨_, rfl⟩
 first | rw [hji10] at H | simp only [hji10] at H
 (try rw [hji10] at A7)
 have hji10_ : (IntKind.u64.wrap (a2 * 2 ^ min (ji8).toNat 64)) = ji10 := hji10
 have hji10z : (ji8) ≤ 64 → (IntKind.u64.wrap (a2 * 2 ^ (ji8).toNat)) = ji10 := shl_small hji10
 have c11b0 := eq_true (uO : 0 ≤ (ji8))
 obtain ⟨ji12, hji12⟩ : ∃ j_ : Int, (shl .u64 a0 (ji8)) = j_ := ⟨_, rfl⟩
 first | rw [hji12] at H | simp only [hji12] at H
 (try rw [hji12] at A7)
 have hji12_ : (IntKind.u64.wrap (a0 * 2 ^ min (ji8).toNat 64)) = ji12 := hji12
 have hji12z : (ji8) ≤ 64 → (IntKind.u64.wrap (a0 * 2 ^ (ji8).toNat)) = ji12 := shl_small hji12
 obtain ⟨ji13, hji13⟩ : ∃ j_ : Int, (IntKind.u64.wrap (64 - (ji8))) = j_ := ⟨_, rfl⟩
 first | rw [hji13] at H | simp only [hji13] at H
 (try rw [hji13] at A7)
 replace H := uT H; obtain ⟨c14, H⟩ := H
 have c14b0 := eq_true c14
 have c14b1 := decide_eq_true c14
 clear c14
 obtain ⟨ji15, hji15⟩ : ∃ j_ : Int, (shr .u64 a1 (ji13)) = j_ := ⟨_, rfl⟩
 first | rw [hji15] at H | simp only [hji15] at H
 (try rw [hji15] at A7)
 have hji15_ : (a1 / 2 ^ min (ji13).toNat 64) = ji15 := hji15
 have hji15z : (ji13) ≤ 64 → (a1 / 2 ^ (ji13).toNat) = ji15 := shr_small hji15
 have c16b0 := eq_true (uO : 0 ≤ (ji8))
 obtain ⟨ji17, hji17⟩ : ∃ j_ : Int, (shl .u64 a1 (ji8)) = j_ := ⟨_, rfl⟩
 first | rw [hji17] at H | simp only [hji17] at H
 (try rw [hji17] at A7)
 have hji17_ : (IntKind.u64.wrap (a1 * 2 ^ min (ji8).toNat 64)) = ji17 := hji17
 have hji17z : (ji8) ≤ 64 → (IntKind.u64.wrap (a1 * 2 ^ (ji8).toNat)) = ji17 := shl_small hji17
 replace H := uE H; obtain ⟨c18, H⟩ := H
 have c18b0 := beq_eq_false_iff_ne.mpr c18
 have c18b1 := bne_iff_ne.mpr c18
 have HC19 := Aside0.mk H; clear H
 go_enter Try.func87, Try.ntmps87
 go_upto_block 0 with (first | (go_at_call 88; (with_reducible refine (bits_LeadingZeros64.calls k a2 t264 _ A7.out).mono ?_); rintro e w' ⟨rfl, ⟨nd, rfl⟩⟩; (try first | exact ⟨rfl, _, World.drewN_drewN _ _ _⟩ | exact ⟨rfl, _, Eq.trans (World.drewN_drewN _ _ _) (congrArg (World.drewN _) (Nat.add_assoc _ _ _))⟩)))
 repeat (go_quiet (first | (go_at_call 88; (with_reducible refine (bits_LeadingZeros64.calls k a2 t264 _ A7.out).mono ?_); rintro e w' ⟨rfl, ⟨nd, rfl⟩⟩; (try first | exact ⟨rfl, _, World.drewN_drewN _ _ _⟩ | exact ⟨rfl, _, Eq.trans (World.drewN_drewN _ _ _) (congrArg (World.drewN _) (Nat.add_assoc _ _ _))⟩))); go_upto_block 0 with (first | (go_at_call 88; (with_reducible refine (bits_LeadingZeros64.calls k a2 t264 _ A7.out).mono ?_); rintro e w' ⟨rfl, ⟨nd, rfl⟩⟩; (try first | exact ⟨rfl, _, World.drewN_drewN _ _ _⟩ | exact ⟨rfl, _, Eq.trans (World.drewN_drewN _ _ _) (congrArg (World.drewN _) (Nat.add_assoc _ _ _))⟩))))
 (try simp only [Act.put, List.setIfInBounds_toArray, List.set_cons_zero, List.set_cons_succ])
 go_cut [15] (fun v15 wc => ∃ (kq : Nat) (x15_18 : Int), v15 = .int .u64 x15_18 ∧ Aside0 (bits_Div64.j2 kq ji10 ji8 ((ji10) / 4294967296) (Go.bits .and .u64 (ji10) 4294967295) (Go.bits .or .u64 (ji12) (ji15)) ((ji17) / 4294967296) (Go.bits .and .u64 (ji17) 4294967295) x15_18 = some (r1, r2)) ∧ Aside0 (kq ≤ k) ∧ Drawn0 w wc)
 case first =>
  have H := HC19.out
  clear HC19
  have H' := Aside0.mk H
  clear H
  go_wp2
  repeat (go_quiet (fail); try go_wp2)
  go_loopg [15, 16] k (fun kq v15 v16 w' => ∃ (x15_1 : Int) (x16_1 : Int), v15 = .int .u64 x15_1 ∧ v16 = .int .u64 x16_1 ∧ Aside0 (bits_Div64.l0 kq ji10 ji8 ((ji10) / 4294967296) (Go.bits .and .u64 (ji10) 4294967295) (Go.bits .or .u64 (ji12) (ji15)) ((ji17) / 4294967296) (Go.bits .and .u64 (ji17) 4294967295) x15_1 x16_1 = some (r1, r2)) ∧ Aside0 (kq ≤ k) ∧ Drawn0 w w')
  case atStart => exact ⟨(IntKind.u64.wrap (Int.tdiv (Go.bits .or .u64 (ji12) (ji15)) ((ji10) / 4294967296))), (IntKind.u64.wrap ((Go.bits .or .u64 (ji12) (ji15)) - (IntKind.u64.wrap ((IntKind.u64.wrap (Int.tdiv (Go.bits .or .u64 (ji12) (ji15)) ((ji10) / 4294967296))) * ((ji10) / 4294967296))))), (by first | rfl | (simp; done) | (simp only [← hji10, ← hji12, ← hji15] <;> (first | rfl | simp)) | (simp [*]; done)), (by first | rfl | (simp; done) | (simp only [← hji10, ← hji12, ← hji15] <;> (first | rfl | simp)) | (simp [*]; done)), H', ⟨Nat.le_refl _⟩, by repeat (first | exact Drawn0.refl _ | apply Drawn0.step)⟩
  case round =>
   clear H'
   obtain ⟨x15_1, x16_1, rfl, rfl, HA, HK1, ⟨m1, rfl⟩⟩ := hrel
   cases gk with
   | zero => exact absurd HA.out (by simp [bits_Div64.l0])
   | succ k1 =>
    have H := HA.out
    clear HA
    simp only [bits_Div64.l0] at H
    have HC20 := Aside0.mk H; clear H
    go_upto_region 17 with (fail)
    repeat (go_quiet (fail); go_upto_region 17 with (fail))
    go_cut [78] (fun v78 wc => ∃ (kq : Nat) (x78_19 : Bool), v78 = .bool x78_19 ∧ Aside0 (bits_Div64.j1 kq ji10 ji8 ((ji10) / 4294967296) (Go.bits .and .u64 (ji10) 4294967295) (Go.bits .or .u64 (ji12) (ji15)) ((ji17) / 4294967296) (Go.bits .and .u64 (ji17) 4294967295) x15_1 x16_1 x78_19 = some (r1, r2)) ∧ Aside0 (kq ≤ k1) ∧ Drawn0 w wc)
    case first =>
     have H := HC20.out
     clear HC20
     by_cases c21 : x15_1 ≥ 4294967296
     ·
      rw [if_pos c21] at H
      have c21b0 := decide_eq_true c21
      clear c21
      (first | rw [c21b0] | (simp only [i64_w, i32_w]; rw [c21b0]) | skip)
      have H' := Aside0.mk H
      clear H
      go_wp2
      repeat (go_quiet (fail); try go_wp2)
      go_meet
      case rel => exact ⟨_, (true), uG, H', ⟨by have := HK1.out; first | omega | exact Nat.le_refl _⟩, by repeat (first | exact Drawn0.refl _ | apply Drawn0.step)⟩
     rw [if_neg c21] at H
     have c21b0 := decide_eq_false c21
     clear c21
     (first | rw [c21b0] | (simp only [i64_w, i32_w]; rw [c21b0]) | skip)
     have H' := Aside0.mk H
     clear H
     go_wp2
     repeat (go_quiet (fail); try go_wp2)
     go_meet
     case rel => exact ⟨_, (decide ((IntKind.u64.wrap (x15_1 * (Go.bits .and .u64 (ji10) 4294967295))) > (IntKind.u64.wrap ((IntKind.u64.wrap (4294967296 * x16_1)) + ((ji17) / 4294967296))))), (by first | rfl | (simp; done) | (simp only [← hji10, ← hji17] <;> (first | rfl | simp)) | (simp [*]; done)), H', ⟨by have := HK1.out; first | omega | exact Nat.le_refl _⟩, by repeat (first | exact Drawn0.refl _ | apply Drawn0.step)⟩
    case rest =>
     clear HC20
     obtain ⟨kq, x78_19, rfl, HA, HJ19, ⟨mc19, rfl⟩⟩ := hcut
     cases kq with
     | zero => exact absurd HA.out (by simp [bits_Div64.j1])
     | succ kj19 =>
      have H := HA.out
      clear HA
      simp only [bits_Div64.j1] at H
      by_cases c22 : x78_19 = true
      ·
       subst c22
       have H1 : (if (IntKind.u64.wrap (x16_1 + ((ji10) / 4294967296))) ≥ 4294967296 then (bits_Div64.j2 kj19 ji10 ji8 ((ji10) / 4294967296) (Go.bits .and .u64 (ji10) 4294967295) (Go.bits .or .u64 (ji12) (ji15)) ((ji17) / 4294967296) (Go.bits .and .u64 (ji17) 4294967295) (IntKind.u64.wrap (x15_1 - 1))) else (bits_Div64.l0 kj19 ji10 ji8 ((ji10) / 4294967296) (Go.bits .and .u64 (ji10) 4294967295) (Go.bits .or .u64 (ji12) (ji15)) ((ji17) / 4294967296) (Go.bits .and .u64 (ji17) 4294967295) (IntKind.u64.wrap (x15_1 - 1)) (IntKind.u64.wrap (x16_1 + ((ji10) / 4294967296))))) = some (r1, r2) := by rw [if_pos rfl] at H; exact H
       clear H; have H := H1; clear H1
       by_cases c23 : (IntKind.u64.wrap (x16_1 + ((ji10) / 4294967296))) ≥ 4294967296
       ·
        rw [if_pos c23] at H
        have c23b0 := decide_eq_true c23
        clear c23
        have H' := Aside0.mk H
        clear H
        go_wp2
        repeat (go_quiet (fail); try go_wp2)
        go_meet
        case rel => exact ⟨_, (IntKind.u64.wrap (x15_1 - 1)), uG, H', ⟨by have := HK1.out; have := HJ19.out; first | omega | exact Nat.le_refl _⟩, by repeat (first | exact Drawn0.refl _ | apply Drawn0.step)⟩
       rw [if_neg c23] at H
       have c23b0 := decide_eq_false c23
       clear c23
       have H' := Aside0.mk H
       clear H
       go_wp2
       repeat (go_quiet (fail); try go_wp2)
       first | go_roundg kj19 | ((try simp only [← hji17] at H'); simp only [← hji17]; go_roundg kj19) | ((try simp only [← hji15] at H'); simp only [← hji15]; go_roundg kj19) | ((try simp only [← hji13] at H'); simp only [← hji13]; go_roundg kj19) | ((try simp only [← hji12] at H'); simp only [← hji12]; go_roundg kj19) | ((try simp only [← hji10] at H'); simp only [← hji10]; go_roundg kj19) | ((try simp only [← hji8] at H'); simp only [← hji8]; go_roundg kj19)
       case measure => have := HK1.out; have := HJ19.out; omega
       case rel => first | exact ⟨(IntKind.u64.wrap (x15_1 - 1)), (IntKind.u64.wrap (x16_1 + ((ji10) / 4294967296))), uG, (by first | rfl | (simp; done) | (simp only [← hji10] <;> (first | rfl | simp)) | (simp [*]; done)), H', ⟨by have := HK1.out; have := HJ19.out; omega⟩, by repeat (first | exact Drawn0.refl _ | apply Drawn0.step)⟩ | (simp only [← hji17] at H'; exact ⟨(IntKind.u64.wrap (x15_1 - 1)), (IntKind.u64.wrap (x16_1 + ((ji10) / 4294967296))), uG, (by first | rfl | (simp; done) | (simp only [← hji10] <;> (first | rfl | simp)) | (simp [*]; done)), H', ⟨by have := HK1.out; have := HJ19.out; omega⟩, by repeat (first | exact Drawn0.refl _ | apply Drawn0.step)⟩) | (simp only [← hji15] at H'; exact ⟨(IntKind.u64.wrap (x15_1 - 1)), (IntKind.u64.wrap (x16_1 + ((ji10) / 4294967296))), uG, (by first | rfl | (simp; done) | (simp only [← hji10] <;> (first | rfl | simp)) | (simp [*]; done)), H', ⟨by have := HK1.out; have := HJ19.out; omega⟩, by repeat (first | exact Drawn0.refl _ | apply Drawn0.step)⟩) | (simp only [← hji13] at H'; exact ⟨(IntKind.u64.wrap (x15_1 - 1)), (IntKind.u64.wrap (x16_1 + ((ji10) / 4294967296))), uG, (by first | rfl | (simp; done) | (simp only [← hji10] <;> (first | rfl | simp)) | (simp [*]; done)), H', ⟨by have := HK1.out; have := HJ19.out; omega⟩, by repeat (first | exact Drawn0.refl _ | apply Drawn0.step)⟩) | (simp only [← hji12] at H'; exact ⟨(IntKind.u64.wrap (x15_1 - 1)), (IntKind.u64.wrap (x16_1 + ((ji10) / 4294967296))), uG, (by first | rfl | (simp; done) | (simp only [← hji10] <;> (first | rfl | simp)) | (simp [*]; done)), H', ⟨by have := HK1.out; have := HJ19.out; omega⟩, by repeat (first | exact Drawn0.refl _ | apply Drawn0.step)⟩) | (simp only [← hji10] at H'; exact ⟨(IntKind.u64.wrap (x15_1 - 1)), (IntKind.u64.wrap (x16_1 + ((ji10) / 4294967296))), uG, (by first | rfl | (simp; done) | (simp only [← hji10] <;> (first | rfl | simp)) | (simp [*]; done)), H', ⟨by have := HK1.out; have := HJ19.out; omega⟩, by repeat (first | exact Drawn0.refl _ | apply Drawn0.step)⟩) | (simp only [← hji8] at H'; exact ⟨(IntKind.u64.wrap (x15_1 - 1)), (IntKind.u64.wrap (x16_1 + ((ji10) / 4294967296))), uG, (by first | rfl | (simp; done) | (simp only [← hji10] <;> (first | rfl | simp)) | (simp [*]; done)), H', ⟨by have := HK1.out; have := HJ19.out; omega⟩, by repeat (first | exact Drawn0.refl _ | apply Drawn0.step)⟩)
      replace c22 := Bool.eq_false_iff.mpr c22
      subst c22
      have H1 : (bits_Div64.j2 kj19 ji10 ji8 ((ji10) / 4294967296) (Go.bits .and .u64 (ji10) 4294967295) (Go.bits .or .u64 (ji12) (ji15)) ((ji17) / 4294967296) (Go.bits .and .u64 (ji17) 4294967295) x15_1) = some (r1, r2) := by rw [if_neg (show ¬ (false = true) by decide)] at H; exact H
      clear H; have H := H1; clear H1
      have H' := Aside0.mk H
      clear H
      go_wp2
      repeat (go_quiet (fail); try go_wp2)
      go_meet
      case rel => exact ⟨_, (x15_1), uG, H', ⟨by have := HK1.out; have := HJ19.out; first | omega | exact Nat.le_refl _⟩, by repeat (first | exact Drawn0.refl _ | apply Drawn0.step)⟩
 case rest =>
  clear HC19
  obtain ⟨kq, x15_18, rfl, HA, HJ18, ⟨mc18, rfl⟩⟩ := hcut
  cases kq with
  | zero => exact absurd HA.out (by simp [bits_Div64.j2])
  | succ kj18 =>
   have H := HA.out
   clear HA
   simp only [bits_Div64.j2] at H
   replace H := uE H; obtain ⟨c24, H⟩ := H
   have c24b0 := beq_eq_false_iff_ne.mpr c24
   have c24b1 := bne_iff_ne.mpr c24
   have H' := Aside0.mk H
   clear H
   go_wp2
   repeat (go_quiet (fail); try go_wp2)
   go_loopg [16, 18] kj18 (fun kq v16 v18 w' => ∃ (x16_2 : Int) (x18_2 : Int), v16 = .int .u64 x16_2 ∧ v18 = .int .u64 x18_2 ∧ Aside0 (bits_Div64.l1 kq ji10 ji8 ((ji10) / 4294967296) (Go.bits .and .u64 (ji10) 4294967295) (Go.bits .and .u64 (ji17) 4294967295) x15_18 x16_2 (IntKind.u64.wrap ((IntKind.u64.wrap ((IntKind.u64.wrap ((Go.bits .or .u64 (ji12) (ji15)) * 4294967296)) + ((ji17) / 4294967296))) - (IntKind.u64.wrap (x15_18 * ji10)))) x18_2 = some (r1, r2)) ∧ Aside0 (kq ≤ kj18) ∧ Drawn0 w w')
   case atStart => exact ⟨(IntKind.u64.wrap ((IntKind.u64.wrap ((IntKind.u64.wrap ((IntKind.u64.wrap ((Go.bits .or .u64 (ji12) (ji15)) * 4294967296)) + ((ji17) / 4294967296))) - (IntKind.u64.wrap (x15_18 * ji10)))) - (IntKind.u64.wrap ((IntKind.u64.wrap (Int.tdiv (IntKind.u64.wrap ((IntKind.u64.wrap ((IntKind.u64.wrap ((Go.bits .or .u64 (ji12) (ji15)) * 4294967296)) + ((ji17) / 4294967296))) - (IntKind.u64.wrap (x15_18 * ji10)))) ((ji10) / 4294967296))) * ((ji10) / 4294967296))))), (IntKind.u64.wrap (Int.tdiv (IntKind.u64.wrap ((IntKind.u64.wrap ((IntKind.u64.wrap ((Go.bits .or .u64 (ji12) (ji15)) * 4294967296)) + ((ji17) / 4294967296))) - (IntKind.u64.wrap (x15_18 * ji10)))) ((ji10) / 4294967296))), (by first | rfl | (simp; done) | (simp only [← hji10, ← hji12, ← hji15, ← hji17] <;> (first | rfl | simp)) | (simp [*]; done)), (by first | rfl | (simp; done) | (simp only [← hji10, ← hji12, ← hji15, ← hji17] <;> (first | rfl | simp)) | (simp [*]; done)), H', ⟨Nat.le_refl _⟩, by repeat (first | exact Drawn0.refl _ | apply Drawn0.step)⟩
   case round =>
    clear H'
    obtain ⟨x16_2, x18_2, rfl, rfl, HA, HK2, ⟨m2, rfl⟩⟩ := hrel
    cases gk with
    | zero => exact absurd HA.out (by simp [bits_Div64.l1])
    | succ k2 =>
     have H := HA.out
     clear HA
     simp only [bits_Div64.l1] at H
     have HC25 := Aside0.mk H; clear H
     go_upto_region 24 with (fail)
     repeat (go_quiet (fail); go_upto_region 24 with (fail))
     go_cut [113] (fun v113 wc => ∃ (kq : Nat) (x113_24 : Bool), v113 = .bool x113_24 ∧ Aside0 (bits_Div64.j4 kq ji10 ji8 ((ji10) / 4294967296) (Go.bits .and .u64 (ji10) 4294967295) (Go.bits .and .u64 (ji17) 4294967295) x15_18 x16_2 (IntKind.u64.wrap ((IntKind.u64.wrap ((IntKind.u64.wrap ((Go.bits .or .u64 (ji12) (ji15)) * 4294967296)) + ((ji17) / 4294967296))) - (IntKind.u64.wrap (x15_18 * ji10)))) x18_2 x113_24 = some (r1, r2)) ∧ Aside0 (kq ≤ k2) ∧ Drawn0 w wc)
     case first =>
      have H := HC25.out
      clear HC25
      by_cases c26 : x18_2 ≥ 4294967296
      ·
       rw [if_pos c26] at H
       have c26b0 := decide_eq_true c26
       clear c26
       (first | rw [c26b0] | (simp only [i64_w, i32_w]; rw [c26b0]) | skip)
       have H' := Aside0.mk H
       clear H
       go_wp2
       repeat (go_quiet (fail); try go_wp2)
       go_meet
       case rel => exact ⟨_, (true), uG, H', ⟨by have := HJ18.out; have := HK2.out; first | omega | exact Nat.le_refl _⟩, by repeat (first | exact Drawn0.refl _ | apply Drawn0.step)⟩
      rw [if_neg c26] at H
      have c26b0 := decide_eq_false c26
      clear c26
      (first | rw [c26b0] | (simp only [i64_w, i32_w]; rw [c26b0]) | skip)
      have H' := Aside0.mk H
      clear H
      go_wp2
      repeat (go_quiet (fail); try go_wp2)
      go_meet
      case rel => exact ⟨_, (decide ((IntKind.u64.wrap (x18_2 * (Go.bits .and .u64 (ji10) 4294967295))) > (IntKind.u64.wrap ((IntKind.u64.wrap (4294967296 * x16_2)) + (Go.bits .and .u64 (ji17) 4294967295))))), (by first | rfl | (simp; done) | (simp only [← hji10, ← hji17] <;> (first | rfl | simp)) | (simp [*]; done)), H', ⟨by have := HJ18.out; have := HK2.out; first | omega | exact Nat.le_refl _⟩, by repeat (first | exact Drawn0.refl _ | apply Drawn0.step)⟩
     case rest =>
      clear HC25
      obtain ⟨kq, x113_24, rfl, HA, HJ24, ⟨mc24, rfl⟩⟩ := hcut
      cases kq with
      | zero => exact absurd HA.out (by simp [bits_Div64.j4])
      | succ kj24 =>
       have H := HA.out
       clear HA
       simp only [bits_Div64.j4] at H
       by_cases c27 : x113_24 = true
       ·
        subst c27
        have H1 : (if (IntKind.u64.wrap (x16_2 + ((ji10) / 4294967296))) ≥ 4294967296 then (if 0 ≤ ji8 then (some (IntKind.u64.wrap ((IntKind.u64.wrap (x15_18 * 4294967296)) + (IntKind.u64.wrap (x18_2 - 1))), shr .u64 (IntKind.u64.wrap ((IntKind.u64.wrap ((IntKind.u64.wrap ((IntKind.u64.wrap ((IntKind.u64.wrap ((IntKind.u64.wrap ((Go.bits .or .u64 (ji12) (ji15)) * 4294967296)) + ((ji17) / 4294967296))) - (IntKind.u64.wrap (x15_18 * ji10)))) * 4294967296)) + (Go.bits .and .u64 (ji17) 4294967295))) - (IntKind.u64.wrap ((IntKind.u64.wrap (x18_2 - 1)) * ji10)))) ji8)) else (none)) else (bits_Div64.l1 kj24 ji10 ji8 ((ji10) / 4294967296) (Go.bits .and .u64 (ji10) 4294967295) (Go.bits .and .u64 (ji17) 4294967295) x15_18 (IntKind.u64.wrap (x16_2 + ((ji10) / 4294967296))) (IntKind.u64.wrap ((IntKind.u64.wrap ((IntKind.u64.wrap ((Go.bits .or .u64 (ji12) (ji15)) * 4294967296)) + ((ji17) / 4294967296))) - (IntKind.u64.wrap (x15_18 * ji10)))) (IntKind.u64.wrap (x18_2 - 1)))) = some (r1, r2) := by rw [if_pos rfl] at H; exact H
        clear H; have H := H1; clear H1
        by_cases c28 : (IntKind.u64.wrap (x16_2 + ((ji10) / 4294967296))) ≥ 4294967296
        ·
         rw [if_pos c28] at H
         have c28b0 := decide_eq_true c28
         clear c28
         replace H := uT H; obtain ⟨c29, H⟩ := H
         have c29b0 := eq_true c29
         have c29b1 := decide_eq_true c29
         clear c29
         obtain ⟨ji30, hji30⟩ : ∃ j_ : Int, (shr .u64 (IntKind.u64.wrap ((IntKind.u64.wrap ((IntKind.u64.wrap ((IntKind.u64.wrap ((IntKind.u64.wrap ((IntKind.u64.wrap ((Go.bits .or .u64 (ji12) (ji15)) * 4294967296)) + ((ji17) / 4294967296))) - (IntKind.u64.wrap (x15_18 * ji10)))) * 4294967296)) + (Go.bits .and .u64 (ji17) 4294967295))) - (IntKind.u64.wrap ((IntKind.u64.wrap (x18_2 - 1)) * ji10)))) ji8) = j_ := ⟨_, rfl⟩
         first | rw [hji30] at H | simp only [hji30] at H
         have hji30_ : ((IntKind.u64.wrap ((IntKind.u64.wrap ((IntKind.u64.wrap ((IntKind.u64.wrap ((IntKind.u64.wrap ((IntKind.u64.wrap ((Go.bits .or .u64 (ji12) (ji15)) * 4294967296)) + ((ji17) / 4294967296))) - (IntKind.u64.wrap (x15_18 * ji10)))) * 4294967296)) + (Go.bits .and .u64 (ji17) 4294967295))) - (IntKind.u64.wrap ((IntKind.u64.wrap (x18_2 - 1)) * ji10)))) / 2 ^ min ji8.toNat 64) = ji30 := hji30
         have hji30z : ji8 ≤ 64 → ((IntKind.u64.wrap ((IntKind.u64.wrap ((IntKind.u64.wrap ((IntKind.u64.wrap ((IntKind.u64.wrap ((IntKind.u64.wrap ((Go.bits .or .u64 (ji12) (ji15)) * 4294967296)) + ((ji17) / 4294967296))) - (IntKind.u64.wrap (x15_18 * ji10)))) * 4294967296)) + (Go.bits .and .u64 (ji17) 4294967295))) - (IntKind.u64.wrap ((IntKind.u64.wrap (x18_2 - 1)) * ji10)))) / 2 ^ ji8.toNat) = ji30 := shr_small hji30
         simp only [Option.some.injEq, Prod.mk.injEq] at H
         obtain ⟨rfl, rfl⟩ := H
         go_wp2
         repeat (go_quiet (fail); try go_wp2)
         go_ret2
         exact ⟨by first | rfl | (simp; done) | (simp only [← hji8, ← hji10, ← hji12, ← hji13, ← hji15, ← hji17, ← hji30] <;> (first | rfl | simp)) | (simp [*]; done), by repeat (first | exact Drawn0.refl _ | apply Drawn0.step)⟩
        rw [if_neg c28] at H
        have c28b0 := decide_eq_false c28
        clear c28
        have H' := Aside0.mk H
        clear H
        go_wp2
        repeat (go_quiet (fail); try go_wp2)
        first | go_roundg kj24 | ((try simp only [← hji30] at H'); simp only [← hji30]; go_roundg kj24) | ((try simp only [← hji17] at H'); simp only [← hji17]; go_roundg kj24) | ((try simp only [← hji15] at H'); simp only [← hji15]; go_roundg kj24) | ((try simp only [← hji13] at H'); simp only [← hji13]; go_roundg kj24) | ((try simp only [← hji12] at H'); simp only [← hji12]; go_roundg kj24) | ((try simp only [← hji10] at H'); simp only [← hji10]; go_roundg kj24)
        case measure => have := HJ18.out; have := HK2.out; have := HJ24.out; omega
        case rel => first | exact ⟨(IntKind.u64.wrap (x16_2 + ((ji10) / 4294967296))), (IntKind.u64.wrap (x18_2 - 1)), (by first | rfl | (simp; done) | (simp only [← hji10] <;> (first | rfl | simp)) | (simp [*]; done)), uG, H', ⟨by have := HJ18.out; have := HK2.out; have := HJ24.out; omega⟩, by repeat (first | exact Drawn0.refl _ | apply Drawn0.step)⟩ | (simp only [← hji30] at H'; exact ⟨(IntKind.u64.wrap (x16_2 + ((ji10) / 4294967296))), (IntKind.u64.wrap (x18_2 - 1)), (by first | rfl | (simp; done) | (simp only [← hji10] <;> (first | rfl | simp)) | (simp [*]; done)), uG, H', ⟨by have := HJ18.out; have := HK2.out; have := HJ24.out; omega⟩, by repeat (first | exact Drawn0.refl _ | apply Drawn0.step)⟩) | (simp only [← hji17] at H'; exact ⟨(IntKind.u64.wrap (x16_2 + ((ji10) / 4294967296))), (IntKind.u64.wrap (x18_2 - 1)), (by first | rfl | (simp; done) | (simp only [← hji10] <;> (first | rfl | simp)) | (simp [*]; done)), uG, H', ⟨by have := HJ18.out; have := HK2.out; have := HJ24.out; omega⟩, by repeat (first | exact Drawn0.refl _ | apply Drawn0.step)⟩) | (simp only [← hji15] at H'; exact ⟨(IntKind.u64.wrap (x16_2 + ((ji10) / 4294967296))), (IntKind.u64.wrap (x18_2 - 1)), (by first | rfl | (simp; done) | (simp only [← hji10] <;> (first | rfl | simp)) | (simp [*]; done)), uG, H', ⟨by have := HJ18.out; have := HK2.out; have := HJ24.out; omega⟩, by repeat (first | exact Drawn0.refl _ | apply Drawn0.step)⟩) | (simp only [← hji13] at H'; exact ⟨(IntKind.u64.wrap (x16_2 + ((ji10) / 4294967296))), (IntKind.u64.wrap (x18_2 - 1)), (by first | rfl | (simp; done) | (simp only [← hji10] <;> (first | rfl | simp)) | (simp [*]; done)), uG, H', ⟨by have := HJ18.out; have := HK2.out; have := HJ24.out; omega⟩, by repeat (first | exact Drawn0.refl _ | apply Drawn0.step)⟩) | (simp only [← hji12] at H'; exact ⟨(IntKind.u64.wrap (x16_2 + ((ji10) / 4294967296))), (IntKind.u64.wrap (x18_2 - 1)), (by first | rfl | (simp; done) | (simp only [← hji10] <;> (first | rfl | simp)) | (simp [*]; done)), uG, H', ⟨by have := HJ18.out; have := HK2.out; have := HJ24.out; omega⟩, by repeat (first | exact Drawn0.refl _ | apply Drawn0.step)⟩) | (simp only [← hji10] at H'; exact ⟨(IntKind.u64.wrap (x16_2 + ((ji10) / 4294967296))), (IntKind.u64.wrap (x18_2 - 1)), (by first | rfl | (simp; done) | (simp only [← hji10] <;> (first | rfl | simp)) | (simp [*]; done)), uG, H', ⟨by have := HJ18.out; have := HK2.out; have := HJ24.out; omega⟩, by repeat (first | exact Drawn0.refl _ | apply Drawn0.step)⟩)
       replace c27 := Bool.eq_false_iff.mpr c27
       subst c27
       have H1 : (if 0 ≤ ji8 then (some (IntKind.u64.wrap ((IntKind.u64.wrap (x15_18 * 4294967296)) + x18_2), shr .u64 (IntKind.u64.wrap ((IntKind.u64.wrap ((IntKind.u64.wrap ((IntKind.u64.wrap ((IntKind.u64.wrap ((IntKind.u64.wrap ((Go.bits .or .u64 (ji12) (ji15)) * 4294967296)) + ((ji17) / 4294967296))) - (IntKind.u64.wrap (x15_18 * ji10)))) * 4294967296)) + (Go.bits .and .u64 (ji17) 4294967295))) - (IntKind.u64.wrap (x18_2 * ji10)))) ji8)) else (none)) = some (r1, r2) := by rw [if_neg (show ¬ (false = true) by decide)] at H; exact H
       clear H; have H := H1; clear H1
       replace H := uT H; obtain ⟨c31, H⟩ := H
       have c31b0 := eq_true c31
       have c31b1 := decide_eq_true c31
       clear c31
       obtain ⟨ji32, hji32⟩ : ∃ j_ : Int, (shr .u64 (IntKind.u64.wrap ((IntKind.u64.wrap ((IntKind.u64.wrap ((IntKind.u64.wrap ((IntKind.u64.wrap ((IntKind.u64.wrap ((Go.bits .or .u64 (ji12) (ji15)) * 4294967296)) + ((ji17) / 4294967296))) - (IntKind.u64.wrap (x15_18 * ji10)))) * 4294967296)) + (Go.bits .and .u64 (ji17) 4294967295))) - (IntKind.u64.wrap (x18_2 * ji10)))) ji8) = j_ := ⟨_, rfl⟩
       first | rw [hji32] at H | simp only [hji32] at H
       have hji32_ : ((IntKind.u64.wrap ((IntKind.u64.wrap ((IntKind.u64.wrap ((IntKind.u64.wrap ((IntKind.u64.wrap ((IntKind.u64.wrap ((Go.bits .or .u64 (ji12) (ji15)) * 4294967296)) + ((ji17) / 4294967296))) - (IntKind.u64.wrap (x15_18 * ji10)))) * 4294967296)) + (Go.bits .and .u64 (ji17) 4294967295))) - (IntKind.u64.wrap (x18_2 * ji10)))) / 2 ^ min ji8.toNat 64) = ji32 := hji32
       have hji32z : ji8 ≤ 64 → ((IntKind.u64.wrap ((IntKind.u64.wrap ((IntKind.u64.wrap ((IntKind.u64.wrap ((IntKind.u64.wrap ((IntKind.u64.wrap ((Go.bits .or .u64 (ji12) (ji15)) * 4294967296)) + ((ji17) / 4294967296))) - (IntKind.u64.wrap (x15_18 * ji10)))) * 4294967296)) + (Go.bits .and .u64 (ji17) 4294967295))) - (IntKind.u64.wrap (x18_2 * ji10)))) / 2 ^ ji8.toNat) = ji32 := shr_small hji32
       simp only [Option.some.injEq, Prod.mk.injEq] at H
       obtain ⟨rfl, rfl⟩ := H
       go_wp2
       repeat (go_quiet (fail); try go_wp2)
       go_ret2
       exact ⟨by first | rfl | (simp; done) | (simp only [← hji8, ← hji10, ← hji12, ← hji13, ← hji15, ← hji17, ← hji32] <;> (first | rfl | simp)) | (simp [*]; done), by repeat (first | exact Drawn0.refl _ | apply Drawn0.step)⟩
def nat_short.l0 : Nat → List Int → Int → List Int → Int → Int → Option (List Int × Int)
 | 0, _, _, _, _, _ => none
 | k + 1, x0, x1, x6, x7, x8 => if x8 ≥ 0 then (if 0 ≤ x8 then (if x8 < (x0.length : Int) then ((bits_Div64.f k x7 (rd x0 x8) x1).bind fun bt269 => (if x8 < (x6.length : Int) then (nat_short.l0 k x0 x1 (x6.set (x8 : Int).toNat bt269.1) bt269.2 (wrap64 (x8 - 1))) else (none))) else (none)) else (none)) else ((nat_trim.f k x6).bind fun t272 => (some (t272, x7)))
def nat_short.f (k : Nat) (l0 : List Int) (a1 : Int) : Option (List Int × Int) := if 0 ≤ (l0.length : Int) then (if ((l0.length : Int) : Int).toNat ≤ 35184372088832 then (nat_short.l0 k l0 a1 (List.replicate ((l0.length : Int) : Int).toNat 0) 0 (wrap64 ((l0.length : Int) - 1))) else (none)) else (none)
theorem nat_short.calls (k : Nat) (A0 : Option Addr) (c0 : Nat) (l0 : List Int) (a1 : Int) (r1 : List Int) (r2 : Int) (w : World) (hr0 : Kd.C (Kd.int .u64) w A0 l0.length l0) (hc0 : l0.length ≤ c0) (h : nat_short.f k l0 a1 = some (r1, r2)) :
  Calls Try.prog 70 #[.slice A0 l0.length c0, .int .u64 a1] w fun e w' => ∃ v0_ : Value, e = .returned (.tuple #[v0_, .int .u64 r2]) ∧ Kd.R (Kd.int .u64) 42 w' w.heap.size (fun _ => True) v0_ r1 ∧ Below w.heap.size w w' := by
 have HR0 := Aside0.mk hr0; have HC0 := Aside0.mk hc0; clear hr0 hc0
 have HB := Aside0.mk (Below.refl w.heap.size w)
 have H : (if 0 ≤ (l0.length : Int) then (if ((l0.length : Int) : Int).toNat ≤ 35184372088832 then (nat_short.l0 k l0 a1 (List.replicate ((l0.length : Int) : Int).toNat 0) 0 (wrap64 ((l0.length : Int) - 1))) else (none)) else (none)) = some (r1, r2) := h
 clear h
 replace H := uT H; obtain ⟨c3, H⟩ := H
 have c3b0 := eq_true c3
 have c3b1 := decide_eq_true c3
 clear c3
 replace H := uT H; obtain ⟨c4, H⟩ := H
 have c4b0 := eq_true c4
 have c4b1 := decide_eq_true c4
 clear c4
 obtain ⟨y265, hy265⟩ : ∃ y_ : List Int, y_ = (List.replicate ((l0.length : Int) : Int).toNat 0) := ⟨_, rfl⟩
 replace H : (nat_short.l0 k l0 a1 y265 0 (wrap64 ((l0.length : Int) - 1))) = some (r1, r2) := by first | (rw [hy265]; with_reducible exact H) | (have H2_ := (Option.bind_some _ _).symm.trans H; rw [hy265]; with_reducible exact H2_) | (have H2_ := (Option.bind_some _ _).symm.trans H; with_reducible exact H2_) | with_reducible exact H | (rw [hy265]; exact H) | exact H
 have Ny265 := Aside0.mk hy265; clear hy265
 have H' := Aside0.mk H
 clear H
 go_enter Try.func70, Try.ntmps70
 go_wp2_with (first | ((with_reducible refine gate_dst (N := 11) rfl ?_); refine Kd.R_make (Kd.int .u64) _ 42 rfl (N := 11) rfl 23 _ _ rfl (l0.length : Int) rfl rfl Try.underlying23 (.int .u64 0) 8 info42 rfl (by decide) (by omega) 0 (ok := fun _ => True) (okp := fun _ => True) rfl (fun _ hk => hk) trivial uO (Nat.le_trans (Nat.mul_le_mul_right _ (uO : (l0.length : Int).toNat ≤ 35184372088832)) (by omega)) (Below.refl _ _) (Nat.le_refl _) ?_; intro v266 w5 ho6 hb hg_ hnew_; clear hg_ hnew_; (first | rw [← Ny265.out] at ho6 | (simp only [Int.reduceToNat] at ho6; rw [← Ny265.out] at ho6)); have HO267 := ulo ho6; replace HB := uy hb; clear hb ho6))
 go_loopg [7, 8] k (fun kq v7 v8 w' => ∃ (x6_1 : List Int) (x7_1 : Int) (x8_1 : Int), v7 = .int .u64 x7_1 ∧ v8 = .int .i64 x8_1 ∧ Aside0 (nat_short.l0 kq l0 a1 x6_1 x7_1 x8_1 = some (r1, r2)) ∧ Aside0 (kq ≤ k) ∧ Aside0 (Kd.R (Kd.int .u64) 42 w' w.heap.size (fun _ => True) v266 x6_1) ∧ Aside0 (Below w.heap.size w w'))
 case atStart => exact ⟨(y265), (0), (wrap64 ((l0.length : Int) - 1)), uG, uG, H', ⟨Nat.le_refl _⟩, ⟨uR HO267.out⟩, ⟨uB⟩⟩
 case round =>
  clear H'
  obtain ⟨x6_1, x7_1, x8_1, rfl, rfl, HA, HK1, HO_6, HB⟩ := hrel
  cases gk with
  | zero => exact absurd HA.out (by simp [nat_short.l0])
  | succ k1 =>
   have H := HA.out
   clear HA
   simp only [nat_short.l0] at H
   by_cases c7 : x8_1 ≥ 0
   ·
    rw [if_pos c7] at H
    have c7b0 := decide_eq_true c7
    clear c7
    replace H := uT H; obtain ⟨c8, H⟩ := H
    have c8b0 := decide_eq_true c8
    clear c8
    replace H := uT H; obtain ⟨c9, H⟩ := H
    have c9b0 := decide_eq_true c9
    clear c9
    replace H := ub H; obtain ⟨⟨t269, t270⟩, A10, H⟩ := H
    (try dsimp only at H)
    replace H := uT H; obtain ⟨c11, H⟩ := H
    have c11b0 := decide_eq_true c11
    clear c11
    obtain ⟨y271, hy271⟩ : ∃ y_ : List Int, y_ = (x6_1.set (x8_1 : Int).toNat t269) := ⟨_, rfl⟩
    replace H : (nat_short.l0 k1 l0 a1 y271 t270 (wrap64 (x8_1 - 1))) = some (r1, r2) := by first | (rw [hy271]; with_reducible exact H) | (have H2_ := (Option.bind_some _ _).symm.trans H; rw [hy271]; with_reducible exact H2_) | (have H2_ := (Option.bind_some _ _).symm.trans H; with_reducible exact H2_) | with_reducible exact H | (rw [hy271]; exact H) | exact H
    have Ny271 := Aside0.mk hy271; clear hy271
    have H' := Aside0.mk H
    clear H
    have p268 : 0 ≤ (x8_1 : Int) := uO
    have q268 : x8_1 < (l0.length : Int) := uO
    obtain ⟨ad268, e268, hx268_0⟩ := Kd.at_int HR0.out x8_1 p268 q268
    cases e268
    replace hx268_0 := (HB.out.cell (World.block_lt_of_cell? w _ hx268_0)).trans hx268_0
    replace p268 := eq_true p268
    replace q268 := eq_true q268
    go_wp2_with (first | ((with_reducible refine ug 87 rfl ?_); refine uh (some 28) rfl Try.func87 #[.int .u64 x7_1, .int .u64 (rd l0 x8_1), .int .u64 a1] ?_; (with_reducible refine (bits_Div64.calls k1 x7_1 (rd l0 x8_1) a1 t269 t270 _ A10.out).mono ?_); rintro e w' ⟨rfl, ⟨nd, rfl⟩⟩; refine ⟨_, rfl, ?_⟩; (try (rw [drewN_self wr]; generalize hq_ : World.drewN wr _ = wr; replace HO_6 : Aside0 (Kd.R (Kd.int .u64) 42 wr w.heap.size (fun _ => True) v266 x6_1) := ⟨by rw [← hq_]; exact (uR HO_6.out)⟩; replace HB : Aside0 (Below w.heap.size w wr) := ⟨by rw [← hq_]; exact uB⟩; clear hq_)); have p12 : 0 ≤ (x8_1 : Int) := uO; have q12 : (x8_1 : Int) < ((x6_1.length : Int) : Int) := uO; obtain ⟨go12, co12, eo12, gb12, gl12, cl12, HG12⟩ := Kd.R_form HO_6.out (by omega); (first | cases eo12 | (injection eo12 with ea_ en_ ec_; (first | subst ea_ | (injection ea_ with ea_; subst ea_)); subst ec_; clear en_)); have GB12 := Aside0.mk gb12; have GG12 := Aside0.mk HG12; clear gb12 gl12 HG12; obtain ⟨hx12_0, hf12_0⟩ := Kd.R_celln 0 HO_6.out (x8_1 : Int) p12 q12; replace p12 := eq_true p12; replace q12 := eq_true q12; obtain ⟨hy13_, hz13_⟩ := Kd.R_celln 0 HO_6.out (x8_1 : Int) uO uO; have HP13 := Kd.R_putg HO_6.out (x8_1 : Int) t269) | ((with_reducible refine gate_store (t := 42) (p := 31) rfl ?_); refine store_event (t := 42) (p := 31) (v := ?vo_w14) (w1 := (wr.setCell ⟨go12, (x8_1 : Int).toNat, none⟩ (.int .u64 t269))) ?hg ?ho ?hn ?hr ?_; (case ho => rfl); (case hg => rfl); (case hn => rfl); (case hr => first | (go_simp; done) | (go_simp; rfl) | (obtain ⟨hy_, hz_⟩ := Kd.R_celln 0 HO_6.out (x8_1 : Int) uO uO; (try simp only [Go.IntWalk.toNatUp] at hy_ hz_); (try simp only [Int.reduceToNat, Int.toNat_zero, Int.toNat_ofNat] at hy_ hz_); first | (go_simp; done) | (go_simp; rfl))); intro w14 hw; have hg : wr.grownBy w14 (some go12) := (by rw [hw]; exact HP13.2); have hp_ : Kd.R (Kd.int .u64) 42 w14 w.heap.size (fun _ => True) (.slice (some ⟨go12, 0, none⟩) x6_1.length co12) y271 := (by rw [hw, Ny271.out]; exact HP13.1); clear HP13; replace HO_6 := Aside0.mk (hp_); replace HB := Aside0.mk ((by rw [hw]; exact below_set (HB.out) GB12.out : Below w.heap.size w w14)); clear hg hw hp_))
    go_roundg k1
    case measure => have := HK1.out; omega
    case rel => exact ⟨(y271), (t270), (wrap64 (x8_1 - 1)), uG, uG, H', ⟨by have := HK1.out; omega⟩, ⟨uR HO_6.out⟩, ⟨uB⟩⟩
   rw [if_neg c7] at H
   have c7b0 := decide_eq_false c7
   clear c7
   replace H := ub H; obtain ⟨t272, A15, H⟩ := H
   simp only [Option.some.injEq, Prod.mk.injEq] at H
   obtain ⟨rfl, rfl⟩ := H
   obtain ⟨Ao16, co16, eo16⟩ := Kd.R_slice HO_6.out
   subst eo16
   go_wp2_with (first | ((with_reducible refine ug 72 rfl ?_); refine uh (some 33) rfl Try.func72 #[.slice Ao16 x6_1.length co16] ?_; (with_reducible refine (nat_trim.calls k1 (fun k_ => some k_ = (.slice Ao16 x6_1.length co16 : Value).ownBlock) (.slice Ao16 x6_1.length co16) x6_1 t272 w _ ?side1 ?side2 A15.out).mono ?_); (case side1 => repeat (first | (with_reducible first | exact HB.out | apply below_alloc | apply pw_below_drewN | apply below_drew1) | exact HB.out)); (case side2 => exact Kd.R_tight rfl HO_6.out); rintro e w17 ⟨v273, rfl, ho0, hb, hkp⟩; refine ⟨_, rfl, ?_⟩; have HO274 := Aside0.mk (Kd.R_mono (ok' := fun k_ => True) ho0 (fun k_ hk_ => trivial)); replace HB := Aside0.mk (hb); clear HO_6; (try clear hb); (try clear hkp); (try clear ho0)))
   go_ret2
   exact ⟨_, uF, uR HO274.out, uB⟩
def nat_up.l0 : Nat → Int → List Int → List Int → Int → Int → Option (List Int)
 | 0, _, _, _, _, _ => none
 | k + 1, x1, x5, x12, x13, x14 => if x14 < x13 then (if 0 ≤ x14 then (if x14 < (x12.length : Int) then (if x14 < (x5.length : Int) then (if 0 ≤ x1 then ((some (x5.set (x14 : Int).toNat (Go.bits .or .u64 (rd x5 x14) (shl .u64 (rd x12 x14) x1)) : List Int)).bind fun y280 => (if x1 > 0 then (if 0 ≤ (IntKind.u64.wrap (64 - x1)) then (if 0 ≤ (wrap64 (x14 + 1)) then (if (wrap64 (x14 + 1)) < (x5.length : Int) then (nat_up.l0 k x1 (y280.set ((wrap64 (x14 + 1)) : Int).toNat (shr .u64 (rd x12 x14) (IntKind.u64.wrap (64 - x1)))) x12 x13 (wrap64 (x14 + 1))) else (none)) else (none)) else (none)) else (nat_up.l0 k x1 y280 x12 x13 (wrap64 (x14 + 1))))) else (none)) else (none)) else (none)) else (none)) else (some x5)
def nat_up.f (k : Nat) (l0 : List Int) (a1 : Int) : Option (List Int) := if 0 ≤ (wrap64 ((l0.length : Int) + 1)) then (if (wrap64 ((l0.length : Int) + 1) : Int).toNat ≤ 35184372088832 then (nat_up.l0 k a1 (List.replicate (wrap64 ((l0.length : Int) + 1) : Int).toNat 0) l0 (l0.length : Int) 0) else (none)) else (none)
theorem nat_up.calls (k : Nat) (A0 : Option Addr) (c0 : Nat) (l0 : List Int) (a1 : Int) (r : List Int) (w : World) (hr0 : Kd.C (Kd.int .u64) w A0 l0.length l0) (hc0 : l0.length ≤ c0) (h : nat_up.f k l0 a1 = some r) :
  Calls Try.prog 73 #[.slice A0 l0.length c0, .int .u64 a1] w fun e w' => ∃ v0_ : Value, e = .returned (v0_) ∧ Kd.R (Kd.int .u64) 42 w' w.heap.size (fun _ => True) v0_ r ∧ Below w.heap.size w w' := by
 have HR0 := Aside0.mk hr0; have HC0 := Aside0.mk hc0; clear hr0 hc0
 have HB := Aside0.mk (Below.refl w.heap.size w)
 have H : (if 0 ≤ (wrap64 ((l0.length : Int) + 1)) then (if (wrap64 ((l0.length : Int) + 1) : Int).toNat ≤ 35184372088832 then (nat_up.l0 k a1 (List.replicate (wrap64 ((l0.length : Int) + 1) : Int).toNat 0) l0 (l0.length : Int) 0) else (none)) else (none)) = some r := h
 clear h
 obtain ⟨ji3, hji3⟩ : ∃ j_ : Int, (wrap64 ((l0.length : Int) + 1)) = j_ := ⟨_, rfl⟩
 first | rw [hji3] at H | simp only [hji3] at H
 have hji3w : (IntKind.i64.wrap ((l0.length : Int) + 1)) = ji3 := (i64_w _).trans hji3
 replace H := uT H; obtain ⟨c4, H⟩ := H
 have c4b0 := eq_true c4
 have c4b1 := decide_eq_true c4
 clear c4
 replace H := uT H; obtain ⟨c5, H⟩ := H
 have c5b0 := eq_true c5
 have c5b1 := decide_eq_true c5
 clear c5
 obtain ⟨y275, hy275⟩ : ∃ y_ : List Int, y_ = (List.replicate (ji3 : Int).toNat 0) := ⟨_, rfl⟩
 replace H : (nat_up.l0 k a1 y275 l0 (l0.length : Int) 0) = some r := by first | (rw [hy275]; with_reducible exact H) | (have H2_ := (Option.bind_some _ _).symm.trans H; rw [hy275]; with_reducible exact H2_) | (have H2_ := (Option.bind_some _ _).symm.trans H; with_reducible exact H2_) | with_reducible exact H | (rw [hy275]; exact H) | exact H
 have Ny275 := Aside0.mk hy275; clear hy275
 have H' := Aside0.mk H
 clear H
 go_enter Try.func73, Try.ntmps73
 go_wp2_with (first | ((with_reducible refine gate_dst (N := 11) rfl ?_); refine Kd.R_make (Kd.int .u64) _ 42 rfl (N := 11) rfl 23 _ _ rfl ji3 rfl rfl Try.underlying23 (.int .u64 0) 8 info42 rfl (by decide) (by omega) 0 (ok := fun _ => True) (okp := fun _ => True) rfl (fun _ hk => hk) trivial uO (Nat.le_trans (Nat.mul_le_mul_right _ (uO : ji3.toNat ≤ 35184372088832)) (by omega)) (Below.refl _ _) (Nat.le_refl _) ?_; intro v276 w6 ho7 hb hg_ hnew_; clear hg_ hnew_; (first | rw [← Ny275.out] at ho7 | (simp only [Int.reduceToNat] at ho7; rw [← Ny275.out] at ho7)); have HO277 := ulo ho7; replace HB := uy hb; clear hb ho7))
 go_loopg [14] k (fun kq v14 w' => ∃ (x5_1 : List Int) (x14_1 : Int), v14 = .int .i64 x14_1 ∧ Aside0 (nat_up.l0 kq a1 x5_1 l0 (l0.length : Int) x14_1 = some r) ∧ Aside0 (kq ≤ k) ∧ Aside0 (Kd.R (Kd.int .u64) 42 w' w.heap.size (fun _ => True) v276 x5_1) ∧ Aside0 (Below w.heap.size w w'))
 case atStart => exact ⟨(y275), (0), uG, H', ⟨Nat.le_refl _⟩, ⟨uR HO277.out⟩, ⟨uB⟩⟩
 case round =>
  clear H'
  obtain ⟨x5_1, x14_1, rfl, HA, HK1, HO_5, HB⟩ := hrel
  cases gk with
  | zero => exact absurd HA.out (by simp [nat_up.l0])
  | succ k1 =>
   have H := HA.out
   clear HA
   simp only [nat_up.l0] at H
   by_cases c8 : x14_1 < (l0.length : Int)
   ·
    rw [if_pos c8] at H
    have c8b0 := decide_eq_true c8
    clear c8
    replace H := uT H; obtain ⟨c9, H⟩ := H
    have c9b0 := decide_eq_true c9
    clear c9
    replace H := uT H; obtain ⟨c10, H⟩ := H
    have c10b0 := decide_eq_true c10
    clear c10
    replace H := uT H; obtain ⟨c11, H⟩ := H
    have c11b0 := decide_eq_true c11
    clear c11
    replace H := uT H; obtain ⟨c12, H⟩ := H
    have c12b0 := eq_true c12
    have c12b1 := decide_eq_true c12
    clear c12
    obtain ⟨ji13, hji13⟩ : ∃ j_ : Int, (shl .u64 (rd l0 x14_1) a1) = j_ := ⟨_, rfl⟩
    first | rw [hji13] at H | simp only [hji13] at H
    have hji13_ : (IntKind.u64.wrap ((rd l0 x14_1) * 2 ^ min a1.toNat 64)) = ji13 := hji13
    have hji13z : a1 ≤ 64 → (IntKind.u64.wrap ((rd l0 x14_1) * 2 ^ a1.toNat)) = ji13 := shl_small hji13
    replace H := ubs H; obtain ⟨y280, hy280, H⟩ := H
    have Ny280 := Aside0.mk hy280; clear hy280
    by_cases c15 : a1 > 0
    ·
     rw [if_pos c15] at H
     have c15b0 := decide_eq_true c15
     clear c15
     obtain ⟨ji16, hji16⟩ : ∃ j_ : Int, (IntKind.u64.wrap (64 - a1)) = j_ := ⟨_, rfl⟩
     first | rw [hji16] at H | simp only [hji16] at H
     replace H := uT H; obtain ⟨c17, H⟩ := H
     have c17b0 := eq_true c17
     have c17b1 := decide_eq_true c17
     clear c17
     obtain ⟨ji18, hji18⟩ : ∃ j_ : Int, (shr .u64 (rd l0 x14_1) (ji16)) = j_ := ⟨_, rfl⟩
     first | rw [hji18] at H | simp only [hji18] at H
     have hji18_ : ((rd l0 x14_1) / 2 ^ min (ji16).toNat 64) = ji18 := hji18
     have hji18z : (ji16) ≤ 64 → ((rd l0 x14_1) / 2 ^ (ji16).toNat) = ji18 := shr_small hji18
     obtain ⟨ji19, hji19⟩ : ∃ j_ : Int, (wrap64 (x14_1 + 1)) = j_ := ⟨_, rfl⟩
     first | rw [hji19] at H | simp only [hji19] at H
     have hji19w : (IntKind.i64.wrap (x14_1 + 1)) = ji19 := (i64_w _).trans hji19
     replace H := uT H; obtain ⟨c20, H⟩ := H
     have c20b0 := decide_eq_true c20
     clear c20
     replace H := uT H; obtain ⟨c21, H⟩ := H
     have c21b0 := decide_eq_true c21
     clear c21
     obtain ⟨y281, hy281⟩ : ∃ y_ : List Int, y_ = (y280.set ((ji19) : Int).toNat (ji18)) := ⟨_, rfl⟩
     replace H : (nat_up.l0 k1 a1 y281 l0 (l0.length : Int) ji19) = some r := by first | (rw [hy281]; with_reducible exact H) | (have H2_ := (Option.bind_some _ _).symm.trans H; rw [hy281]; with_reducible exact H2_) | (have H2_ := (Option.bind_some _ _).symm.trans H; with_reducible exact H2_) | with_reducible exact H | (rw [hy281]; exact H) | exact H
     have Ny281 := Aside0.mk hy281; clear hy281
     have H' := Aside0.mk H
     clear H
     have p278 : 0 ≤ (x14_1 : Int) := uO
     have q278 : x14_1 < (l0.length : Int) := uO
     obtain ⟨ad278, e278, hx278_0⟩ := Kd.at_int HR0.out x14_1 p278 q278
     cases e278
     replace hx278_0 := (HB.out.cell (World.block_lt_of_cell? w _ hx278_0)).trans hx278_0
     replace p278 := eq_true p278
     replace q278 := eq_true q278
     obtain ⟨Ao23, co23, eo23⟩ := Kd.R_slice HO_5.out
     subst eo23
     have p279 := eq_true (uO : 0 ≤ (x14_1 : Int))
     have q279 := eq_true (uO : x14_1 < (x5_1.length : Int))
     obtain ⟨ad279, e279, hx279_0⟩ := Kd.at_int (Kd.R_reads' HO_5.out).2.2 x14_1 uO uO
     cases e279
     have p14 : 0 ≤ (x14_1 : Int) := uO
     have q14 : (x14_1 : Int) < ((x5_1.length : Int) : Int) := uO
     obtain ⟨go14, co14, eo14, gb14, gl14, cl14, HG14⟩ := Kd.R_form HO_5.out (by omega)
     (first | cases eo14 | (injection eo14 with ea_ en_ ec_; (first | subst ea_ | (injection ea_ with ea_; subst ea_)); subst ec_; clear en_))
     have GB14 := Aside0.mk gb14; have GG14 := Aside0.mk HG14; clear gb14 gl14 HG14
     (first | simp only [add_plain] at hx279_0 | skip)
     obtain ⟨hx14_0, hf14_0⟩ := Kd.R_celln 0 HO_5.out (x14_1 : Int) p14 q14
     replace p14 := eq_true p14
     replace q14 := eq_true q14
     have HP24 := Kd.R_putg HO_5.out (x14_1 : Int) (Go.bits .or .u64 (rd x5_1 x14_1) (ji13))
     go_wp2_with (first | ((with_reducible refine gate_store (t := 42) (p := 27) rfl ?_); refine store_event (t := 42) (p := 27) (v := ?vo_w25) (w1 := (wr.setCell ⟨go14, (x14_1 : Int).toNat, none⟩ (.int .u64 (Go.bits .or .u64 (rd x5_1 x14_1) (ji13))))) ?hg ?ho ?hn ?hr ?_; (case ho => rfl); (case hg => rfl); (case hn => rfl); (case hr => first | (go_simp; done) | (go_simp; rfl) | (obtain ⟨hy_, hz_⟩ := Kd.R_celln 0 HO_5.out (x14_1 : Int) uO uO; (try simp only [Go.IntWalk.toNatUp] at hy_ hz_); (try simp only [Int.reduceToNat, Int.toNat_zero, Int.toNat_ofNat] at hy_ hz_); first | (go_simp; done) | (go_simp; rfl))); intro w25 hw; have hg : wr.grownBy w25 (some go14) := (by rw [hw]; exact HP24.2); have hp_ : Kd.R (Kd.int .u64) 42 w25 w.heap.size (fun _ => True) (.slice (some ⟨go14, 0, none⟩) x5_1.length co23) y280 := (by rw [hw, Ny280.out]; exact HP24.1); clear HP24; replace HO_5 := Aside0.mk (hp_); replace HB := Aside0.mk ((by rw [hw]; exact below_set (HB.out) GB14.out : Below w.heap.size w w25)); clear hg hw hp_; have p22 : 0 ≤ ((ji19) : Int) := uO; have q22 : ((ji19) : Int) < ((x5_1.length : Int) : Int) := uO; obtain ⟨hx22_0, hf22_0⟩ := Kd.R_celln 0 HO_5.out ((ji19) : Int) p22 q22; replace p22 := eq_true p22; replace q22 := eq_true q22; obtain ⟨hy26_, hz26_⟩ := Kd.R_celln 0 HO_5.out ((ji19) : Int) uO uO; have HP26 := Kd.R_putg HO_5.out ((ji19) : Int) ji18) | ((with_reducible refine gate_store (t := 42) (p := 37) rfl ?_); refine store_event (t := 42) (p := 37) (v := ?vo_w27) (w1 := (w25.setCell ⟨go14, ((ji19) : Int).toNat, none⟩ (.int .u64 ji18))) ?hg ?ho ?hn ?hr ?_; (case ho => rfl); (case hg => rfl); (case hn => rfl); (case hr => first | (go_simp; done) | (go_simp; rfl) | (obtain ⟨hy_, hz_⟩ := Kd.R_celln 0 HO_5.out ((ji19) : Int) uO uO; (try simp only [Go.IntWalk.toNatUp] at hy_ hz_); (try simp only [Int.reduceToNat, Int.toNat_zero, Int.toNat_ofNat] at hy_ hz_); first | (go_simp; done) | (go_simp; rfl))); intro w27 hw; have hg : w25.grownBy w27 (some go14) := (by rw [hw]; exact HP26.2); have hp_ : Kd.R (Kd.int .u64) 42 w27 w.heap.size (fun _ => True) (.slice (some ⟨go14, 0, none⟩) x5_1.length co23) y281 := (by rw [hw, Ny281.out]; exact HP26.1); clear HP26; replace HO_5 := Aside0.mk (hp_); replace HB := Aside0.mk ((by rw [hw]; exact below_set (HB.out) GB14.out : Below w.heap.size w w27)); clear hg hw hp_))
     first | go_roundg k1 | ((try simp only [← hji19] at H'); simp only [← hji19]; go_roundg k1) | ((try simp only [← hji18] at H'); simp only [← hji18]; go_roundg k1) | ((try simp only [← hji16] at H'); simp only [← hji16]; go_roundg k1) | ((try simp only [← hji13] at H'); simp only [← hji13]; go_roundg k1) | ((try simp only [← hji3] at H'); simp only [← hji3]; go_roundg k1)
     case measure => have := HK1.out; omega
     case rel => first | exact ⟨(y281), (ji19), (by first | rfl | (simp; done) | (simp only [← hji19] <;> (first | rfl | simp)) | (simp [*]; done)), H', ⟨by have := HK1.out; omega⟩, ⟨uR HO_5.out⟩, ⟨uB⟩⟩ | (simp only [← hji19] at H'; exact ⟨(y281), (ji19), (by first | rfl | (simp; done) | (simp only [← hji19] <;> (first | rfl | simp)) | (simp [*]; done)), H', ⟨by have := HK1.out; omega⟩, ⟨uR HO_5.out⟩, ⟨uB⟩⟩) | (simp only [← hji18] at H'; exact ⟨(y281), (ji19), (by first | rfl | (simp; done) | (simp only [← hji19] <;> (first | rfl | simp)) | (simp [*]; done)), H', ⟨by have := HK1.out; omega⟩, ⟨uR HO_5.out⟩, ⟨uB⟩⟩) | (simp only [← hji16] at H'; exact ⟨(y281), (ji19), (by first | rfl | (simp; done) | (simp only [← hji19] <;> (first | rfl | simp)) | (simp [*]; done)), H', ⟨by have := HK1.out; omega⟩, ⟨uR HO_5.out⟩, ⟨uB⟩⟩) | (simp only [← hji13] at H'; exact ⟨(y281), (ji19), (by first | rfl | (simp; done) | (simp only [← hji19] <;> (first | rfl | simp)) | (simp [*]; done)), H', ⟨by have := HK1.out; omega⟩, ⟨uR HO_5.out⟩, ⟨uB⟩⟩) | (simp only [← hji3] at H'; exact ⟨(y281), (ji19), (by first | rfl | (simp; done) | (simp only [← hji19] <;> (first | rfl | simp)) | (simp [*]; done)), H', ⟨by have := HK1.out; omega⟩, ⟨uR HO_5.out⟩, ⟨uB⟩⟩)
    rw [if_neg c15] at H
    have c15b0 := decide_eq_false c15
    clear c15
    have H' := Aside0.mk H
    clear H
    have p278 : 0 ≤ (x14_1 : Int) := uO
    have q278 : x14_1 < (l0.length : Int) := uO
    obtain ⟨ad278, e278, hx278_0⟩ := Kd.at_int HR0.out x14_1 p278 q278
    cases e278
    replace hx278_0 := (HB.out.cell (World.block_lt_of_cell? w _ hx278_0)).trans hx278_0
    replace p278 := eq_true p278
    replace q278 := eq_true q278
    obtain ⟨Ao28, co28, eo28⟩ := Kd.R_slice HO_5.out
    subst eo28
    have p279 := eq_true (uO : 0 ≤ (x14_1 : Int))
    have q279 := eq_true (uO : x14_1 < (x5_1.length : Int))
    obtain ⟨ad279, e279, hx279_0⟩ := Kd.at_int (Kd.R_reads' HO_5.out).2.2 x14_1 uO uO
    cases e279
    have p14 : 0 ≤ (x14_1 : Int) := uO
    have q14 : (x14_1 : Int) < ((x5_1.length : Int) : Int) := uO
    obtain ⟨go14, co14, eo14, gb14, gl14, cl14, HG14⟩ := Kd.R_form HO_5.out (by omega)
    (first | cases eo14 | (injection eo14 with ea_ en_ ec_; (first | subst ea_ | (injection ea_ with ea_; subst ea_)); subst ec_; clear en_))
    have GB14 := Aside0.mk gb14; have GG14 := Aside0.mk HG14; clear gb14 gl14 HG14
    (first | simp only [add_plain] at hx279_0 | skip)
    obtain ⟨hx14_0, hf14_0⟩ := Kd.R_celln 0 HO_5.out (x14_1 : Int) p14 q14
    replace p14 := eq_true p14
    replace q14 := eq_true q14
    have HP29 := Kd.R_putg HO_5.out (x14_1 : Int) (Go.bits .or .u64 (rd x5_1 x14_1) (ji13))
    go_wp2_with (first | ((with_reducible refine gate_store (t := 42) (p := 27) rfl ?_); refine store_event (t := 42) (p := 27) (v := ?vo_w30) (w1 := (wr.setCell ⟨go14, (x14_1 : Int).toNat, none⟩ (.int .u64 (Go.bits .or .u64 (rd x5_1 x14_1) (ji13))))) ?hg ?ho ?hn ?hr ?_; (case ho => rfl); (case hg => rfl); (case hn => rfl); (case hr => first | (go_simp; done) | (go_simp; rfl) | (obtain ⟨hy_, hz_⟩ := Kd.R_celln 0 HO_5.out (x14_1 : Int) uO uO; (try simp only [Go.IntWalk.toNatUp] at hy_ hz_); (try simp only [Int.reduceToNat, Int.toNat_zero, Int.toNat_ofNat] at hy_ hz_); first | (go_simp; done) | (go_simp; rfl))); intro w30 hw; have hg : wr.grownBy w30 (some go14) := (by rw [hw]; exact HP29.2); have hp_ : Kd.R (Kd.int .u64) 42 w30 w.heap.size (fun _ => True) (.slice (some ⟨go14, 0, none⟩) x5_1.length co28) y280 := (by rw [hw, Ny280.out]; exact HP29.1); clear HP29; replace HO_5 := Aside0.mk (hp_); replace HB := Aside0.mk ((by rw [hw]; exact below_set (HB.out) GB14.out : Below w.heap.size w w30)); clear hg hw hp_))
    first | go_roundg k1 | ((try simp only [← hji19] at H'); simp only [← hji19]; go_roundg k1) | ((try simp only [← hji18] at H'); simp only [← hji18]; go_roundg k1) | ((try simp only [← hji16] at H'); simp only [← hji16]; go_roundg k1) | ((try simp only [← hji13] at H'); simp only [← hji13]; go_roundg k1) | ((try simp only [← hji3] at H'); simp only [← hji3]; go_roundg k1)
    case measure => have := HK1.out; omega
    case rel => first | exact ⟨(y280), (wrap64 (x14_1 + 1)), uG, H', ⟨by have := HK1.out; omega⟩, ⟨uR HO_5.out⟩, ⟨uB⟩⟩ | (simp only [← hji19] at H'; exact ⟨(y280), (wrap64 (x14_1 + 1)), uG, H', ⟨by have := HK1.out; omega⟩, ⟨uR HO_5.out⟩, ⟨uB⟩⟩) | (simp only [← hji18] at H'; exact ⟨(y280), (wrap64 (x14_1 + 1)), uG, H', ⟨by have := HK1.out; omega⟩, ⟨uR HO_5.out⟩, ⟨uB⟩⟩) | (simp only [← hji16] at H'; exact ⟨(y280), (wrap64 (x14_1 + 1)), uG, H', ⟨by have := HK1.out; omega⟩, ⟨uR HO_5.out⟩, ⟨uB⟩⟩) | (simp only [← hji13] at H'; exact ⟨(y280), (wrap64 (x14_1 + 1)), uG, H', ⟨by have := HK1.out; omega⟩, ⟨uR HO_5.out⟩, ⟨uB⟩⟩) | (simp only [← hji3] at H'; exact ⟨(y280), (wrap64 (x14_1 + 1)), uG, H', ⟨by have := HK1.out; omega⟩, ⟨uR HO_5.out⟩, ⟨uB⟩⟩)
   rw [if_neg c8] at H
   have c8b0 := decide_eq_false c8
   clear c8
   obtain rfl := Option.some.inj H
   go_wp2
   go_ret
   exact ⟨_, by first | rfl | (simp [errW_none, errW_some] <;> rfl) | (simp only [← hji3]; first | rfl | (simp [errW_none, errW_some] <;> rfl)) | (simp [*, errW_none, errW_some] <;> rfl), uR HO_5.out, uB⟩
def bits_Mul64.f (a0 : Int) (a1 : Int) : Option (Int × Int) := some (IntKind.u64.wrap ((IntKind.u64.wrap ((IntKind.u64.wrap ((a0 / 4294967296) * (a1 / 4294967296))) + ((IntKind.u64.wrap ((IntKind.u64.wrap ((a0 / 4294967296) * (Go.bits .and .u64 a1 4294967295))) + ((IntKind.u64.wrap ((Go.bits .and .u64 a0 4294967295) * (Go.bits .and .u64 a1 4294967295))) / 4294967296))) / 4294967296))) + ((IntKind.u64.wrap ((Go.bits .and .u64 (IntKind.u64.wrap ((IntKind.u64.wrap ((a0 / 4294967296) * (Go.bits .and .u64 a1 4294967295))) + ((IntKind.u64.wrap ((Go.bits .and .u64 a0 4294967295) * (Go.bits .and .u64 a1 4294967295))) / 4294967296))) 4294967295) + (IntKind.u64.wrap ((Go.bits .and .u64 a0 4294967295) * (a1 / 4294967296))))) / 4294967296)), IntKind.u64.wrap (a0 * a1))
theorem bits_Mul64.calls (a0 : Int) (a1 : Int) (r1 : Int) (r2 : Int) (w : World) (h : bits_Mul64.f a0 a1 = some (r1, r2)) :
  Calls Try.prog 25 #[.int .u64 a0, .int .u64 a1] w fun e w' => e = .returned (.tuple #[.int .u64 r1, .int .u64 r2]) ∧ Drawn0 w w' := by
 have H : (some (IntKind.u64.wrap ((IntKind.u64.wrap ((IntKind.u64.wrap ((a0 / 4294967296) * (a1 / 4294967296))) + ((IntKind.u64.wrap ((IntKind.u64.wrap ((a0 / 4294967296) * (Go.bits .and .u64 a1 4294967295))) + ((IntKind.u64.wrap ((Go.bits .and .u64 a0 4294967295) * (Go.bits .and .u64 a1 4294967295))) / 4294967296))) / 4294967296))) + ((IntKind.u64.wrap ((Go.bits .and .u64 (IntKind.u64.wrap ((IntKind.u64.wrap ((a0 / 4294967296) * (Go.bits .and .u64 a1 4294967295))) + ((IntKind.u64.wrap ((Go.bits .and .u64 a0 4294967295) * (Go.bits .and .u64 a1 4294967295))) / 4294967296))) 4294967295) + (IntKind.u64.wrap ((Go.bits .and .u64 a0 4294967295) * (a1 / 4294967296))))) / 4294967296)), IntKind.u64.wrap (a0 * a1))) = some (r1, r2) := h
 clear h
 simp only [Option.some.injEq, Prod.mk.injEq] at H
 obtain ⟨rfl, rfl⟩ := H
 go_enter Try.func25, Try.ntmps25
 go_wp2
 go_ret2
 exact ⟨by first | rfl | (simp; done) | (simp [*]; done), by repeat (first | exact Drawn0.refl _ | apply Drawn0.step)⟩
mutual
def nat_guess.l0 : Nat → Int → Int → Int → Int → Int → Option (Int)
 | 0, _, _, _, _, _ => none
 | k + 1, x2, x3, x4, x11, x12 => (bits_Mul64.f x11 x4).bind fun bt284 => (if bt284.1 < x12 then (nat_guess.j1 k x2 x3 x4 x11 x12 true) else (if bt284.1 = x12 then (nat_guess.j1 k x2 x3 x4 x11 x12 (decide (bt284.2 ≤ x2))) else (nat_guess.j1 k x2 x3 x4 x11 x12 false)))
def nat_guess.j1 : Nat → Int → Int → Int → Int → Int → Bool → Option (Int)
 | 0, _, _, _, _, _, _ => none
 | k + 1, x2, x3, x4, x11, x12, x44 => if x44 = true then (some x11) else (if (IntKind.u64.wrap (x12 + x3)) < x12 then (some (IntKind.u64.wrap (x11 - 1))) else (nat_guess.l0 k x2 x3 x4 (IntKind.u64.wrap (x11 - 1)) (IntKind.u64.wrap (x12 + x3))))
end
def nat_guess.f (k : Nat) (a0 : Int) (a1 : Int) (a2 : Int) (a3 : Int) (a4 : Int) : Option (Int) := if a0 ≥ a3 then (some 18446744073709551615) else ((bits_Div64.f k a0 a1 a3).bind fun bt282 => (nat_guess.l0 k a2 a3 a4 bt282.1 bt282.2))
theorem nat_guess.calls (k : Nat) (a0 : Int) (a1 : Int) (a2 : Int) (a3 : Int) (a4 : Int) (r : Int) (w : World) (h : nat_guess.f k a0 a1 a2 a3 a4 = some r) :
  Calls Try.prog 89 #[.int .u64 a0, .int .u64 a1, .int .u64 a2, .int .u64 a3, .int .u64 a4] w fun e w' => e = .returned (.int .u64 r) ∧ Drawn0 w w' := by
 have H : (if a0 ≥ a3 then (some 18446744073709551615) else ((bits_Div64.f k a0 a1 a3).bind fun bt282 => (nat_guess.l0 k a2 a3 a4 bt282.1 bt282.2))) = some r := h
 clear h
 by_cases c6 : a0 ≥ a3
 ·
  rw [if_pos c6] at H
  have c6b0 := decide_eq_true c6
  clear c6
  obtain rfl := Option.some.inj H
  go_enter Try.func89, Try.ntmps89
  go_wp2
  go_ret
  exact ⟨by first | rfl | (simp; done) | (simp [*]; done), by repeat (first | exact Drawn0.refl _ | apply Drawn0.step)⟩
 rw [if_neg c6] at H
 have c6b0 := decide_eq_false c6
 clear c6
 replace H := ub H; obtain ⟨⟨t282, t283⟩, A7, H⟩ := H
 (try dsimp only at H)
 have H' := Aside0.mk H
 clear H
 go_enter Try.func89, Try.ntmps89
 go_wp2_with (first | ((with_reducible refine ug 87 rfl ?_); refine uh (some 23) rfl Try.func87 #[.int .u64 a0, .int .u64 a1, .int .u64 a3] ?_; (with_reducible refine (bits_Div64.calls k a0 a1 a3 t282 t283 _ A7.out).mono ?_); rintro e w' ⟨rfl, ⟨nd, rfl⟩⟩; refine ⟨_, rfl, ?_⟩))
 go_loopg [11, 12] k (fun kq v11 v12 w' => ∃ (x11_1 : Int) (x12_1 : Int), v11 = .int .u64 x11_1 ∧ v12 = .int .u64 x12_1 ∧ Aside0 (nat_guess.l0 kq a2 a3 a4 x11_1 x12_1 = some r) ∧ Aside0 (kq ≤ k) ∧ Drawn0 w w')
 case atStart => exact ⟨(t282), (t283), uG, uG, H', ⟨Nat.le_refl _⟩, by repeat (first | exact Drawn0.refl _ | apply Drawn0.step)⟩
 case round =>
  clear H'
  obtain ⟨x11_1, x12_1, rfl, rfl, HA, HK1, ⟨m1, rfl⟩⟩ := hrel
  cases gk with
  | zero => exact absurd HA.out (by simp [nat_guess.l0])
  | succ k1 =>
   have H := HA.out
   clear HA
   simp only [nat_guess.l0] at H
   replace H := ub H; obtain ⟨⟨t284, t285⟩, A8, H⟩ := H
   (try dsimp only at H)
   have HC9 := Aside0.mk H; clear H
   go_upto_region 5 with (first | ((with_reducible refine ug 25 rfl ?_); refine uh (some 29) rfl Try.func25 #[.int .u64 x11_1, .int .u64 a4] ?_; (with_reducible refine (bits_Mul64.calls x11_1 a4 t284 t285 _ A8.out).mono ?_); rintro e w' ⟨rfl, ⟨nd, rfl⟩⟩; refine ⟨_, rfl, ?_⟩))
   (try simp only [Act.put, List.setIfInBounds_toArray, List.set_cons_zero, List.set_cons_succ])
   go_cut [44] (fun v44 wc => ∃ (kq : Nat) (x44_8 : Bool), v44 = .bool x44_8 ∧ Aside0 (nat_guess.j1 kq a2 a3 a4 x11_1 x12_1 x44_8 = some r) ∧ Aside0 (kq ≤ k1) ∧ Drawn0 w wc)
   case first =>
    have H := HC9.out
    clear HC9
    by_cases c10 : t284 < x12_1
    ·
     rw [if_pos c10] at H
     have c10b0 := decide_eq_true c10
     clear c10
     (first | rw [c10b0] | (simp only [i64_w, i32_w]; rw [c10b0]) | skip)
     have H' := Aside0.mk H
     clear H
     go_wp2
     go_meet
     case rel => exact ⟨_, (true), uG, H', ⟨by have := HK1.out; first | omega | exact Nat.le_refl _⟩, by repeat (first | exact Drawn0.refl _ | apply Drawn0.step)⟩
    rw [if_neg c10] at H
    have c10b0 := decide_eq_false c10
    clear c10
    (first | rw [c10b0] | (simp only [i64_w, i32_w]; rw [c10b0]) | skip)
    by_cases c11 : t284 = x12_1
    ·
     rw [if_pos c11] at H
     have c11b0 := beq_iff_eq.mpr c11
     have c11b1 := bne_eq_false_iff_eq.mpr c11
     clear c11
     have H' := Aside0.mk H
     clear H
     go_wp2
     go_meet
     case rel => exact ⟨_, (decide (t285 ≤ a2)), uG, H', ⟨by have := HK1.out; first | omega | exact Nat.le_refl _⟩, by repeat (first | exact Drawn0.refl _ | apply Drawn0.step)⟩
    rw [if_neg c11] at H
    have c11b0 := beq_eq_false_iff_ne.mpr c11
    have c11b1 := bne_iff_ne.mpr c11
    have H' := Aside0.mk H
    clear H
    go_wp2
    go_meet
    case rel => exact ⟨_, (false), uG, H', ⟨by have := HK1.out; first | omega | exact Nat.le_refl _⟩, by repeat (first | exact Drawn0.refl _ | apply Drawn0.step)⟩
   case rest =>
    clear HC9
    obtain ⟨kq, x44_8, rfl, HA, HJ8, ⟨mc8, rfl⟩⟩ := hcut
    cases kq with
    | zero => exact absurd HA.out (by simp [nat_guess.j1])
    | succ kj8 =>
     have H := HA.out
     clear HA
     simp only [nat_guess.j1] at H
     by_cases c12 : x44_8 = true
     ·
      subst c12
      have H1 : (some x11_1) = some r := by rw [if_pos rfl] at H; exact H
      clear H; have H := H1; clear H1
      obtain rfl := Option.some.inj H
      go_wp2
      go_ret
      exact ⟨by first | rfl | (simp; done) | (simp [*]; done), by repeat (first | exact Drawn0.refl _ | apply Drawn0.step)⟩
     replace c12 := Bool.eq_false_iff.mpr c12
     subst c12
     have H1 : (if (IntKind.u64.wrap (x12_1 + a3)) < x12_1 then (some (IntKind.u64.wrap (x11_1 - 1))) else (nat_guess.l0 kj8 a2 a3 a4 (IntKind.u64.wrap (x11_1 - 1)) (IntKind.u64.wrap (x12_1 + a3)))) = some r := by rw [if_neg (show ¬ (false = true) by decide)] at H; exact H
     clear H; have H := H1; clear H1
     by_cases c13 : (IntKind.u64.wrap (x12_1 + a3)) < x12_1
     ·
      rw [if_pos c13] at H
      have c13b0 := decide_eq_true c13
      clear c13
      obtain rfl := Option.some.inj H
      go_wp2
      go_ret
      exact ⟨by first | rfl | (simp; done) | (simp [*]; done), by repeat (first | exact Drawn0.refl _ | apply Drawn0.step)⟩
     rw [if_neg c13] at H
     have c13b0 := decide_eq_false c13
     clear c13
     have H' := Aside0.mk H
     clear H
     go_wp2
     go_roundg kj8
     case measure => have := HK1.out; have := HJ8.out; omega
     case rel => exact ⟨(IntKind.u64.wrap (x11_1 - 1)), (IntKind.u64.wrap (x12_1 + a3)), uG, uG, H', ⟨by have := HK1.out; have := HJ8.out; omega⟩, by repeat (first | exact Drawn0.refl _ | apply Drawn0.step)⟩
def nat_Shl.j0 : Nat → List Int → Int → Bool → Option (List Int × Int)
 | 0, _, _, _ => none
 | k + 1, x0, x1, x6 => if x6 = true then (some (([] : List Int), 1)) else (if (x0.length : Int) = 0 then (some (([] : List Int), 0)) else (if x1 > 4096 then (some (([] : List Int), 4)) else (if 0 ≤ (wrap64 (Int.tdiv x1 64)) then (if (wrap64 (Int.tdiv x1 64) : Int).toNat ≤ 35184372088832 then ((some (List.replicate (wrap64 (Int.tdiv x1 64) : Int).toNat 0 : List Int)).bind fun y423 => ((nat_up.f k x0 (IntKind.u64.wrap (Int.tmod x1 64))).bind fun t426 => (if y423.length + t426.length < 17592186044416 then ((nat_told.f k (y423 ++ t426)).bind fun bt432 => (some (bt432.1, bt432.2))) else (none)))) else (none)) else (none))))
def nat_Shl.f (k : Nat) (l0 : List Int) (a1 : Int) : Option (List Int × Int) := (nat_Right.f l0).bind fun t422 => (if t422 = true then (nat_Shl.j0 k l0 a1 (decide (a1 < 0))) else (nat_Shl.j0 k l0 a1 true))
def nat_Shl.T7 : Bool × List (List Nat × List Nat) := (true, [([], []), ([0], [0]), ([1, 1], [1]), ([], []), ([], []), ([4], [4]), ([5], [5]), ([3, 6], [3, 6]), ([2, 7, 7], [2, 7]), ([8, 8], [8]), ([9], [9]), ([9], [9]), ([10, 9, 0, 1, 2, 3, 4, 5, 6, 7, 8, 9, 10, 11], [10]), ([11, 12, 0, 1, 2, 3, 4, 5, 6, 7, 8, 9, 10, 11, 12], [11])])
def nat_Shl.B7 : List Nat := [0, 1, 3, 0, 0, 16, 48, 120, 255, 511, 1023, 1023, 4095, 8191]
theorem nat_Shl.tab7 : rtab .any (opsOf Try.f45 7) = nat_Shl.T7 := by kernel_rfl
theorem nat_Shl.bits7 : waitsOk nat_Shl.T7.2 nat_Shl.B7 = true := by kernel_rfl
theorem nat_Shl.calls (k : Nat) (A0 : Option Addr) (c0 : Nat) (l0 : List Int) (a1 : Int) (r1 : List Int) (r2 : Int) (w : World) (hr0 : Kd.C (Kd.int .u64) w A0 l0.length l0) (hc0 : l0.length ≤ c0) (h : nat_Shl.f k l0 a1 = some (r1, r2)) :
  Calls Try.prog 45 #[.slice A0 l0.length c0, .int .i64 a1] w fun e w' => ∃ v0_ : Value, e = .returned (.tuple #[v0_, .int .i64 r2]) ∧ Kd.R (Kd.int .u64) 42 w' w.heap.size (fun _ => True) v0_ r1 ∧ Below w.heap.size w w' := by
 have HR0 := Aside0.mk hr0; have HC0 := Aside0.mk hc0; clear hr0 hc0
 have HB := Aside0.mk (Below.refl w.heap.size w)
 have H : ((nat_Right.f l0).bind fun t422 => (if t422 = true then (nat_Shl.j0 k l0 a1 (decide (a1 < 0))) else (nat_Shl.j0 k l0 a1 true))) = some (r1, r2) := h
 clear h; have HC3 := Aside0.mk H; clear H
 go_enter Try.func45, Try.ntmps45
 go_upto_region 1 with (fail)
 go_cut [6] (fun v6 wc => ∃ (kq : Nat) (x6_2 : Bool), v6 = .bool x6_2 ∧ Aside0 (nat_Shl.j0 kq l0 a1 x6_2 = some (r1, r2)) ∧ Aside0 (kq ≤ k) ∧ Aside0 (Below w.heap.size w wc))
 case first =>
  have H := HC3.out
  clear HC3
  replace H := ub H; obtain ⟨t422, A4, H⟩ := H
  by_cases c5 : t422 = true
  ·
   subst c5
   have H1 : (nat_Shl.j0 k l0 a1 (decide (a1 < 0))) = some (r1, r2) := by rw [if_pos rfl] at H; exact H
   clear H; have H := H1; clear H1
   have H' := Aside0.mk H
   clear H
   go_wp2_with (first | ((with_reducible refine ug 39 rfl ?_); refine uh (some 8) rfl Try.func39 #[.slice A0 l0.length c0] ?_; (with_reducible refine (nat_Right.calls _ _ l0 true _ ?side1 ?side2 A4.out).mono ?_); (case side1 => exact uC (Kd.C_below HR0.out HB.out)); (case side2 => exact HC0.out); rintro e w' ⟨rfl, ⟨nd, rfl⟩⟩; refine ⟨_, rfl, ?_⟩))
   go_meet
   case rel => exact ⟨_, (decide (a1 < 0)), uG, H', ⟨uW⟩, ⟨uB⟩⟩
  replace c5 := Bool.eq_false_iff.mpr c5
  subst c5
  have H1 : (nat_Shl.j0 k l0 a1 true) = some (r1, r2) := by rw [if_neg (show ¬ (false = true) by decide)] at H; exact H
  clear H; have H := H1; clear H1
  have H' := Aside0.mk H
  clear H
  go_wp2_with (first | ((with_reducible refine ug 39 rfl ?_); refine uh (some 8) rfl Try.func39 #[.slice A0 l0.length c0] ?_; (with_reducible refine (nat_Right.calls _ _ l0 false _ ?side1 ?side2 A4.out).mono ?_); (case side1 => exact uC (Kd.C_below HR0.out HB.out)); (case side2 => exact HC0.out); rintro e w' ⟨rfl, ⟨nd, rfl⟩⟩; refine ⟨_, rfl, ?_⟩))
  go_meet
  case rel => exact ⟨_, (true), uG, H', ⟨uW⟩, ⟨uB⟩⟩
 case rest =>
  clear HC3
  obtain ⟨kq, x6_2, rfl, HA, HJ2, HB⟩ := hcut
  cases kq with
  | zero => exact absurd HA.out (by simp [nat_Shl.j0])
  | succ kj2 =>
   have H := HA.out
   clear HA
   simp only [nat_Shl.j0] at H
   by_cases c6 : x6_2 = true
   ·
    subst c6
    have H1 : (some (([] : List Int), 1)) = some (r1, r2) := by rw [if_pos rfl] at H; exact H
    clear H; have H := H1; clear H1
    simp only [Option.some.injEq, Prod.mk.injEq] at H
    obtain ⟨rfl, rfl⟩ := H
    go_wp2
    go_ret2
    exact ⟨_, uF, uI, uB⟩
   replace c6 := Bool.eq_false_iff.mpr c6
   subst c6
   have H1 : (if (l0.length : Int) = 0 then (some (([] : List Int), 0)) else (if a1 > 4096 then (some (([] : List Int), 4)) else (if 0 ≤ (wrap64 (Int.tdiv a1 64)) then (if (wrap64 (Int.tdiv a1 64) : Int).toNat ≤ 35184372088832 then ((some (List.replicate (wrap64 (Int.tdiv a1 64) : Int).toNat 0 : List Int)).bind fun y423 => ((nat_up.f kj2 l0 (IntKind.u64.wrap (Int.tmod a1 64))).bind fun t426 => (if y423.length + t426.length < 17592186044416 then ((nat_told.f kj2 (y423 ++ t426)).bind fun bt432 => (some (bt432.1, bt432.2))) else (none)))) else (none)) else (none)))) = some (r1, r2) := by rw [if_neg (show ¬ (false = true) by decide)] at H; exact H
   clear H; have H := H1; clear H1
   by_cases c7 : (l0.length : Int) = 0
   ·
    rw [if_pos c7] at H
    have c7b0 := beq_iff_eq.mpr c7
    have c7b1 := bne_eq_false_iff_eq.mpr c7
    clear c7
    simp only [Option.some.injEq, Prod.mk.injEq] at H
    obtain ⟨rfl, rfl⟩ := H
    go_wp2
    go_ret2
    exact ⟨_, uF, uI, uB⟩
   rw [if_neg c7] at H
   have c7b0 := beq_eq_false_iff_ne.mpr c7
   have c7b1 := bne_iff_ne.mpr c7
   have c7b2 : ¬ (l0 = []) := fun h_ => c7 (by rw [h_]; rfl)
   by_cases c8 : a1 > 4096
   ·
    rw [if_pos c8] at H
    have c8b0 := decide_eq_true c8
    clear c8
    simp only [Option.some.injEq, Prod.mk.injEq] at H
    obtain ⟨rfl, rfl⟩ := H
    go_wp2
    go_ret2
    exact ⟨_, uF, uI, uB⟩
   rw [if_neg c8] at H
   have c8b0 := decide_eq_false c8
   clear c8
   obtain ⟨ji9, hji9⟩ : ∃ j_ : Int, (wrap64 (Int.tdiv a1 64)) = j_ := ⟨_, rfl⟩
   first | rw [hji9] at H | simp only [hji9] at H
   have hji9w : (IntKind.i64.wrap (Int.tdiv a1 64)) = ji9 := (i64_w _).trans hji9
   replace H := uT H; obtain ⟨c10, H⟩ := H
   have c10b0 := eq_true c10
   have c10b1 := decide_eq_true c10
   clear c10
   replace H := uT H; obtain ⟨c11, H⟩ := H
   have c11b0 := eq_true c11
   have c11b1 := decide_eq_true c11
   clear c11
   replace H := ubs H; obtain ⟨y423, hy423, H⟩ := H
   have Ny423 := Aside0.mk hy423; clear hy423
   replace H := ub H; obtain ⟨t426, A12, H⟩ := H
   replace H := uT H; obtain ⟨c13, H⟩ := H
   have LMc13 := Aside0.mk c13; clear c13
   obtain ⟨y429, hy429⟩ : ∃ y_ : List Int, y_ = (y423 ++ t426) := ⟨_, rfl⟩
   replace H : ((nat_told.f kj2 y429).bind fun bt432 => (some (bt432.1, bt432.2))) = some (r1, r2) := by first | (rw [hy429]; with_reducible exact H) | (have H2_ := (Option.bind_some _ _).symm.trans H; rw [hy429]; with_reducible exact H2_) | (have H2_ := (Option.bind_some _ _).symm.trans H; with_reducible exact H2_) | with_reducible exact H | (rw [hy429]; exact H) | exact H
   have Ny429 := Aside0.mk hy429; clear hy429
   replace H := ub H; obtain ⟨⟨t432, t435⟩, A14, H⟩ := H
   (try dsimp only at H)
   simp only [Option.some.injEq, Prod.mk.injEq] at H
   obtain ⟨rfl, rfl⟩ := H
   try go_wp2
   replace HB := Aside0.mk (below_drew1 HB.out)
   refine start_ (n := 14) (S := fun w' => True) (ds := []) (.replicate 14 false) (by kernel_rfl) rfl rfl trivial (fun hHeld => ?_); refine with_tabW nat_Shl.tab7 nat_Shl.bits7 (fun HT_ HW_ => ?_)
   generalize wc.drew = w15 at HB hHeld ⊢
   refine upu 0 (some 21) (uA 14 1) rfl rfl HT_ ?_
   refine upu 1 (some 22) (uA 14 3) rfl rfl HT_ ?_
   refine upu 3 (some 24) (uA 14 11) rfl rfl HT_ ?_
   refine upu 4 (some 25) (uA 14 27) rfl rfl HT_ ?_
   refine upu 5 (some 26) (uA 14 59) rfl rfl HT_ ?_
   refine upu 6 (some 27) (uA 14 123) rfl rfl HT_ ?_
   refine join_ (σ := Value × Value) 6 (uA 14 255) (fun s_ => [(23, s_.1), (28, s_.2)]) (fun s_ w' => (Kd.R (Kd.int .u64) 42 w' w.heap.size (fun k_ => some k_ ≠ (s_.2 : Value).ownBlock) s_.1 y423) ∧ (Kd.R (Kd.int .u64) 42 w' w.heap.size (fun k_ => some k_ ≠ (s_.1 : Value).ownBlock) s_.2 t426) ∧ (Below w.heap.size w w')) ?_ ?_
   rotate_left
   ·
    intro hCont
    refine two_ (i := 2) (j := 7) (Ni := some 23) (Nj := some 28) (uA 14 127) (uA 14 251) rfl rfl rfl rfl (two_of HT_.out (by kernel_rfl)) (by decide) (by decide) (fun K hK => ?_) (fun K hK => ?_)
    ·
     refine Kd.R_make_step (Kd.int .u64) _ 42 (by rfl) (N := 23) rfl 23 _ _ rfl ji9 rfl rfl Try.underlying23 (.int .u64 0) 8 info42 rfl (by decide) (by omega) 0 (ok := fun _ => True) (okp := fun _ => True) rfl (fun _ hk => hk) trivial uO (Nat.le_trans (Nat.mul_le_mul_right _ (uO : ji9.toNat ≤ 35184372088832)) (by omega)) (Below.refl _ _) (Nat.le_refl _) ?_
     intro v424 w16 ho17 hb hg_ hnew_; clear hg_ hnew_
     (first | rw [← Ny423.out] at ho17 | (simp only [Int.reduceToNat] at ho17; rw [← Ny423.out] at ho17))
     have HO425 := ulo ho17; replace HB := uy hb; clear hb ho17; refine hK.out _ _ trivial (fun hHeld => ?_); clear hK K; refine norm_ (a' := ?_) ?_ ?_; rotate_left
     · exact (show Act.put _ (some 23) _ = _ from uQ)
     refine one_ (i := 7) (N := some 28) (uA 14 255) rfl rfl (one_of HT_.out (by kernel_rfl)) (by decide) (fun K hK => ?_)
     refine goes_ Try.func73 (by kernel_rfl) rfl #[.slice A0 l0.length c0, .int .u64 (IntKind.u64.wrap (Int.tmod a1 64))] (by rfl) rfl rfl uM ?_
     with_reducible refine (nat_up.calls kj2 _ _ l0 (IntKind.u64.wrap (Int.tmod a1 64)) t426 _ ?side1 ?side2 A12.out).mono ?_
     (case side1 => exact uC (Kd.C_below HR0.out HB.out))
     (case side2 => exact HC0.out)
     rintro e w18 ⟨v427, rfl, ho0, hb⟩
     refine ⟨_, rfl, ?_⟩; have HO428 := ulo (unw ho0 HO425); replace HO425 := ueR HO425 ho0 hb; replace HB := uy hb; (try clear hb ho0); refine hK.out _ _ trivial (fun hHeld => ?_); clear hK K; refine norm_ (a' := ?_) ?_ ?_; rotate_left
     · exact (show Act.put _ (some 28) _ = _ from uQ)
     exact norm_ (by simp only [putAll, Act.put, List.setIfInBounds_toArray, List.set_cons_zero, List.set_cons_succ]) (hCont (v424, v427) _ ⟨(uR (Kd.R_mono HO425.out (fun _ hk => hk.2))), (uR (Kd.R_mono HO428.out (fun _ hk => hk.2))), uB⟩)
    refine goes_ Try.func73 (by kernel_rfl) rfl #[.slice A0 l0.length c0, .int .u64 (IntKind.u64.wrap (Int.tmod a1 64))] (by rfl) rfl rfl uM ?_
    with_reducible refine (nat_up.calls kj2 _ _ l0 (IntKind.u64.wrap (Int.tmod a1 64)) t426 _ ?side1 ?side2 A12.out).mono ?_
    (case side1 => exact uC (Kd.C_below HR0.out HB.out))
    (case side2 => exact HC0.out)
    rintro e w16 ⟨v427, rfl, ho0, hb⟩
    refine ⟨_, rfl, ?_⟩; have HO428 := ulo ho0; replace HB := uy hb; (try clear hb ho0); refine hK.out _ _ trivial (fun hHeld => ?_); clear hK K; refine norm_ (a' := ?_) ?_ ?_; rotate_left
    · exact (show Act.put _ (some 28) _ = _ from uQ)
    refine one_ (i := 2) (N := some 23) (uA 14 255) rfl rfl (one_of HT_.out (by kernel_rfl)) (by decide) (fun K hK => ?_)
    refine Kd.R_make_step (Kd.int .u64) _ 42 (by rfl) (N := 23) rfl 23 _ _ rfl ji9 rfl rfl Try.underlying23 (.int .u64 0) 8 info42 rfl (by decide) (by omega) 0 (ok := fun _ => True) (okp := fun _ => True) rfl (fun _ hk => hk) trivial uO (Nat.le_trans (Nat.mul_le_mul_right _ (uO : ji9.toNat ≤ 35184372088832)) (by omega)) (Below.refl _ _) (Nat.le_refl _) ?_
    intro v424 w17 ho18 hb hg_ hnew_; clear hg_ hnew_
    (first | rw [← Ny423.out] at ho18 | (simp only [Int.reduceToNat] at ho18; rw [← Ny423.out] at ho18))
    have HO425 := ulo (unw ho18 HO428); replace HO428 := ueR HO428 ho18 hb; replace HB := uy hb; clear hb ho18; refine hK.out _ _ trivial (fun hHeld => ?_); clear hK K; refine norm_ (a' := ?_) ?_ ?_; rotate_left
    · exact (show Act.put _ (some 23) _ = _ from uQ)
    exact norm_ (by simp only [putAll, Act.put, List.setIfInBounds_toArray, List.set_cons_zero, List.set_cons_succ]) (hCont (v424, v427) _ ⟨(uR (Kd.R_mono HO425.out (fun _ hk => hk.2))), (uR (Kd.R_mono HO428.out (fun _ hk => hk.2))), uB⟩)
   rintro ⟨v424, v427⟩ w19 ⟨h0_, h1_, h2_⟩
   have HO425 : Aside0 (Kd.R (Kd.int .u64) 42 w19 w.heap.size (fun k_ => some k_ ≠ (v427 : Value).ownBlock) v424 y423) := ⟨h0_⟩; have HO428 : Aside0 (Kd.R (Kd.int .u64) 42 w19 w.heap.size (fun k_ => some k_ ≠ (v424 : Value).ownBlock) v427 t426) := ⟨h1_⟩; replace HB : Aside0 (Below w.heap.size w w19) := ⟨h2_⟩; clear h0_ h1_ h2_
   have hHeld := trivial
   obtain ⟨Ao21, co21, eo21⟩ := Kd.R_slice HO428.out
   (first | subst eo21 | (injection eo21 with f1_ f2_ f3_; have f4_ := f1_.symm; have f5_ := f3_.symm; clear f1_ f2_ f3_; subst f4_; subst f5_))
   refine norm_ (a' := ?_) ?_ ?_; rotate_left
   ·
    simp only [putAll, Act.put, List.setIfInBounds_toArray, List.set_cons_zero, List.set_cons_succ]
    rfl
   refine one_ (i := 8) (N := some 29) (uA 14 511) rfl rfl (one_of HT_.out (by kernel_rfl)) (by decide) (fun K hK => ?_)
   refine Kd.R_append_rows_step (Kd.int .u64) (w0 := w) w.heap.size (by rfl) (.tmp 23) (.tmp 28) 23 42 (.int .u64 0) 8 rfl Try.underlying23 info42 rfl (by decide) (by omega) v424 y423 t426 _ _ _ (fun k_ => some k_ ≠ (.slice Ao21 t426.length co21 : Value).ownBlock) (fun _ => False) rfl rfl ?aO ?aR (fun _ _ h => h) (fun _ h => h.elim) ?aF ?aB ?aS ?aL ?_
   (case aR => exact uC (Kd.R_reads' HO428.out).2.2)
   (case aB => exact uB)
   (case aF => exact (fun k_ hk => Kd.fresh' (Kd.R_lt (uR HO428.out)) k_ hk))
   (case aO => exact (uR HO425.out))
   (case aS => exact (below_size uB))
   (case aL => have := LMc13.out; omega)
   intro v430 w20 ho hb hg hat
   rw [← Ny429.out] at ho
   replace HO428 := Aside0.mk (Kd.R_after (ok := (fun _ => True)) (uR (Kd.R_mono HO428.out (fun _ hk => ⟨trivial, hk⟩))) hg hat); replace HB := Aside0.mk (hb); have HO431 := Aside0.mk (ho); clear HO425; clear ho hb hg hat
   obtain ⟨Ao22, co22, eo22⟩ := Kd.R_slice HO431.out
   (first | subst eo22 | (injection eo22 with f1_ f2_ f3_; have f4_ := f1_.symm; have f5_ := f3_.symm; clear f1_ f2_ f3_; subst f4_; subst f5_))
   refine hK.out _ _ trivial (fun hHeld => ?_); clear hK K; refine norm_ (a' := ?_) ?_ ?_; rotate_left
   · exact (show Act.put _ (some 29) _ = _ from uQ)
   refine one_ (i := 9) (N := some 30) (uA 14 1023) rfl rfl (one_of HT_.out (by kernel_rfl)) (by decide) (fun K hK => ?_)
   refine goes_ Try.func64 (by kernel_rfl) rfl #[.slice Ao22 y429.length co22] (by rfl) rfl rfl uM ?_
   with_reducible refine (nat_told.calls kj2 (fun k_ => some k_ = (.slice Ao22 y429.length co22 : Value).ownBlock) (.slice Ao22 y429.length co22) y429 t432 t435 w _ ?side1 ?side2 A14.out).mono ?_
   (case side1 => repeat (first | (with_reducible first | exact HB.out | apply below_alloc | apply pw_below_drewN | apply below_drew1) | exact HB.out))
   (case side2 => exact Kd.R_tight rfl HO431.out)
   rintro e w23 ⟨v433, rfl, ho0, hb, hkp⟩
   refine ⟨_, rfl, ?_⟩; have HO434 := Aside0.mk (Kd.R_mono (ok' := fun k_ => some k_ ≠ (.slice Ao21 t426.length co21 : Value).ownBlock) ho0 (fun k_ hk_ => Or.elim hk_ (fun hs_ => fun e_ => (((HO428.out).1 k_ e_.symm).2) hs_) (fun hn_ => (Kd.fresh' (Kd.R_lt (uR HO428.out)) k_ hn_)))); replace HO428 := Aside0.mk (Kd.R_mono (ok' := fun k_ => some k_ ≠ (v433 : Value).ownBlock) (Kd.R_keptB (HO428.out) hkp (fun k_ hk_ hs_ => (hk_.2) hs_)) (fun k_ hk_ => fun e_ => Or.elim (ho0.1 k_ e_.symm) (fun hs_ => hk_.2.1 hs_) (fun hn_ => Nat.not_le.2 hk_.2.2 hn_))); replace HB := Aside0.mk (hb); clear HO431; (try clear hb); (try clear hkp); (try clear ho0); refine hK.out _ _ trivial (fun hHeld => ?_); clear hK K; refine norm_ (a' := ?_) ?_ ?_; rotate_left
   · exact (show Act.put _ (some 30) _ = _ from uQ)
   refine upu 10 (some 31) (uA 14 2047) rfl rfl HT_ ?_
   refine upu 11 (some 32) (uA 14 4095) rfl rfl HT_ ?_
   refine upu 12 (some 4) (uA 14 8191) rfl rfl HT_ ?_
   refine upu 13 (some 5) (uA 14 16383) rfl rfl HT_ ?_
   refine done_ (done_of HT_.out (by kernel_rfl)) ?_
   try go_wp2
   go_ret2
   exact ⟨_, by first | rfl | (simp [errW_none, errW_some] <;> rfl) | (simp only [← hji9]; first | rfl | (simp [errW_none, errW_some] <;> rfl)) | (simp [*, errW_none, errW_some] <;> rfl), by exact uR (Kd.R_mono HO434.out (fun _ hk => trivial)), uB⟩
def fixenc_times2.f (k : Nat) (a0_0 : Bool) (l0_1 : List Int) (a1 : Int) : Option (Bool × List Int) := (nat_Shl.f k l0_1 a1).bind fun bt438 => ((modint_From.f a0_0 bt438.1).bind fun bt442 => (some (bt442.1, bt442.2)))
theorem fixenc_times2.calls (k : Nat) (a0_0 : Bool) (A0_1 : Option Addr) (c0_1 : Nat) (l0_1 : List Int) (a1 : Int) (r1 : Bool) (r2 : List Int) (w : World) (hr0_1 : Kd.C (Kd.int .u64) w A0_1 l0_1.length l0_1) (hc0_1 : l0_1.length ≤ c0_1) (h : fixenc_times2.f k a0_0 l0_1 a1 = some (r1, r2)) :
  Calls Try.prog 17 #[.agg #[.bool a0_0, .slice A0_1 l0_1.length c0_1], .int .i64 a1] w fun e w' => ∃ v1_ : Value, e = .returned (.agg #[.bool r1, v1_]) ∧ Kd.R (Kd.int .u64) 42 w' w.heap.size (fun _ => True) v1_ r2 ∧ Below w.heap.size w w' := by
 have hu44 := Try.underlying44
 have HR0_1 := Aside0.mk hr0_1; have HC0_1 := Aside0.mk hc0_1; clear hr0_1 hc0_1
 have HB := Aside0.mk (Below.refl w.heap.size w)
 have H : ((nat_Shl.f k l0_1 a1).bind fun bt438 => ((modint_From.f a0_0 bt438.1).bind fun bt442 => (some (bt442.1, bt442.2)))) = some (r1, r2) := h
 clear h
 replace H := ub H; obtain ⟨⟨t438, t439⟩, A3, H⟩ := H
 (try dsimp only at H)
 replace H := ub H; obtain ⟨⟨t442, t443⟩, A4, H⟩ := H
 (try dsimp only at H)
 simp only [Option.some.injEq, Prod.mk.injEq] at H
 obtain ⟨rfl, rfl⟩ := H
 go_enter Try.func17, Try.ntmps17
 go_wp2_with (first | ((with_reducible refine gate_dst (N := 2) rfl ?_); refine ubx 2 #[.bool a0_0, .slice A0_1 l0_1.length c0_1] 44 rfl rfl ?_; intro gb436 hg w5 hbox hb; have BK436 := Aside0.mk (hbox); have GW436 := us hg; have GE436 := us hg; replace HB := uy hb; clear hb hbox hg) | ((with_reducible refine gate_dst (N := 4) rfl ?_); refine ubx 4 #[.bool false, .slice none 0 0] 44 rfl rfl ?_; intro gb437 hg w6 hbox hb; have BK437 := Aside0.mk (hbox); have GW437 := us hg; have GE437 := us hg; replace HB := uy hb; obtain ⟨NB436_437, NB437_436⟩ := unb hg BK436; replace BK436 := ux BK436 hb; clear hb hbox hg; have hnb7 := NB436_437.out; have hnc7 := NB437_436.out; obtain ⟨hcz8_0, hcz8_1, hfz8_0, hfz8_1⟩ := uz2 w6 BK436) | ((with_reducible refine ug 45 rfl ?_); refine uh (some 11) rfl Try.func45 #[.slice A0_1 l0_1.length c0_1, .int .i64 a1] ?_; (with_reducible refine (nat_Shl.calls k _ _ l0_1 a1 t438 t439 _ ?side1 ?side2 A3.out).mono ?_); (case side1 => exact uC (Kd.C_below HR0_1.out HB.out)); (case side2 => exact HC0_1.out); rintro e w9 ⟨v440, rfl, ho0, hb⟩; refine ⟨_, rfl, ?_⟩; have HO441 := ulo ho0; replace BK436 := ux BK436 hb; replace BK437 := ux BK437 hb; replace HB := uy hb; (try clear hb ho0); obtain ⟨hcz10_0, hcz10_1, hfz10_0, hfz10_1⟩ := uz2 w9 BK436; obtain ⟨Ao11, co11, eo11⟩ := Kd.R_slice HO441.out; subst eo11) | ((with_reducible refine ug 41 rfl ?_); refine uh (some 17) rfl Try.func41 #[.bool a0_0, .slice Ao11 t438.length co11] ?_; (with_reducible refine (modint_From.calls a0_0 _ _ t438 t442 t443 _ ?side1 ?side2 A4.out).mono ?_); (case side1 => exact uC (Kd.R_reads' HO441.out).2.2); (case side2 => exact (Kd.R_reads' HO441.out).2.1); rintro e w12 ⟨v444, rfl, ho0, hb⟩; refine ⟨_, rfl, ?_⟩; have HO445 := ulo (unw ho0 HO441); replace HO441 := ueR HO441 ho0 hb; replace BK436 := ux BK436 hb; replace BK437 := ux BK437 hb; replace HB := uy hb; (try clear hb ho0); obtain ⟨hcz13_0, hcz13_1, hfz13_0, hfz13_1⟩ := uz2 w12 BK437; obtain ⟨Ao14, co14, eo14⟩ := Kd.R_slice HO445.out; subst eo14))
 refine bodyPost_ret (results_cell_row rfl _ _ gb437 44 #[.bool t442, .slice Ao14 t443.length co14] (0, 0) _ rfl (by refine blk_put (cs := #[.bool t442, .slice none 0 0]) ?_ 1 _ rfl; refine blk_put (cs := #[.bool false, .slice none 0 0]) ?_ 0 _ rfl; exact uK BK437.out) Try.underlying44 rfl (by kernel_rfl)) rfl ?_
 exact ⟨_, uF, by exact uR (Kd.R_mono (Kd.R_far (p := ⟨gb437, 1, none⟩) (Kd.R_far (p := ⟨gb437, 0, none⟩) (Kd.R_types HO445.out BK437.out (by decide)) (fun _ hk => hk.2) (.bool t442)) (fun _ hk => hk.2) (.slice Ao14 t443.length co14)) (fun _ hk => trivial)), uB⟩
def modint_Of.f (k : Nat) (a0 : Int) : Option (Bool × List Int) := if a0 < 0 then ((nat_Of.f k (IntKind.u64.wrap (-(IntKind.u64.wrap (a0))))).bind fun t447 => ((modint_From.f true t447).bind fun bt450 => (some (bt450.1, bt450.2)))) else ((nat_Of.f k (IntKind.u64.wrap (a0))).bind fun t454 => ((modint_From.f false t454).bind fun bt457 => (some (bt457.1, bt457.2))))
theorem modint_Of.calls (k : Nat) (a0 : Int) (r1 : Bool) (r2 : List Int) (w : World) (h : modint_Of.f k a0 = some (r1, r2)) :
  Calls Try.prog 18 #[.int .i64 a0] w fun e w' => ∃ v1_ : Value, e = .returned (.agg #[.bool r1, v1_]) ∧ Kd.R (Kd.int .u64) 42 w' w.heap.size (fun _ => True) v1_ r2 ∧ Below w.heap.size w w' := by
 have hu44 := Try.underlying44
 have HB := Aside0.mk (Below.refl w.heap.size w)
 have H : (if a0 < 0 then ((nat_Of.f k (IntKind.u64.wrap (-(IntKind.u64.wrap (a0))))).bind fun t447 => ((modint_From.f true t447).bind fun bt450 => (some (bt450.1, bt450.2)))) else ((nat_Of.f k (IntKind.u64.wrap (a0))).bind fun t454 => ((modint_From.f false t454).bind fun bt457 => (some (bt457.1, bt457.2))))) = some (r1, r2) := h
 clear h
 by_cases c2 : a0 < 0
 ·
  rw [if_pos c2] at H
  have c2b0 := decide_eq_true c2
  clear c2
  replace H := ub H; obtain ⟨t447, A3, H⟩ := H
  replace H := ub H; obtain ⟨⟨t450, t451⟩, A4, H⟩ := H
  (try dsimp only at H)
  simp only [Option.some.injEq, Prod.mk.injEq] at H
  obtain ⟨rfl, rfl⟩ := H
  go_enter Try.func18, Try.ntmps18
  go_wp2_with (first | ((with_reducible refine gate_dst (N := 2) rfl ?_); refine ubx 2 #[.bool false, .slice none 0 0] 44 rfl rfl ?_; intro gb446 hg w5 hbox hb; have BK446 := Aside0.mk (hbox); have GW446 := us hg; have GE446 := us hg; replace HB := uy hb; clear hb hbox hg) | ((with_reducible refine ug 44 rfl ?_); refine uh (some 8) rfl Try.func44 #[.int .u64 (IntKind.u64.wrap (-(IntKind.u64.wrap (a0))))] ?_; (with_reducible refine (nat_Of.calls k (IntKind.u64.wrap (-(IntKind.u64.wrap (a0)))) t447 _ A3.out).mono ?_); rintro e w6 ⟨v448, rfl, ho0, hb⟩; refine ⟨_, rfl, ?_⟩; have HO449 := ulo ho0; replace BK446 := ux BK446 hb; replace HB := uy hb; (try clear hb ho0); obtain ⟨Ao7, co7, eo7⟩ := Kd.R_slice HO449.out; subst eo7) | ((with_reducible refine ug 41 rfl ?_); refine uh (some 9) rfl Try.func41 #[.bool true, .slice Ao7 t447.length co7] ?_; (with_reducible refine (modint_From.calls true _ _ t447 t450 t451 _ ?side1 ?side2 A4.out).mono ?_); (case side1 => exact uC (Kd.R_reads' HO449.out).2.2); (case side2 => exact (Kd.R_reads' HO449.out).2.1); rintro e w8 ⟨v452, rfl, ho0, hb⟩; refine ⟨_, rfl, ?_⟩; have HO453 := ulo (unw ho0 HO449); replace HO449 := ueR HO449 ho0 hb; replace BK446 := ux BK446 hb; replace HB := uy hb; (try clear hb ho0); obtain ⟨hcz9_0, hcz9_1, hfz9_0, hfz9_1⟩ := uz2 w8 BK446; obtain ⟨Ao10, co10, eo10⟩ := Kd.R_slice HO453.out; subst eo10))
  refine bodyPost_ret (results_cell_row rfl _ _ gb446 44 #[.bool t450, .slice Ao10 t451.length co10] (0, 0) _ rfl (by refine blk_put (cs := #[.bool t450, .slice none 0 0]) ?_ 1 _ rfl; refine blk_put (cs := #[.bool false, .slice none 0 0]) ?_ 0 _ rfl; exact uK BK446.out) Try.underlying44 rfl (by kernel_rfl)) rfl ?_
  exact ⟨_, uF, by exact uR (Kd.R_mono (Kd.R_far (p := ⟨gb446, 1, none⟩) (Kd.R_far (p := ⟨gb446, 0, none⟩) (Kd.R_types HO453.out BK446.out (by decide)) (fun _ hk => hk.2) (.bool t450)) (fun _ hk => hk.2) (.slice Ao10 t451.length co10)) (fun _ hk => trivial)), uB⟩
 rw [if_neg c2] at H
 have c2b0 := decide_eq_false c2
 clear c2
 replace H := ub H; obtain ⟨t454, A11, H⟩ := H
 replace H := ub H; obtain ⟨⟨t457, t458⟩, A12, H⟩ := H
 (try dsimp only at H)
 simp only [Option.some.injEq, Prod.mk.injEq] at H
 obtain ⟨rfl, rfl⟩ := H
 go_enter Try.func18, Try.ntmps18
 go_wp2_with (first | ((with_reducible refine gate_dst (N := 2) rfl ?_); refine ubx 2 #[.bool false, .slice none 0 0] 44 rfl rfl ?_; intro gb446 hg w13 hbox hb; have BK446 := Aside0.mk (hbox); have GW446 := us hg; have GE446 := us hg; replace HB := uy hb; clear hb hbox hg) | ((with_reducible refine ug 44 rfl ?_); refine uh (some 12) rfl Try.func44 #[.int .u64 (IntKind.u64.wrap (a0))] ?_; (with_reducible refine (nat_Of.calls k (IntKind.u64.wrap (a0)) t454 _ A11.out).mono ?_); rintro e w14 ⟨v455, rfl, ho0, hb⟩; refine ⟨_, rfl, ?_⟩; have HO456 := ulo ho0; replace BK446 := ux BK446 hb; replace HB := uy hb; (try clear hb ho0); obtain ⟨Ao15, co15, eo15⟩ := Kd.R_slice HO456.out; subst eo15) | ((with_reducible refine ug 41 rfl ?_); refine uh (some 13) rfl Try.func41 #[.bool false, .slice Ao15 t454.length co15] ?_; (with_reducible refine (modint_From.calls false _ _ t454 t457 t458 _ ?side1 ?side2 A12.out).mono ?_); (case side1 => exact uC (Kd.R_reads' HO456.out).2.2); (case side2 => exact (Kd.R_reads' HO456.out).2.1); rintro e w16 ⟨v459, rfl, ho0, hb⟩; refine ⟨_, rfl, ?_⟩; have HO460 := ulo (unw ho0 HO456); replace HO456 := ueR HO456 ho0 hb; replace BK446 := ux BK446 hb; replace HB := uy hb; (try clear hb ho0); obtain ⟨hcz17_0, hcz17_1, hfz17_0, hfz17_1⟩ := uz2 w16 BK446; obtain ⟨Ao18, co18, eo18⟩ := Kd.R_slice HO460.out; subst eo18))
 refine bodyPost_ret (results_cell_row rfl _ _ gb446 44 #[.bool t457, .slice Ao18 t458.length co18] (0, 0) _ rfl (by refine blk_put (cs := #[.bool t457, .slice none 0 0]) ?_ 1 _ rfl; refine blk_put (cs := #[.bool false, .slice none 0 0]) ?_ 0 _ rfl; exact uK BK446.out) Try.underlying44 rfl (by kernel_rfl)) rfl ?_
 exact ⟨_, uF, by exact uR (Kd.R_mono (Kd.R_far (p := ⟨gb446, 1, none⟩) (Kd.R_far (p := ⟨gb446, 0, none⟩) (Kd.R_types HO460.out BK446.out (by decide)) (fun _ hk => hk.2) (.bool t457)) (fun _ hk => hk.2) (.slice Ao18 t458.length co18)) (fun _ hk => trivial)), uB⟩
def nat_Small.j0 : Nat → List Int → Bool → Option (Int × Bool)
 | 0, _, _ => none
 | k + 1, x0, x4 => if x4 = true then (some (0, false)) else (if (x0.length : Int) = 0 then (some (0, true)) else (if 0 < (x0.length : Int) then (some (rd x0 0, true)) else (none)))
def nat_Small.f (k : Nat) (l0 : List Int) : Option (Int × Bool) := (nat_Right.f l0).bind fun t461 => (if t461 = true then (nat_Small.j0 k l0 (decide ((l0.length : Int) > 1))) else (nat_Small.j0 k l0 true))
theorem nat_Small.calls (k : Nat) (A0 : Option Addr) (c0 : Nat) (l0 : List Int) (r1 : Int) (r2 : Bool) (w : World) (hr0 : Kd.C (Kd.int .u64) w A0 l0.length l0) (hc0 : l0.length ≤ c0) (h : nat_Small.f k l0 = some (r1, r2)) :
  Calls Try.prog 46 #[.slice A0 l0.length c0] w fun e w' => e = .returned (.tuple #[.int .u64 r1, .bool r2]) ∧ Drawn0 w w' := by
 have HR0 := Aside0.mk hr0; have HC0 := Aside0.mk hc0; clear hr0 hc0
 have H : ((nat_Right.f l0).bind fun t461 => (if t461 = true then (nat_Small.j0 k l0 (decide ((l0.length : Int) > 1))) else (nat_Small.j0 k l0 true))) = some (r1, r2) := h
 clear h; have HC2 := Aside0.mk H; clear H
 go_enter Try.func46, Try.ntmps46
 go_upto_region 1 with (fail)
 go_cut [4] (fun v4 wc => ∃ (kq : Nat) (x4_1 : Bool), v4 = .bool x4_1 ∧ Aside0 (nat_Small.j0 kq l0 x4_1 = some (r1, r2)) ∧ Aside0 (kq ≤ k) ∧ Drawn0 w wc)
 case first =>
  have H := HC2.out
  clear HC2
  replace H := ub H; obtain ⟨t461, A3, H⟩ := H
  by_cases c4 : t461 = true
  ·
   subst c4
   have H1 : (nat_Small.j0 k l0 (decide ((l0.length : Int) > 1))) = some (r1, r2) := by rw [if_pos rfl] at H; exact H
   clear H; have H := H1; clear H1
   have H' := Aside0.mk H
   clear H
   go_wp2_with (first | ((with_reducible refine ug 39 rfl ?_); refine uh (some 6) rfl Try.func39 #[.slice A0 l0.length c0] ?_; (with_reducible refine (nat_Right.calls _ _ l0 true _ ?side1 ?side2 A3.out).mono ?_); (case side1 => exact uC HR0.out); (case side2 => exact HC0.out); rintro e w' ⟨rfl, ⟨nd, rfl⟩⟩; refine ⟨_, rfl, ?_⟩))
   go_meet
   case rel => exact ⟨_, (decide ((l0.length : Int) > 1)), uG, H', ⟨uW⟩, by repeat (first | exact Drawn0.refl _ | apply Drawn0.step)⟩
  replace c4 := Bool.eq_false_iff.mpr c4
  subst c4
  have H1 : (nat_Small.j0 k l0 true) = some (r1, r2) := by rw [if_neg (show ¬ (false = true) by decide)] at H; exact H
  clear H; have H := H1; clear H1
  have H' := Aside0.mk H
  clear H
  go_wp2_with (first | ((with_reducible refine ug 39 rfl ?_); refine uh (some 6) rfl Try.func39 #[.slice A0 l0.length c0] ?_; (with_reducible refine (nat_Right.calls _ _ l0 false _ ?side1 ?side2 A3.out).mono ?_); (case side1 => exact uC HR0.out); (case side2 => exact HC0.out); rintro e w' ⟨rfl, ⟨nd, rfl⟩⟩; refine ⟨_, rfl, ?_⟩))
  go_meet
  case rel => exact ⟨_, (true), uG, H', ⟨uW⟩, by repeat (first | exact Drawn0.refl _ | apply Drawn0.step)⟩
 case rest =>
  clear HC2
  obtain ⟨kq, x4_1, rfl, HA, HJ1, ⟨mc1, rfl⟩⟩ := hcut
  cases kq with
  | zero => exact absurd HA.out (by simp [nat_Small.j0])
  | succ kj1 =>
   have H := HA.out
   clear HA
   simp only [nat_Small.j0] at H
   by_cases c5 : x4_1 = true
   ·
    subst c5
    have H1 : (some (0, false)) = some (r1, r2) := by rw [if_pos rfl] at H; exact H
    clear H; have H := H1; clear H1
    simp only [Option.some.injEq, Prod.mk.injEq] at H
    obtain ⟨rfl, rfl⟩ := H
    go_wp2
    go_ret2
    exact ⟨by first | rfl | (simp; done) | (simp [*]; done), by repeat (first | exact Drawn0.refl _ | apply Drawn0.step)⟩
   replace c5 := Bool.eq_false_iff.mpr c5
   subst c5
   have H1 : (if (l0.length : Int) = 0 then (some (0, true)) else (if 0 < (l0.length : Int) then (some (rd l0 0, true)) else (none))) = some (r1, r2) := by rw [if_neg (show ¬ (false = true) by decide)] at H; exact H
   clear H; have H := H1; clear H1
   by_cases c6 : (l0.length : Int) = 0
   ·
    rw [if_pos c6] at H
    have c6b0 := beq_iff_eq.mpr c6
    have c6b1 := bne_eq_false_iff_eq.mpr c6
    clear c6
    simp only [Option.some.injEq, Prod.mk.injEq] at H
    obtain ⟨rfl, rfl⟩ := H
    go_wp2
    go_ret2
    exact ⟨by first | rfl | (simp; done) | (simp [*]; done), by repeat (first | exact Drawn0.refl _ | apply Drawn0.step)⟩
   rw [if_neg c6] at H
   have c6b0 := beq_eq_false_iff_ne.mpr c6
   have c6b1 := bne_iff_ne.mpr c6
   have c6b2 : ¬ (l0 = []) := fun h_ => c6 (by rw [h_]; rfl)
   replace H := uT H; obtain ⟨c7, H⟩ := H
   have c7b0 := decide_eq_true c7
   have c7b1 : decide (0 < l0.length) = true := decide_eq_true (by omega)
   clear c7
   simp only [Option.some.injEq, Prod.mk.injEq] at H
   obtain ⟨rfl, rfl⟩ := H
   have p462 : 0 ≤ (0 : Int) := (by omega)
   have q462 : 0 < (l0.length : Int) := uO
   obtain ⟨ad462, e462, hx462_0⟩ := Kd.at_int HR0.out 0 p462 q462
   cases e462
   have qi462 : (0 < l0.length) = True := eq_true (by omega)
   (try rw [show ((0 : Int)).toNat = 0 from rfl] at hx462_0)
   (try rw [Addr.add_zero'] at hx462_0)
   replace p462 := eq_true p462
   replace q462 := eq_true q462
   go_wp2
   go_ret2
   exact ⟨by first | rfl | (simp; done) | (simp [*]; done), by repeat (first | exact Drawn0.refl _ | apply Drawn0.step)⟩
mutual
def modint_Small.j0 : Nat → Int → Bool → Int → Bool → List Int → Option (Int × Bool)
 | 0, _, _, _, _, _ => none
 | k + 1, x4, x5, x6, x464000, x464001 => (modint_Right.f x464000 x464001).bind fun t466 => (if t466 = true then (if x5 = true then (modint_Small.j1 k x4 (decide (x4 > x6)) x464000 x464001) else (modint_Small.j1 k x4 true x464000 x464001)) else (modint_Small.j1 k x4 true x464000 x464001))
def modint_Small.j1 : Nat → Int → Bool → Bool → List Int → Option (Int × Bool)
 | 0, _, _, _, _ => none
 | k + 1, x4, x17, x464000, x464001 => if x17 = true then (some (0, false)) else (if x464000 = true then (some (wrap64 (IntKind.u64.wrap (-x4)), true)) else (some (wrap64 (x4), true)))
end
def modint_Small.f (k : Nat) (a0_0 : Bool) (l0_1 : List Int) : Option (Int × Bool) := (nat_Small.f k l0_1).bind fun bt464 => (if a0_0 = true then (modint_Small.j0 k bt464.1 bt464.2 (9223372036854775807 + 1) a0_0 l0_1) else (modint_Small.j0 k bt464.1 bt464.2 9223372036854775807 a0_0 l0_1))
theorem modint_Small.calls (k : Nat) (a0_0 : Bool) (A0_1 : Option Addr) (c0_1 : Nat) (l0_1 : List Int) (r1 : Int) (r2 : Bool) (w : World) (hr0_1 : Kd.C (Kd.int .u64) w A0_1 l0_1.length l0_1) (hc0_1 : l0_1.length ≤ c0_1) (h : modint_Small.f k a0_0 l0_1 = some (r1, r2)) :
  Calls Try.prog 19 #[.agg #[.bool a0_0, .slice A0_1 l0_1.length c0_1]] w fun e w' => e = .returned (.tuple #[.int .i64 r1, .bool r2]) ∧ Below w.heap.size w w' := by
 have hu44 := Try.underlying44
 have HR0_1 := Aside0.mk hr0_1; have HC0_1 := Aside0.mk hc0_1; clear hr0_1 hc0_1
 have HB := Aside0.mk (Below.refl w.heap.size w)
 have H : ((nat_Small.f k l0_1).bind fun bt464 => (if a0_0 = true then (modint_Small.j0 k bt464.1 bt464.2 (9223372036854775807 + 1) a0_0 l0_1) else (modint_Small.j0 k bt464.1 bt464.2 9223372036854775807 a0_0 l0_1))) = some (r1, r2) := h
 clear h
 replace H := ub H; obtain ⟨⟨t464, t465⟩, A2, H⟩ := H
 (try dsimp only at H)
 have HC3 := Aside0.mk H; clear H
 go_enter Try.func19, Try.ntmps19
 go_upto_if 14 with (first | ((with_reducible refine gate_dst (N := 1) rfl ?_); refine ubx 1 #[.bool a0_0, .slice A0_1 l0_1.length c0_1] 44 rfl rfl ?_; intro gb463 hg w4 hbox hb; have BK463 := Aside0.mk (hbox); have GW463 := us hg; have GE463 := us hg; replace HB := uy hb; clear hb hbox hg; obtain ⟨hcz5_0, hcz5_1, hfz5_0, hfz5_1⟩ := uz2 w4 BK463) | ((with_reducible refine ug 46 rfl ?_); refine uh (some 10) rfl Try.func46 #[.slice A0_1 l0_1.length c0_1] ?_; (with_reducible refine (nat_Small.calls k _ _ l0_1 t464 t465 _ ?side1 ?side2 A2.out).mono ?_); (case side1 => exact uC (Kd.C_below HR0_1.out HB.out)); (case side2 => exact HC0_1.out); rintro e w' ⟨rfl, ⟨nd, rfl⟩⟩; refine ⟨_, rfl, ?_⟩))
 (try simp only [Act.put, List.setIfInBounds_toArray, List.set_cons_zero, List.set_cons_succ])
 go_cut [6] (fun v6 wc => ∃ (kq : Nat) (x6_2 : Int), v6 = .int .u64 x6_2 ∧ Aside0 (modint_Small.j0 kq t464 t465 x6_2 a0_0 l0_1 = some (r1, r2)) ∧ Aside0 (kq ≤ k) ∧ Aside0 (wc.heap[gb463]? = some (.cells #[.bool a0_0, (.slice A0_1 l0_1.length c0_1)] 44 (0, 0))) ∧ Aside0 (Below w.heap.size w wc))
 case first =>
  have H := HC3.out
  clear HC3
  by_cases c6 : a0_0 = true
  ·
   subst c6
   have H1 : (modint_Small.j0 k t464 t465 (9223372036854775807 + 1) true l0_1) = some (r1, r2) := by rw [if_pos rfl] at H; exact H
   clear H; have H := H1; clear H1
   have H' := Aside0.mk H
   clear H
   go_wp2
   go_meet
   case rel => exact ⟨_, (9223372036854775807 + 1), uG, H', ⟨uW⟩, ⟨uK BK463.out⟩, ⟨uB⟩⟩
  replace c6 := Bool.eq_false_iff.mpr c6
  subst c6
  have H1 : (modint_Small.j0 k t464 t465 9223372036854775807 false l0_1) = some (r1, r2) := by rw [if_neg (show ¬ (false = true) by decide)] at H; exact H
  clear H; have H := H1; clear H1
  have H' := Aside0.mk H
  clear H
  go_wp2
  go_meet
  case rel => exact ⟨_, (9223372036854775807), uG, H', ⟨uW⟩, ⟨uK BK463.out⟩, ⟨uB⟩⟩
 case rest =>
  clear HC3; (try clear hcz5_0 hcz5_1); (try clear hfz5_0 hfz5_1)
  obtain ⟨kq, x6_2, rfl, HA, HJ2, BK463, HB⟩ := hcut
  cases kq with
  | zero => exact absurd HA.out (by simp [modint_Small.j0])
  | succ kj2 =>
   have H := HA.out
   clear HA
   simp only [modint_Small.j0] at H
   have HC7 := Aside0.mk H; clear H
   go_upto_region 5 with (fail)
   go_cut [17] (fun v17 wc => ∃ (kq : Nat) (x17_6 : Bool), v17 = .bool x17_6 ∧ Aside0 (modint_Small.j1 kq t464 x17_6 a0_0 l0_1 = some (r1, r2)) ∧ Aside0 (kq ≤ kj2) ∧ Aside0 (wc.heap[gb463]? = some (.cells #[.bool a0_0, (.slice A0_1 l0_1.length c0_1)] 44 (0, 0))) ∧ Aside0 (Below w.heap.size w wc))
   case first =>
    have H := HC7.out
    clear HC7
    replace H := ub H; obtain ⟨t466, A8, H⟩ := H
    by_cases c9 : t466 = true
    ·
     subst c9
     have H1 : (if t465 = true then (modint_Small.j1 kj2 t464 (decide (t464 > x6_2)) a0_0 l0_1) else (modint_Small.j1 kj2 t464 true a0_0 l0_1)) = some (r1, r2) := by rw [if_pos rfl] at H; exact H
     clear H; have H := H1; clear H1
     by_cases c10 : t465 = true
     ·
      subst c10
      have H1 : (modint_Small.j1 kj2 t464 (decide (t464 > x6_2)) a0_0 l0_1) = some (r1, r2) := by rw [if_pos rfl] at H; exact H
      clear H; have H := H1; clear H1
      have H' := Aside0.mk H
      clear H; obtain ⟨hcz11_0, hcz11_1, hfz11_0, hfz11_1⟩ := uz2 wc BK463
      go_wp2_with (first | ((with_reducible refine ug 36 rfl ?_); refine uh (some 19) rfl Try.func36 #[.agg #[.bool a0_0, .slice A0_1 l0_1.length c0_1]] ?_; (with_reducible refine (modint_Right.calls a0_0 _ _ l0_1 true _ ?side1 ?side2 A8.out).mono ?_); (case side1 => exact uC (Kd.C_below HR0_1.out HB.out)); (case side2 => exact HC0_1.out); rintro e w12 ⟨rfl, hb⟩; refine ⟨_, rfl, ?_⟩; replace BK463 := ux BK463 hb; replace HB := uy hb; (try clear hb)))
      go_meet
      case rel => exact ⟨_, (decide (t464 > x6_2)), uG, H', ⟨by have := HJ2.out; first | omega | exact Nat.le_refl _⟩, ⟨uK BK463.out⟩, ⟨uB⟩⟩
     replace c10 := Bool.eq_false_iff.mpr c10
     subst c10
     have H1 : (modint_Small.j1 kj2 t464 true a0_0 l0_1) = some (r1, r2) := by rw [if_neg (show ¬ (false = true) by decide)] at H; exact H
     clear H; have H := H1; clear H1
     have H' := Aside0.mk H
     clear H; obtain ⟨hcz13_0, hcz13_1, hfz13_0, hfz13_1⟩ := uz2 wc BK463
     go_wp2_with (first | ((with_reducible refine ug 36 rfl ?_); refine uh (some 19) rfl Try.func36 #[.agg #[.bool a0_0, .slice A0_1 l0_1.length c0_1]] ?_; (with_reducible refine (modint_Right.calls a0_0 _ _ l0_1 true _ ?side1 ?side2 A8.out).mono ?_); (case side1 => exact uC (Kd.C_below HR0_1.out HB.out)); (case side2 => exact HC0_1.out); rintro e w14 ⟨rfl, hb⟩; refine ⟨_, rfl, ?_⟩; replace BK463 := ux BK463 hb; replace HB := uy hb; (try clear hb)))
     go_meet
     case rel => exact ⟨_, (true), uG, H', ⟨by have := HJ2.out; first | omega | exact Nat.le_refl _⟩, ⟨uK BK463.out⟩, ⟨uB⟩⟩
    replace c9 := Bool.eq_false_iff.mpr c9
    subst c9
    have H1 : (modint_Small.j1 kj2 t464 true a0_0 l0_1) = some (r1, r2) := by rw [if_neg (show ¬ (false = true) by decide)] at H; exact H
    clear H; have H := H1; clear H1
    have H' := Aside0.mk H
    clear H; obtain ⟨hcz15_0, hcz15_1, hfz15_0, hfz15_1⟩ := uz2 wc BK463
    go_wp2_with (first | ((with_reducible refine ug 36 rfl ?_); refine uh (some 19) rfl Try.func36 #[.agg #[.bool a0_0, .slice A0_1 l0_1.length c0_1]] ?_; (with_reducible refine (modint_Right.calls a0_0 _ _ l0_1 false _ ?side1 ?side2 A8.out).mono ?_); (case side1 => exact uC (Kd.C_below HR0_1.out HB.out)); (case side2 => exact HC0_1.out); rintro e w16 ⟨rfl, hb⟩; refine ⟨_, rfl, ?_⟩; replace BK463 := ux BK463 hb; replace HB := uy hb; (try clear hb)))
    go_meet
    case rel => exact ⟨_, (true), uG, H', ⟨by have := HJ2.out; first | omega | exact Nat.le_refl _⟩, ⟨uK BK463.out⟩, ⟨uB⟩⟩
   case rest =>
    clear HC7; (try clear hcz11_0 hcz11_1); (try clear hcz13_0 hcz13_1); (try clear hcz15_0 hcz15_1); (try clear hcz5_0 hcz5_1); (try clear hfz11_0 hfz11_1); (try clear hfz13_0 hfz13_1); (try clear hfz15_0 hfz15_1); (try clear hfz5_0 hfz5_1)
    obtain ⟨kq, x17_6, rfl, HA, HJ6, BK463, HB⟩ := hcut
    cases kq with
    | zero => exact absurd HA.out (by simp [modint_Small.j1])
    | succ kj6 =>
     have H := HA.out
     clear HA
     simp only [modint_Small.j1] at H
     by_cases c17 : x17_6 = true
     ·
      subst c17
      have H1 : (some (0, false)) = some (r1, r2) := by rw [if_pos rfl] at H; exact H
      clear H; have H := H1; clear H1
      simp only [Option.some.injEq, Prod.mk.injEq] at H
      obtain ⟨rfl, rfl⟩ := H
      go_wp2
      go_ret2
      exact ⟨uF, uB⟩
     replace c17 := Bool.eq_false_iff.mpr c17
     subst c17
     have H1 : (if a0_0 = true then (some (wrap64 (IntKind.u64.wrap (-t464)), true)) else (some (wrap64 (t464), true))) = some (r1, r2) := by rw [if_neg (show ¬ (false = true) by decide)] at H; exact H
     clear H; have H := H1; clear H1
     by_cases c18 : a0_0 = true
     ·
      subst c18
      have H1 : (some (wrap64 (IntKind.u64.wrap (-t464)), true)) = some (r1, r2) := by rw [if_pos rfl] at H; exact H
      clear H; have H := H1; clear H1
      simp only [Option.some.injEq, Prod.mk.injEq] at H
      obtain ⟨rfl, rfl⟩ := H
      obtain ⟨hcz19_0, hcz19_1, hfz19_0, hfz19_1⟩ := uz2 wc BK463
      go_wp2
      go_ret2
      exact ⟨uF, uB⟩
     replace c18 := Bool.eq_false_iff.mpr c18
     subst c18
     have H1 : (some (wrap64 (t464), true)) = some (r1, r2) := by rw [if_neg (show ¬ (false = true) by decide)] at H; exact H
     clear H; have H := H1; clear H1
     simp only [Option.some.injEq, Prod.mk.injEq] at H
     obtain ⟨rfl, rfl⟩ := H
     obtain ⟨hcz20_0, hcz20_1, hfz20_0, hfz20_1⟩ := uz2 wc BK463
     go_wp2
     go_ret2
     exact ⟨uF, uB⟩
def windbreakref01_Right.f (l0 : List Int) : Option (Bool) := if (l0.length : Int) ≤ 64 then (if (l0.length : Int) = 0 then (some true) else (if 0 ≤ (wrap64 ((l0.length : Int) - 1)) then (if (wrap64 ((l0.length : Int) - 1)) < (l0.length : Int) then (some ((rd l0 (wrap64 ((l0.length : Int) - 1))) != 0)) else (none)) else (none))) else (some false)
theorem windbreakref01_Right.calls (A0 : Option Addr) (c0 : Nat) (l0 : List Int) (r : Bool) (w : World) (hr0 : Kd.C (Kd.int .u64) w A0 l0.length l0) (hc0 : l0.length ≤ c0) (h : windbreakref01_Right.f l0 = some r) :
  Calls Try.prog 31 #[.slice A0 l0.length c0] w fun e w' => e = .returned (.bool r) ∧ Drawn0 w w' := by
 have HR0 := Aside0.mk hr0; have HC0 := Aside0.mk hc0; clear hr0 hc0
 have H : (if (l0.length : Int) ≤ 64 then (if (l0.length : Int) = 0 then (some true) else (if 0 ≤ (wrap64 ((l0.length : Int) - 1)) then (if (wrap64 ((l0.length : Int) - 1)) < (l0.length : Int) then (some ((rd l0 (wrap64 ((l0.length : Int) - 1))) != 0)) else (none)) else (none))) else (some false)) = some r := h
 clear h
 by_cases c2 : (l0.length : Int) ≤ 64
 ·
  rw [if_pos c2] at H
  have c2b0 := decide_eq_true c2
  have c2b1 : decide (l0.length ≤ 64) = true := decide_eq_true (by omega)
  clear c2
  by_cases c3 : (l0.length : Int) = 0
  ·
   rw [if_pos c3] at H
   have c3b0 := beq_iff_eq.mpr c3
   have c3b1 := bne_eq_false_iff_eq.mpr c3
   clear c3
   obtain rfl := Option.some.inj H
   go_enter Try.func31, Try.ntmps31
   go_wp2
   go_ret
   exact ⟨by first | rfl | (simp; done) | (simp [*]; done), by repeat (first | exact Drawn0.refl _ | apply Drawn0.step)⟩
  rw [if_neg c3] at H
  have c3b0 := beq_eq_false_iff_ne.mpr c3
  have c3b1 := bne_iff_ne.mpr c3
  have c3b2 : ¬ (l0 = []) := fun h_ => c3 (by rw [h_]; rfl)
  obtain ⟨ji4, hji4⟩ : ∃ j_ : Int, (wrap64 ((l0.length : Int) - 1)) = j_ := ⟨_, rfl⟩
  first | rw [hji4] at H | simp only [hji4] at H
  have hji4w : (IntKind.i64.wrap ((l0.length : Int) - 1)) = ji4 := (i64_w _).trans hji4
  replace H := uT H; obtain ⟨c5, H⟩ := H
  have c5b0 := decide_eq_true c5
  clear c5
  replace H := uT H; obtain ⟨c6, H⟩ := H
  have c6b0 := decide_eq_true c6
  clear c6
  obtain rfl := Option.some.inj H
  have p497 := eq_true (uO : 0 ≤ ((ji4) : Int))
  have q497 := eq_true (uO : (ji4) < (l0.length : Int))
  obtain ⟨ad497, e497, hx497_0⟩ := Kd.at_int HR0.out (ji4) uO uO
  cases e497
  go_enter Try.func31, Try.ntmps31
  go_wp2
  go_ret
  exact ⟨by first | rfl | (simp; done) | (simp only [← hji4] <;> (first | rfl | simp)) | (simp [*]; done), by repeat (first | exact Drawn0.refl _ | apply Drawn0.step)⟩
 rw [if_neg c2] at H
 have c2b0 := decide_eq_false c2
 have c2b1 : decide (l0.length ≤ 64) = false := decide_eq_false (by omega)
 clear c2
 obtain rfl := Option.some.inj H
 go_enter Try.func31, Try.ntmps31
 go_wp2
 go_ret
 exact ⟨by first | rfl | (simp; done) | (simp [*]; done), by repeat (first | exact Drawn0.refl _ | apply Drawn0.step)⟩
def windbreakref01_cut.l0 : Nat → List Int → Int → Option (List Int)
 | 0, _, _ => none
 | k + 1, x0, x3 => if x3 > 0 then (if 0 ≤ (wrap64 (x3 - 1)) then (if (wrap64 (x3 - 1)) < (x0.length : Int) then (if (rd x0 (wrap64 (x3 - 1))) = 0 then (windbreakref01_cut.l0 k x0 (wrap64 (x3 - 1))) else (if 0 ≤ x3 then (if x3 ≤ (x0.length : Int) then (some (x0.take (x3 : Int).toNat)) else (none)) else (none))) else (none)) else (none)) else (if 0 ≤ x3 then (if x3 ≤ (x0.length : Int) then (some (x0.take (x3 : Int).toNat)) else (none)) else (none))
def windbreakref01_cut.f (k : Nat) (l0 : List Int) : Option (List Int) := windbreakref01_cut.l0 k l0 (l0.length : Int)
theorem windbreakref01_cut.calls (k : Nat) (P0_ : Nat → Prop) (u9000_ : Value) (l0 : List Int) (r : List Int) (w0 w : World) (hB : Below w0.heap.size w0 w) (ho0 : Kd.R (Kd.int .u64) 42 w w0.heap.size P0_ u9000_ l0) (h : windbreakref01_cut.f k l0 = some r) :
  Calls Try.prog 60 #[u9000_] w fun e w' => ∃ v0_ : Value, e = .returned (v0_) ∧ Kd.R (Kd.int .u64) 42 w' w0.heap.size (fun k_ => (P0_ k_ ∨ w.heap.size ≤ k_)) v0_ r ∧ Below w0.heap.size w0 w' ∧ Kept w w' (fun k_ => P0_ k_) := by
 have HO0 := Aside0.mk (show Kd.R (Kd.int .u64) 42 w w0.heap.size (fun k_ => (P0_ k_ ∨ w.heap.size ≤ k_)) u9000_ l0 from Kd.R_mono ho0 (fun k_ hk => (.inl hk)))
 have HK := Aside0.mk (Kept.refl w (fun k_ => P0_ k_))
 have HW0 := Aside0.mk hB.size
 have HB := Aside0.mk hB; clear hB
 have H : (windbreakref01_cut.l0 k l0 (l0.length : Int)) = some r := h
 clear h
 have H' := Aside0.mk H
 clear H
 obtain ⟨Ao2, co2, eo2⟩ := Kd.R_slice HO0.out
 subst eo2
 go_enter Try.func60, Try.ntmps60
 go_wp2
 go_loopg [3] k (fun kq v3 w' => ∃ (x3_1 : Int), v3 = .int .i64 x3_1 ∧ Aside0 (windbreakref01_cut.l0 kq l0 x3_1 = some r) ∧ Aside0 (kq ≤ k) ∧ Aside0 (Kd.R (Kd.int .u64) 42 w' w0.heap.size (fun k_ => (P0_ k_ ∨ w.heap.size ≤ k_)) (.slice Ao2 l0.length co2) l0) ∧ Aside0 (Kept w w' (fun k_ => P0_ k_)) ∧ Aside0 (Below w0.heap.size w0 w'))
 case atStart => exact ⟨((l0.length : Int)), uG, H', ⟨Nat.le_refl _⟩, ⟨uR HO0.out⟩, ⟨by repeat (first | (with_reducible first | exact HK.out | apply Kept.alloc | apply Kept.drewN | apply Kept.drew) | exact HK.out)⟩, ⟨uB⟩⟩
 case round =>
  clear H'
  obtain ⟨x3_1, rfl, HA, HK1, HO_0, HK, HB⟩ := hrel
  cases gk with
  | zero => exact absurd HA.out (by simp [windbreakref01_cut.l0])
  | succ k1 =>
   have H := HA.out
   clear HA
   simp only [windbreakref01_cut.l0] at H
   by_cases c3 : x3_1 > 0
   ·
    rw [if_pos c3] at H
    have c3b0 := decide_eq_true c3
    clear c3
    obtain ⟨ji4, hji4⟩ : ∃ j_ : Int, (wrap64 (x3_1 - 1)) = j_ := ⟨_, rfl⟩
    first | rw [hji4] at H | simp only [hji4] at H
    have hji4w : (IntKind.i64.wrap (x3_1 - 1)) = ji4 := (i64_w _).trans hji4
    replace H := uT H; obtain ⟨c5, H⟩ := H
    have c5b0 := decide_eq_true c5
    clear c5
    replace H := uT H; obtain ⟨c6, H⟩ := H
    have c6b0 := decide_eq_true c6
    clear c6
    by_cases c7 : (rd l0 (ji4)) = 0
    ·
     rw [if_pos c7] at H
     have c7b0 := beq_iff_eq.mpr c7
     have c7b1 := bne_eq_false_iff_eq.mpr c7
     clear c7
     have H' := Aside0.mk H
     clear H
     have p498 := eq_true (uO : 0 ≤ ((ji4) : Int))
     have q498 := eq_true (uO : (ji4) < (l0.length : Int))
     obtain ⟨ad498, e498, hx498_0⟩ := Kd.at_int (Kd.R_reads' HO_0.out).2.2 (ji4) uO uO
     cases e498
     go_wp2
     first | go_roundg k1 | ((try simp only [← hji4] at H'); simp only [← hji4]; go_roundg k1)
     case measure => have := HK1.out; omega
     case rel => first | exact ⟨(ji4), (by first | rfl | (simp; done) | (simp only [← hji4] <;> (first | rfl | simp)) | (simp [*]; done)), H', ⟨by have := HK1.out; omega⟩, ⟨uR HO_0.out⟩, ⟨by repeat (first | (with_reducible first | exact HK.out | apply Kept.alloc | apply Kept.drewN | apply Kept.drew) | exact HK.out)⟩, ⟨uB⟩⟩ | (simp only [← hji4] at H'; exact ⟨(ji4), (by first | rfl | (simp; done) | (simp only [← hji4] <;> (first | rfl | simp)) | (simp [*]; done)), H', ⟨by have := HK1.out; omega⟩, ⟨uR HO_0.out⟩, ⟨by repeat (first | (with_reducible first | exact HK.out | apply Kept.alloc | apply Kept.drewN | apply Kept.drew) | exact HK.out)⟩, ⟨uB⟩⟩)
    rw [if_neg c7] at H
    have c7b0 := beq_eq_false_iff_ne.mpr c7
    have c7b1 := bne_iff_ne.mpr c7
    replace H := uT H; obtain ⟨c8, H⟩ := H
    have c8b0 := eq_true c8
    have c8b1 := decide_eq_true c8
    clear c8
    replace H := uT H; obtain ⟨c9, H⟩ := H
    have c9b0 := eq_true c9
    have c9b1 := decide_eq_true c9
    clear c9
    obtain ⟨y499, hy499⟩ : ∃ y_ : List Int, y_ = (l0.take (x3_1 : Int).toNat) := ⟨_, rfl⟩
    replace H : (some y499) = some r := by first | (rw [hy499]; with_reducible exact H) | (have H2_ := (Option.bind_some _ _).symm.trans H; rw [hy499]; with_reducible exact H2_) | (have H2_ := (Option.bind_some _ _).symm.trans H; with_reducible exact H2_) | with_reducible exact H | (rw [hy499]; exact H) | exact H
    have Ny499 := Aside0.mk hy499; clear hy499
    obtain rfl := Option.some.inj H
    have p498 := eq_true (uO : 0 ≤ ((ji4) : Int))
    have q498 := eq_true (uO : (ji4) < (l0.length : Int))
    obtain ⟨ad498, e498, hx498_0⟩ := Kd.at_int (Kd.R_reads' HO_0.out).2.2 (ji4) uO uO
    cases e498
    have q10 : (x3_1 : Int) ≤ ((l0.length : Int) : Int) := uO
    obtain ⟨i010, hi010, _, hsz10, _⟩ := info_parts info42
    have hcut10 := cut_to (P := Try.prog) 62 42 .i64 Try.underlying62 hi010 (some ad498) l0.length co2 x3_1 uO q10 (Kd.R_reads' HO_0.out).2.1
    have hr10 := Kd.R_take (m := (x3_1 : Int).toNat) HO_0.out (by omega)
    have hy10 : y499.length = (x3_1 : Int).toNat := (by rw [Ny499.out, List.length_take]; omega)
    rw [← Ny499.out] at hr10
    rw [← hy10] at hr10 hcut10
    clear hy10 hi010 hsz10 HO_0; have HO501 := Aside0.mk hr10; clear hr10
    replace q10 := eq_true q10
    go_wp2
    go_ret
    exact ⟨_, by first | rfl | (simp [errW_none, errW_some] <;> rfl) | (simp only [← hji4]; first | rfl | (simp [errW_none, errW_some] <;> rfl)) | (simp [*, errW_none, errW_some] <;> rfl), uR HO501.out, uB, by repeat (first | (with_reducible first | exact HK.out | apply Kept.alloc | apply Kept.drewN | apply Kept.drew) | exact HK.out)⟩
   rw [if_neg c3] at H
   have c3b0 := decide_eq_false c3
   clear c3
   replace H := uT H; obtain ⟨c11, H⟩ := H
   have c11b0 := eq_true c11
   have c11b1 := decide_eq_true c11
   clear c11
   replace H := uT H; obtain ⟨c12, H⟩ := H
   have c12b0 := eq_true c12
   have c12b1 := decide_eq_true c12
   clear c12
   obtain ⟨y502, hy502⟩ : ∃ y_ : List Int, y_ = (l0.take (x3_1 : Int).toNat) := ⟨_, rfl⟩
   replace H : (some y502) = some r := by first | (rw [hy502]; with_reducible exact H) | (have H2_ := (Option.bind_some _ _).symm.trans H; rw [hy502]; with_reducible exact H2_) | (have H2_ := (Option.bind_some _ _).symm.trans H; with_reducible exact H2_) | with_reducible exact H | (rw [hy502]; exact H) | exact H
   have Ny502 := Aside0.mk hy502; clear hy502
   obtain rfl := Option.some.inj H
   have q13 : (x3_1 : Int) ≤ ((l0.length : Int) : Int) := uO
   obtain ⟨i013, hi013, _, hsz13, _⟩ := info_parts info42
   have hcut13 := cut_to (P := Try.prog) 62 42 .i64 Try.underlying62 hi013 Ao2 l0.length co2 x3_1 uO q13 (Kd.R_reads' HO_0.out).2.1
   have hr13 := Kd.R_take (m := (x3_1 : Int).toNat) HO_0.out (by omega)
   have hy13 : y502.length = (x3_1 : Int).toNat := (by rw [Ny502.out, List.length_take]; omega)
   rw [← Ny502.out] at hr13
   rw [← hy13] at hr13 hcut13
   clear hy13 hi013 hsz13 HO_0; have HO504 := Aside0.mk hr13; clear hr13
   replace q13 := eq_true q13
   go_wp2
   go_ret
   exact ⟨_, uF, uR HO504.out, uB, by repeat (first | (with_reducible first | exact HK.out | apply Kept.alloc | apply Kept.drewN | apply Kept.drew) | exact HK.out)⟩
mutual
def windbreakref01_In.l0 : Nat → List Int → List Int → Int → Option (List Int)
 | 0, _, _, _ => none
 | k + 1, x0, x3, x4 => if x4 < (x0.length : Int) then (if 0 ≤ x4 then (windbreakref01_In.l1 k x0 x3 x4 (rd x0 x4) 0) else (none)) else ((windbreakref01_cut.f k x3).bind fun t505 => (some t505))
def windbreakref01_In.l1 : Nat → List Int → List Int → Int → Int → Int → Option (List Int)
 | 0, _, _, _, _, _ => none
 | k + 1, x0, x3, x4, x5, x6 => if x6 < 4 then (if x3.length < 17592186044416 then (windbreakref01_In.l1 k x0 (x3 ++ [Int.tmod x5 65536]) x4 (IntKind.u64.wrap (Int.tdiv x5 65536)) (wrap64 (x6 + 1))) else (none)) else (windbreakref01_In.l0 k x0 x3 (wrap64 (x4 + 1)))
end
def windbreakref01_In.f (k : Nat) (l0 : List Int) : Option (List Int) := windbreakref01_In.l0 k l0 ([] : List Int) 0
theorem windbreakref01_In.calls (k : Nat) (A0 : Option Addr) (c0 : Nat) (l0 : List Int) (r : List Int) (w : World) (hr0 : Kd.C (Kd.int .u64) w A0 l0.length l0) (hc0 : l0.length ≤ c0) (h : windbreakref01_In.f k l0 = some r) :
  Calls Try.prog 34 #[.slice A0 l0.length c0] w fun e w' => ∃ v0_ : Value, e = .returned (v0_) ∧ Kd.R (Kd.int .u64) 42 w' w.heap.size (fun _ => True) v0_ r ∧ Below w.heap.size w w' := by
 have HR0 := Aside0.mk hr0; have HC0 := Aside0.mk hc0; clear hr0 hc0
 have HB := Aside0.mk (Below.refl w.heap.size w)
 have H : (windbreakref01_In.l0 k l0 ([] : List Int) 0) = some r := h
 clear h
 have H' := Aside0.mk H
 clear H
 go_enter Try.func34, Try.ntmps34
 go_wp2
 go_loopg [3, 4] k (fun kq v3 v4 w' => ∃ (x3_1 : List Int) (x4_1 : Int), v4 = .int .i64 x4_1 ∧ Aside0 (windbreakref01_In.l0 kq l0 x3_1 x4_1 = some r) ∧ Aside0 (kq ≤ k) ∧ Aside0 (Kd.R (Kd.int .u64) 42 w' w.heap.size (fun _ => True) v3 x3_1) ∧ Aside0 (Below w.heap.size w w'))
 case atStart => exact ⟨(([] : List Int)), (0), uG, H', ⟨Nat.le_refl _⟩, ⟨uI⟩, ⟨uB⟩⟩
 case round =>
  clear H'
  obtain ⟨x3_1, x4_1, rfl, HA, HK1, HO_3, HB⟩ := hrel
  cases gk with
  | zero => exact absurd HA.out (by simp [windbreakref01_In.l0])
  | succ k1 =>
   have H := HA.out
   clear HA
   simp only [windbreakref01_In.l0] at H
   by_cases c2 : x4_1 < (l0.length : Int)
   ·
    rw [if_pos c2] at H
    have c2b0 := decide_eq_true c2
    clear c2
    replace H := uT H; obtain ⟨c3, H⟩ := H
    have c3b0 := decide_eq_true c3
    clear c3
    have H' := Aside0.mk H
    clear H
    have p508 : 0 ≤ (x4_1 : Int) := uO
    have q508 : x4_1 < (l0.length : Int) := uO
    obtain ⟨ad508, e508, hx508_0⟩ := Kd.at_int HR0.out x4_1 p508 q508
    cases e508
    replace hx508_0 := (HB.out.cell (World.block_lt_of_cell? w _ hx508_0)).trans hx508_0
    replace p508 := eq_true p508
    replace q508 := eq_true q508
    go_wp2
    go_loopg [3, 5, 6] k1 (fun kq v3 v5 v6 w' => ∃ (x3_2 : List Int) (x5_2 : Int) (x6_2 : Int), v5 = .int .u64 x5_2 ∧ v6 = .int .i64 x6_2 ∧ Aside0 (windbreakref01_In.l1 kq l0 x3_2 x4_1 x5_2 x6_2 = some r) ∧ Aside0 (kq ≤ k1) ∧ Aside0 (Kd.R (Kd.int .u64) 42 w' w.heap.size (fun _ => True) v3 x3_2) ∧ Aside0 (Below w.heap.size w w'))
    case atStart => exact ⟨(x3_1), (rd l0 x4_1), (0), uG, uG, H', ⟨Nat.le_refl _⟩, ⟨uR HO_3.out⟩, ⟨uB⟩⟩
    case round =>
     clear H'
     ; (try clear hx508_0); (try clear q508)
     obtain ⟨x3_2, x5_2, x6_2, rfl, rfl, HA, HK2, HO_3, HB⟩ := hrel
     cases gk with
     | zero => exact absurd HA.out (by simp [windbreakref01_In.l1])
     | succ k2 =>
      have H := HA.out
      clear HA
      simp only [windbreakref01_In.l1] at H
      by_cases c4 : x6_2 < 4
      ·
       rw [if_pos c4] at H
       have c4b0 := decide_eq_true c4
       clear c4
       replace H := uT H; obtain ⟨c5, H⟩ := H
       have LMc5 := Aside0.mk c5; clear c5
       obtain ⟨y509, hy509⟩ : ∃ y_ : List Int, y_ = (x3_2 ++ [Int.tmod x5_2 65536]) := ⟨_, rfl⟩
       replace H : (windbreakref01_In.l1 k2 l0 y509 x4_1 (IntKind.u64.wrap (Int.tdiv x5_2 65536)) (wrap64 (x6_2 + 1))) = some r := by first | (rw [hy509]; with_reducible exact H) | (have H2_ := (Option.bind_some _ _).symm.trans H; rw [hy509]; with_reducible exact H2_) | (have H2_ := (Option.bind_some _ _).symm.trans H; with_reducible exact H2_) | with_reducible exact H | (rw [hy509]; exact H) | exact H
       have Ny509 := Aside0.mk hy509; clear hy509
       have H' := Aside0.mk H
       clear H
       go_wp2_with (first | ((with_reducible refine gate_builtin (b := .append) (xs := #[.tmp 21, .tmp 24]) rfl ?_); at_builtin; refine Kd.R_append (Kd.int .u64) (w0 := w) w.heap.size rfl (.tmp 21) (.tmp 24) 62 42 (.int .u64 0) 8 rfl Try.underlying62 info42 rfl (by decide) (by omega) u3 x3_2 (Int.tmod x5_2 65536) [.int .u64 (Int.tmod x5_2 65536)] (fun _ => True) (fun _ => False) rfl rfl ?aP (fun _ hk => hk.elim) ?aF ?aO ?aB ?aS ?aL ?_; (case aP => exact rfl); (case aB => exact uB); (case aF => exact (fun _ _ => trivial)); (case aO => exact (uR HO_3.out)); (case aS => exact (below_size uB)); (case aL => have := LMc5.out; omega); intro v510 w6 ho hb hg hat; rw [← Ny509.out] at ho; replace HB := Aside0.mk (hb); have HO511 := Aside0.mk (ho); clear HO_3; clear ho hb hg hat))
       go_roundg k2
       case measure => have := HK1.out; have := HK2.out; omega
       case rel => exact ⟨(y509), (IntKind.u64.wrap (Int.tdiv x5_2 65536)), (wrap64 (x6_2 + 1)), uG, uG, H', ⟨by have := HK1.out; have := HK2.out; omega⟩, ⟨uR HO511.out⟩, ⟨uB⟩⟩
      rw [if_neg c4] at H
      have c4b0 := decide_eq_false c4
      clear c4
      have H' := Aside0.mk H
      clear H
      go_wp2
      go_roundg k2
      case measure => have := HK1.out; have := HK2.out; omega
      case rel => exact ⟨(x3_2), (wrap64 (x4_1 + 1)), uG, H', ⟨by have := HK1.out; have := HK2.out; omega⟩, ⟨uR HO_3.out⟩, ⟨uB⟩⟩
   rw [if_neg c2] at H
   have c2b0 := decide_eq_false c2
   clear c2
   replace H := ub H; obtain ⟨t505, A7, H⟩ := H
   obtain rfl := Option.some.inj H
   obtain ⟨Ao8, co8, eo8⟩ := Kd.R_slice HO_3.out
   subst eo8
   go_wp2_with (first | ((with_reducible refine ug 60 rfl ?_); refine uh (some 29) rfl Try.func60 #[.slice Ao8 x3_1.length co8] ?_; (with_reducible refine (windbreakref01_cut.calls k1 (fun k_ => some k_ = (.slice Ao8 x3_1.length co8 : Value).ownBlock) (.slice Ao8 x3_1.length co8) x3_1 t505 w _ ?side1 ?side2 A7.out).mono ?_); (case side1 => repeat (first | (with_reducible first | exact HB.out | apply below_alloc | apply pw_below_drewN | apply below_drew1) | exact HB.out)); (case side2 => exact Kd.R_tight rfl HO_3.out); rintro e w9 ⟨v506, rfl, ho0, hb, hkp⟩; refine ⟨_, rfl, ?_⟩; have HO507 := Aside0.mk (Kd.R_mono (ok' := fun k_ => True) ho0 (fun k_ hk_ => trivial)); replace HB := Aside0.mk (hb); clear HO_3; (try clear hb); (try clear hkp); (try clear ho0)))
   go_ret
   exact ⟨_, uF, uR HO507.out, uB⟩
def windbreakref01_compare.l0 : Nat → List Int → List Int → Int → Option (Int)
 | 0, _, _, _ => none
 | k + 1, x0, x1, x5 => if x5 ≥ 0 then (if 0 ≤ x5 then (if x5 < (x0.length : Int) then (if x5 < (x1.length : Int) then (if (rd x0 x5) < (rd x1 x5) then (some (-1)) else (if (rd x0 x5) > (rd x1 x5) then (some 1) else (windbreakref01_compare.l0 k x0 x1 (wrap64 (x5 - 1))))) else (none)) else (none)) else (none)) else (some 0)
def windbreakref01_compare.f (k : Nat) (l0 : List Int) (l1 : List Int) : Option (Int) := if (l0.length : Int) = (l1.length : Int) then (windbreakref01_compare.l0 k l0 l1 (wrap64 ((l0.length : Int) - 1))) else (if (l0.length : Int) < (l1.length : Int) then (some (-1)) else (some 1))
theorem windbreakref01_compare.calls (k : Nat) (A0 : Option Addr) (c0 : Nat) (l0 : List Int) (A1 : Option Addr) (c1 : Nat) (l1 : List Int) (r : Int) (w : World) (hr0 : Kd.C (Kd.int .u64) w A0 l0.length l0) (hc0 : l0.length ≤ c0) (hr1 : Kd.C (Kd.int .u64) w A1 l1.length l1) (hc1 : l1.length ≤ c1) (h : windbreakref01_compare.f k l0 l1 = some r) :
  Calls Try.prog 74 #[.slice A0 l0.length c0, .slice A1 l1.length c1] w fun e w' => e = .returned (.int .i64 r) ∧ Drawn0 w w' := by
 have HR0 := Aside0.mk hr0; have HC0 := Aside0.mk hc0; clear hr0 hc0; have HR1 := Aside0.mk hr1; have HC1 := Aside0.mk hc1; clear hr1 hc1
 have H : (if (l0.length : Int) = (l1.length : Int) then (windbreakref01_compare.l0 k l0 l1 (wrap64 ((l0.length : Int) - 1))) else (if (l0.length : Int) < (l1.length : Int) then (some (-1)) else (some 1))) = some r := h
 clear h
 by_cases c3 : (l0.length : Int) = (l1.length : Int)
 ·
  rw [if_pos c3] at H
  have c3b0 := beq_iff_eq.mpr c3
  have c3b1 := bne_eq_false_iff_eq.mpr c3
  have c3b2 : (l0.length == l1.length) = true := by first | simpa using c3 | (simp at c3 ⊢; omega)
  clear c3
  have H' := Aside0.mk H
  clear H
  go_enter Try.func74, Try.ntmps74
  go_wp2
  repeat (go_quiet (fail); try go_wp2)
  go_loopg [5] k (fun kq v5 w' => ∃ (x5_1 : Int), v5 = .int .i64 x5_1 ∧ Aside0 (windbreakref01_compare.l0 kq l0 l1 x5_1 = some r) ∧ Aside0 (kq ≤ k) ∧ Drawn0 w w')
  case atStart => exact ⟨(wrap64 ((l0.length : Int) - 1)), uG, H', ⟨Nat.le_refl _⟩, by repeat (first | exact Drawn0.refl _ | apply Drawn0.step)⟩
  case round =>
   clear H'
   obtain ⟨x5_1, rfl, HA, HK1, ⟨m1, rfl⟩⟩ := hrel
   cases gk with
   | zero => exact absurd HA.out (by simp [windbreakref01_compare.l0])
   | succ k1 =>
    have H := HA.out
    clear HA
    simp only [windbreakref01_compare.l0] at H
    by_cases c4 : x5_1 ≥ 0
    ·
     rw [if_pos c4] at H
     have c4b0 := decide_eq_true c4
     clear c4
     replace H := uT H; obtain ⟨c5, H⟩ := H
     have c5b0 := decide_eq_true c5
     clear c5
     replace H := uT H; obtain ⟨c6, H⟩ := H
     have c6b0 := decide_eq_true c6
     clear c6
     replace H := uT H; obtain ⟨c7, H⟩ := H
     have c7b0 := decide_eq_true c7
     clear c7
     by_cases c8 : (rd l0 x5_1) < (rd l1 x5_1)
     ·
      rw [if_pos c8] at H
      have c8b0 := decide_eq_true c8
      clear c8
      obtain rfl := Option.some.inj H
      have p512 := eq_true (uO : 0 ≤ (x5_1 : Int))
      have q512 := eq_true (uO : x5_1 < (l0.length : Int))
      obtain ⟨ad512, e512, hx512_0⟩ := Kd.at_int HR0.out x5_1 uO uO
      cases e512
      have p513 := eq_true (uO : 0 ≤ (x5_1 : Int))
      have q513 := eq_true (uO : x5_1 < (l1.length : Int))
      obtain ⟨ad513, e513, hx513_0⟩ := Kd.at_int HR1.out x5_1 uO uO
      cases e513
      go_wp2
      repeat (go_quiet (fail); try go_wp2)
      go_ret
      exact ⟨by first | rfl | (simp; done) | (simp [*]; done), by repeat (first | exact Drawn0.refl _ | apply Drawn0.step)⟩
     rw [if_neg c8] at H
     have c8b0 := decide_eq_false c8
     clear c8
     by_cases c9 : (rd l0 x5_1) > (rd l1 x5_1)
     ·
      rw [if_pos c9] at H
      have c9b0 := decide_eq_true c9
      clear c9
      obtain rfl := Option.some.inj H
      have p512 := eq_true (uO : 0 ≤ (x5_1 : Int))
      have q512 := eq_true (uO : x5_1 < (l0.length : Int))
      obtain ⟨ad512, e512, hx512_0⟩ := Kd.at_int HR0.out x5_1 uO uO
      cases e512
      have p513 := eq_true (uO : 0 ≤ (x5_1 : Int))
      have q513 := eq_true (uO : x5_1 < (l1.length : Int))
      obtain ⟨ad513, e513, hx513_0⟩ := Kd.at_int HR1.out x5_1 uO uO
      cases e513
      have p514 : 0 ≤ (x5_1 : Int) := uO
      have q514 : x5_1 < (l0.length : Int) := uO
      obtain ⟨ad514, e514, hx514_0⟩ := Kd.at_int HR0.out x5_1 p514 q514
      obtain rfl : ad512 = ad514 := (by injection e514)
      replace p514 := eq_true p514
      replace q514 := eq_true q514
      have p515 : 0 ≤ (x5_1 : Int) := uO
      have q515 : x5_1 < (l1.length : Int) := uO
      obtain ⟨ad515, e515, hx515_0⟩ := Kd.at_int HR1.out x5_1 p515 q515
      obtain rfl : ad513 = ad515 := (by injection e515)
      replace p515 := eq_true p515
      replace q515 := eq_true q515
      go_wp2
      repeat (go_quiet (fail); try go_wp2)
      go_ret
      exact ⟨by first | rfl | (simp; done) | (simp [*]; done), by repeat (first | exact Drawn0.refl _ | apply Drawn0.step)⟩
     rw [if_neg c9] at H
     have c9b0 := decide_eq_false c9
     clear c9
     have H' := Aside0.mk H
     clear H
     have p512 := eq_true (uO : 0 ≤ (x5_1 : Int))
     have q512 := eq_true (uO : x5_1 < (l0.length : Int))
     obtain ⟨ad512, e512, hx512_0⟩ := Kd.at_int HR0.out x5_1 uO uO
     cases e512
     have p513 := eq_true (uO : 0 ≤ (x5_1 : Int))
     have q513 := eq_true (uO : x5_1 < (l1.length : Int))
     obtain ⟨ad513, e513, hx513_0⟩ := Kd.at_int HR1.out x5_1 uO uO
     cases e513
     have p514 : 0 ≤ (x5_1 : Int) := uO
     have q514 : x5_1 < (l0.length : Int) := uO
     obtain ⟨ad514, e514, hx514_0⟩ := Kd.at_int HR0.out x5_1 p514 q514
     obtain rfl : ad512 = ad514 := (by injection e514)
     replace p514 := eq_true p514
     replace q514 := eq_true q514
     have p515 : 0 ≤ (x5_1 : Int) := uO
     have q515 : x5_1 < (l1.length : Int) := uO
     obtain ⟨ad515, e515, hx515_0⟩ := Kd.at_int HR1.out x5_1 p515 q515
     obtain rfl : ad513 = ad515 := (by injection e515)
     replace p515 := eq_true p515
     replace q515 := eq_true q515
     go_wp2
     repeat (go_quiet (fail); try go_wp2)
     go_roundg k1
     case measure => have := HK1.out; omega
     case rel => exact ⟨(wrap64 (x5_1 - 1)), uG, H', ⟨by have := HK1.out; omega⟩, by repeat (first | exact Drawn0.refl _ | apply Drawn0.step)⟩
    rw [if_neg c4] at H
    have c4b0 := decide_eq_false c4
    clear c4
    obtain rfl := Option.some.inj H
    go_wp2
    repeat (go_quiet (fail); try go_wp2)
    go_ret
    exact ⟨by first | rfl | (simp; done) | (simp [*]; done), by repeat (first | exact Drawn0.refl _ | apply Drawn0.step)⟩
 rw [if_neg c3] at H
 have c3b0 := beq_eq_false_iff_ne.mpr c3
 have c3b1 := bne_iff_ne.mpr c3
 have c3b2 : (l0.length == l1.length) = false := by first | simpa using c3 | (simp at c3 ⊢; omega)
 by_cases c10 : (l0.length : Int) < (l1.length : Int)
 ·
  rw [if_pos c10] at H
  have c10b0 := decide_eq_true c10
  have c10b1 : decide (l0.length < l1.length) = true := decide_eq_true (Int.ofNat_lt.mp c10)
  clear c10
  obtain rfl := Option.some.inj H
  go_enter Try.func74, Try.ntmps74
  go_wp2
  repeat (go_quiet (fail); try go_wp2)
  go_ret
  exact ⟨by first | rfl | (simp; done) | (simp [*]; done), by repeat (first | exact Drawn0.refl _ | apply Drawn0.step)⟩
 rw [if_neg c10] at H
 have c10b0 := decide_eq_false c10
 have c10b1 : decide (l0.length < l1.length) = false := decide_eq_false (fun h => c10 (Int.ofNat_lt.mpr h))
 clear c10
 obtain rfl := Option.some.inj H
 go_enter Try.func74, Try.ntmps74
 go_wp2
 repeat (go_quiet (fail); try go_wp2)
 go_ret
 exact ⟨by first | rfl | (simp; done) | (simp [*]; done), by repeat (first | exact Drawn0.refl _ | apply Drawn0.step)⟩
def windbreakref01_Cmp.j0 : Nat → List Int → List Int → Bool → Option (Int)
 | 0, _, _, _ => none
 | k + 1, x0, x1, x16 => if x16 = true then (some 0) else ((windbreakref01_In.f k x0).bind fun t518 => ((windbreakref01_In.f k x1).bind fun t521 => ((windbreakref01_compare.f k t518 t521).bind fun t524 => (some t524))))
def windbreakref01_Cmp.f (k : Nat) (l0 : List Int) (l1 : List Int) : Option (Int) := (windbreakref01_Right.f l0).bind fun t516 => ((windbreakref01_Right.f l1).bind fun t517 => (if t516 = true then (windbreakref01_Cmp.j0 k l0 l1 (!t517)) else (windbreakref01_Cmp.j0 k l0 l1 true)))
theorem windbreakref01_Cmp.calls (k : Nat) (A0 : Option Addr) (c0 : Nat) (l0 : List Int) (A1 : Option Addr) (c1 : Nat) (l1 : List Int) (r : Int) (w : World) (hr0 : Kd.C (Kd.int .u64) w A0 l0.length l0) (hc0 : l0.length ≤ c0) (hr1 : Kd.C (Kd.int .u64) w A1 l1.length l1) (hc1 : l1.length ≤ c1) (h : windbreakref01_Cmp.f k l0 l1 = some r) :
  Calls Try.prog 47 #[.slice A0 l0.length c0, .slice A1 l1.length c1] w fun e w' => e = .returned (.int .i64 r) ∧ Below w.heap.size w w' := by
 have HR0 := Aside0.mk hr0; have HC0 := Aside0.mk hc0; clear hr0 hc0; have HR1 := Aside0.mk hr1; have HC1 := Aside0.mk hc1; clear hr1 hc1
 have HB := Aside0.mk (Below.refl w.heap.size w)
 have H : ((windbreakref01_Right.f l0).bind fun t516 => ((windbreakref01_Right.f l1).bind fun t517 => (if t516 = true then (windbreakref01_Cmp.j0 k l0 l1 (!t517)) else (windbreakref01_Cmp.j0 k l0 l1 true)))) = some r := h
 clear h
 replace H := ub H; obtain ⟨t516, A3, H⟩ := H
 replace H := ub H; obtain ⟨t517, A4, H⟩ := H
 have HC5 := Aside0.mk H; clear H
 go_enter Try.func47, Try.ntmps47
 go_upto_region 3 with (first | ((with_reducible refine ug 31 rfl ?_); refine uh (some 8) rfl Try.func31 #[.slice A0 l0.length c0] ?_; (with_reducible refine (windbreakref01_Right.calls _ _ l0 t516 _ ?side1 ?side2 A3.out).mono ?_); (case side1 => exact uC HR0.out); (case side2 => exact HC0.out); rintro e w' ⟨rfl, ⟨nd, rfl⟩⟩; refine ⟨_, rfl, ?_⟩) | ((with_reducible refine ug 31 rfl ?_); refine uh (some 10) rfl Try.func31 #[.slice A1 l1.length c1] ?_; (with_reducible refine (windbreakref01_Right.calls _ _ l1 t517 _ ?side1 ?side2 A4.out).mono ?_); (case side1 => exact uC HR1.out); (case side2 => exact HC1.out); rintro e w' ⟨rfl, ⟨nd, rfl⟩⟩; refine ⟨_, rfl, ?_⟩))
 (try simp only [Act.put, List.setIfInBounds_toArray, List.set_cons_zero, List.set_cons_succ])
 go_cut [16] (fun v16 wc => ∃ (kq : Nat) (x16_4 : Bool), v16 = .bool x16_4 ∧ Aside0 (windbreakref01_Cmp.j0 kq l0 l1 x16_4 = some r) ∧ Aside0 (kq ≤ k) ∧ Aside0 (Below w.heap.size w wc))
 case first =>
  have H := HC5.out
  clear HC5
  by_cases c6 : t516 = true
  ·
   subst c6
   have H1 : (windbreakref01_Cmp.j0 k l0 l1 (!t517)) = some r := by rw [if_pos rfl] at H; exact H
   clear H; have H := H1; clear H1
   have H' := Aside0.mk H
   clear H
   go_wp2
   go_meet
   case rel => exact ⟨_, (!t517), uG, H', ⟨uW⟩, ⟨uB⟩⟩
  replace c6 := Bool.eq_false_iff.mpr c6
  subst c6
  have H1 : (windbreakref01_Cmp.j0 k l0 l1 true) = some r := by rw [if_neg (show ¬ (false = true) by decide)] at H; exact H
  clear H; have H := H1; clear H1
  have H' := Aside0.mk H
  clear H
  go_wp2
  go_meet
  case rel => exact ⟨_, (true), uG, H', ⟨uW⟩, ⟨uB⟩⟩
 case rest =>
  clear HC5
  obtain ⟨kq, x16_4, rfl, HA, HJ4, HB⟩ := hcut
  cases kq with
  | zero => exact absurd HA.out (by simp [windbreakref01_Cmp.j0])
  | succ kj4 =>
   have H := HA.out
   clear HA
   simp only [windbreakref01_Cmp.j0] at H
   by_cases c7 : x16_4 = true
   ·
    subst c7
    have H1 : (some 0) = some r := by rw [if_pos rfl] at H; exact H
    clear H; have H := H1; clear H1
    obtain rfl := Option.some.inj H
    go_wp2
    go_ret
    exact ⟨uF, uB⟩
   replace c7 := Bool.eq_false_iff.mpr c7
   subst c7
   have H1 : ((windbreakref01_In.f kj4 l0).bind fun t518 => ((windbreakref01_In.f kj4 l1).bind fun t521 => ((windbreakref01_compare.f kj4 t518 t521).bind fun t524 => (some t524)))) = some r := by rw [if_neg (show ¬ (false = true) by decide)] at H; exact H
   clear H; have H := H1; clear H1
   replace H := ub H; obtain ⟨t518, A8, H⟩ := H
   replace H := ub H; obtain ⟨t521, A9, H⟩ := H
   replace H := ub H; obtain ⟨t524, A10, H⟩ := H
   obtain rfl := Option.some.inj H
   go_wp2_with (first | ((with_reducible refine ug 34 rfl ?_); refine uh (some 18) rfl Try.func34 #[.slice A0 l0.length c0] ?_; (with_reducible refine (windbreakref01_In.calls kj4 _ _ l0 t518 _ ?side1 ?side2 A8.out).mono ?_); (case side1 => exact uC (Kd.C_below HR0.out HB.out)); (case side2 => exact HC0.out); rintro e w11 ⟨v519, rfl, ho0, hb⟩; refine ⟨_, rfl, ?_⟩; have HO520 := ulo ho0; replace HB := uy hb; (try clear hb ho0)) | ((with_reducible refine ug 34 rfl ?_); refine uh (some 20) rfl Try.func34 #[.slice A1 l1.length c1] ?_; (with_reducible refine (windbreakref01_In.calls kj4 _ _ l1 t521 _ ?side1 ?side2 A9.out).mono ?_); (case side1 => exact uC (Kd.C_below HR1.out HB.out)); (case side2 => exact HC1.out); rintro e w12 ⟨v522, rfl, ho0, hb⟩; refine ⟨_, rfl, ?_⟩; have HO523 := ulo (unw ho0 HO520); replace HO520 := ueR HO520 ho0 hb; replace HB := uy hb; (try clear hb ho0); obtain ⟨Ao13, co13, eo13⟩ := Kd.R_slice HO520.out; subst eo13; obtain ⟨Ao14, co14, eo14⟩ := Kd.R_slice HO523.out; subst eo14) | ((with_reducible refine ug 74 rfl ?_); refine uh (some 21) rfl Try.func74 #[.slice Ao13 t518.length co13, .slice Ao14 t521.length co14] ?_; (with_reducible refine (windbreakref01_compare.calls kj4 _ _ t518 _ _ t521 t524 _ ?side1 ?side2 ?side3 ?side4 A10.out).mono ?_); (case side1 => exact uC (Kd.R_reads' HO520.out).2.2); (case side2 => exact (Kd.R_reads' HO520.out).2.1); (case side3 => exact uC (Kd.R_reads' HO523.out).2.2); (case side4 => exact (Kd.R_reads' HO523.out).2.1); rintro e w' ⟨rfl, ⟨nd, rfl⟩⟩; refine ⟨_, rfl, ?_⟩))
   go_ret
   exact ⟨uF, uB⟩
def windbreakref01_Of.f (a0 : Int) : Option (List Int) := if a0 = 0 then (some ([] : List Int)) else (some (([a0] : List Int)))
theorem windbreakref01_Of.calls (a0 : Int) (r : List Int) (w : World) (h : windbreakref01_Of.f a0 = some r) :
  Calls Try.prog 48 #[.int .u64 a0] w fun e w' => ∃ v0_ : Value, e = .returned (v0_) ∧ Kd.R (Kd.int .u64) 42 w' w.heap.size (fun _ => True) v0_ r ∧ Below w.heap.size w w' := by
 have HB := Aside0.mk (Below.refl w.heap.size w)
 have H : (if a0 = 0 then (some ([] : List Int)) else (some (([a0] : List Int)))) = some r := h
 clear h
 by_cases c2 : a0 = 0
 ·
  rw [if_pos c2] at H
  have c2b0 := beq_iff_eq.mpr c2
  have c2b1 := bne_eq_false_iff_eq.mpr c2
  clear c2
  obtain rfl := Option.some.inj H
  go_enter Try.func48, Try.ntmps48
  go_wp2
  go_ret
  exact ⟨_, uF, uI, uB⟩
 rw [if_neg c2] at H
 have c2b0 := beq_eq_false_iff_ne.mpr c2
 have c2b1 := bne_iff_ne.mpr c2
 obtain ⟨y525, hy525⟩ : ∃ y_ : List Int, y_ = (([a0] : List Int)) := ⟨_, rfl⟩
 replace H : (some y525) = some r := by first | (rw [hy525]; with_reducible exact H) | (have H2_ := (Option.bind_some _ _).symm.trans H; rw [hy525]; with_reducible exact H2_) | (have H2_ := (Option.bind_some _ _).symm.trans H; with_reducible exact H2_) | with_reducible exact H | (rw [hy525]; exact H) | exact H
 have Ny525 := Aside0.mk hy525; clear hy525
 obtain rfl := Option.some.inj H
 go_enter Try.func48, Try.ntmps48
 go_wp2_with (first | ((with_reducible refine gate_dst (N := 6) rfl ?_); refine Kd.R_lit (Kd.int .u64) _ 42 ?hg (N := 6) ?hd (xs := ([a0] : List Int)) (inner := [.int .u64 a0]) (ok := fun _ => True) (okp := fun _ => True) ?hr ?hp (fun _ hk => hk) trivial (Below.refl _ _) (Nat.le_refl _) (by simp) ?_; (case hd => rfl); (case hg => rfl); (case hr => first | (go_simp; done) | (go_simp; rfl) | (go_simp; simp only [u64_u8]; done) | (go_simp; simp only [u64_u8]; rfl)); (case hp => exact (Reps.one (show Kd.M (Kd.int .u64) _ _ _ a0 [.int .u64 a0] from rfl) (Reps.none _ _))); intro v526 w3 ho4 hb hg_ hnew_; clear hg_ hnew_; (first | rw [← Ny525.out] at ho4 | (simp only [Int.reduceToNat] at ho4; rw [← Ny525.out] at ho4)); have HO527 := ulo ho4; replace HB := uy hb; clear hb ho4))
 go_ret
 exact ⟨_, uF, uR HO527.out, uB⟩
def windbreakref07_May.f (k : Nat) (l0 : List Int) : Option (Bool) := (windbreakref01_Right.f l0).bind fun t528 => (if t528 = true then (if (l0.length : Int) ≤ 8 then ((windbreakref01_Of.f 3).bind fun t529 => ((windbreakref01_Cmp.f k l0 t529).bind fun t532 => (some (decide (t532 ≥ 0))))) else (some false)) else (some false))
theorem windbreakref07_May.calls (k : Nat) (A0 : Option Addr) (c0 : Nat) (l0 : List Int) (r : Bool) (w : World) (hr0 : Kd.C (Kd.int .u64) w A0 l0.length l0) (hc0 : l0.length ≤ c0) (h : windbreakref07_May.f k l0 = some r) :
  Calls Try.prog 20 #[.slice A0 l0.length c0] w fun e w' => e = .returned (.bool r) ∧ Below w.heap.size w w' := by
 have HR0 := Aside0.mk hr0; have HC0 := Aside0.mk hc0; clear hr0 hc0
 have HB := Aside0.mk (Below.refl w.heap.size w)
 have H : ((windbreakref01_Right.f l0).bind fun t528 => (if t528 = true then (if (l0.length : Int) ≤ 8 then ((windbreakref01_Of.f 3).bind fun t529 => ((windbreakref01_Cmp.f k l0 t529).bind fun t532 => (some (decide (t532 ≥ 0))))) else (some false)) else (some false))) = some r := h
 clear h
 replace H := ub H; obtain ⟨t528, A2, H⟩ := H
 by_cases c3 : t528 = true
 ·
  subst c3
  have H1 : (if (l0.length : Int) ≤ 8 then ((windbreakref01_Of.f 3).bind fun t529 => ((windbreakref01_Cmp.f k l0 t529).bind fun t532 => (some (decide (t532 ≥ 0))))) else (some false)) = some r := by rw [if_pos rfl] at H; exact H
  clear H; have H := H1; clear H1
  by_cases c4 : (l0.length : Int) ≤ 8
  ·
   rw [if_pos c4] at H
   have c4b0 := decide_eq_true c4
   have c4b1 : decide (l0.length ≤ 8) = true := decide_eq_true (by omega)
   clear c4
   replace H := ub H; obtain ⟨t529, A5, H⟩ := H
   replace H := ub H; obtain ⟨t532, A6, H⟩ := H
   obtain rfl := Option.some.inj H
   go_enter Try.func20, Try.ntmps20
   go_wp2_with (first | ((with_reducible refine ug 31 rfl ?_); refine uh (some 5) rfl Try.func31 #[.slice A0 l0.length c0] ?_; (with_reducible refine (windbreakref01_Right.calls _ _ l0 true _ ?side1 ?side2 A2.out).mono ?_); (case side1 => exact uC HR0.out); (case side2 => exact HC0.out); rintro e w' ⟨rfl, ⟨nd, rfl⟩⟩; refine ⟨_, rfl, ?_⟩) | (go_at_call 48; (with_reducible refine (windbreakref01_Of.calls 3 t529 _ A5.out).mono ?_); rintro e w7 ⟨v530, rfl, ho0, hb⟩; have HO531 := ulo ho0; replace HB := uy hb; (try clear hb ho0); obtain ⟨Ao8, co8, eo8⟩ := Kd.R_slice HO531.out; subst eo8) | (go_at_call 47; (with_reducible refine (windbreakref01_Cmp.calls k _ _ l0 _ _ t529 t532 _ ?side1 ?side2 ?side3 ?side4 A6.out).mono ?_); (case side1 => exact uC (Kd.C_below HR0.out HB.out)); (case side2 => exact HC0.out); (case side3 => exact uC (Kd.R_reads' HO531.out).2.2); (case side4 => exact (Kd.R_reads' HO531.out).2.1); rintro e w9 ⟨rfl, hb⟩; replace HO531 := urb HO531 hb; replace HB := uy hb; (try clear hb)))
   go_ret
   exact ⟨uF, uB⟩
  rw [if_neg c4] at H
  have c4b0 := decide_eq_false c4
  have c4b1 : decide (l0.length ≤ 8) = false := decide_eq_false (by omega)
  clear c4
  obtain rfl := Option.some.inj H
  go_enter Try.func20, Try.ntmps20
  go_wp2_with (first | ((with_reducible refine ug 31 rfl ?_); refine uh (some 5) rfl Try.func31 #[.slice A0 l0.length c0] ?_; (with_reducible refine (windbreakref01_Right.calls _ _ l0 true _ ?side1 ?side2 A2.out).mono ?_); (case side1 => exact uC HR0.out); (case side2 => exact HC0.out); rintro e w' ⟨rfl, ⟨nd, rfl⟩⟩; refine ⟨_, rfl, ?_⟩))
  go_ret
  exact ⟨uF, uB⟩
 replace c3 := Bool.eq_false_iff.mpr c3
 subst c3
 have H1 : (some false) = some r := by rw [if_neg (show ¬ (false = true) by decide)] at H; exact H
 clear H; have H := H1; clear H1
 obtain rfl := Option.some.inj H
 go_enter Try.func20, Try.ntmps20
 go_wp2_with (first | ((with_reducible refine ug 31 rfl ?_); refine uh (some 5) rfl Try.func31 #[.slice A0 l0.length c0] ?_; (with_reducible refine (windbreakref01_Right.calls _ _ l0 false _ ?side1 ?side2 A2.out).mono ?_); (case side1 => exact uC HR0.out); (case side2 => exact HC0.out); rintro e w' ⟨rfl, ⟨nd, rfl⟩⟩; refine ⟨_, rfl, ?_⟩))
 go_ret
 exact ⟨uF, uB⟩
mutual
def windbreakref01_Out.l0 : Nat → List Int → List Int → Int → Option (List Int × Bool)
 | 0, _, _, _ => none
 | k + 1, x0, x4, x5 => if x5 < (x0.length : Int) then (windbreakref01_Out.l1 k x0 x4 x5 0 3) else (some (x4, decide ((x4.length : Int) ≤ 64)))
def windbreakref01_Out.l1 : Nat → List Int → List Int → Int → Int → Int → Option (List Int × Bool)
 | 0, _, _, _, _, _ => none
 | k + 1, x0, x4, x5, x6, x7 => if x7 ≥ 0 then (if (wrap64 (x5 + x7)) < (x0.length : Int) then (if 0 ≤ (wrap64 (x5 + x7)) then (windbreakref01_Out.l1 k x0 x4 x5 (IntKind.u64.wrap ((IntKind.u64.wrap (x6 * 65536)) + (rd x0 (wrap64 (x5 + x7))))) (wrap64 (x7 - 1))) else (none)) else (windbreakref01_Out.l1 k x0 x4 x5 (IntKind.u64.wrap (x6 * 65536)) (wrap64 (x7 - 1)))) else (if x4.length < 17592186044416 then (windbreakref01_Out.l0 k x0 (x4 ++ [x6]) (wrap64 (x5 + 4))) else (none))
end
def windbreakref01_Out.f (k : Nat) (l0 : List Int) : Option (List Int × Bool) := windbreakref01_Out.l0 k l0 ([] : List Int) 0
theorem windbreakref01_Out.calls (k : Nat) (A0 : Option Addr) (c0 : Nat) (l0 : List Int) (r1 : List Int) (r2 : Bool) (w : World) (hr0 : Kd.C (Kd.int .u64) w A0 l0.length l0) (hc0 : l0.length ≤ c0) (h : windbreakref01_Out.f k l0 = some (r1, r2)) :
  Calls Try.prog 58 #[.slice A0 l0.length c0] w fun e w' => ∃ v0_ : Value, e = .returned (.tuple #[v0_, .bool r2]) ∧ Kd.R (Kd.int .u64) 42 w' w.heap.size (fun _ => True) v0_ r1 ∧ Below w.heap.size w w' := by
 have HR0 := Aside0.mk hr0; have HC0 := Aside0.mk hc0; clear hr0 hc0
 have HB := Aside0.mk (Below.refl w.heap.size w)
 have H : (windbreakref01_Out.l0 k l0 ([] : List Int) 0) = some (r1, r2) := h
 clear h
 have H' := Aside0.mk H
 clear H
 go_enter Try.func58, Try.ntmps58
 go_wp2
 go_loopg [4, 5] k (fun kq v4 v5 w' => ∃ (x4_1 : List Int) (x5_1 : Int), v5 = .int .i64 x5_1 ∧ Aside0 (windbreakref01_Out.l0 kq l0 x4_1 x5_1 = some (r1, r2)) ∧ Aside0 (kq ≤ k) ∧ Aside0 (Kd.R (Kd.int .u64) 42 w' w.heap.size (fun _ => True) v4 x4_1) ∧ Aside0 (Below w.heap.size w w'))
 case atStart => exact ⟨(([] : List Int)), (0), uG, H', ⟨Nat.le_refl _⟩, ⟨uI⟩, ⟨uB⟩⟩
 case round =>
  clear H'
  obtain ⟨x4_1, x5_1, rfl, HA, HK1, HO_4, HB⟩ := hrel
  cases gk with
  | zero => exact absurd HA.out (by simp [windbreakref01_Out.l0])
  | succ k1 =>
   have H := HA.out
   clear HA
   simp only [windbreakref01_Out.l0] at H
   by_cases c2 : x5_1 < (l0.length : Int)
   ·
    rw [if_pos c2] at H
    have c2b0 := decide_eq_true c2
    clear c2
    have H' := Aside0.mk H
    clear H
    go_wp2
    go_loopg [6, 7] k1 (fun kq v6 v7 w' => ∃ (x6_2 : Int) (x7_2 : Int), v6 = .int .u64 x6_2 ∧ v7 = .int .i64 x7_2 ∧ Aside0 (windbreakref01_Out.l1 kq l0 x4_1 x5_1 x6_2 x7_2 = some (r1, r2)) ∧ Aside0 (kq ≤ k1) ∧ Aside0 (Kd.R (Kd.int .u64) 42 w' w.heap.size (fun _ => True) u4 x4_1) ∧ Aside0 (Below w.heap.size w w'))
    case atStart => exact ⟨(0), (3), uG, uG, H', ⟨Nat.le_refl _⟩, ⟨uR HO_4.out⟩, ⟨uB⟩⟩
    case round =>
     clear H'
     obtain ⟨x6_2, x7_2, rfl, rfl, HA, HK2, HO_4, HB⟩ := hrel
     cases gk with
     | zero => exact absurd HA.out (by simp [windbreakref01_Out.l1])
     | succ k2 =>
      have H := HA.out
      clear HA
      simp only [windbreakref01_Out.l1] at H
      by_cases c3 : x7_2 ≥ 0
      ·
       rw [if_pos c3] at H
       have c3b0 := decide_eq_true c3
       clear c3
       by_cases c4 : (wrap64 (x5_1 + x7_2)) < (l0.length : Int)
       ·
        rw [if_pos c4] at H
        have c4b0 := decide_eq_true c4
        clear c4
        obtain ⟨ji5, hji5⟩ : ∃ j_ : Int, (wrap64 (x5_1 + x7_2)) = j_ := ⟨_, rfl⟩
        first | rw [hji5] at H | simp only [hji5] at H
        (try rw [hji5] at c4b0)
        have hji5w : (IntKind.i64.wrap (x5_1 + x7_2)) = ji5 := (i64_w _).trans hji5
        replace H := uT H; obtain ⟨c6, H⟩ := H
        have c6b0 := decide_eq_true c6
        clear c6
        have H' := Aside0.mk H
        clear H
        have p533 : 0 ≤ ((ji5) : Int) := uO
        have q533 : (ji5) < (l0.length : Int) := uO
        obtain ⟨ad533, e533, hx533_0⟩ := Kd.at_int HR0.out (ji5) p533 q533
        cases e533
        replace hx533_0 := (HB.out.cell (World.block_lt_of_cell? w _ hx533_0)).trans hx533_0
        replace p533 := eq_true p533
        replace q533 := eq_true q533
        go_wp2
        first | go_roundg k2 | ((try simp only [← hji5] at H'); simp only [← hji5]; go_roundg k2)
        case measure => have := HK1.out; have := HK2.out; omega
        case rel => first | exact ⟨(IntKind.u64.wrap ((IntKind.u64.wrap (x6_2 * 65536)) + (rd l0 (ji5)))), (wrap64 (x7_2 - 1)), (by first | rfl | (simp; done) | (simp only [← hji5] <;> (first | rfl | simp)) | (simp [*]; done)), uG, H', ⟨by have := HK1.out; have := HK2.out; omega⟩, ⟨uR HO_4.out⟩, ⟨uB⟩⟩ | (simp only [← hji5] at H'; exact ⟨(IntKind.u64.wrap ((IntKind.u64.wrap (x6_2 * 65536)) + (rd l0 (ji5)))), (wrap64 (x7_2 - 1)), (by first | rfl | (simp; done) | (simp only [← hji5] <;> (first | rfl | simp)) | (simp [*]; done)), uG, H', ⟨by have := HK1.out; have := HK2.out; omega⟩, ⟨uR HO_4.out⟩, ⟨uB⟩⟩)
       rw [if_neg c4] at H
       have c4b0 := decide_eq_false c4
       clear c4
       have H' := Aside0.mk H
       clear H
       go_wp2
       first | go_roundg k2 | ((try simp only [← hji5] at H'); simp only [← hji5]; go_roundg k2)
       case measure => have := HK1.out; have := HK2.out; omega
       case rel => first | exact ⟨(IntKind.u64.wrap (x6_2 * 65536)), (wrap64 (x7_2 - 1)), uG, uG, H', ⟨by have := HK1.out; have := HK2.out; omega⟩, ⟨uR HO_4.out⟩, ⟨uB⟩⟩ | (simp only [← hji5] at H'; exact ⟨(IntKind.u64.wrap (x6_2 * 65536)), (wrap64 (x7_2 - 1)), uG, uG, H', ⟨by have := HK1.out; have := HK2.out; omega⟩, ⟨uR HO_4.out⟩, ⟨uB⟩⟩)
      rw [if_neg c3] at H
      have c3b0 := decide_eq_false c3
      clear c3
      replace H := uT H; obtain ⟨c7, H⟩ := H
      have LMc7 := Aside0.mk c7; clear c7
      obtain ⟨y534, hy534⟩ : ∃ y_ : List Int, y_ = (x4_1 ++ [x6_2]) := ⟨_, rfl⟩
      replace H : (windbreakref01_Out.l0 k2 l0 y534 (wrap64 (x5_1 + 4))) = some (r1, r2) := by first | (rw [hy534]; with_reducible exact H) | (have H2_ := (Option.bind_some _ _).symm.trans H; rw [hy534]; with_reducible exact H2_) | (have H2_ := (Option.bind_some _ _).symm.trans H; with_reducible exact H2_) | with_reducible exact H | (rw [hy534]; exact H) | exact H
      have Ny534 := Aside0.mk hy534; clear hy534
      have H' := Aside0.mk H
      clear H
      go_wp2_with (first | ((with_reducible refine gate_builtin (b := .append) (xs := #[.tmp 34, .tmp 36]) rfl ?_); at_builtin; refine Kd.R_append (Kd.int .u64) (w0 := w) w.heap.size rfl (.tmp 34) (.tmp 36) 23 42 (.int .u64 0) 8 rfl Try.underlying23 info42 rfl (by decide) (by omega) u4 x4_1 x6_2 [.int .u64 x6_2] (fun _ => True) (fun _ => False) rfl rfl ?aP (fun _ hk => hk.elim) ?aF ?aO ?aB ?aS ?aL ?_; (case aP => exact rfl); (case aB => exact uB); (case aF => exact (fun _ _ => trivial)); (case aO => exact (uR HO_4.out)); (case aS => exact (below_size uB)); (case aL => have := LMc7.out; omega); intro v535 w8 ho hb hg hat; rw [← Ny534.out] at ho; replace HB := Aside0.mk (hb); have HO536 := Aside0.mk (ho); clear HO_4; clear ho hb hg hat))
      first | go_roundg k2 | ((try simp only [← hji5] at H'); simp only [← hji5]; go_roundg k2)
      case measure => have := HK1.out; have := HK2.out; omega
      case rel => first | exact ⟨(y534), (wrap64 (x5_1 + 4)), uG, H', ⟨by have := HK1.out; have := HK2.out; omega⟩, ⟨uR HO536.out⟩, ⟨uB⟩⟩ | (simp only [← hji5] at H'; exact ⟨(y534), (wrap64 (x5_1 + 4)), uG, H', ⟨by have := HK1.out; have := HK2.out; omega⟩, ⟨uR HO536.out⟩, ⟨uB⟩⟩)
   rw [if_neg c2] at H
   have c2b0 := decide_eq_false c2
   clear c2
   simp only [Option.some.injEq, Prod.mk.injEq] at H
   obtain ⟨rfl, rfl⟩ := H
   obtain ⟨Ao9, co9, eo9⟩ := Kd.R_slice HO_4.out
   subst eo9
   go_wp2
   go_ret2
   exact ⟨_, uF, uR HO_4.out, uB⟩
def windbreakref01_told.f (k : Nat) (l0 : List Int) : Option (List Int × Int) := (windbreakref01_Out.f k l0).bind fun bt537 => (if bt537.2 = true then (some (bt537.1, 0)) else (some (([] : List Int), 4)))
theorem windbreakref01_told.calls (k : Nat) (A0 : Option Addr) (c0 : Nat) (l0 : List Int) (r1 : List Int) (r2 : Int) (w : World) (hr0 : Kd.C (Kd.int .u64) w A0 l0.length l0) (hc0 : l0.length ≤ c0) (h : windbreakref01_told.f k l0 = some (r1, r2)) :
  Calls Try.prog 32 #[.slice A0 l0.length c0] w fun e w' => ∃ v0_ : Value, e = .returned (.tuple #[v0_, .int .i64 r2]) ∧ Kd.R (Kd.int .u64) 42 w' w.heap.size (fun _ => True) v0_ r1 ∧ Below w.heap.size w w' := by
 have HR0 := Aside0.mk hr0; have HC0 := Aside0.mk hc0; clear hr0 hc0
 have HB := Aside0.mk (Below.refl w.heap.size w)
 have H : ((windbreakref01_Out.f k l0).bind fun bt537 => (if bt537.2 = true then (some (bt537.1, 0)) else (some (([] : List Int), 4)))) = some (r1, r2) := h
 clear h
 replace H := ub H; obtain ⟨⟨t537, t538⟩, A2, H⟩ := H
 (try dsimp only at H)
 by_cases c3 : t538 = true
 ·
  subst c3
  have H1 : (some (t537, 0)) = some (r1, r2) := by rw [if_pos rfl] at H; exact H
  clear H; have H := H1; clear H1
  simp only [Option.some.injEq, Prod.mk.injEq] at H
  obtain ⟨rfl, rfl⟩ := H
  go_enter Try.func32, Try.ntmps32
  go_wp2_with (first | ((with_reducible refine ug 58 rfl ?_); refine uh (some 8) rfl Try.func58 #[.slice A0 l0.length c0] ?_; (with_reducible refine (windbreakref01_Out.calls k _ _ l0 t537 true _ ?side1 ?side2 A2.out).mono ?_); (case side1 => exact uC HR0.out); (case side2 => exact HC0.out); rintro e w4 ⟨v539, rfl, ho0, hb⟩; refine ⟨_, rfl, ?_⟩; have HO540 := ulo ho0; replace HB := uy hb; (try clear hb ho0)))
  go_ret2
  exact ⟨_, uF, uR HO540.out, uB⟩
 replace c3 := Bool.eq_false_iff.mpr c3
 subst c3
 have H1 : (some (([] : List Int), 4)) = some (r1, r2) := by rw [if_neg (show ¬ (false = true) by decide)] at H; exact H
 clear H; have H := H1; clear H1
 simp only [Option.some.injEq, Prod.mk.injEq] at H
 obtain ⟨rfl, rfl⟩ := H
 go_enter Try.func32, Try.ntmps32
 go_wp2_with (first | ((with_reducible refine ug 58 rfl ?_); refine uh (some 8) rfl Try.func58 #[.slice A0 l0.length c0] ?_; (with_reducible refine (windbreakref01_Out.calls k _ _ l0 t537 false _ ?side1 ?side2 A2.out).mono ?_); (case side1 => exact uC HR0.out); (case side2 => exact HC0.out); rintro e w5 ⟨v539, rfl, ho0, hb⟩; refine ⟨_, rfl, ?_⟩; have HO540 := ulo ho0; replace HB := uy hb; (try clear hb ho0)))
 go_ret2
 exact ⟨_, uF, uI, uB⟩
def windbreakref01_digit.f (l0 : List Int) (a1 : Int) : Option (Int) := if a1 < (l0.length : Int) then (if 0 ≤ a1 then (some (rd l0 a1)) else (none)) else (some 0)
theorem windbreakref01_digit.calls (A0 : Option Addr) (c0 : Nat) (l0 : List Int) (a1 : Int) (r : Int) (w : World) (hr0 : Kd.C (Kd.int .u64) w A0 l0.length l0) (hc0 : l0.length ≤ c0) (h : windbreakref01_digit.f l0 a1 = some r) :
  Calls Try.prog 59 #[.slice A0 l0.length c0, .int .i64 a1] w fun e w' => e = .returned (.int .u64 r) ∧ Drawn0 w w' := by
 have HR0 := Aside0.mk hr0; have HC0 := Aside0.mk hc0; clear hr0 hc0
 have H : (if a1 < (l0.length : Int) then (if 0 ≤ a1 then (some (rd l0 a1)) else (none)) else (some 0)) = some r := h
 clear h
 by_cases c3 : a1 < (l0.length : Int)
 ·
  rw [if_pos c3] at H
  have c3b0 := decide_eq_true c3
  clear c3
  replace H := uT H; obtain ⟨c4, H⟩ := H
  have c4b0 := decide_eq_true c4
  clear c4
  obtain rfl := Option.some.inj H
  have p541 := eq_true (uO : 0 ≤ (a1 : Int))
  have q541 := eq_true (uO : a1 < (l0.length : Int))
  obtain ⟨ad541, e541, hx541_0⟩ := Kd.at_int HR0.out a1 uO uO
  cases e541
  go_enter Try.func59, Try.ntmps59
  go_wp2
  go_ret
  exact ⟨by first | rfl | (simp; done) | (simp [*]; done), by repeat (first | exact Drawn0.refl _ | apply Drawn0.step)⟩
 rw [if_neg c3] at H
 have c3b0 := decide_eq_false c3
 clear c3
 obtain rfl := Option.some.inj H
 go_enter Try.func59, Try.ntmps59
 go_wp2
 go_ret
 exact ⟨by first | rfl | (simp; done) | (simp [*]; done), by repeat (first | exact Drawn0.refl _ | apply Drawn0.step)⟩
def windbreakref01_sub.l0 : Nat → List Int → List Int → List Int → Int → Int → Option (List Int)
 | 0, _, _, _, _, _ => none
 | k + 1, x0, x1, x5, x6, x7 => if x7 < (x0.length : Int) then (if 0 ≤ x7 then ((windbreakref01_digit.f x1 x7).bind fun t543 => (if x5.length < 17592186044416 then (windbreakref01_sub.l0 k x0 x1 (x5 ++ [Int.tmod (IntKind.u64.wrap ((IntKind.u64.wrap ((IntKind.u64.wrap (65536 + (rd x0 x7))) - t543)) - x6)) 65536]) (IntKind.u64.wrap (1 - (IntKind.u64.wrap (Int.tdiv (IntKind.u64.wrap ((IntKind.u64.wrap ((IntKind.u64.wrap (65536 + (rd x0 x7))) - t543)) - x6)) 65536)))) (wrap64 (x7 + 1))) else (none))) else (none)) else ((windbreakref01_cut.f k x5).bind fun t547 => (some t547))
def windbreakref01_sub.f (k : Nat) (l0 : List Int) (l1 : List Int) : Option (List Int) := windbreakref01_sub.l0 k l0 l1 ([] : List Int) 0 0
theorem windbreakref01_sub.calls (k : Nat) (A0 : Option Addr) (c0 : Nat) (l0 : List Int) (A1 : Option Addr) (c1 : Nat) (l1 : List Int) (r : List Int) (w : World) (hr0 : Kd.C (Kd.int .u64) w A0 l0.length l0) (hc0 : l0.length ≤ c0) (hr1 : Kd.C (Kd.int .u64) w A1 l1.length l1) (hc1 : l1.length ≤ c1) (h : windbreakref01_sub.f k l0 l1 = some r) :
  Calls Try.prog 76 #[.slice A0 l0.length c0, .slice A1 l1.length c1] w fun e w' => ∃ v0_ : Value, e = .returned (v0_) ∧ Kd.R (Kd.int .u64) 42 w' w.heap.size (fun _ => True) v0_ r ∧ Below w.heap.size w w' := by
 have HR0 := Aside0.mk hr0; have HC0 := Aside0.mk hc0; clear hr0 hc0; have HR1 := Aside0.mk hr1; have HC1 := Aside0.mk hc1; clear hr1 hc1
 have HB := Aside0.mk (Below.refl w.heap.size w)
 have H : (windbreakref01_sub.l0 k l0 l1 ([] : List Int) 0 0) = some r := h
 clear h
 have H' := Aside0.mk H
 clear H
 go_enter Try.func76, Try.ntmps76
 go_wp2
 repeat (go_quiet (fail); try go_wp2)
 go_loopg [5, 6, 7] k (fun kq v5 v6 v7 w' => ∃ (x5_1 : List Int) (x6_1 : Int) (x7_1 : Int), v6 = .int .u64 x6_1 ∧ v7 = .int .i64 x7_1 ∧ Aside0 (windbreakref01_sub.l0 kq l0 l1 x5_1 x6_1 x7_1 = some r) ∧ Aside0 (kq ≤ k) ∧ Aside0 (Kd.R (Kd.int .u64) 42 w' w.heap.size (fun _ => True) v5 x5_1) ∧ Aside0 (Below w.heap.size w w'))
 case atStart => exact ⟨(([] : List Int)), (0), (0), uG, uG, H', ⟨Nat.le_refl _⟩, ⟨uI⟩, ⟨uB⟩⟩
 case round =>
  clear H'
  obtain ⟨x5_1, x6_1, x7_1, rfl, rfl, HA, HK1, HO_5, HB⟩ := hrel
  cases gk with
  | zero => exact absurd HA.out (by simp [windbreakref01_sub.l0])
  | succ k1 =>
   have H := HA.out
   clear HA
   simp only [windbreakref01_sub.l0] at H
   by_cases c3 : x7_1 < (l0.length : Int)
   ·
    rw [if_pos c3] at H
    have c3b0 := decide_eq_true c3
    clear c3
    replace H := uT H; obtain ⟨c4, H⟩ := H
    have c4b0 := decide_eq_true c4
    clear c4
    replace H := ub H; obtain ⟨t543, A5, H⟩ := H
    replace H := uT H; obtain ⟨c6, H⟩ := H
    have LMc6 := Aside0.mk c6; clear c6
    obtain ⟨y544, hy544⟩ : ∃ y_ : List Int, y_ = (x5_1 ++ [Int.tmod (IntKind.u64.wrap ((IntKind.u64.wrap ((IntKind.u64.wrap (65536 + (rd l0 x7_1))) - t543)) - x6_1)) 65536]) := ⟨_, rfl⟩
    replace H : (windbreakref01_sub.l0 k1 l0 l1 y544 (IntKind.u64.wrap (1 - (IntKind.u64.wrap (Int.tdiv (IntKind.u64.wrap ((IntKind.u64.wrap ((IntKind.u64.wrap (65536 + (rd l0 x7_1))) - t543)) - x6_1)) 65536)))) (wrap64 (x7_1 + 1))) = some r := by first | (rw [hy544]; with_reducible exact H) | (have H2_ := (Option.bind_some _ _).symm.trans H; rw [hy544]; with_reducible exact H2_) | (have H2_ := (Option.bind_some _ _).symm.trans H; with_reducible exact H2_) | with_reducible exact H | (rw [hy544]; exact H) | exact H
    have Ny544 := Aside0.mk hy544; clear hy544
    have H' := Aside0.mk H
    clear H
    have p542 : 0 ≤ (x7_1 : Int) := uO
    have q542 : x7_1 < (l0.length : Int) := uO
    obtain ⟨ad542, e542, hx542_0⟩ := Kd.at_int HR0.out x7_1 p542 q542
    cases e542
    replace hx542_0 := (HB.out.cell (World.block_lt_of_cell? w _ hx542_0)).trans hx542_0
    replace p542 := eq_true p542
    replace q542 := eq_true q542
    go_wp2_with (first | (go_at_call 59; (with_reducible refine (windbreakref01_digit.calls _ _ l1 x7_1 t543 _ ?side1 ?side2 A5.out).mono ?_); (case side1 => exact uC (Kd.C_below HR1.out HB.out)); (case side2 => exact HC1.out); rintro e w' ⟨rfl, ⟨nd, rfl⟩⟩; (try first | exact ⟨rfl, _, World.drewN_drewN _ _ _⟩ | exact ⟨rfl, _, Eq.trans (World.drewN_drewN _ _ _) (congrArg (World.drewN _) (Nat.add_assoc _ _ _))⟩)) | ((with_reducible refine gate_builtin (b := .append) (xs := #[.tmp 26, .tmp 29]) rfl ?_); at_builtin; refine Kd.R_append (Kd.int .u64) (w0 := w) w.heap.size rfl (.tmp 26) (.tmp 29) 62 42 (.int .u64 0) 8 rfl Try.underlying62 info42 rfl (by decide) (by omega) u5 x5_1 (Int.tmod (IntKind.u64.wrap ((IntKind.u64.wrap ((IntKind.u64.wrap (65536 + (rd l0 x7_1))) - t543)) - x6_1)) 65536) [.int .u64 (Int.tmod (IntKind.u64.wrap ((IntKind.u64.wrap ((IntKind.u64.wrap (65536 + (rd l0 x7_1))) - t543)) - x6_1)) 65536)] (fun _ => True) (fun _ => False) rfl rfl ?aP (fun _ hk => hk.elim) ?aF ?aO ?aB ?aS ?aL ?_; (case aP => exact rfl); (case aB => exact uB); (case aF => exact (fun _ _ => trivial)); (case aO => exact (uR HO_5.out)); (case aS => exact (below_size uB)); (case aL => have := LMc6.out; omega); intro v545 w7 ho hb hg hat; rw [← Ny544.out] at ho; replace HB := Aside0.mk (hb); have HO546 := Aside0.mk (ho); clear HO_5; clear ho hb hg hat))
    repeat (go_quiet (first | (go_at_call 59; (with_reducible refine (windbreakref01_digit.calls _ _ l1 x7_1 t543 _ ?side1 ?side2 A5.out).mono ?_); (case side1 => exact uC (Kd.C_below HR1.out HB.out)); (case side2 => exact HC1.out); rintro e w' ⟨rfl, ⟨nd, rfl⟩⟩; (try first | exact ⟨rfl, _, World.drewN_drewN _ _ _⟩ | exact ⟨rfl, _, Eq.trans (World.drewN_drewN _ _ _) (congrArg (World.drewN _) (Nat.add_assoc _ _ _))⟩)) | ((with_reducible refine gate_builtin (b := .append) (xs := #[.tmp 26, .tmp 29]) rfl ?_); at_builtin; refine Kd.R_append (Kd.int .u64) (w0 := w) w.heap.size rfl (.tmp 26) (.tmp 29) 62 42 (.int .u64 0) 8 rfl Try.underlying62 info42 rfl (by decide) (by omega) u5 x5_1 (Int.tmod (IntKind.u64.wrap ((IntKind.u64.wrap ((IntKind.u64.wrap (65536 + (rd l0 x7_1))) - t543)) - x6_1)) 65536) [.int .u64 (Int.tmod (IntKind.u64.wrap ((IntKind.u64.wrap ((IntKind.u64.wrap (65536 + (rd l0 x7_1))) - t543)) - x6_1)) 65536)] (fun _ => True) (fun _ => False) rfl rfl ?aP (fun _ hk => hk.elim) ?aF ?aO ?aB ?aS ?aL ?_; (case aP => exact rfl); (case aB => exact uB); (case aF => exact (fun _ _ => trivial)); (case aO => exact (uR HO_5.out)); (case aS => exact (below_size uB)); (case aL => have := LMc6.out; omega); intro v545 w7 ho hb hg hat; rw [← Ny544.out] at ho; replace HB := Aside0.mk (hb); have HO546 := Aside0.mk (ho); clear HO_5; clear ho hb hg hat)); try go_wp2_with (first | (go_at_call 59; (with_reducible refine (windbreakref01_digit.calls _ _ l1 x7_1 t543 _ ?side1 ?side2 A5.out).mono ?_); (case side1 => exact uC (Kd.C_below HR1.out HB.out)); (case side2 => exact HC1.out); rintro e w' ⟨rfl, ⟨nd, rfl⟩⟩; (try first | exact ⟨rfl, _, World.drewN_drewN _ _ _⟩ | exact ⟨rfl, _, Eq.trans (World.drewN_drewN _ _ _) (congrArg (World.drewN _) (Nat.add_assoc _ _ _))⟩)) | ((with_reducible refine gate_builtin (b := .append) (xs := #[.tmp 26, .tmp 29]) rfl ?_); at_builtin; refine Kd.R_append (Kd.int .u64) (w0 := w) w.heap.size rfl (.tmp 26) (.tmp 29) 62 42 (.int .u64 0) 8 rfl Try.underlying62 info42 rfl (by decide) (by omega) u5 x5_1 (Int.tmod (IntKind.u64.wrap ((IntKind.u64.wrap ((IntKind.u64.wrap (65536 + (rd l0 x7_1))) - t543)) - x6_1)) 65536) [.int .u64 (Int.tmod (IntKind.u64.wrap ((IntKind.u64.wrap ((IntKind.u64.wrap (65536 + (rd l0 x7_1))) - t543)) - x6_1)) 65536)] (fun _ => True) (fun _ => False) rfl rfl ?aP (fun _ hk => hk.elim) ?aF ?aO ?aB ?aS ?aL ?_; (case aP => exact rfl); (case aB => exact uB); (case aF => exact (fun _ _ => trivial)); (case aO => exact (uR HO_5.out)); (case aS => exact (below_size uB)); (case aL => have := LMc6.out; omega); intro v545 w7 ho hb hg hat; rw [← Ny544.out] at ho; replace HB := Aside0.mk (hb); have HO546 := Aside0.mk (ho); clear HO_5; clear ho hb hg hat)))
    go_roundg k1
    case measure => have := HK1.out; omega
    case rel => exact ⟨(y544), (IntKind.u64.wrap (1 - (IntKind.u64.wrap (Int.tdiv (IntKind.u64.wrap ((IntKind.u64.wrap ((IntKind.u64.wrap (65536 + (rd l0 x7_1))) - t543)) - x6_1)) 65536)))), (wrap64 (x7_1 + 1)), uG, uG, H', ⟨by have := HK1.out; omega⟩, ⟨uR HO546.out⟩, ⟨uB⟩⟩
   rw [if_neg c3] at H
   have c3b0 := decide_eq_false c3
   clear c3
   replace H := ub H; obtain ⟨t547, A8, H⟩ := H
   obtain rfl := Option.some.inj H
   obtain ⟨Ao9, co9, eo9⟩ := Kd.R_slice HO_5.out
   subst eo9
   go_wp2_with (first | (go_at_call 60; (with_reducible refine (windbreakref01_cut.calls k1 (fun k_ => some k_ = (.slice Ao9 x5_1.length co9 : Value).ownBlock) (.slice Ao9 x5_1.length co9) x5_1 t547 w _ ?side1 ?side2 A8.out).mono ?_); (case side1 => repeat (first | (with_reducible first | exact HB.out | apply below_alloc | apply pw_below_drewN | apply below_drew1) | exact HB.out)); (case side2 => exact Kd.R_tight rfl HO_5.out); rintro e w10 ⟨v548, rfl, ho0, hb, hkp⟩; have HO549 := Aside0.mk (Kd.R_mono (ok' := fun k_ => True) ho0 (fun k_ hk_ => trivial)); replace HB := Aside0.mk (hb); clear HO_5; (try clear hb); (try clear hkp); (try clear ho0)))
   repeat (go_quiet (first | (go_at_call 60; (with_reducible refine (windbreakref01_cut.calls k1 (fun k_ => some k_ = (.slice Ao9 x5_1.length co9 : Value).ownBlock) (.slice Ao9 x5_1.length co9) x5_1 t547 w _ ?side1 ?side2 A8.out).mono ?_); (case side1 => repeat (first | (with_reducible first | exact HB.out | apply below_alloc | apply pw_below_drewN | apply below_drew1) | exact HB.out)); (case side2 => exact Kd.R_tight rfl HO_5.out); rintro e w10 ⟨v548, rfl, ho0, hb, hkp⟩; have HO549 := Aside0.mk (Kd.R_mono (ok' := fun k_ => True) ho0 (fun k_ hk_ => trivial)); replace HB := Aside0.mk (hb); clear HO_5; (try clear hb); (try clear hkp); (try clear ho0))); try go_wp2_with (first | (go_at_call 60; (with_reducible refine (windbreakref01_cut.calls k1 (fun k_ => some k_ = (.slice Ao9 x5_1.length co9 : Value).ownBlock) (.slice Ao9 x5_1.length co9) x5_1 t547 w _ ?side1 ?side2 A8.out).mono ?_); (case side1 => repeat (first | (with_reducible first | exact HB.out | apply below_alloc | apply pw_below_drewN | apply below_drew1) | exact HB.out)); (case side2 => exact Kd.R_tight rfl HO_5.out); rintro e w10 ⟨v548, rfl, ho0, hb, hkp⟩; have HO549 := Aside0.mk (Kd.R_mono (ok' := fun k_ => True) ho0 (fun k_ hk_ => trivial)); replace HB := Aside0.mk (hb); clear HO_5; (try clear hb); (try clear hkp); (try clear ho0))))
   go_ret
   exact ⟨_, uF, uR HO549.out, uB⟩
def windbreakref01_Sub.j0 : Nat → List Int → List Int → Bool → Option (List Int × Int)
 | 0, _, _, _ => none
 | k + 1, x0, x1, x19 => if x19 = true then (some (([] : List Int), 1)) else ((windbreakref01_In.f k x0).bind fun t552 => ((windbreakref01_In.f k x1).bind fun t555 => ((windbreakref01_compare.f k t552 t555).bind fun t558 => (if t558 < 0 then (some (([] : List Int), 2)) else ((windbreakref01_sub.f k t552 t555).bind fun t559 => ((windbreakref01_told.f k t559).bind fun bt562 => (some (bt562.1, bt562.2))))))))
def windbreakref01_Sub.f (k : Nat) (l0 : List Int) (l1 : List Int) : Option (List Int × Int) := (windbreakref01_Right.f l0).bind fun t550 => ((windbreakref01_Right.f l1).bind fun t551 => (if t550 = true then (windbreakref01_Sub.j0 k l0 l1 (!t551)) else (windbreakref01_Sub.j0 k l0 l1 true)))
theorem windbreakref01_Sub.calls (k : Nat) (A0 : Option Addr) (c0 : Nat) (l0 : List Int) (A1 : Option Addr) (c1 : Nat) (l1 : List Int) (r1 : List Int) (r2 : Int) (w : World) (hr0 : Kd.C (Kd.int .u64) w A0 l0.length l0) (hc0 : l0.length ≤ c0) (hr1 : Kd.C (Kd.int .u64) w A1 l1.length l1) (hc1 : l1.length ≤ c1) (h : windbreakref01_Sub.f k l0 l1 = some (r1, r2)) :
  Calls Try.prog 51 #[.slice A0 l0.length c0, .slice A1 l1.length c1] w fun e w' => ∃ v0_ : Value, e = .returned (.tuple #[v0_, .int .i64 r2]) ∧ Kd.R (Kd.int .u64) 42 w' w.heap.size (fun _ => True) v0_ r1 ∧ Below w.heap.size w w' := by
 have HR0 := Aside0.mk hr0; have HC0 := Aside0.mk hc0; clear hr0 hc0; have HR1 := Aside0.mk hr1; have HC1 := Aside0.mk hc1; clear hr1 hc1
 have HB := Aside0.mk (Below.refl w.heap.size w)
 have H : ((windbreakref01_Right.f l0).bind fun t550 => ((windbreakref01_Right.f l1).bind fun t551 => (if t550 = true then (windbreakref01_Sub.j0 k l0 l1 (!t551)) else (windbreakref01_Sub.j0 k l0 l1 true)))) = some (r1, r2) := h
 clear h
 replace H := ub H; obtain ⟨t550, A3, H⟩ := H
 replace H := ub H; obtain ⟨t551, A4, H⟩ := H
 have HC5 := Aside0.mk H; clear H
 go_enter Try.func51, Try.ntmps51
 go_upto_region 3 with (first | ((with_reducible refine ug 31 rfl ?_); refine uh (some 11) rfl Try.func31 #[.slice A0 l0.length c0] ?_; (with_reducible refine (windbreakref01_Right.calls _ _ l0 t550 _ ?side1 ?side2 A3.out).mono ?_); (case side1 => exact uC HR0.out); (case side2 => exact HC0.out); rintro e w' ⟨rfl, ⟨nd, rfl⟩⟩; refine ⟨_, rfl, ?_⟩) | ((with_reducible refine ug 31 rfl ?_); refine uh (some 13) rfl Try.func31 #[.slice A1 l1.length c1] ?_; (with_reducible refine (windbreakref01_Right.calls _ _ l1 t551 _ ?side1 ?side2 A4.out).mono ?_); (case side1 => exact uC HR1.out); (case side2 => exact HC1.out); rintro e w' ⟨rfl, ⟨nd, rfl⟩⟩; refine ⟨_, rfl, ?_⟩))
 (try simp only [Act.put, List.setIfInBounds_toArray, List.set_cons_zero, List.set_cons_succ])
 go_cut [19] (fun v19 wc => ∃ (kq : Nat) (x19_4 : Bool), v19 = .bool x19_4 ∧ Aside0 (windbreakref01_Sub.j0 kq l0 l1 x19_4 = some (r1, r2)) ∧ Aside0 (kq ≤ k) ∧ Aside0 (Below w.heap.size w wc))
 case first =>
  have H := HC5.out
  clear HC5
  by_cases c6 : t550 = true
  ·
   subst c6
   have H1 : (windbreakref01_Sub.j0 k l0 l1 (!t551)) = some (r1, r2) := by rw [if_pos rfl] at H; exact H
   clear H; have H := H1; clear H1
   have H' := Aside0.mk H
   clear H
   go_wp2
   go_meet
   case rel => exact ⟨_, (!t551), uG, H', ⟨uW⟩, ⟨uB⟩⟩
  replace c6 := Bool.eq_false_iff.mpr c6
  subst c6
  have H1 : (windbreakref01_Sub.j0 k l0 l1 true) = some (r1, r2) := by rw [if_neg (show ¬ (false = true) by decide)] at H; exact H
  clear H; have H := H1; clear H1
  have H' := Aside0.mk H
  clear H
  go_wp2
  go_meet
  case rel => exact ⟨_, (true), uG, H', ⟨uW⟩, ⟨uB⟩⟩
 case rest =>
  clear HC5
  obtain ⟨kq, x19_4, rfl, HA, HJ4, HB⟩ := hcut
  cases kq with
  | zero => exact absurd HA.out (by simp [windbreakref01_Sub.j0])
  | succ kj4 =>
   have H := HA.out
   clear HA
   simp only [windbreakref01_Sub.j0] at H
   by_cases c7 : x19_4 = true
   ·
    subst c7
    have H1 : (some (([] : List Int), 1)) = some (r1, r2) := by rw [if_pos rfl] at H; exact H
    clear H; have H := H1; clear H1
    simp only [Option.some.injEq, Prod.mk.injEq] at H
    obtain ⟨rfl, rfl⟩ := H
    go_wp2
    go_ret2
    exact ⟨_, uF, uI, uB⟩
   replace c7 := Bool.eq_false_iff.mpr c7
   subst c7
   have H1 : ((windbreakref01_In.f kj4 l0).bind fun t552 => ((windbreakref01_In.f kj4 l1).bind fun t555 => ((windbreakref01_compare.f kj4 t552 t555).bind fun t558 => (if t558 < 0 then (some (([] : List Int), 2)) else ((windbreakref01_sub.f kj4 t552 t555).bind fun t559 => ((windbreakref01_told.f kj4 t559).bind fun bt562 => (some (bt562.1, bt562.2)))))))) = some (r1, r2) := by rw [if_neg (show ¬ (false = true) by decide)] at H; exact H
   clear H; have H := H1; clear H1
   replace H := ub H; obtain ⟨t552, A8, H⟩ := H
   replace H := ub H; obtain ⟨t555, A9, H⟩ := H
   replace H := ub H; obtain ⟨t558, A10, H⟩ := H
   by_cases c11 : t558 < 0
   ·
    rw [if_pos c11] at H
    have c11b0 := decide_eq_true c11
    clear c11
    simp only [Option.some.injEq, Prod.mk.injEq] at H
    obtain ⟨rfl, rfl⟩ := H
    go_wp2_with (first | ((with_reducible refine ug 34 rfl ?_); refine uh (some 21) rfl Try.func34 #[.slice A0 l0.length c0] ?_; (with_reducible refine (windbreakref01_In.calls kj4 _ _ l0 t552 _ ?side1 ?side2 A8.out).mono ?_); (case side1 => exact uC (Kd.C_below HR0.out HB.out)); (case side2 => exact HC0.out); rintro e w12 ⟨v553, rfl, ho0, hb⟩; refine ⟨_, rfl, ?_⟩; have HO554 := ulo ho0; replace HB := uy hb; (try clear hb ho0)) | ((with_reducible refine ug 34 rfl ?_); refine uh (some 23) rfl Try.func34 #[.slice A1 l1.length c1] ?_; (with_reducible refine (windbreakref01_In.calls kj4 _ _ l1 t555 _ ?side1 ?side2 A9.out).mono ?_); (case side1 => exact uC (Kd.C_below HR1.out HB.out)); (case side2 => exact HC1.out); rintro e w13 ⟨v556, rfl, ho0, hb⟩; refine ⟨_, rfl, ?_⟩; have HO557 := ulo (unw ho0 HO554); replace HO554 := ueR HO554 ho0 hb; replace HB := uy hb; (try clear hb ho0); obtain ⟨Ao14, co14, eo14⟩ := Kd.R_slice HO554.out; subst eo14; obtain ⟨Ao15, co15, eo15⟩ := Kd.R_slice HO557.out; subst eo15) | ((with_reducible refine ug 74 rfl ?_); refine uh (some 26) rfl Try.func74 #[.slice Ao14 t552.length co14, .slice Ao15 t555.length co15] ?_; (with_reducible refine (windbreakref01_compare.calls kj4 _ _ t552 _ _ t555 t558 _ ?side1 ?side2 ?side3 ?side4 A10.out).mono ?_); (case side1 => exact uC (Kd.R_reads' HO554.out).2.2); (case side2 => exact (Kd.R_reads' HO554.out).2.1); (case side3 => exact uC (Kd.R_reads' HO557.out).2.2); (case side4 => exact (Kd.R_reads' HO557.out).2.1); rintro e w' ⟨rfl, ⟨nd, rfl⟩⟩; refine ⟨_, rfl, ?_⟩))
    go_ret2
    exact ⟨_, uF, uI, uB⟩
   rw [if_neg c11] at H
   have c11b0 := decide_eq_false c11
   clear c11
   replace H := ub H; obtain ⟨t559, A16, H⟩ := H
   replace H := ub H; obtain ⟨⟨t562, t563⟩, A17, H⟩ := H
   (try dsimp only at H)
   simp only [Option.some.injEq, Prod.mk.injEq] at H
   obtain ⟨rfl, rfl⟩ := H
   go_wp2_with (first | ((with_reducible refine ug 34 rfl ?_); refine uh (some 21) rfl Try.func34 #[.slice A0 l0.length c0] ?_; (with_reducible refine (windbreakref01_In.calls kj4 _ _ l0 t552 _ ?side1 ?side2 A8.out).mono ?_); (case side1 => exact uC (Kd.C_below HR0.out HB.out)); (case side2 => exact HC0.out); rintro e w18 ⟨v553, rfl, ho0, hb⟩; refine ⟨_, rfl, ?_⟩; have HO554 := ulo ho0; replace HB := uy hb; (try clear hb ho0)) | ((with_reducible refine ug 34 rfl ?_); refine uh (some 23) rfl Try.func34 #[.slice A1 l1.length c1] ?_; (with_reducible refine (windbreakref01_In.calls kj4 _ _ l1 t555 _ ?side1 ?side2 A9.out).mono ?_); (case side1 => exact uC (Kd.C_below HR1.out HB.out)); (case side2 => exact HC1.out); rintro e w19 ⟨v556, rfl, ho0, hb⟩; refine ⟨_, rfl, ?_⟩; have HO557 := ulo (unw ho0 HO554); replace HO554 := ueR HO554 ho0 hb; replace HB := uy hb; (try clear hb ho0); obtain ⟨Ao20, co20, eo20⟩ := Kd.R_slice HO554.out; subst eo20; obtain ⟨Ao21, co21, eo21⟩ := Kd.R_slice HO557.out; subst eo21) | ((with_reducible refine ug 74 rfl ?_); refine uh (some 26) rfl Try.func74 #[.slice Ao20 t552.length co20, .slice Ao21 t555.length co21] ?_; (with_reducible refine (windbreakref01_compare.calls kj4 _ _ t552 _ _ t555 t558 _ ?side1 ?side2 ?side3 ?side4 A10.out).mono ?_); (case side1 => exact uC (Kd.R_reads' HO554.out).2.2); (case side2 => exact (Kd.R_reads' HO554.out).2.1); (case side3 => exact uC (Kd.R_reads' HO557.out).2.2); (case side4 => exact (Kd.R_reads' HO557.out).2.1); rintro e w' ⟨rfl, ⟨nd, rfl⟩⟩; refine ⟨_, rfl, ?_⟩) | ((with_reducible refine ug 76 rfl ?_); refine uh (some 30) rfl Try.func76 #[.slice Ao20 t552.length co20, .slice Ao21 t555.length co21] ?_; (with_reducible refine (windbreakref01_sub.calls kj4 _ _ t552 _ _ t555 t559 _ ?side1 ?side2 ?side3 ?side4 A16.out).mono ?_); (case side1 => exact uC (Kd.R_reads' HO554.out).2.2); (case side2 => exact (Kd.R_reads' HO554.out).2.1); (case side3 => exact uC (Kd.R_reads' HO557.out).2.2); (case side4 => exact (Kd.R_reads' HO557.out).2.1); rintro e w22 ⟨v560, rfl, ho0, hb⟩; refine ⟨_, rfl, ?_⟩; have HO561 := ulo (unw (unw ho0 HO554) HO557); replace HO554 := ueR HO554 ho0 hb; replace HO557 := ueR HO557 ho0 hb; replace HB := uy hb; (try clear hb ho0); obtain ⟨Ao23, co23, eo23⟩ := Kd.R_slice HO561.out; subst eo23) | ((with_reducible refine ug 32 rfl ?_); refine uh (some 31) rfl Try.func32 #[.slice Ao23 t559.length co23] ?_; (with_reducible refine (windbreakref01_told.calls kj4 _ _ t559 t562 t563 _ ?side1 ?side2 A17.out).mono ?_); (case side1 => exact uC (Kd.R_reads' HO561.out).2.2); (case side2 => exact (Kd.R_reads' HO561.out).2.1); rintro e w24 ⟨v564, rfl, ho0, hb⟩; refine ⟨_, rfl, ?_⟩; have HO565 := ulo (unw (unw (unw ho0 HO554) HO557) HO561); replace HO554 := ueR HO554 ho0 hb; replace HO557 := ueR HO557 ho0 hb; replace HO561 := ueR HO561 ho0 hb; replace HB := uy hb; (try clear hb ho0)))
   go_ret2
   exact ⟨_, uF, by exact uR (Kd.R_mono HO565.out (fun _ hk => trivial)), uB⟩
mutual
def windbreakref01_mul.l0 : Nat → List Int → List Int → List Int → Int → Option (List Int)
 | 0, _, _, _, _ => none
 | k + 1, x0, x1, x5, x6 => if x6 < (x0.length : Int) then (windbreakref01_mul.l1 k x0 x1 x5 x6 0 0) else ((windbreakref01_cut.f k x5).bind fun t569 => (some t569))
def windbreakref01_mul.l1 : Nat → List Int → List Int → List Int → Int → Int → Int → Option (List Int)
 | 0, _, _, _, _, _, _ => none
 | k + 1, x0, x1, x5, x6, x7, x8 => if x8 < (x1.length : Int) then (if 0 ≤ (wrap64 (x6 + x8)) then (if (wrap64 (x6 + x8)) < (x5.length : Int) then (if 0 ≤ x6 then (if x6 < (x0.length : Int) then (if 0 ≤ x8 then (windbreakref01_mul.l1 k x0 x1 (x5.set ((wrap64 (x6 + x8)) : Int).toNat (Int.tmod (IntKind.u64.wrap ((IntKind.u64.wrap ((rd x5 (wrap64 (x6 + x8))) + (IntKind.u64.wrap ((rd x0 x6) * (rd x1 x8))))) + x7)) 65536)) x6 (IntKind.u64.wrap (Int.tdiv (IntKind.u64.wrap ((IntKind.u64.wrap ((rd x5 (wrap64 (x6 + x8))) + (IntKind.u64.wrap ((rd x0 x6) * (rd x1 x8))))) + x7)) 65536)) (wrap64 (x8 + 1))) else (none)) else (none)) else (none)) else (none)) else (none)) else (if 0 ≤ (wrap64 (x6 + (x1.length : Int))) then (if (wrap64 (x6 + (x1.length : Int))) < (x5.length : Int) then (windbreakref01_mul.l0 k x0 x1 (x5.set ((wrap64 (x6 + (x1.length : Int))) : Int).toNat x7) (wrap64 (x6 + 1))) else (none)) else (none))
end
def windbreakref01_mul.f (k : Nat) (l0 : List Int) (l1 : List Int) : Option (List Int) := if 0 ≤ (wrap64 ((l0.length : Int) + (l1.length : Int))) then (if (wrap64 ((l0.length : Int) + (l1.length : Int)) : Int).toNat ≤ 35184372088832 then (windbreakref01_mul.l0 k l0 l1 (List.replicate (wrap64 ((l0.length : Int) + (l1.length : Int)) : Int).toNat 0) 0) else (none)) else (none)
theorem windbreakref01_mul.calls (k : Nat) (A0 : Option Addr) (c0 : Nat) (l0 : List Int) (A1 : Option Addr) (c1 : Nat) (l1 : List Int) (r : List Int) (w : World) (hr0 : Kd.C (Kd.int .u64) w A0 l0.length l0) (hc0 : l0.length ≤ c0) (hr1 : Kd.C (Kd.int .u64) w A1 l1.length l1) (hc1 : l1.length ≤ c1) (h : windbreakref01_mul.f k l0 l1 = some r) :
  Calls Try.prog 77 #[.slice A0 l0.length c0, .slice A1 l1.length c1] w fun e w' => ∃ v0_ : Value, e = .returned (v0_) ∧ Kd.R (Kd.int .u64) 42 w' w.heap.size (fun _ => True) v0_ r ∧ Below w.heap.size w w' := by
 have HR0 := Aside0.mk hr0; have HC0 := Aside0.mk hc0; clear hr0 hc0; have HR1 := Aside0.mk hr1; have HC1 := Aside0.mk hc1; clear hr1 hc1
 have HB := Aside0.mk (Below.refl w.heap.size w)
 have H : (if 0 ≤ (wrap64 ((l0.length : Int) + (l1.length : Int))) then (if (wrap64 ((l0.length : Int) + (l1.length : Int)) : Int).toNat ≤ 35184372088832 then (windbreakref01_mul.l0 k l0 l1 (List.replicate (wrap64 ((l0.length : Int) + (l1.length : Int)) : Int).toNat 0) 0) else (none)) else (none)) = some r := h
 clear h
 obtain ⟨ji3, hji3⟩ : ∃ j_ : Int, (wrap64 ((l0.length : Int) + (l1.length : Int))) = j_ := ⟨_, rfl⟩
 first | rw [hji3] at H | simp only [hji3] at H
 have hji3w : (IntKind.i64.wrap ((l0.length : Int) + (l1.length : Int))) = ji3 := (i64_w _).trans hji3
 replace H := uT H; obtain ⟨c4, H⟩ := H
 have c4b0 := eq_true c4
 have c4b1 := decide_eq_true c4
 clear c4
 replace H := uT H; obtain ⟨c5, H⟩ := H
 have c5b0 := eq_true c5
 have c5b1 := decide_eq_true c5
 clear c5
 obtain ⟨y566, hy566⟩ : ∃ y_ : List Int, y_ = (List.replicate (ji3 : Int).toNat 0) := ⟨_, rfl⟩
 replace H : (windbreakref01_mul.l0 k l0 l1 y566 0) = some r := by first | (rw [hy566]; with_reducible exact H) | (have H2_ := (Option.bind_some _ _).symm.trans H; rw [hy566]; with_reducible exact H2_) | (have H2_ := (Option.bind_some _ _).symm.trans H; with_reducible exact H2_) | with_reducible exact H | (rw [hy566]; exact H) | exact H
 have Ny566 := Aside0.mk hy566; clear hy566
 have H' := Aside0.mk H
 clear H
 go_enter Try.func77, Try.ntmps77
 go_wp2_with (first | ((with_reducible refine gate_dst (N := 15) rfl ?_); refine Kd.R_make (Kd.int .u64) _ 42 rfl (N := 15) rfl 62 _ _ rfl ji3 rfl rfl Try.underlying62 (.int .u64 0) 8 info42 rfl (by decide) (by omega) 0 (ok := fun _ => True) (okp := fun _ => True) rfl (fun _ hk => hk) trivial uO (Nat.le_trans (Nat.mul_le_mul_right _ (uO : ji3.toNat ≤ 35184372088832)) (by omega)) (Below.refl _ _) (Nat.le_refl _) ?_; intro v567 w6 ho7 hb hg_ hnew_; clear hg_ hnew_; (first | rw [← Ny566.out] at ho7 | (simp only [Int.reduceToNat] at ho7; rw [← Ny566.out] at ho7)); have HO568 := ulo ho7; replace HB := uy hb; clear hb ho7))
 repeat (go_quiet (first | ((with_reducible refine gate_dst (N := 15) rfl ?_); refine Kd.R_make (Kd.int .u64) _ 42 rfl (N := 15) rfl 62 _ _ rfl ji3 rfl rfl Try.underlying62 (.int .u64 0) 8 info42 rfl (by decide) (by omega) 0 (ok := fun _ => True) (okp := fun _ => True) rfl (fun _ hk => hk) trivial uO (Nat.le_trans (Nat.mul_le_mul_right _ (uO : ji3.toNat ≤ 35184372088832)) (by omega)) (Below.refl _ _) (Nat.le_refl _) ?_; intro v567 w6 ho7 hb hg_ hnew_; clear hg_ hnew_; (first | rw [← Ny566.out] at ho7 | (simp only [Int.reduceToNat] at ho7; rw [← Ny566.out] at ho7)); have HO568 := ulo ho7; replace HB := uy hb; clear hb ho7)); try go_wp2_with (first | ((with_reducible refine gate_dst (N := 15) rfl ?_); refine Kd.R_make (Kd.int .u64) _ 42 rfl (N := 15) rfl 62 _ _ rfl ji3 rfl rfl Try.underlying62 (.int .u64 0) 8 info42 rfl (by decide) (by omega) 0 (ok := fun _ => True) (okp := fun _ => True) rfl (fun _ hk => hk) trivial uO (Nat.le_trans (Nat.mul_le_mul_right _ (uO : ji3.toNat ≤ 35184372088832)) (by omega)) (Below.refl _ _) (Nat.le_refl _) ?_; intro v567 w6 ho7 hb hg_ hnew_; clear hg_ hnew_; (first | rw [← Ny566.out] at ho7 | (simp only [Int.reduceToNat] at ho7; rw [← Ny566.out] at ho7)); have HO568 := ulo ho7; replace HB := uy hb; clear hb ho7)))
 go_loopg [6] k (fun kq v6 w' => ∃ (x5_1 : List Int) (x6_1 : Int), v6 = .int .i64 x6_1 ∧ Aside0 (windbreakref01_mul.l0 kq l0 l1 x5_1 x6_1 = some r) ∧ Aside0 (kq ≤ k) ∧ Aside0 (Kd.R (Kd.int .u64) 42 w' w.heap.size (fun _ => True) v567 x5_1) ∧ Aside0 (Below w.heap.size w w'))
 case atStart => exact ⟨(y566), (0), uG, H', ⟨Nat.le_refl _⟩, ⟨uR HO568.out⟩, ⟨uB⟩⟩
 case round =>
  clear H'
  obtain ⟨x5_1, x6_1, rfl, HA, HK1, HO_5, HB⟩ := hrel
  cases gk with
  | zero => exact absurd HA.out (by simp [windbreakref01_mul.l0])
  | succ k1 =>
   have H := HA.out
   clear HA
   simp only [windbreakref01_mul.l0] at H
   by_cases c8 : x6_1 < (l0.length : Int)
   ·
    rw [if_pos c8] at H
    have c8b0 := decide_eq_true c8
    clear c8
    have H' := Aside0.mk H
    clear H
    go_wp2
    repeat (go_quiet (fail); try go_wp2)
    go_loopg [7, 8] k1 (fun kq v7 v8 w' => ∃ (x5_2 : List Int) (x7_2 : Int) (x8_2 : Int), v7 = .int .u64 x7_2 ∧ v8 = .int .i64 x8_2 ∧ Aside0 (windbreakref01_mul.l1 kq l0 l1 x5_2 x6_1 x7_2 x8_2 = some r) ∧ Aside0 (kq ≤ k1) ∧ Aside0 (Kd.R (Kd.int .u64) 42 w' w.heap.size (fun _ => True) v567 x5_2) ∧ Aside0 (Below w.heap.size w w'))
    case atStart => exact ⟨(x5_1), (0), (0), uG, uG, H', ⟨Nat.le_refl _⟩, ⟨uR HO_5.out⟩, ⟨uB⟩⟩
    case round =>
     clear H'
     obtain ⟨x5_2, x7_2, x8_2, rfl, rfl, HA, HK2, HO_5, HB⟩ := hrel
     cases gk with
     | zero => exact absurd HA.out (by simp [windbreakref01_mul.l1])
     | succ k2 =>
      have H := HA.out
      clear HA
      simp only [windbreakref01_mul.l1] at H
      by_cases c9 : x8_2 < (l1.length : Int)
      ·
       rw [if_pos c9] at H
       have c9b0 := decide_eq_true c9
       clear c9
       obtain ⟨ji10, hji10⟩ : ∃ j_ : Int, (wrap64 (x6_1 + x8_2)) = j_ := ⟨_, rfl⟩
       first | rw [hji10] at H | simp only [hji10] at H
       have hji10w : (IntKind.i64.wrap (x6_1 + x8_2)) = ji10 := (i64_w _).trans hji10
       replace H := uT H; obtain ⟨c11, H⟩ := H
       have c11b0 := decide_eq_true c11
       clear c11
       replace H := uT H; obtain ⟨c12, H⟩ := H
       have c12b0 := decide_eq_true c12
       clear c12
       replace H := uT H; obtain ⟨c13, H⟩ := H
       have c13b0 := decide_eq_true c13
       clear c13
       replace H := uT H; obtain ⟨c14, H⟩ := H
       have c14b0 := decide_eq_true c14
       clear c14
       replace H := uT H; obtain ⟨c15, H⟩ := H
       have c15b0 := decide_eq_true c15
       clear c15
       obtain ⟨y575, hy575⟩ : ∃ y_ : List Int, y_ = (x5_2.set ((ji10) : Int).toNat (Int.tmod (IntKind.u64.wrap ((IntKind.u64.wrap ((rd x5_2 (ji10)) + (IntKind.u64.wrap ((rd l0 x6_1) * (rd l1 x8_2))))) + x7_2)) 65536)) := ⟨_, rfl⟩
       replace H : (windbreakref01_mul.l1 k2 l0 l1 y575 x6_1 (IntKind.u64.wrap (Int.tdiv (IntKind.u64.wrap ((IntKind.u64.wrap ((rd x5_2 (ji10)) + (IntKind.u64.wrap ((rd l0 x6_1) * (rd l1 x8_2))))) + x7_2)) 65536)) (wrap64 (x8_2 + 1))) = some r := by first | (rw [hy575]; with_reducible exact H) | (have H2_ := (Option.bind_some _ _).symm.trans H; rw [hy575]; with_reducible exact H2_) | (have H2_ := (Option.bind_some _ _).symm.trans H; with_reducible exact H2_) | with_reducible exact H | (rw [hy575]; exact H) | exact H
       have Ny575 := Aside0.mk hy575; clear hy575
       have H' := Aside0.mk H
       clear H
       obtain ⟨Ao17, co17, eo17⟩ := Kd.R_slice HO_5.out
       subst eo17
       have p572 := eq_true (uO : 0 ≤ ((ji10) : Int))
       have q572 := eq_true (uO : (ji10) < (x5_2.length : Int))
       obtain ⟨ad572, e572, hx572_0⟩ := Kd.at_int (Kd.R_reads' HO_5.out).2.2 (ji10) uO uO
       cases e572
       have p573 : 0 ≤ (x6_1 : Int) := uO
       have q573 : x6_1 < (l0.length : Int) := uO
       obtain ⟨ad573, e573, hx573_0⟩ := Kd.at_int HR0.out x6_1 p573 q573
       cases e573
       replace hx573_0 := (HB.out.cell (World.block_lt_of_cell? w _ hx573_0)).trans hx573_0
       replace p573 := eq_true p573
       replace q573 := eq_true q573
       have p574 : 0 ≤ (x8_2 : Int) := uO
       have q574 : x8_2 < (l1.length : Int) := uO
       obtain ⟨ad574, e574, hx574_0⟩ := Kd.at_int HR1.out x8_2 p574 q574
       cases e574
       replace hx574_0 := (HB.out.cell (World.block_lt_of_cell? w _ hx574_0)).trans hx574_0
       replace p574 := eq_true p574
       replace q574 := eq_true q574
       have p16 : 0 ≤ ((ji10) : Int) := uO
       have q16 : ((ji10) : Int) < ((x5_2.length : Int) : Int) := uO
       obtain ⟨go16, co16, eo16, gb16, gl16, cl16, HG16⟩ := Kd.R_form HO_5.out (by omega)
       (first | cases eo16 | (injection eo16 with ea_ en_ ec_; (first | subst ea_ | (injection ea_ with ea_; subst ea_)); subst ec_; clear en_))
       have GB16 := Aside0.mk gb16; have GG16 := Aside0.mk HG16; clear gb16 gl16 HG16
       (first | simp only [add_plain] at hx572_0 | skip)
       obtain ⟨hx16_0, hf16_0⟩ := Kd.R_celln 0 HO_5.out ((ji10) : Int) p16 q16
       replace p16 := eq_true p16
       replace q16 := eq_true q16
       have HP18 := Kd.R_putg HO_5.out ((ji10) : Int) (Int.tmod (IntKind.u64.wrap ((IntKind.u64.wrap ((rd x5_2 (ji10)) + (IntKind.u64.wrap ((rd l0 x6_1) * (rd l1 x8_2))))) + x7_2)) 65536)
       go_wp2_with (first | ((with_reducible refine gate_store (t := 42) (p := 52) rfl ?_); (try (rw [drewN_self wr]; generalize hq_ : World.drewN wr _ = wr; replace HO_5 := Aside0.mk (Kd.R_at hq_ HO_5.out); replace HB := Aside0.mk (below_at hq_ HB.out); clear hq_; (try (have HP18 := Kd.R_putg HO_5.out ((ji10) : Int) (Int.tmod (IntKind.u64.wrap ((IntKind.u64.wrap ((rd x5_2 (ji10)) + (IntKind.u64.wrap ((rd l0 x6_1) * (rd l1 x8_2))))) + x7_2)) 65536))))); refine store_event (t := 42) (p := 52) (v := ?vo_w19) (w1 := (wr.setCell ⟨go16, ((ji10) : Int).toNat, none⟩ (.int .u64 (Int.tmod (IntKind.u64.wrap ((IntKind.u64.wrap ((rd x5_2 (ji10)) + (IntKind.u64.wrap ((rd l0 x6_1) * (rd l1 x8_2))))) + x7_2)) 65536)))) ?hg ?ho ?hn ?hr ?_; (case ho => rfl); (case hg => rfl); (case hn => rfl); (case hr => first | (go_simp; done) | (go_simp; rfl) | (obtain ⟨hy_, hz_⟩ := Kd.R_celln 0 HO_5.out ((ji10) : Int) uO uO; (try simp only [Go.IntWalk.toNatUp] at hy_ hz_); (try simp only [Int.reduceToNat, Int.toNat_zero, Int.toNat_ofNat] at hy_ hz_); first | (go_simp; done) | (go_simp; rfl))); intro w19 hw; have hg : wr.grownBy w19 (some go16) := (by rw [hw]; exact HP18.2); have hp_ : Kd.R (Kd.int .u64) 42 w19 w.heap.size (fun _ => True) (.slice (some ⟨go16, 0, none⟩) x5_2.length co17) y575 := (by rw [hw, Ny575.out]; exact HP18.1); clear HP18; replace HO_5 := Aside0.mk (hp_); replace HB := Aside0.mk ((by rw [hw]; exact below_set (HB.out) GB16.out : Below w.heap.size w w19)); clear hg hw hp_))
       repeat (go_quiet (first | ((with_reducible refine gate_store (t := 42) (p := 52) rfl ?_); (try (rw [drewN_self wr]; generalize hq_ : World.drewN wr _ = wr; replace HO_5 := Aside0.mk (Kd.R_at hq_ HO_5.out); replace HB := Aside0.mk (below_at hq_ HB.out); clear hq_; (try (have HP18 := Kd.R_putg HO_5.out ((ji10) : Int) (Int.tmod (IntKind.u64.wrap ((IntKind.u64.wrap ((rd x5_2 (ji10)) + (IntKind.u64.wrap ((rd l0 x6_1) * (rd l1 x8_2))))) + x7_2)) 65536))))); refine store_event (t := 42) (p := 52) (v := ?vo_w19) (w1 := (wr.setCell ⟨go16, ((ji10) : Int).toNat, none⟩ (.int .u64 (Int.tmod (IntKind.u64.wrap ((IntKind.u64.wrap ((rd x5_2 (ji10)) + (IntKind.u64.wrap ((rd l0 x6_1) * (rd l1 x8_2))))) + x7_2)) 65536)))) ?hg ?ho ?hn ?hr ?_; (case ho => rfl); (case hg => rfl); (case hn => rfl); (case hr => first | (go_simp; done) | (go_simp; rfl) | (obtain ⟨hy_, hz_⟩ := Kd.R_celln 0 HO_5.out ((ji10) : Int) uO uO; (try simp only [Go.IntWalk.toNatUp] at hy_ hz_); (try simp only [Int.reduceToNat, Int.toNat_zero, Int.toNat_ofNat] at hy_ hz_); first | (go_simp; done) | (go_simp; rfl))); intro w19 hw; have hg : wr.grownBy w19 (some go16) := (by rw [hw]; exact HP18.2); have hp_ : Kd.R (Kd.int .u64) 42 w19 w.heap.size (fun _ => True) (.slice (some ⟨go16, 0, none⟩) x5_2.length co17) y575 := (by rw [hw, Ny575.out]; exact HP18.1); clear HP18; replace HO_5 := Aside0.mk (hp_); replace HB := Aside0.mk ((by rw [hw]; exact below_set (HB.out) GB16.out : Below w.heap.size w w19)); clear hg hw hp_)); try go_wp2_with (first | ((with_reducible refine gate_store (t := 42) (p := 52) rfl ?_); (try (rw [drewN_self wr]; generalize hq_ : World.drewN wr _ = wr; replace HO_5 := Aside0.mk (Kd.R_at hq_ HO_5.out); replace HB := Aside0.mk (below_at hq_ HB.out); clear hq_; (try (have HP18 := Kd.R_putg HO_5.out ((ji10) : Int) (Int.tmod (IntKind.u64.wrap ((IntKind.u64.wrap ((rd x5_2 (ji10)) + (IntKind.u64.wrap ((rd l0 x6_1) * (rd l1 x8_2))))) + x7_2)) 65536))))); refine store_event (t := 42) (p := 52) (v := ?vo_w19) (w1 := (wr.setCell ⟨go16, ((ji10) : Int).toNat, none⟩ (.int .u64 (Int.tmod (IntKind.u64.wrap ((IntKind.u64.wrap ((rd x5_2 (ji10)) + (IntKind.u64.wrap ((rd l0 x6_1) * (rd l1 x8_2))))) + x7_2)) 65536)))) ?hg ?ho ?hn ?hr ?_; (case ho => rfl); (case hg => rfl); (case hn => rfl); (case hr => first | (go_simp; done) | (go_simp; rfl) | (obtain ⟨hy_, hz_⟩ := Kd.R_celln 0 HO_5.out ((ji10) : Int) uO uO; (try simp only [Go.IntWalk.toNatUp] at hy_ hz_); (try simp only [Int.reduceToNat, Int.toNat_zero, Int.toNat_ofNat] at hy_ hz_); first | (go_simp; done) | (go_simp; rfl))); intro w19 hw; have hg : wr.grownBy w19 (some go16) := (by rw [hw]; exact HP18.2); have hp_ : Kd.R (Kd.int .u64) 42 w19 w.heap.size (fun _ => True) (.slice (some ⟨go16, 0, none⟩) x5_2.length co17) y575 := (by rw [hw, Ny575.out]; exact HP18.1); clear HP18; replace HO_5 := Aside0.mk (hp_); replace HB := Aside0.mk ((by rw [hw]; exact below_set (HB.out) GB16.out : Below w.heap.size w w19)); clear hg hw hp_)))
       first | go_roundg k2 | ((try simp only [← hji10] at H'); simp only [← hji10]; go_roundg k2) | ((try simp only [← hji3] at H'); simp only [← hji3]; go_roundg k2)
       case measure => have := HK1.out; have := HK2.out; omega
       case rel => first | exact ⟨(y575), (IntKind.u64.wrap (Int.tdiv (IntKind.u64.wrap ((IntKind.u64.wrap ((rd x5_2 (ji10)) + (IntKind.u64.wrap ((rd l0 x6_1) * (rd l1 x8_2))))) + x7_2)) 65536)), (wrap64 (x8_2 + 1)), (by first | rfl | (simp; done) | (simp only [← hji10] <;> (first | rfl | simp)) | (simp [*]; done)), uG, H', ⟨by have := HK1.out; have := HK2.out; omega⟩, ⟨uR HO_5.out⟩, ⟨uB⟩⟩ | (simp only [← hji10] at H'; exact ⟨(y575), (IntKind.u64.wrap (Int.tdiv (IntKind.u64.wrap ((IntKind.u64.wrap ((rd x5_2 (ji10)) + (IntKind.u64.wrap ((rd l0 x6_1) * (rd l1 x8_2))))) + x7_2)) 65536)), (wrap64 (x8_2 + 1)), (by first | rfl | (simp; done) | (simp only [← hji10] <;> (first | rfl | simp)) | (simp [*]; done)), uG, H', ⟨by have := HK1.out; have := HK2.out; omega⟩, ⟨uR HO_5.out⟩, ⟨uB⟩⟩) | (simp only [← hji3] at H'; exact ⟨(y575), (IntKind.u64.wrap (Int.tdiv (IntKind.u64.wrap ((IntKind.u64.wrap ((rd x5_2 (ji10)) + (IntKind.u64.wrap ((rd l0 x6_1) * (rd l1 x8_2))))) + x7_2)) 65536)), (wrap64 (x8_2 + 1)), (by first | rfl | (simp; done) | (simp only [← hji10] <;> (first | rfl | simp)) | (simp [*]; done)), uG, H', ⟨by have := HK1.out; have := HK2.out; omega⟩, ⟨uR HO_5.out⟩, ⟨uB⟩⟩)
      rw [if_neg c9] at H
      have c9b0 := decide_eq_false c9
      clear c9
      obtain ⟨ji20, hji20⟩ : ∃ j_ : Int, (wrap64 (x6_1 + (l1.length : Int))) = j_ := ⟨_, rfl⟩
      first | rw [hji20] at H | simp only [hji20] at H
      have hji20w : (IntKind.i64.wrap (x6_1 + (l1.length : Int))) = ji20 := (i64_w _).trans hji20
      replace H := uT H; obtain ⟨c21, H⟩ := H
      have c21b0 := decide_eq_true c21
      clear c21
      replace H := uT H; obtain ⟨c22, H⟩ := H
      have c22b0 := decide_eq_true c22
      clear c22
      obtain ⟨y576, hy576⟩ : ∃ y_ : List Int, y_ = (x5_2.set ((ji20) : Int).toNat x7_2) := ⟨_, rfl⟩
      replace H : (windbreakref01_mul.l0 k2 l0 l1 y576 (wrap64 (x6_1 + 1))) = some r := by first | (rw [hy576]; with_reducible exact H) | (have H2_ := (Option.bind_some _ _).symm.trans H; rw [hy576]; with_reducible exact H2_) | (have H2_ := (Option.bind_some _ _).symm.trans H; with_reducible exact H2_) | with_reducible exact H | (rw [hy576]; exact H) | exact H
      have Ny576 := Aside0.mk hy576; clear hy576
      have H' := Aside0.mk H
      clear H
      have p23 : 0 ≤ ((ji20) : Int) := uO
      have q23 : ((ji20) : Int) < ((x5_2.length : Int) : Int) := uO
      obtain ⟨go23, co23, eo23, gb23, gl23, cl23, HG23⟩ := Kd.R_form HO_5.out (by omega)
      (first | cases eo23 | (injection eo23 with ea_ en_ ec_; (first | subst ea_ | (injection ea_ with ea_; subst ea_)); subst ec_; clear en_))
      have GB23 := Aside0.mk gb23; have GG23 := Aside0.mk HG23; clear gb23 gl23 HG23
      obtain ⟨hx23_0, hf23_0⟩ := Kd.R_celln 0 HO_5.out ((ji20) : Int) p23 q23
      replace p23 := eq_true p23
      replace q23 := eq_true q23
      have HP24 := Kd.R_putg HO_5.out ((ji20) : Int) x7_2
      go_wp2_with (first | ((with_reducible refine gate_store (t := 42) (p := 61) rfl ?_); (try (rw [drewN_self wr]; generalize hq_ : World.drewN wr _ = wr; replace HO_5 := Aside0.mk (Kd.R_at hq_ HO_5.out); replace HB := Aside0.mk (below_at hq_ HB.out); clear hq_; (try (have HP24 := Kd.R_putg HO_5.out ((ji20) : Int) x7_2)))); refine store_event (t := 42) (p := 61) (v := ?vo_w25) (w1 := (wr.setCell ⟨go23, ((ji20) : Int).toNat, none⟩ (.int .u64 x7_2))) ?hg ?ho ?hn ?hr ?_; (case ho => rfl); (case hg => rfl); (case hn => rfl); (case hr => first | (go_simp; done) | (go_simp; rfl) | (obtain ⟨hy_, hz_⟩ := Kd.R_celln 0 HO_5.out ((ji20) : Int) uO uO; (try simp only [Go.IntWalk.toNatUp] at hy_ hz_); (try simp only [Int.reduceToNat, Int.toNat_zero, Int.toNat_ofNat] at hy_ hz_); first | (go_simp; done) | (go_simp; rfl))); intro w25 hw; have hg : wr.grownBy w25 (some go23) := (by rw [hw]; exact HP24.2); have hp_ : Kd.R (Kd.int .u64) 42 w25 w.heap.size (fun _ => True) (.slice (some ⟨go23, 0, none⟩) x5_2.length co23) y576 := (by rw [hw, Ny576.out]; exact HP24.1); clear HP24; replace HO_5 := Aside0.mk (hp_); replace HB := Aside0.mk ((by rw [hw]; exact below_set (HB.out) GB23.out : Below w.heap.size w w25)); clear hg hw hp_))
      repeat (go_quiet (first | ((with_reducible refine gate_store (t := 42) (p := 61) rfl ?_); (try (rw [drewN_self wr]; generalize hq_ : World.drewN wr _ = wr; replace HO_5 := Aside0.mk (Kd.R_at hq_ HO_5.out); replace HB := Aside0.mk (below_at hq_ HB.out); clear hq_; (try (have HP24 := Kd.R_putg HO_5.out ((ji20) : Int) x7_2)))); refine store_event (t := 42) (p := 61) (v := ?vo_w25) (w1 := (wr.setCell ⟨go23, ((ji20) : Int).toNat, none⟩ (.int .u64 x7_2))) ?hg ?ho ?hn ?hr ?_; (case ho => rfl); (case hg => rfl); (case hn => rfl); (case hr => first | (go_simp; done) | (go_simp; rfl) | (obtain ⟨hy_, hz_⟩ := Kd.R_celln 0 HO_5.out ((ji20) : Int) uO uO; (try simp only [Go.IntWalk.toNatUp] at hy_ hz_); (try simp only [Int.reduceToNat, Int.toNat_zero, Int.toNat_ofNat] at hy_ hz_); first | (go_simp; done) | (go_simp; rfl))); intro w25 hw; have hg : wr.grownBy w25 (some go23) := (by rw [hw]; exact HP24.2); have hp_ : Kd.R (Kd.int .u64) 42 w25 w.heap.size (fun _ => True) (.slice (some ⟨go23, 0, none⟩) x5_2.length co23) y576 := (by rw [hw, Ny576.out]; exact HP24.1); clear HP24; replace HO_5 := Aside0.mk (hp_); replace HB := Aside0.mk ((by rw [hw]; exact below_set (HB.out) GB23.out : Below w.heap.size w w25)); clear hg hw hp_)); try go_wp2_with (first | ((with_reducible refine gate_store (t := 42) (p := 61) rfl ?_); (try (rw [drewN_self wr]; generalize hq_ : World.drewN wr _ = wr; replace HO_5 := Aside0.mk (Kd.R_at hq_ HO_5.out); replace HB := Aside0.mk (below_at hq_ HB.out); clear hq_; (try (have HP24 := Kd.R_putg HO_5.out ((ji20) : Int) x7_2)))); refine store_event (t := 42) (p := 61) (v := ?vo_w25) (w1 := (wr.setCell ⟨go23, ((ji20) : Int).toNat, none⟩ (.int .u64 x7_2))) ?hg ?ho ?hn ?hr ?_; (case ho => rfl); (case hg => rfl); (case hn => rfl); (case hr => first | (go_simp; done) | (go_simp; rfl) | (obtain ⟨hy_, hz_⟩ := Kd.R_celln 0 HO_5.out ((ji20) : Int) uO uO; (try simp only [Go.IntWalk.toNatUp] at hy_ hz_); (try simp only [Int.reduceToNat, Int.toNat_zero, Int.toNat_ofNat] at hy_ hz_); first | (go_simp; done) | (go_simp; rfl))); intro w25 hw; have hg : wr.grownBy w25 (some go23) := (by rw [hw]; exact HP24.2); have hp_ : Kd.R (Kd.int .u64) 42 w25 w.heap.size (fun _ => True) (.slice (some ⟨go23, 0, none⟩) x5_2.length co23) y576 := (by rw [hw, Ny576.out]; exact HP24.1); clear HP24; replace HO_5 := Aside0.mk (hp_); replace HB := Aside0.mk ((by rw [hw]; exact below_set (HB.out) GB23.out : Below w.heap.size w w25)); clear hg hw hp_)))
      first | go_roundg k2 | ((try simp only [← hji20] at H'); simp only [← hji20]; go_roundg k2) | ((try simp only [← hji10] at H'); simp only [← hji10]; go_roundg k2) | ((try simp only [← hji3] at H'); simp only [← hji3]; go_roundg k2)
      case measure => have := HK1.out; have := HK2.out; omega
      case rel => first | exact ⟨(y576), (wrap64 (x6_1 + 1)), uG, H', ⟨by have := HK1.out; have := HK2.out; omega⟩, ⟨uR HO_5.out⟩, ⟨uB⟩⟩ | (simp only [← hji20] at H'; exact ⟨(y576), (wrap64 (x6_1 + 1)), uG, H', ⟨by have := HK1.out; have := HK2.out; omega⟩, ⟨uR HO_5.out⟩, ⟨uB⟩⟩) | (simp only [← hji10] at H'; exact ⟨(y576), (wrap64 (x6_1 + 1)), uG, H', ⟨by have := HK1.out; have := HK2.out; omega⟩, ⟨uR HO_5.out⟩, ⟨uB⟩⟩) | (simp only [← hji3] at H'; exact ⟨(y576), (wrap64 (x6_1 + 1)), uG, H', ⟨by have := HK1.out; have := HK2.out; omega⟩, ⟨uR HO_5.out⟩, ⟨uB⟩⟩)
   rw [if_neg c8] at H
   have c8b0 := decide_eq_false c8
   clear c8
   replace H := ub H; obtain ⟨t569, A26, H⟩ := H
   obtain rfl := Option.some.inj H
   obtain ⟨Ao27, co27, eo27⟩ := Kd.R_slice HO_5.out
   subst eo27
   go_wp2_with (first | (go_at_call 60; (with_reducible refine (windbreakref01_cut.calls k1 (fun k_ => some k_ = (.slice Ao27 x5_1.length co27 : Value).ownBlock) (.slice Ao27 x5_1.length co27) x5_1 t569 w _ ?side1 ?side2 A26.out).mono ?_); (case side1 => repeat (first | (with_reducible first | exact HB.out | apply below_alloc | apply pw_below_drewN | apply below_drew1) | exact HB.out)); (case side2 => exact Kd.R_tight rfl HO_5.out); rintro e w28 ⟨v570, rfl, ho0, hb, hkp⟩; have HO571 := Aside0.mk (Kd.R_mono (ok' := fun k_ => True) ho0 (fun k_ hk_ => trivial)); replace HB := Aside0.mk (hb); clear HO_5; (try clear hb); (try clear hkp); (try clear ho0)))
   repeat (go_quiet (first | (go_at_call 60; (with_reducible refine (windbreakref01_cut.calls k1 (fun k_ => some k_ = (.slice Ao27 x5_1.length co27 : Value).ownBlock) (.slice Ao27 x5_1.length co27) x5_1 t569 w _ ?side1 ?side2 A26.out).mono ?_); (case side1 => repeat (first | (with_reducible first | exact HB.out | apply below_alloc | apply pw_below_drewN | apply below_drew1) | exact HB.out)); (case side2 => exact Kd.R_tight rfl HO_5.out); rintro e w28 ⟨v570, rfl, ho0, hb, hkp⟩; have HO571 := Aside0.mk (Kd.R_mono (ok' := fun k_ => True) ho0 (fun k_ hk_ => trivial)); replace HB := Aside0.mk (hb); clear HO_5; (try clear hb); (try clear hkp); (try clear ho0))); try go_wp2_with (first | (go_at_call 60; (with_reducible refine (windbreakref01_cut.calls k1 (fun k_ => some k_ = (.slice Ao27 x5_1.length co27 : Value).ownBlock) (.slice Ao27 x5_1.length co27) x5_1 t569 w _ ?side1 ?side2 A26.out).mono ?_); (case side1 => repeat (first | (with_reducible first | exact HB.out | apply below_alloc | apply pw_below_drewN | apply below_drew1) | exact HB.out)); (case side2 => exact Kd.R_tight rfl HO_5.out); rintro e w28 ⟨v570, rfl, ho0, hb, hkp⟩; have HO571 := Aside0.mk (Kd.R_mono (ok' := fun k_ => True) ho0 (fun k_ hk_ => trivial)); replace HB := Aside0.mk (hb); clear HO_5; (try clear hb); (try clear hkp); (try clear ho0))))
   go_ret
   exact ⟨_, by first | rfl | (simp [errW_none, errW_some] <;> rfl) | (simp only [← hji3]; first | rfl | (simp [errW_none, errW_some] <;> rfl)) | (simp [*, errW_none, errW_some] <;> rfl), uR HO571.out, uB⟩
mutual
def windbreakref01_div.l0 : Nat → List Int → List Int → List Int → List Int → Int → Option (List Int × List Int)
 | 0, _, _, _, _, _ => none
 | k + 1, x0, x1, x6, x7, x8 => if x8 ≥ 0 then (if 0 ≤ x8 then (if x8 < (x0.length : Int) then ((some (([rd x0 x8] : List Int) : List Int)).bind fun y584 => (if y584.length + x7.length < 17592186044416 then ((windbreakref01_cut.f k (y584 ++ x7)).bind fun t590 => (windbreakref01_div.l1 k x0 x1 x6 t590 x8 0 65535)) else (none))) else (none)) else (none)) else ((windbreakref01_cut.f k x6).bind fun t580 => (some (t580, x7)))
def windbreakref01_div.l1 : Nat → List Int → List Int → List Int → List Int → Int → Int → Int → Option (List Int × List Int)
 | 0, _, _, _, _, _, _, _ => none
 | k + 1, x0, x1, x6, x7, x8, x9, x10 => if x9 < x10 then ((windbreakref01_mul.f k x1 (([IntKind.u64.wrap (Int.tdiv (IntKind.u64.wrap ((IntKind.u64.wrap (x9 + x10)) + 1)) 2)] : List Int))).bind fun t606 => ((windbreakref01_compare.f k t606 x7).bind fun t609 => (if t609 ≤ 0 then (windbreakref01_div.l1 k x0 x1 x6 x7 x8 (IntKind.u64.wrap (Int.tdiv (IntKind.u64.wrap ((IntKind.u64.wrap (x9 + x10)) + 1)) 2)) x10) else (windbreakref01_div.l1 k x0 x1 x6 x7 x8 x9 (IntKind.u64.wrap ((IntKind.u64.wrap (Int.tdiv (IntKind.u64.wrap ((IntKind.u64.wrap (x9 + x10)) + 1)) 2)) - 1)))))) else (if 0 ≤ x8 then (if x8 < (x6.length : Int) then ((windbreakref01_mul.f k x1 (([x9] : List Int))).bind fun t597 => ((windbreakref01_sub.f k x7 t597).bind fun t600 => (windbreakref01_div.l0 k x0 x1 (x6.set (x8 : Int).toNat x9) t600 (wrap64 (x8 - 1))))) else (none)) else (none))
end
def windbreakref01_div.f (k : Nat) (l0 : List Int) (l1 : List Int) : Option (List Int × List Int) := if 0 ≤ (l0.length : Int) then (if ((l0.length : Int) : Int).toNat ≤ 35184372088832 then (windbreakref01_div.l0 k l0 l1 (List.replicate ((l0.length : Int) : Int).toNat 0) ([] : List Int) (wrap64 ((l0.length : Int) - 1))) else (none)) else (none)
theorem windbreakref01_div.calls (k : Nat) (A0 : Option Addr) (c0 : Nat) (l0 : List Int) (A1 : Option Addr) (c1 : Nat) (l1 : List Int) (r1 : List Int) (r2 : List Int) (w : World) (hr0 : Kd.C (Kd.int .u64) w A0 l0.length l0) (hc0 : l0.length ≤ c0) (hr1 : Kd.C (Kd.int .u64) w A1 l1.length l1) (hc1 : l1.length ≤ c1) (h : windbreakref01_div.f k l0 l1 = some (r1, r2)) :
  Calls Try.prog 61 #[.slice A0 l0.length c0, .slice A1 l1.length c1] w fun e w' => ∃ v0_ v1_ : Value, e = .returned (.tuple #[v0_, v1_]) ∧ Kd.R (Kd.int .u64) 42 w' w.heap.size (fun k_ => some k_ ≠ (v1_ : Value).ownBlock) v0_ r1 ∧ Kd.R (Kd.int .u64) 42 w' w.heap.size (fun k_ => some k_ ≠ (v0_ : Value).ownBlock) v1_ r2 ∧ Below w.heap.size w w' := by
 have HR0 := Aside0.mk hr0; have HC0 := Aside0.mk hc0; clear hr0 hc0; have HR1 := Aside0.mk hr1; have HC1 := Aside0.mk hc1; clear hr1 hc1
 have HB := Aside0.mk (Below.refl w.heap.size w)
 have H : (if 0 ≤ (l0.length : Int) then (if ((l0.length : Int) : Int).toNat ≤ 35184372088832 then (windbreakref01_div.l0 k l0 l1 (List.replicate ((l0.length : Int) : Int).toNat 0) ([] : List Int) (wrap64 ((l0.length : Int) - 1))) else (none)) else (none)) = some (r1, r2) := h
 clear h
 replace H := uT H; obtain ⟨c3, H⟩ := H
 have c3b0 := eq_true c3
 have c3b1 := decide_eq_true c3
 clear c3
 replace H := uT H; obtain ⟨c4, H⟩ := H
 have c4b0 := eq_true c4
 have c4b1 := decide_eq_true c4
 clear c4
 obtain ⟨y577, hy577⟩ : ∃ y_ : List Int, y_ = (List.replicate ((l0.length : Int) : Int).toNat 0) := ⟨_, rfl⟩
 replace H : (windbreakref01_div.l0 k l0 l1 y577 ([] : List Int) (wrap64 ((l0.length : Int) - 1))) = some (r1, r2) := by first | (rw [hy577]; with_reducible exact H) | (have H2_ := (Option.bind_some _ _).symm.trans H; rw [hy577]; with_reducible exact H2_) | (have H2_ := (Option.bind_some _ _).symm.trans H; with_reducible exact H2_) | with_reducible exact H | (rw [hy577]; exact H) | exact H
 have Ny577 := Aside0.mk hy577; clear hy577
 have H' := Aside0.mk H
 clear H
 go_enter Try.func61, Try.ntmps61
 go_wp2_with (first | ((with_reducible refine gate_dst (N := 14) rfl ?_); refine Kd.R_make (Kd.int .u64) _ 42 rfl (N := 14) rfl 62 _ _ rfl (l0.length : Int) rfl rfl Try.underlying62 (.int .u64 0) 8 info42 rfl (by decide) (by omega) 0 (ok := fun _ => True) (okp := fun _ => True) rfl (fun _ hk => hk) trivial uO (Nat.le_trans (Nat.mul_le_mul_right _ (uO : (l0.length : Int).toNat ≤ 35184372088832)) (by omega)) (Below.refl _ _) (Nat.le_refl _) ?_; intro v578 w5 ho6 hb hg_ hnew_; clear hg_ hnew_; (first | rw [← Ny577.out] at ho6 | (simp only [Int.reduceToNat] at ho6; rw [← Ny577.out] at ho6)); have HO579 := ulo ho6; replace HB := uy hb; clear hb ho6))
 go_loopg [7, 8] k (fun kq v7 v8 w' => ∃ (x6_1 : List Int) (x7_1 : List Int) (x8_1 : Int), v8 = .int .i64 x8_1 ∧ Aside0 (windbreakref01_div.l0 kq l0 l1 x6_1 x7_1 x8_1 = some (r1, r2)) ∧ Aside0 (kq ≤ k) ∧ Aside0 (Kd.R (Kd.int .u64) 42 w' w.heap.size (fun k_ => some k_ ≠ (v7 : Value).ownBlock) v578 x6_1) ∧ Aside0 (Kd.R (Kd.int .u64) 42 w' w.heap.size (fun k_ => some k_ ≠ (v578 : Value).ownBlock) v7 x7_1) ∧ Aside0 (Below w.heap.size w w'))
 case atStart => exact ⟨(y577), (([] : List Int)), (wrap64 ((l0.length : Int) - 1)), uG, H', ⟨Nat.le_refl _⟩, ⟨by exact uR (Kd.R_mono HO579.out (fun _ hk => (by simp [Value.ownBlock])))⟩, ⟨uI⟩, ⟨uB⟩⟩
 case round =>
  clear H'
  obtain ⟨x6_1, x7_1, x8_1, rfl, HA, HK1, HO_6, HO_7, HB⟩ := hrel
  cases gk with
  | zero => exact absurd HA.out (by simp [windbreakref01_div.l0])
  | succ k1 =>
   have H := HA.out
   clear HA
   simp only [windbreakref01_div.l0] at H
   by_cases c7 : x8_1 ≥ 0
   ·
    rw [if_pos c7] at H
    have c7b0 := decide_eq_true c7
    clear c7
    replace H := uT H; obtain ⟨c8, H⟩ := H
    have c8b0 := decide_eq_true c8
    clear c8
    replace H := uT H; obtain ⟨c9, H⟩ := H
    have c9b0 := decide_eq_true c9
    clear c9
    replace H := ubs H; obtain ⟨y584, hy584, H⟩ := H
    have Ny584 := Aside0.mk hy584; clear hy584
    replace H := uT H; obtain ⟨c10, H⟩ := H
    have LMc10 := Aside0.mk c10; clear c10
    obtain ⟨y587, hy587⟩ : ∃ y_ : List Int, y_ = (y584 ++ x7_1) := ⟨_, rfl⟩
    replace H : ((windbreakref01_cut.f k1 y587).bind fun t590 => (windbreakref01_div.l1 k1 l0 l1 x6_1 t590 x8_1 0 65535)) = some (r1, r2) := by first | (rw [hy587]; with_reducible exact H) | (have H2_ := (Option.bind_some _ _).symm.trans H; rw [hy587]; with_reducible exact H2_) | (have H2_ := (Option.bind_some _ _).symm.trans H; with_reducible exact H2_) | with_reducible exact H | (rw [hy587]; exact H) | exact H
    have Ny587 := Aside0.mk hy587; clear hy587
    replace H := ub H; obtain ⟨t590, A11, H⟩ := H
    have H' := Aside0.mk H
    clear H
    have p583 : 0 ≤ (x8_1 : Int) := uO
    have q583 : x8_1 < (l0.length : Int) := uO
    obtain ⟨ad583, e583, hx583_0⟩ := Kd.at_int HR0.out x8_1 p583 q583
    cases e583
    replace hx583_0 := (HB.out.cell (World.block_lt_of_cell? w _ hx583_0)).trans hx583_0
    replace p583 := eq_true p583
    replace q583 := eq_true q583
    go_wp2_with (first | ((with_reducible refine gate_dst (N := 26) rfl ?_); refine Kd.R_lit (Kd.int .u64) _ 42 ?hg (N := 26) ?hd (xs := ([rd l0 x8_1] : List Int)) (inner := [.int .u64 (rd l0 x8_1)]) (ok := fun _ => True) (okp := fun _ => True) ?hr ?hp (fun _ hk => hk) trivial (Below.refl _ _) (Nat.le_refl _) (by simp) ?_; (case hd => rfl); (case hg => rfl); (case hr => first | (go_simp; done) | (go_simp; rfl) | (go_simp; simp only [u64_u8]; done) | (go_simp; simp only [u64_u8]; rfl)); (case hp => exact (Reps.one (show Kd.M (Kd.int .u64) _ _ _ (rd l0 x8_1) [.int .u64 (rd l0 x8_1)] from rfl) (Reps.none _ _))); intro v585 w12 ho13 hb hg_ hnew_; clear hg_ hnew_; (first | rw [← Ny584.out] at ho13 | (simp only [Int.reduceToNat] at ho13; rw [← Ny584.out] at ho13)); have HO586 := ulo (unw (unw ho13 HO_6) HO_7); replace HO_6 := ueR HO_6 ho13 hb; replace HO_7 := ueR HO_7 ho13 hb; replace HB := uy hb; clear hb ho13; obtain ⟨Ao15, co15, eo15⟩ := Kd.R_slice HO_7.out; subst eo15) | ((with_reducible refine gate_builtin (b := .append) (xs := #[.tmp 26, .tmp 27]) rfl ?_); at_builtin; refine Kd.R_append_rows (Kd.int .u64) (w0 := w) w.heap.size rfl (.tmp 26) (.tmp 27) 62 42 (.int .u64 0) 8 rfl Try.underlying62 info42 rfl (by decide) (by omega) v585 y584 x7_1 _ _ _ (fun k_ => some k_ ≠ (v578 : Value).ownBlock ∧ some k_ ≠ (.slice Ao15 x7_1.length co15 : Value).ownBlock) (fun _ => False) rfl rfl ?aO ?aR (fun _ _ h => h) (fun _ h => h.elim) ?aF ?aB ?aS ?aL ?_; (case aR => exact uC (Kd.R_reads' HO_7.out).2.2); (case aB => exact uB); (case aF => exact (fun k_ hk => ⟨Kd.fresh' (Kd.R_lt (uR HO_6.out)) k_ hk, Kd.fresh' (Kd.R_lt (uR HO_7.out)) k_ hk⟩)); (case aO => exact (uR (Kd.R_mono HO586.out (fun _ hk => ⟨hk.1.2, hk.2⟩)))); (case aS => exact (below_size uB)); (case aL => have := LMc10.out; omega); intro v588 w14 ho hb hg hat; rw [← Ny587.out] at ho; replace HO_6 := Aside0.mk (Kd.R_after (ok := (fun k_ => some k_ ≠ (.slice Ao15 x7_1.length co15 : Value).ownBlock)) (uR HO_6.out) hg hat); replace HO_7 := Aside0.mk (Kd.R_after (ok := (fun k_ => some k_ ≠ (v578 : Value).ownBlock)) (uR HO_7.out) hg hat); replace HB := Aside0.mk (hb); have HO589 := Aside0.mk (ho); clear HO586; clear ho hb hg hat; obtain ⟨Ao16, co16, eo16⟩ := Kd.R_slice HO589.out; subst eo16) | ((with_reducible refine ug 60 rfl ?_); refine uh (some 29) rfl Try.func60 #[.slice Ao16 y587.length co16] ?_; (with_reducible refine (windbreakref01_cut.calls k1 (fun k_ => some k_ = (.slice Ao16 y587.length co16 : Value).ownBlock) (.slice Ao16 y587.length co16) y587 t590 w _ ?side1 ?side2 A11.out).mono ?_); (case side1 => repeat (first | (with_reducible first | exact HB.out | apply below_alloc | apply pw_below_drewN | apply below_drew1) | exact HB.out)); (case side2 => exact Kd.R_tight rfl HO589.out); rintro e w17 ⟨v591, rfl, ho0, hb, hkp⟩; refine ⟨_, rfl, ?_⟩; have HO592 := Aside0.mk (Kd.R_mono (ok' := fun k_ => some k_ ≠ (v578 : Value).ownBlock ∧ some k_ ≠ (.slice Ao15 x7_1.length co15 : Value).ownBlock) ho0 (fun k_ hk_ => ⟨Or.elim hk_ (fun hs_ => fun e_ => (((HO_6.out).1 k_ e_.symm).2) hs_) (fun hn_ => (Kd.fresh' (Kd.R_lt (uR HO_6.out)) k_ hn_)), Or.elim hk_ (fun hs_ => fun e_ => (((HO_7.out).1 k_ e_.symm).2) hs_) (fun hn_ => (Kd.fresh' (Kd.R_lt (uR HO_7.out)) k_ hn_))⟩)); replace HO_6 := Aside0.mk (Kd.R_mono (ok' := fun k_ => some k_ ≠ (.slice Ao15 x7_1.length co15 : Value).ownBlock ∧ some k_ ≠ (v591 : Value).ownBlock) (Kd.R_keptB (HO_6.out) hkp (fun k_ hk_ hs_ => (hk_.2) hs_)) (fun k_ hk_ => ⟨hk_.1.1, fun e_ => Or.elim (ho0.1 k_ e_.symm) (fun hs_ => hk_.2.1 hs_) (fun hn_ => Nat.not_le.2 hk_.2.2 hn_)⟩)); replace HO_7 := Aside0.mk (Kd.R_mono (ok' := fun k_ => some k_ ≠ (v578 : Value).ownBlock ∧ some k_ ≠ (v591 : Value).ownBlock) (Kd.R_keptB (HO_7.out) hkp (fun k_ hk_ hs_ => (hk_.2) hs_)) (fun k_ hk_ => ⟨hk_.1.1, fun e_ => Or.elim (ho0.1 k_ e_.symm) (fun hs_ => hk_.2.1 hs_) (fun hn_ => Nat.not_le.2 hk_.2.2 hn_)⟩)); replace HB := Aside0.mk (hb); clear HO589; (try clear hb); (try clear hkp); (try clear ho0)))
    go_loopg [9, 10] k1 (fun kq v9 v10 w' => ∃ (x9_2 : Int) (x10_2 : Int), v9 = .int .u64 x9_2 ∧ v10 = .int .u64 x10_2 ∧ Aside0 (windbreakref01_div.l1 kq l0 l1 x6_1 t590 x8_1 x9_2 x10_2 = some (r1, r2)) ∧ Aside0 (kq ≤ k1) ∧ Aside0 (Kd.R (Kd.int .u64) 42 w' w.heap.size (fun k_ => some k_ ≠ (v591 : Value).ownBlock) v578 x6_1) ∧ Aside0 (Kd.R (Kd.int .u64) 42 w' w.heap.size (fun k_ => some k_ ≠ (v578 : Value).ownBlock) v591 t590) ∧ Aside0 (Below w.heap.size w w'))
    case atStart => exact ⟨(0), (65535), uG, uG, H', ⟨Nat.le_refl _⟩, ⟨by exact uR (Kd.R_mono HO_6.out (fun _ hk => hk.2))⟩, ⟨by (with_reducible repeat (first | apply Kd.R_alloc | apply Kd.R_drewN | apply Kd.R_drew)); exact Kd.R_mono HO592.out (fun _ hk => hk.1)⟩, ⟨uB⟩⟩
    case round =>
     clear H'
     ; (try clear q5); (try clear hx5); (try clear hx583_0); (try clear q583)
     obtain ⟨x9_2, x10_2, rfl, rfl, HA, HK2, HO_6, HO_7, HB⟩ := hrel
     cases gk with
     | zero => exact absurd HA.out (by simp [windbreakref01_div.l1])
     | succ k2 =>
      have H := HA.out
      clear HA
      simp only [windbreakref01_div.l1] at H
      by_cases c18 : x9_2 < x10_2
      ·
       rw [if_pos c18] at H
       have c18b0 := decide_eq_true c18
       clear c18
       obtain ⟨y603, hy603⟩ : ∃ y_ : List Int, y_ = (([IntKind.u64.wrap (Int.tdiv (IntKind.u64.wrap ((IntKind.u64.wrap (x9_2 + x10_2)) + 1)) 2)] : List Int)) := ⟨_, rfl⟩
       replace H : ((windbreakref01_mul.f k2 l1 y603).bind fun t606 => ((windbreakref01_compare.f k2 t606 t590).bind fun t609 => (if t609 ≤ 0 then (windbreakref01_div.l1 k2 l0 l1 x6_1 t590 x8_1 (IntKind.u64.wrap (Int.tdiv (IntKind.u64.wrap ((IntKind.u64.wrap (x9_2 + x10_2)) + 1)) 2)) x10_2) else (windbreakref01_div.l1 k2 l0 l1 x6_1 t590 x8_1 x9_2 (IntKind.u64.wrap ((IntKind.u64.wrap (Int.tdiv (IntKind.u64.wrap ((IntKind.u64.wrap (x9_2 + x10_2)) + 1)) 2)) - 1)))))) = some (r1, r2) := by first | (rw [hy603]; with_reducible exact H) | (have H2_ := (Option.bind_some _ _).symm.trans H; rw [hy603]; with_reducible exact H2_) | (have H2_ := (Option.bind_some _ _).symm.trans H; with_reducible exact H2_) | with_reducible exact H | (rw [hy603]; exact H) | exact H
       have Ny603 := Aside0.mk hy603; clear hy603
       replace H := ub H; obtain ⟨t606, A19, H⟩ := H
       replace H := ub H; obtain ⟨t609, A20, H⟩ := H
       by_cases c21 : t609 ≤ 0
       ·
        rw [if_pos c21] at H
        have c21b0 := decide_eq_true c21
        clear c21
        have H' := Aside0.mk H
        clear H
        go_wp2_with (first | ((with_reducible refine gate_dst (N := 40) rfl ?_); refine Kd.R_lit (Kd.int .u64) _ 42 ?hg (N := 40) ?hd (xs := ([IntKind.u64.wrap (Int.tdiv (IntKind.u64.wrap ((IntKind.u64.wrap (x9_2 + x10_2)) + 1)) 2)] : List Int)) (inner := [.int .u64 (IntKind.u64.wrap (Int.tdiv (IntKind.u64.wrap ((IntKind.u64.wrap (x9_2 + x10_2)) + 1)) 2))]) (ok := fun _ => True) (okp := fun _ => True) ?hr ?hp (fun _ hk => hk) trivial (Below.refl _ _) (Nat.le_refl _) (by simp) ?_; (case hd => rfl); (case hg => rfl); (case hr => first | (go_simp; done) | (go_simp; rfl) | (go_simp; simp only [u64_u8]; done) | (go_simp; simp only [u64_u8]; rfl)); (case hp => exact (Reps.one (show Kd.M (Kd.int .u64) _ _ _ (IntKind.u64.wrap (Int.tdiv (IntKind.u64.wrap ((IntKind.u64.wrap (x9_2 + x10_2)) + 1)) 2)) [.int .u64 (IntKind.u64.wrap (Int.tdiv (IntKind.u64.wrap ((IntKind.u64.wrap (x9_2 + x10_2)) + 1)) 2))] from rfl) (Reps.none _ _))); intro v604 w22 ho23 hb hg_ hnew_; clear hg_ hnew_; (first | rw [← Ny603.out] at ho23 | (simp only [Int.reduceToNat] at ho23; rw [← Ny603.out] at ho23)); have HO605 := ulo (unw (unw ho23 HO_6) HO_7); replace HO_6 := ueR HO_6 ho23 hb; replace HO_7 := ueR HO_7 ho23 hb; replace HB := uy hb; clear hb ho23; obtain ⟨Ao24, co24, eo24⟩ := Kd.R_slice HO605.out; subst eo24) | ((with_reducible refine ug 77 rfl ?_); refine uh (some 41) rfl Try.func77 #[.slice A1 l1.length c1, .slice Ao24 y603.length co24] ?_; (with_reducible refine (windbreakref01_mul.calls k2 _ _ l1 _ _ y603 t606 _ ?side1 ?side2 ?side3 ?side4 A19.out).mono ?_); (case side1 => exact uC (Kd.C_below HR1.out HB.out)); (case side2 => exact HC1.out); (case side3 => exact uC (Kd.R_reads' HO605.out).2.2); (case side4 => exact (Kd.R_reads' HO605.out).2.1); rintro e w25 ⟨v607, rfl, ho0, hb⟩; refine ⟨_, rfl, ?_⟩; have HO608 := ulo (unw (unw (unw ho0 HO_6) HO_7) HO605); replace HO_6 := ueR HO_6 ho0 hb; replace HO_7 := ueR HO_7 ho0 hb; replace HO605 := ueR HO605 ho0 hb; replace HB := uy hb; (try clear hb ho0); obtain ⟨Ao26, co26, eo26⟩ := Kd.R_slice HO608.out; subst eo26; obtain ⟨Ao27, co27, eo27⟩ := Kd.R_slice HO_7.out; subst eo27) | ((with_reducible refine ug 74 rfl ?_); refine uh (some 43) rfl Try.func74 #[.slice Ao26 t606.length co26, .slice Ao27 t590.length co27] ?_; (with_reducible refine (windbreakref01_compare.calls k2 _ _ t606 _ _ t590 t609 _ ?side1 ?side2 ?side3 ?side4 A20.out).mono ?_); (case side1 => exact uC (Kd.R_reads' HO608.out).2.2); (case side2 => exact (Kd.R_reads' HO608.out).2.1); (case side3 => exact uC (Kd.R_reads' HO_7.out).2.2); (case side4 => exact (Kd.R_reads' HO_7.out).2.1); rintro e w' ⟨rfl, ⟨nd, rfl⟩⟩; refine ⟨_, rfl, ?_⟩))
        go_roundg k2
        case measure => have := HK1.out; have := HK2.out; omega
        case rel => exact ⟨(IntKind.u64.wrap (Int.tdiv (IntKind.u64.wrap ((IntKind.u64.wrap (x9_2 + x10_2)) + 1)) 2)), (x10_2), uG, uG, H', ⟨by have := HK1.out; have := HK2.out; omega⟩, ⟨by exact uR (Kd.R_mono HO_6.out (fun _ hk => hk.1.1))⟩, ⟨by (with_reducible repeat (first | apply Kd.R_alloc | apply Kd.R_drewN | apply Kd.R_drew)); exact Kd.R_mono HO_7.out (fun _ hk => hk.1.1)⟩, ⟨uB⟩⟩
       rw [if_neg c21] at H
       have c21b0 := decide_eq_false c21
       clear c21
       have H' := Aside0.mk H
       clear H
       go_wp2_with (first | ((with_reducible refine gate_dst (N := 40) rfl ?_); refine Kd.R_lit (Kd.int .u64) _ 42 ?hg (N := 40) ?hd (xs := ([IntKind.u64.wrap (Int.tdiv (IntKind.u64.wrap ((IntKind.u64.wrap (x9_2 + x10_2)) + 1)) 2)] : List Int)) (inner := [.int .u64 (IntKind.u64.wrap (Int.tdiv (IntKind.u64.wrap ((IntKind.u64.wrap (x9_2 + x10_2)) + 1)) 2))]) (ok := fun _ => True) (okp := fun _ => True) ?hr ?hp (fun _ hk => hk) trivial (Below.refl _ _) (Nat.le_refl _) (by simp) ?_; (case hd => rfl); (case hg => rfl); (case hr => first | (go_simp; done) | (go_simp; rfl) | (go_simp; simp only [u64_u8]; done) | (go_simp; simp only [u64_u8]; rfl)); (case hp => exact (Reps.one (show Kd.M (Kd.int .u64) _ _ _ (IntKind.u64.wrap (Int.tdiv (IntKind.u64.wrap ((IntKind.u64.wrap (x9_2 + x10_2)) + 1)) 2)) [.int .u64 (IntKind.u64.wrap (Int.tdiv (IntKind.u64.wrap ((IntKind.u64.wrap (x9_2 + x10_2)) + 1)) 2))] from rfl) (Reps.none _ _))); intro v604 w28 ho29 hb hg_ hnew_; clear hg_ hnew_; (first | rw [← Ny603.out] at ho29 | (simp only [Int.reduceToNat] at ho29; rw [← Ny603.out] at ho29)); have HO605 := ulo (unw (unw ho29 HO_6) HO_7); replace HO_6 := ueR HO_6 ho29 hb; replace HO_7 := ueR HO_7 ho29 hb; replace HB := uy hb; clear hb ho29; obtain ⟨Ao30, co30, eo30⟩ := Kd.R_slice HO605.out; subst eo30) | ((with_reducible refine ug 77 rfl ?_); refine uh (some 41) rfl Try.func77 #[.slice A1 l1.length c1, .slice Ao30 y603.length co30] ?_; (with_reducible refine (windbreakref01_mul.calls k2 _ _ l1 _ _ y603 t606 _ ?side1 ?side2 ?side3 ?side4 A19.out).mono ?_); (case side1 => exact uC (Kd.C_below HR1.out HB.out)); (case side2 => exact HC1.out); (case side3 => exact uC (Kd.R_reads' HO605.out).2.2); (case side4 => exact (Kd.R_reads' HO605.out).2.1); rintro e w31 ⟨v607, rfl, ho0, hb⟩; refine ⟨_, rfl, ?_⟩; have HO608 := ulo (unw (unw (unw ho0 HO_6) HO_7) HO605); replace HO_6 := ueR HO_6 ho0 hb; replace HO_7 := ueR HO_7 ho0 hb; replace HO605 := ueR HO605 ho0 hb; replace HB := uy hb; (try clear hb ho0); obtain ⟨Ao32, co32, eo32⟩ := Kd.R_slice HO608.out; subst eo32; obtain ⟨Ao33, co33, eo33⟩ := Kd.R_slice HO_7.out; subst eo33) | ((with_reducible refine ug 74 rfl ?_); refine uh (some 43) rfl Try.func74 #[.slice Ao32 t606.length co32, .slice Ao33 t590.length co33] ?_; (with_reducible refine (windbreakref01_compare.calls k2 _ _ t606 _ _ t590 t609 _ ?side1 ?side2 ?side3 ?side4 A20.out).mono ?_); (case side1 => exact uC (Kd.R_reads' HO608.out).2.2); (case side2 => exact (Kd.R_reads' HO608.out).2.1); (case side3 => exact uC (Kd.R_reads' HO_7.out).2.2); (case side4 => exact (Kd.R_reads' HO_7.out).2.1); rintro e w' ⟨rfl, ⟨nd, rfl⟩⟩; refine ⟨_, rfl, ?_⟩))
       go_roundg k2
       case measure => have := HK1.out; have := HK2.out; omega
       case rel => exact ⟨(x9_2), (IntKind.u64.wrap ((IntKind.u64.wrap (Int.tdiv (IntKind.u64.wrap ((IntKind.u64.wrap (x9_2 + x10_2)) + 1)) 2)) - 1)), uG, uG, H', ⟨by have := HK1.out; have := HK2.out; omega⟩, ⟨by exact uR (Kd.R_mono HO_6.out (fun _ hk => hk.1.1))⟩, ⟨by (with_reducible repeat (first | apply Kd.R_alloc | apply Kd.R_drewN | apply Kd.R_drew)); exact Kd.R_mono HO_7.out (fun _ hk => hk.1.1)⟩, ⟨uB⟩⟩
      rw [if_neg c18] at H
      have c18b0 := decide_eq_false c18
      clear c18
      replace H := uT H; obtain ⟨c34, H⟩ := H
      have c34b0 := decide_eq_true c34
      clear c34
      replace H := uT H; obtain ⟨c35, H⟩ := H
      have c35b0 := decide_eq_true c35
      clear c35
      obtain ⟨y593, hy593⟩ : ∃ y_ : List Int, y_ = (x6_1.set (x8_1 : Int).toNat x9_2) := ⟨_, rfl⟩
      replace H : ((windbreakref01_mul.f k2 l1 (([x9_2] : List Int))).bind fun t597 => ((windbreakref01_sub.f k2 t590 t597).bind fun t600 => (windbreakref01_div.l0 k2 l0 l1 y593 t600 (wrap64 (x8_1 - 1))))) = some (r1, r2) := by first | (rw [hy593]; with_reducible exact H) | (have H2_ := (Option.bind_some _ _).symm.trans H; rw [hy593]; with_reducible exact H2_) | (have H2_ := (Option.bind_some _ _).symm.trans H; with_reducible exact H2_) | with_reducible exact H | (rw [hy593]; exact H) | exact H
      have Ny593 := Aside0.mk hy593; clear hy593
      obtain ⟨y594, hy594⟩ : ∃ y_ : List Int, y_ = (([x9_2] : List Int)) := ⟨_, rfl⟩
      replace H : ((windbreakref01_mul.f k2 l1 y594).bind fun t597 => ((windbreakref01_sub.f k2 t590 t597).bind fun t600 => (windbreakref01_div.l0 k2 l0 l1 y593 t600 (wrap64 (x8_1 - 1))))) = some (r1, r2) := by first | (rw [hy594]; with_reducible exact H) | (have H2_ := (Option.bind_some _ _).symm.trans H; rw [hy594]; with_reducible exact H2_) | (have H2_ := (Option.bind_some _ _).symm.trans H; with_reducible exact H2_) | with_reducible exact H | (rw [hy594]; exact H) | exact H
      have Ny594 := Aside0.mk hy594; clear hy594
      replace H := ub H; obtain ⟨t597, A37, H⟩ := H
      replace H := ub H; obtain ⟨t600, A38, H⟩ := H
      have H' := Aside0.mk H
      clear H
      have p36 : 0 ≤ (x8_1 : Int) := uO
      have q36 : (x8_1 : Int) < ((x6_1.length : Int) : Int) := uO
      obtain ⟨go36, co36, eo36, gb36, gl36, cl36, HG36⟩ := Kd.R_form HO_6.out (by omega)
      (first | cases eo36 | (injection eo36 with ea_ en_ ec_; (first | subst ea_ | (injection ea_ with ea_; subst ea_)); subst ec_; clear en_))
      have GB36 := Aside0.mk gb36; have GG36 := Aside0.mk HG36; clear gb36 gl36 HG36
      obtain ⟨hx36_0, hf36_0⟩ := Kd.R_celln 0 HO_6.out (x8_1 : Int) p36 q36
      replace p36 := eq_true p36
      replace q36 := eq_true q36
      have HP39 := Kd.R_putg HO_6.out (x8_1 : Int) x9_2
      go_wp2_with (first | ((with_reducible refine gate_store (t := 42) (p := 51) rfl ?_); refine store_event (t := 42) (p := 51) (v := ?vo_w40) (w1 := (wr.setCell ⟨go36, (x8_1 : Int).toNat, none⟩ (.int .u64 x9_2))) ?hg ?ho ?hn ?hr ?_; (case ho => rfl); (case hg => rfl); (case hn => rfl); (case hr => first | (go_simp; done) | (go_simp; rfl) | (obtain ⟨hy_, hz_⟩ := Kd.R_celln 0 HO_6.out (x8_1 : Int) uO uO; (try simp only [Go.IntWalk.toNatUp] at hy_ hz_); (try simp only [Int.reduceToNat, Int.toNat_zero, Int.toNat_ofNat] at hy_ hz_); first | (go_simp; done) | (go_simp; rfl))); intro w40 hw; have hg : wr.grownBy w40 (some go36) := (by rw [hw]; exact HP39.2); have hp_ : Kd.R (Kd.int .u64) 42 w40 w.heap.size (fun k_ => some k_ ≠ (v591 : Value).ownBlock) (.slice (some ⟨go36, 0, none⟩) x6_1.length co36) y593 := (by rw [hw, Ny593.out]; exact HP39.1); clear HP39; replace HO_6 := Aside0.mk (hp_); replace HO_7 := Aside0.mk (Kd.R_after (v := (.slice (some ⟨go36, 0, none⟩) x6_1.length co36)) (v1 := (.slice (some ⟨go36, 0, none⟩) x6_1.length co36)) (ok := (fun _ => True)) (uR (Kd.R_mono HO_7.out (fun _ hk => ⟨trivial, hk⟩))) hg (.inl rfl)); replace HB := Aside0.mk ((by rw [hw]; exact below_set (HB.out) GB36.out : Below w.heap.size w w40)); clear hg hw hp_) | ((with_reducible refine gate_dst (N := 55) rfl ?_); refine Kd.R_lit (Kd.int .u64) _ 42 ?hg (N := 55) ?hd (xs := ([x9_2] : List Int)) (inner := [.int .u64 x9_2]) (ok := fun _ => True) (okp := fun _ => True) ?hr ?hp (fun _ hk => hk) trivial (Below.refl _ _) (Nat.le_refl _) (by simp) ?_; (case hd => rfl); (case hg => rfl); (case hr => first | (go_simp; done) | (go_simp; rfl) | (go_simp; simp only [u64_u8]; done) | (go_simp; simp only [u64_u8]; rfl)); (case hp => exact (Reps.one (show Kd.M (Kd.int .u64) _ _ _ x9_2 [.int .u64 x9_2] from rfl) (Reps.none _ _))); intro v595 w41 ho42 hb hg_ hnew_; clear hg_ hnew_; (first | rw [← Ny594.out] at ho42 | (simp only [Int.reduceToNat] at ho42; rw [← Ny594.out] at ho42)); have HO596 := ulo (unw (unw ho42 HO_6) HO_7); replace HO_6 := ueR HO_6 ho42 hb; replace HO_7 := ueR HO_7 ho42 hb; replace HB := uy hb; clear hb ho42; obtain ⟨Ao43, co43, eo43⟩ := Kd.R_slice HO596.out; subst eo43) | ((with_reducible refine ug 77 rfl ?_); refine uh (some 56) rfl Try.func77 #[.slice A1 l1.length c1, .slice Ao43 y594.length co43] ?_; (with_reducible refine (windbreakref01_mul.calls k2 _ _ l1 _ _ y594 t597 _ ?side1 ?side2 ?side3 ?side4 A37.out).mono ?_); (case side1 => exact uC (Kd.C_below HR1.out HB.out)); (case side2 => exact HC1.out); (case side3 => exact uC (Kd.R_reads' HO596.out).2.2); (case side4 => exact (Kd.R_reads' HO596.out).2.1); rintro e w44 ⟨v598, rfl, ho0, hb⟩; refine ⟨_, rfl, ?_⟩; have HO599 := ulo (unw (unw (unw ho0 HO_6) HO_7) HO596); replace HO_6 := ueR HO_6 ho0 hb; replace HO_7 := ueR HO_7 ho0 hb; replace HO596 := ueR HO596 ho0 hb; replace HB := uy hb; (try clear hb ho0); obtain ⟨Ao45, co45, eo45⟩ := Kd.R_slice HO_7.out; subst eo45; obtain ⟨Ao46, co46, eo46⟩ := Kd.R_slice HO599.out; subst eo46) | ((with_reducible refine ug 76 rfl ?_); refine uh (some 57) rfl Try.func76 #[.slice Ao45 t590.length co45, .slice Ao46 t597.length co46] ?_; (with_reducible refine (windbreakref01_sub.calls k2 _ _ t590 _ _ t597 t600 _ ?side1 ?side2 ?side3 ?side4 A38.out).mono ?_); (case side1 => exact uC (Kd.R_reads' HO_7.out).2.2); (case side2 => exact (Kd.R_reads' HO_7.out).2.1); (case side3 => exact uC (Kd.R_reads' HO599.out).2.2); (case side4 => exact (Kd.R_reads' HO599.out).2.1); rintro e w47 ⟨v601, rfl, ho0, hb⟩; refine ⟨_, rfl, ?_⟩; have HO602 := ulo (unw (unw (unw (unw ho0 HO_6) HO_7) HO596) HO599); replace HO_6 := ueR HO_6 ho0 hb; replace HO_7 := ueR HO_7 ho0 hb; replace HO596 := ueR HO596 ho0 hb; replace HO599 := ueR HO599 ho0 hb; replace HB := uy hb; (try clear hb ho0)))
      go_roundg k2
      case measure => have := HK1.out; have := HK2.out; omega
      case rel => exact ⟨(y593), (t600), (wrap64 (x8_1 - 1)), uG, H', ⟨by have := HK1.out; have := HK2.out; omega⟩, ⟨by exact uR (Kd.R_mono HO_6.out (fun _ hk => hk.2))⟩, ⟨by (with_reducible repeat (first | apply Kd.R_alloc | apply Kd.R_drewN | apply Kd.R_drew)); exact Kd.R_mono HO602.out (fun _ hk => hk.1.1.1.2)⟩, ⟨uB⟩⟩
   rw [if_neg c7] at H
   have c7b0 := decide_eq_false c7
   clear c7
   replace H := ub H; obtain ⟨t580, A48, H⟩ := H
   simp only [Option.some.injEq, Prod.mk.injEq] at H
   obtain ⟨rfl, rfl⟩ := H
   obtain ⟨Ao49, co49, eo49⟩ := Kd.R_slice HO_6.out
   subst eo49
   go_wp2_with (first | ((with_reducible refine ug 60 rfl ?_); refine uh (some 59) rfl Try.func60 #[.slice Ao49 x6_1.length co49] ?_; (with_reducible refine (windbreakref01_cut.calls k1 (fun k_ => some k_ = (.slice Ao49 x6_1.length co49 : Value).ownBlock) (.slice Ao49 x6_1.length co49) x6_1 t580 w _ ?side1 ?side2 A48.out).mono ?_); (case side1 => repeat (first | (with_reducible first | exact HB.out | apply below_alloc | apply pw_below_drewN | apply below_drew1) | exact HB.out)); (case side2 => exact Kd.R_tight rfl HO_6.out); rintro e w50 ⟨v581, rfl, ho0, hb, hkp⟩; refine ⟨_, rfl, ?_⟩; have HO582 := Aside0.mk (Kd.R_mono (ok' := fun k_ => some k_ ≠ (u7 : Value).ownBlock) ho0 (fun k_ hk_ => Or.elim hk_ (fun hs_ => fun e_ => (((HO_7.out).1 k_ e_.symm)) hs_) (fun hn_ => (Kd.fresh' (Kd.R_lt (uR HO_7.out)) k_ hn_)))); replace HO_7 := Aside0.mk (Kd.R_mono (ok' := fun k_ => some k_ ≠ (v581 : Value).ownBlock) (Kd.R_keptB (HO_7.out) hkp (fun k_ hk_ hs_ => (hk_) hs_)) (fun k_ hk_ => fun e_ => Or.elim (ho0.1 k_ e_.symm) (fun hs_ => hk_.2.1 hs_) (fun hn_ => Nat.not_le.2 hk_.2.2 hn_))); replace HB := Aside0.mk (hb); clear HO_6; (try clear hb); (try clear hkp); (try clear ho0)))
   go_ret2
   exact ⟨_, _, uF, uR HO582.out, uR HO_7.out, uB⟩
def windbreakref01_power.l0 : Nat → Int → List Int → Int → Option (List Int)
 | 0, _, _, _ => none
 | k + 1, x0, x3, x4 => if x4 < (Int.tmod x0 16) then (if 0 ≤ (wrap64 (Int.tdiv x0 16)) then (if (wrap64 (Int.tdiv x0 16)) < (x3.length : Int) then (windbreakref01_power.l0 k x0 (x3.set ((wrap64 (Int.tdiv x0 16)) : Int).toNat (IntKind.u64.wrap ((rd x3 (wrap64 (Int.tdiv x0 16))) * 2))) (wrap64 (x4 + 1))) else (none)) else (none)) else (some x3)
def windbreakref01_power.f (k : Nat) (a0 : Int) : Option (List Int) := if 0 ≤ (wrap64 ((wrap64 (Int.tdiv a0 16)) + 1)) then (if (wrap64 ((wrap64 (Int.tdiv a0 16)) + 1) : Int).toNat ≤ 35184372088832 then ((some (List.replicate (wrap64 ((wrap64 (Int.tdiv a0 16)) + 1) : Int).toNat 0 : List Int)).bind fun y610 => (if 0 ≤ (wrap64 (Int.tdiv a0 16)) then (if (wrap64 (Int.tdiv a0 16)) < (y610.length : Int) then (windbreakref01_power.l0 k a0 (y610.set ((wrap64 (Int.tdiv a0 16)) : Int).toNat 1) 0) else (none)) else (none))) else (none)) else (none)
theorem windbreakref01_power.calls (k : Nat) (a0 : Int) (r : List Int) (w : World) (h : windbreakref01_power.f k a0 = some r) :
  Calls Try.prog 78 #[.int .i64 a0] w fun e w' => ∃ v0_ : Value, e = .returned (v0_) ∧ Kd.R (Kd.int .u64) 42 w' w.heap.size (fun _ => True) v0_ r ∧ Below w.heap.size w w' := by
 have HB := Aside0.mk (Below.refl w.heap.size w)
 have H : (if 0 ≤ (wrap64 ((wrap64 (Int.tdiv a0 16)) + 1)) then (if (wrap64 ((wrap64 (Int.tdiv a0 16)) + 1) : Int).toNat ≤ 35184372088832 then ((some (List.replicate (wrap64 ((wrap64 (Int.tdiv a0 16)) + 1) : Int).toNat 0 : List Int)).bind fun y610 => (if 0 ≤ (wrap64 (Int.tdiv a0 16)) then (if (wrap64 (Int.tdiv a0 16)) < (y610.length : Int) then (windbreakref01_power.l0 k a0 (y610.set ((wrap64 (Int.tdiv a0 16)) : Int).toNat 1) 0) else (none)) else (none))) else (none)) else (none)) = some r := h
 clear h
 obtain ⟨ji2, hji2⟩ : ∃ j_ : Int, (wrap64 ((wrap64 (Int.tdiv a0 16)) + 1)) = j_ := ⟨_, rfl⟩
 first | rw [hji2] at H | simp only [hji2] at H
 have hji2w : (IntKind.i64.wrap ((wrap64 (Int.tdiv a0 16)) + 1)) = ji2 := (i64_w _).trans hji2
 replace H := uT H; obtain ⟨c3, H⟩ := H
 have c3b0 := eq_true c3
 have c3b1 := decide_eq_true c3
 clear c3
 replace H := uT H; obtain ⟨c4, H⟩ := H
 have c4b0 := eq_true c4
 have c4b1 := decide_eq_true c4
 clear c4
 replace H := ubs H; obtain ⟨y610, hy610, H⟩ := H
 have Ny610 := Aside0.mk hy610; clear hy610
 obtain ⟨ji5, hji5⟩ : ∃ j_ : Int, (wrap64 (Int.tdiv a0 16)) = j_ := ⟨_, rfl⟩
 first | rw [hji5] at H | simp only [hji5] at H
 have hji5w : (IntKind.i64.wrap (Int.tdiv a0 16)) = ji5 := (i64_w _).trans hji5
 (try simp only [hji5] at hji2)
 (try simp only [hji5] at hji2w)
 replace H := uT H; obtain ⟨c6, H⟩ := H
 have c6b0 := decide_eq_true c6
 clear c6
 replace H := uT H; obtain ⟨c7, H⟩ := H
 have c7b0 := decide_eq_true c7
 clear c7
 obtain ⟨y613, hy613⟩ : ∃ y_ : List Int, y_ = (y610.set ((ji5) : Int).toNat 1) := ⟨_, rfl⟩
 replace H : (windbreakref01_power.l0 k a0 y613 0) = some r := by first | (rw [hy613]; with_reducible exact H) | (have H2_ := (Option.bind_some _ _).symm.trans H; rw [hy613]; with_reducible exact H2_) | (have H2_ := (Option.bind_some _ _).symm.trans H; with_reducible exact H2_) | with_reducible exact H | (rw [hy613]; exact H) | exact H
 have Ny613 := Aside0.mk hy613; clear hy613
 have H' := Aside0.mk H
 clear H
 go_enter Try.func78, Try.ntmps78
 go_wp2_with (first | ((with_reducible refine gate_dst (N := 8) rfl ?_); refine Kd.R_make (Kd.int .u64) _ 42 rfl (N := 8) rfl 62 _ _ rfl ji2 rfl rfl Try.underlying62 (.int .u64 0) 8 info42 rfl (by decide) (by omega) 0 (ok := fun _ => True) (okp := fun _ => True) rfl (fun _ hk => hk) trivial uO (Nat.le_trans (Nat.mul_le_mul_right _ (uO : ji2.toNat ≤ 35184372088832)) (by omega)) (Below.refl _ _) (Nat.le_refl _) ?_; intro v611 w9 ho10 hb hg_ hnew_; clear hg_ hnew_; (first | rw [← Ny610.out] at ho10 | (simp only [Int.reduceToNat] at ho10; rw [← Ny610.out] at ho10)); have HO612 := ulo ho10; replace HB := uy hb; clear hb ho10; have p8 : 0 ≤ ((ji5) : Int) := uO; have q8 : ((ji5) : Int) < ((y610.length : Int) : Int) := uO; obtain ⟨go8, co8, eo8, gb8, gl8, cl8, HG8⟩ := Kd.R_form HO612.out (by omega); (first | cases eo8 | (injection eo8 with ea_ en_ ec_; (first | subst ea_ | (injection ea_ with ea_; subst ea_)); subst ec_; clear en_)); have GB8 := Aside0.mk gb8; have GG8 := Aside0.mk HG8; clear gb8 gl8 HG8; obtain ⟨hx8_0, hf8_0⟩ := Kd.R_celln 0 HO612.out ((ji5) : Int) p8 q8; replace p8 := eq_true p8; replace q8 := eq_true q8; obtain ⟨hy11_, hz11_⟩ := Kd.R_celln 0 HO612.out ((ji5) : Int) uO uO; have HP11 := Kd.R_putg HO612.out ((ji5) : Int) 1) | ((with_reducible refine gate_store (t := 42) (p := 12) rfl ?_); refine store_event (t := 42) (p := 12) (v := ?vo_w12) (w1 := (w9.setCell ⟨go8, ((ji5) : Int).toNat, none⟩ (.int .u64 1))) ?hg ?ho ?hn ?hr ?_; (case ho => rfl); (case hg => rfl); (case hn => rfl); (case hr => first | (go_simp; done) | (go_simp; rfl) | (obtain ⟨hy_, hz_⟩ := Kd.R_celln 0 HO612.out ((ji5) : Int) uO uO; (try simp only [Go.IntWalk.toNatUp] at hy_ hz_); (try simp only [Int.reduceToNat, Int.toNat_zero, Int.toNat_ofNat] at hy_ hz_); first | (go_simp; done) | (go_simp; rfl))); intro w12 hw; have hg : w9.grownBy w12 (some go8) := (by rw [hw]; exact HP11.2); have hp_ : Kd.R (Kd.int .u64) 42 w12 w.heap.size (fun _ => True) (.slice (some ⟨go8, 0, none⟩) y610.length co8) y613 := (by rw [hw, Ny613.out]; exact HP11.1); clear HP11; replace HO612 := Aside0.mk (hp_); replace HB := Aside0.mk ((by rw [hw]; exact below_set (HB.out) GB8.out : Below w.heap.size w w12)); clear hg hw hp_))
 go_loopg [4] k (fun kq v4 w' => ∃ (x3_1 : List Int) (x4_1 : Int), v4 = .int .i64 x4_1 ∧ Aside0 (windbreakref01_power.l0 kq a0 x3_1 x4_1 = some r) ∧ Aside0 (kq ≤ k) ∧ Aside0 (Kd.R (Kd.int .u64) 42 w' w.heap.size (fun _ => True) (.slice (some ⟨go8, 0, none⟩) y610.length co8) x3_1) ∧ Aside0 (Below w.heap.size w w'))
 case atStart => exact ⟨(y613), (0), uG, H', ⟨Nat.le_refl _⟩, ⟨uR HO612.out⟩, ⟨uB⟩⟩
 case round =>
  clear H'
  ; (try clear q8 q8); (try clear hx8 hx8_0); (try clear hf8)
  obtain ⟨x3_1, x4_1, rfl, HA, HK1, HO_3, HB⟩ := hrel
  have hl3_1 := (Kd.R_reads' HO_3.out).1
  rw [hl3_1] at HO_3
  (try simp only [hl3_1])
  cases gk with
  | zero => exact absurd HA.out (by simp [windbreakref01_power.l0])
  | succ k1 =>
   have H := HA.out
   clear HA
   simp only [windbreakref01_power.l0] at H
   by_cases c13 : x4_1 < (Int.tmod a0 16)
   ·
    rw [if_pos c13] at H
    have c13b0 := decide_eq_true c13
    clear c13
    obtain ⟨ji14, hji14⟩ : ∃ j_ : Int, (wrap64 (Int.tdiv a0 16)) = j_ := ⟨_, rfl⟩
    first | rw [hji14] at H | simp only [hji14] at H
    have hji14w : (IntKind.i64.wrap (Int.tdiv a0 16)) = ji14 := (i64_w _).trans hji14
    (try simp only [hji14] at hji2)
    (try simp only [hji14] at hji2w)
    (try (have e_ : ji14 = ji5 := hji14.symm.trans hji5; subst e_))
    replace H := uT H; obtain ⟨c15, H⟩ := H
    have c15b0 := decide_eq_true c15
    clear c15
    replace H := uT H; obtain ⟨c16, H⟩ := H
    have c16b0 := decide_eq_true c16
    (try (have c16b0h0 := c16b0; simp only [hl3_1] at c16b0h0))
    clear c16
    obtain ⟨y615, hy615⟩ : ∃ y_ : List Int, y_ = (x3_1.set ((ji14) : Int).toNat (IntKind.u64.wrap ((rd x3_1 (ji14)) * 2))) := ⟨_, rfl⟩
    replace H : (windbreakref01_power.l0 k1 a0 y615 (wrap64 (x4_1 + 1))) = some r := by first | (rw [hy615]; with_reducible exact H) | (have H2_ := (Option.bind_some _ _).symm.trans H; rw [hy615]; with_reducible exact H2_) | (have H2_ := (Option.bind_some _ _).symm.trans H; with_reducible exact H2_) | with_reducible exact H | (rw [hy615]; exact H) | exact H
    have Ny615 := Aside0.mk hy615; clear hy615
    have H' := Aside0.mk H
    clear H
    have p614 : 0 ≤ ((ji14) : Int) := uO
    have q614 : (ji14) < (x3_1.length : Int) := uO
    obtain ⟨ad614, e614, hx614_0⟩ := Kd.at_int (Kd.R_reads' HO_3.out).2.2 (ji14) p614 q614
    obtain rfl : (⟨go8, 0, none⟩ : Addr) = ad614 := (by injection e614)
    (first | simp only [add_plain] at hx614_0 | simp only [add_at] at hx614_0 | simp only [Addr.add, Nat.zero_add] at hx614_0 | skip)
    replace p614 := eq_true p614
    replace q614 := eq_true q614
    have p17 : 0 ≤ ((ji14) : Int) := uO
    have q17 : ((ji14) : Int) < ((x3_1.length : Int) : Int) := uO
    obtain ⟨hx17_0, hf17_0⟩ := Kd.R_celln 0 HO_3.out ((ji14) : Int) p17 q17
    replace p17 := eq_true p17
    replace q17 := eq_true q17
    have HP18 := Kd.R_putg HO_3.out ((ji14) : Int) (IntKind.u64.wrap ((rd x3_1 (ji14)) * 2))
    go_wp2_with (first | ((with_reducible refine gate_store (t := 42) (p := 28) rfl ?_); refine store_event (t := 42) (p := 28) (v := ?vo_w19) (w1 := (wr.setCell ⟨go8, ((ji14) : Int).toNat, none⟩ (.int .u64 (IntKind.u64.wrap ((rd x3_1 (ji14)) * 2))))) ?hg ?ho ?hn ?hr ?_; (case ho => rfl); (case hg => rfl); (case hn => rfl); (case hr => first | (go_simp; done) | (go_simp; rfl) | (obtain ⟨hy_, hz_⟩ := Kd.R_celln 0 HO_3.out ((ji14) : Int) uO uO; (try simp only [Go.IntWalk.toNatUp] at hy_ hz_); (try simp only [Int.reduceToNat, Int.toNat_zero, Int.toNat_ofNat] at hy_ hz_); first | (go_simp; done) | (go_simp; rfl))); intro w19 hw; have hg : wr.grownBy w19 (some go8) := (by rw [hw]; exact HP18.2); have hp_ : Kd.R (Kd.int .u64) 42 w19 w.heap.size (fun _ => True) (.slice (some ⟨go8, 0, none⟩) x3_1.length co8) y615 := (by rw [hw, Ny615.out]; exact HP18.1); clear HP18; replace HO_3 := Aside0.mk (hp_); replace HB := Aside0.mk ((by rw [hw]; exact below_set (HB.out) GB8.out : Below w.heap.size w w19)); clear hg hw hp_))
    (try simp only [← hl3_1])
    first | go_roundg k1 | ((try simp only [← hji14] at H'); simp only [← hji14]; go_roundg k1) | ((try simp only [← hji5] at H'); simp only [← hji5]; go_roundg k1) | ((try simp only [← hji2] at H'); simp only [← hji2]; go_roundg k1)
    case measure => have := HK1.out; omega
    case rel => first | exact ⟨(y615), (wrap64 (x4_1 + 1)), uG, H', ⟨by have := HK1.out; omega⟩, ⟨by (try simp only [hl3_1]); exact uR HO_3.out⟩, ⟨uB⟩⟩ | (simp only [← hji14] at H'; exact ⟨(y615), (wrap64 (x4_1 + 1)), uG, H', ⟨by have := HK1.out; omega⟩, ⟨by (try simp only [hl3_1]); exact uR HO_3.out⟩, ⟨uB⟩⟩) | (simp only [← hji5] at H'; exact ⟨(y615), (wrap64 (x4_1 + 1)), uG, H', ⟨by have := HK1.out; omega⟩, ⟨by (try simp only [hl3_1]); exact uR HO_3.out⟩, ⟨uB⟩⟩) | (simp only [← hji2] at H'; exact ⟨(y615), (wrap64 (x4_1 + 1)), uG, H', ⟨by have := HK1.out; omega⟩, ⟨by (try simp only [hl3_1]); exact uR HO_3.out⟩, ⟨uB⟩⟩)
   rw [if_neg c13] at H
   have c13b0 := decide_eq_false c13
   clear c13
   obtain rfl := Option.some.inj H
   go_wp2
   go_ret
   exact ⟨_, by first | rfl | (simp [errW_none, errW_some] <;> rfl) | (simp only [← hji2, ← hji5]; first | rfl | (simp [errW_none, errW_some] <;> rfl)) | (simp [*, errW_none, errW_some] <;> rfl), uR HO_3.out, uB⟩
def windbreakref01_Shr.j0 : Nat → List Int → Int → Bool → Option (List Int × Int)
 | 0, _, _, _ => none
 | k + 1, x0, x1, x16 => if x16 = true then (some (([] : List Int), 1)) else (if x1 ≥ 4096 then (some (([] : List Int), 0)) else ((windbreakref01_In.f k x0).bind fun t617 => ((windbreakref01_power.f k x1).bind fun t620 => ((windbreakref01_div.f k t617 t620).bind fun bt623 => ((windbreakref01_told.f k bt623.1).bind fun bt629 => (some (bt629.1, bt629.2)))))))
def windbreakref01_Shr.f (k : Nat) (l0 : List Int) (a1 : Int) : Option (List Int × Int) := (windbreakref01_Right.f l0).bind fun t616 => (if t616 = true then (windbreakref01_Shr.j0 k l0 a1 (decide (a1 < 0))) else (windbreakref01_Shr.j0 k l0 a1 true))
theorem windbreakref01_Shr.calls (k : Nat) (A0 : Option Addr) (c0 : Nat) (l0 : List Int) (a1 : Int) (r1 : List Int) (r2 : Int) (w : World) (hr0 : Kd.C (Kd.int .u64) w A0 l0.length l0) (hc0 : l0.length ≤ c0) (h : windbreakref01_Shr.f k l0 a1 = some (r1, r2)) :
  Calls Try.prog 75 #[.slice A0 l0.length c0, .int .i64 a1] w fun e w' => ∃ v0_ : Value, e = .returned (.tuple #[v0_, .int .i64 r2]) ∧ Kd.R (Kd.int .u64) 42 w' w.heap.size (fun _ => True) v0_ r1 ∧ Below w.heap.size w w' := by
 have HR0 := Aside0.mk hr0; have HC0 := Aside0.mk hc0; clear hr0 hc0
 have HB := Aside0.mk (Below.refl w.heap.size w)
 have H : ((windbreakref01_Right.f l0).bind fun t616 => (if t616 = true then (windbreakref01_Shr.j0 k l0 a1 (decide (a1 < 0))) else (windbreakref01_Shr.j0 k l0 a1 true))) = some (r1, r2) := h
 clear h
 replace H := ub H; obtain ⟨t616, A3, H⟩ := H
 have HC4 := Aside0.mk H; clear H
 go_enter Try.func75, Try.ntmps75
 go_upto_region 2 with (first | ((with_reducible refine ug 31 rfl ?_); refine uh (some 10) rfl Try.func31 #[.slice A0 l0.length c0] ?_; (with_reducible refine (windbreakref01_Right.calls _ _ l0 t616 _ ?side1 ?side2 A3.out).mono ?_); (case side1 => exact uC HR0.out); (case side2 => exact HC0.out); rintro e w' ⟨rfl, ⟨nd, rfl⟩⟩; refine ⟨_, rfl, ?_⟩))
 (try simp only [Act.put, List.setIfInBounds_toArray, List.set_cons_zero, List.set_cons_succ])
 go_cut [16] (fun v16 wc => ∃ (kq : Nat) (x16_3 : Bool), v16 = .bool x16_3 ∧ Aside0 (windbreakref01_Shr.j0 kq l0 a1 x16_3 = some (r1, r2)) ∧ Aside0 (kq ≤ k) ∧ Aside0 (Below w.heap.size w wc))
 case first =>
  have H := HC4.out
  clear HC4
  by_cases c5 : t616 = true
  ·
   subst c5
   have H1 : (windbreakref01_Shr.j0 k l0 a1 (decide (a1 < 0))) = some (r1, r2) := by rw [if_pos rfl] at H; exact H
   clear H; have H := H1; clear H1
   have H' := Aside0.mk H
   clear H
   go_wp2
   go_meet
   case rel => exact ⟨_, (decide (a1 < 0)), uG, H', ⟨uW⟩, ⟨uB⟩⟩
  replace c5 := Bool.eq_false_iff.mpr c5
  subst c5
  have H1 : (windbreakref01_Shr.j0 k l0 a1 true) = some (r1, r2) := by rw [if_neg (show ¬ (false = true) by decide)] at H; exact H
  clear H; have H := H1; clear H1
  have H' := Aside0.mk H
  clear H
  go_wp2
  go_meet
  case rel => exact ⟨_, (true), uG, H', ⟨uW⟩, ⟨uB⟩⟩
 case rest =>
  clear HC4
  obtain ⟨kq, x16_3, rfl, HA, HJ3, HB⟩ := hcut
  cases kq with
  | zero => exact absurd HA.out (by simp [windbreakref01_Shr.j0])
  | succ kj3 =>
   have H := HA.out
   clear HA
   simp only [windbreakref01_Shr.j0] at H
   by_cases c6 : x16_3 = true
   ·
    subst c6
    have H1 : (some (([] : List Int), 1)) = some (r1, r2) := by rw [if_pos rfl] at H; exact H
    clear H; have H := H1; clear H1
    simp only [Option.some.injEq, Prod.mk.injEq] at H
    obtain ⟨rfl, rfl⟩ := H
    go_wp2
    go_ret2
    exact ⟨_, uF, uI, uB⟩
   replace c6 := Bool.eq_false_iff.mpr c6
   subst c6
   have H1 : (if a1 ≥ 4096 then (some (([] : List Int), 0)) else ((windbreakref01_In.f kj3 l0).bind fun t617 => ((windbreakref01_power.f kj3 a1).bind fun t620 => ((windbreakref01_div.f kj3 t617 t620).bind fun bt623 => ((windbreakref01_told.f kj3 bt623.1).bind fun bt629 => (some (bt629.1, bt629.2))))))) = some (r1, r2) := by rw [if_neg (show ¬ (false = true) by decide)] at H; exact H
   clear H; have H := H1; clear H1
   by_cases c7 : a1 ≥ 4096
   ·
    rw [if_pos c7] at H
    have c7b0 := decide_eq_true c7
    clear c7
    simp only [Option.some.injEq, Prod.mk.injEq] at H
    obtain ⟨rfl, rfl⟩ := H
    go_wp2
    go_ret2
    exact ⟨_, uF, uI, uB⟩
   rw [if_neg c7] at H
   have c7b0 := decide_eq_false c7
   clear c7
   replace H := ub H; obtain ⟨t617, A8, H⟩ := H
   replace H := ub H; obtain ⟨t620, A9, H⟩ := H
   replace H := ub H; obtain ⟨⟨t623, t624⟩, A10, H⟩ := H
   (try dsimp only at H)
   replace H := ub H; obtain ⟨⟨t629, t630⟩, A11, H⟩ := H
   (try dsimp only at H)
   simp only [Option.some.injEq, Prod.mk.injEq] at H
   obtain ⟨rfl, rfl⟩ := H
   go_wp2_with (first | ((with_reducible refine ug 34 rfl ?_); refine uh (some 21) rfl Try.func34 #[.slice A0 l0.length c0] ?_; (with_reducible refine (windbreakref01_In.calls kj3 _ _ l0 t617 _ ?side1 ?side2 A8.out).mono ?_); (case side1 => exact uC (Kd.C_below HR0.out HB.out)); (case side2 => exact HC0.out); rintro e w12 ⟨v618, rfl, ho0, hb⟩; refine ⟨_, rfl, ?_⟩; have HO619 := ulo ho0; replace HB := uy hb; (try clear hb ho0)) | ((with_reducible refine ug 78 rfl ?_); refine uh (some 23) rfl Try.func78 #[.int .i64 a1] ?_; (with_reducible refine (windbreakref01_power.calls kj3 a1 t620 _ A9.out).mono ?_); rintro e w13 ⟨v621, rfl, ho0, hb⟩; refine ⟨_, rfl, ?_⟩; have HO622 := ulo (unw ho0 HO619); replace HO619 := ueR HO619 ho0 hb; replace HB := uy hb; (try clear hb ho0); obtain ⟨Ao14, co14, eo14⟩ := Kd.R_slice HO619.out; subst eo14; obtain ⟨Ao15, co15, eo15⟩ := Kd.R_slice HO622.out; subst eo15) | ((with_reducible refine ug 61 rfl ?_); refine uh (some 24) rfl Try.func61 #[.slice Ao14 t617.length co14, .slice Ao15 t620.length co15] ?_; (with_reducible refine (windbreakref01_div.calls kj3 _ _ t617 _ _ t620 t623 t624 _ ?side1 ?side2 ?side3 ?side4 A10.out).mono ?_); (case side1 => exact uC (Kd.R_reads' HO619.out).2.2); (case side2 => exact (Kd.R_reads' HO619.out).2.1); (case side3 => exact uC (Kd.R_reads' HO622.out).2.2); (case side4 => exact (Kd.R_reads' HO622.out).2.1); rintro e w16 ⟨v625, v627, rfl, ho0, ho1, hb⟩; refine ⟨_, rfl, ?_⟩; have HO626 := ulo (unw (unw ho0 HO619) HO622); have HO628 := ulo (unw (unw ho1 HO619) HO622); replace HO619 := Aside0.mk (Kd.R_mono (Kd.R_told (Kd.R_told (Kd.R_old (uR HO619.out) hb) (Kd.R_base ho0)) (Kd.R_base ho1)) (fun _ h_ => h_.1)); replace HO622 := Aside0.mk (Kd.R_mono (Kd.R_told (Kd.R_told (Kd.R_old (uR HO622.out) hb) (Kd.R_base ho0)) (Kd.R_base ho1)) (fun _ h_ => h_.1)); replace HB := uy hb; (try clear hb ho0 ho1); obtain ⟨Ao17, co17, eo17⟩ := Kd.R_slice HO626.out; subst eo17) | ((with_reducible refine ug 32 rfl ?_); refine uh (some 28) rfl Try.func32 #[.slice Ao17 t623.length co17] ?_; (with_reducible refine (windbreakref01_told.calls kj3 _ _ t623 t629 t630 _ ?side1 ?side2 A11.out).mono ?_); (case side1 => exact uC (Kd.R_reads' HO626.out).2.2); (case side2 => exact (Kd.R_reads' HO626.out).2.1); rintro e w18 ⟨v631, rfl, ho0, hb⟩; refine ⟨_, rfl, ?_⟩; have HO632 := ulo (unw (unw (unw (unw ho0 HO619) HO622) HO626) HO628); replace HO619 := ueR HO619 ho0 hb; replace HO622 := ueR HO622 ho0 hb; replace HO626 := ueR HO626 ho0 hb; replace HO628 := ueR HO628 ho0 hb; replace HB := uy hb; (try clear hb ho0)))
   go_ret2
   exact ⟨_, uF, by exact uR (Kd.R_mono HO632.out (fun _ hk => trivial)), uB⟩
def windbreakref07_half.f (k : Nat) (l0 : List Int) : Option (List Int) := (windbreakref01_Of.f 1).bind fun t633 => ((windbreakref01_Sub.f k l0 t633).bind fun bt636 => ((windbreakref01_Shr.f k bt636.1 1).bind fun bt640 => (some bt640.1)))
theorem windbreakref07_half.calls (k : Nat) (A0 : Option Addr) (c0 : Nat) (l0 : List Int) (r : List Int) (w : World) (hr0 : Kd.C (Kd.int .u64) w A0 l0.length l0) (hc0 : l0.length ≤ c0) (h : windbreakref07_half.f k l0 = some r) :
  Calls Try.prog 49 #[.slice A0 l0.length c0] w fun e w' => ∃ v0_ : Value, e = .returned (v0_) ∧ Kd.R (Kd.int .u64) 42 w' w.heap.size (fun _ => True) v0_ r ∧ Below w.heap.size w w' := by
 have HR0 := Aside0.mk hr0; have HC0 := Aside0.mk hc0; clear hr0 hc0
 have HB := Aside0.mk (Below.refl w.heap.size w)
 have H : ((windbreakref01_Of.f 1).bind fun t633 => ((windbreakref01_Sub.f k l0 t633).bind fun bt636 => ((windbreakref01_Shr.f k bt636.1 1).bind fun bt640 => (some bt640.1)))) = some r := h
 clear h
 replace H := ub H; obtain ⟨t633, A2, H⟩ := H
 replace H := ub H; obtain ⟨⟨t636, t637⟩, A3, H⟩ := H
 (try dsimp only at H)
 replace H := ub H; obtain ⟨⟨t640, t641⟩, A4, H⟩ := H
 (try dsimp only at H)
 obtain rfl := Option.some.inj H
 go_enter Try.func49, Try.ntmps49
 go_wp2_with (first | ((with_reducible refine ug 48 rfl ?_); refine uh (some 9) rfl Try.func48 #[.int .u64 1] ?_; (with_reducible refine (windbreakref01_Of.calls 1 t633 _ A2.out).mono ?_); rintro e w5 ⟨v634, rfl, ho0, hb⟩; refine ⟨_, rfl, ?_⟩; have HO635 := ulo ho0; replace HB := uy hb; (try clear hb ho0); obtain ⟨Ao6, co6, eo6⟩ := Kd.R_slice HO635.out; subst eo6) | ((with_reducible refine ug 51 rfl ?_); refine uh (some 10) rfl Try.func51 #[.slice A0 l0.length c0, .slice Ao6 t633.length co6] ?_; (with_reducible refine (windbreakref01_Sub.calls k _ _ l0 _ _ t633 t636 t637 _ ?side1 ?side2 ?side3 ?side4 A3.out).mono ?_); (case side1 => exact uC (Kd.C_below HR0.out HB.out)); (case side2 => exact HC0.out); (case side3 => exact uC (Kd.R_reads' HO635.out).2.2); (case side4 => exact (Kd.R_reads' HO635.out).2.1); rintro e w7 ⟨v638, rfl, ho0, hb⟩; refine ⟨_, rfl, ?_⟩; have HO639 := ulo (unw ho0 HO635); replace HO635 := ueR HO635 ho0 hb; replace HB := uy hb; (try clear hb ho0); obtain ⟨Ao8, co8, eo8⟩ := Kd.R_slice HO639.out; subst eo8) | ((with_reducible refine ug 75 rfl ?_); refine uh (some 15) rfl Try.func75 #[.slice Ao8 t636.length co8, .int .i64 1] ?_; (with_reducible refine (windbreakref01_Shr.calls k _ _ t636 1 t640 t641 _ ?side1 ?side2 A4.out).mono ?_); (case side1 => exact uC (Kd.R_reads' HO639.out).2.2); (case side2 => exact (Kd.R_reads' HO639.out).2.1); rintro e w9 ⟨v642, rfl, ho0, hb⟩; refine ⟨_, rfl, ?_⟩; have HO643 := ulo (unw (unw ho0 HO635) HO639); replace HO635 := ueR HO635 ho0 hb; replace HO639 := ueR HO639 ho0 hb; replace HB := uy hb; (try clear hb ho0)))
 go_ret
 exact ⟨_, uF, by exact uR (Kd.R_mono HO643.out (fun _ hk => trivial)), uB⟩
def windbreakref03_From.f (a0 : Bool) (l1 : List Int) : Option (Bool × List Int) := (windbreakref01_Right.f l1).bind fun t645 => (if t645 = true then (if (l1.length : Int) = 0 then (some (false, ([] : List Int))) else ((some (([] : List Int) : List Int)).bind fun y646 => (if y646.length + l1.length < 17592186044416 then (some (a0, (y646 ++ l1))) else (none)))) else (some (false, ([] : List Int))))
theorem windbreakref03_From.calls (a0 : Bool) (A1 : Option Addr) (c1 : Nat) (l1 : List Int) (r1 : Bool) (r2 : List Int) (w : World) (hr1 : Kd.C (Kd.int .u64) w A1 l1.length l1) (hc1 : l1.length ≤ c1) (h : windbreakref03_From.f a0 l1 = some (r1, r2)) :
  Calls Try.prog 50 #[.bool a0, .slice A1 l1.length c1] w fun e w' => ∃ v1_ : Value, e = .returned (.agg #[.bool r1, v1_]) ∧ Kd.R (Kd.int .u64) 42 w' w.heap.size (fun _ => True) v1_ r2 ∧ Below w.heap.size w w' := by
 have hu44 := Try.underlying44
 have HR1 := Aside0.mk hr1; have HC1 := Aside0.mk hc1; clear hr1 hc1
 have HB := Aside0.mk (Below.refl w.heap.size w)
 have H : ((windbreakref01_Right.f l1).bind fun t645 => (if t645 = true then (if (l1.length : Int) = 0 then (some (false, ([] : List Int))) else ((some (([] : List Int) : List Int)).bind fun y646 => (if y646.length + l1.length < 17592186044416 then (some (a0, (y646 ++ l1))) else (none)))) else (some (false, ([] : List Int))))) = some (r1, r2) := h
 clear h
 replace H := ub H; obtain ⟨t645, A3, H⟩ := H
 by_cases c4 : t645 = true
 ·
  subst c4
  have H1 : (if (l1.length : Int) = 0 then (some (false, ([] : List Int))) else ((some (([] : List Int) : List Int)).bind fun y646 => (if y646.length + l1.length < 17592186044416 then (some (a0, (y646 ++ l1))) else (none)))) = some (r1, r2) := by rw [if_pos rfl] at H; exact H
  clear H; have H := H1; clear H1
  by_cases c5 : (l1.length : Int) = 0
  ·
   rw [if_pos c5] at H
   have c5b0 := beq_iff_eq.mpr c5
   have c5b1 := bne_eq_false_iff_eq.mpr c5
   clear c5
   simp only [Option.some.injEq, Prod.mk.injEq] at H
   obtain ⟨rfl, rfl⟩ := H
   go_enter Try.func50, Try.ntmps50
   go_wp2_with (first | ((with_reducible refine gate_dst (N := 4) rfl ?_); (try (refine gate_guard (by rfl) ?_; dsimp only)); refine ubx 4 #[.bool false, .slice none 0 0] 44 rfl rfl ?_; intro gb644 hg w6 hbox hb; have BK644 := Aside0.mk (hbox); have GW644 := us hg; have GE644 := us hg; replace HB := uy hb; clear hb hbox hg) | ((with_reducible refine ug 31 rfl ?_); refine uh (some 7) rfl Try.func31 #[.slice A1 l1.length c1] ?_; (with_reducible refine (windbreakref01_Right.calls _ _ l1 true _ ?side1 ?side2 A3.out).mono ?_); (case side1 => exact uC (Kd.C_below HR1.out HB.out)); (case side2 => exact HC1.out); rintro e w' ⟨rfl, ⟨nd, rfl⟩⟩; refine ⟨_, rfl, ?_⟩; (try (rw [drewN_self w6]; generalize hq_ : World.drewN w6 _ = w6; replace BK644 : Aside0 (w6.heap[gb644]? = some (.cells #[.bool false, .slice none 0 0] 44 (0, 0))) := ⟨by rw [← hq_]; exact (uK BK644.out)⟩; replace HB : Aside0 (Below w.heap.size w w6) := ⟨by rw [← hq_]; exact uB⟩; clear hq_)); obtain ⟨hcz7_0, hcz7_1, hfz7_0, hfz7_1⟩ := uz2 w6 BK644))
   refine bodyPost_ret (results_cell_row rfl _ _ gb644 44 #[.bool false, .slice none 0 0] (0, 0) _ rfl (by refine blk_put (cs := #[.bool false, .slice none 0 0]) ?_ 1 _ rfl; refine blk_put (cs := #[.bool false, .slice none 0 0]) ?_ 0 _ rfl; exact uK BK644.out) Try.underlying44 rfl (by kernel_rfl)) rfl ?_
   exact ⟨_, uF, uI, uB⟩
  rw [if_neg c5] at H
  have c5b0 := beq_eq_false_iff_ne.mpr c5
  have c5b1 := bne_iff_ne.mpr c5
  have c5b2 : ¬ (l1 = []) := fun h_ => c5 (by rw [h_]; rfl)
  replace H := ubs H; obtain ⟨y646, hy646, H⟩ := H
  have Ny646 := Aside0.mk hy646; clear hy646
  replace H := uT H; obtain ⟨c8, H⟩ := H
  have LMc8 := Aside0.mk c8; clear c8
  obtain ⟨y649, hy649⟩ : ∃ y_ : List Int, y_ = (y646 ++ l1) := ⟨_, rfl⟩
  replace H : (some (a0, y649)) = some (r1, r2) := by first | (rw [hy649]; with_reducible exact H) | (have H2_ := (Option.bind_some _ _).symm.trans H; rw [hy649]; with_reducible exact H2_) | (have H2_ := (Option.bind_some _ _).symm.trans H; with_reducible exact H2_) | with_reducible exact H | (rw [hy649]; exact H) | exact H
  have Ny649 := Aside0.mk hy649; clear hy649
  simp only [Option.some.injEq, Prod.mk.injEq] at H
  obtain ⟨rfl, rfl⟩ := H
  go_enter Try.func50, Try.ntmps50
  go_wp2_with (first | ((with_reducible refine gate_dst (N := 4) rfl ?_); (try (refine gate_guard (by rfl) ?_; dsimp only)); refine ubx 4 #[.bool false, .slice none 0 0] 44 rfl rfl ?_; intro gb644 hg w9 hbox hb; have BK644 := Aside0.mk (hbox); have GW644 := us hg; have GE644 := us hg; replace HB := uy hb; clear hb hbox hg) | ((with_reducible refine ug 31 rfl ?_); refine uh (some 7) rfl Try.func31 #[.slice A1 l1.length c1] ?_; (with_reducible refine (windbreakref01_Right.calls _ _ l1 true _ ?side1 ?side2 A3.out).mono ?_); (case side1 => exact uC (Kd.C_below HR1.out HB.out)); (case side2 => exact HC1.out); rintro e w' ⟨rfl, ⟨nd, rfl⟩⟩; refine ⟨_, rfl, ?_⟩; (try (rw [drewN_self w9]; generalize hq_ : World.drewN w9 _ = w9; replace BK644 : Aside0 (w9.heap[gb644]? = some (.cells #[.bool false, .slice none 0 0] 44 (0, 0))) := ⟨by rw [← hq_]; exact (uK BK644.out)⟩; replace HB : Aside0 (Below w.heap.size w w9) := ⟨by rw [← hq_]; exact uB⟩; clear hq_))) | ((with_reducible refine gate_dst (N := 17) rfl ?_); (try (refine gate_guard (by rfl) ?_; dsimp only)); refine Kd.R_lit (Kd.int .u64) _ 42 ?hg (N := 17) ?hd (xs := ([] : List Int)) (inner := []) (ok := fun _ => True) (okp := fun _ => True) ?hr ?hp (fun _ hk => hk) trivial (Below.refl _ _) (Nat.le_refl _) (by simp) ?_; (case hd => rfl); (case hg => rfl); (case hr => first | (go_simp; done) | (go_simp; rfl) | (go_simp; simp only [u64_u8]; done) | (go_simp; simp only [u64_u8]; rfl)); (case hp => exact (Reps.none _ _)); intro v647 w10 ho11 hb hg_ hnew_; clear hg_ hnew_; (first | rw [← Ny646.out] at ho11 | (simp only [Int.reduceToNat] at ho11; rw [← Ny646.out] at ho11)); have HO648 := ulo ho11; replace BK644 := ux BK644 hb; replace HB := uy hb; clear hb ho11) | ((with_reducible refine gate_builtin (b := .append) (xs := #[.tmp 17, .tmp 18]) rfl ?_); (try (refine gate_guard (by rfl) ?_; dsimp only)); at_builtin; refine Kd.R_append_rows (Kd.int .u64) (w0 := w) w.heap.size rfl (.tmp 17) (.tmp 18) 23 42 (.int .u64 0) 8 rfl Try.underlying23 info42 rfl (by decide) (by omega) v647 y646 l1 _ _ _ (fun _ => True) (fun _ => False) rfl rfl ?aO ?aR (fun _ _ h => h) (fun _ h => h.elim) ?aF ?aB ?aS ?aL ?_; (case aR => exact uC (Kd.C_below HR1.out HB.out)); (case aB => exact uB); (case aF => exact (fun _ _ => trivial)); (case aO => exact (uR HO648.out)); (case aS => exact (below_size uB)); (case aL => have := LMc8.out; omega); intro v650 w12 ho hb hg hat; rw [← Ny649.out] at ho; replace BK644 := Aside0.mk (blk_grown (g := gb644) (o := .cells #[.bool false, .slice none 0 0] 44 (0, 0)) (uK BK644.out) hg (Kd.R_ne HO648.out BK644.out (by decide))); replace HB := Aside0.mk (hb); have HO651 := Aside0.mk (ho); clear HO648; clear ho hb hg hat; obtain ⟨Ao13, co13, eo13⟩ := Kd.R_slice HO651.out; subst eo13; obtain ⟨hcz14_0, hcz14_1, hfz14_0, hfz14_1⟩ := uz2 w12 BK644))
  refine bodyPost_ret (results_cell_row rfl _ _ gb644 44 #[.bool a0, .slice Ao13 y649.length co13] (0, 0) _ rfl (by refine blk_put (cs := #[.bool a0, .slice none 0 0]) ?_ 1 _ rfl; refine blk_put (cs := #[.bool false, .slice none 0 0]) ?_ 0 _ rfl; exact uK BK644.out) Try.underlying44 rfl (by kernel_rfl)) rfl ?_
  exact ⟨_, uF, by exact uR (Kd.R_mono (Kd.R_far (p := ⟨gb644, 1, none⟩) (Kd.R_far (p := ⟨gb644, 0, none⟩) (Kd.R_types HO651.out BK644.out (by decide)) (fun _ hk => hk.2) (.bool a0)) (fun _ hk => hk.2) (.slice Ao13 y649.length co13)) (fun _ hk => trivial)), uB⟩
 replace c4 := Bool.eq_false_iff.mpr c4
 subst c4
 have H1 : (some (false, ([] : List Int))) = some (r1, r2) := by rw [if_neg (show ¬ (false = true) by decide)] at H; exact H
 clear H; have H := H1; clear H1
 simp only [Option.some.injEq, Prod.mk.injEq] at H
 obtain ⟨rfl, rfl⟩ := H
 go_enter Try.func50, Try.ntmps50
 go_wp2_with (first | ((with_reducible refine gate_dst (N := 4) rfl ?_); (try (refine gate_guard (by rfl) ?_; dsimp only)); refine ubx 4 #[.bool false, .slice none 0 0] 44 rfl rfl ?_; intro gb644 hg w15 hbox hb; have BK644 := Aside0.mk (hbox); have GW644 := us hg; have GE644 := us hg; replace HB := uy hb; clear hb hbox hg) | ((with_reducible refine ug 31 rfl ?_); refine uh (some 7) rfl Try.func31 #[.slice A1 l1.length c1] ?_; (with_reducible refine (windbreakref01_Right.calls _ _ l1 false _ ?side1 ?side2 A3.out).mono ?_); (case side1 => exact uC (Kd.C_below HR1.out HB.out)); (case side2 => exact HC1.out); rintro e w' ⟨rfl, ⟨nd, rfl⟩⟩; refine ⟨_, rfl, ?_⟩; (try (rw [drewN_self w15]; generalize hq_ : World.drewN w15 _ = w15; replace BK644 : Aside0 (w15.heap[gb644]? = some (.cells #[.bool false, .slice none 0 0] 44 (0, 0))) := ⟨by rw [← hq_]; exact (uK BK644.out)⟩; replace HB : Aside0 (Below w.heap.size w w15) := ⟨by rw [← hq_]; exact uB⟩; clear hq_)); obtain ⟨hcz16_0, hcz16_1, hfz16_0, hfz16_1⟩ := uz2 w15 BK644))
 refine bodyPost_ret (results_cell_row rfl _ _ gb644 44 #[.bool false, .slice none 0 0] (0, 0) _ rfl (by refine blk_put (cs := #[.bool false, .slice none 0 0]) ?_ 1 _ rfl; refine blk_put (cs := #[.bool false, .slice none 0 0]) ?_ 0 _ rfl; exact uK BK644.out) Try.underlying44 rfl (by kernel_rfl)) rfl ?_
 exact ⟨_, uF, uI, uB⟩
def windbreakref07_Decode.j0 : Nat → List Int → List Int → Bool → Option (Bool × List Int × Int)
 | 0, _, _, _ => none
 | k + 1, x0, x1, x24 => if x24 = true then (some (false, ([] : List Int), 10)) else ((windbreakref07_half.f k x0).bind fun t656 => ((windbreakref01_Cmp.f k x1 t656).bind fun t659 => (if t659 ≤ 0 then ((windbreakref03_From.f false x1).bind fun bt660 => (some (bt660.1, bt660.2, 0))) else ((windbreakref01_Sub.f k x0 x1).bind fun bt664 => ((windbreakref03_From.f true bt664.1).bind fun bt668 => (some (bt668.1, bt668.2, 0)))))))
def windbreakref07_Decode.f (k : Nat) (l0 : List Int) (l1 : List Int) : Option (Bool × List Int × Int) := (windbreakref07_May.f k l0).bind fun t653 => (if t653 = true then ((windbreakref01_Right.f l1).bind fun t654 => (if t654 = true then ((windbreakref01_Cmp.f k l1 l0).bind fun t655 => (windbreakref07_Decode.j0 k l0 l1 (decide (t655 ≥ 0)))) else (windbreakref07_Decode.j0 k l0 l1 true))) else (some (false, ([] : List Int), 1)))
theorem windbreakref07_Decode.calls (k : Nat) (A0 : Option Addr) (c0 : Nat) (l0 : List Int) (A1 : Option Addr) (c1 : Nat) (l1 : List Int) (r1 : Bool) (r2 : List Int) (r3 : Int) (w : World) (hr0 : Kd.C (Kd.int .u64) w A0 l0.length l0) (hc0 : l0.length ≤ c0) (hr1 : Kd.C (Kd.int .u64) w A1 l1.length l1) (hc1 : l1.length ≤ c1) (h : windbreakref07_Decode.f k l0 l1 = some (r1, r2, r3)) :
  Calls Try.prog 21 #[.slice A0 l0.length c0, .slice A1 l1.length c1] w fun e w' => ∃ v1_ : Value, e = .returned (.tuple #[.agg #[.bool r1, v1_], .int .i64 r3]) ∧ Kd.R (Kd.int .u64) 42 w' w.heap.size (fun _ => True) v1_ r2 ∧ Below w.heap.size w w' := by
 have hu44 := Try.underlying44
 have HR0 := Aside0.mk hr0; have HC0 := Aside0.mk hc0; clear hr0 hc0; have HR1 := Aside0.mk hr1; have HC1 := Aside0.mk hc1; clear hr1 hc1
 have HB := Aside0.mk (Below.refl w.heap.size w)
 have H : ((windbreakref07_May.f k l0).bind fun t653 => (if t653 = true then ((windbreakref01_Right.f l1).bind fun t654 => (if t654 = true then ((windbreakref01_Cmp.f k l1 l0).bind fun t655 => (windbreakref07_Decode.j0 k l0 l1 (decide (t655 ≥ 0)))) else (windbreakref07_Decode.j0 k l0 l1 true))) else (some (false, ([] : List Int), 1)))) = some (r1, r2, r3) := h
 clear h
 replace H := ub H; obtain ⟨t653, A3, H⟩ := H
 by_cases c4 : t653 = true
 ·
  subst c4
  have H1 : ((windbreakref01_Right.f l1).bind fun t654 => (if t654 = true then ((windbreakref01_Cmp.f k l1 l0).bind fun t655 => (windbreakref07_Decode.j0 k l0 l1 (decide (t655 ≥ 0)))) else (windbreakref07_Decode.j0 k l0 l1 true))) = some (r1, r2, r3) := by rw [if_pos rfl] at H; exact H
  clear H; have H := H1; clear H1
  replace H := ub H; obtain ⟨t654, A5, H⟩ := H
  have HC6 := Aside0.mk H; clear H
  go_enter Try.func21, Try.ntmps21
  go_upto_region 5 with (first | ((with_reducible refine gate_dst (N := 4) rfl ?_); refine ubx 4 #[.bool false, .slice none 0 0] 44 rfl rfl ?_; intro gb652 hg w7 hbox hb; have BK652 := Aside0.mk (hbox); have GW652 := us hg; have GE652 := us hg; replace HB := uy hb; clear hb hbox hg) | ((with_reducible refine ug 20 rfl ?_); refine uh (some 11) rfl Try.func20 #[.slice A0 l0.length c0] ?_; (with_reducible refine (windbreakref07_May.calls k _ _ l0 true _ ?side1 ?side2 A3.out).mono ?_); (case side1 => exact uC (Kd.C_below HR0.out HB.out)); (case side2 => exact HC0.out); rintro e w8 ⟨rfl, hb⟩; refine ⟨_, rfl, ?_⟩; replace BK652 := ux BK652 hb; replace HB := uy hb; (try clear hb)) | ((with_reducible refine ug 31 rfl ?_); refine uh (some 16) rfl Try.func31 #[.slice A1 l1.length c1] ?_; (with_reducible refine (windbreakref01_Right.calls _ _ l1 t654 _ ?side1 ?side2 A5.out).mono ?_); (case side1 => exact uC (Kd.C_below HR1.out HB.out)); (case side2 => exact HC1.out); rintro e w' ⟨rfl, ⟨nd, rfl⟩⟩; refine ⟨_, rfl, ?_⟩))
  (try simp only [Act.put, List.setIfInBounds_toArray, List.set_cons_zero, List.set_cons_succ])
  go_cut [24] (fun v24 wc => ∃ (kq : Nat) (x24_5 : Bool), v24 = .bool x24_5 ∧ Aside0 (windbreakref07_Decode.j0 kq l0 l1 x24_5 = some (r1, r2, r3)) ∧ Aside0 (kq ≤ k) ∧ Aside0 (wc.heap[gb652]? = some (.cells #[.bool false, (.slice none 0 0)] 44 (0, 0))) ∧ Aside0 (Below w.heap.size w wc))
  case first =>
   have H := HC6.out
   clear HC6
   by_cases c9 : t654 = true
   ·
    subst c9
    have H1 : ((windbreakref01_Cmp.f k l1 l0).bind fun t655 => (windbreakref07_Decode.j0 k l0 l1 (decide (t655 ≥ 0)))) = some (r1, r2, r3) := by rw [if_pos rfl] at H; exact H
    clear H; have H := H1; clear H1
    replace H := ub H; obtain ⟨t655, A10, H⟩ := H
    have H' := Aside0.mk H
    clear H
    go_wp2_with (first | (go_at_call 47; (with_reducible refine (windbreakref01_Cmp.calls k _ _ l1 _ _ l0 t655 _ ?side1 ?side2 ?side3 ?side4 A10.out).mono ?_); (case side1 => exact uC (Kd.C_below HR1.out HB.out)); (case side2 => exact HC1.out); (case side3 => exact uC (Kd.C_below HR0.out HB.out)); (case side4 => exact HC0.out); rintro e w11 ⟨rfl, hb⟩; replace BK652 := ux BK652 hb; replace HB := uy hb; (try clear hb)))
    go_meet
    case rel => exact ⟨_, (decide (t655 ≥ 0)), uG, H', ⟨uW⟩, ⟨uK BK652.out⟩, ⟨uB⟩⟩
   replace c9 := Bool.eq_false_iff.mpr c9
   subst c9
   have H1 : (windbreakref07_Decode.j0 k l0 l1 true) = some (r1, r2, r3) := by rw [if_neg (show ¬ (false = true) by decide)] at H; exact H
   clear H; have H := H1; clear H1
   have H' := Aside0.mk H
   clear H
   go_wp2
   go_meet
   case rel => exact ⟨_, (true), uG, H', ⟨uW⟩, ⟨uK BK652.out⟩, ⟨uB⟩⟩
  case rest =>
   clear HC6
   obtain ⟨kq, x24_5, rfl, HA, HJ5, BK652, HB⟩ := hcut
   cases kq with
   | zero => exact absurd HA.out (by simp [windbreakref07_Decode.j0])
   | succ kj5 =>
    have H := HA.out
    clear HA
    simp only [windbreakref07_Decode.j0] at H
    by_cases c12 : x24_5 = true
    ·
     subst c12
     have H1 : (some (false, ([] : List Int), 10)) = some (r1, r2, r3) := by rw [if_pos rfl] at H; exact H
     clear H; have H := H1; clear H1
     simp only [Option.some.injEq, Prod.mk.injEq] at H
     obtain ⟨rfl, rfl, rfl⟩ := H
     obtain ⟨hcz13_0, hcz13_1, hfz13_0, hfz13_1⟩ := uz2 wc BK652
     go_wp2
     refine bodyPost_ret (results_ct rfl _ _ gb652 44 #[.bool false, .slice none 0 0] (0, 0) _ rfl (by refine blk_put (cs := #[.bool false, .slice none 0 0]) ?_ 1 _ rfl; refine blk_put (cs := #[.bool false, .slice none 0 0]) ?_ 0 _ rfl; exact uK BK652.out) Try.underlying44 rfl (by kernel_rfl)) rfl ?_
     exact ⟨_, uF, uI, uB⟩
    replace c12 := Bool.eq_false_iff.mpr c12
    subst c12
    have H1 : ((windbreakref07_half.f kj5 l0).bind fun t656 => ((windbreakref01_Cmp.f kj5 l1 t656).bind fun t659 => (if t659 ≤ 0 then ((windbreakref03_From.f false l1).bind fun bt660 => (some (bt660.1, bt660.2, 0))) else ((windbreakref01_Sub.f kj5 l0 l1).bind fun bt664 => ((windbreakref03_From.f true bt664.1).bind fun bt668 => (some (bt668.1, bt668.2, 0))))))) = some (r1, r2, r3) := by rw [if_neg (show ¬ (false = true) by decide)] at H; exact H
    clear H; have H := H1; clear H1
    replace H := ub H; obtain ⟨t656, A14, H⟩ := H
    replace H := ub H; obtain ⟨t659, A15, H⟩ := H
    by_cases c16 : t659 ≤ 0
    ·
     rw [if_pos c16] at H
     have c16b0 := decide_eq_true c16
     clear c16
     replace H := ub H; obtain ⟨⟨t660, t661⟩, A17, H⟩ := H
     (try dsimp only at H)
     simp only [Option.some.injEq, Prod.mk.injEq] at H
     obtain ⟨rfl, rfl, rfl⟩ := H
     go_wp2_with (first | ((with_reducible refine ug 49 rfl ?_); refine uh (some 28) rfl Try.func49 #[.slice A0 l0.length c0] ?_; (with_reducible refine (windbreakref07_half.calls kj5 _ _ l0 t656 _ ?side1 ?side2 A14.out).mono ?_); (case side1 => exact uC (Kd.C_below HR0.out HB.out)); (case side2 => exact HC0.out); rintro e w18 ⟨v657, rfl, ho0, hb⟩; refine ⟨_, rfl, ?_⟩; have HO658 := ulo ho0; replace BK652 := ux BK652 hb; replace HB := uy hb; (try clear hb ho0); obtain ⟨Ao19, co19, eo19⟩ := Kd.R_slice HO658.out; subst eo19) | ((with_reducible refine ug 47 rfl ?_); refine uh (some 29) rfl Try.func47 #[.slice A1 l1.length c1, .slice Ao19 t656.length co19] ?_; (with_reducible refine (windbreakref01_Cmp.calls kj5 _ _ l1 _ _ t656 t659 _ ?side1 ?side2 ?side3 ?side4 A15.out).mono ?_); (case side1 => exact uC (Kd.C_below HR1.out HB.out)); (case side2 => exact HC1.out); (case side3 => exact uC (Kd.R_reads' HO658.out).2.2); (case side4 => exact (Kd.R_reads' HO658.out).2.1); rintro e w20 ⟨rfl, hb⟩; refine ⟨_, rfl, ?_⟩; replace HO658 := urb HO658 hb; replace BK652 := ux BK652 hb; replace HB := uy hb; (try clear hb)) | ((with_reducible refine ug 50 rfl ?_); refine uh (some 32) rfl Try.func50 #[.bool false, .slice A1 l1.length c1] ?_; (with_reducible refine (windbreakref03_From.calls false _ _ l1 t660 t661 _ ?side1 ?side2 A17.out).mono ?_); (case side1 => exact uC (Kd.C_below HR1.out HB.out)); (case side2 => exact HC1.out); rintro e w21 ⟨v662, rfl, ho0, hb⟩; refine ⟨_, rfl, ?_⟩; have HO663 := ulo (unw ho0 HO658); replace HO658 := ueR HO658 ho0 hb; replace BK652 := ux BK652 hb; replace HB := uy hb; (try clear hb ho0); obtain ⟨hcz22_0, hcz22_1, hfz22_0, hfz22_1⟩ := uz2 w21 BK652; obtain ⟨Ao23, co23, eo23⟩ := Kd.R_slice HO663.out; subst eo23))
     refine bodyPost_ret (results_ct rfl _ _ gb652 44 #[.bool t660, .slice Ao23 t661.length co23] (0, 0) _ rfl (by refine blk_put (cs := #[.bool t660, .slice none 0 0]) ?_ 1 _ rfl; refine blk_put (cs := #[.bool false, .slice none 0 0]) ?_ 0 _ rfl; exact uK BK652.out) Try.underlying44 rfl (by kernel_rfl)) rfl ?_
     exact ⟨_, uF, by exact uR (Kd.R_mono (Kd.R_far (p := ⟨gb652, 1, none⟩) (Kd.R_far (p := ⟨gb652, 0, none⟩) (Kd.R_types HO663.out BK652.out (by decide)) (fun _ hk => hk.2) (.bool t660)) (fun _ hk => hk.2) (.slice Ao23 t661.length co23)) (fun _ hk => trivial)), uB⟩
    rw [if_neg c16] at H
    have c16b0 := decide_eq_false c16
    clear c16
    replace H := ub H; obtain ⟨⟨t664, t665⟩, A24, H⟩ := H
    (try dsimp only at H)
    replace H := ub H; obtain ⟨⟨t668, t669⟩, A25, H⟩ := H
    (try dsimp only at H)
    simp only [Option.some.injEq, Prod.mk.injEq] at H
    obtain ⟨rfl, rfl, rfl⟩ := H
    go_wp2_with (first | ((with_reducible refine ug 49 rfl ?_); refine uh (some 28) rfl Try.func49 #[.slice A0 l0.length c0] ?_; (with_reducible refine (windbreakref07_half.calls kj5 _ _ l0 t656 _ ?side1 ?side2 A14.out).mono ?_); (case side1 => exact uC (Kd.C_below HR0.out HB.out)); (case side2 => exact HC0.out); rintro e w26 ⟨v657, rfl, ho0, hb⟩; refine ⟨_, rfl, ?_⟩; have HO658 := ulo ho0; replace BK652 := ux BK652 hb; replace HB := uy hb; (try clear hb ho0); obtain ⟨Ao27, co27, eo27⟩ := Kd.R_slice HO658.out; subst eo27) | ((with_reducible refine ug 47 rfl ?_); refine uh (some 29) rfl Try.func47 #[.slice A1 l1.length c1, .slice Ao27 t656.length co27] ?_; (with_reducible refine (windbreakref01_Cmp.calls kj5 _ _ l1 _ _ t656 t659 _ ?side1 ?side2 ?side3 ?side4 A15.out).mono ?_); (case side1 => exact uC (Kd.C_below HR1.out HB.out)); (case side2 => exact HC1.out); (case side3 => exact uC (Kd.R_reads' HO658.out).2.2); (case side4 => exact (Kd.R_reads' HO658.out).2.1); rintro e w28 ⟨rfl, hb⟩; refine ⟨_, rfl, ?_⟩; replace HO658 := urb HO658 hb; replace BK652 := ux BK652 hb; replace HB := uy hb; (try clear hb)) | ((with_reducible refine ug 51 rfl ?_); refine uh (some 36) rfl Try.func51 #[.slice A0 l0.length c0, .slice A1 l1.length c1] ?_; (with_reducible refine (windbreakref01_Sub.calls kj5 _ _ l0 _ _ l1 t664 t665 _ ?side1 ?side2 ?side3 ?side4 A24.out).mono ?_); (case side1 => exact uC (Kd.C_below HR0.out HB.out)); (case side2 => exact HC0.out); (case side3 => exact uC (Kd.C_below HR1.out HB.out)); (case side4 => exact HC1.out); rintro e w29 ⟨v666, rfl, ho0, hb⟩; refine ⟨_, rfl, ?_⟩; have HO667 := ulo (unw ho0 HO658); replace HO658 := ueR HO658 ho0 hb; replace BK652 := ux BK652 hb; replace HB := uy hb; (try clear hb ho0); obtain ⟨Ao30, co30, eo30⟩ := Kd.R_slice HO667.out; subst eo30) | ((with_reducible refine ug 50 rfl ?_); refine uh (some 40) rfl Try.func50 #[.bool true, .slice Ao30 t664.length co30] ?_; (with_reducible refine (windbreakref03_From.calls true _ _ t664 t668 t669 _ ?side1 ?side2 A25.out).mono ?_); (case side1 => exact uC (Kd.R_reads' HO667.out).2.2); (case side2 => exact (Kd.R_reads' HO667.out).2.1); rintro e w31 ⟨v670, rfl, ho0, hb⟩; refine ⟨_, rfl, ?_⟩; have HO671 := ulo (unw (unw ho0 HO658) HO667); replace HO658 := ueR HO658 ho0 hb; replace HO667 := ueR HO667 ho0 hb; replace BK652 := ux BK652 hb; replace HB := uy hb; (try clear hb ho0); obtain ⟨hcz32_0, hcz32_1, hfz32_0, hfz32_1⟩ := uz2 w31 BK652; obtain ⟨Ao33, co33, eo33⟩ := Kd.R_slice HO671.out; subst eo33))
    refine bodyPost_ret (results_ct rfl _ _ gb652 44 #[.bool t668, .slice Ao33 t669.length co33] (0, 0) _ rfl (by refine blk_put (cs := #[.bool t668, .slice none 0 0]) ?_ 1 _ rfl; refine blk_put (cs := #[.bool false, .slice none 0 0]) ?_ 0 _ rfl; exact uK BK652.out) Try.underlying44 rfl (by kernel_rfl)) rfl ?_
    exact ⟨_, uF, by exact uR (Kd.R_mono (Kd.R_far (p := ⟨gb652, 1, none⟩) (Kd.R_far (p := ⟨gb652, 0, none⟩) (Kd.R_types HO671.out BK652.out (by decide)) (fun _ hk => hk.2) (.bool t668)) (fun _ hk => hk.2) (.slice Ao33 t669.length co33)) (fun _ hk => trivial)), uB⟩
 replace c4 := Bool.eq_false_iff.mpr c4
 subst c4
 have H1 : (some (false, ([] : List Int), 1)) = some (r1, r2, r3) := by rw [if_neg (show ¬ (false = true) by decide)] at H; exact H
 clear H; have H := H1; clear H1
 simp only [Option.some.injEq, Prod.mk.injEq] at H
 obtain ⟨rfl, rfl, rfl⟩ := H
 go_enter Try.func21, Try.ntmps21
 go_wp2_with (first | ((with_reducible refine gate_dst (N := 4) rfl ?_); refine ubx 4 #[.bool false, .slice none 0 0] 44 rfl rfl ?_; intro gb652 hg w34 hbox hb; have BK652 := Aside0.mk (hbox); have GW652 := us hg; have GE652 := us hg; replace HB := uy hb; clear hb hbox hg) | ((with_reducible refine ug 20 rfl ?_); refine uh (some 11) rfl Try.func20 #[.slice A0 l0.length c0] ?_; (with_reducible refine (windbreakref07_May.calls k _ _ l0 false _ ?side1 ?side2 A3.out).mono ?_); (case side1 => exact uC (Kd.C_below HR0.out HB.out)); (case side2 => exact HC0.out); rintro e w35 ⟨rfl, hb⟩; refine ⟨_, rfl, ?_⟩; replace BK652 := ux BK652 hb; replace HB := uy hb; (try clear hb); obtain ⟨hcz36_0, hcz36_1, hfz36_0, hfz36_1⟩ := uz2 w35 BK652))
 refine bodyPost_ret (results_ct rfl _ _ gb652 44 #[.bool false, .slice none 0 0] (0, 0) _ rfl (by refine blk_put (cs := #[.bool false, .slice none 0 0]) ?_ 1 _ rfl; refine blk_put (cs := #[.bool false, .slice none 0 0]) ?_ 0 _ rfl; exact uK BK652.out) Try.underlying44 rfl (by kernel_rfl)) rfl ?_
 exact ⟨_, uF, uI, uB⟩
end Go.Proofs.Ytnaphgnkhhapoab.F
end
