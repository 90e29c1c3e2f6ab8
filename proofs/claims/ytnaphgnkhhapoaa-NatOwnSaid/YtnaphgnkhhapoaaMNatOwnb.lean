/- Proved: the law NatOwn of layer 1: what was handed in stays as it was, and what is told is nobody's else; for every input, without a condition. -/
import Derived.Test.YtnaphgnkhhapoaaMNatOwna
import Derived.Laws.BitsLemmas
set_option maxHeartbeats 8000000
set_option maxRecDepth 100000
section
namespace Go.Proofs.Ytnaphgnkhhapoaa.F
open Go.RowKit Go.Proofs.YtnaphgnkhhapoaaW.PrintWords Go.Proofs.YtnaphgnkhhapoaaW.PrintLast Go.Proofs.YtnaphgnkhhapoaaW.PrintMore
attribute [local go_sem] max2_int min2_int max_two min_two max_three min_three max_four min_four
set_option linter.unusedVariables false
set_option linter.unusedSimpArgs false
mutual
def bits_Div64.j2 : Nat → Int → Int → Int → Int → Int → Int → Int → Int → Option (Int × Int)
 | 0, _, _, _, _, _, _, _, _ => none
 | k + 1, x2, x8, x9, x10, x11, x13, x14, x15 => if x9 = 0 then (none) else (bits_Div64.l1 k x2 x8 x9 x10 x14 x15 (IntKind.u64.wrap ((IntKind.u64.wrap ((IntKind.u64.wrap ((IntKind.u64.wrap (x11 * 4294967296)) + x13)) - (IntKind.u64.wrap (x15 * x2)))) - (IntKind.u64.wrap ((IntKind.u64.wrap (Int.tdiv (IntKind.u64.wrap ((IntKind.u64.wrap ((IntKind.u64.wrap (x11 * 4294967296)) + x13)) - (IntKind.u64.wrap (x15 * x2)))) x9)) * x9)))) (IntKind.u64.wrap ((IntKind.u64.wrap ((IntKind.u64.wrap (x11 * 4294967296)) + x13)) - (IntKind.u64.wrap (x15 * x2)))) (IntKind.u64.wrap (Int.tdiv (IntKind.u64.wrap ((IntKind.u64.wrap ((IntKind.u64.wrap (x11 * 4294967296)) + x13)) - (IntKind.u64.wrap (x15 * x2)))) x9)))
def bits_Div64.l1 : Nat → Int → Int → Int → Int → Int → Int → Int → Int → Int → Option (Int × Int)
 | 0, _, _, _, _, _, _, _, _, _ => none
 | k + 1, x2, x8, x9, x10, x14, x15, x16, x17, x18 => if x18 ≥ 4294967296 then (bits_Div64.j4 k x2 x8 x9 x10 x14 x15 x16 x17 x18 true) else (bits_Div64.j4 k x2 x8 x9 x10 x14 x15 x16 x17 x18 (decide ((IntKind.u64.wrap (x18 * x10)) > (IntKind.u64.wrap ((IntKind.u64.wrap (4294967296 * x16)) + x14)))))
def bits_Div64.j4 : Nat → Int → Int → Int → Int → Int → Int → Int → Int → Int → Bool → Option (Int × Int)
 | 0, _, _, _, _, _, _, _, _, _, _ => none
 | k + 1, x2, x8, x9, x10, x14, x15, x16, x17, x18, x113 => if x113 = true then (if (IntKind.u64.wrap (x16 + x9)) ≥ 4294967296 then (if 0 ≤ x8 then (some (IntKind.u64.wrap ((IntKind.u64.wrap (x15 * 4294967296)) + (IntKind.u64.wrap (x18 - 1))), shr .u64 (IntKind.u64.wrap ((IntKind.u64.wrap ((IntKind.u64.wrap (x17 * 4294967296)) + x14)) - (IntKind.u64.wrap ((IntKind.u64.wrap (x18 - 1)) * x2)))) x8)) else (none)) else (bits_Div64.l1 k x2 x8 x9 x10 x14 x15 (IntKind.u64.wrap (x16 + x9)) x17 (IntKind.u64.wrap (x18 - 1)))) else (if 0 ≤ x8 then (some (IntKind.u64.wrap ((IntKind.u64.wrap (x15 * 4294967296)) + x18), shr .u64 (IntKind.u64.wrap ((IntKind.u64.wrap ((IntKind.u64.wrap (x17 * 4294967296)) + x14)) - (IntKind.u64.wrap (x18 * x2)))) x8)) else (none))
def bits_Div64.l0 : Nat → Int → Int → Int → Int → Int → Int → Int → Int → Int → Option (Int × Int)
 | 0, _, _, _, _, _, _, _, _, _ => none
 | k + 1, x2, x8, x9, x10, x11, x13, x14, x15, x16 => if x15 ≥ 4294967296 then (bits_Div64.j1 k x2 x8 x9 x10 x11 x13 x14 x15 x16 true) else (bits_Div64.j1 k x2 x8 x9 x10 x11 x13 x14 x15 x16 (decide ((IntKind.u64.wrap (x15 * x10)) > (IntKind.u64.wrap ((IntKind.u64.wrap (4294967296 * x16)) + x13)))))
def bits_Div64.j1 : Nat → Int → Int → Int → Int → Int → Int → Int → Int → Int → Bool → Option (Int × Int)
 | 0, _, _, _, _, _, _, _, _, _, _ => none
 | k + 1, x2, x8, x9, x10, x11, x13, x14, x15, x16, x78 => if x78 = true then (if (IntKind.u64.wrap (x16 + x9)) ≥ 4294967296 then (bits_Div64.j2 k x2 x8 x9 x10 x11 x13 x14 (IntKind.u64.wrap (x15 - 1))) else (bits_Div64.l0 k x2 x8 x9 x10 x11 x13 x14 (IntKind.u64.wrap (x15 - 1)) (IntKind.u64.wrap (x16 + x9)))) else (bits_Div64.j2 k x2 x8 x9 x10 x11 x13 x14 x15)
end
def bits_Div64.f (k : Nat) (a0 : Int) (a1 : Int) (a2 : Int) : Option (Int × Int) := if a2 = 0 then (none) else (if a2 ≤ a0 then (none) else (if a0 = 0 then (some (IntKind.u64.wrap (Int.tdiv a1 a2), Int.tmod a1 a2)) else ((bits_LeadingZeros64.f k a2).bind fun t479 => (if 0 ≤ (IntKind.u64.wrap (t479)) then (if 0 ≤ (IntKind.u64.wrap (64 - (IntKind.u64.wrap (t479)))) then (if ((shl .u64 a2 (IntKind.u64.wrap (t479))) / 4294967296) = 0 then (none) else (bits_Div64.l0 k (shl .u64 a2 (IntKind.u64.wrap (t479))) (IntKind.u64.wrap (t479)) ((shl .u64 a2 (IntKind.u64.wrap (t479))) / 4294967296) (Go.bits .and .u64 (shl .u64 a2 (IntKind.u64.wrap (t479))) 4294967295) (Go.bits .or .u64 (shl .u64 a0 (IntKind.u64.wrap (t479))) (shr .u64 a1 (IntKind.u64.wrap (64 - (IntKind.u64.wrap (t479)))))) ((shl .u64 a1 (IntKind.u64.wrap (t479))) / 4294967296) (Go.bits .and .u64 (shl .u64 a1 (IntKind.u64.wrap (t479))) 4294967295) (IntKind.u64.wrap (Int.tdiv (Go.bits .or .u64 (shl .u64 a0 (IntKind.u64.wrap (t479))) (shr .u64 a1 (IntKind.u64.wrap (64 - (IntKind.u64.wrap (t479)))))) ((shl .u64 a2 (IntKind.u64.wrap (t479))) / 4294967296))) (IntKind.u64.wrap ((Go.bits .or .u64 (shl .u64 a0 (IntKind.u64.wrap (t479))) (shr .u64 a1 (IntKind.u64.wrap (64 - (IntKind.u64.wrap (t479)))))) - (IntKind.u64.wrap ((IntKind.u64.wrap (Int.tdiv (Go.bits .or .u64 (shl .u64 a0 (IntKind.u64.wrap (t479))) (shr .u64 a1 (IntKind.u64.wrap (64 - (IntKind.u64.wrap (t479)))))) ((shl .u64 a2 (IntKind.u64.wrap (t479))) / 4294967296))) * ((shl .u64 a2 (IntKind.u64.wrap (t479))) / 4294967296))))))) else (none)) else (none)))))
theorem bits_Div64.calls (k : Nat) (a0 : Int) (a1 : Int) (a2 : Int) (r1 : Int) (r2 : Int) (w : World) (h : bits_Div64.f k a0 a1 a2 = some (r1, r2)) :
  Calls Try.prog 80 #[.int .u64 a0, .int .u64 a1, .int .u64 a2] w fun e w' => e = .returned (.tuple #[.int .u64 r1, .int .u64 r2]) ∧ Drawn0 w w' := by
 have H : (if a2 = 0 then (none) else (if a2 ≤ a0 then (none) else (if a0 = 0 then (some (IntKind.u64.wrap (Int.tdiv a1 a2), Int.tmod a1 a2)) else ((bits_LeadingZeros64.f k a2).bind fun t479 => (if 0 ≤ (IntKind.u64.wrap (t479)) then (if 0 ≤ (IntKind.u64.wrap (64 - (IntKind.u64.wrap (t479)))) then (if ((shl .u64 a2 (IntKind.u64.wrap (t479))) / 4294967296) = 0 then (none) else (bits_Div64.l0 k (shl .u64 a2 (IntKind.u64.wrap (t479))) (IntKind.u64.wrap (t479)) ((shl .u64 a2 (IntKind.u64.wrap (t479))) / 4294967296) (Go.bits .and .u64 (shl .u64 a2 (IntKind.u64.wrap (t479))) 4294967295) (Go.bits .or .u64 (shl .u64 a0 (IntKind.u64.wrap (t479))) (shr .u64 a1 (IntKind.u64.wrap (64 - (IntKind.u64.wrap (t479)))))) ((shl .u64 a1 (IntKind.u64.wrap (t479))) / 4294967296) (Go.bits .and .u64 (shl .u64 a1 (IntKind.u64.wrap (t479))) 4294967295) (IntKind.u64.wrap (Int.tdiv (Go.bits .or .u64 (shl .u64 a0 (IntKind.u64.wrap (t479))) (shr .u64 a1 (IntKind.u64.wrap (64 - (IntKind.u64.wrap (t479)))))) ((shl .u64 a2 (IntKind.u64.wrap (t479))) / 4294967296))) (IntKind.u64.wrap ((Go.bits .or .u64 (shl .u64 a0 (IntKind.u64.wrap (t479))) (shr .u64 a1 (IntKind.u64.wrap (64 - (IntKind.u64.wrap (t479)))))) - (IntKind.u64.wrap ((IntKind.u64.wrap (Int.tdiv (Go.bits .or .u64 (shl .u64 a0 (IntKind.u64.wrap (t479))) (shr .u64 a1 (IntKind.u64.wrap (64 - (IntKind.u64.wrap (t479)))))) ((shl .u64 a2 (IntKind.u64.wrap (t479))) / 4294967296))) * ((shl .u64 a2 (IntKind.u64.wrap (t479))) / 4294967296))))))) else (none)) else (none)))))) = some (r1, r2) := h
 clear h
 replace H := uE H; obtain ⟨c4, H⟩ := H
 have c4b0 := beq_eq_false_iff_ne.mpr c4
 have c4b1 := bne_iff_ne.mpr c4
 replace H := uE H; obtain ⟨c5, H⟩ := H
 have c5b0 := decide_eq_false c5
 clear c5
 by_cases c6 : a0 = 0
 ·
  rw [if_pos c6] at H
  have c6b0 := beq_iff_eq.mpr c6
  have c6b1 := bne_eq_false_iff_eq.mpr c6
  clear c6
  simp only [Option.some.injEq, Prod.mk.injEq] at H
  obtain ⟨rfl, rfl⟩ := H
  go_enter Try.func80, Try.ntmps80
  go_wp2
  repeat (go_quiet (fail); try go_wp2)
  go_ret2
  exact ⟨by first | rfl | (simp; done) | (simp [*]; done), by repeat (first | exact Drawn0.refl _ | apply Drawn0.step)⟩
 rw [if_neg c6] at H
 have c6b0 := beq_eq_false_iff_ne.mpr c6
 have c6b1 := bne_iff_ne.mpr c6
 replace H := ub H; obtain ⟨t479, A7, H⟩ := H
 obtain ⟨ji8, hji8⟩ : ∃ j_ : Int, (IntKind.u64.wrap (t479)) = j_ := ⟨_, rfl⟩
 first | rw [hji8] at H | simp only [hji8] at H
 (try rw [hji8] at A7)
 replace H := uT H; obtain ⟨c9, H⟩ := H
 have c9b0 := eq_true c9
 have c9b1 := decide_eq_true c9
 clear c9
 obtain ⟨ji10, hji10⟩ : ∃ j_ : Int, (shl .u64 a2 (ji8)) = j_ := ⟨_, rfl⟩
 first | rw [hji10] at H | simp only [hji10] at H
 (try rw [hji10] at A7)
 have hji10_ : (IntKind.u64.wrap (a2 * 2 ^ min (ji8).toNat 64)) = ji10 := hji10
 have hji10z : (ji8) ≤ 64 → (IntKind.u64.wrap (a2 * 2 ^ (ji8).toNat)) = ji10 := shl_small hji10
 have c11b0 := eq_true (uO : 0 ≤ (ji8))
 obtain ⟨ji12, hji12⟩ : ∃ j_ : Int, (shl .u64 a0 (ji8)) = j_ := ⟨_, rfl⟩
 first | rw [hji12] at H | simp only [hji12] at H
 (try rw [hji12] at A7)
 have hji12_ : (IntKind.u64.wrap (a0 * 2 ^ min (ji8).toNat 64)) = ji12 := hji12
 have hji12z : (ji8) ≤ 64 → (IntKind.u64.wrap (a0 * 2 ^ (ji8).toNat)) = ji12 := shl_small hji12
 obtain ⟨ji13, hji13⟩ : ∃ j_ : Int, (IntKind.u64.wrap (64 - (ji8))) = j_ := ⟨_, rfl⟩
 first | rw [hji13] at H | simp only [hji13] at H
 (try rw [hji13] at A7)
 replace H := uT H; obtain ⟨c14, H⟩ := H
 have c14b0 := eq_true c14
 have c14b1 := decide_eq_true c14
 clear c14
 obtain ⟨ji15, hji15⟩ : ∃ j_ : Int, (shr .u64 a1 (ji13)) = j_ := ⟨_, rfl⟩
 first | rw [hji15] at H | simp only [hji15] at H
 (try rw [hji15] at A7)
 have hji15_ : (a1 / 2 ^ min (ji13).toNat 64) = ji15 := hji15
 have hji15z : (ji13) ≤ 64 → (a1 / 2 ^ (ji13).toNat) = ji15 := shr_small hji15
 have c16b0 := eq_true (uO : 0 ≤ (ji8))
 obtain ⟨ji17, hji17⟩ : ∃ j_ : Int, (shl .u64 a1 (ji8)) = j_ := ⟨_, rfl⟩
 first | rw [hji17] at H | simp only [hji17] at H
 (try rw [hji17] at A7)
 have hji17_ : (IntKind.u64.wrap (a1 * 2 ^ min (ji8).toNat 64)) = ji17 := hji17
 have hji17z : (ji8) ≤ 64 → (IntKind.u64.wrap (a1 * 2 ^ (ji8).toNat)) = ji17 := shl_small hji17
 replace H := uE H; obtain ⟨c18, H⟩ := H
 have c18b0 := beq_eq_false_iff_ne.mpr c18
 have c18b1 := bne_iff_ne.mpr c18
 have HC19 := Aside0.mk H; clear H
 go_enter Try.func80, Try.ntmps80
 go_upto_block 0 with (first | (go_at_call 81; (with_reducible refine (bits_LeadingZeros64.calls k a2 t479 _ A7.out).mono ?_); rintro e w' ⟨rfl, ⟨nd, rfl⟩⟩; (try first | exact ⟨rfl, _, World.drewN_drewN _ _ _⟩ | exact ⟨rfl, _, Eq.trans (World.drewN_drewN _ _ _) (congrArg (World.drewN _) (Nat.add_assoc _ _ _))⟩)))
 repeat (go_quiet (first | (go_at_call 81; (with_reducible refine (bits_LeadingZeros64.calls k a2 t479 _ A7.out).mono ?_); rintro e w' ⟨rfl, ⟨nd, rfl⟩⟩; (try first | exact ⟨rfl, _, World.drewN_drewN _ _ _⟩ | exact ⟨rfl, _, Eq.trans (World.drewN_drewN _ _ _) (congrArg (World.drewN _) (Nat.add_assoc _ _ _))⟩))); go_upto_block 0 with (first | (go_at_call 81; (with_reducible refine (bits_LeadingZeros64.calls k a2 t479 _ A7.out).mono ?_); rintro e w' ⟨rfl, ⟨nd, rfl⟩⟩; (try first | exact ⟨rfl, _, World.drewN_drewN _ _ _⟩ | exact ⟨rfl, _, Eq.trans (World.drewN_drewN _ _ _) (congrArg (World.drewN _) (Nat.add_assoc _ _ _))⟩))))
 (try simp only [Act.put, List.setIfInBounds_toArray, List.set_cons_zero, List.set_cons_succ])
 go_cut [15] (fun v15 wc => ∃ (kq : Nat) (x15_18 : Int), v15 = .int .u64 x15_18 ∧ Aside0 (bits_Div64.j2 kq ji10 ji8 ((ji10) / 4294967296) (Go.bits .and .u64 (ji10) 4294967295) (Go.bits .or .u64 (ji12) (ji15)) ((ji17) / 4294967296) (Go.bits .and .u64 (ji17) 4294967295) x15_18 = some (r1, r2)) ∧ Aside0 (kq ≤ k) ∧ Drawn0 w wc)
 case first =>
  have H := HC19.out
  clear HC19
  have H' := Aside0.mk H
  clear H
  go_wp2
  repeat (go_quiet (fail); try go_wp2)
  go_loopg [15, 16] k (fun kq v15 v16 w' => ∃ (x15_1 : Int) (x16_1 : Int), v15 = .int .u64 x15_1 ∧ v16 = .int .u64 x16_1 ∧ Aside0 (bits_Div64.l0 kq ji10 ji8 ((ji10) / 4294967296) (Go.bits .and .u64 (ji10) 4294967295) (Go.bits .or .u64 (ji12) (ji15)) ((ji17) / 4294967296) (Go.bits .and .u64 (ji17) 4294967295) x15_1 x16_1 = some (r1, r2)) ∧ Aside0 (kq ≤ k) ∧ Drawn0 w w')
  case atStart => exact ⟨(IntKind.u64.wrap (Int.tdiv (Go.bits .or .u64 (ji12) (ji15)) ((ji10) / 4294967296))), (IntKind.u64.wrap ((Go.bits .or .u64 (ji12) (ji15)) - (IntKind.u64.wrap ((IntKind.u64.wrap (Int.tdiv (Go.bits .or .u64 (ji12) (ji15)) ((ji10) / 4294967296))) * ((ji10) / 4294967296))))), (by first | rfl | (simp; done) | (simp only [← hji10, ← hji12, ← hji15] <;> (first | rfl | simp)) | (simp [*]; done)), (by first | rfl | (simp; done) | (simp only [← hji10, ← hji12, ← hji15] <;> (first | rfl | simp)) | (simp [*]; done)), H', ⟨Nat.le_refl _⟩, by repeat (first | exact Drawn0.refl _ | apply Drawn0.step)⟩
  case round =>
   clear H'
   obtain ⟨x15_1, x16_1, rfl, rfl, HA, HK1, ⟨m1, rfl⟩⟩ := hrel
   cases gk with
   | zero => exact absurd HA.out (by simp [bits_Div64.l0])
   | succ k1 =>
    have H := HA.out
    clear HA
    simp only [bits_Div64.l0] at H
    have HC20 := Aside0.mk H; clear H
    go_upto_region 17 with (fail)
    repeat (go_quiet (fail); go_upto_region 17 with (fail))
    go_cut [78] (fun v78 wc => ∃ (kq : Nat) (x78_19 : Bool), v78 = .bool x78_19 ∧ Aside0 (bits_Div64.j1 kq ji10 ji8 ((ji10) / 4294967296) (Go.bits .and .u64 (ji10) 4294967295) (Go.bits .or .u64 (ji12) (ji15)) ((ji17) / 4294967296) (Go.bits .and .u64 (ji17) 4294967295) x15_1 x16_1 x78_19 = some (r1, r2)) ∧ Aside0 (kq ≤ k1) ∧ Drawn0 w wc)
    case first =>
     have H := HC20.out
     clear HC20
     by_cases c21 : x15_1 ≥ 4294967296
     ·
      rw [if_pos c21] at H
      have c21b0 := decide_eq_true c21
      clear c21
      (first | rw [c21b0] | (simp only [i64_w, i32_w]; rw [c21b0]) | skip)
      have H' := Aside0.mk H
      clear H
      go_wp2
      repeat (go_quiet (fail); try go_wp2)
      go_meet
      case rel => exact ⟨_, (true), uG, H', ⟨by have := HK1.out; first | omega | exact Nat.le_refl _⟩, by repeat (first | exact Drawn0.refl _ | apply Drawn0.step)⟩
     rw [if_neg c21] at H
     have c21b0 := decide_eq_false c21
     clear c21
     (first | rw [c21b0] | (simp only [i64_w, i32_w]; rw [c21b0]) | skip)
     have H' := Aside0.mk H
     clear H
     go_wp2
     repeat (go_quiet (fail); try go_wp2)
     go_meet
     case rel => exact ⟨_, (decide ((IntKind.u64.wrap (x15_1 * (Go.bits .and .u64 (ji10) 4294967295))) > (IntKind.u64.wrap ((IntKind.u64.wrap (4294967296 * x16_1)) + ((ji17) / 4294967296))))), (by first | rfl | (simp; done) | (simp only [← hji10, ← hji17] <;> (first | rfl | simp)) | (simp [*]; done)), H', ⟨by have := HK1.out; first | omega | exact Nat.le_refl _⟩, by repeat (first | exact Drawn0.refl _ | apply Drawn0.step)⟩
    case rest =>
     clear HC20
     obtain ⟨kq, x78_19, rfl, HA, HJ19, ⟨mc19, rfl⟩⟩ := hcut
     cases kq with
     | zero => exact absurd HA.out (by simp [bits_Div64.j1])
     | succ kj19 =>
      have H := HA.out
      clear HA
      simp only [bits_Div64.j1] at H
      by_cases c22 : x78_19 = true
      ·
       subst c22
       have H1 : (if (IntKind.u64.wrap (x16_1 + ((ji10) / 4294967296))) ≥ 4294967296 then (bits_Div64.j2 kj19 ji10 ji8 ((ji10) / 4294967296) (Go.bits .and .u64 (ji10) 4294967295) (Go.bits .or .u64 (ji12) (ji15)) ((ji17) / 4294967296) (Go.bits .and .u64 (ji17) 4294967295) (IntKind.u64.wrap (x15_1 - 1))) else (bits_Div64.l0 kj19 ji10 ji8 ((ji10) / 4294967296) (Go.bits .and .u64 (ji10) 4294967295) (Go.bits .or .u64 (ji12) (ji15)) ((ji17) / 4294967296) (Go.bits .and .u64 (ji17) 4294967295) (IntKind.u64.wrap (x15_1 - 1)) (IntKind.u64.wrap (x16_1 + ((ji10) / 4294967296))))) = some (r1, r2) := by rw [if_pos rfl] at H; exact H
       clear H; have H := H1; clear H1
       by_cases c23 : (IntKind.u64.wrap (x16_1 + ((ji10) / 4294967296))) ≥ 4294967296
       ·
        rw [if_pos c23] at H
        have c23b0 := decide_eq_true c23
        clear c23
        have H' := Aside0.mk H
        clear H
        go_wp2
        repeat (go_quiet (fail); try go_wp2)
        go_meet
        case rel => exact ⟨_, (IntKind.u64.wrap (x15_1 - 1)), uG, H', ⟨by have := HK1.out; have := HJ19.out; first | omega | exact Nat.le_refl _⟩, by repeat (first | exact Drawn0.refl _ | apply Drawn0.step)⟩
       rw [if_neg c23] at H
       have c23b0 := decide_eq_false c23
       clear c23
       have H' := Aside0.mk H
       clear H
       go_wp2
       repeat (go_quiet (fail); try go_wp2)
       first | go_roundg kj19 | ((try simp only [← hji17] at H'); simp only [← hji17]; go_roundg kj19) | ((try simp only [← hji15] at H'); simp only [← hji15]; go_roundg kj19) | ((try simp only [← hji13] at H'); simp only [← hji13]; go_roundg kj19) | ((try simp only [← hji12] at H'); simp only [← hji12]; go_roundg kj19) | ((try simp only [← hji10] at H'); simp only [← hji10]; go_roundg kj19) | ((try simp only [← hji8] at H'); simp only [← hji8]; go_roundg kj19)
       case measure => have := HK1.out; have := HJ19.out; omega
       case rel => first | exact ⟨(IntKind.u64.wrap (x15_1 - 1)), (IntKind.u64.wrap (x16_1 + ((ji10) / 4294967296))), uG, (by first | rfl | (simp; done) | (simp only [← hji10] <;> (first | rfl | simp)) | (simp [*]; done)), H', ⟨by have := HK1.out; have := HJ19.out; omega⟩, by repeat (first | exact Drawn0.refl _ | apply Drawn0.step)⟩ | (simp only [← hji17] at H'; exact ⟨(IntKind.u64.wrap (x15_1 - 1)), (IntKind.u64.wrap (x16_1 + ((ji10) / 4294967296))), uG, (by first | rfl | (simp; done) | (simp only [← hji10] <;> (first | rfl | simp)) | (simp [*]; done)), H', ⟨by have := HK1.out; have := HJ19.out; omega⟩, by repeat (first | exact Drawn0.refl _ | apply Drawn0.step)⟩) | (simp only [← hji15] at H'; exact ⟨(IntKind.u64.wrap (x15_1 - 1)), (IntKind.u64.wrap (x16_1 + ((ji10) / 4294967296))), uG, (by first | rfl | (simp; done) | (simp only [← hji10] <;> (first | rfl | simp)) | (simp [*]; done)), H', ⟨by have := HK1.out; have := HJ19.out; omega⟩, by repeat (first | exact Drawn0.refl _ | apply Drawn0.step)⟩) | (simp only [← hji13] at H'; exact ⟨(IntKind.u64.wrap (x15_1 - 1)), (IntKind.u64.wrap (x16_1 + ((ji10) / 4294967296))), uG, (by first | rfl | (simp; done) | (simp only [← hji10] <;> (first | rfl | simp)) | (simp [*]; done)), H', ⟨by have := HK1.out; have := HJ19.out; omega⟩, by repeat (first | exact Drawn0.refl _ | apply Drawn0.step)⟩) | (simp only [← hji12] at H'; exact ⟨(IntKind.u64.wrap (x15_1 - 1)), (IntKind.u64.wrap (x16_1 + ((ji10) / 4294967296))), uG, (by first | rfl | (simp; done) | (simp only [← hji10] <;> (first | rfl | simp)) | (simp [*]; done)), H', ⟨by have := HK1.out; have := HJ19.out; omega⟩, by repeat (first | exact Drawn0.refl _ | apply Drawn0.step)⟩) | (simp only [← hji10] at H'; exact ⟨(IntKind.u64.wrap (x15_1 - 1)), (IntKind.u64.wrap (x16_1 + ((ji10) / 4294967296))), uG, (by first | rfl | (simp; done) | (simp only [← hji10] <;> (first | rfl | simp)) | (simp [*]; done)), H', ⟨by have := HK1.out; have := HJ19.out; omega⟩, by repeat (first | exact Drawn0.refl _ | apply Drawn0.step)⟩) | (simp only [← hji8] at H'; exact ⟨(IntKind.u64.wrap (x15_1 - 1)), (IntKind.u64.wrap (x16_1 + ((ji10) / 4294967296))), uG, (by first | rfl | (simp; done) | (simp only [← hji10] <;> (first | rfl | simp)) | (simp [*]; done)), H', ⟨by have := HK1.out; have := HJ19.out; omega⟩, by repeat (first | exact Drawn0.refl _ | apply Drawn0.step)⟩)
      replace c22 := Bool.eq_false_iff.mpr c22
      subst c22
      have H1 : (bits_Div64.j2 kj19 ji10 ji8 ((ji10) / 4294967296) (Go.bits .and .u64 (ji10) 4294967295) (Go.bits .or .u64 (ji12) (ji15)) ((ji17) / 4294967296) (Go.bits .and .u64 (ji17) 4294967295) x15_1) = some (r1, r2) := by rw [if_neg (show ¬ (false = true) by decide)] at H; exact H
      clear H; have H := H1; clear H1
      have H' := Aside0.mk H
      clear H
      go_wp2
      repeat (go_quiet (fail); try go_wp2)
      go_meet
      case rel => exact ⟨_, (x15_1), uG, H', ⟨by have := HK1.out; have := HJ19.out; first | omega | exact Nat.le_refl _⟩, by repeat (first | exact Drawn0.refl _ | apply Drawn0.step)⟩
 case rest =>
  clear HC19
  obtain ⟨kq, x15_18, rfl, HA, HJ18, ⟨mc18, rfl⟩⟩ := hcut
  cases kq with
  | zero => exact absurd HA.out (by simp [bits_Div64.j2])
  | succ kj18 =>
   have H := HA.out
   clear HA
   simp only [bits_Div64.j2] at H
   replace H := uE H; obtain ⟨c24, H⟩ := H
   have c24b0 := beq_eq_false_iff_ne.mpr c24
   have c24b1 := bne_iff_ne.mpr c24
   have H' := Aside0.mk H
   clear H
   go_wp2
   repeat (go_quiet (fail); try go_wp2)
   go_loopg [16, 18] kj18 (fun kq v16 v18 w' => ∃ (x16_2 : Int) (x18_2 : Int), v16 = .int .u64 x16_2 ∧ v18 = .int .u64 x18_2 ∧ Aside0 (bits_Div64.l1 kq ji10 ji8 ((ji10) / 4294967296) (Go.bits .and .u64 (ji10) 4294967295) (Go.bits .and .u64 (ji17) 4294967295) x15_18 x16_2 (IntKind.u64.wrap ((IntKind.u64.wrap ((IntKind.u64.wrap ((Go.bits .or .u64 (ji12) (ji15)) * 4294967296)) + ((ji17) / 4294967296))) - (IntKind.u64.wrap (x15_18 * ji10)))) x18_2 = some (r1, r2)) ∧ Aside0 (kq ≤ kj18) ∧ Drawn0 w w')
   case atStart => exact ⟨(IntKind.u64.wrap ((IntKind.u64.wrap ((IntKind.u64.wrap ((IntKind.u64.wrap ((Go.bits .or .u64 (ji12) (ji15)) * 4294967296)) + ((ji17) / 4294967296))) - (IntKind.u64.wrap (x15_18 * ji10)))) - (IntKind.u64.wrap ((IntKind.u64.wrap (Int.tdiv (IntKind.u64.wrap ((IntKind.u64.wrap ((IntKind.u64.wrap ((Go.bits .or .u64 (ji12) (ji15)) * 4294967296)) + ((ji17) / 4294967296))) - (IntKind.u64.wrap (x15_18 * ji10)))) ((ji10) / 4294967296))) * ((ji10) / 4294967296))))), (IntKind.u64.wrap (Int.tdiv (IntKind.u64.wrap ((IntKind.u64.wrap ((IntKind.u64.wrap ((Go.bits .or .u64 (ji12) (ji15)) * 4294967296)) + ((ji17) / 4294967296))) - (IntKind.u64.wrap (x15_18 * ji10)))) ((ji10) / 4294967296))), (by first | rfl | (simp; done) | (simp only [← hji10, ← hji12, ← hji15, ← hji17] <;> (first | rfl | simp)) | (simp [*]; done)), (by first | rfl | (simp; done) | (simp only [← hji10, ← hji12, ← hji15, ← hji17] <;> (first | rfl | simp)) | (simp [*]; done)), H', ⟨Nat.le_refl _⟩, by repeat (first | exact Drawn0.refl _ | apply Drawn0.step)⟩
   case round =>
    clear H'
    obtain ⟨x16_2, x18_2, rfl, rfl, HA, HK2, ⟨m2, rfl⟩⟩ := hrel
    cases gk with
    | zero => exact absurd HA.out (by simp [bits_Div64.l1])
    | succ k2 =>
     have H := HA.out
     clear HA
     simp only [bits_Div64.l1] at H
     have HC25 := Aside0.mk H; clear H
     go_upto_region 24 with (fail)
     repeat (go_quiet (fail); go_upto_region 24 with (fail))
     go_cut [113] (fun v113 wc => ∃ (kq : Nat) (x113_24 : Bool), v113 = .bool x113_24 ∧ Aside0 (bits_Div64.j4 kq ji10 ji8 ((ji10) / 4294967296) (Go.bits .and .u64 (ji10) 4294967295) (Go.bits .and .u64 (ji17) 4294967295) x15_18 x16_2 (IntKind.u64.wrap ((IntKind.u64.wrap ((IntKind.u64.wrap ((Go.bits .or .u64 (ji12) (ji15)) * 4294967296)) + ((ji17) / 4294967296))) - (IntKind.u64.wrap (x15_18 * ji10)))) x18_2 x113_24 = some (r1, r2)) ∧ Aside0 (kq ≤ k2) ∧ Drawn0 w wc)
     case first =>
      have H := HC25.out
      clear HC25
      by_cases c26 : x18_2 ≥ 4294967296
      ·
       rw [if_pos c26] at H
       have c26b0 := decide_eq_true c26
       clear c26
       (first | rw [c26b0] | (simp only [i64_w, i32_w]; rw [c26b0]) | skip)
       have H' := Aside0.mk H
       clear H
       go_wp2
       repeat (go_quiet (fail); try go_wp2)
       go_meet
       case rel => exact ⟨_, (true), uG, H', ⟨by have := HJ18.out; have := HK2.out; first | omega | exact Nat.le_refl _⟩, by repeat (first | exact Drawn0.refl _ | apply Drawn0.step)⟩
      rw [if_neg c26] at H
      have c26b0 := decide_eq_false c26
      clear c26
      (first | rw [c26b0] | (simp only [i64_w, i32_w]; rw [c26b0]) | skip)
      have H' := Aside0.mk H
      clear H
      go_wp2
      repeat (go_quiet (fail); try go_wp2)
      go_meet
      case rel => exact ⟨_, (decide ((IntKind.u64.wrap (x18_2 * (Go.bits .and .u64 (ji10) 4294967295))) > (IntKind.u64.wrap ((IntKind.u64.wrap (4294967296 * x16_2)) + (Go.bits .and .u64 (ji17) 4294967295))))), (by first | rfl | (simp; done) | (simp only [← hji10, ← hji17] <;> (first | rfl | simp)) | (simp [*]; done)), H', ⟨by have := HJ18.out; have := HK2.out; first | omega | exact Nat.le_refl _⟩, by repeat (first | exact Drawn0.refl _ | apply Drawn0.step)⟩
     case rest =>
      clear HC25
      obtain ⟨kq, x113_24, rfl, HA, HJ24, ⟨mc24, rfl⟩⟩ := hcut
      cases kq with
      | zero => exact absurd HA.out (by simp [bits_Div64.j4])
      | succ kj24 =>
       have H := HA.out
       clear HA
       simp only [bits_Div64.j4] at H
       by_cases c27 : x113_24 = true
       ·
        subst c27
        have H1 : (if (IntKind.u64.wrap (x16_2 + ((ji10) / 4294967296))) ≥ 4294967296 then (if 0 ≤ ji8 then (some (IntKind.u64.wrap ((IntKind.u64.wrap (x15_18 * 4294967296)) + (IntKind.u64.wrap (x18_2 - 1))), shr .u64 (IntKind.u64.wrap ((IntKind.u64.wrap ((IntKind.u64.wrap ((IntKind.u64.wrap ((IntKind.u64.wrap ((IntKind.u64.wrap ((Go.bits .or .u64 (ji12) (ji15)) * 4294967296)) + ((ji17) / 4294967296))) - (IntKind.u64.wrap (x15_18 * ji10)))) * 4294967296)) + (Go.bits .and .u64 (ji17) 4294967295))) - (IntKind.u64.wrap ((IntKind.u64.wrap (x18_2 - 1)) * ji10)))) ji8)) else (none)) else (bits_Div64.l1 kj24 ji10 ji8 ((ji10) / 4294967296) (Go.bits .and .u64 (ji10) 4294967295) (Go.bits .and .u64 (ji17) 4294967295) x15_18 (IntKind.u64.wrap (x16_2 + ((ji10) / 4294967296))) (IntKind.u64.wrap ((IntKind.u64.wrap ((IntKind.u64.wrap ((Go.bits .or .u64 (ji12) (ji15)) * 4294967296)) + ((ji17) / 4294967296))) - (IntKind.u64.wrap (x15_18 * ji10)))) (IntKind.u64.wrap (x18_2 - 1)))) = some (r1, r2) := by rw [if_pos rfl] at H; exact H
        clear H; have H := H1; clear H1
        by_cases c28 : (IntKind.u64.wrap (x16_2 + ((ji10) / 4294967296))) ≥ 4294967296
        ·
         rw [if_pos c28] at H
         have c28b0 := decide_eq_true c28
         clear c28
         replace H := uT H; obtain ⟨c29, H⟩ := H
         have c29b0 := eq_true c29
         have c29b1 := decide_eq_true c29
         clear c29
         obtain ⟨ji30, hji30⟩ : ∃ j_ : Int, (shr .u64 (IntKind.u64.wrap ((IntKind.u64.wrap ((IntKind.u64.wrap ((IntKind.u64.wrap ((IntKind.u64.wrap ((IntKind.u64.wrap ((Go.bits .or .u64 (ji12) (ji15)) * 4294967296)) + ((ji17) / 4294967296))) - (IntKind.u64.wrap (x15_18 * ji10)))) * 4294967296)) + (Go.bits .and .u64 (ji17) 4294967295))) - (IntKind.u64.wrap ((IntKind.u64.wrap (x18_2 - 1)) * ji10)))) ji8) = j_ := ⟨_, rfl⟩
         first | rw [hji30] at H | simp only [hji30] at H
         have hji30_ : ((IntKind.u64.wrap ((IntKind.u64.wrap ((IntKind.u64.wrap ((IntKind.u64.wrap ((IntKind.u64.wrap ((IntKind.u64.wrap ((Go.bits .or .u64 (ji12) (ji15)) * 4294967296)) + ((ji17) / 4294967296))) - (IntKind.u64.wrap (x15_18 * ji10)))) * 4294967296)) + (Go.bits .and .u64 (ji17) 4294967295))) - (IntKind.u64.wrap ((IntKind.u64.wrap (x18_2 - 1)) * ji10)))) / 2 ^ min ji8.toNat 64) = ji30 := hji30
         have hji30z : ji8 ≤ 64 → ((IntKind.u64.wrap ((IntKind.u64.wrap ((IntKind.u64.wrap ((IntKind.u64.wrap ((IntKind.u64.wrap ((IntKind.u64.wrap ((Go.bits .or .u64 (ji12) (ji15)) * 4294967296)) + ((ji17) / 4294967296))) - (IntKind.u64.wrap (x15_18 * ji10)))) * 4294967296)) + (Go.bits .and .u64 (ji17) 4294967295))) - (IntKind.u64.wrap ((IntKind.u64.wrap (x18_2 - 1)) * ji10)))) / 2 ^ ji8.toNat) = ji30 := shr_small hji30
         simp only [Option.some.injEq, Prod.mk.injEq] at H
         obtain ⟨rfl, rfl⟩ := H
         go_wp2
         repeat (go_quiet (fail); try go_wp2)
         go_ret2
         exact ⟨by first | rfl | (simp; done) | (simp only [← hji8, ← hji10, ← hji12, ← hji13, ← hji15, ← hji17, ← hji30] <;> (first | rfl | simp)) | (simp [*]; done), by repeat (first | exact Drawn0.refl _ | apply Drawn0.step)⟩
        rw [if_neg c28] at H
        have c28b0 := decide_eq_false c28
        clear c28
        have H' := Aside0.mk H
        clear H
        go_wp2
        repeat (go_quiet (fail); try go_wp2)
        first | go_roundg kj24 | ((try simp only [← hji30] at H'); simp only [← hji30]; go_roundg kj24) | ((try simp only [← hji17] at H'); simp only [← hji17]; go_roundg kj24) | ((try simp only [← hji15] at H'); simp only [← hji15]; go_roundg kj24) | ((try simp only [← hji13] at H'); simp only [← hji13]; go_roundg kj24) | ((try simp only [← hji12] at H'); simp only [← hji12]; go_roundg kj24) | ((try simp only [← hji10] at H'); simp only [← hji10]; go_roundg kj24)
        case measure => have := HJ18.out; have := HK2.out; have := HJ24.out; omega
        case rel => first | exact ⟨(IntKind.u64.wrap (x16_2 + ((ji10) / 4294967296))), (IntKind.u64.wrap (x18_2 - 1)), (by first | rfl | (simp; done) | (simp only [← hji10] <;> (first | rfl | simp)) | (simp [*]; done)), uG, H', ⟨by have := HJ18.out; have := HK2.out; have := HJ24.out; omega⟩, by repeat (first | exact Drawn0.refl _ | apply Drawn0.step)⟩ | (simp only [← hji30] at H'; exact ⟨(IntKind.u64.wrap (x16_2 + ((ji10) / 4294967296))), (IntKind.u64.wrap (x18_2 - 1)), (by first | rfl | (simp; done) | (simp only [← hji10] <;> (first | rfl | simp)) | (simp [*]; done)), uG, H', ⟨by have := HJ18.out; have := HK2.out; have := HJ24.out; omega⟩, by repeat (first | exact Drawn0.refl _ | apply Drawn0.step)⟩) | (simp only [← hji17] at H'; exact ⟨(IntKind.u64.wrap (x16_2 + ((ji10) / 4294967296))), (IntKind.u64.wrap (x18_2 - 1)), (by first | rfl | (simp; done) | (simp only [← hji10] <;> (first | rfl | simp)) | (simp [*]; done)), uG, H', ⟨by have := HJ18.out; have := HK2.out; have := HJ24.out; omega⟩, by repeat (first | exact Drawn0.refl _ | apply Drawn0.step)⟩) | (simp only [← hji15] at H'; exact ⟨(IntKind.u64.wrap (x16_2 + ((ji10) / 4294967296))), (IntKind.u64.wrap (x18_2 - 1)), (by first | rfl | (simp; done) | (simp only [← hji10] <;> (first | rfl | simp)) | (simp [*]; done)), uG, H', ⟨by have := HJ18.out; have := HK2.out; have := HJ24.out; omega⟩, by repeat (first | exact Drawn0.refl _ | apply Drawn0.step)⟩) | (simp only [← hji13] at H'; exact ⟨(IntKind.u64.wrap (x16_2 + ((ji10) / 4294967296))), (IntKind.u64.wrap (x18_2 - 1)), (by first | rfl | (simp; done) | (simp only [← hji10] <;> (first | rfl | simp)) | (simp [*]; done)), uG, H', ⟨by have := HJ18.out; have := HK2.out; have := HJ24.out; omega⟩, by repeat (first | exact Drawn0.refl _ | apply Drawn0.step)⟩) | (simp only [← hji12] at H'; exact ⟨(IntKind.u64.wrap (x16_2 + ((ji10) / 4294967296))), (IntKind.u64.wrap (x18_2 - 1)), (by first | rfl | (simp; done) | (simp only [← hji10] <;> (first | rfl | simp)) | (simp [*]; done)), uG, H', ⟨by have := HJ18.out; have := HK2.out; have := HJ24.out; omega⟩, by repeat (first | exact Drawn0.refl _ | apply Drawn0.step)⟩) | (simp only [← hji10] at H'; exact ⟨(IntKind.u64.wrap (x16_2 + ((ji10) / 4294967296))), (IntKind.u64.wrap (x18_2 - 1)), (by first | rfl | (simp; done) | (simp only [← hji10] <;> (first | rfl | simp)) | (simp [*]; done)), uG, H', ⟨by have := HJ18.out; have := HK2.out; have := HJ24.out; omega⟩, by repeat (first | exact Drawn0.refl _ | apply Drawn0.step)⟩)
       replace c27 := Bool.eq_false_iff.mpr c27
       subst c27
       have H1 : (if 0 ≤ ji8 then (some (IntKind.u64.wrap ((IntKind.u64.wrap (x15_18 * 4294967296)) + x18_2), shr .u64 (IntKind.u64.wrap ((IntKind.u64.wrap ((IntKind.u64.wrap ((IntKind.u64.wrap ((IntKind.u64.wrap ((IntKind.u64.wrap ((Go.bits .or .u64 (ji12) (ji15)) * 4294967296)) + ((ji17) / 4294967296))) - (IntKind.u64.wrap (x15_18 * ji10)))) * 4294967296)) + (Go.bits .and .u64 (ji17) 4294967295))) - (IntKind.u64.wrap (x18_2 * ji10)))) ji8)) else (none)) = some (r1, r2) := by rw [if_neg (show ¬ (false = true) by decide)] at H; exact H
       clear H; have H := H1; clear H1
       replace H := uT H; obtain ⟨c31, H⟩ := H
       have c31b0 := eq_true c31
       have c31b1 := decide_eq_true c31
       clear c31
       obtain ⟨ji32, hji32⟩ : ∃ j_ : Int, (shr .u64 (IntKind.u64.wrap ((IntKind.u64.wrap ((IntKind.u64.wrap ((IntKind.u64.wrap ((IntKind.u64.wrap ((IntKind.u64.wrap ((Go.bits .or .u64 (ji12) (ji15)) * 4294967296)) + ((ji17) / 4294967296))) - (IntKind.u64.wrap (x15_18 * ji10)))) * 4294967296)) + (Go.bits .and .u64 (ji17) 4294967295))) - (IntKind.u64.wrap (x18_2 * ji10)))) ji8) = j_ := ⟨_, rfl⟩
       first | rw [hji32] at H | simp only [hji32] at H
       have hji32_ : ((IntKind.u64.wrap ((IntKind.u64.wrap ((IntKind.u64.wrap ((IntKind.u64.wrap ((IntKind.u64.wrap ((IntKind.u64.wrap ((Go.bits .or .u64 (ji12) (ji15)) * 4294967296)) + ((ji17) / 4294967296))) - (IntKind.u64.wrap (x15_18 * ji10)))) * 4294967296)) + (Go.bits .and .u64 (ji17) 4294967295))) - (IntKind.u64.wrap (x18_2 * ji10)))) / 2 ^ min ji8.toNat 64) = ji32 := hji32
       have hji32z : ji8 ≤ 64 → ((IntKind.u64.wrap ((IntKind.u64.wrap ((IntKind.u64.wrap ((IntKind.u64.wrap ((IntKind.u64.wrap ((IntKind.u64.wrap ((Go.bits .or .u64 (ji12) (ji15)) * 4294967296)) + ((ji17) / 4294967296))) - (IntKind.u64.wrap (x15_18 * ji10)))) * 4294967296)) + (Go.bits .and .u64 (ji17) 4294967295))) - (IntKind.u64.wrap (x18_2 * ji10)))) / 2 ^ ji8.toNat) = ji32 := shr_small hji32
       simp only [Option.some.injEq, Prod.mk.injEq] at H
       obtain ⟨rfl, rfl⟩ := H
       go_wp2
       repeat (go_quiet (fail); try go_wp2)
       go_ret2
       exact ⟨by first | rfl | (simp; done) | (simp only [← hji8, ← hji10, ← hji12, ← hji13, ← hji15, ← hji17, ← hji32] <;> (first | rfl | simp)) | (simp [*]; done), by repeat (first | exact Drawn0.refl _ | apply Drawn0.step)⟩
def nat_short.l0 : Nat → List Int → Int → List Int → Int → Int → Option (List Int × Int)
 | 0, _, _, _, _, _ => none
 | k + 1, x0, x1, x6, x7, x8 => if x8 ≥ 0 then (if 0 ≤ x8 then (if x8 < (x0.length : Int) then ((bits_Div64.f k x7 (rd x0 x8) x1).bind fun bt484 => (if x8 < (x6.length : Int) then (nat_short.l0 k x0 x1 (x6.set (x8 : Int).toNat bt484.1) bt484.2 (wrap64 (x8 - 1))) else (none))) else (none)) else (none)) else ((nat_trim.f k x6).bind fun t487 => (some (t487, x7)))
def nat_short.f (k : Nat) (l0 : List Int) (a1 : Int) : Option (List Int × Int) := if 0 ≤ (l0.length : Int) then (if ((l0.length : Int) : Int).toNat ≤ 35184372088832 then (nat_short.l0 k l0 a1 (List.replicate ((l0.length : Int) : Int).toNat 0) 0 (wrap64 ((l0.length : Int) - 1))) else (none)) else (none)
theorem nat_short.calls (k : Nat) (A0 : Option Addr) (c0 : Nat) (l0 : List Int) (a1 : Int) (r1 : List Int) (r2 : Int) (w : World) (hr0 : Kd.C (Kd.int .u64) w A0 l0.length l0) (hc0 : l0.length ≤ c0) (h : nat_short.f k l0 a1 = some (r1, r2)) :
  Calls Try.prog 49 #[.slice A0 l0.length c0, .int .u64 a1] w fun e w' => ∃ v0_ : Value, e = .returned (.tuple #[v0_, .int .u64 r2]) ∧ Kd.R (Kd.int .u64) 62 w' w.heap.size (fun _ => True) v0_ r1 ∧ Below w.heap.size w w' := by
 have HR0 := Aside0.mk hr0; have HC0 := Aside0.mk hc0; clear hr0 hc0
 have HB := Aside0.mk (Below.refl w.heap.size w)
 have H : (if 0 ≤ (l0.length : Int) then (if ((l0.length : Int) : Int).toNat ≤ 35184372088832 then (nat_short.l0 k l0 a1 (List.replicate ((l0.length : Int) : Int).toNat 0) 0 (wrap64 ((l0.length : Int) - 1))) else (none)) else (none)) = some (r1, r2) := h
 clear h
 replace H := uT H; obtain ⟨c3, H⟩ := H
 have c3b0 := eq_true c3
 have c3b1 := decide_eq_true c3
 clear c3
 replace H := uT H; obtain ⟨c4, H⟩ := H
 have c4b0 := eq_true c4
 have c4b1 := decide_eq_true c4
 clear c4
 obtain ⟨y480, hy480⟩ : ∃ y_ : List Int, y_ = (List.replicate ((l0.length : Int) : Int).toNat 0) := ⟨_, rfl⟩
 replace H : (nat_short.l0 k l0 a1 y480 0 (wrap64 ((l0.length : Int) - 1))) = some (r1, r2) := by first | (rw [hy480]; with_reducible exact H) | (have H2_ := (Option.bind_some _ _).symm.trans H; rw [hy480]; with_reducible exact H2_) | (have H2_ := (Option.bind_some _ _).symm.trans H; with_reducible exact H2_) | with_reducible exact H | (rw [hy480]; exact H) | exact H
 have Ny480 := Aside0.mk hy480; clear hy480
 have H' := Aside0.mk H
 clear H
 go_enter Try.func49, Try.ntmps49
 go_wp2_with (first | ((with_reducible refine gate_dst (N := 11) rfl ?_); refine Kd.R_make (Kd.int .u64) _ 62 rfl (N := 11) rfl 57 _ _ rfl (l0.length : Int) rfl rfl Try.underlying57 (.int .u64 0) 8 info62 rfl (by decide) (by omega) 0 (ok := fun _ => True) (okp := fun _ => True) rfl (fun _ hk => hk) trivial uO (Nat.le_trans (Nat.mul_le_mul_right _ (uO : (l0.length : Int).toNat ≤ 35184372088832)) (by omega)) (Below.refl _ _) (Nat.le_refl _) ?_; intro v481 w5 ho6 hb hg_ hnew_; clear hg_ hnew_; (first | rw [← Ny480.out] at ho6 | (simp only [Int.reduceToNat] at ho6; rw [← Ny480.out] at ho6)); have HO482 := ulo ho6; replace HB := uy hb; clear hb ho6))
 go_loopg [7, 8] k (fun kq v7 v8 w' => ∃ (x6_1 : List Int) (x7_1 : Int) (x8_1 : Int), v7 = .int .u64 x7_1 ∧ v8 = .int .i64 x8_1 ∧ Aside0 (nat_short.l0 kq l0 a1 x6_1 x7_1 x8_1 = some (r1, r2)) ∧ Aside0 (kq ≤ k) ∧ Aside0 (Kd.R (Kd.int .u64) 62 w' w.heap.size (fun _ => True) v481 x6_1) ∧ Aside0 (Below w.heap.size w w'))
 case atStart => exact ⟨(y480), (0), (wrap64 ((l0.length : Int) - 1)), uG, uG, H', ⟨Nat.le_refl _⟩, ⟨uR HO482.out⟩, ⟨uB⟩⟩
 case round =>
  clear H'
  obtain ⟨x6_1, x7_1, x8_1, rfl, rfl, HA, HK1, HO_6, HB⟩ := hrel
  cases gk with
  | zero => exact absurd HA.out (by simp [nat_short.l0])
  | succ k1 =>
   have H := HA.out
   clear HA
   simp only [nat_short.l0] at H
   by_cases c7 : x8_1 ≥ 0
   ·
    rw [if_pos c7] at H
    have c7b0 := decide_eq_true c7
    clear c7
    replace H := uT H; obtain ⟨c8, H⟩ := H
    have c8b0 := decide_eq_true c8
    clear c8
    replace H := uT H; obtain ⟨c9, H⟩ := H
    have c9b0 := decide_eq_true c9
    clear c9
    replace H := ub H; obtain ⟨⟨t484, t485⟩, A10, H⟩ := H
    (try dsimp only at H)
    replace H := uT H; obtain ⟨c11, H⟩ := H
    have c11b0 := decide_eq_true c11
    clear c11
    obtain ⟨y486, hy486⟩ : ∃ y_ : List Int, y_ = (x6_1.set (x8_1 : Int).toNat t484) := ⟨_, rfl⟩
    replace H : (nat_short.l0 k1 l0 a1 y486 t485 (wrap64 (x8_1 - 1))) = some (r1, r2) := by first | (rw [hy486]; with_reducible exact H) | (have H2_ := (Option.bind_some _ _).symm.trans H; rw [hy486]; with_reducible exact H2_) | (have H2_ := (Option.bind_some _ _).symm.trans H; with_reducible exact H2_) | with_reducible exact H | (rw [hy486]; exact H) | exact H
    have Ny486 := Aside0.mk hy486; clear hy486
    have H' := Aside0.mk H
    clear H
    have p483 : 0 ≤ (x8_1 : Int) := uO
    have q483 : x8_1 < (l0.length : Int) := uO
    obtain ⟨ad483, e483, hx483_0⟩ := Kd.at_int HR0.out x8_1 p483 q483
    cases e483
    replace hx483_0 := (HB.out.cell (World.block_lt_of_cell? w _ hx483_0)).trans hx483_0
    replace p483 := eq_true p483
    replace q483 := eq_true q483
    go_wp2_with (first | ((with_reducible refine ug 80 rfl ?_); refine uh (some 28) rfl Try.func80 #[.int .u64 x7_1, .int .u64 (rd l0 x8_1), .int .u64 a1] ?_; (with_reducible refine (bits_Div64.calls k1 x7_1 (rd l0 x8_1) a1 t484 t485 _ A10.out).mono ?_); rintro e w' ⟨rfl, ⟨nd, rfl⟩⟩; refine ⟨_, rfl, ?_⟩; (try (rw [drewN_self wr]; generalize hq_ : World.drewN wr _ = wr; replace HO_6 : Aside0 (Kd.R (Kd.int .u64) 62 wr w.heap.size (fun _ => True) v481 x6_1) := ⟨by rw [← hq_]; exact (uR HO_6.out)⟩; replace HB : Aside0 (Below w.heap.size w wr) := ⟨by rw [← hq_]; exact uB⟩; clear hq_)); have p12 : 0 ≤ (x8_1 : Int) := uO; have q12 : (x8_1 : Int) < ((x6_1.length : Int) : Int) := uO; obtain ⟨go12, co12, eo12, gb12, gl12, cl12, HG12⟩ := Kd.R_form HO_6.out (by omega); (first | cases eo12 | (injection eo12 with ea_ en_ ec_; (first | subst ea_ | (injection ea_ with ea_; subst ea_)); subst ec_; clear en_)); have GB12 := Aside0.mk gb12; have GG12 := Aside0.mk HG12; clear gb12 gl12 HG12; obtain ⟨hx12_0, hf12_0⟩ := Kd.R_celln 0 HO_6.out (x8_1 : Int) p12 q12; replace p12 := eq_true p12; replace q12 := eq_true q12; obtain ⟨hy13_, hz13_⟩ := Kd.R_celln 0 HO_6.out (x8_1 : Int) uO uO; have HP13 := Kd.R_putg HO_6.out (x8_1 : Int) t484) | ((with_reducible refine gate_store (t := 62) (p := 31) rfl ?_); refine store_event (t := 62) (p := 31) (v := ?vo_w14) (w1 := (wr.setCell ⟨go12, (x8_1 : Int).toNat, none⟩ (.int .u64 t484))) ?hg ?ho ?hn ?hr ?_; (case ho => rfl); (case hg => rfl); (case hn => rfl); (case hr => first | (go_simp; done) | (go_simp; rfl) | (obtain ⟨hy_, hz_⟩ := Kd.R_celln 0 HO_6.out (x8_1 : Int) uO uO; (try simp only [Go.IntWalk.toNatUp] at hy_ hz_); (try simp only [Int.reduceToNat, Int.toNat_zero, Int.toNat_ofNat] at hy_ hz_); first | (go_simp; done) | (go_simp; rfl))); intro w14 hw; have hg : wr.grownBy w14 (some go12) := (by rw [hw]; exact HP13.2); have hp_ : Kd.R (Kd.int .u64) 62 w14 w.heap.size (fun _ => True) (.slice (some ⟨go12, 0, none⟩) x6_1.length co12) y486 := (by rw [hw, Ny486.out]; exact HP13.1); clear HP13; replace HO_6 := Aside0.mk (hp_); replace HB := Aside0.mk ((by rw [hw]; exact below_set (HB.out) GB12.out : Below w.heap.size w w14)); clear hg hw hp_))
    go_roundg k1
    case measure => have := HK1.out; omega
    case rel => exact ⟨(y486), (t485), (wrap64 (x8_1 - 1)), uG, uG, H', ⟨by have := HK1.out; omega⟩, ⟨uR HO_6.out⟩, ⟨uB⟩⟩
   rw [if_neg c7] at H
   have c7b0 := decide_eq_false c7
   clear c7
   replace H := ub H; obtain ⟨t487, A15, H⟩ := H
   simp only [Option.some.injEq, Prod.mk.injEq] at H
   obtain ⟨rfl, rfl⟩ := H
   obtain ⟨Ao16, co16, eo16⟩ := Kd.R_slice HO_6.out
   subst eo16
   go_wp2_with (first | ((with_reducible refine ug 72 rfl ?_); refine uh (some 33) rfl Try.func72 #[.slice Ao16 x6_1.length co16] ?_; (with_reducible refine (nat_trim.calls k1 (fun k_ => some k_ = (.slice Ao16 x6_1.length co16 : Value).ownBlock) (.slice Ao16 x6_1.length co16) x6_1 t487 w _ ?side1 ?side2 A15.out).mono ?_); (case side1 => repeat (first | (with_reducible first | exact HB.out | apply below_alloc | apply pw_below_drewN | apply below_drew1) | exact HB.out)); (case side2 => exact Kd.R_tight rfl HO_6.out); rintro e w17 ⟨v488, rfl, ho0, hb, hkp⟩; refine ⟨_, rfl, ?_⟩; have HO489 := Aside0.mk (Kd.R_mono (ok' := fun k_ => True) ho0 (fun k_ hk_ => trivial)); replace HB := Aside0.mk (hb); clear HO_6; (try clear hb); (try clear hkp); (try clear ho0)))
   go_ret2
   exact ⟨_, uF, uR HO489.out, uB⟩
mutual
def nat_guess.l0 : Nat → Int → Int → Int → Int → Int → Option (Int)
 | 0, _, _, _, _, _ => none
 | k + 1, x2, x3, x4, x11, x12 => (bits_Mul64.f x11 x4).bind fun bt492 => (if bt492.1 < x12 then (nat_guess.j1 k x2 x3 x4 x11 x12 true) else (if bt492.1 = x12 then (nat_guess.j1 k x2 x3 x4 x11 x12 (decide (bt492.2 ≤ x2))) else (nat_guess.j1 k x2 x3 x4 x11 x12 false)))
def nat_guess.j1 : Nat → Int → Int → Int → Int → Int → Bool → Option (Int)
 | 0, _, _, _, _, _, _ => none
 | k + 1, x2, x3, x4, x11, x12, x44 => if x44 = true then (some x11) else (if (IntKind.u64.wrap (x12 + x3)) < x12 then (some (IntKind.u64.wrap (x11 - 1))) else (nat_guess.l0 k x2 x3 x4 (IntKind.u64.wrap (x11 - 1)) (IntKind.u64.wrap (x12 + x3))))
end
def nat_guess.f (k : Nat) (a0 : Int) (a1 : Int) (a2 : Int) (a3 : Int) (a4 : Int) : Option (Int) := if a0 ≥ a3 then (some 18446744073709551615) else ((bits_Div64.f k a0 a1 a3).bind fun bt490 => (nat_guess.l0 k a2 a3 a4 bt490.1 bt490.2))
theorem nat_guess.calls (k : Nat) (a0 : Int) (a1 : Int) (a2 : Int) (a3 : Int) (a4 : Int) (r : Int) (w : World) (h : nat_guess.f k a0 a1 a2 a3 a4 = some r) :
  Calls Try.prog 82 #[.int .u64 a0, .int .u64 a1, .int .u64 a2, .int .u64 a3, .int .u64 a4] w fun e w' => e = .returned (.int .u64 r) ∧ Drawn0 w w' := by
 have H : (if a0 ≥ a3 then (some 18446744073709551615) else ((bits_Div64.f k a0 a1 a3).bind fun bt490 => (nat_guess.l0 k a2 a3 a4 bt490.1 bt490.2))) = some r := h
 clear h
 by_cases c6 : a0 ≥ a3
 ·
  rw [if_pos c6] at H
  have c6b0 := decide_eq_true c6
  clear c6
  obtain rfl := Option.some.inj H
  go_enter Try.func82, Try.ntmps82
  go_wp2
  go_ret
  exact ⟨by first | rfl | (simp; done) | (simp [*]; done), by repeat (first | exact Drawn0.refl _ | apply Drawn0.step)⟩
 rw [if_neg c6] at H
 have c6b0 := decide_eq_false c6
 clear c6
 replace H := ub H; obtain ⟨⟨t490, t491⟩, A7, H⟩ := H
 (try dsimp only at H)
 have H' := Aside0.mk H
 clear H
 go_enter Try.func82, Try.ntmps82
 go_wp2_with (first | ((with_reducible refine ug 80 rfl ?_); refine uh (some 23) rfl Try.func80 #[.int .u64 a0, .int .u64 a1, .int .u64 a3] ?_; (with_reducible refine (bits_Div64.calls k a0 a1 a3 t490 t491 _ A7.out).mono ?_); rintro e w' ⟨rfl, ⟨nd, rfl⟩⟩; refine ⟨_, rfl, ?_⟩))
 go_loopg [11, 12] k (fun kq v11 v12 w' => ∃ (x11_1 : Int) (x12_1 : Int), v11 = .int .u64 x11_1 ∧ v12 = .int .u64 x12_1 ∧ Aside0 (nat_guess.l0 kq a2 a3 a4 x11_1 x12_1 = some r) ∧ Aside0 (kq ≤ k) ∧ Drawn0 w w')
 case atStart => exact ⟨(t490), (t491), uG, uG, H', ⟨Nat.le_refl _⟩, by repeat (first | exact Drawn0.refl _ | apply Drawn0.step)⟩
 case round =>
  clear H'
  obtain ⟨x11_1, x12_1, rfl, rfl, HA, HK1, ⟨m1, rfl⟩⟩ := hrel
  cases gk with
  | zero => exact absurd HA.out (by simp [nat_guess.l0])
  | succ k1 =>
   have H := HA.out
   clear HA
   simp only [nat_guess.l0] at H
   replace H := ub H; obtain ⟨⟨t492, t493⟩, A8, H⟩ := H
   (try dsimp only at H)
   have HC9 := Aside0.mk H; clear H
   go_upto_region 5 with (first | ((with_reducible refine ug 102 rfl ?_); refine uh (some 29) rfl Try.func102 #[.int .u64 x11_1, .int .u64 a4] ?_; (with_reducible refine (bits_Mul64.calls x11_1 a4 t492 t493 _ A8.out).mono ?_); rintro e w' ⟨rfl, ⟨nd, rfl⟩⟩; refine ⟨_, rfl, ?_⟩))
   (try simp only [Act.put, List.setIfInBounds_toArray, List.set_cons_zero, List.set_cons_succ])
   go_cut [44] (fun v44 wc => ∃ (kq : Nat) (x44_8 : Bool), v44 = .bool x44_8 ∧ Aside0 (nat_guess.j1 kq a2 a3 a4 x11_1 x12_1 x44_8 = some r) ∧ Aside0 (kq ≤ k1) ∧ Drawn0 w wc)
   case first =>
    have H := HC9.out
    clear HC9
    by_cases c10 : t492 < x12_1
    ·
     rw [if_pos c10] at H
     have c10b0 := decide_eq_true c10
     clear c10
     (first | rw [c10b0] | (simp only [i64_w, i32_w]; rw [c10b0]) | skip)
     have H' := Aside0.mk H
     clear H
     go_wp2
     go_meet
     case rel => exact ⟨_, (true), uG, H', ⟨by have := HK1.out; first | omega | exact Nat.le_refl _⟩, by repeat (first | exact Drawn0.refl _ | apply Drawn0.step)⟩
    rw [if_neg c10] at H
    have c10b0 := decide_eq_false c10
    clear c10
    (first | rw [c10b0] | (simp only [i64_w, i32_w]; rw [c10b0]) | skip)
    by_cases c11 : t492 = x12_1
    ·
     rw [if_pos c11] at H
     have c11b0 := beq_iff_eq.mpr c11
     have c11b1 := bne_eq_false_iff_eq.mpr c11
     clear c11
     have H' := Aside0.mk H
     clear H
     go_wp2
     go_meet
     case rel => exact ⟨_, (decide (t493 ≤ a2)), uG, H', ⟨by have := HK1.out; first | omega | exact Nat.le_refl _⟩, by repeat (first | exact Drawn0.refl _ | apply Drawn0.step)⟩
    rw [if_neg c11] at H
    have c11b0 := beq_eq_false_iff_ne.mpr c11
    have c11b1 := bne_iff_ne.mpr c11
    have H' := Aside0.mk H
    clear H
    go_wp2
    go_meet
    case rel => exact ⟨_, (false), uG, H', ⟨by have := HK1.out; first | omega | exact Nat.le_refl _⟩, by repeat (first | exact Drawn0.refl _ | apply Drawn0.step)⟩
   case rest =>
    clear HC9
    obtain ⟨kq, x44_8, rfl, HA, HJ8, ⟨mc8, rfl⟩⟩ := hcut
    cases kq with
    | zero => exact absurd HA.out (by simp [nat_guess.j1])
    | succ kj8 =>
     have H := HA.out
     clear HA
     simp only [nat_guess.j1] at H
     by_cases c12 : x44_8 = true
     ·
      subst c12
      have H1 : (some x11_1) = some r := by rw [if_pos rfl] at H; exact H
      clear H; have H := H1; clear H1
      obtain rfl := Option.some.inj H
      go_wp2
      go_ret
      exact ⟨by first | rfl | (simp; done) | (simp [*]; done), by repeat (first | exact Drawn0.refl _ | apply Drawn0.step)⟩
     replace c12 := Bool.eq_false_iff.mpr c12
     subst c12
     have H1 : (if (IntKind.u64.wrap (x12_1 + a3)) < x12_1 then (some (IntKind.u64.wrap (x11_1 - 1))) else (nat_guess.l0 kj8 a2 a3 a4 (IntKind.u64.wrap (x11_1 - 1)) (IntKind.u64.wrap (x12_1 + a3)))) = some r := by rw [if_neg (show ¬ (false = true) by decide)] at H; exact H
     clear H; have H := H1; clear H1
     by_cases c13 : (IntKind.u64.wrap (x12_1 + a3)) < x12_1
     ·
      rw [if_pos c13] at H
      have c13b0 := decide_eq_true c13
      clear c13
      obtain rfl := Option.some.inj H
      go_wp2
      go_ret
      exact ⟨by first | rfl | (simp; done) | (simp [*]; done), by repeat (first | exact Drawn0.refl _ | apply Drawn0.step)⟩
     rw [if_neg c13] at H
     have c13b0 := decide_eq_false c13
     clear c13
     have H' := Aside0.mk H
     clear H
     go_wp2
     go_roundg kj8
     case measure => have := HK1.out; have := HJ8.out; omega
     case rel => exact ⟨(IntKind.u64.wrap (x11_1 - 1)), (IntKind.u64.wrap (x12_1 + a3)), uG, uG, H', ⟨by have := HK1.out; have := HJ8.out; omega⟩, by repeat (first | exact Drawn0.refl _ | apply Drawn0.step)⟩
def windbreakref01_Right.f (l0 : List Int) : Option (Bool) := if (l0.length : Int) ≤ 64 then (if (l0.length : Int) = 0 then (some true) else (if 0 ≤ (wrap64 ((l0.length : Int) - 1)) then (if (wrap64 ((l0.length : Int) - 1)) < (l0.length : Int) then (some ((rd l0 (wrap64 ((l0.length : Int) - 1))) != 0)) else (none)) else (none))) else (some false)
theorem windbreakref01_Right.calls (A0 : Option Addr) (c0 : Nat) (l0 : List Int) (r : Bool) (w : World) (hr0 : Kd.C (Kd.int .u64) w A0 l0.length l0) (hc0 : l0.length ≤ c0) (h : windbreakref01_Right.f l0 = some r) :
  Calls Try.prog 19 #[.slice A0 l0.length c0] w fun e w' => e = .returned (.bool r) ∧ Drawn0 w w' := by
 have HR0 := Aside0.mk hr0; have HC0 := Aside0.mk hc0; clear hr0 hc0
 have H : (if (l0.length : Int) ≤ 64 then (if (l0.length : Int) = 0 then (some true) else (if 0 ≤ (wrap64 ((l0.length : Int) - 1)) then (if (wrap64 ((l0.length : Int) - 1)) < (l0.length : Int) then (some ((rd l0 (wrap64 ((l0.length : Int) - 1))) != 0)) else (none)) else (none))) else (some false)) = some r := h
 clear h
 by_cases c2 : (l0.length : Int) ≤ 64
 ·
  rw [if_pos c2] at H
  have c2b0 := decide_eq_true c2
  have c2b1 : decide (l0.length ≤ 64) = true := decide_eq_true (by omega)
  clear c2
  by_cases c3 : (l0.length : Int) = 0
  ·
   rw [if_pos c3] at H
   have c3b0 := beq_iff_eq.mpr c3
   have c3b1 := bne_eq_false_iff_eq.mpr c3
   clear c3
   obtain rfl := Option.some.inj H
   go_enter Try.func19, Try.ntmps19
   go_wp2
   go_ret
   exact ⟨by first | rfl | (simp; done) | (simp [*]; done), by repeat (first | exact Drawn0.refl _ | apply Drawn0.step)⟩
  rw [if_neg c3] at H
  have c3b0 := beq_eq_false_iff_ne.mpr c3
  have c3b1 := bne_iff_ne.mpr c3
  have c3b2 : ¬ (l0 = []) := fun h_ => c3 (by rw [h_]; rfl)
  obtain ⟨ji4, hji4⟩ : ∃ j_ : Int, (wrap64 ((l0.length : Int) - 1)) = j_ := ⟨_, rfl⟩
  first | rw [hji4] at H | simp only [hji4] at H
  have hji4w : (IntKind.i64.wrap ((l0.length : Int) - 1)) = ji4 := (i64_w _).trans hji4
  replace H := uT H; obtain ⟨c5, H⟩ := H
  have c5b0 := decide_eq_true c5
  clear c5
  replace H := uT H; obtain ⟨c6, H⟩ := H
  have c6b0 := decide_eq_true c6
  clear c6
  obtain rfl := Option.some.inj H
  have p187 := eq_true (uO : 0 ≤ ((ji4) : Int))
  have q187 := eq_true (uO : (ji4) < (l0.length : Int))
  obtain ⟨ad187, e187, hx187_0⟩ := Kd.at_int HR0.out (ji4) uO uO
  cases e187
  go_enter Try.func19, Try.ntmps19
  go_wp2
  go_ret
  exact ⟨by first | rfl | (simp; done) | (simp only [← hji4] <;> (first | rfl | simp)) | (simp [*]; done), by repeat (first | exact Drawn0.refl _ | apply Drawn0.step)⟩
 rw [if_neg c2] at H
 have c2b0 := decide_eq_false c2
 have c2b1 : decide (l0.length ≤ 64) = false := decide_eq_false (by omega)
 clear c2
 obtain rfl := Option.some.inj H
 go_enter Try.func19, Try.ntmps19
 go_wp2
 go_ret
 exact ⟨by first | rfl | (simp; done) | (simp [*]; done), by repeat (first | exact Drawn0.refl _ | apply Drawn0.step)⟩
def windbreakref01_Same.l0 : Nat → List Int → List Int → Int → Option (Bool)
 | 0, _, _, _ => none
 | k + 1, x0, x1, x5 => if x5 < (x0.length : Int) then (if 0 ≤ x5 then (if x5 < (x1.length : Int) then (if (rd x0 x5) = (rd x1 x5) then (windbreakref01_Same.l0 k x0 x1 (wrap64 (x5 + 1))) else (some false)) else (none)) else (none)) else (some true)
def windbreakref01_Same.f (k : Nat) (l0 : List Int) (l1 : List Int) : Option (Bool) := if (l0.length : Int) = (l1.length : Int) then (windbreakref01_Same.l0 k l0 l1 0) else (some false)
theorem windbreakref01_Same.calls (k : Nat) (A0 : Option Addr) (c0 : Nat) (l0 : List Int) (A1 : Option Addr) (c1 : Nat) (l1 : List Int) (r : Bool) (w : World) (hr0 : Kd.C (Kd.int .u64) w A0 l0.length l0) (hc0 : l0.length ≤ c0) (hr1 : Kd.C (Kd.int .u64) w A1 l1.length l1) (hc1 : l1.length ≤ c1) (h : windbreakref01_Same.f k l0 l1 = some r) :
  Calls Try.prog 25 #[.slice A0 l0.length c0, .slice A1 l1.length c1] w fun e w' => e = .returned (.bool r) ∧ Drawn0 w w' := by
 have HR0 := Aside0.mk hr0; have HC0 := Aside0.mk hc0; clear hr0 hc0; have HR1 := Aside0.mk hr1; have HC1 := Aside0.mk hc1; clear hr1 hc1
 have H : (if (l0.length : Int) = (l1.length : Int) then (windbreakref01_Same.l0 k l0 l1 0) else (some false)) = some r := h
 clear h
 by_cases c3 : (l0.length : Int) = (l1.length : Int)
 ·
  rw [if_pos c3] at H
  have c3b0 := beq_iff_eq.mpr c3
  have c3b1 := bne_eq_false_iff_eq.mpr c3
  have c3b2 : (l0.length == l1.length) = true := by first | simpa using c3 | (simp at c3 ⊢; omega)
  clear c3
  have H' := Aside0.mk H
  clear H
  go_enter Try.func25, Try.ntmps25
  go_wp2
  repeat (go_quiet (fail); try go_wp2)
  go_loopg [5] k (fun kq v5 w' => ∃ (x5_1 : Int), v5 = .int .i64 x5_1 ∧ Aside0 (windbreakref01_Same.l0 kq l0 l1 x5_1 = some r) ∧ Aside0 (kq ≤ k) ∧ Drawn0 w w')
  case atStart => exact ⟨(0), uG, H', ⟨Nat.le_refl _⟩, by repeat (first | exact Drawn0.refl _ | apply Drawn0.step)⟩
  case round =>
   clear H'
   obtain ⟨x5_1, rfl, HA, HK1, ⟨m1, rfl⟩⟩ := hrel
   cases gk with
   | zero => exact absurd HA.out (by simp [windbreakref01_Same.l0])
   | succ k1 =>
    have H := HA.out
    clear HA
    simp only [windbreakref01_Same.l0] at H
    by_cases c4 : x5_1 < (l0.length : Int)
    ·
     rw [if_pos c4] at H
     have c4b0 := decide_eq_true c4
     clear c4
     replace H := uT H; obtain ⟨c5, H⟩ := H
     have c5b0 := decide_eq_true c5
     clear c5
     replace H := uT H; obtain ⟨c6, H⟩ := H
     have c6b0 := decide_eq_true c6
     clear c6
     by_cases c7 : (rd l0 x5_1) = (rd l1 x5_1)
     ·
      rw [if_pos c7] at H
      have c7b0 := beq_iff_eq.mpr c7
      have c7b1 := bne_eq_false_iff_eq.mpr c7
      clear c7
      have H' := Aside0.mk H
      clear H
      have p575 := eq_true (uO : 0 ≤ (x5_1 : Int))
      have q575 := eq_true (uO : x5_1 < (l0.length : Int))
      obtain ⟨ad575, e575, hx575_0⟩ := Kd.at_int HR0.out x5_1 uO uO
      cases e575
      have p576 := eq_true (uO : 0 ≤ (x5_1 : Int))
      have q576 := eq_true (uO : x5_1 < (l1.length : Int))
      obtain ⟨ad576, e576, hx576_0⟩ := Kd.at_int HR1.out x5_1 uO uO
      cases e576
      go_wp2
      repeat (go_quiet (fail); try go_wp2)
      go_roundg k1
      case measure => have := HK1.out; omega
      case rel => exact ⟨(wrap64 (x5_1 + 1)), uG, H', ⟨by have := HK1.out; omega⟩, by repeat (first | exact Drawn0.refl _ | apply Drawn0.step)⟩
     rw [if_neg c7] at H
     have c7b0 := beq_eq_false_iff_ne.mpr c7
     have c7b1 := bne_iff_ne.mpr c7
     obtain rfl := Option.some.inj H
     have p575 := eq_true (uO : 0 ≤ (x5_1 : Int))
     have q575 := eq_true (uO : x5_1 < (l0.length : Int))
     obtain ⟨ad575, e575, hx575_0⟩ := Kd.at_int HR0.out x5_1 uO uO
     cases e575
     have p576 := eq_true (uO : 0 ≤ (x5_1 : Int))
     have q576 := eq_true (uO : x5_1 < (l1.length : Int))
     obtain ⟨ad576, e576, hx576_0⟩ := Kd.at_int HR1.out x5_1 uO uO
     cases e576
     go_wp2
     repeat (go_quiet (fail); try go_wp2)
     go_ret
     exact ⟨by first | rfl | (simp; done) | (simp [*]; done), by repeat (first | exact Drawn0.refl _ | apply Drawn0.step)⟩
    rw [if_neg c4] at H
    have c4b0 := decide_eq_false c4
    clear c4
    obtain rfl := Option.some.inj H
    go_wp2
    repeat (go_quiet (fail); try go_wp2)
    go_ret
    exact ⟨by first | rfl | (simp; done) | (simp [*]; done), by repeat (first | exact Drawn0.refl _ | apply Drawn0.step)⟩
 rw [if_neg c3] at H
 have c3b0 := beq_eq_false_iff_ne.mpr c3
 have c3b1 := bne_iff_ne.mpr c3
 have c3b2 : (l0.length == l1.length) = false := by first | simpa using c3 | (simp at c3 ⊢; omega)
 obtain rfl := Option.some.inj H
 go_enter Try.func25, Try.ntmps25
 go_wp2
 repeat (go_quiet (fail); try go_wp2)
 go_ret
 exact ⟨by first | rfl | (simp; done) | (simp [*]; done), by repeat (first | exact Drawn0.refl _ | apply Drawn0.step)⟩
def windbreakref01_compare.l0 : Nat → List Int → List Int → Int → Option (Int)
 | 0, _, _, _ => none
 | k + 1, x0, x1, x5 => if x5 ≥ 0 then (if 0 ≤ x5 then (if x5 < (x0.length : Int) then (if x5 < (x1.length : Int) then (if (rd x0 x5) < (rd x1 x5) then (some (-1)) else (if (rd x0 x5) > (rd x1 x5) then (some 1) else (windbreakref01_compare.l0 k x0 x1 (wrap64 (x5 - 1))))) else (none)) else (none)) else (none)) else (some 0)
def windbreakref01_compare.f (k : Nat) (l0 : List Int) (l1 : List Int) : Option (Int) := if (l0.length : Int) = (l1.length : Int) then (windbreakref01_compare.l0 k l0 l1 (wrap64 ((l0.length : Int) - 1))) else (if (l0.length : Int) < (l1.length : Int) then (some (-1)) else (some 1))
end Go.Proofs.Ytnaphgnkhhapoaa.F
end
section
namespace Go.Proofs.Ytnaphgnkhhapoaa.F
open Go.RowKit Go.Proofs.YtnaphgnkhhapoaaW.PrintWords Go.Proofs.YtnaphgnkhhapoaaW.PrintLast Go.Proofs.YtnaphgnkhhapoaaW.PrintMore
attribute [local go_sem] max2_int min2_int max_two min_two max_three min_three max_four min_four
set_option linter.unusedVariables false
set_option linter.unusedSimpArgs false
attribute [local go_sem] add64_run
mutual
def nat_sum.l0 : Nat → List Int → List Int → List Int → Int → Int → Int → Option (List Int)
 | 0, _, _, _, _, _, _ => none
 | k + 1, x0, x1, x5, x6, x21, x22 => if x22 < x21 then (if x22 < (x1.length : Int) then (if 0 ≤ x22 then (if x22 < (x0.length : Int) then (if carry01 x6 = true then (if x22 < (x5.length : Int) then (nat_sum.l0 k x0 x1 (x5.set (x22 : Int).toNat (add64_s (rd x0 x22) (rd x1 x22) x6)) (add64_c (rd x0 x22) (rd x1 x22) x6) x21 (wrap64 (x22 + 1))) else (none)) else (none)) else (none)) else (none)) else (if 0 ≤ x22 then (if x22 < (x0.length : Int) then (if carry01 x6 = true then (if x22 < (x5.length : Int) then (nat_sum.l0 k x0 x1 (x5.set (x22 : Int).toNat (add64_s (rd x0 x22) 0 x6)) (add64_c (rd x0 x22) 0 x6) x21 (wrap64 (x22 + 1))) else (none)) else (none)) else (none)) else (none))) else (if 0 ≤ (x0.length : Int) then (if (x0.length : Int) < (x5.length : Int) then (some (x5.set ((x0.length : Int) : Int).toNat x6)) else (none)) else (none))
def nat_sum.l51 : Nat → List Int → List Int → List Int → Int → Int → Int → Option (List Int)
 | 0, _, _, _, _, _, _ => none
 | k + 1, x0, x1, x5, x6, x21, x22 => if x22 < x21 then (if x22 < (x1.length : Int) then (if 0 ≤ x22 then (if x22 < (x0.length : Int) then (if carry01 x6 = true then (if x22 < (x5.length : Int) then (nat_sum.l51 k x0 x1 (x5.set (x22 : Int).toNat (add64_s (rd x0 x22) (rd x1 x22) x6)) (add64_c (rd x0 x22) (rd x1 x22) x6) x21 (wrap64 (x22 + 1))) else (none)) else (none)) else (none)) else (none)) else (if 0 ≤ x22 then (if x22 < (x0.length : Int) then (if carry01 x6 = true then (if x22 < (x5.length : Int) then (nat_sum.l51 k x0 x1 (x5.set (x22 : Int).toNat (add64_s (rd x0 x22) 0 x6)) (add64_c (rd x0 x22) 0 x6) x21 (wrap64 (x22 + 1))) else (none)) else (none)) else (none)) else (none))) else (if 0 ≤ (x0.length : Int) then (if (x0.length : Int) < (x5.length : Int) then (some (x5.set ((x0.length : Int) : Int).toNat x6)) else (none)) else (none))
end
def nat_sum.f (k : Nat) (l0 : List Int) (l1 : List Int) : Option (List Int) := if (l0.length : Int) < (l1.length : Int) then (if 0 ≤ (wrap64 ((l1.length : Int) + 1)) then (if (wrap64 ((l1.length : Int) + 1) : Int).toNat ≤ 35184372088832 then (nat_sum.l0 k l1 l0 (List.replicate (wrap64 ((l1.length : Int) + 1) : Int).toNat 0) 0 (l1.length : Int) 0) else (none)) else (none)) else (if 0 ≤ (wrap64 ((l0.length : Int) + 1)) then (if (wrap64 ((l0.length : Int) + 1) : Int).toNat ≤ 35184372088832 then (nat_sum.l51 k l0 l1 (List.replicate (wrap64 ((l0.length : Int) + 1) : Int).toNat 0) 0 (l0.length : Int) 0) else (none)) else (none))
theorem nat_sum.calls (k : Nat) (A0 : Option Addr) (c0 : Nat) (l0 : List Int) (A1 : Option Addr) (c1 : Nat) (l1 : List Int) (r : List Int) (w : World) (hr0 : Kd.C (Kd.int .u64) w A0 l0.length l0) (hc0 : l0.length ≤ c0) (hr1 : Kd.C (Kd.int .u64) w A1 l1.length l1) (hc1 : l1.length ≤ c1) (h : nat_sum.f k l0 l1 = some r) :
  Calls Try.prog 43 #[.slice A0 l0.length c0, .slice A1 l1.length c1] w fun e w' => ∃ v0_ : Value, e = .returned (v0_) ∧ Kd.R (Kd.int .u64) 62 w' w.heap.size (fun _ => True) v0_ r ∧ Below w.heap.size w w' := by
 have HR0 := Aside0.mk hr0; have HC0 := Aside0.mk hc0; clear hr0 hc0; have HR1 := Aside0.mk hr1; have HC1 := Aside0.mk hc1; clear hr1 hc1
 have HB := Aside0.mk (Below.refl w.heap.size w)
 have H : (if (l0.length : Int) < (l1.length : Int) then (if 0 ≤ (wrap64 ((l1.length : Int) + 1)) then (if (wrap64 ((l1.length : Int) + 1) : Int).toNat ≤ 35184372088832 then (nat_sum.l0 k l1 l0 (List.replicate (wrap64 ((l1.length : Int) + 1) : Int).toNat 0) 0 (l1.length : Int) 0) else (none)) else (none)) else (if 0 ≤ (wrap64 ((l0.length : Int) + 1)) then (if (wrap64 ((l0.length : Int) + 1) : Int).toNat ≤ 35184372088832 then (nat_sum.l51 k l0 l1 (List.replicate (wrap64 ((l0.length : Int) + 1) : Int).toNat 0) 0 (l0.length : Int) 0) else (none)) else (none))) = some r := h
 clear h
 by_cases c3 : (l0.length : Int) < (l1.length : Int)
 ·
  rw [if_pos c3] at H
  have c3b0 := decide_eq_true c3
  have c3b1 : decide (l0.length < l1.length) = true := decide_eq_true (Int.ofNat_lt.mp c3)
  clear c3
  obtain ⟨ji4, hji4⟩ : ∃ j_ : Int, (wrap64 ((l1.length : Int) + 1)) = j_ := ⟨_, rfl⟩
  first | rw [hji4] at H | simp only [hji4] at H
  have hji4w : (IntKind.i64.wrap ((l1.length : Int) + 1)) = ji4 := (i64_w _).trans hji4
  replace H := uT H; obtain ⟨c5, H⟩ := H
  have c5b0 := eq_true c5
  have c5b1 := decide_eq_true c5
  clear c5
  replace H := uT H; obtain ⟨c6, H⟩ := H
  have c6b0 := eq_true c6
  have c6b1 := decide_eq_true c6
  clear c6
  obtain ⟨y379, hy379⟩ : ∃ y_ : List Int, y_ = (List.replicate (ji4 : Int).toNat 0) := ⟨_, rfl⟩
  replace H : (nat_sum.l0 k l1 l0 y379 0 (l1.length : Int) 0) = some r := by first | (rw [hy379]; with_reducible exact H) | (have H2_ := (Option.bind_some _ _).symm.trans H; rw [hy379]; with_reducible exact H2_) | (have H2_ := (Option.bind_some _ _).symm.trans H; with_reducible exact H2_) | with_reducible exact H | (rw [hy379]; exact H) | exact H
  have Ny379 := Aside0.mk hy379; clear hy379
  have H' := Aside0.mk H
  clear H
  go_enter Try.func43, Try.ntmps43
  go_wp2_with (first | ((with_reducible refine gate_dst (N := 19) rfl ?_); refine Kd.R_make (Kd.int .u64) _ 62 rfl (N := 19) rfl 57 _ _ rfl ji4 rfl rfl Try.underlying57 (.int .u64 0) 8 info62 rfl (by decide) (by omega) 0 (ok := fun _ => True) (okp := fun _ => True) rfl (fun _ hk => hk) trivial uO (Nat.le_trans (Nat.mul_le_mul_right _ (uO : ji4.toNat ≤ 35184372088832)) (by omega)) (Below.refl _ _) (Nat.le_refl _) ?_; intro v380 w7 ho8 hb hg_ hnew_; clear hg_ hnew_; (first | rw [← Ny379.out] at ho8 | (simp only [Int.reduceToNat] at ho8; rw [← Ny379.out] at ho8)); have HO381 := ulo ho8; replace HB := uy hb; clear hb ho8))
  go_loopg [6, 22] k (fun kq v6 v22 w' => ∃ (x5_1 : List Int) (x6_1 : Int) (x22_1 : Int), v6 = .int .u64 x6_1 ∧ v22 = .int .i64 x22_1 ∧ Aside0 (nat_sum.l0 kq l1 l0 x5_1 x6_1 (l1.length : Int) x22_1 = some r) ∧ Aside0 (kq ≤ k) ∧ Aside0 (Kd.R (Kd.int .u64) 62 w' w.heap.size (fun _ => True) v380 x5_1) ∧ Aside0 (Below w.heap.size w w'))
  case atStart => exact ⟨(y379), (0), (0), uG, uG, H', ⟨Nat.le_refl _⟩, ⟨uR HO381.out⟩, ⟨uB⟩⟩
  case round =>
   clear H'
   obtain ⟨x5_1, x6_1, x22_1, rfl, rfl, HA, HK1, HO_5, HB⟩ := hrel
   cases gk with
   | zero => exact absurd HA.out (by simp [nat_sum.l0])
   | succ k1 =>
    have H := HA.out
    clear HA
    simp only [nat_sum.l0] at H
    by_cases c9 : x22_1 < (l1.length : Int)
    ·
     rw [if_pos c9] at H
     have c9b0 := decide_eq_true c9
     clear c9
     by_cases c10 : x22_1 < (l0.length : Int)
     ·
      rw [if_pos c10] at H
      have c10b0 := decide_eq_true c10
      clear c10
      replace H := uT H; obtain ⟨c11, H⟩ := H
      have c11b0 := decide_eq_true c11
      clear c11
      replace H := uT H; obtain ⟨c12, H⟩ := H
      have c12b0 := decide_eq_true c12
      clear c12
      replace H := uT H; obtain ⟨c13, H⟩ := H
      have c13b0 : carry01 x6_1 = true := c13
      clear c13
      replace H := uT H; obtain ⟨c14, H⟩ := H
      have c14b0 := decide_eq_true c14
      clear c14
      obtain ⟨y384, hy384⟩ : ∃ y_ : List Int, y_ = (x5_1.set (x22_1 : Int).toNat (add64_s (rd l1 x22_1) (rd l0 x22_1) x6_1)) := ⟨_, rfl⟩
      replace H : (nat_sum.l0 k1 l1 l0 y384 (add64_c (rd l1 x22_1) (rd l0 x22_1) x6_1) (l1.length : Int) (wrap64 (x22_1 + 1))) = some r := by first | (rw [hy384]; with_reducible exact H) | (have H2_ := (Option.bind_some _ _).symm.trans H; rw [hy384]; with_reducible exact H2_) | (have H2_ := (Option.bind_some _ _).symm.trans H; with_reducible exact H2_) | with_reducible exact H | (rw [hy384]; exact H) | exact H
      have Ny384 := Aside0.mk hy384; clear hy384
      have H' := Aside0.mk H
      clear H
      have p382 : 0 ≤ (x22_1 : Int) := uO
      have q382 : x22_1 < (l0.length : Int) := uO
      obtain ⟨ad382, e382, hx382_0⟩ := Kd.at_int HR0.out x22_1 p382 q382
      cases e382
      replace hx382_0 := (HB.out.cell (World.block_lt_of_cell? w _ hx382_0)).trans hx382_0
      replace p382 := eq_true p382
      replace q382 := eq_true q382
      have p383 : 0 ≤ (x22_1 : Int) := uO
      have q383 : x22_1 < (l1.length : Int) := uO
      obtain ⟨ad383, e383, hx383_0⟩ := Kd.at_int HR1.out x22_1 p383 q383
      cases e383
      replace hx383_0 := (HB.out.cell (World.block_lt_of_cell? w _ hx383_0)).trans hx383_0
      replace p383 := eq_true p383
      replace q383 := eq_true q383
      have p15 : 0 ≤ (x22_1 : Int) := uO
      have q15 : (x22_1 : Int) < ((x5_1.length : Int) : Int) := uO
      obtain ⟨go15, co15, eo15, gb15, gl15, cl15, HG15⟩ := Kd.R_form HO_5.out (by omega)
      (first | cases eo15 | (injection eo15 with ea_ en_ ec_; (first | subst ea_ | (injection ea_ with ea_; subst ea_)); subst ec_; clear en_))
      have GB15 := Aside0.mk gb15; have GG15 := Aside0.mk HG15; clear gb15 gl15 HG15
      obtain ⟨hx15_0, hf15_0⟩ := Kd.R_celln 0 HO_5.out (x22_1 : Int) p15 q15
      replace p15 := eq_true p15
      replace q15 := eq_true q15
      have HP16 := Kd.R_putg HO_5.out (x22_1 : Int) (add64_s (rd l1 x22_1) (rd l0 x22_1) x6_1)
      go_wp2_with (first | ((with_reducible refine gate_store (t := 62) (p := 45) rfl ?_); refine store_event (t := 62) (p := 45) (v := ?vo_w17) (w1 := (wr.setCell ⟨go15, (x22_1 : Int).toNat, none⟩ (.int .u64 (add64_s (rd l1 x22_1) (rd l0 x22_1) x6_1)))) ?hg ?ho ?hn ?hr ?_; (case ho => rfl); (case hg => rfl); (case hn => rfl); (case hr => first | (go_simp; done) | (go_simp; rfl) | (obtain ⟨hy_, hz_⟩ := Kd.R_celln 0 HO_5.out (x22_1 : Int) uO uO; (try simp only [Go.IntWalk.toNatUp] at hy_ hz_); (try simp only [Int.reduceToNat, Int.toNat_zero, Int.toNat_ofNat] at hy_ hz_); first | (go_simp; done) | (go_simp; rfl))); intro w17 hw; have hg : wr.grownBy w17 (some go15) := (by rw [hw]; exact HP16.2); have hp_ : Kd.R (Kd.int .u64) 62 w17 w.heap.size (fun _ => True) (.slice (some ⟨go15, 0, none⟩) x5_1.length co15) y384 := (by rw [hw, Ny384.out]; exact HP16.1); clear HP16; replace HO_5 := Aside0.mk (hp_); replace HB := Aside0.mk ((by rw [hw]; exact below_set (HB.out) GB15.out : Below w.heap.size w w17)); clear hg hw hp_))
      first | go_roundg k1 | ((try simp only [← hji4] at H'); simp only [← hji4]; go_roundg k1)
      case measure => have := HK1.out; omega
      case rel => first | exact ⟨(y384), (add64_c (rd l1 x22_1) (rd l0 x22_1) x6_1), (wrap64 (x22_1 + 1)), uG, uG, H', ⟨by have := HK1.out; omega⟩, ⟨uR HO_5.out⟩, ⟨uB⟩⟩ | (simp only [← hji4] at H'; exact ⟨(y384), (add64_c (rd l1 x22_1) (rd l0 x22_1) x6_1), (wrap64 (x22_1 + 1)), uG, uG, H', ⟨by have := HK1.out; omega⟩, ⟨uR HO_5.out⟩, ⟨uB⟩⟩)
     rw [if_neg c10] at H
     have c10b0 := decide_eq_false c10
     clear c10
     replace H := uT H; obtain ⟨c18, H⟩ := H
     have c18b0 := decide_eq_true c18
     clear c18
     replace H := uT H; obtain ⟨c19, H⟩ := H
     have c19b0 := decide_eq_true c19
     clear c19
     replace H := uT H; obtain ⟨c20, H⟩ := H
     have c20b0 : carry01 x6_1 = true := c20
     clear c20
     replace H := uT H; obtain ⟨c21, H⟩ := H
     have c21b0 := decide_eq_true c21
     clear c21
     obtain ⟨y386, hy386⟩ : ∃ y_ : List Int, y_ = (x5_1.set (x22_1 : Int).toNat (add64_s (rd l1 x22_1) 0 x6_1)) := ⟨_, rfl⟩
     replace H : (nat_sum.l0 k1 l1 l0 y386 (add64_c (rd l1 x22_1) 0 x6_1) (l1.length : Int) (wrap64 (x22_1 + 1))) = some r := by first | (rw [hy386]; with_reducible exact H) | (have H2_ := (Option.bind_some _ _).symm.trans H; rw [hy386]; with_reducible exact H2_) | (have H2_ := (Option.bind_some _ _).symm.trans H; with_reducible exact H2_) | with_reducible exact H | (rw [hy386]; exact H) | exact H
     have Ny386 := Aside0.mk hy386; clear hy386
     have H' := Aside0.mk H
     clear H
     have p385 : 0 ≤ (x22_1 : Int) := uO
     have q385 : x22_1 < (l1.length : Int) := uO
     obtain ⟨ad385, e385, hx385_0⟩ := Kd.at_int HR1.out x22_1 p385 q385
     cases e385
     replace hx385_0 := (HB.out.cell (World.block_lt_of_cell? w _ hx385_0)).trans hx385_0
     replace p385 := eq_true p385
     replace q385 := eq_true q385
     have p22 : 0 ≤ (x22_1 : Int) := uO
     have q22 : (x22_1 : Int) < ((x5_1.length : Int) : Int) := uO
     obtain ⟨go22, co22, eo22, gb22, gl22, cl22, HG22⟩ := Kd.R_form HO_5.out (by omega)
     (first | cases eo22 | (injection eo22 with ea_ en_ ec_; (first | subst ea_ | (injection ea_ with ea_; subst ea_)); subst ec_; clear en_))
     have GB22 := Aside0.mk gb22; have GG22 := Aside0.mk HG22; clear gb22 gl22 HG22
     obtain ⟨hx22_0, hf22_0⟩ := Kd.R_celln 0 HO_5.out (x22_1 : Int) p22 q22
     replace p22 := eq_true p22
     replace q22 := eq_true q22
     have HP23 := Kd.R_putg HO_5.out (x22_1 : Int) (add64_s (rd l1 x22_1) 0 x6_1)
     go_wp2_with (first | ((with_reducible refine gate_store (t := 62) (p := 45) rfl ?_); refine store_event (t := 62) (p := 45) (v := ?vo_w24) (w1 := (wr.setCell ⟨go22, (x22_1 : Int).toNat, none⟩ (.int .u64 (add64_s (rd l1 x22_1) 0 x6_1)))) ?hg ?ho ?hn ?hr ?_; (case ho => rfl); (case hg => rfl); (case hn => rfl); (case hr => first | (go_simp; done) | (go_simp; rfl) | (obtain ⟨hy_, hz_⟩ := Kd.R_celln 0 HO_5.out (x22_1 : Int) uO uO; (try simp only [Go.IntWalk.toNatUp] at hy_ hz_); (try simp only [Int.reduceToNat, Int.toNat_zero, Int.toNat_ofNat] at hy_ hz_); first | (go_simp; done) | (go_simp; rfl))); intro w24 hw; have hg : wr.grownBy w24 (some go22) := (by rw [hw]; exact HP23.2); have hp_ : Kd.R (Kd.int .u64) 62 w24 w.heap.size (fun _ => True) (.slice (some ⟨go22, 0, none⟩) x5_1.length co22) y386 := (by rw [hw, Ny386.out]; exact HP23.1); clear HP23; replace HO_5 := Aside0.mk (hp_); replace HB := Aside0.mk ((by rw [hw]; exact below_set (HB.out) GB22.out : Below w.heap.size w w24)); clear hg hw hp_))
     first | go_roundg k1 | ((try simp only [← hji4] at H'); simp only [← hji4]; go_roundg k1)
     case measure => have := HK1.out; omega
     case rel => first | exact ⟨(y386), (add64_c (rd l1 x22_1) 0 x6_1), (wrap64 (x22_1 + 1)), uG, uG, H', ⟨by have := HK1.out; omega⟩, ⟨uR HO_5.out⟩, ⟨uB⟩⟩ | (simp only [← hji4] at H'; exact ⟨(y386), (add64_c (rd l1 x22_1) 0 x6_1), (wrap64 (x22_1 + 1)), uG, uG, H', ⟨by have := HK1.out; omega⟩, ⟨uR HO_5.out⟩, ⟨uB⟩⟩)
    rw [if_neg c9] at H
    have c9b0 := decide_eq_false c9
    clear c9
    replace H := uT H; obtain ⟨c25, H⟩ := H
    have c25b0 := decide_eq_true c25
    have c25b1 : decide (0 ≤ l1.length) = true := decide_eq_true (by omega)
    clear c25
    replace H := uT H; obtain ⟨c26, H⟩ := H
    have c26b0 := decide_eq_true c26
    have c26b1 : decide (l1.length < x5_1.length) = true := decide_eq_true (Int.ofNat_lt.mp c26)
    clear c26
    obtain ⟨y387, hy387⟩ : ∃ y_ : List Int, y_ = (x5_1.set ((l1.length : Int) : Int).toNat x6_1) := ⟨_, rfl⟩
    replace H : (some y387) = some r := by first | (rw [hy387]; with_reducible exact H) | (have H2_ := (Option.bind_some _ _).symm.trans H; rw [hy387]; with_reducible exact H2_) | (have H2_ := (Option.bind_some _ _).symm.trans H; with_reducible exact H2_) | with_reducible exact H | (rw [hy387]; exact H) | exact H
    have Ny387 := Aside0.mk hy387; clear hy387
    obtain rfl := Option.some.inj H
    have p27 : 0 ≤ ((l1.length : Int) : Int) := uO
    have q27 : ((l1.length : Int) : Int) < ((x5_1.length : Int) : Int) := uO
    obtain ⟨go27, co27, eo27, gb27, gl27, cl27, HG27⟩ := Kd.R_form HO_5.out (by omega)
    (first | cases eo27 | (injection eo27 with ea_ en_ ec_; (first | subst ea_ | (injection ea_ with ea_; subst ea_)); subst ec_; clear en_))
    have GB27 := Aside0.mk gb27; have GG27 := Aside0.mk HG27; clear gb27 gl27 HG27
    obtain ⟨hx27_0, hf27_0⟩ := Kd.R_celln 0 HO_5.out ((l1.length : Int) : Int) p27 q27
    (try simp only [Go.IntWalk.toNatUp] at hx27_0 hf27_0)
    replace p27 := eq_true p27
    replace q27 := eq_true q27
    have HP28 := Kd.R_putg HO_5.out ((l1.length : Int) : Int) x6_1
    go_wp2_with (first | ((with_reducible refine gate_store (t := 62) (p := 51) rfl ?_); refine store_event (t := 62) (p := 51) (v := ?vo_w29) (w1 := (wr.setCell ⟨go27, ((l1.length : Int) : Int).toNat, none⟩ (.int .u64 x6_1))) ?hg ?ho ?hn ?hr ?_; (case ho => rfl); (case hg => rfl); (case hn => rfl); (case hr => first | (go_simp; done) | (go_simp; rfl) | (obtain ⟨hy_, hz_⟩ := Kd.R_celln 0 HO_5.out ((l1.length : Int) : Int) uO uO; (try simp only [Go.IntWalk.toNatUp] at hy_ hz_); (try simp only [Int.reduceToNat, Int.toNat_zero, Int.toNat_ofNat] at hy_ hz_); first | (go_simp; done) | (go_simp; rfl))); intro w29 hw; have hg : wr.grownBy w29 (some go27) := (by rw [hw]; exact HP28.2); have hp_ : Kd.R (Kd.int .u64) 62 w29 w.heap.size (fun _ => True) (.slice (some ⟨go27, 0, none⟩) x5_1.length co27) y387 := (by rw [hw, Ny387.out]; exact HP28.1); clear HP28; replace HO_5 := Aside0.mk (hp_); replace HB := Aside0.mk ((by rw [hw]; exact below_set (HB.out) GB27.out : Below w.heap.size w w29)); clear hg hw hp_))
    go_ret
    exact ⟨_, by first | rfl | (simp [errW_none, errW_some] <;> rfl) | (simp only [← hji4]; first | rfl | (simp [errW_none, errW_some] <;> rfl)) | (simp [*, errW_none, errW_some] <;> rfl), uR HO_5.out, uB⟩
 rw [if_neg c3] at H
 have c3b0 := decide_eq_false c3
 have c3b1 : decide (l0.length < l1.length) = false := decide_eq_false (fun h => c3 (Int.ofNat_lt.mpr h))
 clear c3
 obtain ⟨ji30, hji30⟩ : ∃ j_ : Int, (wrap64 ((l0.length : Int) + 1)) = j_ := ⟨_, rfl⟩
 first | rw [hji30] at H | simp only [hji30] at H
 have hji30w : (IntKind.i64.wrap ((l0.length : Int) + 1)) = ji30 := (i64_w _).trans hji30
 replace H := uT H; obtain ⟨c31, H⟩ := H
 have c31b0 := eq_true c31
 have c31b1 := decide_eq_true c31
 clear c31
 replace H := uT H; obtain ⟨c32, H⟩ := H
 have c32b0 := eq_true c32
 have c32b1 := decide_eq_true c32
 clear c32
 obtain ⟨y388, hy388⟩ : ∃ y_ : List Int, y_ = (List.replicate (ji30 : Int).toNat 0) := ⟨_, rfl⟩
 replace H : (nat_sum.l51 k l0 l1 y388 0 (l0.length : Int) 0) = some r := by first | (rw [hy388]; with_reducible exact H) | (have H2_ := (Option.bind_some _ _).symm.trans H; rw [hy388]; with_reducible exact H2_) | (have H2_ := (Option.bind_some _ _).symm.trans H; with_reducible exact H2_) | with_reducible exact H | (rw [hy388]; exact H) | exact H
 have Ny388 := Aside0.mk hy388; clear hy388
 have H' := Aside0.mk H
 clear H
 go_enter Try.func43, Try.ntmps43
 go_wp2_with (first | ((with_reducible refine gate_dst (N := 19) rfl ?_); refine Kd.R_make (Kd.int .u64) _ 62 rfl (N := 19) rfl 57 _ _ rfl ji30 rfl rfl Try.underlying57 (.int .u64 0) 8 info62 rfl (by decide) (by omega) 0 (ok := fun _ => True) (okp := fun _ => True) rfl (fun _ hk => hk) trivial uO (Nat.le_trans (Nat.mul_le_mul_right _ (uO : ji30.toNat ≤ 35184372088832)) (by omega)) (Below.refl _ _) (Nat.le_refl _) ?_; intro v389 w33 ho34 hb hg_ hnew_; clear hg_ hnew_; (first | rw [← Ny388.out] at ho34 | (simp only [Int.reduceToNat] at ho34; rw [← Ny388.out] at ho34)); have HO390 := ulo ho34; replace HB := uy hb; clear hb ho34))
 go_loopg [6, 22] k (fun kq v6 v22 w' => ∃ (x5_1 : List Int) (x6_1 : Int) (x22_1 : Int), v6 = .int .u64 x6_1 ∧ v22 = .int .i64 x22_1 ∧ Aside0 (nat_sum.l51 kq l0 l1 x5_1 x6_1 (l0.length : Int) x22_1 = some r) ∧ Aside0 (kq ≤ k) ∧ Aside0 (Kd.R (Kd.int .u64) 62 w' w.heap.size (fun _ => True) v389 x5_1) ∧ Aside0 (Below w.heap.size w w'))
 case atStart => exact ⟨(y388), (0), (0), uG, uG, H', ⟨Nat.le_refl _⟩, ⟨uR HO390.out⟩, ⟨uB⟩⟩
 case round =>
  clear H'
  ; (try clear q1); (try clear hx1); (try clear q2); (try clear hx2); (try clear hf2); (try clear q3); (try clear hx3); (try clear q15 q15); (try clear hx15 hx15_0); (try clear hf15); (try clear q22 q22); (try clear hx22 hx22_0); (try clear hf22); (try clear q27 q27); (try clear hx27 hx27_0); (try clear hf27); (try clear hx382_0); (try clear hx383_0); (try clear hx385_0); (try clear q382); (try clear q383); (try clear q385)
  obtain ⟨x5_1, x6_1, x22_1, rfl, rfl, HA, HK1, HO_5, HB⟩ := hrel
  cases gk with
  | zero => exact absurd HA.out (by simp [nat_sum.l51])
  | succ k1 =>
   have H := HA.out
   clear HA
   simp only [nat_sum.l51] at H
   by_cases c35 : x22_1 < (l0.length : Int)
   ·
    rw [if_pos c35] at H
    have c35b0 := decide_eq_true c35
    clear c35
    by_cases c36 : x22_1 < (l1.length : Int)
    ·
     rw [if_pos c36] at H
     have c36b0 := decide_eq_true c36
     clear c36
     replace H := uT H; obtain ⟨c37, H⟩ := H
     have c37b0 := decide_eq_true c37
     clear c37
     replace H := uT H; obtain ⟨c38, H⟩ := H
     have c38b0 := decide_eq_true c38
     clear c38
     replace H := uT H; obtain ⟨c39, H⟩ := H
     have c39b0 : carry01 x6_1 = true := c39
     clear c39
     replace H := uT H; obtain ⟨c40, H⟩ := H
     have c40b0 := decide_eq_true c40
     clear c40
     obtain ⟨y393, hy393⟩ : ∃ y_ : List Int, y_ = (x5_1.set (x22_1 : Int).toNat (add64_s (rd l0 x22_1) (rd l1 x22_1) x6_1)) := ⟨_, rfl⟩
     replace H : (nat_sum.l51 k1 l0 l1 y393 (add64_c (rd l0 x22_1) (rd l1 x22_1) x6_1) (l0.length : Int) (wrap64 (x22_1 + 1))) = some r := by first | (rw [hy393]; with_reducible exact H) | (have H2_ := (Option.bind_some _ _).symm.trans H; rw [hy393]; with_reducible exact H2_) | (have H2_ := (Option.bind_some _ _).symm.trans H; with_reducible exact H2_) | with_reducible exact H | (rw [hy393]; exact H) | exact H
     have Ny393 := Aside0.mk hy393; clear hy393
     have H' := Aside0.mk H
     clear H
     have p391 : 0 ≤ (x22_1 : Int) := uO
     have q391 : x22_1 < (l1.length : Int) := uO
     obtain ⟨ad391, e391, hx391_0⟩ := Kd.at_int HR1.out x22_1 p391 q391
     cases e391
     replace hx391_0 := (HB.out.cell (World.block_lt_of_cell? w _ hx391_0)).trans hx391_0
     replace p391 := eq_true p391
     replace q391 := eq_true q391
     have p392 : 0 ≤ (x22_1 : Int) := uO
     have q392 : x22_1 < (l0.length : Int) := uO
     obtain ⟨ad392, e392, hx392_0⟩ := Kd.at_int HR0.out x22_1 p392 q392
     cases e392
     replace hx392_0 := (HB.out.cell (World.block_lt_of_cell? w _ hx392_0)).trans hx392_0
     replace p392 := eq_true p392
     replace q392 := eq_true q392
     have p41 : 0 ≤ (x22_1 : Int) := uO
     have q41 : (x22_1 : Int) < ((x5_1.length : Int) : Int) := uO
     obtain ⟨go41, co41, eo41, gb41, gl41, cl41, HG41⟩ := Kd.R_form HO_5.out (by omega)
     (first | cases eo41 | (injection eo41 with ea_ en_ ec_; (first | subst ea_ | (injection ea_ with ea_; subst ea_)); subst ec_; clear en_))
     have GB41 := Aside0.mk gb41; have GG41 := Aside0.mk HG41; clear gb41 gl41 HG41
     obtain ⟨hx41_0, hf41_0⟩ := Kd.R_celln 0 HO_5.out (x22_1 : Int) p41 q41
     replace p41 := eq_true p41
     replace q41 := eq_true q41
     have HP42 := Kd.R_putg HO_5.out (x22_1 : Int) (add64_s (rd l0 x22_1) (rd l1 x22_1) x6_1)
     go_wp2_with (first | ((with_reducible refine gate_store (t := 62) (p := 45) rfl ?_); refine store_event (t := 62) (p := 45) (v := ?vo_w43) (w1 := (wr.setCell ⟨go41, (x22_1 : Int).toNat, none⟩ (.int .u64 (add64_s (rd l0 x22_1) (rd l1 x22_1) x6_1)))) ?hg ?ho ?hn ?hr ?_; (case ho => rfl); (case hg => rfl); (case hn => rfl); (case hr => first | (go_simp; done) | (go_simp; rfl) | (obtain ⟨hy_, hz_⟩ := Kd.R_celln 0 HO_5.out (x22_1 : Int) uO uO; (try simp only [Go.IntWalk.toNatUp] at hy_ hz_); (try simp only [Int.reduceToNat, Int.toNat_zero, Int.toNat_ofNat] at hy_ hz_); first | (go_simp; done) | (go_simp; rfl))); intro w43 hw; have hg : wr.grownBy w43 (some go41) := (by rw [hw]; exact HP42.2); have hp_ : Kd.R (Kd.int .u64) 62 w43 w.heap.size (fun _ => True) (.slice (some ⟨go41, 0, none⟩) x5_1.length co41) y393 := (by rw [hw, Ny393.out]; exact HP42.1); clear HP42; replace HO_5 := Aside0.mk (hp_); replace HB := Aside0.mk ((by rw [hw]; exact below_set (HB.out) GB41.out : Below w.heap.size w w43)); clear hg hw hp_))
     first | go_roundg k1 | ((try simp only [← hji30] at H'); simp only [← hji30]; go_roundg k1) | ((try simp only [← hji4] at H'); simp only [← hji4]; go_roundg k1)
     case measure => have := HK1.out; omega
     case rel => first | exact ⟨(y393), (add64_c (rd l0 x22_1) (rd l1 x22_1) x6_1), (wrap64 (x22_1 + 1)), uG, uG, H', ⟨by have := HK1.out; omega⟩, ⟨uR HO_5.out⟩, ⟨uB⟩⟩ | (simp only [← hji30] at H'; exact ⟨(y393), (add64_c (rd l0 x22_1) (rd l1 x22_1) x6_1), (wrap64 (x22_1 + 1)), uG, uG, H', ⟨by have := HK1.out; omega⟩, ⟨uR HO_5.out⟩, ⟨uB⟩⟩) | (simp only [← hji4] at H'; exact ⟨(y393), (add64_c (rd l0 x22_1) (rd l1 x22_1) x6_1), (wrap64 (x22_1 + 1)), uG, uG, H', ⟨by have := HK1.out; omega⟩, ⟨uR HO_5.out⟩, ⟨uB⟩⟩)
    rw [if_neg c36] at H
    have c36b0 := decide_eq_false c36
    clear c36
    replace H := uT H; obtain ⟨c44, H⟩ := H
    have c44b0 := decide_eq_true c44
    clear c44
    replace H := uT H; obtain ⟨c45, H⟩ := H
    have c45b0 := decide_eq_true c45
    clear c45
    replace H := uT H; obtain ⟨c46, H⟩ := H
    have c46b0 : carry01 x6_1 = true := c46
    clear c46
    replace H := uT H; obtain ⟨c47, H⟩ := H
    have c47b0 := decide_eq_true c47
    clear c47
    obtain ⟨y395, hy395⟩ : ∃ y_ : List Int, y_ = (x5_1.set (x22_1 : Int).toNat (add64_s (rd l0 x22_1) 0 x6_1)) := ⟨_, rfl⟩
    replace H : (nat_sum.l51 k1 l0 l1 y395 (add64_c (rd l0 x22_1) 0 x6_1) (l0.length : Int) (wrap64 (x22_1 + 1))) = some r := by first | (rw [hy395]; with_reducible exact H) | (have H2_ := (Option.bind_some _ _).symm.trans H; rw [hy395]; with_reducible exact H2_) | (have H2_ := (Option.bind_some _ _).symm.trans H; with_reducible exact H2_) | with_reducible exact H | (rw [hy395]; exact H) | exact H
    have Ny395 := Aside0.mk hy395; clear hy395
    have H' := Aside0.mk H
    clear H
    have p394 : 0 ≤ (x22_1 : Int) := uO
    have q394 : x22_1 < (l0.length : Int) := uO
    obtain ⟨ad394, e394, hx394_0⟩ := Kd.at_int HR0.out x22_1 p394 q394
    cases e394
    replace hx394_0 := (HB.out.cell (World.block_lt_of_cell? w _ hx394_0)).trans hx394_0
    replace p394 := eq_true p394
    replace q394 := eq_true q394
    have p48 : 0 ≤ (x22_1 : Int) := uO
    have q48 : (x22_1 : Int) < ((x5_1.length : Int) : Int) := uO
    obtain ⟨go48, co48, eo48, gb48, gl48, cl48, HG48⟩ := Kd.R_form HO_5.out (by omega)
    (first | cases eo48 | (injection eo48 with ea_ en_ ec_; (first | subst ea_ | (injection ea_ with ea_; subst ea_)); subst ec_; clear en_))
    have GB48 := Aside0.mk gb48; have GG48 := Aside0.mk HG48; clear gb48 gl48 HG48
    obtain ⟨hx48_0, hf48_0⟩ := Kd.R_celln 0 HO_5.out (x22_1 : Int) p48 q48
    replace p48 := eq_true p48
    replace q48 := eq_true q48
    have HP49 := Kd.R_putg HO_5.out (x22_1 : Int) (add64_s (rd l0 x22_1) 0 x6_1)
    go_wp2_with (first | ((with_reducible refine gate_store (t := 62) (p := 45) rfl ?_); refine store_event (t := 62) (p := 45) (v := ?vo_w50) (w1 := (wr.setCell ⟨go48, (x22_1 : Int).toNat, none⟩ (.int .u64 (add64_s (rd l0 x22_1) 0 x6_1)))) ?hg ?ho ?hn ?hr ?_; (case ho => rfl); (case hg => rfl); (case hn => rfl); (case hr => first | (go_simp; done) | (go_simp; rfl) | (obtain ⟨hy_, hz_⟩ := Kd.R_celln 0 HO_5.out (x22_1 : Int) uO uO; (try simp only [Go.IntWalk.toNatUp] at hy_ hz_); (try simp only [Int.reduceToNat, Int.toNat_zero, Int.toNat_ofNat] at hy_ hz_); first | (go_simp; done) | (go_simp; rfl))); intro w50 hw; have hg : wr.grownBy w50 (some go48) := (by rw [hw]; exact HP49.2); have hp_ : Kd.R (Kd.int .u64) 62 w50 w.heap.size (fun _ => True) (.slice (some ⟨go48, 0, none⟩) x5_1.length co48) y395 := (by rw [hw, Ny395.out]; exact HP49.1); clear HP49; replace HO_5 := Aside0.mk (hp_); replace HB := Aside0.mk ((by rw [hw]; exact below_set (HB.out) GB48.out : Below w.heap.size w w50)); clear hg hw hp_))
    first | go_roundg k1 | ((try simp only [← hji30] at H'); simp only [← hji30]; go_roundg k1) | ((try simp only [← hji4] at H'); simp only [← hji4]; go_roundg k1)
    case measure => have := HK1.out; omega
    case rel => first | exact ⟨(y395), (add64_c (rd l0 x22_1) 0 x6_1), (wrap64 (x22_1 + 1)), uG, uG, H', ⟨by have := HK1.out; omega⟩, ⟨uR HO_5.out⟩, ⟨uB⟩⟩ | (simp only [← hji30] at H'; exact ⟨(y395), (add64_c (rd l0 x22_1) 0 x6_1), (wrap64 (x22_1 + 1)), uG, uG, H', ⟨by have := HK1.out; omega⟩, ⟨uR HO_5.out⟩, ⟨uB⟩⟩) | (simp only [← hji4] at H'; exact ⟨(y395), (add64_c (rd l0 x22_1) 0 x6_1), (wrap64 (x22_1 + 1)), uG, uG, H', ⟨by have := HK1.out; omega⟩, ⟨uR HO_5.out⟩, ⟨uB⟩⟩)
   rw [if_neg c35] at H
   have c35b0 := decide_eq_false c35
   clear c35
   replace H := uT H; obtain ⟨c51, H⟩ := H
   have c51b0 := decide_eq_true c51
   have c51b1 : decide (0 ≤ l0.length) = true := decide_eq_true (by omega)
   clear c51
   replace H := uT H; obtain ⟨c52, H⟩ := H
   have c52b0 := decide_eq_true c52
   have c52b1 : decide (l0.length < x5_1.length) = true := decide_eq_true (Int.ofNat_lt.mp c52)
   clear c52
   obtain ⟨y396, hy396⟩ : ∃ y_ : List Int, y_ = (x5_1.set ((l0.length : Int) : Int).toNat x6_1) := ⟨_, rfl⟩
   replace H : (some y396) = some r := by first | (rw [hy396]; with_reducible exact H) | (have H2_ := (Option.bind_some _ _).symm.trans H; rw [hy396]; with_reducible exact H2_) | (have H2_ := (Option.bind_some _ _).symm.trans H; with_reducible exact H2_) | with_reducible exact H | (rw [hy396]; exact H) | exact H
   have Ny396 := Aside0.mk hy396; clear hy396
   obtain rfl := Option.some.inj H
   have p53 : 0 ≤ ((l0.length : Int) : Int) := uO
   have q53 : ((l0.length : Int) : Int) < ((x5_1.length : Int) : Int) := uO
   obtain ⟨go53, co53, eo53, gb53, gl53, cl53, HG53⟩ := Kd.R_form HO_5.out (by omega)
   (first | cases eo53 | (injection eo53 with ea_ en_ ec_; (first | subst ea_ | (injection ea_ with ea_; subst ea_)); subst ec_; clear en_))
   have GB53 := Aside0.mk gb53; have GG53 := Aside0.mk HG53; clear gb53 gl53 HG53
   obtain ⟨hx53_0, hf53_0⟩ := Kd.R_celln 0 HO_5.out ((l0.length : Int) : Int) p53 q53
   (try simp only [Go.IntWalk.toNatUp] at hx53_0 hf53_0)
   replace p53 := eq_true p53
   replace q53 := eq_true q53
   have HP54 := Kd.R_putg HO_5.out ((l0.length : Int) : Int) x6_1
   go_wp2_with (first | ((with_reducible refine gate_store (t := 62) (p := 51) rfl ?_); refine store_event (t := 62) (p := 51) (v := ?vo_w55) (w1 := (wr.setCell ⟨go53, ((l0.length : Int) : Int).toNat, none⟩ (.int .u64 x6_1))) ?hg ?ho ?hn ?hr ?_; (case ho => rfl); (case hg => rfl); (case hn => rfl); (case hr => first | (go_simp; done) | (go_simp; rfl) | (obtain ⟨hy_, hz_⟩ := Kd.R_celln 0 HO_5.out ((l0.length : Int) : Int) uO uO; (try simp only [Go.IntWalk.toNatUp] at hy_ hz_); (try simp only [Int.reduceToNat, Int.toNat_zero, Int.toNat_ofNat] at hy_ hz_); first | (go_simp; done) | (go_simp; rfl))); intro w55 hw; have hg : wr.grownBy w55 (some go53) := (by rw [hw]; exact HP54.2); have hp_ : Kd.R (Kd.int .u64) 62 w55 w.heap.size (fun _ => True) (.slice (some ⟨go53, 0, none⟩) x5_1.length co53) y396 := (by rw [hw, Ny396.out]; exact HP54.1); clear HP54; replace HO_5 := Aside0.mk (hp_); replace HB := Aside0.mk ((by rw [hw]; exact below_set (HB.out) GB53.out : Below w.heap.size w w55)); clear hg hw hp_))
   go_ret
   exact ⟨_, by first | rfl | (simp [errW_none, errW_some] <;> rfl) | (simp only [← hji30]; first | rfl | (simp [errW_none, errW_some] <;> rfl)) | (simp [*, errW_none, errW_some] <;> rfl), uR HO_5.out, uB⟩
mutual
def nat_school.l0 : Nat → List Int → List Int → List Int → Int → Int → Option (List Int)
 | 0, _, _, _, _, _ => none
 | k + 1, x1, x5, x20, x21, x22 => if x22 < x21 then (if 0 ≤ x22 then (if x22 < (x20.length : Int) then (nat_school.l1 k x1 x5 x22 (rd x20 x22) 0 x20 x21 x22 x1 (x1.length : Int) 0) else (none)) else (none)) else ((nat_trim.f k x5).bind fun t446 => (some t446))
def nat_school.l1 : Nat → List Int → List Int → Int → Int → Int → List Int → Int → Int → List Int → Int → Int → Option (List Int)
 | 0, _, _, _, _, _, _, _, _, _, _, _ => none
 | k + 1, x1, x5, x6, x7, x8, x20, x21, x22, x27, x28, x29 => if x29 < x28 then (if 0 ≤ x29 then (if x29 < (x27.length : Int) then ((bits_Mul64.f x7 (rd x27 x29)).bind fun bt451 => (if 0 ≤ (wrap64 (x6 + x29)) then (if (wrap64 (x6 + x29)) < (x5.length : Int) then (if carry01 0 = true then (nat_school.l1 k x1 (x5.set ((wrap64 (x6 + x29)) : Int).toNat (add64_s (add64_s bt451.2 (rd x5 (wrap64 (x6 + x29))) 0) x8 0)) x6 x7 (IntKind.u64.wrap ((IntKind.u64.wrap (bt451.1 + (add64_c bt451.2 (rd x5 (wrap64 (x6 + x29))) 0))) + (add64_c (add64_s bt451.2 (rd x5 (wrap64 (x6 + x29))) 0) x8 0))) x20 x21 x22 x27 x28 (wrap64 (x29 + 1))) else (none)) else (none)) else (none))) else (none)) else (none)) else (if 0 ≤ (wrap64 (x6 + (x1.length : Int))) then (if (wrap64 (x6 + (x1.length : Int))) < (x5.length : Int) then (nat_school.l0 k x1 (x5.set ((wrap64 (x6 + (x1.length : Int))) : Int).toNat x8) x20 x21 (wrap64 (x22 + 1))) else (none)) else (none))
end
def nat_school.f (k : Nat) (l0 : List Int) (l1 : List Int) : Option (List Int) := if 0 ≤ (wrap64 ((l0.length : Int) + (l1.length : Int))) then (if (wrap64 ((l0.length : Int) + (l1.length : Int)) : Int).toNat ≤ 35184372088832 then (nat_school.l0 k l1 (List.replicate (wrap64 ((l0.length : Int) + (l1.length : Int)) : Int).toNat 0) l0 (l0.length : Int) 0) else (none)) else (none)
theorem nat_school.calls (k : Nat) (A0 : Option Addr) (c0 : Nat) (l0 : List Int) (A1 : Option Addr) (c1 : Nat) (l1 : List Int) (r : List Int) (w : World) (hr0 : Kd.C (Kd.int .u64) w A0 l0.length l0) (hc0 : l0.length ≤ c0) (hr1 : Kd.C (Kd.int .u64) w A1 l1.length l1) (hc1 : l1.length ≤ c1) (h : nat_school.f k l0 l1 = some r) :
  Calls Try.prog 75 #[.slice A0 l0.length c0, .slice A1 l1.length c1] w fun e w' => ∃ v0_ : Value, e = .returned (v0_) ∧ Kd.R (Kd.int .u64) 62 w' w.heap.size (fun _ => True) v0_ r ∧ Below w.heap.size w w' := by
 have HR0 := Aside0.mk hr0; have HC0 := Aside0.mk hc0; clear hr0 hc0; have HR1 := Aside0.mk hr1; have HC1 := Aside0.mk hc1; clear hr1 hc1
 have HB := Aside0.mk (Below.refl w.heap.size w)
 have H : (if 0 ≤ (wrap64 ((l0.length : Int) + (l1.length : Int))) then (if (wrap64 ((l0.length : Int) + (l1.length : Int)) : Int).toNat ≤ 35184372088832 then (nat_school.l0 k l1 (List.replicate (wrap64 ((l0.length : Int) + (l1.length : Int)) : Int).toNat 0) l0 (l0.length : Int) 0) else (none)) else (none)) = some r := h
 clear h
 obtain ⟨ji3, hji3⟩ : ∃ j_ : Int, (wrap64 ((l0.length : Int) + (l1.length : Int))) = j_ := ⟨_, rfl⟩
 first | rw [hji3] at H | simp only [hji3] at H
 have hji3w : (IntKind.i64.wrap ((l0.length : Int) + (l1.length : Int))) = ji3 := (i64_w _).trans hji3
 replace H := uT H; obtain ⟨c4, H⟩ := H
 have c4b0 := eq_true c4
 have c4b1 := decide_eq_true c4
 clear c4
 replace H := uT H; obtain ⟨c5, H⟩ := H
 have c5b0 := eq_true c5
 have c5b1 := decide_eq_true c5
 clear c5
 obtain ⟨y443, hy443⟩ : ∃ y_ : List Int, y_ = (List.replicate (ji3 : Int).toNat 0) := ⟨_, rfl⟩
 replace H : (nat_school.l0 k l1 y443 l0 (l0.length : Int) 0) = some r := by first | (rw [hy443]; with_reducible exact H) | (have H2_ := (Option.bind_some _ _).symm.trans H; rw [hy443]; with_reducible exact H2_) | (have H2_ := (Option.bind_some _ _).symm.trans H; with_reducible exact H2_) | with_reducible exact H | (rw [hy443]; exact H) | exact H
 have Ny443 := Aside0.mk hy443; clear hy443
 have H' := Aside0.mk H
 clear H
 go_enter Try.func75, Try.ntmps75
 go_wp2_with (first | ((with_reducible refine gate_dst (N := 19) rfl ?_); refine Kd.R_make (Kd.int .u64) _ 62 rfl (N := 19) rfl 57 _ _ rfl ji3 rfl rfl Try.underlying57 (.int .u64 0) 8 info62 rfl (by decide) (by omega) 0 (ok := fun _ => True) (okp := fun _ => True) rfl (fun _ hk => hk) trivial uO (Nat.le_trans (Nat.mul_le_mul_right _ (uO : ji3.toNat ≤ 35184372088832)) (by omega)) (Below.refl _ _) (Nat.le_refl _) ?_; intro v444 w6 ho7 hb hg_ hnew_; clear hg_ hnew_; (first | rw [← Ny443.out] at ho7 | (simp only [Int.reduceToNat] at ho7; rw [← Ny443.out] at ho7)); have HO445 := ulo ho7; replace HB := uy hb; clear hb ho7))
 go_loopg [22] k (fun kq v22 w' => ∃ (x5_1 : List Int) (x22_1 : Int), v22 = .int .i64 x22_1 ∧ Aside0 (nat_school.l0 kq l1 x5_1 l0 (l0.length : Int) x22_1 = some r) ∧ Aside0 (kq ≤ k) ∧ Aside0 (Kd.R (Kd.int .u64) 62 w' w.heap.size (fun _ => True) v444 x5_1) ∧ Aside0 (Below w.heap.size w w'))
 case atStart => exact ⟨(y443), (0), uG, H', ⟨Nat.le_refl _⟩, ⟨uR HO445.out⟩, ⟨uB⟩⟩
 case round =>
  clear H'
  obtain ⟨x5_1, x22_1, rfl, HA, HK1, HO_5, HB⟩ := hrel
  cases gk with
  | zero => exact absurd HA.out (by simp [nat_school.l0])
  | succ k1 =>
   have H := HA.out
   clear HA
   simp only [nat_school.l0] at H
   by_cases c8 : x22_1 < (l0.length : Int)
   ·
    rw [if_pos c8] at H
    have c8b0 := decide_eq_true c8
    clear c8
    replace H := uT H; obtain ⟨c9, H⟩ := H
    have c9b0 := decide_eq_true c9
    clear c9
    replace H := uT H; obtain ⟨c10, H⟩ := H
    have c10b0 := decide_eq_true c10
    clear c10
    have H' := Aside0.mk H
    clear H
    have p449 : 0 ≤ (x22_1 : Int) := uO
    have q449 : x22_1 < (l0.length : Int) := uO
    obtain ⟨ad449, e449, hx449_0⟩ := Kd.at_int HR0.out x22_1 p449 q449
    cases e449
    replace hx449_0 := (HB.out.cell (World.block_lt_of_cell? w _ hx449_0)).trans hx449_0
    replace p449 := eq_true p449
    replace q449 := eq_true q449
    go_wp2
    go_loopg [8, 29] k1 (fun kq v8 v29 w' => ∃ (x5_2 : List Int) (x8_2 : Int) (x29_2 : Int), v8 = .int .u64 x8_2 ∧ v29 = .int .i64 x29_2 ∧ Aside0 (nat_school.l1 kq l1 x5_2 x22_1 (rd l0 x22_1) x8_2 l0 (l0.length : Int) x22_1 l1 (l1.length : Int) x29_2 = some r) ∧ Aside0 (kq ≤ k1) ∧ Aside0 (Kd.R (Kd.int .u64) 62 w' w.heap.size (fun _ => True) v444 x5_2) ∧ Aside0 (Below w.heap.size w w'))
    case atStart => exact ⟨(x5_1), (0), (0), uG, uG, H', ⟨Nat.le_refl _⟩, ⟨uR HO_5.out⟩, ⟨uB⟩⟩
    case round =>
     clear H'
     ; (try clear q4); (try clear hx4); (try clear hx449_0); (try clear q449)
     obtain ⟨x5_2, x8_2, x29_2, rfl, rfl, HA, HK2, HO_5, HB⟩ := hrel
     cases gk with
     | zero => exact absurd HA.out (by simp [nat_school.l1])
     | succ k2 =>
      have H := HA.out
      clear HA
      simp only [nat_school.l1] at H
      by_cases c11 : x29_2 < (l1.length : Int)
      ·
       rw [if_pos c11] at H
       have c11b0 := decide_eq_true c11
       clear c11
       replace H := uT H; obtain ⟨c12, H⟩ := H
       have c12b0 := decide_eq_true c12
       clear c12
       replace H := uT H; obtain ⟨c13, H⟩ := H
       have c13b0 := decide_eq_true c13
       clear c13
       replace H := ub H; obtain ⟨⟨t451, t452⟩, A14, H⟩ := H
       (try dsimp only at H)
       obtain ⟨ji15, hji15⟩ : ∃ j_ : Int, (wrap64 (x22_1 + x29_2)) = j_ := ⟨_, rfl⟩
       first | rw [hji15] at H | simp only [hji15] at H
       (try rw [hji15] at A14)
       have hji15w : (IntKind.i64.wrap (x22_1 + x29_2)) = ji15 := (i64_w _).trans hji15
       replace H := uT H; obtain ⟨c16, H⟩ := H
       have c16b0 := decide_eq_true c16
       clear c16
       replace H := uT H; obtain ⟨c17, H⟩ := H
       have c17b0 := decide_eq_true c17
       clear c17
       replace H := uT H; obtain ⟨c18, H⟩ := H
       have c18b0 : carry01 0 = true := c18
       clear c18
       obtain ⟨y454, hy454⟩ : ∃ y_ : List Int, y_ = (x5_2.set ((ji15) : Int).toNat (add64_s (add64_s t452 (rd x5_2 (ji15)) 0) x8_2 0)) := ⟨_, rfl⟩
       replace H : (nat_school.l1 k2 l1 y454 x22_1 (rd l0 x22_1) (IntKind.u64.wrap ((IntKind.u64.wrap (t451 + (add64_c t452 (rd x5_2 (ji15)) 0))) + (add64_c (add64_s t452 (rd x5_2 (ji15)) 0) x8_2 0))) l0 (l0.length : Int) x22_1 l1 (l1.length : Int) (wrap64 (x29_2 + 1))) = some r := by first | (rw [hy454]; with_reducible exact H) | (have H2_ := (Option.bind_some _ _).symm.trans H; rw [hy454]; with_reducible exact H2_) | (have H2_ := (Option.bind_some _ _).symm.trans H; with_reducible exact H2_) | with_reducible exact H | (rw [hy454]; exact H) | exact H
       have Ny454 := Aside0.mk hy454; clear hy454
       have H' := Aside0.mk H
       clear H
       have p450 : 0 ≤ (x29_2 : Int) := uO
       have q450 : x29_2 < (l1.length : Int) := uO
       obtain ⟨ad450, e450, hx450_0⟩ := Kd.at_int HR1.out x29_2 p450 q450
       cases e450
       replace hx450_0 := (HB.out.cell (World.block_lt_of_cell? w _ hx450_0)).trans hx450_0
       replace p450 := eq_true p450
       replace q450 := eq_true q450
       go_wp2_with (first | ((with_reducible refine ug 102 rfl ?_); refine uh (some 37) rfl Try.func102 #[.int .u64 (rd l0 x22_1), .int .u64 (rd l1 x29_2)] ?_; (with_reducible refine (bits_Mul64.calls (rd l0 x22_1) (rd l1 x29_2) t451 t452 _ A14.out).mono ?_); rintro e w' ⟨rfl, ⟨nd, rfl⟩⟩; refine ⟨_, rfl, ?_⟩; (try (rw [drewN_self wr]; generalize hq_ : World.drewN wr _ = wr; replace HO_5 : Aside0 (Kd.R (Kd.int .u64) 62 wr w.heap.size (fun _ => True) v444 x5_2) := ⟨by rw [← hq_]; exact (uR HO_5.out)⟩; replace HB : Aside0 (Below w.heap.size w wr) := ⟨by rw [← hq_]; exact uB⟩; clear hq_)); obtain ⟨Ao20, co20, eo20⟩ := Kd.R_slice HO_5.out; subst eo20; have p453 : 0 ≤ ((ji15) : Int) := uO; have q453 : (ji15) < (x5_2.length : Int) := uO; obtain ⟨ad453, e453, hx453_0⟩ := Kd.at_int (Kd.R_reads' HO_5.out).2.2 (ji15) p453 q453; cases e453; replace p453 := eq_true p453; replace q453 := eq_true q453; have p19 : 0 ≤ ((ji15) : Int) := uO; have q19 : ((ji15) : Int) < ((x5_2.length : Int) : Int) := uO; obtain ⟨go19, co19, eo19, gb19, gl19, cl19, HG19⟩ := Kd.R_form HO_5.out (by omega); (first | cases eo19 | (injection eo19 with ea_ en_ ec_; (first | subst ea_ | (injection ea_ with ea_; subst ea_)); subst ec_; clear en_)); have GB19 := Aside0.mk gb19; have GG19 := Aside0.mk HG19; clear gb19 gl19 HG19; (first | simp only [add_plain] at hx453_0 | skip); obtain ⟨hx19_0, hf19_0⟩ := Kd.R_celln 0 HO_5.out ((ji15) : Int) p19 q19; replace p19 := eq_true p19; replace q19 := eq_true q19; obtain ⟨hy21_, hz21_⟩ := Kd.R_celln 0 HO_5.out ((ji15) : Int) uO uO; have HP21 := Kd.R_putg HO_5.out ((ji15) : Int) (add64_s (add64_s t452 (rd x5_2 (ji15)) 0) x8_2 0)) | ((with_reducible refine gate_store (t := 62) (p := 68) rfl ?_); refine store_event (t := 62) (p := 68) (v := ?vo_w22) (w1 := (wr.setCell ⟨go19, ((ji15) : Int).toNat, none⟩ (.int .u64 (add64_s (add64_s t452 (rd x5_2 (ji15)) 0) x8_2 0)))) ?hg ?ho ?hn ?hr ?_; (case ho => rfl); (case hg => rfl); (case hn => rfl); (case hr => first | (go_simp; done) | (go_simp; rfl) | (obtain ⟨hy_, hz_⟩ := Kd.R_celln 0 HO_5.out ((ji15) : Int) uO uO; (try simp only [Go.IntWalk.toNatUp] at hy_ hz_); (try simp only [Int.reduceToNat, Int.toNat_zero, Int.toNat_ofNat] at hy_ hz_); first | (go_simp; done) | (go_simp; rfl))); intro w22 hw; have hg : wr.grownBy w22 (some go19) := (by rw [hw]; exact HP21.2); have hp_ : Kd.R (Kd.int .u64) 62 w22 w.heap.size (fun _ => True) (.slice (some ⟨go19, 0, none⟩) x5_2.length co20) y454 := (by rw [hw, Ny454.out]; exact HP21.1); clear HP21; replace HO_5 := Aside0.mk (hp_); replace HB := Aside0.mk ((by rw [hw]; exact below_set (HB.out) GB19.out : Below w.heap.size w w22)); clear hg hw hp_))
       first | go_roundg k2 | ((try simp only [← hji15] at H'); simp only [← hji15]; go_roundg k2) | ((try simp only [← hji3] at H'); simp only [← hji3]; go_roundg k2)
       case measure => have := HK1.out; have := HK2.out; omega
       case rel => first | exact ⟨(y454), (IntKind.u64.wrap ((IntKind.u64.wrap (t451 + (add64_c t452 (rd x5_2 (ji15)) 0))) + (add64_c (add64_s t452 (rd x5_2 (ji15)) 0) x8_2 0))), (wrap64 (x29_2 + 1)), (by first | rfl | (simp; done) | (simp only [← hji15] <;> (first | rfl | simp)) | (simp [*]; done)), uG, H', ⟨by have := HK1.out; have := HK2.out; omega⟩, ⟨uR HO_5.out⟩, ⟨uB⟩⟩ | (simp only [← hji15] at H'; exact ⟨(y454), (IntKind.u64.wrap ((IntKind.u64.wrap (t451 + (add64_c t452 (rd x5_2 (ji15)) 0))) + (add64_c (add64_s t452 (rd x5_2 (ji15)) 0) x8_2 0))), (wrap64 (x29_2 + 1)), (by first | rfl | (simp; done) | (simp only [← hji15] <;> (first | rfl | simp)) | (simp [*]; done)), uG, H', ⟨by have := HK1.out; have := HK2.out; omega⟩, ⟨uR HO_5.out⟩, ⟨uB⟩⟩) | (simp only [← hji3] at H'; exact ⟨(y454), (IntKind.u64.wrap ((IntKind.u64.wrap (t451 + (add64_c t452 (rd x5_2 (ji15)) 0))) + (add64_c (add64_s t452 (rd x5_2 (ji15)) 0) x8_2 0))), (wrap64 (x29_2 + 1)), (by first | rfl | (simp; done) | (simp only [← hji15] <;> (first | rfl | simp)) | (simp [*]; done)), uG, H', ⟨by have := HK1.out; have := HK2.out; omega⟩, ⟨uR HO_5.out⟩, ⟨uB⟩⟩)
      rw [if_neg c11] at H
      have c11b0 := decide_eq_false c11
      clear c11
      obtain ⟨ji23, hji23⟩ : ∃ j_ : Int, (wrap64 (x22_1 + (l1.length : Int))) = j_ := ⟨_, rfl⟩
      first | rw [hji23] at H | simp only [hji23] at H
      have hji23w : (IntKind.i64.wrap (x22_1 + (l1.length : Int))) = ji23 := (i64_w _).trans hji23
      replace H := uT H; obtain ⟨c24, H⟩ := H
      have c24b0 := decide_eq_true c24
      clear c24
      replace H := uT H; obtain ⟨c25, H⟩ := H
      have c25b0 := decide_eq_true c25
      clear c25
      obtain ⟨y455, hy455⟩ : ∃ y_ : List Int, y_ = (x5_2.set ((ji23) : Int).toNat x8_2) := ⟨_, rfl⟩
      replace H : (nat_school.l0 k2 l1 y455 l0 (l0.length : Int) (wrap64 (x22_1 + 1))) = some r := by first | (rw [hy455]; with_reducible exact H) | (have H2_ := (Option.bind_some _ _).symm.trans H; rw [hy455]; with_reducible exact H2_) | (have H2_ := (Option.bind_some _ _).symm.trans H; with_reducible exact H2_) | with_reducible exact H | (rw [hy455]; exact H) | exact H
      have Ny455 := Aside0.mk hy455; clear hy455
      have H' := Aside0.mk H
      clear H
      have p26 : 0 ≤ ((ji23) : Int) := uO
      have q26 : ((ji23) : Int) < ((x5_2.length : Int) : Int) := uO
      obtain ⟨go26, co26, eo26, gb26, gl26, cl26, HG26⟩ := Kd.R_form HO_5.out (by omega)
      (first | cases eo26 | (injection eo26 with ea_ en_ ec_; (first | subst ea_ | (injection ea_ with ea_; subst ea_)); subst ec_; clear en_))
      have GB26 := Aside0.mk gb26; have GG26 := Aside0.mk HG26; clear gb26 gl26 HG26
      obtain ⟨hx26_0, hf26_0⟩ := Kd.R_celln 0 HO_5.out ((ji23) : Int) p26 q26
      replace p26 := eq_true p26
      replace q26 := eq_true q26
      have HP27 := Kd.R_putg HO_5.out ((ji23) : Int) x8_2
      go_wp2_with (first | ((with_reducible refine gate_store (t := 62) (p := 76) rfl ?_); refine store_event (t := 62) (p := 76) (v := ?vo_w28) (w1 := (wr.setCell ⟨go26, ((ji23) : Int).toNat, none⟩ (.int .u64 x8_2))) ?hg ?ho ?hn ?hr ?_; (case ho => rfl); (case hg => rfl); (case hn => rfl); (case hr => first | (go_simp; done) | (go_simp; rfl) | (obtain ⟨hy_, hz_⟩ := Kd.R_celln 0 HO_5.out ((ji23) : Int) uO uO; (try simp only [Go.IntWalk.toNatUp] at hy_ hz_); (try simp only [Int.reduceToNat, Int.toNat_zero, Int.toNat_ofNat] at hy_ hz_); first | (go_simp; done) | (go_simp; rfl))); intro w28 hw; have hg : wr.grownBy w28 (some go26) := (by rw [hw]; exact HP27.2); have hp_ : Kd.R (Kd.int .u64) 62 w28 w.heap.size (fun _ => True) (.slice (some ⟨go26, 0, none⟩) x5_2.length co26) y455 := (by rw [hw, Ny455.out]; exact HP27.1); clear HP27; replace HO_5 := Aside0.mk (hp_); replace HB := Aside0.mk ((by rw [hw]; exact below_set (HB.out) GB26.out : Below w.heap.size w w28)); clear hg hw hp_))
      first | go_roundg k2 | ((try simp only [← hji23] at H'); simp only [← hji23]; go_roundg k2) | ((try simp only [← hji15] at H'); simp only [← hji15]; go_roundg k2) | ((try simp only [← hji3] at H'); simp only [← hji3]; go_roundg k2)
      case measure => have := HK1.out; have := HK2.out; omega
      case rel => first | exact ⟨(y455), (wrap64 (x22_1 + 1)), uG, H', ⟨by have := HK1.out; have := HK2.out; omega⟩, ⟨uR HO_5.out⟩, ⟨uB⟩⟩ | (simp only [← hji23] at H'; exact ⟨(y455), (wrap64 (x22_1 + 1)), uG, H', ⟨by have := HK1.out; have := HK2.out; omega⟩, ⟨uR HO_5.out⟩, ⟨uB⟩⟩) | (simp only [← hji15] at H'; exact ⟨(y455), (wrap64 (x22_1 + 1)), uG, H', ⟨by have := HK1.out; have := HK2.out; omega⟩, ⟨uR HO_5.out⟩, ⟨uB⟩⟩) | (simp only [← hji3] at H'; exact ⟨(y455), (wrap64 (x22_1 + 1)), uG, H', ⟨by have := HK1.out; have := HK2.out; omega⟩, ⟨uR HO_5.out⟩, ⟨uB⟩⟩)
   rw [if_neg c8] at H
   have c8b0 := decide_eq_false c8
   clear c8
   replace H := ub H; obtain ⟨t446, A29, H⟩ := H
   obtain rfl := Option.some.inj H
   obtain ⟨Ao30, co30, eo30⟩ := Kd.R_slice HO_5.out
   subst eo30
   go_wp2_with (first | ((with_reducible refine ug 72 rfl ?_); refine uh (some 79) rfl Try.func72 #[.slice Ao30 x5_1.length co30] ?_; (with_reducible refine (nat_trim.calls k1 (fun k_ => some k_ = (.slice Ao30 x5_1.length co30 : Value).ownBlock) (.slice Ao30 x5_1.length co30) x5_1 t446 w _ ?side1 ?side2 A29.out).mono ?_); (case side1 => repeat (first | (with_reducible first | exact HB.out | apply below_alloc | apply pw_below_drewN | apply below_drew1) | exact HB.out)); (case side2 => exact Kd.R_tight rfl HO_5.out); rintro e w31 ⟨v447, rfl, ho0, hb, hkp⟩; refine ⟨_, rfl, ?_⟩; have HO448 := Aside0.mk (Kd.R_mono (ok' := fun k_ => True) ho0 (fun k_ hk_ => trivial)); replace HB := Aside0.mk (hb); clear HO_5; (try clear hb); (try clear hkp); (try clear ho0)))
   go_ret
   exact ⟨_, by first | rfl | (simp [errW_none, errW_some] <;> rfl) | (simp only [← hji3]; first | rfl | (simp [errW_none, errW_some] <;> rfl)) | (simp [*, errW_none, errW_some] <;> rfl), uR HO448.out, uB⟩
mutual
def nat_into.l0 : Nat → List Int → List Int → Int → Int → Int → Option (List Int)
 | 0, _, _, _, _, _ => none
 | k + 1, x0, x1, x2, x6, x7 => if x7 < (x0.length : Int) then (if (wrap64 (x7 - x2)) < (x1.length : Int) then (nat_into.j1 k x0 x1 x2 x6 x7 true) else (nat_into.j1 k x0 x1 x2 x6 x7 (decide (x6 > 0)))) else (nat_into.j1 k x0 x1 x2 x6 x7 false)
def nat_into.j1 : Nat → List Int → List Int → Int → Int → Int → Bool → Option (List Int)
 | 0, _, _, _, _, _, _ => none
 | k + 1, x0, x1, x2, x6, x7, x25 => if x25 = true then (if (wrap64 (x7 - x2)) < (x1.length : Int) then (if 0 ≤ (wrap64 (x7 - x2)) then (if 0 ≤ x7 then (if x7 < (x0.length : Int) then (if carry01 x6 = true then (nat_into.l0 k (x0.set (x7 : Int).toNat (add64_s (rd x0 x7) (rd x1 (wrap64 (x7 - x2))) x6)) x1 x2 (add64_c (rd x0 x7) (rd x1 (wrap64 (x7 - x2))) x6) (wrap64 (x7 + 1))) else (none)) else (none)) else (none)) else (none)) else (if 0 ≤ x7 then (if x7 < (x0.length : Int) then (if carry01 x6 = true then (nat_into.l0 k (x0.set (x7 : Int).toNat (add64_s (rd x0 x7) 0 x6)) x1 x2 (add64_c (rd x0 x7) 0 x6) (wrap64 (x7 + 1))) else (none)) else (none)) else (none))) else (some x0)
end
def nat_into.f (k : Nat) (l0 : List Int) (l1 : List Int) (a2 : Int) : Option (List Int) := nat_into.l0 k l0 l1 a2 0 a2
theorem nat_into.calls (k : Nat) (P0_ : Nat → Prop) (u9000_ : Value) (l0 : List Int) (A1 : Option Addr) (c1 : Nat) (l1 : List Int) (a2 : Int) (r : List Int) (w0 w : World) (hB : Below w0.heap.size w0 w) (ho0 : Kd.R (Kd.int .u64) 62 w w0.heap.size P0_ u9000_ l0) (hr1 : ∀ W_, Kept w W_ (fun k_ => P0_ k_) → Kd.C (Kd.int .u64) W_ A1 l1.length l1) (hc1 : l1.length ≤ c1) (h : nat_into.f k l0 l1 a2 = some r) :
  Calls Try.prog 79 #[u9000_, .slice A1 l1.length c1, .int .i64 a2] w fun e w' => e = .returned (.tuple #[]) ∧ Kd.R (Kd.int .u64) 62 w' w0.heap.size (fun k_ => (P0_ k_ ∨ w.heap.size ≤ k_)) u9000_ r ∧ Below w0.heap.size w0 w' ∧ Kept w w' (fun k_ => P0_ k_) := by
 have HO0 := Aside0.mk (show Kd.R (Kd.int .u64) 62 w w0.heap.size (fun k_ => (P0_ k_ ∨ w.heap.size ≤ k_)) u9000_ l0 from Kd.R_mono ho0 (fun k_ hk => (.inl hk)))
 have HR1 := Aside0.mk hr1; have HC1 := Aside0.mk hc1; clear hr1 hc1
 have HK := Aside0.mk (Kept.refl w (fun k_ => P0_ k_))
 have HW0 := Aside0.mk hB.size
 have HB := Aside0.mk hB; clear hB
 have H : (nat_into.l0 k l0 l1 a2 0 a2) = some r := h
 clear h
 have H' := Aside0.mk H
 clear H
 go_enter Try.func79, Try.ntmps79
 go_wp2
 go_loopg [6, 7] k (fun kq v6 v7 w' => ∃ (x0_1 : List Int) (x6_1 : Int) (x7_1 : Int), v6 = .int .u64 x6_1 ∧ v7 = .int .i64 x7_1 ∧ Aside0 (nat_into.l0 kq x0_1 l1 a2 x6_1 x7_1 = some r) ∧ Aside0 (kq ≤ k) ∧ Aside0 (Kd.R (Kd.int .u64) 62 w' w0.heap.size (fun k_ => (P0_ k_ ∨ w.heap.size ≤ k_)) u9000_ x0_1) ∧ Aside0 (Kept w w' (fun k_ => P0_ k_)) ∧ Aside0 (Below w0.heap.size w0 w'))
 case atStart => exact ⟨(l0), (0), (a2), uG, uG, H', ⟨Nat.le_refl _⟩, ⟨uR HO0.out⟩, ⟨by repeat (first | (with_reducible first | exact HK.out | apply Kept.alloc | apply Kept.drewN | apply Kept.drew) | exact HK.out)⟩, ⟨uB⟩⟩
 case round =>
  clear H'
  obtain ⟨x0_1, x6_1, x7_1, rfl, rfl, HA, HK1, HO_0, HK, HB⟩ := hrel
  cases gk with
  | zero => exact absurd HA.out (by simp [nat_into.l0])
  | succ k1 =>
   have H := HA.out
   clear HA
   simp only [nat_into.l0] at H
   have HC4 := Aside0.mk H; clear H
   go_upto_region 2 with (fail)
   go_cut [25] (fun v25 wc => ∃ (kq : Nat) (x25_3 : Bool), v25 = .bool x25_3 ∧ Aside0 (nat_into.j1 kq x0_1 l1 a2 x6_1 x7_1 x25_3 = some r) ∧ Aside0 (kq ≤ k1) ∧ Aside0 (Kd.R (Kd.int .u64) 62 wc w0.heap.size (fun k_ => (P0_ k_ ∨ w.heap.size ≤ k_)) u9000_ x0_1) ∧ Aside0 (Kept w wc (fun k_ => P0_ k_)) ∧ Aside0 (Below w0.heap.size w0 wc))
   case first =>
    have H := HC4.out
    clear HC4
    by_cases c5 : x7_1 < (x0_1.length : Int)
    ·
     rw [if_pos c5] at H
     have c5b0 := decide_eq_true c5
     clear c5
     (first | rw [c5b0] | (simp only [i64_w, i32_w]; rw [c5b0]) | skip)
     by_cases c6 : (wrap64 (x7_1 - a2)) < (l1.length : Int)
     ·
      rw [if_pos c6] at H
      have c6b0 := decide_eq_true c6
      clear c6
      have H' := Aside0.mk H
      clear H
      obtain ⟨Ao7, co7, eo7⟩ := Kd.R_slice HO_0.out
      subst eo7
      go_wp2
      go_meet
      case rel => exact ⟨_, (true), uG, H', ⟨by have := HK1.out; first | omega | exact Nat.le_refl _⟩, ⟨uR HO_0.out⟩, ⟨by repeat (first | (with_reducible first | exact HK.out | apply Kept.alloc | apply Kept.drewN | apply Kept.drew) | exact HK.out)⟩, ⟨uB⟩⟩
     rw [if_neg c6] at H
     have c6b0 := decide_eq_false c6
     clear c6
     have H' := Aside0.mk H
     clear H
     obtain ⟨Ao8, co8, eo8⟩ := Kd.R_slice HO_0.out
     subst eo8
     go_wp2
     go_meet
     case rel => exact ⟨_, (decide (x6_1 > 0)), uG, H', ⟨by have := HK1.out; first | omega | exact Nat.le_refl _⟩, ⟨uR HO_0.out⟩, ⟨by repeat (first | (with_reducible first | exact HK.out | apply Kept.alloc | apply Kept.drewN | apply Kept.drew) | exact HK.out)⟩, ⟨uB⟩⟩
    rw [if_neg c5] at H
    have c5b0 := decide_eq_false c5
    clear c5
    (first | rw [c5b0] | (simp only [i64_w, i32_w]; rw [c5b0]) | skip)
    have H' := Aside0.mk H
    clear H
    obtain ⟨Ao9, co9, eo9⟩ := Kd.R_slice HO_0.out
    subst eo9
    go_wp2
    go_meet
    case rel => exact ⟨_, (false), uG, H', ⟨by have := HK1.out; first | omega | exact Nat.le_refl _⟩, ⟨uR HO_0.out⟩, ⟨by repeat (first | (with_reducible first | exact HK.out | apply Kept.alloc | apply Kept.drewN | apply Kept.drew) | exact HK.out)⟩, ⟨uB⟩⟩
   case rest =>
    clear HC4
    obtain ⟨kq, x25_3, rfl, HA, HJ3, HO_0, HK, HB⟩ := hcut
    cases kq with
    | zero => exact absurd HA.out (by simp [nat_into.j1])
    | succ kj3 =>
     have H := HA.out
     clear HA
     simp only [nat_into.j1] at H
     by_cases c10 : x25_3 = true
     ·
      subst c10
      have H1 : (if (wrap64 (x7_1 - a2)) < (l1.length : Int) then (if 0 ≤ (wrap64 (x7_1 - a2)) then (if 0 ≤ x7_1 then (if x7_1 < (x0_1.length : Int) then (if carry01 x6_1 = true then (nat_into.l0 kj3 (x0_1.set (x7_1 : Int).toNat (add64_s (rd x0_1 x7_1) (rd l1 (wrap64 (x7_1 - a2))) x6_1)) l1 a2 (add64_c (rd x0_1 x7_1) (rd l1 (wrap64 (x7_1 - a2))) x6_1) (wrap64 (x7_1 + 1))) else (none)) else (none)) else (none)) else (none)) else (if 0 ≤ x7_1 then (if x7_1 < (x0_1.length : Int) then (if carry01 x6_1 = true then (nat_into.l0 kj3 (x0_1.set (x7_1 : Int).toNat (add64_s (rd x0_1 x7_1) 0 x6_1)) l1 a2 (add64_c (rd x0_1 x7_1) 0 x6_1) (wrap64 (x7_1 + 1))) else (none)) else (none)) else (none))) = some r := by rw [if_pos rfl] at H; exact H
      clear H; have H := H1; clear H1
      by_cases c11 : (wrap64 (x7_1 - a2)) < (l1.length : Int)
      ·
       rw [if_pos c11] at H
       have c11b0 := decide_eq_true c11
       clear c11
       obtain ⟨ji12, hji12⟩ : ∃ j_ : Int, (wrap64 (x7_1 - a2)) = j_ := ⟨_, rfl⟩
       first | rw [hji12] at H | simp only [hji12] at H
       (try rw [hji12] at c11b0)
       have hji12w : (IntKind.i64.wrap (x7_1 - a2)) = ji12 := (i64_w _).trans hji12
       replace H := uT H; obtain ⟨c13, H⟩ := H
       have c13b0 := decide_eq_true c13
       clear c13
       replace H := uT H; obtain ⟨c14, H⟩ := H
       have c14b0 := decide_eq_true c14
       clear c14
       replace H := uT H; obtain ⟨c15, H⟩ := H
       have c15b0 := decide_eq_true c15
       clear c15
       replace H := uT H; obtain ⟨c16, H⟩ := H
       have c16b0 : carry01 x6_1 = true := c16
       clear c16
       obtain ⟨y458, hy458⟩ : ∃ y_ : List Int, y_ = (x0_1.set (x7_1 : Int).toNat (add64_s (rd x0_1 x7_1) (rd l1 (ji12)) x6_1)) := ⟨_, rfl⟩
       replace H : (nat_into.l0 kj3 y458 l1 a2 (add64_c (rd x0_1 x7_1) (rd l1 (ji12)) x6_1) (wrap64 (x7_1 + 1))) = some r := by first | (rw [hy458]; with_reducible exact H) | (have H2_ := (Option.bind_some _ _).symm.trans H; rw [hy458]; with_reducible exact H2_) | (have H2_ := (Option.bind_some _ _).symm.trans H; with_reducible exact H2_) | with_reducible exact H | (rw [hy458]; exact H) | exact H
       have Ny458 := Aside0.mk hy458; clear hy458
       have H' := Aside0.mk H
       clear H
       have p456 := eq_true (uO : 0 ≤ ((ji12) : Int))
       have q456 := eq_true (uO : (ji12) < (l1.length : Int))
       obtain ⟨ad456, e456, hx456_0⟩ := Kd.at_int (Kd.C_kept_now HR1.out HK.out) (ji12) uO uO
       cases e456
       obtain ⟨Ao18, co18, eo18⟩ := Kd.R_slice HO_0.out
       subst eo18
       have p457 := eq_true (uO : 0 ≤ (x7_1 : Int))
       have q457 := eq_true (uO : x7_1 < (x0_1.length : Int))
       obtain ⟨ad457, e457, hx457_0⟩ := Kd.at_int (Kd.R_reads' HO_0.out).2.2 x7_1 uO uO
       cases e457
       have p17 : 0 ≤ (x7_1 : Int) := uO
       have q17 : (x7_1 : Int) < ((x0_1.length : Int) : Int) := uO
       obtain ⟨go17, co17, eo17, gb17, gl17, cl17, HG17⟩ := Kd.R_form HO_0.out (by omega)
       (first | cases eo17 | (injection eo17 with ea_ en_ ec_; (first | subst ea_ | (injection ea_ with ea_; subst ea_)); subst ec_; clear en_))
       have GB17 := Aside0.mk gb17; have GG17 := Aside0.mk HG17; clear gb17 gl17 HG17
       have HMgo17 := Aside0.mk (show (P0_ go17 ∨ w.heap.size ≤ go17) from (HO_0.out.1 _ rfl))
       (first | simp only [add_plain] at hx457_0 | skip)
       obtain ⟨hx17_0, hf17_0⟩ := Kd.R_celln 0 HO_0.out (x7_1 : Int) p17 q17
       replace p17 := eq_true p17
       replace q17 := eq_true q17
       have HP19 := Kd.R_putg HO_0.out (x7_1 : Int) (add64_s (rd x0_1 x7_1) (rd l1 (ji12)) x6_1)
       go_wp2_with (first | ((with_reducible refine gate_store (t := 62) (p := 52) rfl ?_); refine store_event (t := 62) (p := 52) (v := ?vo_w20) (w1 := (wc.setCell ⟨go17, (x7_1 : Int).toNat, none⟩ (.int .u64 (add64_s (rd x0_1 x7_1) (rd l1 (ji12)) x6_1)))) ?hg ?ho ?hn ?hr ?_; (case ho => rfl); (case hg => rfl); (case hn => rfl); (case hr => first | (go_simp; done) | (go_simp; rfl) | (obtain ⟨hy_, hz_⟩ := Kd.R_celln 0 HO_0.out (x7_1 : Int) uO uO; (try simp only [Go.IntWalk.toNatUp] at hy_ hz_); (try simp only [Int.reduceToNat, Int.toNat_zero, Int.toNat_ofNat] at hy_ hz_); first | (go_simp; done) | (go_simp; rfl))); intro w20 hw; have hg : wc.grownBy w20 (some go17) := (by rw [hw]; exact HP19.2); have hp_ : Kd.R (Kd.int .u64) 62 w20 w0.heap.size (fun k_ => (P0_ k_ ∨ w.heap.size ≤ k_)) (.slice (some ⟨go17, 0, none⟩) x0_1.length co18) y458 := (by rw [hw, Ny458.out]; exact HP19.1); clear HP19; replace HB := Aside0.mk ((by rw [hw]; exact below_set (HB.out) GB17.out : Below w0.heap.size w0 w20)); replace HK := Aside0.mk (Kept.of_grown (S := (fun k_ => P0_ k_)) hg (by repeat (first | (with_reducible first | exact HK.out | apply Kept.alloc | apply Kept.drewN | apply Kept.drew) | exact HK.out)) (fun k_ e_ => (HO_0.out.1 k_ e_))); replace HO_0 := Aside0.mk (hp_); clear hg hw hp_))
       first | go_roundg kj3 | ((try simp only [← hji12] at H'); simp only [← hji12]; go_roundg kj3)
       case measure => have := HK1.out; have := HJ3.out; omega
       case rel => first | exact ⟨(y458), (add64_c (rd x0_1 x7_1) (rd l1 (ji12)) x6_1), (wrap64 (x7_1 + 1)), (by first | rfl | (simp; done) | (simp only [← hji12] <;> (first | rfl | simp)) | (simp [*]; done)), uG, H', ⟨by have := HK1.out; have := HJ3.out; omega⟩, ⟨uR HO_0.out⟩, ⟨by repeat (first | (with_reducible first | exact HK.out | apply Kept.alloc | apply Kept.drewN | apply Kept.drew) | exact HK.out)⟩, ⟨uB⟩⟩ | (simp only [← hji12] at H'; exact ⟨(y458), (add64_c (rd x0_1 x7_1) (rd l1 (ji12)) x6_1), (wrap64 (x7_1 + 1)), (by first | rfl | (simp; done) | (simp only [← hji12] <;> (first | rfl | simp)) | (simp [*]; done)), uG, H', ⟨by have := HK1.out; have := HJ3.out; omega⟩, ⟨uR HO_0.out⟩, ⟨by repeat (first | (with_reducible first | exact HK.out | apply Kept.alloc | apply Kept.drewN | apply Kept.drew) | exact HK.out)⟩, ⟨uB⟩⟩)
      rw [if_neg c11] at H
      have c11b0 := decide_eq_false c11
      clear c11
      replace H := uT H; obtain ⟨c21, H⟩ := H
      have c21b0 := decide_eq_true c21
      clear c21
      replace H := uT H; obtain ⟨c22, H⟩ := H
      have c22b0 := decide_eq_true c22
      clear c22
      replace H := uT H; obtain ⟨c23, H⟩ := H
      have c23b0 : carry01 x6_1 = true := c23
      clear c23
      obtain ⟨y460, hy460⟩ : ∃ y_ : List Int, y_ = (x0_1.set (x7_1 : Int).toNat (add64_s (rd x0_1 x7_1) 0 x6_1)) := ⟨_, rfl⟩
      replace H : (nat_into.l0 kj3 y460 l1 a2 (add64_c (rd x0_1 x7_1) 0 x6_1) (wrap64 (x7_1 + 1))) = some r := by first | (rw [hy460]; with_reducible exact H) | (have H2_ := (Option.bind_some _ _).symm.trans H; rw [hy460]; with_reducible exact H2_) | (have H2_ := (Option.bind_some _ _).symm.trans H; with_reducible exact H2_) | with_reducible exact H | (rw [hy460]; exact H) | exact H
      have Ny460 := Aside0.mk hy460; clear hy460
      have H' := Aside0.mk H
      clear H
      obtain ⟨Ao25, co25, eo25⟩ := Kd.R_slice HO_0.out
      subst eo25
      have p459 := eq_true (uO : 0 ≤ (x7_1 : Int))
      have q459 := eq_true (uO : x7_1 < (x0_1.length : Int))
      obtain ⟨ad459, e459, hx459_0⟩ := Kd.at_int (Kd.R_reads' HO_0.out).2.2 x7_1 uO uO
      cases e459
      have p24 : 0 ≤ (x7_1 : Int) := uO
      have q24 : (x7_1 : Int) < ((x0_1.length : Int) : Int) := uO
      obtain ⟨go24, co24, eo24, gb24, gl24, cl24, HG24⟩ := Kd.R_form HO_0.out (by omega)
      (first | cases eo24 | (injection eo24 with ea_ en_ ec_; (first | subst ea_ | (injection ea_ with ea_; subst ea_)); subst ec_; clear en_))
      have GB24 := Aside0.mk gb24; have GG24 := Aside0.mk HG24; clear gb24 gl24 HG24
      have HMgo24 := Aside0.mk (show (P0_ go24 ∨ w.heap.size ≤ go24) from (HO_0.out.1 _ rfl))
      (first | simp only [add_plain] at hx459_0 | skip)
      obtain ⟨hx24_0, hf24_0⟩ := Kd.R_celln 0 HO_0.out (x7_1 : Int) p24 q24
      replace p24 := eq_true p24
      replace q24 := eq_true q24
      have HP26 := Kd.R_putg HO_0.out (x7_1 : Int) (add64_s (rd x0_1 x7_1) 0 x6_1)
      go_wp2_with (first | ((with_reducible refine gate_store (t := 62) (p := 52) rfl ?_); refine store_event (t := 62) (p := 52) (v := ?vo_w27) (w1 := (wc.setCell ⟨go24, (x7_1 : Int).toNat, none⟩ (.int .u64 (add64_s (rd x0_1 x7_1) 0 x6_1)))) ?hg ?ho ?hn ?hr ?_; (case ho => rfl); (case hg => rfl); (case hn => rfl); (case hr => first | (go_simp; done) | (go_simp; rfl) | (obtain ⟨hy_, hz_⟩ := Kd.R_celln 0 HO_0.out (x7_1 : Int) uO uO; (try simp only [Go.IntWalk.toNatUp] at hy_ hz_); (try simp only [Int.reduceToNat, Int.toNat_zero, Int.toNat_ofNat] at hy_ hz_); first | (go_simp; done) | (go_simp; rfl))); intro w27 hw; have hg : wc.grownBy w27 (some go24) := (by rw [hw]; exact HP26.2); have hp_ : Kd.R (Kd.int .u64) 62 w27 w0.heap.size (fun k_ => (P0_ k_ ∨ w.heap.size ≤ k_)) (.slice (some ⟨go24, 0, none⟩) x0_1.length co25) y460 := (by rw [hw, Ny460.out]; exact HP26.1); clear HP26; replace HB := Aside0.mk ((by rw [hw]; exact below_set (HB.out) GB24.out : Below w0.heap.size w0 w27)); replace HK := Aside0.mk (Kept.of_grown (S := (fun k_ => P0_ k_)) hg (by repeat (first | (with_reducible first | exact HK.out | apply Kept.alloc | apply Kept.drewN | apply Kept.drew) | exact HK.out)) (fun k_ e_ => (HO_0.out.1 k_ e_))); replace HO_0 := Aside0.mk (hp_); clear hg hw hp_))
      first | go_roundg kj3 | ((try simp only [← hji12] at H'); simp only [← hji12]; go_roundg kj3)
      case measure => have := HK1.out; have := HJ3.out; omega
      case rel => first | exact ⟨(y460), (add64_c (rd x0_1 x7_1) 0 x6_1), (wrap64 (x7_1 + 1)), uG, uG, H', ⟨by have := HK1.out; have := HJ3.out; omega⟩, ⟨uR HO_0.out⟩, ⟨by repeat (first | (with_reducible first | exact HK.out | apply Kept.alloc | apply Kept.drewN | apply Kept.drew) | exact HK.out)⟩, ⟨uB⟩⟩ | (simp only [← hji12] at H'; exact ⟨(y460), (add64_c (rd x0_1 x7_1) 0 x6_1), (wrap64 (x7_1 + 1)), uG, uG, H', ⟨by have := HK1.out; have := HJ3.out; omega⟩, ⟨uR HO_0.out⟩, ⟨by repeat (first | (with_reducible first | exact HK.out | apply Kept.alloc | apply Kept.drewN | apply Kept.drew) | exact HK.out)⟩, ⟨uB⟩⟩)
     replace c10 := Bool.eq_false_iff.mpr c10
     subst c10
     have H1 : (some x0_1) = some r := by rw [if_neg (show ¬ (false = true) by decide)] at H; exact H
     clear H; have H := H1; clear H1
     obtain rfl := Option.some.inj H
     go_wp2
     first | go_end0 | ((try simp only [Exit.inBlock, Exit.then]); refine bodyPost_ret (results_none rfl _ _ _) rfl ?_)
     exact ⟨uF, uR HO_0.out, uB, by repeat (first | (with_reducible first | exact HK.out | apply Kept.alloc | apply Kept.drewN | apply Kept.drew) | exact HK.out)⟩
end Go.Proofs.Ytnaphgnkhhapoaa.F
end
section
namespace Go.Proofs.Ytnaphgnkhhapoaa.F
open Go.RowKit Go.Proofs.YtnaphgnkhhapoaaW.PrintWords Go.Proofs.YtnaphgnkhhapoaaW.PrintLast Go.Proofs.YtnaphgnkhhapoaaW.PrintMore
set_option linter.unusedVariables false
set_option linter.unusedSimpArgs false
def nat_right.f : List (List Int) → Option Bool
  | [] => some true
  | a :: l => (nat_Right.f a).bind fun b => if b = true then nat_right.f l else some false
def nat_right.ix : List (List Int) → Option Nat
  | [] => some 0
  | a :: l => (nat_Right.f a).bind fun b => if b = true then (nat_right.ix l).map (· + 1) else some 0
theorem nat_right.ix_of {l : List (List Int)} {r : Bool} (h : nat_right.f l = some r) : ∃ k, nat_right.ix l = some k ∧ k ≤ l.length ∧ (r = true ↔ k = l.length) ∧ (∀ j, j < k → nat_Right.f (l.getD j []) = some true) ∧ (k < l.length → nat_Right.f (l.getD k []) = some false) := by
  induction l generalizing r with
  | nil =>
    simp only [nat_right.f, Option.some.injEq] at h
    exact ⟨0, rfl, Nat.le_refl _, by simp [← h], fun j hj => absurd hj (Nat.not_lt_zero _), fun hj => absurd hj (Nat.not_lt_zero _)⟩
  | cons a l ih =>
    simp only [nat_right.f] at h
    cases hb : nat_Right.f a with
    | none => rw [hb] at h; simp at h
    | some b =>
      rw [hb] at h
      simp only [Option.bind_some] at h
      cases b with
      | true =>
        simp only [if_true] at h
        obtain ⟨k, hk, hle, hr, hj, hl⟩ := ih h
        refine ⟨k + 1, by simp [nat_right.ix, hb, hk], by simp; omega, by simp [hr], ?_, ?_⟩
        · intro j hjk
          cases j with
          | zero => simpa using hb
          | succ j => simpa using hj j (by omega)
        · intro hlt
          simpa using hl (by simpa using hlt)
      | false =>
        simp at h
        refine ⟨0, by simp [nat_right.ix, hb], Nat.zero_le _, ?_, fun j hj => absurd hj (Nat.not_lt_zero _), fun _ => by simpa using hb⟩
        simp [← h]
theorem nat_right.closure (A0 : Option Addr) (c0 : Nat) (l0 : List Int) (r : Bool) (w : World) (hr0 : Kd.C (Kd.int .u64) w A0 l0.length l0) (hc0 : l0.length ≤ c0) (h : nat_Right.f l0 = some r) :
    Calls Try.prog 71 #[.slice A0 l0.length c0] w fun e w' => e = .returned (.bool (!r)) ∧ Drawn0 w w' := by
  have hcall := nat_Right.calls A0 c0 l0 r w hr0 hc0 h
  clear hr0 hc0 h
  have HC := Aside0.mk hcall
  clear hcall
  go_enter Try.func71, Try.ntmps71
  go_wp2_with (go_at_call 44; refine HC.out.mono ?_; rintro e w' ⟨rfl, hd⟩)
  go_ret
  exact ⟨rfl, hd⟩
theorem nat_right.index (A0 : Option Addr) (c0 : Nat) (l0 : List (List Int)) (r : Bool) (w : World) (hr0 : Kd.C (Kd.slice 62 (Kd.int .u64)) w A0 l0.length l0) (hc0 : l0.length ≤ c0) (h : nat_right.f l0 = some r) :
    Calls Try.prog 101 #[.slice A0 l0.length c0, .func (.func 71) #[] #[]] w fun e w' => (∃ k : Int, e = .returned (.int .i64 k) ∧ decide (0 ≤ k) = !r) ∧ Drawn0 w w' := by
  have HR0 := Aside0.mk hr0
  obtain ⟨k, hk, hle, hr, hj, hl⟩ := nat_right.ix_of h
  have hbig : l0.length ≤ 9223372036854775807 := hr0.2.1
  have HJ := Aside0.mk hj
  have HL := Aside0.mk hl
  have HRR := Aside0.mk hr
  clear hr0 hc0 hj hl hk h hr
  go_enter Try.func101, Try.ntmps101
  go_wp2
  go_loopg [5, 8] l0.length (fun gg _ s8 wr => ∃ kk : Nat, kk ≤ k ∧ l0.length - kk ≤ gg ∧ s8 = .int .i64 kk ∧ Aside0 (Drawn0 w wr))
  case atStart => exact ⟨0, Nat.zero_le _, by omega, rfl, ⟨Drawn0.refl _⟩⟩
  case round =>
    obtain ⟨kk, hkk, hg, rfl, D⟩ := hrel
    by_cases hlt : kk < l0.length
    · have hltz : (kk : Int) < (l0.length : Int) := by omega
      have hC1 : Kd.C (Kd.slice 62 (Kd.int .u64)) wr A0 l0.length l0 := Kd.C_below HR0.out D.out.below
      have h0k : (0 : Int) ≤ (kk : Int) := Int.natCast_nonneg kk
      obtain ⟨ad, c, hA, _, hK, hc⟩ := Kd.C_get hC1 ([] : List Int) (kk : Int) h0k hltz
      obtain ⟨A1, c1, rfl, hl1, hi1⟩ := hK
      subst hA
      have hcell := hc 0 _ rfl
      rw [Nat.add_zero, show (Kd.slice 62 (Kd.int .u64)).sz = 1 from rfl, Nat.mul_one] at hcell
      simp only [Go.IntWalk.toNatUp] at hcell hl1 hi1
      have HX := HJ.out kk
      have HY := HL.out
      clear hc hC1
      generalize hx : l0.getD kk [] = x at hcell hl1 hi1 HX
      by_cases hlast : kk < k
      · have hcall := Aside0.mk (nat_right.closure A1 c1 x true wr hi1 hl1 (HX hlast))
        have D2 := D
        clear D hi1 HX HY hx
        go_wp2_with (go_at_call 71; refine hcall.out.mono ?_; rintro e w' ⟨rfl, ⟨q, rfl⟩⟩)
        go_roundg (l0.length - (kk + 1))
        case measure => omega
        case rel => exact ⟨kk + 1, by omega, by omega, by go_num, ⟨D2.out.step _⟩⟩
      · have hkk' : kk = k := by omega
        subst hkk'
        have HZ := HY hlt
        rw [hx] at HZ
        have hcall := Aside0.mk (nat_right.closure A1 c1 x false wr hi1 hl1 HZ)
        have hr : r = false := by
          cases r with
          | false => rfl
          | true => have := HRR.out.1 rfl; omega
        have HR := Aside0.mk hr
        have D2 := D
        clear D hi1 HX HY hx HZ hr
        go_wp2_with (go_at_call 71; refine hcall.out.mono ?_; rintro e w' ⟨rfl, ⟨q, rfl⟩⟩)
        go_ret
        exact ⟨⟨_, rfl, by rw [HR.out]; simp⟩, D2.out.step _⟩
    · have hltz : ¬ (kk : Int) < (l0.length : Int) := by omega
      have hr : r = true := HRR.out.2 (by omega)
      have HR := Aside0.mk hr
      clear hr
      go_wp2
      go_ret
      exact ⟨⟨_, rfl, by rw [HR.out]; simp⟩, D.out⟩
theorem nat_right.contains (A0 : Option Addr) (c0 : Nat) (l0 : List (List Int)) (r : Bool) (w : World) (hr0 : Kd.C (Kd.slice 62 (Kd.int .u64)) w A0 l0.length l0) (hc0 : l0.length ≤ c0) (h : nat_right.f l0 = some r) :
    Calls Try.prog 70 #[.slice A0 l0.length c0, .func (.func 71) #[] #[]] w fun e w' => e = .returned (.bool (!r)) ∧ Drawn0 w w' := by
  have hcall := Aside0.mk (nat_right.index A0 c0 l0 r w hr0 hc0 h)
  clear hr0 hc0 h
  go_enter Try.func70, Try.ntmps70
  go_wp2_with (go_at_call 101; refine hcall.out.mono ?_; rintro e w' ⟨⟨k, rfl, hk⟩, hd⟩; have HK := Aside0.mk hk; have HD := Aside0.mk hd; clear hk hd)
  go_ret
  exact ⟨by rw [← HK.out]; rfl, HD.out⟩
theorem nat_right.calls (A0 : Option Addr) (c0 : Nat) (l0 : List (List Int)) (r : Bool) (w : World) (hr0 : Kd.C (Kd.slice 62 (Kd.int .u64)) w A0 l0.length l0) (hc0 : l0.length ≤ c0) (h : nat_right.f l0 = some r) :
    Calls Try.prog 41 #[.slice A0 l0.length c0] w fun e w' => e = .returned (.bool r) ∧ Drawn0 w w' := by
  have hcall := Aside0.mk (nat_right.contains A0 c0 l0 r w hr0 hc0 h)
  clear hr0 hc0 h
  go_enter Try.func41, Try.ntmps41
  go_wp2_with (go_at_call 70; refine hcall.out.mono ?_; rintro e w' ⟨rfl, hd⟩; have HD := Aside0.mk hd; clear hd)
  go_ret
  exact ⟨by cases r <;> rfl, HD.out⟩
end Go.Proofs.Ytnaphgnkhhapoaa.F
end
section
namespace Go.Proofs.Ytnaphgnkhhapoaa.F
open Go.RowKit Go.Proofs.YtnaphgnkhhapoaaW.PrintWords Go.Proofs.YtnaphgnkhhapoaaW.PrintLast Go.Proofs.YtnaphgnkhhapoaaW.PrintMore
attribute [local go_sem] max2_int min2_int max_two min_two max_three min_three max_four min_four
set_option linter.unusedVariables false
set_option linter.unusedSimpArgs false
def nat_Add.f (k : Nat) (l0 : List Int) (l1 : List Int) : Option (List Int × Int) := (nat_right.f (([l0, l1] : List (List Int)))).bind fun t400 => (if t400 = true then ((nat_sum.f k l0 l1).bind fun t401 => ((nat_told.f k t401).bind fun bt404 => (some (bt404.1, bt404.2)))) else (some (([] : List Int), 1)))
theorem nat_Add.calls (k : Nat) (P0_ : Nat → Prop) (A0 : Option Addr) (c0 : Nat) (l0 : List Int) (P1_ : Nat → Prop) (A1 : Option Addr) (c1 : Nat) (l1 : List Int) (r1 : List Int) (r2 : Int) (w : World) (hs0 : Kd.V (Kd.int .u64) 62 w w.heap.size (fun k_ => P0_ k_) (.slice A0 l0.length c0) l0) (hs1 : Kd.V (Kd.int .u64) 62 w w.heap.size (fun k_ => P1_ k_) (.slice A1 l1.length c1) l1) (h : nat_Add.f k l0 l1 = some (r1, r2)) :
  Calls Try.prog 20 #[.slice A0 l0.length c0, .slice A1 l1.length c1] w fun e w' => ∃ v0_ : Value, e = .returned (.tuple #[v0_, .int .i64 r2]) ∧ Kd.R (Kd.int .u64) 62 w' w.heap.size (fun k_ => (w.heap.size ≤ k_)) v0_ r1 ∧ Below w.heap.size w w' := by
 have HO0 := Aside0.mk (show Kd.V (Kd.int .u64) 62 w w.heap.size (fun k_ => ((P0_ k_ ∨ P1_ k_) ∨ w.heap.size ≤ k_)) (.slice A0 l0.length c0) l0 from Kd.V_mono hs0 (fun k_ hk => .inl (.inl hk)))
 have HO1 := Aside0.mk (show Kd.V (Kd.int .u64) 62 w w.heap.size (fun k_ => ((P0_ k_ ∨ P1_ k_) ∨ w.heap.size ≤ k_)) (.slice A1 l1.length c1) l1 from Kd.V_mono hs1 (fun k_ hk => .inl (.inr hk)))
 have HB := Aside0.mk (Below.refl w.heap.size w)
 have H : ((nat_right.f (([l0, l1] : List (List Int)))).bind fun t400 => (if t400 = true then ((nat_sum.f k l0 l1).bind fun t401 => ((nat_told.f k t401).bind fun bt404 => (some (bt404.1, bt404.2)))) else (some (([] : List Int), 1)))) = some (r1, r2) := h
 clear h
 obtain ⟨y397, hy397⟩ : ∃ y_ : List (List Int), y_ = (([l0, l1] : List (List Int))) := ⟨_, rfl⟩
 replace H : ((nat_right.f y397).bind fun t400 => (if t400 = true then ((nat_sum.f k l0 l1).bind fun t401 => ((nat_told.f k t401).bind fun bt404 => (some (bt404.1, bt404.2)))) else (some (([] : List Int), 1)))) = some (r1, r2) := by first | (rw [hy397]; with_reducible exact H) | (have H2_ := (Option.bind_some _ _).symm.trans H; rw [hy397]; with_reducible exact H2_) | (have H2_ := (Option.bind_some _ _).symm.trans H; with_reducible exact H2_) | with_reducible exact H | (rw [hy397]; exact H) | exact H
 have Ny397 := Aside0.mk hy397; clear hy397
 replace H := ub H; obtain ⟨t400, A3, H⟩ := H
 by_cases c4 : t400 = true
 ·
  subst c4
  have H1 : ((nat_sum.f k l0 l1).bind fun t401 => ((nat_told.f k t401).bind fun bt404 => (some (bt404.1, bt404.2)))) = some (r1, r2) := by rw [if_pos rfl] at H; exact H
  clear H; have H := H1; clear H1
  replace H := ub H; obtain ⟨t401, A5, H⟩ := H
  replace H := ub H; obtain ⟨⟨t404, t407⟩, A6, H⟩ := H
  (try dsimp only at H)
  simp only [Option.some.injEq, Prod.mk.injEq] at H
  obtain ⟨rfl, rfl⟩ := H
  go_enter Try.func20, Try.ntmps20
  go_wp2_with (first | ((with_reducible refine gate_dst (N := 8) rfl ?_); refine Kd.N_lit (Kd.slice 62 (Kd.int .u64)) _ 57 ?hg (N' := 8) ?hd (xs := ([l0, l1] : List (List Int))) (inner := [.slice A0 l0.length c0, .slice A1 l1.length c1]) (ok := (fun k_ => ((P0_ k_ ∨ P1_ k_) ∨ w.heap.size ≤ k_))) (okp := (fun k_ => ((P0_ k_ ∨ P1_ k_) ∨ w.heap.size ≤ k_))) ?hr ?hp (fun _ hk => hk) ((show ∀ k_, w.heap.size ≤ k_ → (fun k_ => ((P0_ k_ ∨ P1_ k_) ∨ w.heap.size ≤ k_)) k_ from fun k_ hk => (.inr (Nat.le_trans (below_size uB) hk))) _ (Nat.le_refl _)) (Below.refl _ _) (Nat.le_refl _) (by simp) ?_; (case hd => rfl); (case hg => rfl); (case hr => first | (go_simp; done) | (go_simp; rfl) | (go_simp; simp only [u64_u8]; done) | (go_simp; simp only [u64_u8]; rfl)); (case hp => exact (Reps.one (show Kd.FK (Kd.slice 62 (Kd.int .u64)) _ _ l0 [.slice A0 l0.length c0] from (Kd.FK_slice_mk (Kd.V_reads' (Kd.V_mono (ok' := (fun k_ => ((P0_ k_ ∨ P1_ k_) ∨ w.heap.size ≤ k_))) (HO0.out) (fun k_ hk => hk))).2.1 (Kd.V_F (Kd.V_mono (ok' := (fun k_ => ((P0_ k_ ∨ P1_ k_) ∨ w.heap.size ≤ k_))) (HO0.out) (fun k_ hk => hk))))) (Reps.one (show Kd.FK (Kd.slice 62 (Kd.int .u64)) _ _ l1 [.slice A1 l1.length c1] from (Kd.FK_slice_mk (Kd.V_reads' (Kd.V_mono (ok' := (fun k_ => ((P0_ k_ ∨ P1_ k_) ∨ w.heap.size ≤ k_))) (HO1.out) (fun k_ hk => hk))).2.1 (Kd.V_F (Kd.V_mono (ok' := (fun k_ => ((P0_ k_ ∨ P1_ k_) ∨ w.heap.size ≤ k_))) (HO1.out) (fun k_ hk => hk))))) (Reps.none _ _)))); intro v398 w7 ho8 hb hg_ hnew_; clear hg_ hnew_; (first | rw [← Ny397.out] at ho8 | (simp only [Int.reduceToNat] at ho8; rw [← Ny397.out] at ho8)); replace HO0 := Aside0.mk (Kd.V_elder' (uV HO0.out) (Kd.N_base ho8) hb); replace HO1 := Aside0.mk (Kd.V_elder' (uV HO1.out) (Kd.N_base ho8) hb); have HO399 := Aside0.mk (Kd.N_lower ho8 (below_size uB)); replace HB := uy hb; clear hb ho8; obtain ⟨Ao9, co9, eo9⟩ := Kd.N_slice HO399.out; subst eo9) | ((with_reducible refine ug 41 rfl ?_); refine uh (some 9) rfl Try.func41 #[.slice Ao9 y397.length co9] ?_; (with_reducible refine (nat_right.calls _ _ y397 true _ ?side1 ?side2 A3.out).mono ?_); (case side1 => exact uC (Kd.N_reads' HO399.out).2.2); (case side2 => exact (Kd.N_reads' HO399.out).2.1); rintro e w' ⟨rfl, ⟨nd, rfl⟩⟩; refine ⟨_, rfl, ?_⟩) | ((with_reducible refine ug 43 rfl ?_); refine uh (some 13) rfl Try.func43 #[.slice A0 l0.length c0, .slice A1 l1.length c1] ?_; (with_reducible refine (nat_sum.calls k _ _ l0 _ _ l1 t401 _ ?side1 ?side2 ?side3 ?side4 A5.out).mono ?_); (case side1 => exact uC (Kd.V_reads' HO0.out).2.2); (case side2 => exact (Kd.V_reads' HO0.out).2.1); (case side3 => exact uC (Kd.V_reads' HO1.out).2.2); (case side4 => exact (Kd.V_reads' HO1.out).2.1); rintro e w10 ⟨v402, rfl, ho0, hb⟩; refine ⟨_, rfl, ?_⟩; replace HO0 := ueV HO0 ho0 hb; replace HO1 := ueV HO1 ho0 hb; replace HO399 := ueN HO399 ho0 hb; have HO403 := ulo (Kd.R_newM (M := fun k_ => (w.heap.size ≤ k_)) ho0 (below_size uB) (fun k_ h_ => h_)); replace HB := uy hb; (try clear hb ho0); obtain ⟨Ao11, co11, eo11⟩ := Kd.R_slice HO403.out; subst eo11) | ((with_reducible refine ug 42 rfl ?_); refine uh (some 14) rfl Try.func42 #[.slice Ao11 t401.length co11] ?_; (with_reducible refine (nat_told.calls k (fun k_ => some k_ = (.slice Ao11 t401.length co11 : Value).ownBlock) (.slice Ao11 t401.length co11) t401 t404 t407 w _ ?side1 ?side2 A6.out).mono ?_); (case side1 => repeat (first | (with_reducible first | exact HB.out | apply below_alloc | apply pw_below_drewN | apply below_drew1) | exact HB.out)); (case side2 => exact Kd.R_tight rfl HO403.out); rintro e w12 ⟨v405, rfl, ho0, hb, hkp⟩; refine ⟨_, rfl, ?_⟩; replace HO0 := Aside0.mk (Kd.V_mono (ok' := fun k_ => ((P0_ k_ ∨ P1_ k_) ∨ w.heap.size ≤ k_) ∧ some k_ ≠ (.slice Ao9 y397.length co9 : Value).ownBlock ∧ some k_ ≠ (v405 : Value).ownBlock) (Kd.V_keptB (HO0.out) hkp (fun k_ hk_ hs_ => (hk_.2) hs_)) (fun k_ hk_ => ⟨hk_.1.1.1, hk_.1.1.2, fun e_ => Or.elim (ho0.1 k_ e_.symm) (fun hs_ => hk_.2.1 hs_) (fun hn_ => Nat.not_le.2 hk_.2.2 hn_)⟩)); replace HO1 := Aside0.mk (Kd.V_mono (ok' := fun k_ => ((P0_ k_ ∨ P1_ k_) ∨ w.heap.size ≤ k_) ∧ some k_ ≠ (.slice Ao9 y397.length co9 : Value).ownBlock ∧ some k_ ≠ (v405 : Value).ownBlock) (Kd.V_keptB (HO1.out) hkp (fun k_ hk_ hs_ => (hk_.2) hs_)) (fun k_ hk_ => ⟨hk_.1.1.1, hk_.1.1.2, fun e_ => Or.elim (ho0.1 k_ e_.symm) (fun hs_ => hk_.2.1 hs_) (fun hn_ => Nat.not_le.2 hk_.2.2 hn_)⟩)); replace HO399 := Aside0.mk (Kd.N_mono (ok' := fun k_ => ((P0_ k_ ∨ P1_ k_) ∨ w.heap.size ≤ k_) ∧ some k_ ≠ (v405 : Value).ownBlock) (Kd.N_keptB (HO399.out) hkp (fun k_ hk_ hs_ => (hk_.2) hs_)) (fun k_ hk_ => ⟨hk_.1.1, fun e_ => Or.elim (ho0.1 k_ e_.symm) (fun hs_ => hk_.2.1 hs_) (fun hn_ => Nat.not_le.2 hk_.2.2 hn_)⟩)); have HO406 := Aside0.mk (Kd.R_mono (ok' := fun k_ => (w.heap.size ≤ k_)) ho0 (fun k_ hk_ => Or.elim hk_ (fun hs_ => (HO403.out.1 k_ (hs_).symm).1) (fun hn_ => (Nat.le_trans (below_size uB) hn_)))); replace HB := Aside0.mk (hb); clear HO403; (try clear hb); (try clear hkp); (try clear ho0)))
  go_ret2
  exact ⟨_, uF, uR HO406.out, uB⟩
 replace c4 := Bool.eq_false_iff.mpr c4
 subst c4
 have H1 : (some (([] : List Int), 1)) = some (r1, r2) := by rw [if_neg (show ¬ (false = true) by decide)] at H; exact H
 clear H; have H := H1; clear H1
 simp only [Option.some.injEq, Prod.mk.injEq] at H
 obtain ⟨rfl, rfl⟩ := H
 go_enter Try.func20, Try.ntmps20
 go_wp2_with (first | ((with_reducible refine gate_dst (N := 8) rfl ?_); refine Kd.N_lit (Kd.slice 62 (Kd.int .u64)) _ 57 ?hg (N' := 8) ?hd (xs := ([l0, l1] : List (List Int))) (inner := [.slice A0 l0.length c0, .slice A1 l1.length c1]) (ok := (fun k_ => ((P0_ k_ ∨ P1_ k_) ∨ w.heap.size ≤ k_))) (okp := (fun k_ => ((P0_ k_ ∨ P1_ k_) ∨ w.heap.size ≤ k_))) ?hr ?hp (fun _ hk => hk) ((show ∀ k_, w.heap.size ≤ k_ → (fun k_ => ((P0_ k_ ∨ P1_ k_) ∨ w.heap.size ≤ k_)) k_ from fun k_ hk => (.inr (Nat.le_trans (below_size uB) hk))) _ (Nat.le_refl _)) (Below.refl _ _) (Nat.le_refl _) (by simp) ?_; (case hd => rfl); (case hg => rfl); (case hr => first | (go_simp; done) | (go_simp; rfl) | (go_simp; simp only [u64_u8]; done) | (go_simp; simp only [u64_u8]; rfl)); (case hp => exact (Reps.one (show Kd.FK (Kd.slice 62 (Kd.int .u64)) _ _ l0 [.slice A0 l0.length c0] from (Kd.FK_slice_mk (Kd.V_reads' (Kd.V_mono (ok' := (fun k_ => ((P0_ k_ ∨ P1_ k_) ∨ w.heap.size ≤ k_))) (HO0.out) (fun k_ hk => hk))).2.1 (Kd.V_F (Kd.V_mono (ok' := (fun k_ => ((P0_ k_ ∨ P1_ k_) ∨ w.heap.size ≤ k_))) (HO0.out) (fun k_ hk => hk))))) (Reps.one (show Kd.FK (Kd.slice 62 (Kd.int .u64)) _ _ l1 [.slice A1 l1.length c1] from (Kd.FK_slice_mk (Kd.V_reads' (Kd.V_mono (ok' := (fun k_ => ((P0_ k_ ∨ P1_ k_) ∨ w.heap.size ≤ k_))) (HO1.out) (fun k_ hk => hk))).2.1 (Kd.V_F (Kd.V_mono (ok' := (fun k_ => ((P0_ k_ ∨ P1_ k_) ∨ w.heap.size ≤ k_))) (HO1.out) (fun k_ hk => hk))))) (Reps.none _ _)))); intro v398 w13 ho14 hb hg_ hnew_; clear hg_ hnew_; (first | rw [← Ny397.out] at ho14 | (simp only [Int.reduceToNat] at ho14; rw [← Ny397.out] at ho14)); replace HO0 := Aside0.mk (Kd.V_elder' (uV HO0.out) (Kd.N_base ho14) hb); replace HO1 := Aside0.mk (Kd.V_elder' (uV HO1.out) (Kd.N_base ho14) hb); have HO399 := Aside0.mk (Kd.N_lower ho14 (below_size uB)); replace HB := uy hb; clear hb ho14; obtain ⟨Ao15, co15, eo15⟩ := Kd.N_slice HO399.out; subst eo15) | ((with_reducible refine ug 41 rfl ?_); refine uh (some 9) rfl Try.func41 #[.slice Ao15 y397.length co15] ?_; (with_reducible refine (nat_right.calls _ _ y397 false _ ?side1 ?side2 A3.out).mono ?_); (case side1 => exact uC (Kd.N_reads' HO399.out).2.2); (case side2 => exact (Kd.N_reads' HO399.out).2.1); rintro e w' ⟨rfl, ⟨nd, rfl⟩⟩; refine ⟨_, rfl, ?_⟩))
 go_ret2
 exact ⟨_, uF, uI, uB⟩
end Go.Proofs.Ytnaphgnkhhapoaa.F
end
section
namespace Go.Proofs.Ytnaphgnkhhapoaa.Z
open Go.RowKit Go.Proofs.YtnaphgnkhhapoaaW.PrintWords
set_option linter.unusedSimpArgs false
set_option linter.unusedVariables false
def Evt {α : Type} (g : Nat → Option α) (r : α) : Prop := ∃ n, ∀ k, n ≤ k → g k = some r
theorem Evt.of {α : Type} {g : Nat → Option α} {r : α} (h : ∀ k, g k = some r) : Evt g r := ⟨0, fun k _ => h k⟩
theorem Evt.pure {α : Type} (r : α) : Evt (fun _ => some r) r := ⟨0, fun _ _ => rfl⟩
theorem Evt.bind {α β : Type} {g : Nat → Option α} {h : α → Nat → Option β} {a : α} {b : β} (h1 : Evt g a) (h2 : Evt (h a) b) : Evt (fun k => (g k).bind fun x => h x k) b := by
  obtain ⟨n, hn⟩ := h1
  obtain ⟨m, hm⟩ := h2
  exact ⟨n + m, fun k hk => by simp only [hn k (by omega), Option.bind_some]; exact hm k (by omega)⟩
theorem Evt.succ {α : Type} {g : Nat → Option α} {r : α} (h : Evt (fun k => g (k + 1)) r) : Evt g r := by
  obtain ⟨n, hn⟩ := h
  refine ⟨n + 1, fun k hk => ?_⟩
  obtain ⟨m, rfl⟩ : ∃ m, k = m + 1 := ⟨k - 1, by omega⟩
  exact hn m (by omega)
theorem Evt.get {α : Type} {g : Nat → Option α} {r : α} (h : Evt g r) : ∃ k, g k = some r := by
  obtain ⟨n, hn⟩ := h
  exact ⟨n, hn n (Nat.le_refl _)⟩
theorem Evt.congr {α : Type} {g g' : Nat → Option α} {r r' : α} (h : Evt g r) (hg : ∀ k, g' k = g k) (hr : r = r') : Evt g' r' := by
  subst hr
  obtain ⟨n, hn⟩ := h
  exact ⟨n, fun k hk => (hg k).trans (hn k hk)⟩
theorem Evt.ite_pos {α : Type} {c : Prop} [Decidable c] {g h : Nat → Option α} {r : α} (hc : c) (hg : Evt g r) : Evt (fun k => if c then g k else h k) r := by
  obtain ⟨n, hn⟩ := hg
  exact ⟨n, fun k hk => (if_pos hc).trans (hn k hk)⟩
theorem Evt.ite_neg {α : Type} {c : Prop} [Decidable c] {g h : Nat → Option α} {r : α} (hc : ¬ c) (hg : Evt h r) : Evt (fun k => if c then g k else h k) r := by
  obtain ⟨n, hn⟩ := hg
  exact ⟨n, fun k hk => (if_neg hc).trans (hn k hk)⟩
theorem Evt.cond {α : Type} {c : Prop} [Decidable c] {g h : Nat → Option α} {r s : α} (hg : c → Evt g r) (hh : ¬ c → Evt h s) : Evt (fun k => if c then g k else h k) (if c then r else s) := by
  by_cases hc : c
  · rw [if_pos hc]; exact Evt.ite_pos hc (hg hc)
  · rw [if_neg hc]; exact Evt.ite_neg hc (hh hc)
theorem Evt.cond' {α : Type} {c : Prop} [Decidable c] {g h : Nat → Option α} {r : α} (hg : c → Evt g r) (hh : ¬ c → Evt h r) : Evt (fun k => if c then g k else h k) r := by
  by_cases hc : c
  · exact Evt.ite_pos hc (hg hc)
  · exact Evt.ite_neg hc (hh hc)
theorem w64 {x : Int} (h0 : -9223372036854775808 ≤ x) (h1 : x < 9223372036854775808) : wrap64 x = x := by unfold wrap64; omega
theorem wu64 (x : Int) : IntKind.u64.wrap x = x % 18446744073709551616 := by simp [IntKind.wrap, IntKind.bits, IntKind.signed]
theorem wu64_of {x : Int} (h0 : 0 ≤ x) (h1 : x < 18446744073709551616) : IntKind.u64.wrap x = x := by rw [wu64]; omega
theorem wf_u64 {x : Int} (h : (Lit.int .u64 x).wf = true) : 0 ≤ x ∧ x < 18446744073709551616 := by
  simp [Lit.wf, IntKind.min, IntKind.max, IntKind.bits, IntKind.signed] at h
  omega
theorem rd_getD (l : List Int) (i : Int) : rd l i = l.getD i.toNat 0 := rfl
theorem rd_nat (l : List Int) (i : Nat) : rd l (i : Int) = l.getD i 0 := rfl
def val (B : Int) : List Int → Int
  | [] => 0
  | d :: l => d + B * val B l
def Dig (B : Int) (l : List Int) : Prop := ∀ x, x ∈ l → 0 ≤ x ∧ x < B
def Can (l : List Int) : Prop := ∀ h : l ≠ [], l.getLast h ≠ 0
def strip : List Int → List Int
  | [] => []
  | d :: l => if strip l = [] then (if d = 0 then [] else [d]) else d :: strip l
theorem Dig.nil {B : Int} : Dig B [] := fun _ h => by simp at h
theorem Dig.cons {B d : Int} {l : List Int} : Dig B (d :: l) ↔ (0 ≤ d ∧ d < B) ∧ Dig B l := by
  unfold Dig
  simp
theorem Dig.append {B : Int} {l m : List Int} : Dig B (l ++ m) ↔ Dig B l ∧ Dig B m := by
  unfold Dig
  constructor
  · intro h
    exact ⟨fun x hx => h x (by simp [hx]), fun x hx => h x (by simp [hx])⟩
  · intro h x hx
    rcases List.mem_append.1 hx with hx | hx
    · exact h.1 x hx
    · exact h.2 x hx
theorem Dig.take {B : Int} {l : List Int} (h : Dig B l) (n : Nat) : Dig B (l.take n) := fun x hx => h x (List.mem_of_mem_take hx)
theorem Dig.drop {B : Int} {l : List Int} (h : Dig B l) (n : Nat) : Dig B (l.drop n) := fun x hx => h x (List.mem_of_mem_drop hx)
theorem Dig.getD {B : Int} {l : List Int} (h : Dig B l) (hB : 0 < B) (i : Nat) : 0 ≤ l.getD i 0 ∧ l.getD i 0 < B := by
  rw [List.getD_eq_getElem?_getD]
  cases he : l[i]? with
  | none => simp; omega
  | some x => simpa using h x (List.mem_of_getElem? he)
theorem Dig.set {B : Int} {l : List Int} (h : Dig B l) (i : Nat) {v : Int} (hv : 0 ≤ v ∧ v < B) : Dig B (l.set i v) := by
  intro x hx
  rcases List.mem_or_eq_of_mem_set hx with hx | rfl
  · exact h x hx
  · exact hv
theorem Dig.replicate {B : Int} (hB : 0 < B) (n : Nat) : Dig B (List.replicate n 0) := by
  intro x hx
  have := List.eq_of_mem_replicate hx
  omega
theorem val_append (B : Int) (l m : List Int) : val B (l ++ m) = val B l + B ^ l.length * val B m := by
  induction l with
  | nil => simp [val]
  | cons d l ih => simp only [List.cons_append, val, ih, List.length_cons, Int.pow_succ]; grind
theorem val_replicate (B : Int) (n : Nat) : val B (List.replicate n 0) = 0 := by
  induction n with
  | zero => rfl
  | succ n ih => simp [List.replicate_succ, val, ih]
theorem val_nonneg {B : Int} (hB : 0 < B) {l : List Int} (h : Dig B l) : 0 ≤ val B l := by
  induction l with
  | nil => simp [val]
  | cons d l ih =>
    have h' := Dig.cons.1 h
    have h1 := ih h'.2
    have : 0 ≤ B * val B l := Int.mul_nonneg (by omega) h1
    simp only [val]
    omega
theorem val_lt {B : Int} (hB : 0 < B) {l : List Int} (h : Dig B l) : val B l < B ^ l.length := by
  induction l with
  | nil => simp [val]
  | cons d l ih =>
    have h' := Dig.cons.1 h
    have h1 := ih h'.2
    have h2 : B * val B l ≤ B * (B ^ l.length - 1) := Int.mul_le_mul_of_nonneg_left (by omega) (by omega)
    have h3 : B * (B ^ l.length - 1) = B * B ^ l.length - B := by grind
    simp only [val, List.length_cons, Int.pow_succ]
    have h4 : B ^ l.length * B = B * B ^ l.length := Int.mul_comm _ _
    omega
theorem Can.nil : Can [] := fun h => absurd rfl h
theorem Can.tail {d : Int} {l : List Int} (h : Can (d :: l)) : Can l := by
  intro hl
  have := h (by simp)
  rwa [List.getLast_cons hl] at this
theorem Can.one {d : Int} (h : d ≠ 0) : Can [d] := fun _ => by simpa using h
theorem Can.cons {d : Int} {l : List Int} (h : Can l) (hl : l ≠ []) : Can (d :: l) := by
  intro _
  rw [List.getLast_cons hl]
  exact h hl
theorem val_pos {B : Int} (hB : 0 < B) {l : List Int} (h : Dig B l) (hc : Can l) (hl : l ≠ []) : B ^ (l.length - 1) ≤ val B l := by
  induction l with
  | nil => exact absurd rfl hl
  | cons d l ih =>
    have h' := Dig.cons.1 h
    by_cases e : l = []
    · subst e
      have := hc (by simp)
      simp [val] at this ⊢
      omega
    · have h1 := ih h'.2 hc.tail e
      have h2 : l.length - 1 + 1 = l.length := by have := List.length_pos_iff.2 e; omega
      simp only [val, List.length_cons, Nat.add_sub_cancel]
      rw [← h2, Int.pow_succ, Int.mul_comm]
      have : B * B ^ (l.length - 1) ≤ B * val B l := Int.mul_le_mul_of_nonneg_left h1 (by omega)
      omega
theorem val_zero {B : Int} (hB : 0 < B) {l : List Int} (h : Dig B l) (hc : Can l) (h0 : val B l = 0) : l = [] := by
  by_cases e : l = []
  · exact e
  · have := val_pos hB h hc e
    have h2 : 0 < B ^ (l.length - 1) := Int.pow_pos hB
    omega
theorem val_inj {B : Int} (hB : 0 < B) {l m : List Int} (hl : Dig B l) (hm : Dig B m) (cl : Can l) (cm : Can m) (h : val B l = val B m) : l = m := by
  induction l generalizing m with
  | nil => exact (val_zero hB hm cm h.symm).symm
  | cons d l ih =>
    cases m with
    | nil => exact val_zero hB hl cl h
    | cons e m =>
      have h1 := Dig.cons.1 hl
      have h2 := Dig.cons.1 hm
      simp only [val] at h
      have h3 : d = e := by
        have a1 : (d + B * val B l) % B = d := by rw [Int.add_mul_emod_self_left]; exact Int.emod_eq_of_lt h1.1.1 h1.1.2
        have a2 : (e + B * val B m) % B = e := by rw [Int.add_mul_emod_self_left]; exact Int.emod_eq_of_lt h2.1.1 h2.1.2
        rw [← a1, ← a2, h]
      subst h3
      have h4 : val B l = val B m := by
        have : B * val B l = B * val B m := by omega
        exact Int.eq_of_mul_eq_mul_left (by omega) this
      rw [ih h1.2 h2.2 cl.tail cm.tail h4]
theorem strip_val (B : Int) (l : List Int) : val B (strip l) = val B l := by
  induction l with
  | nil => rfl
  | cons d l ih =>
    simp only [strip]
    split
    · rename_i h
      rw [h] at ih
      simp only [val] at ih
      split
      · rename_i h0; simp [val, ← ih, h0]
      · simp [val, ← ih]
    · simp [val, ih]
theorem strip_can (l : List Int) : Can (strip l) := by
  induction l with
  | nil => exact Can.nil
  | cons d l ih =>
    simp only [strip]
    split
    · split
      · exact Can.nil
      · rename_i h; exact Can.one h
    · rename_i h; exact ih.cons h
theorem strip_dig {B : Int} {l : List Int} (h : Dig B l) : Dig B (strip l) := by
  induction l with
  | nil => exact Dig.nil
  | cons d l ih =>
    have h' := Dig.cons.1 h
    simp only [strip]
    split
    · split
      · exact Dig.nil
      · exact Dig.cons.2 ⟨h'.1, Dig.nil⟩
    · exact Dig.cons.2 ⟨h'.1, ih h'.2⟩
theorem strip_length (l : List Int) : (strip l).length ≤ l.length := by
  induction l with
  | nil => simp [strip]
  | cons d l ih =>
    simp only [strip]
    split
    · split <;> simp
    · simp; omega
theorem strip_of_can {l : List Int} (h : Can l) : strip l = l := by
  induction l with
  | nil => rfl
  | cons d l ih =>
    simp only [strip]
    rw [ih h.tail]
    split
    · rename_i e
      subst e
      have := h (by simp)
      simp at this
      simp [this]
    · rfl
theorem strip_snoc_zero (l : List Int) : strip (l ++ [0]) = strip l := by
  induction l with
  | nil => simp [strip]
  | cons d l ih => simp only [List.cons_append, strip, ih]
theorem strip_snoc {l : List Int} {d : Int} (h : d ≠ 0) : strip (l ++ [d]) = l ++ [d] := by
  apply strip_of_can
  intro hl
  simpa using h
theorem pow_mono {B : Int} (hB : 0 < B) {m n : Nat} (h : m ≤ n) : B ^ m ≤ B ^ n := by
  induction n with
  | zero => have : m = 0 := by omega
            subst this
            exact Int.le_refl _
  | succ n ih =>
    by_cases e : m = n + 1
    · subst e
      exact Int.le_refl _
    · have h1 := ih (by omega)
      have h2 : 0 < B ^ n := Int.pow_pos hB
      have h3 : 1 * B ^ n ≤ B * B ^ n := Int.mul_le_mul_of_nonneg_right (by omega) (by omega)
      rw [Int.pow_succ, Int.mul_comm]
      omega
theorem val_lt_of_length {B : Int} (hB : 0 < B) {l m : List Int} (hl : Dig B l) (hm : Dig B m) (cm : Can m) (h : l.length < m.length) : val B l < val B m := by
  have h1 := val_lt hB hl
  have h2 := val_pos hB hm cm (by intro e; subst e; simp at h)
  have h3 : B ^ l.length ≤ B ^ (m.length - 1) := pow_mono hB (by omega)
  omega
def rightB (l : List Int) : Bool := decide (l.length ≤ 64) && ((l.length == 0) || (l.getD (l.length - 1) 0 != 0))
theorem can_iff (l : List Int) : Can l ↔ ((l.length == 0) || (l.getD (l.length - 1) 0 != 0)) = true := by
  cases l with
  | nil => simp [Can]
  | cons d l =>
    have h : (d :: l).getLast (by simp) = (d :: l).getD ((d :: l).length - 1) 0 := by
      rw [List.getLast_eq_getElem]
      simp
    unfold Can
    simp only [List.length_cons, Nat.add_one_ne_zero, beq_iff_eq, Bool.or_eq_true, bne_iff_ne, false_or]
    constructor
    · intro hc
      have := hc (by simp)
      rw [h] at this
      exact this
    · intro hc _
      rw [h]
      exact hc
theorem rightB_iff (l : List Int) : rightB l = true ↔ l.length ≤ 64 ∧ Can l := by
  unfold rightB
  rw [Bool.and_eq_true, decide_eq_true_iff, ← can_iff]
def toD (B : Nat) (v : Nat) : List Int := if h : 2 ≤ B ∧ 0 < v then ((v % B : Nat) : Int) :: toD B (v / B) else []
termination_by v
decreasing_by exact Nat.div_lt_self h.2 (by omega)
theorem toD_zero (B : Nat) : toD B 0 = [] := by rw [toD]; simp
theorem toD_pos {B v : Nat} (hB : 2 ≤ B) (hv : 0 < v) : toD B v = ((v % B : Nat) : Int) :: toD B (v / B) := by rw [toD]; simp [hB, hv]
theorem toD_dig {B : Nat} (hB : 2 ≤ B) (v : Nat) : Dig (B : Int) (toD B v) := by
  induction v using Nat.strongRecOn with
  | _ v ih =>
    by_cases hv : v = 0
    · subst hv; rw [toD_zero]; exact Dig.nil
    · rw [toD_pos hB (by omega)]
      have := Nat.mod_lt v (show B > 0 by omega)
      exact Dig.cons.2 ⟨by omega, ih _ (Nat.div_lt_self (by omega) (by omega))⟩
theorem toD_eq_nil {B v : Nat} (hB : 2 ≤ B) : toD B v = [] ↔ v = 0 := by
  constructor
  · intro h
    by_cases hv : v = 0
    · exact hv
    · rw [toD_pos hB (by omega)] at h; cases h
  · rintro rfl; exact toD_zero B
theorem toD_can {B : Nat} (hB : 2 ≤ B) (v : Nat) : Can (toD B v) := by
  induction v using Nat.strongRecOn with
  | _ v ih =>
    by_cases hv : v = 0
    · subst hv; rw [toD_zero]; exact Can.nil
    · rw [toD_pos hB (by omega)]
      by_cases hq : v / B = 0
      · rw [hq, toD_zero]
        have hlt : v < B := (Nat.div_eq_zero_iff_lt (by omega)).1 hq
        rw [Nat.mod_eq_of_lt hlt]
        exact Can.one (by omega)
      · exact (ih _ (Nat.div_lt_self (by omega) (by omega))).cons (fun e => hq ((toD_eq_nil hB).1 e))
theorem val_toD {B : Nat} (hB : 2 ≤ B) (v : Nat) : val (B : Int) (toD B v) = (v : Int) := by
  induction v using Nat.strongRecOn with
  | _ v ih =>
    by_cases hv : v = 0
    · subst hv; rw [toD_zero]; rfl
    · rw [toD_pos hB (by omega)]
      simp only [val]
      rw [ih _ (Nat.div_lt_self (by omega) (by omega))]
      have h2 := Nat.mod_add_div v B
      have h3 : ((v % B + B * (v / B) : Nat) : Int) = (v : Int) := by rw [h2]
      simpa using h3
theorem strip_toD {B : Nat} (hB : 2 ≤ B) {l : List Int} (h : Dig (B : Int) l) : strip l = toD B (val (B : Int) l).toNat := by
  have h0 : (0 : Int) < (B : Int) := by omega
  refine val_inj h0 (strip_dig h) (toD_dig hB _) (strip_can l) (toD_can hB _) ?_
  rw [strip_val, val_toD hB]
  have := val_nonneg h0 h
  omega
theorem can_toD {B : Nat} (hB : 2 ≤ B) {l : List Int} (h : Dig (B : Int) l) (hc : Can l) : l = toD B (val (B : Int) l).toNat := by
  rw [← strip_toD hB h, strip_of_can hc]
theorem pow_cast (B n : Nat) : ((B : Int)) ^ n = ((B ^ n : Nat) : Int) := by simp
theorem toD_len_le {B : Nat} (hB : 2 ≤ B) {v n : Nat} (h : v < B ^ n) : (toD B v).length ≤ n := by
  by_cases hv : v = 0
  · subst hv; rw [toD_zero]; simp
  · have h1 := val_pos (show (0 : Int) < (B : Int) by omega) (toD_dig hB v) (toD_can hB v) (fun e => hv ((toD_eq_nil hB).1 e))
    rw [val_toD hB, pow_cast] at h1
    have h2 : B ^ ((toD B v).length - 1) ≤ v := by omega
    have h3 : B ^ ((toD B v).length - 1) < B ^ n := by omega
    have h4 := (Nat.pow_lt_pow_iff_right (show 1 < B by omega)).1 h3
    omega
theorem toD_lt_pow {B : Nat} (hB : 2 ≤ B) (v : Nat) : v < B ^ (toD B v).length := by
  have h1 := val_lt (show (0 : Int) < (B : Int) by omega) (toD_dig hB v)
  rw [val_toD hB, pow_cast] at h1
  omega
theorem toD_len_iff {B : Nat} (hB : 2 ≤ B) (v n : Nat) : (toD B v).length ≤ n ↔ v < B ^ n :=
  ⟨fun h => Nat.lt_of_lt_of_le (toD_lt_pow hB v) (Nat.pow_le_pow_right (by omega) h), toD_len_le hB⟩
def b64 : Nat := 18446744073709551616
theorem b64_two : 2 ≤ b64 := by decide
def num (l : List Int) : Nat := (val (b64 : Int) l).toNat
abbrev limbs (v : Nat) : List Int := toD b64 v
theorem b64_pos : (0 : Int) < (b64 : Int) := by decide
theorem num_val {l : List Int} (h : Dig (b64 : Int) l) : (num l : Int) = val (b64 : Int) l := by
  have := val_nonneg b64_pos h
  unfold num; omega
theorem num_limbs (v : Nat) : num (limbs v) = v := by unfold num limbs; rw [val_toD b64_two]; omega
theorem limbs_num {l : List Int} (h : Dig (b64 : Int) l) (hc : Can l) : limbs (num l) = l := (can_toD b64_two h hc).symm
theorem strip_limbs {l : List Int} (h : Dig (b64 : Int) l) : strip l = limbs (num l) := strip_toD b64_two h
theorem dig_of_wf {l : List Int} (h : ∀ x ∈ l, (Lit.int .u64 x).wf = true) : Dig (b64 : Int) l := fun x hx => wf_u64 (h x hx)
theorem num_lt {l : List Int} (h : Dig (b64 : Int) l) : num l < b64 ^ l.length := by
  have h1 := val_lt b64_pos h
  rw [← num_val h, pow_cast] at h1
  omega
theorem num_nil : num [] = 0 := rfl
theorem num_one {x : Int} (h : 0 ≤ x) : num [x] = x.toNat := by simp [num, val]
theorem b64_pow2 (m : Nat) : b64 ^ m = 2 ^ (64 * m) := by
  have h : b64 = 2 ^ 64 := by decide
  rw [h, ← Nat.pow_mul]
theorem b64_le_pow2 {n m : Nat} (h : 64 * m ≤ n) : b64 ^ m ≤ 2 ^ n := by
  rw [b64_pow2]
  exact Nat.pow_le_pow_right (by decide) h
theorem num_lt_p {a : List Int} (da : Dig (b64 : Int) a) (ha : a.length ≤ 64) : num a < b64 ^ 64 := Nat.lt_of_lt_of_le (num_lt da) (Nat.pow_le_pow_right (show b64 > 0 by decide) ha)
def cmpN (x y : Nat) : Int := if x < y then -1 else if x = y then 0 else 1
def toldV (v : Nat) : List Int × Int := if v < b64 ^ 64 then (limbs v, 0) else ([], 4)
theorem limbs_long (v : Nat) : (limbs v).length ≤ 64 ↔ v < b64 ^ 64 := toD_len_iff b64_two v 64
def bl (n : Nat) : Nat := if n = 0 then 0 else n.log2 + 1
theorem bl_lt (n : Nat) : n < 2 ^ bl n := by
  unfold bl
  by_cases h : n = 0
  · subst h; decide
  · rw [if_neg h]; exact Nat.lt_log2_self
theorem bl_ge {n : Nat} (h : n ≠ 0) : 2 ^ (bl n - 1) ≤ n := by
  unfold bl
  rw [if_neg h, Nat.add_sub_cancel]
  exact Nat.log2_self_le h
theorem bl_pos {n : Nat} (h : n ≠ 0) : 0 < bl n := by unfold bl; rw [if_neg h]; omega
theorem bl_unique {n m : Nat} (h1 : n < 2 ^ m) (h2 : m = 0 ∨ 2 ^ (m - 1) ≤ n) : bl n = m := by
  by_cases h : n = 0
  · subst h
    rcases h2 with h2 | h2
    · rw [h2]; rfl
    · have := Nat.pow_pos (a := 2) (n := m - 1) (by decide)
      omega
  · have a1 := bl_lt n
    have a2 := bl_ge h
    have a3 := bl_pos h
    have hm : 0 < m := by
      by_cases e : m = 0
      · subst e; simp at h1; omega
      · omega
    have b1 : bl n - 1 < m := (Nat.pow_lt_pow_iff_right (a := 2) (by decide)).1 (by omega)
    have b2 : m - 1 < bl n := by
      rcases h2 with h2 | h2
      · omega
      · exact (Nat.pow_lt_pow_iff_right (a := 2) (by decide)).1 (by omega)
    omega
theorem bl_shift (n s : Nat) (h : n / 2 ^ s ≠ 0) : bl n = s + bl (n / 2 ^ s) := by
  have a1 := bl_lt (n / 2 ^ s)
  have a2 := bl_ge h
  have a3 := bl_pos h
  have hp : 0 < 2 ^ s := Nat.pow_pos (by decide)
  refine bl_unique ?_ (Or.inr ?_)
  · rw [Nat.pow_add]
    have := Nat.lt_mul_of_div_lt a1 hp
    rw [Nat.mul_comm]
    exact this
  · rw [show s + bl (n / 2 ^ s) - 1 = s + (bl (n / 2 ^ s) - 1) from by omega, Nat.pow_add]
    have := Nat.mul_le_mul_left (2 ^ s) a2
    exact Nat.le_trans this (Nat.mul_div_le n (2 ^ s))
theorem bl_le {x m : Nat} (h : x < 2 ^ m) : bl x ≤ m := by
  by_cases hx : x = 0
  · subst hx; exact Nat.zero_le _
  · have a2 := bl_ge hx
    have a3 := bl_pos hx
    have : bl x - 1 < m := (Nat.pow_lt_pow_iff_right (a := 2) (by decide)).1 (by omega)
    omega
theorem bl_le8 {x : Nat} (h : x < 256) : bl x ≤ 8 := bl_le h
end Go.Proofs.Ytnaphgnkhhapoaa.Z
end
section
namespace Go.Proofs.Ytnaphgnkhhapoaa.F
open Go.RowKit Go.Proofs.YtnaphgnkhhapoaaW.PrintWords Go.Proofs.YtnaphgnkhhapoaaW.PrintLast Go.Proofs.YtnaphgnkhhapoaaW.PrintMore
attribute [local go_sem] max2_int min2_int max_two min_two max_three min_three max_four min_four
set_option linter.unusedVariables false
set_option linter.unusedSimpArgs false
open Go.Proofs.Ytnaphgnkhhapoaa.Z (strip)
theorem strip_take (l : List Int) : ∃ k : Nat, k ≤ l.length ∧ strip l = l.take k ∧ (∀ j, k ≤ j → j < l.length → l.getD j 0 = 0) ∧ (0 < k → l.getD (k - 1) 0 ≠ 0) := by
  induction l with
  | nil => exact ⟨0, Nat.le_refl _, rfl, fun j _ hj => absurd hj (Nat.not_lt_zero _), fun h => absurd h (Nat.lt_irrefl _)⟩
  | cons d l ih =>
    obtain ⟨k, h1, h2, h3, h4⟩ := ih
    by_cases hk : k = 0
    · subst hk
      have hs : strip l = [] := by rw [h2]; rfl
      by_cases hd : d = 0
      · refine ⟨0, Nat.zero_le _, ?_, fun j _ hj => ?_, fun h => absurd h (Nat.lt_irrefl _)⟩
        · simp [strip, hs, hd]
        · cases j with
          | zero => simpa using hd
          | succ j => simpa using h3 j (Nat.zero_le _) (by simpa using hj)
      · refine ⟨1, by simp, ?_, fun j hj1 hj => ?_, fun _ => by simpa using hd⟩
        · simp [strip, hs, hd]
        · cases j with
          | zero => omega
          | succ j => simpa using h3 j (Nat.zero_le _) (by simpa using hj)
    · have hne : strip l ≠ [] := by
        rw [h2]
        intro e
        have := congrArg List.length e
        rw [List.length_take, List.length_nil] at this
        omega
      refine ⟨k + 1, by simp; omega, ?_, fun j hj1 hj => ?_, fun _ => ?_⟩
      · rw [List.take_succ_cons, ← h2]
        simp [strip, hne]
      · cases j with
        | zero => omega
        | succ j => simpa using h3 j (by omega) (by simpa using hj)
      · have := h4 (by omega)
        rw [show k + 1 - 1 = (k - 1) + 1 from by omega]
        simpa using this
theorem nat_trimC.calls (A0 : Option Addr) (c0 : Nat) (l0 : List Int) (w : World) (hr0 : Kd.C (Kd.int .u64) w A0 l0.length l0) (hc0 : l0.length ≤ c0) :
    Calls Try.prog 72 #[.slice A0 l0.length c0] w fun e w' => e = .returned (.slice A0 (strip l0).length c0) ∧ Drawn0 w w' := by
  have HR0 := Aside0.mk hr0
  obtain ⟨k, hk, hs, hz, hn⟩ := strip_take l0
  have hlen : (strip l0).length = k := by rw [hs, List.length_take]; omega
  rw [hlen]
  have hbig : l0.length ≤ 9223372036854775807 := hr0.2.1
  have HZ := Aside0.mk hz
  have HN := Aside0.mk hn
  have HC0 := Aside0.mk hc0
  clear hr0 hz hn hs hlen
  obtain ⟨i0, hi0, _, hsz, _⟩ := info_parts info62
  have hcut := fun W => cut_to (P := Try.prog) 57 62 .i64 Try.underlying57 hi0 A0 l0.length c0 (k : Int) (Int.natCast_nonneg k) (by omega) HC0.out W
  rw [Int.toNat_natCast] at hcut
  have HCUT := Aside0.mk hcut
  clear hcut hi0 hsz
  go_enter Try.func72, Try.ntmps72
  go_wp2
  go_loopg [3] l0.length (fun gg s3 wr => ∃ n : Nat, k ≤ n ∧ n ≤ l0.length ∧ n - k ≤ gg ∧ s3 = .int .i64 (n : Int) ∧ Aside0 (Drawn0 w wr))
  case atStart => exact ⟨l0.length, hk, Nat.le_refl _, by omega, rfl, ⟨Drawn0.refl _⟩⟩
  case round =>
    obtain ⟨n, hkn, hnl, hg, rfl, D⟩ := hrel
    by_cases hn0 : n = 0
    · subst hn0
      obtain rfl : k = 0 := by omega
      have hcut2 := HCUT.out
      go_wp2
      go_ret
      exact ⟨rfl, D.out⟩
    · obtain ⟨m, rfl⟩ : ∃ m, n = m + 1 := ⟨n - 1, by omega⟩
      have hpos : decide ((0 : Int) < ((m + 1 : Nat) : Int)) = true := decide_eq_true (by omega)
      have e1 : ((m + 1 : Nat) : Int) - 1 = (m : Int) := by omega
      have hC1 : Kd.C (Kd.int .u64) wr A0 l0.length l0 := Kd.C_below HR0.out D.out.below
      obtain ⟨ad, hA, hcell⟩ := Kd.at_int hC1 (m : Int) (Int.natCast_nonneg m) (by omega)
      subst hA
      simp only [Go.IntWalk.toNatUp] at hcell
      have HX := HZ.out m
      have HY := HN.out
      clear hC1
      rw [show rd l0 (m : Int) = l0.getD m 0 from rfl] at hcell
      generalize hx : l0.getD m 0 = x at hcell HX
      have D2 := D
      have hcut2 := HCUT.out
      by_cases hlast : k ≤ m
      · have hx0 : (x == 0) = true := by rw [HX hlast (by omega)]; rfl
        clear D HX HY hx hcut2
        go_wp2
        go_roundg (m - k)
        case measure => omega
        case rel => exact ⟨m, hlast, by omega, by omega, rfl, D2⟩
      · obtain rfl : k = m + 1 := by omega
        have hx0 : (x == 0) = false := by
          have := HY (by omega)
          rw [Nat.add_sub_cancel, hx] at this
          simpa using this
        clear D HX HY hx
        go_wp2
        go_ret
        exact ⟨rfl, D2.out⟩
theorem nat_low.calls (A0 : Option Addr) (c0 : Nat) (l0 : List Int) (gn n : Nat) (w : World) (hr0 : Kd.C (Kd.int .u64) w A0 l0.length l0) (hc0 : l0.length ≤ c0) (hg : w.heap[gn]? = some (.cells #[.int .i64 (n : Int)] 3 (0, 0))) :
    Calls Try.prog 76 #[.slice A0 l0.length c0, .pointer (some ⟨gn, 0, none⟩)] w fun e w' => e = .returned (.slice A0 (strip (l0.take n)).length c0) ∧ Drawn0 w w' := by
  have HR0 := Aside0.mk hr0
  have HC0 := Aside0.mk hc0
  have hcell := (blk_cell hg 0).trans rfl
  obtain ⟨i0, hi0, _, hsz, _⟩ := info_parts info62
  obtain ⟨m, hm⟩ : ∃ m : Nat, m = min n l0.length := ⟨_, rfl⟩
  have hml : m ≤ l0.length := by omega
  have htk : l0.take n = l0.take m := by
    rcases Nat.le_total n l0.length with h | h
    · rw [show m = n from by omega]
    · rw [show m = l0.length from by omega, List.take_of_length_le h, List.take_length]
  rw [htk]
  have hcut := fun W => cut_to (P := Try.prog) 57 62 .i64 Try.underlying57 hi0 A0 l0.length c0 (m : Int) (Int.natCast_nonneg m) (by omega) W
  rw [Int.toNat_natCast] at hcut
  have hC1 : Kd.C (Kd.int .u64) w A0 (l0.take m).length (l0.take m) := Kd.C_take hr0 hml
  have hl1 : (l0.take m).length = m := by rw [List.length_take]; omega
  have HT := Aside0.mk (nat_trimC.calls A0 c0 (l0.take m) w hC1 (by omega))
  rw [hl1] at HT
  have HCUT := Aside0.mk hcut
  have HM := Aside0.mk hm
  have HML := Aside0.mk hml
  clear hr0 hc0 hg hi0 hsz hcut hC1 hl1 hm htk hml
  by_cases hlt : (l0.length : Int) < (n : Int)
  · have h1 : decide ((l0.length : Int) < (n : Int)) = true := decide_eq_true hlt
    have h1N : (l0.length < n) = True := eq_true (by omega)
    obtain rfl : m = l0.length := by have := HM.out; omega
    rw [List.take_length] at HT ⊢
    have hcut2 := HCUT.out
    have hq1 := eq_true (show ((l0.length : Nat) : Int) ≤ (c0 : Int) by have := HC0.out; have := HML.out; omega)
    have hq2 := eq_true (show l0.length ≤ c0 by have := HC0.out; have := HML.out; omega)
    clear hlt
    go_enter Try.func76, Try.ntmps76
    go_wp2_with (go_at_call 72; (with_reducible refine HT.out.mono ?_); rintro e w' ⟨rfl, hd⟩)
    go_ret
    exact ⟨rfl, hd⟩
  · have h1 : decide ((l0.length : Int) < (n : Int)) = false := decide_eq_false hlt
    have h1N : (l0.length < n) = False := eq_false (by omega)
    obtain rfl : m = n := by have := HM.out; omega
    have hcut2 := HCUT.out
    have hq1 := eq_true (show ((m : Nat) : Int) ≤ (c0 : Int) by have := HC0.out; have := HML.out; omega)
    have hq2 := eq_true (show m ≤ c0 by have := HC0.out; have := HML.out; omega)
    clear hlt
    go_enter Try.func76, Try.ntmps76
    go_wp2_with (go_at_call 72; (with_reducible refine HT.out.mono ?_); rintro e w' ⟨rfl, hd⟩)
    go_ret
    exact ⟨rfl, hd⟩
theorem nat_high.calls (A0 : Option Addr) (c0 : Nat) (l0 : List Int) (gn n : Nat) (w : World) (hc0 : l0.length ≤ c0) (hg : w.heap[gn]? = some (.cells #[.int .i64 (n : Int)] 3 (0, 0))) :
    Calls Try.prog 77 #[.slice A0 l0.length c0, .pointer (some ⟨gn, 0, none⟩)] w fun e w' => ∃ (A1 : Option Addr) (c1 : Nat), e = .returned (.slice A1 (l0.drop n).length c1) ∧ (l0.drop n).length ≤ c1 ∧ (∀ W : World, Kd.C (Kd.int .u64) W A0 l0.length l0 → Kd.C (Kd.int .u64) W A1 (l0.drop n).length (l0.drop n)) ∧ Drawn0 w w' := by
  have HC0 := Aside0.mk hc0
  have hcell := (blk_cell hg 0).trans rfl
  obtain ⟨i0, hi0, _, hsz, _⟩ := info_parts info62
  obtain ⟨m, hm⟩ : ∃ m : Nat, m = min n l0.length := ⟨_, rfl⟩
  have hml : m ≤ l0.length := by omega
  have hdr : l0.drop n = l0.drop m := by
    rcases Nat.le_total n l0.length with h | h
    · rw [show m = n from by omega]
    · rw [List.drop_of_length_le h, List.drop_of_length_le (by omega)]
  rw [hdr]
  obtain ⟨A2, c2, hc2, hA2, hcut⟩ : ∃ (A2 : Option Addr) (c2 : Nat), (l0.drop m).length ≤ c2 ∧ (∀ W : World, Kd.C (Kd.int .u64) W A0 l0.length l0 → Kd.C (Kd.int .u64) W A2 (l0.drop m).length (l0.drop m)) ∧ ∀ W : World, (Instr.slice 57 (.slice A0 l0.length c0) (some (.int .i64 (m : Int))) none none).run Try.prog W = .ok (.slice A2 (l0.drop m).length c2) W := by
    refine ⟨if c0 = (m : Int).toNat then A0 else A0.map (·.add ((m : Int).toNat * 1)), c0 - (m : Int).toNat, ?_, fun W h => ?_, fun W => ?_⟩
    · rw [List.length_drop, Int.toNat_natCast]; omega
    · rw [Int.toNat_natCast]
      exact Kd.C_drop h (by omega) hc0
    · rw [List.length_drop]
      have h3 := cut_from (P := Try.prog) 57 62 .i64 Try.underlying57 hi0 1 hsz A0 l0.length c0 (m : Int) (Int.natCast_nonneg m) (by omega) W
      rw [Int.toNat_natCast] at h3 ⊢
      exact h3
  obtain ⟨Y, hY⟩ : ∃ Y, Y = l0.drop m := ⟨_, rfl⟩
  rw [← hY] at hcut hA2 hc2 ⊢
  have HCUT := Aside0.mk hcut
  have HA := Aside0.mk hA2
  have HC2 := Aside0.mk hc2
  have HM := Aside0.mk hm
  have HML := Aside0.mk hml
  clear hc0 hg hi0 hsz hcut hA2 hc2 hm hdr hml hY
  by_cases hlt : (l0.length : Int) < (n : Int)
  · have h1 : decide ((l0.length : Int) < (n : Int)) = true := decide_eq_true hlt
    have h1N : (l0.length < n) = True := eq_true (by omega)
    obtain rfl : m = l0.length := by have := HM.out; omega
    have hcut2 := HCUT.out
    have hq1 := eq_true (show ((l0.length : Nat) : Int) ≤ (c0 : Int) by have := HC0.out; have := HML.out; omega)
    have hq2 := eq_true (show l0.length ≤ c0 by have := HC0.out; have := HML.out; omega)
    clear hlt
    go_enter Try.func77, Try.ntmps77
    go_wp2
    go_ret
    exact ⟨A2, c2, rfl, HC2.out, HA.out, Drawn0.refl _⟩
  · have h1 : decide ((l0.length : Int) < (n : Int)) = false := decide_eq_false hlt
    have h1N : (l0.length < n) = False := eq_false (by omega)
    obtain rfl : m = n := by have := HM.out; omega
    have hcut2 := HCUT.out
    have hq1 := eq_true (show ((m : Nat) : Int) ≤ (c0 : Int) by have := HC0.out; have := HML.out; omega)
    have hq2 := eq_true (show m ≤ c0 by have := HC0.out; have := HML.out; omega)
    clear hlt
    go_enter Try.func77, Try.ntmps77
    go_wp2
    go_ret
    exact ⟨A2, c2, rfl, HC2.out, HA.out, Drawn0.refl _⟩
end Go.Proofs.Ytnaphgnkhhapoaa.F
end
section
namespace Go.Proofs.Ytnaphgnkhhapoaa.Z
open Go.RowKit Go.Proofs.Ytnaphgnkhhapoaa.F Go.Proofs.YtnaphgnkhhapoaaW.PrintWords
set_option linter.unusedSimpArgs false
set_option linter.unusedVariables false
theorem nat_trim_loop (l : List Int) (h : l.length ≤ maxLen) : ∀ n : Nat, n ≤ l.length → Evt (fun k => nat_trim.l0 k l (n : Int)) (strip (l.take n)) := by
  unfold maxLen at h
  intro n
  induction n with
  | zero =>
    intro _
    refine Evt.succ ?_
    simp only [nat_trim.l0]
    refine Evt.ite_neg (by omega) (Evt.ite_pos (by omega) (Evt.ite_pos (by omega) ?_))
    simp [strip]
    exact Evt.pure _
  | succ n ih =>
    intro hn
    refine Evt.succ ?_
    simp only [nat_trim.l0]
    rw [w64 (by omega) (by omega), show ((n + 1 : Nat) : Int) - 1 = (n : Int) from by omega]
    refine Evt.ite_pos (by omega) (Evt.ite_pos (by omega) (Evt.ite_pos (by omega) ?_))
    rw [rd_nat, List.take_succ_eq_append_getElem (show n < l.length by omega)]
    have hg : l.getD n 0 = l[n] := by simp [show n < l.length by omega]
    rw [hg]
    by_cases h0 : l[n] = 0
    · rw [h0, strip_snoc_zero]
      exact Evt.ite_pos rfl (ih (by omega))
    · rw [strip_snoc h0]
      refine Evt.ite_neg h0 (Evt.ite_pos (by omega) (Evt.ite_pos (by omega) ?_))
      rw [← List.take_succ_eq_append_getElem (show n < l.length by omega)]
      exact Evt.pure _
theorem nat_trim_ev (l : List Int) (h : l.length ≤ maxLen) : Evt (fun k => nat_trim.f k l) (strip l) := by
  have := nat_trim_loop l h l.length (Nat.le_refl _)
  exact this.congr (fun k => rfl) (by rw [List.take_length])
theorem set_at {α : Type} (p : List α) (x v : α) (r : List α) : (p ++ x :: r).set p.length v = p ++ v :: r := by simp
theorem carry_of {c : Int} (h : c = 0 ∨ c = 1) : carry01 c = true := decide_eq_true h
def sumL : List Int → List Int → Int → List Int
  | [], _, c => [c]
  | x :: a, b, c => add64_s x (b.getD 0 0) c :: sumL a (b.drop 1) (add64_c x (b.getD 0 0) c)
theorem add64_facts {x y c : Int} (hx : 0 ≤ x ∧ x < (b64 : Int)) (hy : 0 ≤ y ∧ y < (b64 : Int)) (hc : c = 0 ∨ c = 1) :
    add64_s x y c + (b64 : Int) * add64_c x y c = x + y + c ∧ (0 ≤ add64_s x y c ∧ add64_s x y c < (b64 : Int)) ∧ (add64_c x y c = 0 ∨ add64_c x y c = 1) := by
  unfold add64_s add64_c
  simp only [b64] at *
  omega
theorem sumL_facts : ∀ (a b : List Int) (c : Int), Dig (b64 : Int) a → Dig (b64 : Int) b → b.length ≤ a.length → (c = 0 ∨ c = 1) →
    Dig (b64 : Int) (sumL a b c) ∧ val (b64 : Int) (sumL a b c) = val (b64 : Int) a + val (b64 : Int) b + c := by
  intro a
  induction a with
  | nil =>
    intro b c _ _ hlen hc
    have : b = [] := List.length_eq_zero_iff.1 (by simpa using hlen)
    subst this
    refine ⟨?_, ?_⟩
    · intro x hx
      simp [sumL] at hx
      subst hx
      simp only [b64]; omega
    · simp [sumL, val]
  | cons x a ih =>
    intro b c da db hlen hc
    have d1 := Dig.cons.1 da
    have hy := db.getD b64_pos 0
    obtain ⟨e1, e2, e3⟩ := add64_facts d1.1 hy hc
    obtain ⟨i1, i2⟩ := ih (b.drop 1) _ d1.2 (db.drop 1) (by simp at hlen ⊢; omega) e3
    refine ⟨Dig.cons.2 ⟨e2, i1⟩, ?_⟩
    simp only [sumL, val]
    rw [i2]
    have hb : val (b64 : Int) b = b.getD 0 0 + (b64 : Int) * val (b64 : Int) (b.drop 1) := by
      cases b with
      | nil => simp [val]
      | cons y b => simp [val]
    rw [hb]
    generalize (b64 : Int) = B at *
    generalize add64_s x (b.getD 0 0) c = s at *
    generalize add64_c x (b.getD 0 0) c = t at *
    generalize val B a = va at *
    generalize val B (b.drop 1) = vb at *
    generalize b.getD 0 0 = y at *
    have : B * (va + vb + t) = B * va + B * vb + B * t := by rw [Int.mul_add, Int.mul_add]
    omega
theorem nat_sum_l0 (a b : List Int) (ha : a.length ≤ 1000) (hb : b.length ≤ 1000) (da : Dig (b64 : Int) a) (db : Dig (b64 : Int) b) (n : Nat) : ∀ (i : Nat) (p : List Int) (c : Int), p.length = i → i ≤ a.length → a.length - i = n → (c = 0 ∨ c = 1) →
    Evt (fun k => nat_sum.l0 k a b (p ++ List.replicate (n + 1) 0) c (a.length : Int) (i : Int)) (p ++ sumL (a.drop i) (b.drop i) c) := by
  induction n with
  | zero =>
    intro i p c hp hi hn hc
    refine Evt.succ ?_
    simp only [nat_sum.l0]
    refine Evt.ite_neg (by omega) (Evt.ite_pos (by omega) (Evt.ite_pos (by simp; omega) ?_))
    rw [List.drop_of_length_le (show a.length ≤ i by omega), show ((a.length : Int)).toNat = p.length from by omega]
    simp only [sumL, List.replicate_succ, List.replicate_zero]
    rw [set_at]
    exact Evt.pure _
  | succ n ih =>
    intro i p c hp hi hn hc
    have hlt : i < a.length := by omega
    refine Evt.succ ?_
    simp only [nat_sum.l0]
    refine Evt.ite_pos (by omega) ?_
    have hx : rd a (i : Int) = a[i] := by simp [rd_nat, hlt]
    have hxr := da a[i] (List.getElem_mem hlt)
    have hset : ∀ v : Int, (p ++ List.replicate (n + 1 + 1) 0).set ((i : Int)).toNat v = (p ++ [v]) ++ List.replicate (n + 1) 0 := by
      intro v
      rw [show ((i : Int)).toNat = p.length from by omega, List.replicate_succ, set_at, List.append_assoc]
      rfl
    have hyr := (db.drop i).getD b64_pos 0
    have hfin : ∀ y : Int, y = (b.drop i).getD 0 0 → Evt (fun k => nat_sum.l0 k a b ((p ++ List.replicate (n + 1 + 1) 0).set ((i : Int)).toNat (add64_s (rd a (i : Int)) y c)) (add64_c (rd a (i : Int)) y c) (a.length : Int) (wrap64 ((i : Int) + 1))) (p ++ sumL (a.drop i) (b.drop i) c) := by
      intro y hy
      subst hy
      obtain ⟨e1, e2, e3⟩ := add64_facts hxr hyr hc
      rw [hx, hset, w64 (by omega) (by omega)]
      have h := ih (i + 1) (p ++ [add64_s a[i] ((b.drop i).getD 0 0) c]) (add64_c a[i] ((b.drop i).getD 0 0) c) (by simp [hp]) (by omega) (by omega) e3
      refine h.congr (fun k => rfl) ?_
      rw [List.drop_eq_getElem_cons hlt]
      simp only [sumL, List.drop_drop, List.append_assoc, List.singleton_append]
    by_cases hib : i < b.length
    · refine Evt.ite_pos (by omega) (Evt.ite_pos (by omega) (Evt.ite_pos (by omega) (Evt.ite_pos (carry_of hc) (Evt.ite_pos (by simp; omega) ?_))))
      refine hfin _ ?_
      simp [rd_nat, hib]
    · refine Evt.ite_neg (by omega) (Evt.ite_pos (by omega) (Evt.ite_pos (by omega) (Evt.ite_pos (carry_of hc) (Evt.ite_pos (by simp; omega) ?_))))
      refine hfin _ ?_
      simp [List.drop_of_length_le (show b.length ≤ i by omega)]
theorem nat_sum_l51 (a b : List Int) (ha : a.length ≤ 1000) (hb : b.length ≤ 1000) (da : Dig (b64 : Int) a) (db : Dig (b64 : Int) b) (n : Nat) : ∀ (i : Nat) (p : List Int) (c : Int), p.length = i → i ≤ a.length → a.length - i = n → (c = 0 ∨ c = 1) →
    Evt (fun k => nat_sum.l51 k a b (p ++ List.replicate (n + 1) 0) c (a.length : Int) (i : Int)) (p ++ sumL (a.drop i) (b.drop i) c) := by
  induction n with
  | zero =>
    intro i p c hp hi hn hc
    refine Evt.succ ?_
    simp only [nat_sum.l51]
    refine Evt.ite_neg (by omega) (Evt.ite_pos (by omega) (Evt.ite_pos (by simp; omega) ?_))
    rw [List.drop_of_length_le (show a.length ≤ i by omega), show ((a.length : Int)).toNat = p.length from by omega]
    simp only [sumL, List.replicate_succ, List.replicate_zero]
    rw [set_at]
    exact Evt.pure _
  | succ n ih =>
    intro i p c hp hi hn hc
    have hlt : i < a.length := by omega
    refine Evt.succ ?_
    simp only [nat_sum.l51]
    refine Evt.ite_pos (by omega) ?_
    have hx : rd a (i : Int) = a[i] := by simp [rd_nat, hlt]
    have hxr := da a[i] (List.getElem_mem hlt)
    have hset : ∀ v : Int, (p ++ List.replicate (n + 1 + 1) 0).set ((i : Int)).toNat v = (p ++ [v]) ++ List.replicate (n + 1) 0 := by
      intro v
      rw [show ((i : Int)).toNat = p.length from by omega, List.replicate_succ, set_at, List.append_assoc]
      rfl
    have hyr := (db.drop i).getD b64_pos 0
    have hfin : ∀ y : Int, y = (b.drop i).getD 0 0 → Evt (fun k => nat_sum.l51 k a b ((p ++ List.replicate (n + 1 + 1) 0).set ((i : Int)).toNat (add64_s (rd a (i : Int)) y c)) (add64_c (rd a (i : Int)) y c) (a.length : Int) (wrap64 ((i : Int) + 1))) (p ++ sumL (a.drop i) (b.drop i) c) := by
      intro y hy
      subst hy
      obtain ⟨e1, e2, e3⟩ := add64_facts hxr hyr hc
      rw [hx, hset, w64 (by omega) (by omega)]
      have h := ih (i + 1) (p ++ [add64_s a[i] ((b.drop i).getD 0 0) c]) (add64_c a[i] ((b.drop i).getD 0 0) c) (by simp [hp]) (by omega) (by omega) e3
      refine h.congr (fun k => rfl) ?_
      rw [List.drop_eq_getElem_cons hlt]
      simp only [sumL, List.drop_drop, List.append_assoc, List.singleton_append]
    by_cases hib : i < b.length
    · refine Evt.ite_pos (by omega) (Evt.ite_pos (by omega) (Evt.ite_pos (by omega) (Evt.ite_pos (carry_of hc) (Evt.ite_pos (by simp; omega) ?_))))
      refine hfin _ ?_
      simp [rd_nat, hib]
    · refine Evt.ite_neg (by omega) (Evt.ite_pos (by omega) (Evt.ite_pos (by omega) (Evt.ite_pos (carry_of hc) (Evt.ite_pos (by simp; omega) ?_))))
      refine hfin _ ?_
      simp [List.drop_of_length_le (show b.length ≤ i by omega)]
theorem nat_sum_ev (a b : List Int) (ha : a.length ≤ 1000) (hb : b.length ≤ 1000) (da : Dig (b64 : Int) a) (db : Dig (b64 : Int) b) : ∃ s, Evt (fun k => nat_sum.f k a b) s ∧ Dig (b64 : Int) s ∧ num s = num a + num b ∧ s.length ≤ 1002 := by
  unfold nat_sum.f
  have fin : ∀ (x y : List Int), Dig (b64 : Int) x → Dig (b64 : Int) y → y.length ≤ x.length → x.length ≤ 1000 → Dig (b64 : Int) (sumL x y 0) ∧ num (sumL x y 0) = num x + num y ∧ (sumL x y 0).length ≤ 1002 := by
    intro x y dx dy hlen hx
    obtain ⟨f1, f2⟩ := sumL_facts x y 0 dx dy hlen (Or.inl rfl)
    have l1 : ∀ (x y : List Int) (c : Int), (sumL x y c).length = x.length + 1 := by
      intro x
      induction x with
      | nil => intro y c; rfl
      | cons z x ih => intro y c; simp only [sumL, List.length_cons, ih]
    refine ⟨f1, ?_, by rw [l1]; omega⟩
    have := num_val f1
    have := num_val dx
    have := num_val dy
    omega
  have ex : ∀ x : List Int, x.length ≤ 1000 → wrap64 ((x.length : Int) + 1) = ((x.length + 1 : Nat) : Int) := fun x hx => by rw [w64 (by omega) (by omega)]; omega
  by_cases h : a.length < b.length
  · refine ⟨sumL b a 0, Evt.ite_pos (by omega) ?_, (fin b a db da (by omega) hb).1, by rw [(fin b a db da (by omega) hb).2.1]; omega, (fin b a db da (by omega) hb).2.2⟩
    rw [ex b hb]
    refine Evt.ite_pos (by omega) (Evt.ite_pos (by omega) ?_)
    exact (nat_sum_l0 b a hb ha db da b.length 0 [] 0 rfl (Nat.zero_le _) (by omega) (Or.inl rfl)).congr (fun k => rfl) (by simp)
  · refine ⟨sumL a b 0, Evt.ite_neg (by omega) ?_, (fin a b da db (by omega) ha).1, (fin a b da db (by omega) ha).2.1, (fin a b da db (by omega) ha).2.2⟩
    rw [ex a ha]
    refine Evt.ite_pos (by omega) (Evt.ite_pos (by omega) ?_)
    exact (nat_sum_l51 a b ha hb da db a.length 0 [] 0 rfl (Nat.zero_le _) (by omega) (Or.inl rfl)).congr (fun k => rfl) (by simp)
theorem nat_told_ev (l : List Int) (h : l.length ≤ 1000000) (d : Dig (b64 : Int) l) : Evt (fun k => nat_told.f k l) (toldV (num l)) := by
  unfold nat_told.f toldV
  refine Evt.bind (nat_trim_ev l (by simp [maxLen]; omega)) ?_
  rw [strip_limbs d]
  have hl := limbs_long (num l)
  by_cases h1 : num l < b64 ^ 64
  · rw [if_pos h1]
    have := hl.2 h1
    exact Evt.ite_neg (by omega) (Evt.pure _)
  · rw [if_neg h1]
    have : ¬ (limbs (num l)).length ≤ 64 := fun hh => h1 (hl.1 hh)
    exact Evt.ite_pos (by omega) (Evt.pure _)
theorem nat_Right_eq {l : List Int} (h : l.length ≤ maxLen) : nat_Right.f l = some (rightB l) := by
  unfold maxLen at h
  unfold nat_Right.f rightB
  by_cases h1 : l.length ≤ 64
  · rw [if_pos (by omega)]
    by_cases h2 : l.length = 0
    · rw [if_pos (by omega)]
      simp [h1, h2]
    · rw [if_neg (by omega), w64 (by omega) (by omega), if_pos (by omega), if_pos (by omega), rd_getD]
      rw [show ((l.length : Int) - 1).toNat = l.length - 1 from by omega]
      have h3 : (l.length == 0) = false := by simpa using h2
      rw [h3]
      simp [h1]
  · rw [if_neg (by omega)]
    simp [h1]
theorem nat_right_eq (ls : List (List Int)) (h : ∀ l ∈ ls, l.length ≤ maxLen) : nat_right.f ls = some (ls.all rightB) := by
  induction ls with
  | nil => rfl
  | cons a ls ih =>
    simp only [nat_right.f]
    rw [nat_Right_eq (h a (by simp)), ih (fun l hl => h l (by simp [hl]))]
    simp only [Option.bind_some, List.all_cons]
    cases rightB a <;> simp
def addV (a b : List Int) : List Int × Int := if rightB a = true ∧ rightB b = true then toldV (num a + num b) else ([], 1)
theorem nat_Add_ev (a b : List Int) (ha : a.length ≤ maxLen) (hb : b.length ≤ maxLen) (da : Dig (b64 : Int) a) (db : Dig (b64 : Int) b) : Evt (fun k => nat_Add.f k a b) (addV a b) := by
  unfold nat_Add.f addV
  rw [nat_right_eq _ (by intro l hl; simp at hl; rcases hl with rfl | rfl <;> assumption)]
  simp only [Option.bind_some, List.all_cons, List.all_nil, Bool.and_true, Bool.and_eq_true]
  by_cases h : rightB a = true ∧ rightB b = true
  · rw [if_pos h]
    refine Evt.ite_pos h ?_
    obtain ⟨h1, c1⟩ := (rightB_iff a).1 h.1
    obtain ⟨h2, c2⟩ := (rightB_iff b).1 h.2
    obtain ⟨s, e1, e2, e3, e4⟩ := nat_sum_ev a b (by omega) (by omega) da db
    refine Evt.bind e1 ?_
    rw [← e3]
    exact Evt.bind (nat_told_ev s (by omega) e2) (h := fun t _ => some (t.1, t.2)) (Evt.pure _)
  · rw [if_neg h]
    exact Evt.ite_neg h (Evt.pure _)
def cmpL (B : Int) (l m : List Int) : Int := if val B l < val B m then -1 else if val B l = val B m then 0 else 1
theorem val_take_succ (B : Int) (l : List Int) (i : Nat) (h : i < l.length) : val B (l.take (i + 1)) = val B (l.take i) + B ^ i * l[i] := by
  rw [List.take_succ_eq_append_getElem h, val_append]
  simp only [val, List.length_take]
  rw [show min i l.length = i from by omega, Int.mul_zero, Int.add_zero]
theorem cmp_step {B : Int} (hB : 0 < B) {l m : List Int} (hl : Dig B l) (hm : Dig B m) (i : Nat) (h1 : i < l.length) (h2 : i < m.length) :
    (l[i] < m[i] → cmpL B (l.take (i + 1)) (m.take (i + 1)) = -1) ∧ (m[i] < l[i] → cmpL B (l.take (i + 1)) (m.take (i + 1)) = 1) ∧ (l[i] = m[i] → cmpL B (l.take (i + 1)) (m.take (i + 1)) = cmpL B (l.take i) (m.take i)) := by
  have a1 := val_nonneg hB (hl.take i)
  have a2 := val_nonneg hB (hm.take i)
  have b1 := val_lt hB (hl.take i)
  have b2 := val_lt hB (hm.take i)
  rw [List.length_take, show min i l.length = i from by omega] at b1
  rw [List.length_take, show min i m.length = i from by omega] at b2
  have hp : 0 < B ^ i := Int.pow_pos hB
  unfold cmpL
  rw [val_take_succ B l i h1, val_take_succ B m i h2]
  refine ⟨fun h => ?_, fun h => ?_, fun h => ?_⟩
  · have h3 : B ^ i * (l[i] + 1) ≤ B ^ i * m[i] := Int.mul_le_mul_of_nonneg_left (by omega) (by omega)
    rw [Int.mul_add, Int.mul_one] at h3
    rw [if_pos (by omega)]
  · have h3 : B ^ i * (m[i] + 1) ≤ B ^ i * l[i] := Int.mul_le_mul_of_nonneg_left (by omega) (by omega)
    rw [Int.mul_add, Int.mul_one] at h3
    rw [if_neg (by omega), if_neg (by omega)]
  · rw [h]
    by_cases c1 : val B (l.take i) < val B (m.take i)
    · rw [if_pos c1, if_pos (by omega)]
    · by_cases c2 : val B (l.take i) = val B (m.take i)
      · rw [if_neg c1, if_pos c2, if_neg (by omega), if_pos (by omega)]
      · rw [if_neg c1, if_neg c2, if_neg (by omega), if_neg (by omega)]
theorem nat_compare_loop {B : Int} (hB : 0 < B) (l m : List Int) (hl : Dig B l) (hm : Dig B m) (hlen : l.length = m.length) (hb : l.length ≤ 1000000) : ∀ i : Nat, i ≤ l.length → Evt (fun k => nat_compare.l0 k l m ((i : Int) - 1)) (cmpL B (l.take i) (m.take i)) := by
  intro i
  induction i with
  | zero =>
    intro _
    refine Evt.succ ?_
    simp only [nat_compare.l0]
    refine Evt.ite_neg (by omega) ?_
    exact Evt.pure _
  | succ i ih =>
    intro hi
    have h1 : i < l.length := by omega
    have h2 : i < m.length := by omega
    obtain ⟨s1, s2, s3⟩ := cmp_step hB hl hm i h1 h2
    rw [show (((i + 1 : Nat) : Int) - 1) = (i : Int) from by omega]
    refine Evt.succ ?_
    simp only [nat_compare.l0]
    refine Evt.ite_pos (by omega) (Evt.ite_pos (by omega) (Evt.ite_pos (by omega) (Evt.ite_pos (by omega) ?_)))
    have e1 : rd l (i : Int) = l[i] := by simp [rd_nat, h1]
    have e2 : rd m (i : Int) = m[i] := by simp [rd_nat, h2]
    rw [e1, e2]
    by_cases c0 : l[i] = m[i]
    · rw [s3 c0]
      refine Evt.ite_pos c0 ?_
      rw [w64 (by omega) (by omega)]
      exact ih (by omega)
    · refine Evt.ite_neg c0 ?_
      by_cases c1 : l[i] < m[i]
      · rw [s1 c1]; exact Evt.ite_pos c1 (Evt.pure _)
      · rw [s2 (by omega)]; exact Evt.ite_neg c1 (Evt.pure _)
theorem nat_compare_any {B : Int} (hB : 0 < B) (l m : List Int) (hl : Dig B l) (hm : Dig B m) (cl : Can l) (cm : Can m) (hb : l.length ≤ 1000000) : Evt (fun k => nat_compare.f k l m) (cmpL B l m) := by
  unfold nat_compare.f
  by_cases hlen : l.length = m.length
  · refine Evt.ite_pos (by omega) ?_
    rw [w64 (by omega) (by omega)]
    have := nat_compare_loop hB l m hl hm hlen hb l.length (Nat.le_refl _)
    refine this.congr (fun k => rfl) ?_
    rw [List.take_length, hlen, List.take_length]
  · refine Evt.ite_neg (by omega) ?_
    by_cases h2 : l.length < m.length
    · have := val_lt_of_length hB hl hm cm h2
      have e : cmpL B l m = -1 := if_pos this
      rw [e]
      exact Evt.ite_pos (by omega) (Evt.pure _)
    · have := val_lt_of_length hB hm hl cl (by omega)
      have e : cmpL B l m = 1 := by unfold cmpL; rw [if_neg (by omega), if_neg (by omega)]
      rw [e]
      exact Evt.ite_neg (by omega) (Evt.pure _)
theorem nat_compare_ev (l m : List Int) (hl : Dig (b64 : Int) l) (hm : Dig (b64 : Int) m) (cl : Can l) (cm : Can m) (hb : l.length ≤ 1000000) : Evt (fun k => nat_compare.f k l m) (cmpN (num l) (num m)) := by
  refine (nat_compare_any b64_pos l m hl hm cl cm hb).congr (fun k => rfl) ?_
  unfold cmpL cmpN
  rw [← num_val hl, ← num_val hm]
  simp only [Int.ofNat_lt, Int.natCast_inj]
theorem nat_Of_ev (n : Int) : Evt (fun k => nat_Of.f k n) (strip [n]) := by
  refine (Evt.bind (nat_trim_ev [n] (by simp [maxLen])) (h := fun t _ => some t) (Evt.pure _)).congr (fun k => rfl) rfl
theorem windbreakref01_Right_eq {l : List Int} (h : l.length ≤ maxLen) : windbreakref01_Right.f l = some (rightB l) := by
  unfold maxLen at h
  unfold windbreakref01_Right.f rightB
  by_cases h1 : l.length ≤ 64
  · rw [if_pos (by omega)]
    by_cases h2 : l.length = 0
    · rw [if_pos (by omega)]
      simp [h1, h2]
    · rw [if_neg (by omega), w64 (by omega) (by omega), if_pos (by omega), if_pos (by omega), rd_getD]
      rw [show ((l.length : Int) - 1).toNat = l.length - 1 from by omega]
      have h3 : (l.length == 0) = false := by simpa using h2
      rw [h3]
      simp [h1]
  · rw [if_neg (by omega)]
    simp [h1]
theorem same_loop (l m : List Int) (h : l.length ≤ maxLen) (hlm : l.length = m.length) (d : Nat) : ∀ i : Nat, i ≤ l.length → l.length - i = d → Evt (fun k => windbreakref01_Same.l0 k l m (i : Int)) (decide (l.drop i = m.drop i)) := by
  unfold maxLen at h
  induction d with
  | zero =>
    intro i hi hd
    refine Evt.succ ?_
    simp only [windbreakref01_Same.l0]
    refine Evt.ite_neg (by omega) ?_
    rw [List.drop_of_length_le (by omega), List.drop_of_length_le (by omega)]
    exact Evt.pure _
  | succ d ih =>
    intro i hi hd
    have hl : i < l.length := by omega
    have hm : i < m.length := by omega
    refine Evt.succ ?_
    simp only [windbreakref01_Same.l0]
    refine Evt.ite_pos (by omega) (Evt.ite_pos (by omega) (Evt.ite_pos (by omega) ?_))
    have e1 : rd l (i : Int) = l[i] := by simp [rd_nat, hl]
    have e2 : rd m (i : Int) = m[i] := by simp [rd_nat, hm]
    rw [e1, e2, w64 (by omega) (by omega), List.drop_eq_getElem_cons hl, List.drop_eq_getElem_cons hm]
    by_cases he : l[i] = m[i]
    · refine Evt.ite_pos he ?_
      refine (ih (i + 1) (by omega) (by omega)).congr (fun k => rfl) ?_
      rw [he]
      simp only [List.cons.injEq, true_and]
    · refine Evt.ite_neg he ?_
      have : decide (l[i] :: l.drop (i + 1) = m[i] :: m.drop (i + 1)) = false := by
        simp only [List.cons.injEq, decide_eq_false_iff_not]
        exact fun hh => he hh.1
      rw [this]
      exact Evt.pure _
theorem same_ev (l m : List Int) (h : l.length ≤ maxLen) : Evt (fun k => windbreakref01_Same.f k l m) (decide (l = m)) := by
  unfold windbreakref01_Same.f
  by_cases hlm : l.length = m.length
  · refine Evt.ite_pos (by omega) ?_
    exact (same_loop l m h hlm l.length 0 (Nat.zero_le _) (by omega)).congr (fun k => rfl) (by simp)
  · refine Evt.ite_neg (by omega) ?_
    have : decide (l = m) = false := by
      simp only [decide_eq_false_iff_not]
      intro e
      exact hlm (by rw [e])
    rw [this]
    exact Evt.pure _
end Go.Proofs.Ytnaphgnkhhapoaa.Z
end
section
namespace Go.Proofs.Ytnaphgnkhhapoaa.Z
open Go.RowKit Go.Proofs.Ytnaphgnkhhapoaa.F Go.Proofs.YtnaphgnkhhapoaaW.PrintWords Go.Proofs.YtnaphgnkhhapoaaW.PrintMore
set_option linter.unusedSimpArgs false
set_option linter.unusedVariables false
theorem val_set (B : Int) (l : List Int) : ∀ (i : Nat) (v : Int), i < l.length → val B (l.set i v) = val B l + B ^ i * (v - l.getD i 0) := by
  induction l with
  | nil => intro i v h; simp at h
  | cons d l ih =>
    intro i v h
    cases i with
    | zero => simp [val]; omega
    | succ i =>
      have h2 := ih i v (by simpa using h)
      simp only [List.set_cons_succ, val, h2, Int.pow_succ, List.getD_cons_succ]
      generalize l.getD i 0 = y
      generalize B ^ i = P
      generalize val B l = V
      grind
theorem val_take_step (B : Int) (l : List Int) (i : Nat) (h : i < l.length) : val B (l.take (i + 1)) = val B (l.take i) + B ^ i * l[i] := by
  rw [List.take_succ_eq_append_getElem h, val_append]
  simp only [val, List.length_take]
  rw [show min i l.length = i from by omega, Int.mul_zero, Int.add_zero]
theorem wraps_u64 (n : Int) (h0 : 0 ≤ n) (h1 : n < 2 ^ 64) : IntKind.u64.wrap n = n := wu64_of h0 (by omega)
theorem or_u64 {x y : Int} (s : Nat) (hs : s ≤ 64) (hx0 : 0 ≤ x) (hx : x % 2 ^ s = 0) (hx1 : x < 18446744073709551616) (hy0 : 0 ≤ y) (hy : y < 2 ^ s) : Go.bits .or .u64 x y = x + y := by
  have h2 : (2 : Int) ^ s ≤ 2 ^ 64 := pow_mono (by omega) hs
  exact bits_join .u64 64 (by decide) wraps_u64 s x y hx0 hx (by omega) hy0 hy (by omega)
theorem or_comm_u64 {x y : Int} (hx0 : 0 ≤ x) (hx1 : x < 18446744073709551616) (hy0 : 0 ≤ y) (hy1 : y < 18446744073709551616) : Go.bits .or .u64 x y = Go.bits .or .u64 y x := by
  obtain ⟨a, rfl⟩ := Int.eq_ofNat_of_zero_le hx0
  obtain ⟨b, rfl⟩ := Int.eq_ofNat_of_zero_le hy0
  rw [(bits_nat .u64 64 (by decide) wraps_u64 a b (by omega) (by omega)).2, (bits_nat .u64 64 (by decide) wraps_u64 b a (by omega) (by omega)).2, Nat.or_comm]
theorem shl_u64 (x : Int) (s : Nat) (hs : s ≤ 64) : shl .u64 x (s : Int) = (x * 2 ^ s) % 18446744073709551616 := by
  unfold shl
  rw [wu64]
  simp only [IntKind.bits, Int.toNat_natCast]
  rw [show min s 64 = s from by omega]
theorem shr_u64 (x : Int) (s : Nat) (hs : s ≤ 64) : shr .u64 x (s : Int) = x / 2 ^ s := by
  unfold shr
  simp only [IntKind.bits, Int.toNat_natCast]
  rw [show min s 64 = s from by omega]
theorem pow64_split {s : Nat} (hs : s ≤ 64) : (2 : Int) ^ s * 2 ^ (64 - s) = 18446744073709551616 := by
  rw [← Int.pow_add, show s + (64 - s) = 64 from by omega]
  decide
theorem pow2_pos (s : Nat) : (0 : Int) < 2 ^ s := Int.pow_pos (by omega)
theorem shl_facts {x : Int} (hx : 0 ≤ x ∧ x < 18446744073709551616) {s : Nat} (hs : s ≤ 64) :
    (x * 2 ^ s) % 18446744073709551616 + 18446744073709551616 * (x / 2 ^ (64 - s)) = x * 2 ^ s ∧ ((x * 2 ^ s) % 18446744073709551616) % 2 ^ s = 0 ∧ 0 ≤ x / 2 ^ (64 - s) ∧ x / 2 ^ (64 - s) < 2 ^ s := by
  have hp := pow64_split hs
  have h1 := pow2_pos s
  have h2 := pow2_pos (64 - s)
  generalize (2 : Int) ^ s = P at *
  generalize (2 : Int) ^ (64 - s) = Q at *
  have h3 : (x * P) / 18446744073709551616 = x / Q := by
    rw [← hp, Int.mul_comm x P, Int.mul_ediv_mul_of_pos _ _ h1]
  refine ⟨?_, ?_, Int.ediv_nonneg hx.1 (by omega), ?_⟩
  · have := Int.emod_add_mul_ediv (x * P) 18446744073709551616
    rw [h3] at this
    exact this
  · rw [← hp]
    have := Int.mul_emod_mul_of_pos (a := P) x Q h1
    rw [Int.mul_comm x P, this]
    exact Int.mul_emod_right P _
  · apply Int.ediv_lt_of_lt_mul h2
    rw [hp]
    exact hx.2
theorem nat_up_loop (a : List Int) (da : Dig (b64 : Int) a) (ha : a.length ≤ 100000) (s : Nat) (hs : s < 64) (n : Nat) :
    ∀ (i : Nat) (p : List Int) (c : Int), a.length - i = n → i ≤ a.length → p.length = i → Dig (b64 : Int) p → 0 ≤ c ∧ c < 2 ^ s → val (b64 : Int) p + c * (b64 : Int) ^ i = val (b64 : Int) (a.take i) * 2 ^ s →
      ∃ r, Evt (fun k => nat_up.l0 k (s : Int) (p ++ c :: List.replicate n 0) a (a.length : Int) (i : Int)) r ∧ Dig (b64 : Int) r ∧ r.length = a.length + 1 ∧ val (b64 : Int) r = val (b64 : Int) a * 2 ^ s := by
  have hs64 : (2 : Int) ^ s ≤ 2 ^ 63 := pow_mono (by omega) (by omega)
  have hB : (b64 : Int) = 18446744073709551616 := rfl
  induction n with
  | zero =>
    intro i p c hn hi hp dp hc hv
    refine ⟨p ++ [c], ?_, Dig.append.2 ⟨dp, Dig.cons.2 ⟨by rw [hB]; omega, Dig.nil⟩⟩, by simp; omega, ?_⟩
    · refine Evt.succ ?_
      simp only [nat_up.l0]
      exact Evt.ite_neg (by omega) (Evt.pure _)
    · rw [List.take_of_length_le (by omega)] at hv
      rw [val_append, hp]
      simp only [val, Int.mul_zero, Int.add_zero]
      rw [Int.mul_comm ((b64 : Int) ^ i) c]
      exact hv
  | succ n ih =>
    intro i p c hn hi hp dp hc hv
    have hlt : i < a.length := by omega
    have rx := da a[i] (List.getElem_mem hlt)
    rw [hB] at rx
    obtain ⟨f1, f2, f3, f4⟩ := shl_facts rx (s := s) (by omega)
    have f5 : 0 ≤ (a[i] * 2 ^ s) % 18446744073709551616 := by omega
    have f6 : (a[i] * 2 ^ s) % 18446744073709551616 < 18446744073709551616 := by omega
    have hor : Go.bits .or .u64 c ((a[i] * 2 ^ s) % 18446744073709551616) = (a[i] * 2 ^ s) % 18446744073709551616 + c := by
      rw [or_comm_u64 hc.1 (by omega) f5 f6]
      exact or_u64 s (by omega) f5 f2 f6 hc.1 hc.2
    have hlow : (a[i] * 2 ^ s) % 18446744073709551616 + c < 18446744073709551616 := by
      have hp64 := pow64_split (s := s) (by omega)
      have hq := pow2_pos (64 - s)
      have hps := pow2_pos s
      generalize (a[i] * 2 ^ s) % 18446744073709551616 = z at *
      generalize (2 : Int) ^ s = P at *
      generalize (2 : Int) ^ (64 - s) = Q at *
      obtain ⟨t, ht⟩ := Int.dvd_of_emod_eq_zero f2
      subst ht
      have ht2 : t < Q := by
        refine Int.not_le.1 (fun hle => ?_)
        have := Int.mul_le_mul_of_nonneg_left hle (Int.le_of_lt hps)
        omega
      have : P * (t + 1) ≤ P * Q := Int.mul_le_mul_of_nonneg_left (by omega) (by omega)
      rw [Int.mul_add] at this
      omega
    generalize hz : (a[i] * 2 ^ s) % 18446744073709551616 = z at *
    obtain ⟨r, e1, e2, e3, e4⟩ := ih (i + 1) (p ++ [z + c]) (a[i] / 2 ^ (64 - s)) (by omega) (by omega) (by simp; omega) (Dig.append.2 ⟨dp, Dig.cons.2 ⟨by rw [hB]; omega, Dig.nil⟩⟩) ⟨f3, f4⟩ (by
      rw [val_append, hp, val_take_step (b64 : Int) a i hlt, Int.pow_succ]
      simp only [val, Int.mul_zero, Int.add_zero]
      rw [hB]
      rw [hB] at hv
      generalize (18446744073709551616 : Int) ^ i = P at *
      generalize a[i] / 2 ^ (64 - s) = h at *
      generalize val 18446744073709551616 (a.take i) = va at *
      generalize val 18446744073709551616 p = vp at *
      generalize (2 : Int) ^ s = S at *
      generalize a[i] = x at *
      have e : z = x * S - 18446744073709551616 * h := by omega
      rw [e]
      have e2 : vp = va * S - c * P := by omega
      rw [e2]
      grind)
    refine ⟨r, ?_, e2, e3, e4⟩
    refine Evt.succ ?_
    simp only [nat_up.l0]
    have hx : rd a (i : Int) = a[i] := by simp [rd_nat, hlt]
    have hc0 : rd (p ++ c :: List.replicate (n + 1) 0) (i : Int) = c := by
      rw [rd_nat]
      simp [List.getD_eq_getElem?_getD, ← hp]
    refine Evt.ite_pos (by omega) (Evt.ite_pos (by omega) (Evt.ite_pos (by omega) (Evt.ite_pos (by simp; omega) (Evt.ite_pos (by omega) ?_))))
    simp only [Option.bind_some]
    rw [hx, hc0, shl_u64 _ s (by omega), hz, hor, show ((i : Int)).toNat = p.length from by omega, set_at]
    rw [w64 (show -9223372036854775808 ≤ (i : Int) + 1 by omega) (by omega)]
    by_cases h0 : s = 0
    · refine Evt.ite_neg (by omega) ?_
      refine e1.congr (fun k => ?_) rfl
      have e0 : a[i] / 2 ^ (64 - s) = 0 := by
        rw [h0] at f4 f3 ⊢
        simp only [Int.pow_zero] at f4
        omega
      rw [e0, List.append_assoc]
      rfl
    · refine Evt.ite_pos (by omega) (Evt.ite_pos ?_ (Evt.ite_pos (by omega) (Evt.ite_pos (by simp; omega) ?_)))
      · rw [wu64_of (by omega) (by omega)]; omega
      · rw [wu64_of (by omega) (by omega), show (64 : Int) - (s : Int) = ((64 - s : Nat) : Int) from by omega, shr_u64 _ (64 - s) (by omega)]
        refine e1.congr (fun k => ?_) rfl
        have hset : (p ++ (z + c) :: List.replicate (n + 1) 0).set ((i : Int) + 1).toNat (a[i] / 2 ^ (64 - s)) = (p ++ [z + c]) ++ (a[i] / 2 ^ (64 - s)) :: List.replicate n 0 := by
          have e : p ++ (z + c) :: List.replicate (n + 1) 0 = (p ++ [z + c]) ++ 0 :: List.replicate n 0 := by rw [List.append_assoc, List.replicate_succ]; rfl
          rw [e, show ((i : Int) + 1).toNat = (p ++ [z + c]).length from by simp; omega]
          exact set_at _ _ _ _
        rw [hset]
        rfl
theorem nat_up_ev (a : List Int) (da : Dig (b64 : Int) a) (ha : a.length ≤ 100000) (s : Nat) (hs : s < 64) : ∃ r, Evt (fun k => nat_up.f k a (s : Int)) r ∧ Dig (b64 : Int) r ∧ r.length = a.length + 1 ∧ num r = num a * 2 ^ s := by
  obtain ⟨r, e1, e2, e3, e4⟩ := nat_up_loop a da ha s hs a.length 0 [] 0 (by omega) (by omega) rfl Dig.nil ⟨by omega, pow2_pos s⟩ (by simp [val])
  refine ⟨r, ?_, e2, e3, ?_⟩
  · unfold nat_up.f
    rw [w64 (show -9223372036854775808 ≤ (a.length : Int) + 1 by omega) (by omega)]
    refine Evt.ite_pos (by omega) (Evt.ite_pos (by omega) ?_)
    refine e1.congr (fun k => ?_) rfl
    rw [show ((a.length : Int) + 1).toNat = a.length + 1 from by omega, List.nil_append, List.replicate_succ]
    rfl
  · have h1 := num_val e2
    have h2 := num_val da
    have h3 : ((num a * 2 ^ s : Nat) : Int) = (num a : Int) * 2 ^ s := by simp
    rw [e4, ← h2, ← h3] at h1
    omega
end Go.Proofs.Ytnaphgnkhhapoaa.Z
end
section
namespace Go.Proofs.Ytnaphgnkhhapoaa.Z
open Go.RowKit Go.Proofs.Ytnaphgnkhhapoaa.F Go.Proofs.YtnaphgnkhhapoaaW.PrintWords
set_option linter.unusedSimpArgs false
set_option linter.unusedVariables false
theorem mask32m {x : Int} (h0 : 0 ≤ x) (h1 : x < 18446744073709551616) : Go.bits .and .u64 x 4294967295 = x % 4294967296 := by
  have h := bits_mask .u64 64 (by decide) wraps_u64 32 (by decide) x h0 (by omega)
  rw [show (2 : Int) ^ 32 = 4294967296 from by decide] at h
  exact h
theorem half_mul {x y : Int} (hx : 0 ≤ x ∧ x < 4294967296) (hy : 0 ≤ y ∧ y < 4294967296) : 0 ≤ x * y ∧ x * y ≤ 18446744065119617025 := by
  refine ⟨Int.mul_nonneg hx.1 hy.1, ?_⟩
  have : x * y ≤ 4294967295 * 4294967295 := Int.mul_le_mul (by omega) (by omega) hy.1 (by omega)
  omega
theorem bits_Mul64_eq {x y : Int} (hx : 0 ≤ x ∧ x < 18446744073709551616) (hy : 0 ≤ y ∧ y < 18446744073709551616) :
    ∃ hi lo : Int, bits_Mul64.f x y = some (hi, lo) ∧ hi * 18446744073709551616 + lo = x * y ∧ (0 ≤ hi ∧ hi < 18446744073709551616) ∧ (0 ≤ lo ∧ lo < 18446744073709551616) := by
  unfold bits_Mul64.f
  have ex : x = x / 4294967296 * 4294967296 + x % 4294967296 := by omega
  have ey : y = y / 4294967296 * 4294967296 + y % 4294967296 := by omega
  have xl : 0 ≤ x % 4294967296 ∧ x % 4294967296 < 4294967296 := by omega
  have yl : 0 ≤ y % 4294967296 ∧ y % 4294967296 < 4294967296 := by omega
  have xh : 0 ≤ x / 4294967296 ∧ x / 4294967296 < 4294967296 := by omega
  have yh : 0 ≤ y / 4294967296 ∧ y / 4294967296 < 4294967296 := by omega
  rw [mask32m hx.1 hx.2, mask32m hy.1 hy.2]
  have p1 := half_mul xh yh
  have p2 := half_mul xh yl
  have p3 := half_mul xl yh
  have p4 := half_mul xl yl
  have e : x * y = (x / 4294967296 * (y / 4294967296)) * 18446744073709551616 + (x / 4294967296 * (y % 4294967296) + x % 4294967296 * (y / 4294967296)) * 4294967296 + x % 4294967296 * (y % 4294967296) := by
    generalize x / 4294967296 = a at *
    generalize x % 4294967296 = b at *
    generalize y / 4294967296 = c at *
    generalize y % 4294967296 = d at *
    subst ex ey
    grind
  rw [e]
  generalize x / 4294967296 * (y / 4294967296) = A at *
  generalize x / 4294967296 * (y % 4294967296) = B at *
  generalize x % 4294967296 * (y / 4294967296) = C at *
  generalize x % 4294967296 * (y % 4294967296) = D at *
  clear e ex ey xl yl xh yh hx hy
  rw [wu64_of (x := A) p1.1 (by omega), wu64_of (x := B) p2.1 (by omega), wu64_of (x := C) p3.1 (by omega), wu64_of (x := D) p4.1 (by omega)]
  rw [wu64_of (x := B + D / 4294967296) (by omega) (by omega)]
  rw [mask32m (x := B + D / 4294967296) (by omega) (by omega)]
  rw [wu64_of (x := (B + D / 4294967296) % 4294967296 + C) (by omega) (by omega)]
  rw [wu64_of (x := A + (B + D / 4294967296) / 4294967296) (by omega) (by omega)]
  rw [wu64_of (x := A + (B + D / 4294967296) / 4294967296 + _) (by omega) (by omega)]
  exact ⟨_, _, rfl, by rw [wu64]; omega, by omega, by rw [wu64]; omega⟩
theorem add0_of {x y : Int} (hx : 0 ≤ x ∧ x < 18446744073709551616) (hy : 0 ≤ y ∧ y < 18446744073709551616) :
    add64_s x y 0 + 18446744073709551616 * add64_c x y 0 = x + y ∧ (0 ≤ add64_s x y 0 ∧ add64_s x y 0 < 18446744073709551616) ∧ (add64_c x y 0 = 0 ∨ add64_c x y 0 = 1) := by
  unfold add64_s add64_c
  omega
theorem getD_set_ne {l : List Int} {i j : Nat} {v : Int} (h : i ≠ j) : (l.set i v).getD j 0 = l.getD j 0 := by
  rw [List.getD_eq_getElem?_getD, List.getElem?_set_ne h, ← List.getD_eq_getElem?_getD]
theorem school_key {W p t B x y c o s Q : Int} (h : s + B * Q = x * y + o + c) : p + W * (s - o) + W * B * (x * t + Q) = p + W * (x * (y + B * t) + c) := by
  have e9 : W * (x * (y + B * t) + c) = W * (x * y + o + c) - W * o + W * (B * (x * t)) := by grind
  rw [e9, ← h]
  grind
theorem school_digit {x y hi lo o c s1 q1 s2 q2 : Int} (hx : 0 ≤ x ∧ x < 18446744073709551616) (hy : 0 ≤ y ∧ y < 18446744073709551616) (h3 : 0 ≤ hi ∧ hi < 18446744073709551616) (e2 : hi * 18446744073709551616 + lo = x * y) (ho : 0 ≤ o ∧ o < 18446744073709551616) (hc : 0 ≤ c ∧ c < 18446744073709551616)
    (a1 : s1 + 18446744073709551616 * q1 = lo + o) (a3 : q1 = 0 ∨ q1 = 1) (b1 : s2 + 18446744073709551616 * q2 = s1 + c) (b2 : 0 ≤ s2) (b3 : q2 = 0 ∨ q2 = 1) :
    0 ≤ hi + q1 ∧ hi + q1 < 18446744073709551616 ∧ 0 ≤ hi + q1 + q2 ∧ hi + q1 + q2 < 18446744073709551616 ∧ s2 + 18446744073709551616 * (hi + q1 + q2) = x * y + o + c := by
  have hxy : x * y ≤ 18446744073709551615 * 18446744073709551615 := Int.mul_le_mul (by omega) (by omega) hy.1 (by omega)
  have h0 : (18446744073709551615 : Int) * 18446744073709551615 = 340282366920938463426481119284349108225 := by decide
  rw [h0] at hxy
  generalize x * y = z at *
  omega
theorem school_l1 (l0 l1 : List Int) (i : Nat) (x m : Int) (hx : 0 ≤ x ∧ x < 18446744073709551616) (d1 : Dig (b64 : Int) l1) {res : List Int} : ∀ (S P out : List Int) (c : Int), l1 = P ++ S → out.length ≤ 1000000 → i + l1.length < out.length → Dig (b64 : Int) out → 0 ≤ c ∧ c < 18446744073709551616 → out.getD (i + l1.length) 0 = 0 →
    (∀ out' : List Int, out'.length = out.length → Dig (b64 : Int) out' → (∀ j, i + l1.length < j → out'.getD j 0 = out.getD j 0) → val (b64 : Int) out' = val (b64 : Int) out + (b64 : Int) ^ (i + P.length) * (x * val (b64 : Int) S + c) →
      Evt (fun k => nat_school.l0 k l1 out' l0 m (wrap64 ((i : Int) + 1))) res) →
    Evt (fun k => nat_school.l1 k l1 out (i : Int) x c l0 m (i : Int) l1 (l1.length : Int) (P.length : Int)) res := by
  intro S
  induction S with
  | nil =>
    intro P out c hl hlen hfit dO hc h0 cont
    obtain rfl : l1 = P := by simpa using hl
    refine Evt.succ ?_
    simp only [nat_school.l1]
    rw [w64 (x := (i : Int) + (l1.length : Int)) (by omega) (by omega)]
    refine Evt.ite_neg (by omega) (Evt.ite_pos (by omega) (Evt.ite_pos (by omega) ?_))
    have e : ((i : Int) + (l1.length : Int)).toNat = i + l1.length := by omega
    rw [e]
    have hB : (b64 : Int) = 18446744073709551616 := rfl
    refine cont _ (by simp) (dO.set _ (by rw [hB]; exact hc)) (fun j hj => getD_set_ne (by omega)) ?_
    rw [val_set _ _ _ _ hfit, h0]
    simp [val]
  | cons y S ih =>
    intro P out c hl hlen hfit dO hc h0 cont
    have hB : (b64 : Int) = 18446744073709551616 := rfl
    have hll : l1.length = P.length + (S.length + 1) := by rw [hl]; simp
    have hy : 0 ≤ y ∧ y < 18446744073709551616 := by
      have := d1 y (by rw [hl]; simp)
      rwa [hB] at this
    refine Evt.succ ?_
    simp only [nat_school.l1]
    refine Evt.ite_pos (by omega) (Evt.ite_pos (by omega) (Evt.ite_pos (by omega) ?_))
    have er : rd l1 (P.length : Int) = y := by rw [rd_nat, hl]; simp
    rw [er]
    obtain ⟨hi, lo, e1, e2, h3, h4⟩ := bits_Mul64_eq hx hy
    refine Evt.bind (Evt.of fun _ => e1) ?_
    rw [w64 (x := (i : Int) + (P.length : Int)) (by omega) (by omega)]
    refine Evt.ite_pos (by omega) (Evt.ite_pos (by omega) (Evt.ite_pos (carry_of (Or.inl rfl)) ?_))
    rw [show (i : Int) + (P.length : Int) = ((i + P.length : Nat) : Int) from by omega, rd_nat, Int.toNat_natCast]
    have ho := dO.getD b64_pos (i + P.length)
    rw [hB] at ho
    generalize hO : out.getD (i + P.length) 0 = o at *
    obtain ⟨a1, a2, a3⟩ := add0_of h4 ho
    generalize add64_s lo o 0 = s1 at *
    generalize add64_c lo o 0 = q1 at *
    obtain ⟨b1, b2, b3⟩ := add0_of a2 hc
    generalize add64_s s1 c 0 = s2 at *
    generalize add64_c s1 c 0 = q2 at *
    obtain ⟨k0, hq1, k1, hq2, k2⟩ := school_digit hx hy h3 e2 ho hc a1 a3 b1 b2.1 b3
    rw [wu64_of (x := hi + q1) k0 hq1, wu64_of (x := hi + q1 + q2) k1 hq2, w64 (x := (P.length : Int) + 1) (by omega) (by omega)]
    have h := ih (P ++ [y]) (out.set (i + P.length) s2) (hi + q1 + q2) (by rw [hl]; simp) (by simpa using hlen) (by simpa using hfit) (dO.set _ (by rw [hB]; exact b2)) ⟨k1, hq2⟩ (by rw [getD_set_ne (by omega)]; exact h0) ?_
    · rw [show ((P ++ [y]).length : Int) = (P.length : Int) + 1 from by simp] at h
      exact h
    · intro out' hl' d' hj' hv
      refine cont out' (by rw [hl']; simp) d' (fun j hj => by rw [hj' j hj, getD_set_ne (by omega)]) ?_
      rw [hv, val_set _ _ _ _ (by omega), hO, List.length_append, List.length_singleton, ← Nat.add_assoc, Int.pow_succ]
      simp only [val]
      exact school_key (by rw [hB]; exact k2)
theorem school_l0 (l0 l1 : List Int) (h0 : l0.length ≤ 100000) (h1 : l1.length ≤ 100000) (d0 : Dig (b64 : Int) l0) (d1 : Dig (b64 : Int) l1) (n : Nat) : ∀ (i : Nat) (out : List Int), i + n = l0.length → out.length = l0.length + l1.length → Dig (b64 : Int) out → (∀ j, i + l1.length ≤ j → out.getD j 0 = 0) → val (b64 : Int) out = val (b64 : Int) (l0.take i) * val (b64 : Int) l1 →
    Evt (fun k => nat_school.l0 k l1 out l0 (l0.length : Int) (i : Int)) (limbs (num l0 * num l1)) := by
  induction n with
  | zero =>
    intro i out hi hl dO _ hv
    refine Evt.succ ?_
    simp only [nat_school.l0]
    refine Evt.ite_neg (by omega) ?_
    refine Evt.bind (nat_trim_ev out (by simp [maxLen]; omega)) ?_
    rw [strip_limbs dO]
    have e : num out = num l0 * num l1 := by
      have e1 := num_val dO
      rw [hv, List.take_of_length_le (by omega), ← num_val d0, ← num_val d1, ← Int.natCast_mul] at e1
      omega
    rw [e]
    exact Evt.pure _
  | succ n ih =>
    intro i out hi hl dO hz hv
    have hil : i < l0.length := by omega
    refine Evt.succ ?_
    simp only [nat_school.l0]
    refine Evt.ite_pos (by omega) (Evt.ite_pos (by omega) (Evt.ite_pos (by omega) ?_))
    rw [rd_nat]
    have hx := d0.getD b64_pos i
    have hx' : 0 ≤ l0.getD i 0 ∧ l0.getD i 0 < 18446744073709551616 := hx
    have hg : l0.getD i 0 = l0[i] := by simp [hil]
    refine school_l1 l0 l1 i (l0.getD i 0) (l0.length : Int) hx' d1 l1 [] out 0 rfl (by omega) (by omega) dO (by omega) (hz _ (Nat.le_refl _)) ?_
    intro out' hl' d' hj' hv'
    rw [w64 (by omega) (by omega)]
    refine ih (i + 1) out' (by omega) (by omega) d' (fun j hj => by rw [hj' j (by omega), hz j (by omega)]) ?_
    rw [hv', hv, val_take_step _ _ _ hil, ← hg]
    simp only [List.length_nil, Nat.add_zero, Int.add_zero]
    grind
theorem nat_school_ev (l0 l1 : List Int) (h0 : l0.length ≤ 100000) (h1 : l1.length ≤ 100000) (d0 : Dig (b64 : Int) l0) (d1 : Dig (b64 : Int) l1) : Evt (fun k => nat_school.f k l0 l1) (limbs (num l0 * num l1)) := by
  unfold nat_school.f
  rw [w64 (by omega) (by omega), show ((l0.length : Int) + (l1.length : Int)).toNat = l0.length + l1.length from by omega]
  refine Evt.ite_pos (by omega) (Evt.ite_pos (by omega) ?_)
  refine school_l0 l0 l1 h0 h1 d0 d1 l0.length 0 _ (by omega) (by simp) (Dig.replicate b64_pos _) (fun j _ => ?_) ?_
  · rw [List.getD_eq_getElem?_getD, List.getElem?_replicate]
    split <;> rfl
  · rw [val_replicate]
    simp [val]
theorem add64_of {x y c : Int} (hx : 0 ≤ x ∧ x < 18446744073709551616) (hy : 0 ≤ y ∧ y < 18446744073709551616) (hc : c = 0 ∨ c = 1) :
    add64_s x y c + 18446744073709551616 * add64_c x y c = x + y + c ∧ (0 ≤ add64_s x y c ∧ add64_s x y c < 18446744073709551616) ∧ (add64_c x y c = 0 ∨ add64_c x y c = 1) := by
  unfold add64_s add64_c
  omega
theorem val_drop_step (B : Int) (a : List Int) (j : Nat) : val B (a.drop j) = a.getD j 0 + B * val B (a.drop (j + 1)) := by
  by_cases h : j < a.length
  · rw [List.drop_eq_getElem_cons h, val, List.getD_eq_getElem?_getD, List.getElem?_eq_getElem h]
    rfl
  · rw [List.drop_of_length_le (by omega), List.drop_of_length_le (by omega), List.getD_eq_getElem?_getD, List.getElem?_eq_none (by omega)]
    simp [val]
theorem nat_into_loop (a : List Int) (at_ : Nat) (da : Dig (b64 : Int) a) (n : Nat) : ∀ (i : Nat) (out : List Int) (c : Int), n + i = max out.length i → at_ ≤ i → i ≤ 1000000 → out.length ≤ 1000000 → Dig (b64 : Int) out → (c = 0 ∨ c = 1) →
    val (b64 : Int) out + (b64 : Int) ^ i * (val (b64 : Int) (a.drop (i - at_)) + c) < (b64 : Int) ^ out.length →
    ∃ r : List Int, Evt (fun k => nat_into.l0 k out a (at_ : Int) c (i : Int)) r ∧ Dig (b64 : Int) r ∧ r.length = out.length ∧ val (b64 : Int) r = val (b64 : Int) out + (b64 : Int) ^ i * (val (b64 : Int) (a.drop (i - at_)) + c) := by
  have hB : (b64 : Int) = 18446744073709551616 := rfl
  induction n with
  | zero =>
    intro i out c hn ha hi ho dO hc hf
    have hv0 := val_nonneg b64_pos dO
    have hd0 := val_nonneg b64_pos (da.drop (i - at_))
    have hpi : (0 : Int) < (b64 : Int) ^ i := Int.pow_pos (by rw [hB]; omega)
    have hpm : (b64 : Int) ^ out.length ≤ (b64 : Int) ^ i := pow_mono b64_pos (by omega)
    have hz : val (b64 : Int) (a.drop (i - at_)) + c = 0 := by
      by_cases h : val (b64 : Int) (a.drop (i - at_)) + c = 0
      · exact h
      · exfalso
        have h2 : (b64 : Int) ^ i * 1 ≤ (b64 : Int) ^ i * (val (b64 : Int) (a.drop (i - at_)) + c) := Int.mul_le_mul_of_nonneg_left (by omega) (by omega)
        omega
    refine ⟨out, ?_, dO, rfl, by rw [hz]; simp⟩
    refine Evt.succ ?_
    simp only [nat_into.l0]
    refine Evt.ite_neg (by omega) (Evt.succ ?_)
    simp only [nat_into.j1]
    refine Evt.ite_neg (by simp) (Evt.pure _)
  | succ n ih =>
    intro i out c hn ha hi ho dO hc hf
    have hio : i < out.length := by omega
    have hd0 := val_nonneg b64_pos (da.drop (i - at_))
    have hj : wrap64 ((i : Int) - (at_ : Int)) = ((i - at_ : Nat) : Int) := by rw [w64 (by omega) (by omega)]; omega
    have hO := dO.getD b64_pos i
    rw [hB] at hO
    have step : ∀ y : Int, y = a.getD (i - at_) 0 → ∃ r : List Int, Evt (fun k => nat_into.l0 k (out.set i (add64_s (out.getD i 0) y c)) a (at_ : Int) (add64_c (out.getD i 0) y c) (wrap64 ((i : Int) + 1))) r ∧ Dig (b64 : Int) r ∧ r.length = out.length ∧ val (b64 : Int) r = val (b64 : Int) out + (b64 : Int) ^ i * (val (b64 : Int) (a.drop (i - at_)) + c) := by
      intro y hy
      have hY := da.getD b64_pos (i - at_)
      rw [hB, ← hy] at hY
      obtain ⟨a1, a2, a3⟩ := add64_of hO hY hc
      have hvs := val_set (b64 : Int) out i (add64_s (out.getD i 0) y c) hio
      have hds := val_drop_step (b64 : Int) a (i - at_)
      rw [← hy] at hds
      generalize add64_s (out.getD i 0) y c = s at *
      generalize add64_c (out.getD i 0) y c = q at *
      have key : val (b64 : Int) (out.set i s) + (b64 : Int) ^ (i + 1) * (val (b64 : Int) (a.drop (i + 1 - at_)) + q) = val (b64 : Int) out + (b64 : Int) ^ i * (val (b64 : Int) (a.drop (i - at_)) + c) := by
        rw [hvs, hds, show i + 1 - at_ = i - at_ + 1 from by omega, Int.pow_succ]
        have e8 : s + (b64 : Int) * q = out.getD i 0 + y + c := by rw [hB]; omega
        generalize (b64 : Int) ^ i = W at *
        generalize val (b64 : Int) out = p at *
        generalize val (b64 : Int) (a.drop (i - at_ + 1)) = t at *
        generalize out.getD i 0 = o at *
        generalize (b64 : Int) = B at *
        have e9 : W * (y + B * t + c) = W * (o + y + c) - W * o + W * (B * t) := by grind
        rw [e9, ← e8]
        grind
      rw [w64 (by omega) (by omega)]
      have h := ih (i + 1) (out.set i s) q (by simp; omega) (by omega) (by omega) (by simpa using ho) (dO.set _ (by rw [hB]; exact a2)) a3 (by rw [key, List.length_set]; exact hf)
      obtain ⟨r, r1, r2, r3, r4⟩ := h
      exact ⟨r, r1, r2, by rw [r3, List.length_set], by rw [r4, key]⟩
    by_cases h1 : i - at_ < a.length
    · obtain ⟨r, r1, r2⟩ := step (a.getD (i - at_) 0) rfl
      refine ⟨r, ?_, r2⟩
      refine Evt.succ ?_
      simp only [nat_into.l0]
      rw [hj]
      refine Evt.ite_pos (by omega) (Evt.ite_pos (by omega) (Evt.succ ?_))
      simp only [nat_into.j1]
      rw [hj, rd_nat, rd_nat, Int.toNat_natCast]
      exact Evt.ite_pos trivial (Evt.ite_pos (by omega) (Evt.ite_pos (by omega) (Evt.ite_pos (by omega) (Evt.ite_pos (by omega) (Evt.ite_pos (carry_of hc) r1)))))
    · have hy0 : a.getD (i - at_) 0 = 0 := by
        rw [List.getD_eq_getElem?_getD, List.getElem?_eq_none (by omega)]
        rfl
      rcases hc with rfl | rfl
      · refine ⟨out, ?_, dO, rfl, ?_⟩
        · refine Evt.succ ?_
          simp only [nat_into.l0]
          rw [hj]
          refine Evt.ite_pos (by omega) (Evt.ite_neg (by omega) (Evt.succ ?_))
          simp only [nat_into.j1]
          exact Evt.ite_neg (by simp) (Evt.pure _)
        · rw [List.drop_of_length_le (by omega)]
          simp [val]
      · obtain ⟨r, r1, r2⟩ := step 0 hy0.symm
        refine ⟨r, ?_, r2⟩
        refine Evt.succ ?_
        simp only [nat_into.l0]
        rw [hj]
        refine Evt.ite_pos (by omega) (Evt.ite_neg (by omega) (Evt.succ ?_))
        simp only [nat_into.j1]
        rw [hj, rd_nat, Int.toNat_natCast]
        exact Evt.ite_pos (by simp) (Evt.ite_neg (by omega) (Evt.ite_pos (by omega) (Evt.ite_pos (by omega) (Evt.ite_pos (carry_of (Or.inr rfl)) r1))))
theorem nat_into_ev (out a : List Int) (at_ : Nat) (ha : at_ ≤ 1000000) (ho : out.length ≤ 1000000) (dO : Dig (b64 : Int) out) (da : Dig (b64 : Int) a) (hf : val (b64 : Int) out + (b64 : Int) ^ at_ * val (b64 : Int) a < (b64 : Int) ^ out.length) :
    ∃ r : List Int, Evt (fun k => nat_into.f k out a (at_ : Int)) r ∧ Dig (b64 : Int) r ∧ r.length = out.length ∧ val (b64 : Int) r = val (b64 : Int) out + (b64 : Int) ^ at_ * val (b64 : Int) a := by
  have h := nat_into_loop a at_ da (max out.length at_ - at_) at_ out 0 (by omega) (Nat.le_refl _) ha ho dO (Or.inl rfl) (by simpa using hf)
  obtain ⟨r, r1, r2, r3, r4⟩ := h
  refine ⟨r, ?_, r2, r3, by simpa using r4⟩
  unfold nat_into.f
  exact r1
def shlV (a : List Int) (n : Int) : List Int × Int :=
  if rightB a = true ∧ 0 ≤ n then (if a.length = 0 then ([], 0) else if 4096 < n then ([], 4) else toldV (num a * 2 ^ n.toNat)) else ([], 1)
theorem num_zeros_append {r : List Int} (d : Dig (b64 : Int) r) (m : Nat) : Dig (b64 : Int) (List.replicate m 0 ++ r) ∧ num (List.replicate m 0 ++ r) = b64 ^ m * num r := by
  have d2 : Dig (b64 : Int) (List.replicate m 0 ++ r) := Dig.append.2 ⟨Dig.replicate b64_pos m, d⟩
  refine ⟨d2, ?_⟩
  have h := num_val d2
  rw [val_append, val_replicate, List.length_replicate, ← num_val d, pow_cast] at h
  have : ((b64 ^ m : Nat) : Int) * (num r : Int) = ((b64 ^ m * num r : Nat) : Int) := by simp
  omega
theorem nat_Shl_ev (a : List Int) (n : Int) (ha : a.length ≤ maxLen) (da : Dig (b64 : Int) a) : Evt (fun k => nat_Shl.f k a n) (shlV a n) := by
  unfold nat_Shl.f shlV
  rw [nat_Right_eq ha]
  simp only [Option.bind_some]
  have J : ∀ x : Bool, (x = false → rightB a = true ∧ 0 ≤ n) → Evt (fun k => nat_Shl.j0 k a n x) (if x = true then ([], 1) else if a.length = 0 then ([], 0) else if 4096 < n then ([], 4) else toldV (num a * 2 ^ n.toNat)) := by
    intro x hx
    refine Evt.succ ?_
    simp only [nat_Shl.j0]
    refine Evt.cond (fun _ => Evt.pure _) (fun hc => ?_)
    have h := hx (by simpa using hc)
    obtain ⟨h1, c1⟩ := (rightB_iff a).1 h.1
    by_cases h0 : a.length = 0
    · rw [if_pos h0]; exact Evt.ite_pos (by omega) (Evt.pure _)
    · rw [if_neg h0]
      refine Evt.ite_neg (by omega) ?_
      by_cases hn : 4096 < n
      · rw [if_pos hn]; exact Evt.ite_pos (by omega) (Evt.pure _)
      · rw [if_neg hn]
        refine Evt.ite_neg (by omega) ?_
        obtain ⟨m, rfl⟩ := Int.eq_ofNat_of_zero_le h.2
        have e1 : Int.tdiv (m : Int) 64 = ((m / 64 : Nat) : Int) := by rw [Int.tdiv_eq_ediv_of_nonneg (by omega)]; omega
        have e2 : IntKind.u64.wrap (Int.tmod (m : Int) 64) = ((m % 64 : Nat) : Int) := by
          rw [Int.tmod_eq_emod_of_nonneg (by omega), wu64_of (by omega) (by omega)]; omega
        rw [e1, e2, w64 (show -9223372036854775808 ≤ ((m / 64 : Nat) : Int) by omega) (by omega)]
        refine Evt.ite_pos (by omega) (Evt.ite_pos (by omega) ?_)
        refine Evt.bind (Evt.pure _) ?_
        obtain ⟨r, g1, g2, g3, g4⟩ := nat_up_ev a da (by omega) (m % 64) (by omega)
        refine Evt.bind g1 ?_
        rw [Int.toNat_natCast, Int.toNat_natCast]
        refine Evt.ite_pos (by simp; omega) ?_
        obtain ⟨d2, k2⟩ := num_zeros_append g2 (m / 64)
        have h5 := nat_told_ev (List.replicate (m / 64) 0 ++ r) (by simp; omega) d2
        have e3 : b64 ^ (m / 64) * num r = num a * 2 ^ m := by
          rw [g4]
          rw [b64_pow2, Nat.mul_left_comm, ← Nat.pow_add, show 64 * (m / 64) + m % 64 = m from by omega]
        rw [k2, e3] at h5
        exact Evt.bind h5 (h := fun t _ => some (t.1, t.2)) (Evt.pure _)
  cases hA : rightB a with
  | true =>
    refine Evt.ite_pos rfl ((J _ (fun h => ⟨hA, by simpa using h⟩)).congr (fun k => rfl) ?_)
    by_cases hn : n < 0
    · rw [decide_eq_true hn, if_pos rfl, if_neg (show ¬ (true = true ∧ 0 ≤ n) by omega)]
    · rw [decide_eq_false hn, if_neg (by simp), if_pos (show true = true ∧ 0 ≤ n from ⟨rfl, by omega⟩)]
  | false =>
    refine Evt.ite_neg (by simp) ((J _ (fun h => by simp at h)).congr (fun k => rfl) ?_)
    simp
theorem len8 : ∀ n : Fin 256, bt (⟨#[0, 1, 2, 2, 3, 3, 3, 3, 4, 4, 4, 4, 4, 4, 4, 4, 5, 5, 5, 5, 5, 5, 5, 5, 5, 5, 5, 5, 5, 5, 5, 5, 6, 6, 6, 6, 6, 6, 6, 6, 6, 6, 6, 6, 6, 6, 6, 6, 6, 6, 6, 6, 6, 6, 6, 6, 6, 6, 6, 6, 6, 6, 6, 6, 7, 7, 7, 7, 7, 7, 7, 7, 7, 7, 7, 7, 7, 7, 7, 7, 7, 7, 7, 7, 7, 7, 7, 7, 7, 7, 7, 7, 7, 7, 7, 7, 7, 7, 7, 7, 7, 7, 7, 7, 7, 7, 7, 7, 7, 7, 7, 7, 7, 7, 7, 7, 7, 7, 7, 7, 7, 7, 7, 7, 7, 7, 7, 7, 8, 8, 8, 8, 8, 8, 8, 8, 8, 8, 8, 8, 8, 8, 8, 8, 8, 8, 8, 8, 8, 8, 8, 8, 8, 8, 8, 8, 8, 8, 8, 8, 8, 8, 8, 8, 8, 8, 8, 8, 8, 8, 8, 8, 8, 8, 8, 8, 8, 8, 8, 8, 8, 8, 8, 8, 8, 8, 8, 8, 8, 8, 8, 8, 8, 8, 8, 8, 8, 8, 8, 8, 8, 8, 8, 8, 8, 8, 8, 8, 8, 8, 8, 8, 8, 8, 8, 8, 8, 8, 8, 8, 8, 8, 8, 8, 8, 8, 8, 8, 8, 8, 8, 8, 8, 8, 8, 8, 8, 8, 8, 8, 8, 8, 8, 8, 8, 8, 8, 8, 8, 8, 8, 8, 8, 8, 8, 8]⟩ : ByteArray) ((n.val : Nat) : Int) = ((bl n.val : Nat) : Int) := by decide +kernel
theorem len8_at {x : Int} (h0 : 0 ≤ x) (h1 : x < 256) : bt (⟨#[0, 1, 2, 2, 3, 3, 3, 3, 4, 4, 4, 4, 4, 4, 4, 4, 5, 5, 5, 5, 5, 5, 5, 5, 5, 5, 5, 5, 5, 5, 5, 5, 6, 6, 6, 6, 6, 6, 6, 6, 6, 6, 6, 6, 6, 6, 6, 6, 6, 6, 6, 6, 6, 6, 6, 6, 6, 6, 6, 6, 6, 6, 6, 6, 7, 7, 7, 7, 7, 7, 7, 7, 7, 7, 7, 7, 7, 7, 7, 7, 7, 7, 7, 7, 7, 7, 7, 7, 7, 7, 7, 7, 7, 7, 7, 7, 7, 7, 7, 7, 7, 7, 7, 7, 7, 7, 7, 7, 7, 7, 7, 7, 7, 7, 7, 7, 7, 7, 7, 7, 7, 7, 7, 7, 7, 7, 7, 7, 8, 8, 8, 8, 8, 8, 8, 8, 8, 8, 8, 8, 8, 8, 8, 8, 8, 8, 8, 8, 8, 8, 8, 8, 8, 8, 8, 8, 8, 8, 8, 8, 8, 8, 8, 8, 8, 8, 8, 8, 8, 8, 8, 8, 8, 8, 8, 8, 8, 8, 8, 8, 8, 8, 8, 8, 8, 8, 8, 8, 8, 8, 8, 8, 8, 8, 8, 8, 8, 8, 8, 8, 8, 8, 8, 8, 8, 8, 8, 8, 8, 8, 8, 8, 8, 8, 8, 8, 8, 8, 8, 8, 8, 8, 8, 8, 8, 8, 8, 8, 8, 8, 8, 8, 8, 8, 8, 8, 8, 8, 8, 8, 8, 8, 8, 8, 8, 8, 8, 8, 8, 8, 8, 8, 8, 8, 8, 8]⟩ : ByteArray) x = ((bl x.toNat : Nat) : Int) := by
  obtain ⟨n, rfl⟩ := Int.eq_ofNat_of_zero_le h0
  exact len8 ⟨n, by omega⟩
theorem len64_j {x : Int} (h0 : 0 ≤ x) (h1 : x < 4294967296) (c : Int) (hc : 0 ≤ c ∧ c ≤ 1000) : Evt (fun k => bits_Len64.j0 k x c) (c + ((bl x.toNat : Nat) : Int)) := by
  have key : ∀ (s : Nat) (y : Int), 0 ≤ y → y < 256 → (s ≤ 24) → (y = 0 → s = 0) → y = x / 2 ^ s → ((bl x.toNat : Nat) : Int) = (s : Int) + ((bl y.toNat : Nat) : Int) := by
    intro s y hy0 hy1 hs hz he
    have : bl x.toNat = s + bl y.toNat := by
      by_cases h : y = 0
      · have hs0 := hz h
        subst hs0
        simp at he
        rw [he, Nat.zero_add]
      · have e : y.toNat = x.toNat / 2 ^ s := by
          rw [he]
          have h2 : x = ((x.toNat : Nat) : Int) := by omega
          rw [h2]
          have h3 : ((2 : Int) ^ s) = ((2 ^ s : Nat) : Int) := by simp
          rw [h3, ← Int.natCast_ediv, Int.toNat_natCast, Int.toNat_natCast]
        rw [e]
        exact bl_shift x.toNat s (by rw [← e]; omega)
    omega
  refine Evt.succ ?_
  simp only [bits_Len64.j0]
  by_cases c1 : x ≥ 65536
  · refine Evt.ite_pos c1 ?_
    by_cases c2 : x / 65536 ≥ 256
    · refine Evt.ite_pos c2 (Evt.ite_pos (by omega) (Evt.ite_pos (by omega) ?_))
      have e : x / 65536 / 256 % 256 = x / 65536 / 256 := by omega
      rw [e, len8_at (by omega) (by omega)]
      have k1 := key 24 (x / 65536 / 256) (by omega) (by omega) (by omega) (by omega) (by rw [Int.ediv_ediv_of_nonneg (by omega)]; rfl)
      have k2 := bl_le8 (x := (x / 65536 / 256).toNat) (by omega)
      rw [w64 (show -9223372036854775808 ≤ c + 16 by omega) (by omega), w64 (show -9223372036854775808 ≤ c + 16 + 8 by omega) (by omega), w64 (show -9223372036854775808 ≤ ((bl (x / 65536 / 256).toNat : Nat) : Int) by omega) (by omega), w64 (by omega) (by omega), k1]
      refine (Evt.pure _).congr (fun k => rfl) (by omega)
    · refine Evt.ite_neg c2 (Evt.ite_pos (by omega) (Evt.ite_pos (by omega) ?_))
      have e : x / 65536 % 256 = x / 65536 := by omega
      rw [e, len8_at (by omega) (by omega)]
      have k1 := key 16 (x / 65536) (by omega) (by omega) (by omega) (by omega) rfl
      have k2 := bl_le8 (x := (x / 65536).toNat) (by omega)
      rw [w64 (show -9223372036854775808 ≤ c + 16 by omega) (by omega), w64 (show -9223372036854775808 ≤ ((bl (x / 65536).toNat : Nat) : Int) by omega) (by omega), w64 (by omega) (by omega), k1]
      refine (Evt.pure _).congr (fun k => rfl) (by omega)
  · refine Evt.ite_neg c1 ?_
    by_cases c2 : x ≥ 256
    · refine Evt.ite_pos c2 (Evt.ite_pos (by omega) (Evt.ite_pos (by omega) ?_))
      have e : x / 256 % 256 = x / 256 := by omega
      rw [e, len8_at (by omega) (by omega)]
      have k1 := key 8 (x / 256) (by omega) (by omega) (by omega) (by omega) rfl
      have k2 := bl_le8 (x := (x / 256).toNat) (by omega)
      rw [w64 (show -9223372036854775808 ≤ c + 8 by omega) (by omega), w64 (show -9223372036854775808 ≤ ((bl (x / 256).toNat : Nat) : Int) by omega) (by omega), w64 (by omega) (by omega), k1]
      refine (Evt.pure _).congr (fun k => rfl) (by omega)
    · refine Evt.ite_neg c2 (Evt.ite_pos (by omega) (Evt.ite_pos (by omega) ?_))
      have e : x % 256 = x := by omega
      rw [e, len8_at (by omega) (by omega)]
      have k2 := bl_le8 (x := x.toNat) (by omega)
      rw [w64 (show -9223372036854775808 ≤ ((bl x.toNat : Nat) : Int) by omega) (by omega), w64 (by omega) (by omega)]
      exact Evt.pure _
theorem bits_Len64_ev {x : Int} (h0 : 0 ≤ x) (h1 : x < 18446744073709551616) : Evt (fun k => bits_Len64.f k x) ((bl x.toNat : Nat) : Int) := by
  unfold bits_Len64.f
  by_cases c1 : x ≥ 4294967296
  · refine Evt.ite_pos c1 ?_
    refine (len64_j (x := x / 4294967296) (by omega) (by omega) 32 (by omega)).congr (fun k => rfl) ?_
    have e : (x / 4294967296).toNat = x.toNat / 2 ^ 32 := by omega
    have := bl_shift x.toNat 32 (by omega)
    rw [e]
    omega
  · refine Evt.ite_neg c1 ?_
    exact (len64_j (x := x) (by omega) (by omega) 0 (by omega)).congr (fun k => rfl) (by omega)
theorem div_corr {Y a b u c q r : Int} (hY : Y = a * 4294967296 + b) (ha : 2147483648 ≤ a ∧ a < 4294967296) (hb : 0 ≤ b ∧ b < 4294967296) (hu : 0 ≤ u ∧ u < Y) (hc : 0 ≤ c ∧ c < 4294967296)
    (hq : (u * 4294967296 + c) / Y ≤ q) (hq2 : q ≤ 4294967297) (hr : r = u - q * a) (hr0 : 0 ≤ r ∧ r < 4294967296) :
    ((q ≥ 4294967296 ∨ q * b > 4294967296 * r + c) → (u * 4294967296 + c) / Y ≤ q - 1) ∧ (¬ (q ≥ 4294967296 ∨ q * b > 4294967296 * r + c) → (u * 4294967296 + c) / Y = q) ∧
    ((q ≥ 4294967296 ∨ q * b > 4294967296 * r + c) → r + a ≥ 4294967296 → (u * 4294967296 + c) / Y = q - 1) := by
  have hY0 : 0 < Y := by omega
  have e1 : q * Y = q * a * 4294967296 + q * b := by rw [hY]; grind
  have e2 : (q - 1) * Y = q * Y - Y := by grind
  have lt : (u * 4294967296 + c) / Y < 4294967296 := by
    apply Int.ediv_lt_of_lt_mul hY0
    omega
  have up : (q ≥ 4294967296 ∨ q * b > 4294967296 * r + c) → (u * 4294967296 + c) / Y ≤ q - 1 := by
    intro h
    rcases h with h | h
    · omega
    · have : (u * 4294967296 + c) / Y < q := by
        apply Int.ediv_lt_of_lt_mul hY0
        rw [e1]; omega
      omega
  refine ⟨up, fun h => ?_, fun h h2 => ?_⟩
  · have : q ≤ (u * 4294967296 + c) / Y := by
      rw [Int.le_ediv_iff_mul_le hY0, e1]
      omega
    omega
  · have h3 := up h
    have h4 : (q - 1) * b ≤ 4294967296 * 4294967295 := by
      by_cases h5 : q - 1 ≤ 0
      · have : (q - 1) * b ≤ 0 := Int.mul_nonpos_of_nonpos_of_nonneg h5 hb.1
        omega
      · exact Int.mul_le_mul (by omega) (by omega) hb.1 (by omega)
    have h6 : (q - 1) * b = q * b - b := by grind
    have : q - 1 ≤ (u * 4294967296 + c) / Y := by
      rw [Int.le_ediv_iff_mul_le hY0, e2, e1]
      omega
    omega
theorem mul_u64 {x y : Int} (hx : 0 ≤ x ∧ x < 4294967296) (hy : 0 ≤ y ∧ y < 4294967296) : 0 ≤ x * y ∧ x * y < 18446744073709551616 := by
  refine ⟨Int.mul_nonneg hx.1 hy.1, ?_⟩
  have : x * y ≤ 4294967295 * 4294967295 := Int.mul_le_mul (by omega) (by omega) hy.1 (by omega)
  omega
theorem div_l0 {Y a b u c c0 s : Int} (hY : Y = a * 4294967296 + b) (ha : 2147483648 ≤ a ∧ a < 4294967296) (hb : 0 ≤ b ∧ b < 4294967296) (hu : 0 ≤ u ∧ u < Y) (hc : 0 ≤ c ∧ c < 4294967296) {res : Int × Int}
    (fin : Evt (fun k => bits_Div64.j2 k Y s a b u c c0 ((u * 4294967296 + c) / Y)) res) (n : Nat) : ∀ q r : Int, (u * 4294967296 + c) / Y ≤ q → q ≤ 4294967297 → r = u - q * a → 0 ≤ r ∧ r < 4294967296 → q - (u * 4294967296 + c) / Y ≤ n →
    Evt (fun k => bits_Div64.l0 k Y s a b u c c0 q r) res := by
  have hQ0 : 0 ≤ (u * 4294967296 + c) / Y := Int.ediv_nonneg (by omega) (by omega)
  induction n with
  | zero =>
    intro q r hq hq2 hr hr0 hn
    obtain ⟨g1, g2, g3⟩ := div_corr hY ha hb hu hc hq hq2 hr hr0
    have hno : ¬ (q ≥ 4294967296 ∨ q * b > 4294967296 * r + c) := fun h => by have := g1 h; omega
    refine Evt.succ ?_
    simp only [bits_Div64.l0]
    refine Evt.ite_neg (fun h => hno (Or.inl h)) ?_
    have hm := mul_u64 (x := q) (y := b) ⟨by omega, by omega⟩ hb
    rw [wu64_of hm.1 hm.2, wu64_of (x := 4294967296 * r) (by omega) (by omega), wu64_of (x := 4294967296 * r + c) (by omega) (by omega)]
    refine Evt.succ ?_
    simp only [bits_Div64.j1]
    refine Evt.ite_neg (by simp only [decide_eq_true_eq]; exact fun h => hno (Or.inr h)) ?_
    rw [← g2 hno]
    exact fin
  | succ n ih =>
    intro q r hq hq2 hr hr0 hn
    obtain ⟨g1, g2, g3⟩ := div_corr hY ha hb hu hc hq hq2 hr hr0
    have key : ∀ t : Bool, (t = true ↔ (q ≥ 4294967296 ∨ q * b > 4294967296 * r + c)) → Evt (fun k => bits_Div64.j1 k Y s a b u c c0 q r t) res := by
      intro t ht
      refine Evt.succ ?_
      simp only [bits_Div64.j1]
      by_cases h : t = true
      · have h' := ht.1 h
        have hq1 := g1 h'
        refine Evt.ite_pos h ?_
        rw [wu64_of (x := r + a) (by omega) (by omega), wu64_of (x := q - 1) (by omega) (by omega)]
        by_cases h2 : r + a ≥ 4294967296
        · refine Evt.ite_pos h2 ?_
          rw [← g3 h' h2]
          exact fin
        · refine Evt.ite_neg h2 (ih (q - 1) (r + a) hq1 (by omega) ?_ (by omega) (by omega))
          rw [hr]; grind
      · refine Evt.ite_neg h ?_
        rw [← g2 (fun h' => h (ht.2 h'))]
        exact fin
    refine Evt.succ ?_
    simp only [bits_Div64.l0]
    by_cases h : q ≥ 4294967296
    · exact Evt.ite_pos h (key true ⟨fun _ => Or.inl h, fun _ => rfl⟩)
    · refine Evt.ite_neg h (key _ ?_)
      have hm := mul_u64 (x := q) (y := b) ⟨by omega, by omega⟩ hb
      rw [wu64_of hm.1 hm.2, wu64_of (x := 4294967296 * r) (by omega) (by omega), wu64_of (x := 4294967296 * r + c) (by omega) (by omega), decide_eq_true_eq]
      exact ⟨fun h => Or.inr h, fun h' => by rcases h' with h' | h'; exact absurd h' h; exact h'⟩
theorem div_left {Y u c : Int} (hY : 0 < Y ∧ Y < 18446744073709551616) (hu : 0 ≤ u ∧ u < Y) (hc : 0 ≤ c ∧ c < 4294967296) :
    IntKind.u64.wrap ((IntKind.u64.wrap ((IntKind.u64.wrap (u * 4294967296)) + c)) - (IntKind.u64.wrap ((u * 4294967296 + c) / Y * Y))) = (u * 4294967296 + c) % Y := by
  have h1 : (u * 4294967296 + c) % Y + (u * 4294967296 + c) / Y * Y = u * 4294967296 + c := by rw [Int.mul_comm (_ / Y)]; exact Int.emod_add_mul_ediv _ _
  have h2 := Int.emod_nonneg (u * 4294967296 + c) (show Y ≠ 0 by omega)
  have h3 := Int.emod_lt_of_pos (u * 4294967296 + c) hY.1
  generalize (u * 4294967296 + c) % Y = m at *
  generalize (u * 4294967296 + c) / Y * Y = p at *
  simp only [wu64]
  omega
theorem div_first {Y a b u : Int} (c : Int) (hY : Y = a * 4294967296 + b) (ha : 2147483648 ≤ a ∧ a < 4294967296) (hb : 0 ≤ b ∧ b < 4294967296) (hu : 0 ≤ u ∧ u < Y) (hc : 0 ≤ c ∧ c < 4294967296) :
    IntKind.u64.wrap (Int.tdiv u a) = u / a ∧ IntKind.u64.wrap (u - IntKind.u64.wrap (u / a * a)) = u - u / a * a ∧ (u * 4294967296 + c) / Y ≤ u / a ∧ u / a ≤ 4294967297 ∧ 0 ≤ u - u / a * a ∧ u - u / a * a < 4294967296 := by
  have h1 : u % a + u / a * a = u := by rw [Int.mul_comm (u / a)]; exact Int.emod_add_mul_ediv _ _
  have h2 := Int.emod_nonneg u (show a ≠ 0 by omega)
  have h3 := Int.emod_lt_of_pos u (show 0 < a by omega)
  have h4 := Int.ediv_nonneg hu.1 (show 0 ≤ a by omega)
  have h5 : u / a < 4294967298 := by
    apply Int.ediv_lt_of_lt_mul (by omega)
    omega
  have h6 : (u * 4294967296 + c) / Y ≤ u / a := by
    have hY0 : 0 < Y := by omega
    have : (u * 4294967296 + c) / Y < u / a + 1 := by
      apply Int.ediv_lt_of_lt_mul hY0
      have e : (u / a + 1) * Y = (u / a * a + a) * 4294967296 + (u / a) * b + b := by rw [hY]; grind
      have h7 := Int.mul_nonneg h4 hb.1
      rw [e]
      omega
    omega
  rw [Int.tdiv_eq_ediv_of_nonneg hu.1, wu64_of h4 (by omega)]
  have h8 := Int.mul_nonneg h4 (show 0 ≤ a by omega)
  refine ⟨rfl, ?_, h6, by omega, by omega, by omega⟩
  rw [wu64_of (x := u / a * a) (by omega) (by omega), wu64_of (by omega) (by omega)]
theorem div_l1 {Y a b u c q1 : Int} (s : Nat) (hs : s < 64) (hY : Y = a * 4294967296 + b) (ha : 2147483648 ≤ a ∧ a < 4294967296) (hb : 0 ≤ b ∧ b < 4294967296) (hu : 0 ≤ u ∧ u < Y) (hc : 0 ≤ c ∧ c < 4294967296)
    (hq1 : 0 ≤ q1 ∧ q1 < 4294967296) (n : Nat) : ∀ q r : Int, (u * 4294967296 + c) / Y ≤ q → q ≤ 4294967297 → r = u - q * a → 0 ≤ r ∧ r < 4294967296 → q - (u * 4294967296 + c) / Y ≤ n →
    Evt (fun k => bits_Div64.l1 k Y (s : Int) a b c q1 r u q) (q1 * 4294967296 + (u * 4294967296 + c) / Y, (u * 4294967296 + c) % Y / 2 ^ s) := by
  have hQ0 : 0 ≤ (u * 4294967296 + c) / Y := Int.ediv_nonneg (by omega) (by omega)
  have hQ1 : (u * 4294967296 + c) / Y < 4294967296 := by
    apply Int.ediv_lt_of_lt_mul (by omega)
    omega
  have hl := div_left (Y := Y) (u := u) (c := c) ⟨by omega, by omega⟩ hu hc
  induction n with
  | zero =>
    intro q r hq hq2 hr hr0 hn
    obtain ⟨g1, g2, g3⟩ := div_corr hY ha hb hu hc hq hq2 hr hr0
    have hno : ¬ (q ≥ 4294967296 ∨ q * b > 4294967296 * r + c) := fun h => by have := g1 h; omega
    refine Evt.succ ?_
    simp only [bits_Div64.l1]
    refine Evt.ite_neg (fun h => hno (Or.inl h)) ?_
    have hm := mul_u64 (x := q) (y := b) ⟨by omega, by omega⟩ hb
    rw [wu64_of hm.1 hm.2, wu64_of (x := 4294967296 * r) (by omega) (by omega), wu64_of (x := 4294967296 * r + c) (by omega) (by omega)]
    refine Evt.succ ?_
    simp only [bits_Div64.j4]
    refine Evt.ite_neg (by simp only [decide_eq_true_eq]; exact fun h => hno (Or.inr h)) (Evt.ite_pos (by omega) ?_)
    rw [← g2 hno, hl, shr_u64 _ _ (by omega), wu64_of (x := q1 * 4294967296) (by omega) (by omega), wu64_of (by omega) (by omega)]
    exact Evt.pure _
  | succ n ih =>
    intro q r hq hq2 hr hr0 hn
    obtain ⟨g1, g2, g3⟩ := div_corr hY ha hb hu hc hq hq2 hr hr0
    have key : ∀ t : Bool, (t = true ↔ (q ≥ 4294967296 ∨ q * b > 4294967296 * r + c)) → Evt (fun k => bits_Div64.j4 k Y (s : Int) a b c q1 r u q t) (q1 * 4294967296 + (u * 4294967296 + c) / Y, (u * 4294967296 + c) % Y / 2 ^ s) := by
      intro t ht
      refine Evt.succ ?_
      simp only [bits_Div64.j4]
      by_cases h : t = true
      · have h' := ht.1 h
        have hq1 := g1 h'
        refine Evt.ite_pos h ?_
        rw [wu64_of (x := r + a) (by omega) (by omega), wu64_of (x := q - 1) (by omega) (by omega)]
        by_cases h2 : r + a ≥ 4294967296
        · refine Evt.ite_pos h2 (Evt.ite_pos (by omega) ?_)
          rw [← g3 h' h2, hl, shr_u64 _ _ (by omega), wu64_of (x := q1 * 4294967296) (by omega) (by omega), wu64_of (by omega) (by omega)]
          exact Evt.pure _
        · refine Evt.ite_neg h2 (ih (q - 1) (r + a) hq1 (by omega) ?_ (by omega) (by omega))
          rw [hr]; grind
      · refine Evt.ite_neg h (Evt.ite_pos (by omega) ?_)
        rw [← g2 (fun h' => h (ht.2 h')), hl, shr_u64 _ _ (by omega), wu64_of (x := q1 * 4294967296) (by omega) (by omega), wu64_of (by omega) (by omega)]
        exact Evt.pure _
    refine Evt.succ ?_
    simp only [bits_Div64.l1]
    by_cases h : q ≥ 4294967296
    · exact Evt.ite_pos h (key true ⟨fun _ => Or.inl h, fun _ => rfl⟩)
    · refine Evt.ite_neg h (key _ ?_)
      have hm := mul_u64 (x := q) (y := b) ⟨by omega, by omega⟩ hb
      rw [wu64_of hm.1 hm.2, wu64_of (x := 4294967296 * r) (by omega) (by omega), wu64_of (x := 4294967296 * r + c) (by omega) (by omega), decide_eq_true_eq]
      exact ⟨fun h => Or.inr h, fun h' => by rcases h' with h' | h'; exact absurd h' h; exact h'⟩
theorem mask32 {x : Int} (h0 : 0 ≤ x) (h1 : x < 18446744073709551616) : Go.bits .and .u64 x 4294967295 = x % 4294967296 := by
  have h := bits_mask .u64 64 (by decide) wraps_u64 32 (by decide) x h0 (by omega)
  rw [show (2 : Int) ^ 32 = 4294967296 from by decide] at h
  exact h
theorem bits_Div64_ev {hi lo y : Int} (h1 : 0 ≤ hi ∧ hi < y) (h2 : 0 ≤ lo ∧ lo < 18446744073709551616) (h3 : y < 18446744073709551616) :
    Evt (fun k => bits_Div64.f k hi lo y) ((hi * 18446744073709551616 + lo) / y, (hi * 18446744073709551616 + lo) % y) := by
  unfold bits_Div64.f
  refine Evt.ite_neg (by omega) (Evt.ite_neg (by omega) ?_)
  by_cases h0 : hi = 0
  · subst h0
    have h4 := Int.ediv_nonneg h2.1 (show 0 ≤ y by omega)
    have h5 := Int.ediv_le_self y h2.1
    refine Evt.ite_pos rfl ?_
    rw [Int.zero_mul, Int.zero_add, Int.tdiv_eq_ediv_of_nonneg h2.1, Int.tmod_eq_emod_of_nonneg h2.1, wu64_of h4 (by omega)]
    exact Evt.pure _
  · refine Evt.ite_neg h0 ?_
    have hbl := bl_le (x := y.toNat) (m := 64) (by omega)
    have hbp := bl_pos (n := y.toNat) (by omega)
    have hb1 := bl_lt y.toNat
    have hb2 := bl_ge (n := y.toNat) (by omega)
    obtain ⟨s, hs⟩ : ∃ s, s = 64 - bl y.toNat := ⟨_, rfl⟩
    have hs64 : s < 64 := by omega
    refine Evt.bind (Evt.bind (h := fun t _ => some (wrap64 (64 - t))) (bits_Len64_ev (x := y) (by omega) h3) (Evt.pure _)) ?_
    rw [show wrap64 (64 - ((bl y.toNat : Nat) : Int)) = (s : Int) from by rw [w64 (by omega) (by omega)]; omega]
    rw [wu64_of (x := (s : Int)) (by omega) (by omega), wu64_of (x := 64 - (s : Int)) (by omega) (by omega), show 64 - (s : Int) = ((64 - s : Nat) : Int) from by omega]
    rw [shl_u64 y s (by omega), shl_u64 hi s (by omega), shl_u64 lo s (by omega), shr_u64 lo (64 - s) (by omega)]
    have hp := pow2_pos s
    have hY1 : y * 2 ^ s < 18446744073709551616 := by
      have h4 : y.toNat * 2 ^ s < 2 ^ bl y.toNat * 2 ^ s := Nat.mul_lt_mul_of_pos_right hb1 (Nat.pow_pos (by decide))
      rw [← Nat.pow_add, show bl y.toNat + s = 64 from by omega] at h4
      have h5 : ((y.toNat * 2 ^ s : Nat) : Int) = y * 2 ^ s := by rw [Int.natCast_mul, Int.toNat_of_nonneg (by omega)]; simp
      omega
    have hY2 : 9223372036854775808 ≤ y * 2 ^ s := by
      have h4 : 2 ^ (bl y.toNat - 1) * 2 ^ s ≤ y.toNat * 2 ^ s := Nat.mul_le_mul_right _ hb2
      rw [← Nat.pow_add, show bl y.toNat - 1 + s = 63 from by omega] at h4
      have h5 : ((y.toNat * 2 ^ s : Nat) : Int) = y * 2 ^ s := by rw [Int.natCast_mul, Int.toNat_of_nonneg (by omega)]; simp
      omega
    have hh0 : 0 ≤ hi * 2 ^ s := Int.mul_nonneg h1.1 (by omega)
    have hh1 : hi * 2 ^ s + 2 ^ s ≤ y * 2 ^ s := by
      have := Int.mul_le_mul_of_nonneg_right (show hi + 1 ≤ y by omega) (show 0 ≤ (2 : Int) ^ s by omega)
      rw [Int.add_mul, Int.one_mul] at this
      exact this
    obtain ⟨f1, f2, f3, f4⟩ := shl_facts h2 (s := s) (by omega)
    have f5 := Int.emod_nonneg (lo * 2 ^ s) (show (18446744073709551616 : Int) ≠ 0 by omega)
    have f6 := Int.emod_lt_of_pos (lo * 2 ^ s) (show (0 : Int) < 18446744073709551616 by omega)
    rw [Int.emod_eq_of_lt (show 0 ≤ y * 2 ^ s by omega) hY1, Int.emod_eq_of_lt hh0 (by omega)]
    rw [or_u64 s (by omega) hh0 (Int.mul_emod_left _ _) (by omega) f3 f4]
    rw [mask32 (by omega) hY1, mask32 f5 f6]
    have hres : ((hi * 18446744073709551616 + lo) * 2 ^ s) / (y * 2 ^ s) = (hi * 18446744073709551616 + lo) / y := Int.mul_ediv_mul_of_pos_left _ _ hp
    have hrem : ((hi * 18446744073709551616 + lo) * 2 ^ s) % (y * 2 ^ s) = (hi * 18446744073709551616 + lo) % y * 2 ^ s := by
      rw [Int.mul_comm _ (2 ^ s), Int.mul_comm y, Int.mul_emod_mul_of_pos _ _ hp, Int.mul_comm]
    have hV : (hi * 18446744073709551616 + lo) * 2 ^ s = (hi * 2 ^ s + lo / 2 ^ (64 - s)) * 18446744073709551616 + (lo * 2 ^ s) % 18446744073709551616 := by
      have e : (hi * 18446744073709551616 + lo) * 2 ^ s = hi * 2 ^ s * 18446744073709551616 + lo * 2 ^ s := by grind
      rw [e]
      omega
    have hu : 0 ≤ hi * 2 ^ s + lo / 2 ^ (64 - s) ∧ hi * 2 ^ s + lo / 2 ^ (64 - s) < y * 2 ^ s := by omega
    generalize (hi * 18446744073709551616 + lo) / y = RQ at *
    generalize (hi * 18446744073709551616 + lo) % y = RM at *
    generalize hi * 2 ^ s + lo / 2 ^ (64 - s) = u at *
    generalize (lo * 2 ^ s) % 18446744073709551616 = v at *
    generalize y * 2 ^ s = Y at *
    rw [hV] at hres hrem
    have ha : 2147483648 ≤ Y / 4294967296 ∧ Y / 4294967296 < 4294967296 := by omega
    have hb : 0 ≤ Y % 4294967296 ∧ Y % 4294967296 < 4294967296 := by omega
    have hYY : Y = Y / 4294967296 * 4294967296 + Y % 4294967296 := by omega
    have hc : 0 ≤ v / 4294967296 ∧ v / 4294967296 < 4294967296 := by omega
    have hc0 : 0 ≤ v % 4294967296 ∧ v % 4294967296 < 4294967296 := by omega
    have hvv : v = v / 4294967296 * 4294967296 + v % 4294967296 := by omega
    generalize Y / 4294967296 = a at *
    generalize Y % 4294967296 = b at *
    generalize v / 4294967296 = c at *
    generalize v % 4294967296 = c0 at *
    refine Evt.ite_pos (by omega) (Evt.ite_pos (by omega) (Evt.ite_neg (by omega) ?_))
    obtain ⟨g1, g2, g3, g4, g5, g6⟩ := div_first c hYY ha hb hu hc
    rw [g1, g2]
    have hY0 : 0 < Y := by omega
    have m1 := Int.emod_nonneg (u * 4294967296 + c) (show Y ≠ 0 by omega)
    have m2 := Int.emod_lt_of_pos (u * 4294967296 + c) hY0
    have m3 := Int.emod_add_mul_ediv (u * 4294967296 + c) Y
    have q0 : 0 ≤ (u * 4294967296 + c) / Y := Int.ediv_nonneg (by omega) (by omega)
    have q1 : (u * 4294967296 + c) / Y < 4294967296 := by
      apply Int.ediv_lt_of_lt_mul hY0
      omega
    have hl := div_left (Y := Y) (u := u) (c := c) ⟨hY0, hY1⟩ hu hc
    refine div_l0 hYY ha hb hu hc ?_ 4294967300 (u / a) (u - u / a * a) g3 g4 rfl ⟨g5, g6⟩ (by omega)
    refine Evt.succ ?_
    simp only [bits_Div64.j2]
    refine Evt.ite_neg (by omega) ?_
    rw [hl]
    generalize (u * 4294967296 + c) % Y = u2 at *
    generalize (u * 4294967296 + c) / Y = Q1 at *
    obtain ⟨k1, k2, k3, k4, k5, k6⟩ := div_first c0 hYY ha hb ⟨m1, m2⟩ hc0
    rw [k1, k2]
    have n1 := Int.emod_nonneg (u2 * 4294967296 + c0) (show Y ≠ 0 by omega)
    have n2 := Int.emod_lt_of_pos (u2 * 4294967296 + c0) hY0
    have n3 := Int.emod_add_mul_ediv (u2 * 4294967296 + c0) Y
    have r0 : 0 ≤ (u2 * 4294967296 + c0) / Y := Int.ediv_nonneg (by omega) (by omega)
    have hend := div_l1 (q1 := Q1) s hs64 hYY ha hb ⟨m1, m2⟩ hc0 ⟨q0, q1⟩ 4294967300 (u2 / a) (u2 - u2 / a * a) k3 k4 rfl ⟨k5, k6⟩ (by omega)
    refine hend.congr (fun k => rfl) ?_
    generalize (u2 * 4294967296 + c0) % Y = M at *
    generalize (u2 * 4294967296 + c0) / Y = Q0 at *
    have ef : u * 18446744073709551616 + v = M + Y * (Q1 * 4294967296 + Q0) := by
      have e : Y * (Q1 * 4294967296 + Q0) = Y * Q1 * 4294967296 + Y * Q0 := by grind
      rw [e]
      omega
    rw [ef, Int.add_mul_ediv_left _ _ (show Y ≠ 0 by omega), Int.ediv_eq_zero_of_lt n1 n2, Int.zero_add] at hres
    rw [ef, Int.add_mul_emod_self_left, Int.emod_eq_of_lt n1 n2] at hrem
    rw [hres, hrem, Int.mul_ediv_cancel _ (by omega)]
theorem guess_l0 {r2 r1 r0 d1 d0 : Int} (h0 : 0 ≤ r0 ∧ r0 < 18446744073709551616) (k1 : 0 < d1 ∧ d1 < 18446744073709551616) (k0 : 0 ≤ d0 ∧ d0 < 18446744073709551616) (n : Nat) :
    ∀ q rest : Int, 0 ≤ q ∧ q < 18446744073709551616 → 0 ≤ rest ∧ rest < 18446744073709551616 → q * d1 + rest = r2 * 18446744073709551616 + r1 → q ≤ n → (∀ h, h < 18446744073709551616 → h * (d1 * 18446744073709551616 + d0) ≤ (r2 * 18446744073709551616 + r1) * 18446744073709551616 + r0 → h ≤ q) →
    ∃ g, Evt (fun k => nat_guess.l0 k r0 d1 d0 q rest) g ∧ (0 ≤ g ∧ g < 18446744073709551616) ∧ ∀ h, h < 18446744073709551616 → h * (d1 * 18446744073709551616 + d0) ≤ (r2 * 18446744073709551616 + r1) * 18446744073709551616 + r0 → h ≤ g := by
  induction n with
  | zero =>
    intro q rest hq hr he hn hall
    obtain rfl : q = 0 := by omega
    obtain ⟨hi, lo, e, e2, e3, e4⟩ := bits_Mul64_eq (x := 0) (y := d0) (by omega) k0
    refine ⟨0, ?_, by omega, hall⟩
    refine Evt.succ ?_
    simp only [nat_guess.l0]
    refine Evt.bind (Evt.of (fun _ => e)) ?_
    refine Evt.cond' (fun _ => ?_) (fun c => ?_)
    · refine Evt.succ ?_
      simp only [nat_guess.j1]
      exact Evt.ite_pos (by simp) (Evt.pure _)
    · rw [Int.zero_mul] at e2
      refine Evt.ite_pos (by omega) ?_
      refine Evt.succ ?_
      simp only [nat_guess.j1]
      exact Evt.ite_pos (by simp; omega) (Evt.pure _)
  | succ n ih =>
    intro q rest hq hr he hn hall
    obtain ⟨hi, lo, e, e2, e3, e4⟩ := bits_Mul64_eq (x := q) (y := d0) hq k0
    by_cases hp : hi < rest ∨ (hi = rest ∧ lo ≤ r0)
    · refine ⟨q, ?_, hq, hall⟩
      refine Evt.succ ?_
      simp only [nat_guess.l0]
      refine Evt.bind (Evt.of (fun _ => e)) ?_
      refine Evt.cond' (fun _ => ?_) (fun c => ?_)
      · refine Evt.succ ?_
        simp only [nat_guess.j1]
        exact Evt.ite_pos (by simp) (Evt.pure _)
      · refine Evt.ite_pos (by omega) ?_
        refine Evt.succ ?_
        simp only [nat_guess.j1]
        exact Evt.ite_pos (by simp; omega) (Evt.pure _)
    · have hno : ∀ h, h < 18446744073709551616 → h * (d1 * 18446744073709551616 + d0) ≤ (r2 * 18446744073709551616 + r1) * 18446744073709551616 + r0 → h ≤ q - 1 := by
        intro h h1 h2
        have h3 := hall h h1 h2
        by_cases h4 : h = q
        · subst h4
          have e5 : h * (d1 * 18446744073709551616 + d0) = h * d1 * 18446744073709551616 + h * d0 := by grind
          rw [e5, ← e2] at h2
          omega
        · omega
      have hq0 : q ≠ 0 := by
        intro h
        subst h
        rw [Int.zero_mul] at e2
        omega
      have step : ∀ {g : Int}, Evt (fun k => if IntKind.u64.wrap (rest + d1) < rest then (some (IntKind.u64.wrap (q - 1))) else (nat_guess.l0 k r0 d1 d0 (IntKind.u64.wrap (q - 1)) (IntKind.u64.wrap (rest + d1)))) g → Evt (fun k => nat_guess.l0 k r0 d1 d0 q rest) g := by
        intro g hg
        refine Evt.succ ?_
        simp only [nat_guess.l0]
        refine Evt.bind (Evt.of (fun _ => e)) ?_
        refine Evt.ite_neg (by omega) ?_
        refine Evt.cond' (fun _ => ?_) (fun c => ?_)
        · refine Evt.succ ?_
          simp only [nat_guess.j1]
          exact Evt.ite_neg (by simp; omega) hg
        · refine Evt.succ ?_
          simp only [nat_guess.j1]
          exact Evt.ite_neg (by simp) hg
      rw [wu64_of (x := q - 1) (by omega) (by omega), wu64] at step
      by_cases hov : rest + d1 < 18446744073709551616
      · obtain ⟨g, g1, g2, g3⟩ := ih (q - 1) (rest + d1) (by omega) (by omega) (by rw [Int.sub_mul]; omega) (by omega) hno
        refine ⟨g, step ?_, g2, g3⟩
        rw [Int.emod_eq_of_lt (by omega) hov]
        exact Evt.ite_neg (by omega) g1
      · refine ⟨q - 1, step ?_, by omega, hno⟩
        exact Evt.ite_pos (by omega) (Evt.pure _)
theorem nat_guess_ev {r2 r1 r0 d1 d0 : Int} (h2 : 0 ≤ r2) (h1 : 0 ≤ r1 ∧ r1 < 18446744073709551616) (h0 : 0 ≤ r0 ∧ r0 < 18446744073709551616) (k1 : 0 < d1 ∧ d1 < 18446744073709551616) (k0 : 0 ≤ d0 ∧ d0 < 18446744073709551616) :
    ∃ g, Evt (fun k => nat_guess.f k r2 r1 r0 d1 d0) g ∧ (0 ≤ g ∧ g < 18446744073709551616) ∧ ∀ h, h < 18446744073709551616 → h * (d1 * 18446744073709551616 + d0) ≤ (r2 * 18446744073709551616 + r1) * 18446744073709551616 + r0 → h ≤ g := by
  by_cases hc : r2 ≥ d1
  · refine ⟨18446744073709551615, ?_, by omega, fun h h3 _ => by omega⟩
    unfold nat_guess.f
    exact Evt.ite_pos hc (Evt.pure _)
  · have hq0 : 0 ≤ (r2 * 18446744073709551616 + r1) / d1 := Int.ediv_nonneg (by omega) (by omega)
    have hq1 : (r2 * 18446744073709551616 + r1) / d1 < 18446744073709551616 := by
      apply Int.ediv_lt_of_lt_mul k1.1
      omega
    have hm0 := Int.emod_nonneg (r2 * 18446744073709551616 + r1) (show d1 ≠ 0 by omega)
    have hm1 := Int.emod_lt_of_pos (r2 * 18446744073709551616 + r1) k1.1
    have hm : (r2 * 18446744073709551616 + r1) / d1 * d1 + (r2 * 18446744073709551616 + r1) % d1 = r2 * 18446744073709551616 + r1 := by rw [Int.mul_comm]; exact Int.mul_ediv_add_emod _ _
    obtain ⟨g, g1, g2, g3⟩ := guess_l0 (r2 := r2) (r1 := r1) h0 k1 k0 ((r2 * 18446744073709551616 + r1) / d1).toNat ((r2 * 18446744073709551616 + r1) / d1) ((r2 * 18446744073709551616 + r1) % d1) ⟨hq0, hq1⟩ ⟨hm0, by omega⟩ hm (by omega) (by
      intro h h3 h4
      rw [Int.le_ediv_iff_mul_le k1.1]
      have e : h * (d1 * 18446744073709551616 + d0) = h * d1 * 18446744073709551616 + h * d0 := by grind
      rw [e] at h4
      by_cases h5 : 0 ≤ h
      · have : 0 ≤ h * d0 := Int.mul_nonneg h5 k0.1
        omega
      · have : h * d1 ≤ 0 := Int.mul_nonpos_of_nonpos_of_nonneg (by omega) (by omega)
        omega)
    refine ⟨g, ?_, g2, g3⟩
    unfold nat_guess.f
    refine Evt.ite_neg hc ?_
    exact Evt.bind (bits_Div64_ev (by omega) h1 k1.2) g1
theorem drop_set_self (l : List Int) (i : Nat) (x : Int) (h : i < l.length) : (l.set i x).drop i = x :: l.drop (i + 1) := by
  rw [List.drop_eq_getElem_cons (by simpa using h), List.drop_set, if_pos (Nat.lt_succ_self i)]
  simp
theorem nat_short_loop (a : List Int) (d : Int) (da : Dig (b64 : Int) a) (ha : a.length ≤ 100000) (h0 : 0 < d) (h1 : d < 18446744073709551616) (n : Nat) :
    ∀ (out : List Int) (rest : Int), n ≤ a.length → out.length = a.length → Dig (b64 : Int) out → 0 ≤ rest ∧ rest < d → val (b64 : Int) (out.drop n) * d + rest = val (b64 : Int) (a.drop n) →
    Evt (fun k => nat_short.l0 k a d out rest ((n : Int) - 1)) (limbs (num a / d.toNat), ((num a % d.toNat : Nat) : Int)) := by
  induction n with
  | zero =>
    intro out rest hn ho do_ hr hv
    refine Evt.succ ?_
    simp only [nat_short.l0]
    refine Evt.ite_neg (by omega) ?_
    refine Evt.bind (nat_trim_ev out (by simp [maxLen]; omega)) ?_
    rw [strip_limbs do_]
    rw [List.drop_zero, List.drop_zero] at hv
    have e1 := num_val do_
    have e2 := num_val da
    have e3 : num a = num out * d.toNat + rest.toNat := by
      have : (num a : Int) = ((num out * d.toNat + rest.toNat : Nat) : Int) := by
        rw [Int.natCast_add, Int.natCast_mul, e1, e2, Int.toNat_of_nonneg (by omega), Int.toNat_of_nonneg hr.1]
        exact hv.symm
      omega
    have e4 : num a / d.toNat = num out := by
      rw [e3, Nat.mul_comm, Nat.mul_add_div (by omega), Nat.div_eq_of_lt (by omega), Nat.add_zero]
    have e5 : num a % d.toNat = rest.toNat := by
      rw [e3, Nat.mul_comm, Nat.mul_add_mod, Nat.mod_eq_of_lt (by omega)]
    rw [e4, e5, Int.toNat_of_nonneg hr.1]
    exact Evt.pure _
  | succ n ih =>
    intro out rest hn ho do_ hr hv
    refine Evt.succ ?_
    simp only [nat_short.l0]
    rw [show ((n + 1 : Nat) : Int) - 1 = (n : Int) from by omega, rd_nat, w64 (by omega) (by omega)]
    have hx := da.getD b64_pos n
    have hg : a.getD n 0 = a[n] := by simp [show n < a.length by omega]
    simp only [b64] at hx
    have hq0 : 0 ≤ (rest * 18446744073709551616 + a.getD n 0) / d := Int.ediv_nonneg (by omega) (by omega)
    have hq1 : (rest * 18446744073709551616 + a.getD n 0) / d < 18446744073709551616 := by
      apply Int.ediv_lt_of_lt_mul h0
      omega
    have hm0 := Int.emod_nonneg (rest * 18446744073709551616 + a.getD n 0) (show d ≠ 0 by omega)
    have hm1 := Int.emod_lt_of_pos (rest * 18446744073709551616 + a.getD n 0) h0
    have hm : (rest * 18446744073709551616 + a.getD n 0) % d + (rest * 18446744073709551616 + a.getD n 0) / d * d = rest * 18446744073709551616 + a.getD n 0 := by rw [Int.mul_comm (_ / d)]; exact Int.emod_add_mul_ediv _ _
    refine Evt.ite_pos (by omega) (Evt.ite_pos (by omega) (Evt.ite_pos (by omega) ?_))
    refine Evt.bind (bits_Div64_ev hr hx h1) ?_
    refine Evt.ite_pos (by omega) ?_
    rw [Int.toNat_natCast]
    refine ih _ _ (by omega) (by simpa using ho) (do_.set n ⟨hq0, hq1⟩) ⟨hm0, hm1⟩ ?_
    rw [drop_set_self _ _ _ (by omega), List.drop_eq_getElem_cons (show n < a.length by omega), ← hg]
    simp only [val, b64] at hv ⊢
    generalize (rest * 18446744073709551616 + a.getD n 0) / d = Q at *
    generalize (rest * 18446744073709551616 + a.getD n 0) % d = M at *
    generalize a.getD n 0 = x at *
    rw [← hv]
    generalize val _ (out.drop (n + 1)) = V at *
    have e : (Q + ((18446744073709551616 : Nat) : Int) * V) * d = Q * d + 18446744073709551616 * (V * d) := by
      rw [Int.add_mul, Int.mul_assoc]; rfl
    rw [e, Int.mul_add]
    omega
theorem nat_short_ev (a : List Int) (d : Int) (da : Dig (b64 : Int) a) (ha : a.length ≤ 100000) (h0 : 0 < d) (h1 : d < 18446744073709551616) :
    Evt (fun k => nat_short.f k a d) (limbs (num a / d.toNat), ((num a % d.toNat : Nat) : Int)) := by
  unfold nat_short.f
  refine Evt.ite_pos (by omega) (Evt.ite_pos (by omega) ?_)
  rw [Int.toNat_natCast, w64 (by omega) (by omega)]
  refine nat_short_loop a d da ha h0 h1 a.length _ 0 (Nat.le_refl _) (by simp) (Dig.replicate b64_pos _) ⟨by omega, h0⟩ ?_
  rw [List.drop_of_length_le (by simp), List.drop_of_length_le (by simp)]
  simp [val]
end Go.Proofs.Ytnaphgnkhhapoaa.Z
end
section
namespace Go.Proofs.Ytnaphgnkhhapoaa.F
open Go.RowKit Go.Proofs.YtnaphgnkhhapoaaW.PrintWords Go.Proofs.YtnaphgnkhhapoaaW.PrintLast Go.Proofs.YtnaphgnkhhapoaaW.PrintMore
attribute [local go_sem] max2_int min2_int max_two min_two max_three min_three max_four min_four
set_option linter.unusedVariables false
set_option linter.unusedSimpArgs false
attribute [local go_sem] sub64_run
def nat_less.l0 : Nat → List Int → List Int → List Int → Int → Int → Int → Option (List Int)
 | 0, _, _, _, _, _, _ => none
 | k + 1, x0, x1, x5, x6, x13, x14 => if x14 < x13 then (if x14 < (x1.length : Int) then (if 0 ≤ x14 then (if x14 < (x0.length : Int) then (if carry01 x6 = true then (if x14 < (x5.length : Int) then (nat_less.l0 k x0 x1 (x5.set (x14 : Int).toNat (sub64_s (rd x0 x14) (rd x1 x14) x6)) (sub64_c (rd x0 x14) (rd x1 x14) x6) x13 (wrap64 (x14 + 1))) else (none)) else (none)) else (none)) else (none)) else (if 0 ≤ x14 then (if x14 < (x0.length : Int) then (if carry01 x6 = true then (if x14 < (x5.length : Int) then (nat_less.l0 k x0 x1 (x5.set (x14 : Int).toNat (sub64_s (rd x0 x14) 0 x6)) (sub64_c (rd x0 x14) 0 x6) x13 (wrap64 (x14 + 1))) else (none)) else (none)) else (none)) else (none))) else (some x5)
def nat_less.f (k : Nat) (l0 : List Int) (l1 : List Int) : Option (List Int) := if 0 ≤ (l0.length : Int) then (if ((l0.length : Int) : Int).toNat ≤ 35184372088832 then (nat_less.l0 k l0 l1 (List.replicate ((l0.length : Int) : Int).toNat 0) 0 (l0.length : Int) 0) else (none)) else (none)
theorem nat_less.calls (k : Nat) (A0 : Option Addr) (c0 : Nat) (l0 : List Int) (A1 : Option Addr) (c1 : Nat) (l1 : List Int) (r : List Int) (w : World) (hr0 : Kd.C (Kd.int .u64) w A0 l0.length l0) (hc0 : l0.length ≤ c0) (hr1 : Kd.C (Kd.int .u64) w A1 l1.length l1) (hc1 : l1.length ≤ c1) (h : nat_less.f k l0 l1 = some r) :
  Calls Try.prog 78 #[.slice A0 l0.length c0, .slice A1 l1.length c1] w fun e w' => ∃ v0_ : Value, e = .returned (v0_) ∧ Kd.R (Kd.int .u64) 62 w' w.heap.size (fun _ => True) v0_ r ∧ Below w.heap.size w w' := by
 have HR0 := Aside0.mk hr0; have HC0 := Aside0.mk hc0; clear hr0 hc0; have HR1 := Aside0.mk hr1; have HC1 := Aside0.mk hc1; clear hr1 hc1
 have HB := Aside0.mk (Below.refl w.heap.size w)
 have H : (if 0 ≤ (l0.length : Int) then (if ((l0.length : Int) : Int).toNat ≤ 35184372088832 then (nat_less.l0 k l0 l1 (List.replicate ((l0.length : Int) : Int).toNat 0) 0 (l0.length : Int) 0) else (none)) else (none)) = some r := h
 clear h
 replace H := uT H; obtain ⟨c3, H⟩ := H
 have c3b0 := eq_true c3
 have c3b1 := decide_eq_true c3
 clear c3
 replace H := uT H; obtain ⟨c4, H⟩ := H
 have c4b0 := eq_true c4
 have c4b1 := decide_eq_true c4
 clear c4
 obtain ⟨y131, hy131⟩ : ∃ y_ : List Int, y_ = (List.replicate ((l0.length : Int) : Int).toNat 0) := ⟨_, rfl⟩
 replace H : (nat_less.l0 k l0 l1 y131 0 (l0.length : Int) 0) = some r := by first | (rw [hy131]; with_reducible exact H) | (have H2_ := (Option.bind_some _ _).symm.trans H; rw [hy131]; with_reducible exact H2_) | (have H2_ := (Option.bind_some _ _).symm.trans H; with_reducible exact H2_) | with_reducible exact H | (rw [hy131]; exact H) | exact H
 have Ny131 := Aside0.mk hy131; clear hy131
 have H' := Aside0.mk H
 clear H
 go_enter Try.func78, Try.ntmps78
 go_wp2_with (first | ((with_reducible refine gate_dst (N := 11) rfl ?_); refine Kd.R_make (Kd.int .u64) _ 62 rfl (N := 11) rfl 57 _ _ rfl (l0.length : Int) rfl rfl Try.underlying57 (.int .u64 0) 8 info62 rfl (by decide) (by omega) 0 (ok := fun _ => True) (okp := fun _ => True) rfl (fun _ hk => hk) trivial uO (Nat.le_trans (Nat.mul_le_mul_right _ (uO : (l0.length : Int).toNat ≤ 35184372088832)) (by omega)) (Below.refl _ _) (Nat.le_refl _) ?_; intro v132 w5 ho6 hb hg_ hnew_; clear hg_ hnew_; (first | rw [← Ny131.out] at ho6 | (simp only [Int.reduceToNat] at ho6; rw [← Ny131.out] at ho6)); have HO133 := ulo ho6; replace HB := uy hb; clear hb ho6))
 go_loopg [6, 14] k (fun kq v6 v14 w' => ∃ (x5_1 : List Int) (x6_1 : Int) (x14_1 : Int), v6 = .int .u64 x6_1 ∧ v14 = .int .i64 x14_1 ∧ Aside0 (nat_less.l0 kq l0 l1 x5_1 x6_1 (l0.length : Int) x14_1 = some r) ∧ Aside0 (kq ≤ k) ∧ Aside0 (Kd.R (Kd.int .u64) 62 w' w.heap.size (fun _ => True) v132 x5_1) ∧ Aside0 (Below w.heap.size w w'))
 case atStart => exact ⟨(y131), (0), (0), uG, uG, H', ⟨Nat.le_refl _⟩, ⟨uR HO133.out⟩, ⟨uB⟩⟩
 case round =>
  clear H'
  obtain ⟨x5_1, x6_1, x14_1, rfl, rfl, HA, HK1, HO_5, HB⟩ := hrel
  cases gk with
  | zero => exact absurd HA.out (by simp [nat_less.l0])
  | succ k1 =>
   have H := HA.out
   clear HA
   simp only [nat_less.l0] at H
   by_cases c7 : x14_1 < (l0.length : Int)
   ·
    rw [if_pos c7] at H
    have c7b0 := decide_eq_true c7
    clear c7
    by_cases c8 : x14_1 < (l1.length : Int)
    ·
     rw [if_pos c8] at H
     have c8b0 := decide_eq_true c8
     clear c8
     replace H := uT H; obtain ⟨c9, H⟩ := H
     have c9b0 := decide_eq_true c9
     clear c9
     replace H := uT H; obtain ⟨c10, H⟩ := H
     have c10b0 := decide_eq_true c10
     clear c10
     replace H := uT H; obtain ⟨c11, H⟩ := H
     have c11b0 : carry01 x6_1 = true := c11
     clear c11
     replace H := uT H; obtain ⟨c12, H⟩ := H
     have c12b0 := decide_eq_true c12
     clear c12
     obtain ⟨y136, hy136⟩ : ∃ y_ : List Int, y_ = (x5_1.set (x14_1 : Int).toNat (sub64_s (rd l0 x14_1) (rd l1 x14_1) x6_1)) := ⟨_, rfl⟩
     replace H : (nat_less.l0 k1 l0 l1 y136 (sub64_c (rd l0 x14_1) (rd l1 x14_1) x6_1) (l0.length : Int) (wrap64 (x14_1 + 1))) = some r := by first | (rw [hy136]; with_reducible exact H) | (have H2_ := (Option.bind_some _ _).symm.trans H; rw [hy136]; with_reducible exact H2_) | (have H2_ := (Option.bind_some _ _).symm.trans H; with_reducible exact H2_) | with_reducible exact H | (rw [hy136]; exact H) | exact H
     have Ny136 := Aside0.mk hy136; clear hy136
     have H' := Aside0.mk H
     clear H
     have p134 : 0 ≤ (x14_1 : Int) := uO
     have q134 : x14_1 < (l1.length : Int) := uO
     obtain ⟨ad134, e134, hx134_0⟩ := Kd.at_int HR1.out x14_1 p134 q134
     cases e134
     replace hx134_0 := (HB.out.cell (World.block_lt_of_cell? w _ hx134_0)).trans hx134_0
     replace p134 := eq_true p134
     replace q134 := eq_true q134
     have p135 : 0 ≤ (x14_1 : Int) := uO
     have q135 : x14_1 < (l0.length : Int) := uO
     obtain ⟨ad135, e135, hx135_0⟩ := Kd.at_int HR0.out x14_1 p135 q135
     cases e135
     replace hx135_0 := (HB.out.cell (World.block_lt_of_cell? w _ hx135_0)).trans hx135_0
     replace p135 := eq_true p135
     replace q135 := eq_true q135
     have p13 : 0 ≤ (x14_1 : Int) := uO
     have q13 : (x14_1 : Int) < ((x5_1.length : Int) : Int) := uO
     obtain ⟨go13, co13, eo13, gb13, gl13, cl13, HG13⟩ := Kd.R_form HO_5.out (by omega)
     (first | cases eo13 | (injection eo13 with ea_ en_ ec_; (first | subst ea_ | (injection ea_ with ea_; subst ea_)); subst ec_; clear en_))
     have GB13 := Aside0.mk gb13; have GG13 := Aside0.mk HG13; clear gb13 gl13 HG13
     obtain ⟨hx13_0, hf13_0⟩ := Kd.R_celln 0 HO_5.out (x14_1 : Int) p13 q13
     replace p13 := eq_true p13
     replace q13 := eq_true q13
     have HP14 := Kd.R_putg HO_5.out (x14_1 : Int) (sub64_s (rd l0 x14_1) (rd l1 x14_1) x6_1)
     go_wp2_with (first | ((with_reducible refine gate_store (t := 62) (p := 37) rfl ?_); refine store_event (t := 62) (p := 37) (v := ?vo_w15) (w1 := (wr.setCell ⟨go13, (x14_1 : Int).toNat, none⟩ (.int .u64 (sub64_s (rd l0 x14_1) (rd l1 x14_1) x6_1)))) ?hg ?ho ?hn ?hr ?_; (case ho => rfl); (case hg => rfl); (case hn => rfl); (case hr => first | (go_simp; done) | (go_simp; rfl) | (obtain ⟨hy_, hz_⟩ := Kd.R_celln 0 HO_5.out (x14_1 : Int) uO uO; (try simp only [Go.IntWalk.toNatUp] at hy_ hz_); (try simp only [Int.reduceToNat, Int.toNat_zero, Int.toNat_ofNat] at hy_ hz_); first | (go_simp; done) | (go_simp; rfl))); intro w15 hw; have hg : wr.grownBy w15 (some go13) := (by rw [hw]; exact HP14.2); have hp_ : Kd.R (Kd.int .u64) 62 w15 w.heap.size (fun _ => True) (.slice (some ⟨go13, 0, none⟩) x5_1.length co13) y136 := (by rw [hw, Ny136.out]; exact HP14.1); clear HP14; replace HO_5 := Aside0.mk (hp_); replace HB := Aside0.mk ((by rw [hw]; exact below_set (HB.out) GB13.out : Below w.heap.size w w15)); clear hg hw hp_))
     go_roundg k1
     case measure => have := HK1.out; omega
     case rel => exact ⟨(y136), (sub64_c (rd l0 x14_1) (rd l1 x14_1) x6_1), (wrap64 (x14_1 + 1)), uG, uG, H', ⟨by have := HK1.out; omega⟩, ⟨uR HO_5.out⟩, ⟨uB⟩⟩
    rw [if_neg c8] at H
    have c8b0 := decide_eq_false c8
    clear c8
    replace H := uT H; obtain ⟨c16, H⟩ := H
    have c16b0 := decide_eq_true c16
    clear c16
    replace H := uT H; obtain ⟨c17, H⟩ := H
    have c17b0 := decide_eq_true c17
    clear c17
    replace H := uT H; obtain ⟨c18, H⟩ := H
    have c18b0 : carry01 x6_1 = true := c18
    clear c18
    replace H := uT H; obtain ⟨c19, H⟩ := H
    have c19b0 := decide_eq_true c19
    clear c19
    obtain ⟨y138, hy138⟩ : ∃ y_ : List Int, y_ = (x5_1.set (x14_1 : Int).toNat (sub64_s (rd l0 x14_1) 0 x6_1)) := ⟨_, rfl⟩
    replace H : (nat_less.l0 k1 l0 l1 y138 (sub64_c (rd l0 x14_1) 0 x6_1) (l0.length : Int) (wrap64 (x14_1 + 1))) = some r := by first | (rw [hy138]; with_reducible exact H) | (have H2_ := (Option.bind_some _ _).symm.trans H; rw [hy138]; with_reducible exact H2_) | (have H2_ := (Option.bind_some _ _).symm.trans H; with_reducible exact H2_) | with_reducible exact H | (rw [hy138]; exact H) | exact H
    have Ny138 := Aside0.mk hy138; clear hy138
    have H' := Aside0.mk H
    clear H
    have p137 : 0 ≤ (x14_1 : Int) := uO
    have q137 : x14_1 < (l0.length : Int) := uO
    obtain ⟨ad137, e137, hx137_0⟩ := Kd.at_int HR0.out x14_1 p137 q137
    cases e137
    replace hx137_0 := (HB.out.cell (World.block_lt_of_cell? w _ hx137_0)).trans hx137_0
    replace p137 := eq_true p137
    replace q137 := eq_true q137
    have p20 : 0 ≤ (x14_1 : Int) := uO
    have q20 : (x14_1 : Int) < ((x5_1.length : Int) : Int) := uO
    obtain ⟨go20, co20, eo20, gb20, gl20, cl20, HG20⟩ := Kd.R_form HO_5.out (by omega)
    (first | cases eo20 | (injection eo20 with ea_ en_ ec_; (first | subst ea_ | (injection ea_ with ea_; subst ea_)); subst ec_; clear en_))
    have GB20 := Aside0.mk gb20; have GG20 := Aside0.mk HG20; clear gb20 gl20 HG20
    obtain ⟨hx20_0, hf20_0⟩ := Kd.R_celln 0 HO_5.out (x14_1 : Int) p20 q20
    replace p20 := eq_true p20
    replace q20 := eq_true q20
    have HP21 := Kd.R_putg HO_5.out (x14_1 : Int) (sub64_s (rd l0 x14_1) 0 x6_1)
    go_wp2_with (first | ((with_reducible refine gate_store (t := 62) (p := 37) rfl ?_); refine store_event (t := 62) (p := 37) (v := ?vo_w22) (w1 := (wr.setCell ⟨go20, (x14_1 : Int).toNat, none⟩ (.int .u64 (sub64_s (rd l0 x14_1) 0 x6_1)))) ?hg ?ho ?hn ?hr ?_; (case ho => rfl); (case hg => rfl); (case hn => rfl); (case hr => first | (go_simp; done) | (go_simp; rfl) | (obtain ⟨hy_, hz_⟩ := Kd.R_celln 0 HO_5.out (x14_1 : Int) uO uO; (try simp only [Go.IntWalk.toNatUp] at hy_ hz_); (try simp only [Int.reduceToNat, Int.toNat_zero, Int.toNat_ofNat] at hy_ hz_); first | (go_simp; done) | (go_simp; rfl))); intro w22 hw; have hg : wr.grownBy w22 (some go20) := (by rw [hw]; exact HP21.2); have hp_ : Kd.R (Kd.int .u64) 62 w22 w.heap.size (fun _ => True) (.slice (some ⟨go20, 0, none⟩) x5_1.length co20) y138 := (by rw [hw, Ny138.out]; exact HP21.1); clear HP21; replace HO_5 := Aside0.mk (hp_); replace HB := Aside0.mk ((by rw [hw]; exact below_set (HB.out) GB20.out : Below w.heap.size w w22)); clear hg hw hp_))
    go_roundg k1
    case measure => have := HK1.out; omega
    case rel => exact ⟨(y138), (sub64_c (rd l0 x14_1) 0 x6_1), (wrap64 (x14_1 + 1)), uG, uG, H', ⟨by have := HK1.out; omega⟩, ⟨uR HO_5.out⟩, ⟨uB⟩⟩
   rw [if_neg c7] at H
   have c7b0 := decide_eq_false c7
   clear c7
   obtain rfl := Option.some.inj H
   go_wp2
   go_ret
   exact ⟨_, uF, uR HO_5.out, uB⟩
end Go.Proofs.Ytnaphgnkhhapoaa.F
end
section
namespace Go.Proofs.Ytnaphgnkhhapoaa.Z
open Go.RowKit Go.Proofs.Ytnaphgnkhhapoaa.F Go.Proofs.YtnaphgnkhhapoaaW.PrintWords
set_option linter.unusedSimpArgs false
set_option linter.unusedVariables false
def lessL : List Int → List Int → Int → List Int
  | [], _, _ => []
  | x :: a, b, c => sub64_s x (b.getD 0 0) c :: lessL a (b.drop 1) (sub64_c x (b.getD 0 0) c)
theorem sub64_facts {x y c : Int} (hx : 0 ≤ x ∧ x < (b64 : Int)) (hy : 0 ≤ y ∧ y < (b64 : Int)) (hc : c = 0 ∨ c = 1) :
    sub64_s x y c - (b64 : Int) * sub64_c x y c = x - y - c ∧ (0 ≤ sub64_s x y c ∧ sub64_s x y c < (b64 : Int)) ∧ (sub64_c x y c = 0 ∨ sub64_c x y c = 1) := by
  unfold sub64_s sub64_c
  simp only [b64] at *
  by_cases h : x.toNat < y.toNat + c.toNat
  · rw [if_pos h]; omega
  · rw [if_neg h]; omega
theorem lessL_len : ∀ (a b : List Int) (c : Int), (lessL a b c).length = a.length := by
  intro a
  induction a with
  | nil => intro b c; rfl
  | cons z x ih => intro b c; simp only [lessL, List.length_cons, ih]
theorem lessL_facts : ∀ (a b : List Int) (c : Int), Dig (b64 : Int) a → Dig (b64 : Int) b → b.length ≤ a.length → (c = 0 ∨ c = 1) →
    Dig (b64 : Int) (lessL a b c) ∧ ∃ t, 0 ≤ t ∧ val (b64 : Int) (lessL a b c) = val (b64 : Int) a - val (b64 : Int) b - c + (b64 : Int) ^ a.length * t := by
  intro a
  induction a with
  | nil =>
    intro b c _ _ hlen hc
    have : b = [] := List.length_eq_zero_iff.1 (by simpa using hlen)
    subst this
    exact ⟨Dig.nil, c, by omega, by simp [lessL, val]; omega⟩
  | cons x a ih =>
    intro b c da db hlen hc
    have d1 := Dig.cons.1 da
    have hy := db.getD b64_pos 0
    obtain ⟨e1, e2, e3⟩ := sub64_facts d1.1 hy hc
    obtain ⟨i1, t, ht, i2⟩ := ih (b.drop 1) _ d1.2 (db.drop 1) (by simp at hlen ⊢; omega) e3
    refine ⟨Dig.cons.2 ⟨e2, i1⟩, t, ht, ?_⟩
    simp only [lessL, val]
    rw [i2]
    have hb : val (b64 : Int) b = b.getD 0 0 + (b64 : Int) * val (b64 : Int) (b.drop 1) := by
      cases b with
      | nil => simp [val]
      | cons y b => simp [val]
    rw [hb]
    generalize (b64 : Int) = B at *
    generalize sub64_s x (b.getD 0 0) c = s at *
    generalize sub64_c x (b.getD 0 0) c = u at *
    generalize val B a = va at *
    generalize val B (b.drop 1) = vb at *
    generalize b.getD 0 0 = y at *
    rw [List.length_cons, Int.pow_succ]
    generalize B ^ a.length = P at *
    have h1 : B * (va - vb - u + P * t) = B * va - B * vb - B * u + P * B * t := by grind
    omega
theorem nat_less_l0 (a b : List Int) (ha : a.length ≤ 1000) (hb : b.length ≤ 1000) (da : Dig (b64 : Int) a) (db : Dig (b64 : Int) b) (n : Nat) : ∀ (i : Nat) (p : List Int) (c : Int), p.length = i → i ≤ a.length → a.length - i = n → (c = 0 ∨ c = 1) →
    Evt (fun k => nat_less.l0 k a b (p ++ List.replicate n 0) c (a.length : Int) (i : Int)) (p ++ lessL (a.drop i) (b.drop i) c) := by
  induction n with
  | zero =>
    intro i p c hp hi hn hc
    refine Evt.succ ?_
    simp only [nat_less.l0]
    refine Evt.ite_neg (by omega) ?_
    rw [List.drop_of_length_le (show a.length ≤ i by omega)]
    simp only [lessL, List.replicate_zero]
    exact Evt.pure _
  | succ n ih =>
    intro i p c hp hi hn hc
    have hlt : i < a.length := by omega
    refine Evt.succ ?_
    simp only [nat_less.l0]
    refine Evt.ite_pos (by omega) ?_
    have hx : rd a (i : Int) = a[i] := by simp [rd_nat, hlt]
    have hxr := da a[i] (List.getElem_mem hlt)
    have hset : ∀ v : Int, (p ++ List.replicate (n + 1) 0).set ((i : Int)).toNat v = (p ++ [v]) ++ List.replicate n 0 := by
      intro v
      rw [show ((i : Int)).toNat = p.length from by omega, List.replicate_succ, set_at, List.append_assoc]
      rfl
    have hyr := (db.drop i).getD b64_pos 0
    have hfin : ∀ y : Int, y = (b.drop i).getD 0 0 → Evt (fun k => nat_less.l0 k a b ((p ++ List.replicate (n + 1) 0).set ((i : Int)).toNat (sub64_s (rd a (i : Int)) y c)) (sub64_c (rd a (i : Int)) y c) (a.length : Int) (wrap64 ((i : Int) + 1))) (p ++ lessL (a.drop i) (b.drop i) c) := by
      intro y hy
      subst hy
      obtain ⟨e1, e2, e3⟩ := sub64_facts hxr hyr hc
      rw [hx, hset, w64 (by omega) (by omega)]
      have h := ih (i + 1) (p ++ [sub64_s a[i] ((b.drop i).getD 0 0) c]) (sub64_c a[i] ((b.drop i).getD 0 0) c) (by simp [hp]) (by omega) (by omega) e3
      refine h.congr (fun k => rfl) ?_
      rw [List.drop_eq_getElem_cons hlt]
      simp only [lessL, List.drop_drop, List.append_assoc, List.singleton_append]
    by_cases hib : i < b.length
    · refine Evt.ite_pos (by omega) (Evt.ite_pos (by omega) (Evt.ite_pos (by omega) (Evt.ite_pos (carry_of hc) (Evt.ite_pos (by simp; omega) ?_))))
      refine hfin _ ?_
      simp [rd_nat, hib]
    · refine Evt.ite_neg (by omega) (Evt.ite_pos (by omega) (Evt.ite_pos (by omega) (Evt.ite_pos (carry_of hc) (Evt.ite_pos (by simp; omega) ?_))))
      refine hfin _ ?_
      simp [List.drop_of_length_le (show b.length ≤ i by omega)]
theorem nat_less_ev (a b : List Int) (ha : a.length ≤ 1000) (hb : b.length ≤ a.length) (da : Dig (b64 : Int) a) (db : Dig (b64 : Int) b) (hle : num b ≤ num a) : ∃ s, Evt (fun k => nat_less.f k a b) s ∧ Dig (b64 : Int) s ∧ num s = num a - num b ∧ s.length = a.length := by
  refine ⟨lessL a b 0, ?_, ?_⟩
  · unfold nat_less.f
    refine Evt.ite_pos (by omega) (Evt.ite_pos (by omega) ?_)
    have h := nat_less_l0 a b ha (by omega) da db a.length 0 [] 0 rfl (Nat.zero_le _) (by omega) (Or.inl rfl)
    exact h.congr (fun k => by simp) (by simp)
  · obtain ⟨f1, t, ht, f2⟩ := lessL_facts a b 0 da db hb (Or.inl rfl)
    refine ⟨f1, ?_, lessL_len a b 0⟩
    have h1 := num_val f1
    have h2 := num_val da
    have h3 := num_val db
    have h4 := num_lt f1
    rw [lessL_len] at h4
    rw [pow_cast] at f2
    have ht0 : t = 0 := by
      by_cases e : t = 0
      · exact e
      · have h5 : ((b64 ^ a.length : Nat) : Int) * 1 ≤ ((b64 ^ a.length : Nat) : Int) * t := Int.mul_le_mul_of_nonneg_left (by omega) (by omega)
        omega
    subst ht0
    rw [Int.mul_zero] at f2
    omega
theorem num_strip {l : List Int} (d : Dig (b64 : Int) l) : num (strip l) = num l := by rw [strip_limbs d, num_limbs]
theorem num_split {l : List Int} (d : Dig (b64 : Int) l) (n : Nat) : num l = num (strip (l.take n)) + b64 ^ n * num (l.drop n) := by
  rw [num_strip (d.take n)]
  have h1 := num_val d
  have h2 := num_val (d.take n)
  have h3 := num_val (d.drop n)
  have h4 := val_append (b64 : Int) (l.take n) (l.drop n)
  rw [List.take_append_drop] at h4
  rcases Nat.le_total n l.length with h | h
  · have h5 : (l.take n).length = n := by rw [List.length_take]; omega
    rw [h5, ← h1, ← h2, ← h3, pow_cast, ← Int.natCast_mul] at h4
    omega
  · have h5 : num (l.drop n) = 0 := by rw [List.drop_of_length_le h]; rfl
    rw [h5, Nat.mul_zero, List.take_of_length_le h]
    rfl
theorem limbs_len {v n : Nat} (h : v < b64 ^ n) : (limbs v).length ≤ n := toD_len_le b64_two h
theorem limbs_dig (v : Nat) : Dig (b64 : Int) (limbs v) := toD_dig b64_two v
theorem limbs_mono {v w : Nat} (h : v ≤ w) : (limbs v).length ≤ (limbs w).length := by
  have h1 : w < b64 ^ (limbs w).length := toD_lt_pow b64_two w
  exact limbs_len (by omega)
theorem mul_lt_pow {x y a b : Nat} (hx : x < b64 ^ a) (hy : y < b64 ^ b) : x * y < b64 ^ (a + b) := by
  rw [Nat.pow_add]
  exact Nat.mul_lt_mul'' hx hy
theorem kara_num {A B X a1 a0 b1 b0 : Nat} (hA : A = a0 + X * a1) (hB : B = b0 + X * b1) :
    a0 * b0 ≤ (a0 + a1) * (b0 + b1) ∧ a1 * b1 ≤ (a0 + a1) * (b0 + b1) - a0 * b0 ∧ A * B = a0 * b0 + X * ((a0 + a1) * (b0 + b1) - a0 * b0 - a1 * b1) + X * X * (a1 * b1) := by
  have e : (a0 + a1) * (b0 + b1) = a0 * b0 + (a0 * b1 + a1 * b0) + a1 * b1 := by grind
  rw [e]
  refine ⟨by omega, by omega, ?_⟩
  have e2 : a0 * b0 + (a0 * b1 + a1 * b0) + a1 * b1 - a0 * b0 - a1 * b1 = a0 * b1 + a1 * b0 := by omega
  rw [e2, hA, hB]
  grind
theorem kara_ev (l0 l1 : List Int) (h0 : l0.length ≤ 400) (h1 : l1.length ≤ 400) (h2 : 24 ≤ l0.length) (h3 : 24 ≤ l1.length) (d0 : Dig (b64 : Int) l0) (d1 : Dig (b64 : Int) l1) (n : Nat) (hn : n = (max l0.length l1.length + 1) / 2)
    (LA LB HA HB P Q O1 : List Int) (eLA : LA = strip (l0.take n)) (eLB : LB = strip (l1.take n)) (eHA : HA = l0.drop n) (eHB : HB = l1.drop n) (eP : P = limbs (num LA * num LB)) (eQ : Q = limbs (num HA * num HB))
    (eO : O1 = P.take (min P.length (l0.length + l1.length + 1)) ++ (List.replicate (l0.length + l1.length + 1) (0 : Int)).drop (min P.length (l0.length + l1.length + 1))) :
    (LA.length + LB.length < l0.length + l1.length ∧ LA.length ≤ 400 ∧ LB.length ≤ 400 ∧ Dig (b64 : Int) LA ∧ Dig (b64 : Int) LB) ∧
    (HA.length + HB.length < l0.length + l1.length ∧ HA.length ≤ 400 ∧ HB.length ≤ 400 ∧ Dig (b64 : Int) HA ∧ Dig (b64 : Int) HB) ∧
    ∃ S1 S2 T1 T2 M U U1 V V1 O2 O3 : List Int, (∃ k, nat_sum.f k LA HA = some S1) ∧ (∃ k, nat_sum.f k LB HB = some S2) ∧ T1 = strip S1 ∧ T2 = strip S2 ∧
      (T1.length + T2.length < l0.length + l1.length ∧ T1.length ≤ 400 ∧ T2.length ≤ 400 ∧ Dig (b64 : Int) T1 ∧ Dig (b64 : Int) T2) ∧ M = limbs (num T1 * num T2) ∧
      (∃ k, nat_less.f k M P = some U) ∧ U1 = strip U ∧ (∃ k, nat_less.f k U1 Q = some V) ∧ V1 = strip V ∧
      (∃ k, nat_into.f k O1 V1 (n : Int) = some O2) ∧ (∃ k, nat_into.f k O2 Q ((2 * n : Nat) : Int) = some O3) ∧ (∃ k, nat_trim.f k O3 = some (limbs (num l0 * num l1))) := by
  have lLA : LA.length ≤ n := by
    have := strip_length (l0.take n)
    rw [List.length_take] at this
    rw [eLA]; omega
  have lLB : LB.length ≤ n := by
    have := strip_length (l1.take n)
    rw [List.length_take] at this
    rw [eLB]; omega
  have lHA : HA.length ≤ n := by rw [eHA, List.length_drop]; omega
  have lHB : HB.length ≤ n := by rw [eHB, List.length_drop]; omega
  have lHA' : HA.length ≤ l0.length - n := by rw [eHA, List.length_drop]; omega
  have lHB' : HB.length ≤ l1.length - n := by rw [eHB, List.length_drop]; omega
  have dLA : Dig (b64 : Int) LA := by rw [eLA]; exact strip_dig (d0.take n)
  have dLB : Dig (b64 : Int) LB := by rw [eLB]; exact strip_dig (d1.take n)
  have dHA : Dig (b64 : Int) HA := by rw [eHA]; exact d0.drop n
  have dHB : Dig (b64 : Int) HB := by rw [eHB]; exact d1.drop n
  have sA : num l0 = num LA + b64 ^ n * num HA := by rw [eLA, eHA]; exact num_split d0 n
  have sB : num l1 = num LB + b64 ^ n * num HB := by rw [eLB, eHB]; exact num_split d1 n
  obtain ⟨k1, k2, k3⟩ := kara_num sA sB
  have pn : ∀ {l : List Int} {m : Nat}, Dig (b64 : Int) l → l.length ≤ m → num l < b64 ^ m := fun d h => Nat.lt_of_lt_of_le (num_lt d) (Nat.pow_le_pow_right (by decide) h)
  have vLA := pn dLA lLA
  have vLB := pn dLB lLB
  have vHA := pn dHA lHA
  have vHB := pn dHB lHB
  have hpn : b64 ^ n + b64 ^ n ≤ b64 ^ (n + 1) := by
    have hb2 := Nat.mul_le_mul_left (b64 ^ n) b64_two
    rw [Nat.pow_succ]
    omega
  obtain ⟨S1, e1, dS1, nS1, lS1⟩ := nat_sum_ev LA HA (by omega) (by omega) dLA dHA
  obtain ⟨S2, e2, dS2, nS2, lS2⟩ := nat_sum_ev LB HB (by omega) (by omega) dLB dHB
  have nT1 : num (strip S1) = num LA + num HA := by rw [num_strip dS1, nS1]
  have nT2 : num (strip S2) = num LB + num HB := by rw [num_strip dS2, nS2]
  have lT1 : (strip S1).length ≤ n + 1 := by rw [strip_limbs dS1]; exact limbs_len (by omega)
  have lT2 : (strip S2).length ≤ n + 1 := by rw [strip_limbs dS2]; exact limbs_len (by omega)
  obtain ⟨M, eM⟩ : ∃ M, M = limbs (num (strip S1) * num (strip S2)) := ⟨_, rfl⟩
  have nM : num M = (num LA + num HA) * (num LB + num HB) := by rw [eM, num_limbs, nT1, nT2]
  have nP : num P = num LA * num LB := by rw [eP, num_limbs]
  have nQ : num Q = num HA * num HB := by rw [eQ, num_limbs]
  have dM : Dig (b64 : Int) M := by rw [eM]; exact limbs_dig _
  have dP : Dig (b64 : Int) P := by rw [eP]; exact limbs_dig _
  have dQ : Dig (b64 : Int) Q := by rw [eQ]; exact limbs_dig _
  have lM : M.length ≤ (n + 1) + (n + 1) := by
    rw [eM]
    refine limbs_len (mul_lt_pow ?_ ?_)
    · rw [nT1]; omega
    · rw [nT2]; omega
  have lPM : P.length ≤ M.length := by
    rw [eP, eM]
    exact limbs_mono (by rw [nT1, nT2]; exact k1)
  obtain ⟨U, e3, dU, nU, lU⟩ := nat_less_ev M P (by omega) lPM dM dP (by rw [nP, nM]; exact k1)
  have nU1 : num (strip U) = (num LA + num HA) * (num LB + num HB) - num LA * num LB := by rw [num_strip dU, nU, nM, nP]
  have dU1 : Dig (b64 : Int) (strip U) := strip_dig dU
  have lU1 : (strip U).length ≤ M.length := by have := strip_length U; omega
  have lQU : Q.length ≤ (strip U).length := by
    rw [eQ, strip_limbs dU]
    refine limbs_mono ?_
    rw [← num_strip dU, nU1]
    exact k2
  obtain ⟨V, e4, dV, nV, lV⟩ := nat_less_ev (strip U) Q (by omega) lQU dU1 dQ (by rw [nQ, nU1]; exact k2)
  have nV1 : num (strip V) = (num LA + num HA) * (num LB + num HB) - num LA * num LB - num HA * num HB := by rw [num_strip dV, nV, nU1, nQ]
  have dV1 : Dig (b64 : Int) (strip V) := strip_dig dV
  obtain ⟨N, eN⟩ : ∃ N, N = l0.length + l1.length + 1 := ⟨_, rfl⟩
  rw [← eN] at eO
  have tot : num l0 * num l1 < b64 ^ N := by
    have h := mul_lt_pow (num_lt d0) (num_lt d1)
    exact Nat.lt_of_lt_of_le h (Nat.pow_le_pow_right (by decide) (by omega))
  have lP : P.length ≤ N := by
    rw [eP]
    refine limbs_len ?_
    rw [k3] at tot
    omega
  have eO' : O1 = P ++ List.replicate (N - P.length) 0 := by
    rw [eO, show min P.length N = P.length from by omega, List.take_length]
    congr 1
    exact List.drop_replicate
  have lO1 : O1.length = N := by rw [eO']; simp; omega
  have dO1 : Dig (b64 : Int) O1 := by rw [eO']; exact Dig.append.2 ⟨dP, Dig.replicate b64_pos _⟩
  have vO1 : val (b64 : Int) O1 = ((num LA * num LB : Nat) : Int) := by
    rw [eO', val_append, val_replicate, Int.mul_zero, Int.add_zero, ← num_val dP, nP]
  have c1 : ((b64 ^ n : Nat) : Int) = (b64 : Int) ^ n := (pow_cast b64 n).symm
  have cN : ((b64 ^ N : Nat) : Int) = (b64 : Int) ^ N := (pow_cast b64 N).symm
  have vV1 : val (b64 : Int) (strip V) = (((num LA + num HA) * (num LB + num HB) - num LA * num LB - num HA * num HB : Nat) : Int) := by rw [← num_val dV1, nV1]
  have vQ : val (b64 : Int) Q = ((num HA * num HB : Nat) : Int) := by rw [← num_val dQ, nQ]
  obtain ⟨O2, e5, dO2, lO2, vO2⟩ := nat_into_ev O1 (strip V) n (by omega) (by omega) dO1 dV1 (by
    rw [vO1, vV1, lO1, ← c1, ← cN, ← Int.natCast_mul, ← Int.natCast_add]
    apply Int.ofNat_lt.2
    rw [k3] at tot
    omega)
  have cc : ((b64 ^ n * b64 ^ n : Nat) : Int) = (b64 : Int) ^ (2 * n) := by
    rw [← Nat.pow_add, show n + n = 2 * n from by omega]
    exact (pow_cast b64 (2 * n)).symm
  have vO2' : val (b64 : Int) O2 = ((num LA * num LB + b64 ^ n * ((num LA + num HA) * (num LB + num HB) - num LA * num LB - num HA * num HB) : Nat) : Int) := by
    rw [vO2, vO1, vV1, ← c1, ← Int.natCast_mul, ← Int.natCast_add]
  obtain ⟨O3, e6, dO3, lO3, vO3⟩ := nat_into_ev O2 Q (2 * n) (by omega) (by omega) dO2 dQ (by
    rw [vO2', vQ, lO2, lO1, ← cc, ← cN, ← Int.natCast_mul, ← Int.natCast_add]
    apply Int.ofNat_lt.2
    rw [k3] at tot
    exact tot)
  have nO3 : num O3 = num l0 * num l1 := by
    have h := num_val dO3
    rw [vO3, vO2', vQ, ← cc, ← Int.natCast_mul, ← Int.natCast_add] at h
    rw [k3]
    exact Int.ofNat.inj h
  have e7 := nat_trim_ev O3 (by simp [maxLen]; omega)
  rw [strip_limbs dO3, nO3] at e7
  refine ⟨⟨by omega, by omega, by omega, dLA, dLB⟩, ⟨by omega, by omega, by omega, dHA, dHB⟩, S1, S2, strip S1, strip S2, M, U, strip U, V, strip V, O2, O3, e1.get, e2.get, rfl, rfl, ⟨by omega, by omega, by omega, strip_dig dS1, strip_dig dS2⟩, eM, e3.get, rfl, e4.get, rfl, e5.get, e6.get, e7.get⟩
end Go.Proofs.Ytnaphgnkhhapoaa.Z
end
