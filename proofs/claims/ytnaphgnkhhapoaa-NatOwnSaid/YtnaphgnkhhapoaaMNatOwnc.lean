/- Proved: the law NatOwn of layer 1: what was handed in stays as it was, and what is told is nobody's else; for every input, without a condition. -/
import Derived.Test.YtnaphgnkhhapoaaMNatOwnb
import Derived.Deep.RegionHeld3
import Derived.StillTailTactics
import Derived.Deep.Slices
import Derived.Lib.SmallJoins
import Derived.OpenShut
import Derived.SizedLaws
import Derived.ChangeSlices
import Derived.Test.YtnaphgnkhhapoaaRows
import Derived.WalkKit
import Derived.ProofKit
import Derived.ShutString
import Derived.ChangeOld
import Derived.Below
set_option maxHeartbeats 8000000
set_option maxRecDepth 100000
section
namespace Go.Proofs.Ytnaphgnkhhapoaa.F
open Go.RowKit Go.Proofs.YtnaphgnkhhapoaaW.PrintWords Go.Proofs.YtnaphgnkhhapoaaW.PrintLast Go.Proofs.YtnaphgnkhhapoaaW.PrintMore
theorem max2_mx (k k' : IntKind) (x y : Int) : Builtin.max2 (.int k x) (.int k' y) = pure (.int k (max x y)) := by
  rw [max2_int]
  congr 2
  by_cases h : x < y
  · rw [if_pos h]; omega
  · rw [if_neg h]; omega
attribute [local go_sem] max2_mx max_two
set_option linter.unusedVariables false
set_option linter.unusedSimpArgs false
open Go.Proofs.Ytnaphgnkhhapoaa.Z (strip Dig b64 num limbs)
def hval (gh : Nat) : Value := .func (.func 74) #[] #[.pointer (some ⟨gh, 0, none⟩)]
def hobj (gh : Nat) : Obj := .cells #[hval gh] 72 (0, 0)
def Halved (gh : Nat) (A0 : Option Addr) (c0 : Nat) (l0 : List Int) (A1 : Option Addr) (c1 : Nat) (l1 : List Int) (w : World) : Prop :=
  Calls Try.prog 74 #[.slice A0 l0.length c0, .slice A1 l1.length c1, .pointer (some ⟨gh, 0, none⟩)] w fun e w' => ∃ v : Value, e = .returned v ∧ Kd.R (Kd.int .u64) 62 w' w.heap.size (fun _ => True) v (limbs (num l0 * num l1)) ∧ Below w.heap.size w w'
theorem C_low {W : World} {A : Option Addr} {l : List Int} (n : Nat) (h : Kd.C (Kd.int .u64) W A l.length l) : Kd.C (Kd.int .u64) W A (strip (l.take n)).length (strip (l.take n)) := by
  obtain ⟨k, hk, hs, _⟩ := strip_take (l.take n)
  rw [hs, List.take_take]
  exact Kd.C_take h (by rw [List.length_take] at hk; omega)
theorem strip_len (l : List Int) : (strip l).length ≤ l.length := Go.Proofs.Ytnaphgnkhhapoaa.Z.strip_length l
theorem halves_short (gh : Nat) (A0 : Option Addr) (c0 : Nat) (l0 : List Int) (A1 : Option Addr) (c1 : Nat) (l1 : List Int) (w : World) (hl0 : l0.length ≤ 400) (hl1 : l1.length ≤ 400) (d0 : Dig (b64 : Int) l0) (d1 : Dig (b64 : Int) l1)
    (hr0 : Kd.C (Kd.int .u64) w A0 l0.length l0) (hc0 : l0.length ≤ c0) (hr1 : Kd.C (Kd.int .u64) w A1 l1.length l1) (hc1 : l1.length ≤ c1) (h24 : l0.length < 24 ∨ l1.length < 24) : Halved gh A0 c0 l0 A1 c1 l1 w := by
  unfold Halved
  obtain ⟨k, hk⟩ := Go.Proofs.Ytnaphgnkhhapoaa.Z.Evt.get (Go.Proofs.Ytnaphgnkhhapoaa.Z.nat_school_ev l0 l1 (by omega) (by omega) d0 d1)
  have HS := Aside0.mk (nat_school.calls k A0 c0 l0 A1 c1 l1 _ w hr0 hc0 hr1 hc1 hk)
  clear hr0 hc0 hr1 hc1 hk d0 d1
  by_cases h1 : l0.length < 24
  · have h1b : decide ((l0.length : Int) < 24) = true := decide_eq_true (by omega)
    clear h24
    go_enter Try.func74, Try.ntmps74
    go_wp2_with (go_at_call 75; (with_reducible refine HS.out.mono ?_); rintro e w' ⟨v, rfl, hR, hb⟩; have HR := Aside0.mk hR; have HB := Aside0.mk hb; clear hR hb)
    go_ret
    exact ⟨_, rfl, HR.out, HB.out⟩
  · have h1b : decide ((l0.length : Int) < 24) = false := decide_eq_false (by omega)
    have h2b : decide ((l1.length : Int) < 24) = true := decide_eq_true (by omega)
    clear h24
    go_enter Try.func74, Try.ntmps74
    go_wp2_with (go_at_call 75; (with_reducible refine HS.out.mono ?_); rintro e w' ⟨v, rfl, hR, hb⟩; have HR := Aside0.mk hR; have HB := Aside0.mk hb; clear hR hb)
    go_ret
    exact ⟨_, rfl, HR.out, HB.out⟩
theorem halves_long (gh : Nat) (A0 : Option Addr) (c0 : Nat) (l0 : List Int) (A1 : Option Addr) (c1 : Nat) (l1 : List Int) (w : World) (hl0 : l0.length ≤ 400) (hl1 : l1.length ≤ 400) (d0 : Dig (b64 : Int) l0) (d1 : Dig (b64 : Int) l1)
    (hr0 : Kd.C (Kd.int .u64) w A0 l0.length l0) (hc0 : l0.length ≤ c0) (hr1 : Kd.C (Kd.int .u64) w A1 l1.length l1) (hc1 : l1.length ≤ c1) (h24a : 24 ≤ l0.length) (h24b : 24 ≤ l1.length) (hgh : w.heap[gh]? = some (hobj gh))
    (IH : ∀ (A2 : Option Addr) (c2 : Nat) (l2 : List Int) (A3 : Option Addr) (c3 : Nat) (l3 : List Int) (W : World), l2.length + l3.length < l0.length + l1.length → l2.length ≤ 400 → l3.length ≤ 400 → Dig (b64 : Int) l2 → Dig (b64 : Int) l3 →
      Kd.C (Kd.int .u64) W A2 l2.length l2 → l2.length ≤ c2 → Kd.C (Kd.int .u64) W A3 l3.length l3 → l3.length ≤ c3 → W.heap[gh]? = some (hobj gh) → Halved gh A2 c2 l2 A3 c3 l3 W) : Halved gh A0 c0 l0 A1 c1 l1 w := by
  unfold Halved
  have h1b : decide ((l0.length : Int) < 24) = false := decide_eq_false (by omega)
  have h2b : decide ((l1.length : Int) < 24) = false := decide_eq_false (by omega)
  obtain ⟨M, hM⟩ : ∃ M : Nat, M = max l0.length l1.length := ⟨_, rfl⟩
  obtain ⟨n, hn⟩ : ∃ n : Nat, n = (M + 1) / 2 := ⟨_, rfl⟩
  have HR0 := Aside0.mk hr0
  have HC0 := Aside0.mk hc0
  have HR1 := Aside0.mk hr1
  have HC1 := Aside0.mk hc1
  have HGH := Aside0.mk hgh
  have HL := Aside0.mk (show l0.length ≤ 400 ∧ l1.length ≤ 400 ∧ 24 ≤ l0.length ∧ 24 ≤ l1.length ∧ M = max l0.length l1.length ∧ n = (M + 1) / 2 from ⟨hl0, hl1, h24a, h24b, hM, hn⟩)
  have HI := Aside0.mk IH
  have HD0 := Aside0.mk d0
  have HD1 := Aside0.mk d1
  clear hr0 hc0 hr1 hc1 hgh hl0 hl1 h24a h24b hM hn IH d0 d1
  go_enter Try.func74, Try.ntmps74
  have e1 : wrap64 (max (l0.length : Int) (l1.length : Int) + 1) = ((M + 1 : Nat) : Int) := by
    have := HL.out
    unfold wrap64
    omega
  have e2 : wrap64 (((M : Int) + 1).tdiv 2) = (n : Int) := by
    have := HL.out
    rw [Int.tdiv_eq_ediv_of_nonneg (by omega)]
    unfold wrap64
    omega
  go_wp2
  clear e1 e2
  have hN := blk_new w (.cells #[.int .i64 (n : Int)] 3)
  have hB := below_alloc (Below.refl w.heap.size w) (.cells #[.int .i64 (n : Int)] 3)
  have hs1 : w.heap.size < (w.alloc (.cells #[.int .i64 (n : Int)] 3)).heap.size := by simp
  generalize w.alloc (.cells #[.int .i64 (n : Int)] 3) = W1 at *
  obtain ⟨LA, hLA⟩ : ∃ X, X = strip (l0.take n) := ⟨_, rfl⟩
  obtain ⟨LB, hLB⟩ : ∃ X, X = strip (l1.take n) := ⟨_, rfl⟩
  obtain ⟨HA, hHA⟩ : ∃ X, X = l0.drop n := ⟨_, rfl⟩
  obtain ⟨HB_, hHB⟩ : ∃ X, X = l1.drop n := ⟨_, rfl⟩
  obtain ⟨P, hP⟩ : ∃ X, X = limbs (num LA * num LB) := ⟨_, rfl⟩
  obtain ⟨Q, hQ⟩ : ∃ X, X = limbs (num HA * num HB_) := ⟨_, rfl⟩
  obtain ⟨O1, hO1⟩ : ∃ X, X = P.take (min P.length (l0.length + l1.length + 1)) ++ (List.replicate (l0.length + l1.length + 1) (0 : Int)).drop (min P.length (l0.length + l1.length + 1)) := ⟨_, rfl⟩
  obtain ⟨pl1, pl2, S1, S2, T1, T2, Mm, U, U1, V, V1, O2, O3, ⟨k1, hk1⟩, ⟨k2, hk2⟩, hT1, hT2, pl3, hMm, ⟨k3, hk3⟩, hU1, ⟨k4, hk4⟩, hV1, ⟨k5, hk5⟩, ⟨k6, hk6⟩, ⟨k7, hk7⟩⟩ :=
    Go.Proofs.Ytnaphgnkhhapoaa.Z.kara_ev l0 l1 HL.out.1 HL.out.2.1 HL.out.2.2.1 HL.out.2.2.2.1 HD0.out HD1.out n (by have := HL.out; omega) LA LB HA HB_ P Q O1 hLA hLB hHA hHB hP hQ hO1
  obtain ⟨RES, hRES⟩ : ∃ X, X = limbs (num l0 * num l1) := ⟨_, rfl⟩
  rw [← hRES] at hk7
  have NLA := Aside0.mk hLA
  have NLB := Aside0.mk hLB
  have NHA := Aside0.mk hHA
  have NHB := Aside0.mk hHB
  have NP := Aside0.mk hP
  have NQ := Aside0.mk hQ
  have NO1 := Aside0.mk hO1
  have NT1 := Aside0.mk hT1
  have NT2 := Aside0.mk hT2
  have NM := Aside0.mk hMm
  have NU1 := Aside0.mk hU1
  have NV1 := Aside0.mk hV1
  have NRES := Aside0.mk hRES
  have PL1 := Aside0.mk pl1
  have PL2 := Aside0.mk pl2
  have PL3 := Aside0.mk pl3
  have K1 := Aside0.mk hk1
  have K2 := Aside0.mk hk2
  have K3 := Aside0.mk hk3
  have K4 := Aside0.mk hk4
  have K5 := Aside0.mk hk5
  have K6 := Aside0.mk hk6
  have K7 := Aside0.mk hk7
  have FLA := Aside0.mk (show ∀ W, Below w.heap.size w W → Kd.C (Kd.int .u64) W A0 LA.length LA from fun W h => by rw [NLA.out]; exact C_low n (Kd.C_below HR0.out h))
  have FLB := Aside0.mk (show ∀ W, Below w.heap.size w W → Kd.C (Kd.int .u64) W A1 LB.length LB from fun W h => by rw [NLB.out]; exact C_low n (Kd.C_below HR1.out h))
  have CLA := Aside0.mk (show LA.length ≤ c0 from by
    have h1 := strip_len (l0.take n)
    rw [← hLA, List.length_take] at h1
    have := HC0.out
    omega)
  have CLB := Aside0.mk (show LB.length ≤ c1 from by
    have h1 := strip_len (l1.take n)
    rw [← hLB, List.length_take] at h1
    have := HC1.out
    omega)
  have HS1 := Aside0.mk hs1
  have HB1 := Aside0.mk (Below.refl W1.heap.size W1)
  clear hLA hLB hHA hHB hP hQ hO1 hT1 hT2 hMm hU1 hV1 hRES pl1 pl2 pl3 hk1 hk2 hk3 hk4 hk5 hk6 hk7 hs1
  have hgc : ∀ W : World, Below w.heap.size w W → W.cell? ⟨gh, 0, none⟩ = some (.func (.func 74) #[] #[.pointer (some ⟨gh, 0, none⟩)]) := fun W h => pw_cell_below h ((blk_cell HGH.out 0).trans rfl)
  have HGC := Aside0.mk hgc
  have HB := Aside0.mk hB
  have HN := Aside0.mk hN
  clear hB hN hgc
  have hgn : ∀ W : World, Below W1.heap.size W1 W → W.heap[w.heap.size]? = some (.cells #[.int .i64 (n : Int)] 3 (0, 0)) := fun W h => (h.block w.heap.size HS1.out).trans HN.out
  have hgg : ∀ W : World, Below w.heap.size w W → W.heap[gh]? = some (hobj gh) := fun W h => (h.block gh (blk_lt HGH.out)).trans HGH.out
  have LOWA := Aside0.mk (show ∀ W, Below w.heap.size w W → Below W1.heap.size W1 W → Calls Try.prog 76 #[.slice A0 l0.length c0, .pointer (some ⟨w.heap.size, 0, none⟩)] W fun e w' => e = .returned (.slice A0 LA.length c0) ∧ Below W.heap.size W w' from fun W h h1 => by
    have tk_ := nat_low.calls A0 c0 l0 w.heap.size n W (Kd.C_below HR0.out h) HC0.out (hgn W h1)
    rw [← NLA.out] at tk_
    exact tk_.mono (fun e w' hh => ⟨hh.1, hh.2.below⟩))
  have LOWB := Aside0.mk (show ∀ W, Below w.heap.size w W → Below W1.heap.size W1 W → Calls Try.prog 76 #[.slice A1 l1.length c1, .pointer (some ⟨w.heap.size, 0, none⟩)] W fun e w' => e = .returned (.slice A1 LB.length c1) ∧ Below W.heap.size W w' from fun W h h1 => by
    have tk_ := nat_low.calls A1 c1 l1 w.heap.size n W (Kd.C_below HR1.out h) HC1.out (hgn W h1)
    rw [← NLB.out] at tk_
    exact tk_.mono (fun e w' hh => ⟨hh.1, hh.2.below⟩))
  have HIGHA := Aside0.mk (show ∀ W, Below w.heap.size w W → Below W1.heap.size W1 W → Calls Try.prog 77 #[.slice A0 l0.length c0, .pointer (some ⟨w.heap.size, 0, none⟩)] W fun e w' => ∃ (A : Option Addr) (c : Nat), e = .returned (.slice A HA.length c) ∧ HA.length ≤ c ∧ Kd.C (Kd.int .u64) w' A HA.length HA ∧ Below W.heap.size W w' from fun W h h1 => by
    have tk_ := nat_high.calls A0 c0 l0 w.heap.size n W HC0.out (hgn W h1)
    rw [← NHA.out] at tk_
    exact tk_.mono (fun e w' hh => by
      obtain ⟨A, c, q1, q2, q3, q4⟩ := hh
      exact ⟨A, c, q1, q2, q3 w' (Kd.C_below HR0.out (below_step h q4.below)), q4.below⟩))
  have HIGHB := Aside0.mk (show ∀ W, Below w.heap.size w W → Below W1.heap.size W1 W → Calls Try.prog 77 #[.slice A1 l1.length c1, .pointer (some ⟨w.heap.size, 0, none⟩)] W fun e w' => ∃ (A : Option Addr) (c : Nat), e = .returned (.slice A HB_.length c) ∧ HB_.length ≤ c ∧ Kd.C (Kd.int .u64) w' A HB_.length HB_ ∧ Below W.heap.size W w' from fun W h h1 => by
    have tk_ := nat_high.calls A1 c1 l1 w.heap.size n W HC1.out (hgn W h1)
    rw [← NHB.out] at tk_
    exact tk_.mono (fun e w' hh => by
      obtain ⟨A, c, q1, q2, q3, q4⟩ := hh
      exact ⟨A, c, q1, q2, q3 w' (Kd.C_below HR1.out (below_step h q4.below)), q4.below⟩))
  have told : ∀ {l2 l3 R : List Int} (hR : R = limbs (num l2 * num l3)) (h : l2.length + l3.length < l0.length + l1.length ∧ l2.length ≤ 400 ∧ l3.length ≤ 400 ∧ Dig (b64 : Int) l2 ∧ Dig (b64 : Int) l3) (W : World) (A2 : Option Addr) (c2 : Nat) (A3 : Option Addr) (c3 : Nat), Below w.heap.size w W → Kd.C (Kd.int .u64) W A2 l2.length l2 → l2.length ≤ c2 → Kd.C (Kd.int .u64) W A3 l3.length l3 → l3.length ≤ c3 →
      Calls Try.prog 74 #[.slice A2 l2.length c2, .slice A3 l3.length c3, .pointer (some ⟨gh, 0, none⟩)] W fun e w' => ∃ (A : Option Addr) (c : Nat), e = .returned (.slice A R.length c) ∧ R.length ≤ c ∧ Kd.C (Kd.int .u64) w' A R.length R ∧ Below W.heap.size W w' := by
    intro l2 l3 R hR h W A2 c2 A3 c3 hw h2 h2c h3 h3c
    have tk_ := HI.out A2 c2 l2 A3 c3 l3 W h.1 h.2.1 h.2.2.1 h.2.2.2.1 h.2.2.2.2 h2 h2c h3 h3c (hgg W hw)
    unfold Halved at tk_
    rw [← hR] at tk_
    refine tk_.mono (fun e w' hh => ?_)
    obtain ⟨v, q1, q2, q3⟩ := hh
    obtain ⟨A, c, rfl⟩ := Kd.R_slice q2
    exact ⟨A, c, q1, (Kd.R_reads' q2).2.1, (Kd.R_reads' q2).2.2, q3⟩
  have HALP := Aside0.mk (told NP.out PL1.out)
  have HALQ := Aside0.mk (told NQ.out PL2.out)
  have HALM := Aside0.mk (told NM.out PL3.out)
  have SUM1 := Aside0.mk (show ∀ (W : World) (A2 : Option Addr) (c2 : Nat) (A3 : Option Addr) (c3 : Nat), Kd.C (Kd.int .u64) W A2 LA.length LA → LA.length ≤ c2 → Kd.C (Kd.int .u64) W A3 HA.length HA → HA.length ≤ c3 → Calls Try.prog 43 #[.slice A2 LA.length c2, .slice A3 HA.length c3] W fun e w' => ∃ (A : Option Addr) (c : Nat), e = .returned (.slice A S1.length c) ∧ S1.length ≤ c ∧ Kd.C (Kd.int .u64) w' A S1.length S1 ∧ Below W.heap.size W w' from fun W A2 c2 A3 c3 h2 h2c h3 h3c => (nat_sum.calls k1 A2 c2 LA A3 c3 HA S1 W h2 h2c h3 h3c K1.out).mono (fun e w' hh => by
    obtain ⟨v, q1, q2, q3⟩ := hh
    obtain ⟨A, c, rfl⟩ := Kd.R_slice q2
    exact ⟨A, c, q1, (Kd.R_reads' q2).2.1, (Kd.R_reads' q2).2.2, q3⟩))
  have SUM2 := Aside0.mk (show ∀ (W : World) (A2 : Option Addr) (c2 : Nat) (A3 : Option Addr) (c3 : Nat), Kd.C (Kd.int .u64) W A2 LB.length LB → LB.length ≤ c2 → Kd.C (Kd.int .u64) W A3 HB_.length HB_ → HB_.length ≤ c3 → Calls Try.prog 43 #[.slice A2 LB.length c2, .slice A3 HB_.length c3] W fun e w' => ∃ (A : Option Addr) (c : Nat), e = .returned (.slice A S2.length c) ∧ S2.length ≤ c ∧ Kd.C (Kd.int .u64) w' A S2.length S2 ∧ Below W.heap.size W w' from fun W A2 c2 A3 c3 h2 h2c h3 h3c => (nat_sum.calls k2 A2 c2 LB A3 c3 HB_ S2 W h2 h2c h3 h3c K2.out).mono (fun e w' hh => by
    obtain ⟨v, q1, q2, q3⟩ := hh
    obtain ⟨A, c, rfl⟩ := Kd.R_slice q2
    exact ⟨A, c, q1, (Kd.R_reads' q2).2.1, (Kd.R_reads' q2).2.2, q3⟩))
  have trimmed : ∀ {l R : List Int} (hR : R = strip l) (W : World) (A2 : Option Addr) (c2 : Nat), Kd.C (Kd.int .u64) W A2 l.length l → l.length ≤ c2 → Calls Try.prog 72 #[.slice A2 l.length c2] W fun e w' => e = .returned (.slice A2 R.length c2) ∧ R.length ≤ c2 ∧ Kd.C (Kd.int .u64) w' A2 R.length R ∧ Below W.heap.size W w' := by
    intro l R hR W A2 c2 h2 h2c
    refine (nat_trimC.calls A2 c2 l W h2 h2c).mono (fun e w' hh => ?_)
    have q := C_low l.length (Kd.C_below h2 hh.2.below)
    rw [List.take_length, ← hR] at q
    have q2 := strip_len l
    rw [← hR] at q2
    exact ⟨by rw [hh.1, hR], by omega, q, hh.2.below⟩
  have TRIM1 := Aside0.mk (trimmed NT1.out)
  have TRIM2 := Aside0.mk (trimmed NT2.out)
  have TRIM3 := Aside0.mk (trimmed NU1.out)
  have TRIM4 := Aside0.mk (trimmed NV1.out)
  have LESS1 := Aside0.mk (show ∀ (W : World) (A2 : Option Addr) (c2 : Nat) (A3 : Option Addr) (c3 : Nat), Kd.C (Kd.int .u64) W A2 Mm.length Mm → Mm.length ≤ c2 → Kd.C (Kd.int .u64) W A3 P.length P → P.length ≤ c3 → Calls Try.prog 78 #[.slice A2 Mm.length c2, .slice A3 P.length c3] W fun e w' => ∃ (A : Option Addr) (c : Nat), e = .returned (.slice A U.length c) ∧ U.length ≤ c ∧ Kd.C (Kd.int .u64) w' A U.length U ∧ Below W.heap.size W w' from fun W A2 c2 A3 c3 h2 h2c h3 h3c => (nat_less.calls k3 A2 c2 Mm A3 c3 P U W h2 h2c h3 h3c K3.out).mono (fun e w' hh => by
    obtain ⟨v, q1, q2, q3⟩ := hh
    obtain ⟨A, c, rfl⟩ := Kd.R_slice q2
    exact ⟨A, c, q1, (Kd.R_reads' q2).2.1, (Kd.R_reads' q2).2.2, q3⟩))
  have LESS2 := Aside0.mk (show ∀ (W : World) (A2 : Option Addr) (c2 : Nat) (A3 : Option Addr) (c3 : Nat), Kd.C (Kd.int .u64) W A2 U1.length U1 → U1.length ≤ c2 → Kd.C (Kd.int .u64) W A3 Q.length Q → Q.length ≤ c3 → Calls Try.prog 78 #[.slice A2 U1.length c2, .slice A3 Q.length c3] W fun e w' => ∃ (A : Option Addr) (c : Nat), e = .returned (.slice A V.length c) ∧ V.length ≤ c ∧ Kd.C (Kd.int .u64) w' A V.length V ∧ Below W.heap.size W w' from fun W A2 c2 A3 c3 h2 h2c h3 h3c => (nat_less.calls k4 A2 c2 U1 A3 c3 Q V W h2 h2c h3 h3c K4.out).mono (fun e w' hh => by
    obtain ⟨v, q1, q2, q3⟩ := hh
    obtain ⟨A, c, rfl⟩ := Kd.R_slice q2
    exact ⟨A, c, q1, (Kd.R_reads' q2).2.1, (Kd.R_reads' q2).2.2, q3⟩))
  clear told hgn hgg trimmed
  go_region_held3 (fun W' => W'.cell? ⟨gh, 0, none⟩ = some (.func (.func 74) #[] #[.pointer (some ⟨gh, 0, none⟩)])) (exact HGC.out _ (by repeat (first | exact HB.out | apply below_drew | apply pw_below_drewN))) (first | (go_at_call 76; (with_reducible refine (LOWA.out _ ?sB ?s1).mono ?_); (case sB => exact (by repeat (first | exact HB.out | apply below_drew | apply pw_below_drewN))); (case s1 => exact (by repeat (first | exact HB1.out | apply below_drew | apply pw_below_drewN))); rintro e w2 ⟨rfl, hb⟩; have n1_ := Aside0.mk (below_step (by repeat (first | exact HB.out | apply below_drew | apply pw_below_drewN)) hb); have n2_ := Aside0.mk (below_step (by repeat (first | exact HB1.out | apply below_drew | apply pw_below_drewN)) hb); clear HB HB1; have HB := n1_; have HB1 := n2_; clear n1_ n2_; (try (have n_ := Aside0.mk (Kd.C_below (by first | exact FP.out | exact Kd.C_drew FP.out) hb); clear FP; have FP := n_; clear n_)); clear hb) | (go_at_call 76; (with_reducible refine (LOWB.out _ ?sB ?s1).mono ?_); (case sB => exact (by repeat (first | exact HB.out | apply below_drew | apply pw_below_drewN))); (case s1 => exact (by repeat (first | exact HB1.out | apply below_drew | apply pw_below_drewN))); rintro e w2 ⟨rfl, hb⟩; have n1_ := Aside0.mk (below_step (by repeat (first | exact HB.out | apply below_drew | apply pw_below_drewN)) hb); have n2_ := Aside0.mk (below_step (by repeat (first | exact HB1.out | apply below_drew | apply pw_below_drewN)) hb); clear HB HB1; have HB := n1_; have HB1 := n2_; clear n1_ n2_; (try (have n_ := Aside0.mk (Kd.C_below (by first | exact FP.out | exact Kd.C_drew FP.out) hb); clear FP; have FP := n_; clear n_)); clear hb) | (go_at_call 74; (with_reducible refine (HALP.out _ _ _ _ _ ?sB ?s1 ?s2 ?s3 ?s4).mono ?_); (case sB => exact (by repeat (first | exact HB.out | apply below_drew | apply pw_below_drewN))); (case s1 => exact (FLA.out _ (by repeat (first | exact HB.out | apply below_drew | apply pw_below_drewN)))); (case s2 => exact CLA.out); (case s3 => exact (FLB.out _ (by repeat (first | exact HB.out | apply below_drew | apply pw_below_drewN)))); (case s4 => exact CLB.out); rintro e w2 ⟨AP, cP, rfl, hc_, hC_, hb⟩; have n1_ := Aside0.mk (below_step (by repeat (first | exact HB.out | apply below_drew | apply pw_below_drewN)) hb); have n2_ := Aside0.mk (below_step (by repeat (first | exact HB1.out | apply below_drew | apply pw_below_drewN)) hb); clear HB HB1; have HB := n1_; have HB1 := n2_; clear n1_ n2_; clear hb; have CP := Aside0.mk hc_; have FP := Aside0.mk hC_; clear hc_ hC_) | (go_at_call 77; (with_reducible refine (HIGHA.out _ ?sB ?s1).mono ?_); (case sB => exact (by repeat (first | exact HB.out | apply below_drew | apply pw_below_drewN))); (case s1 => exact (by repeat (first | exact HB1.out | apply below_drew | apply pw_below_drewN))); rintro e w2 ⟨AHA, cHA, rfl, hc_, hC_, hb⟩; have n1_ := Aside0.mk (below_step (by repeat (first | exact HB.out | apply below_drew | apply pw_below_drewN)) hb); have n2_ := Aside0.mk (below_step (by repeat (first | exact HB1.out | apply below_drew | apply pw_below_drewN)) hb); clear HB HB1; have HB := n1_; have HB1 := n2_; clear n1_ n2_; (try (have n_ := Aside0.mk (Kd.C_below (by first | exact FP.out | exact Kd.C_drew FP.out) hb); clear FP; have FP := n_; clear n_)); clear hb; have CHA := Aside0.mk hc_; have FHA := Aside0.mk hC_; clear hc_ hC_) | (go_at_call 77; (with_reducible refine (HIGHB.out _ ?sB ?s1).mono ?_); (case sB => exact (by repeat (first | exact HB.out | apply below_drew | apply pw_below_drewN))); (case s1 => exact (by repeat (first | exact HB1.out | apply below_drew | apply pw_below_drewN))); rintro e w2 ⟨AHB, cHB, rfl, hc_, hC_, hb⟩; have n1_ := Aside0.mk (below_step (by repeat (first | exact HB.out | apply below_drew | apply pw_below_drewN)) hb); have n2_ := Aside0.mk (below_step (by repeat (first | exact HB1.out | apply below_drew | apply pw_below_drewN)) hb); clear HB HB1; have HB := n1_; have HB1 := n2_; clear n1_ n2_; (try (have n_ := Aside0.mk (Kd.C_below (by first | exact FP.out | exact Kd.C_drew FP.out) hb); clear FP; have FP := n_; clear n_)); (try (have n_ := Aside0.mk (Kd.C_below (by first | exact FHA.out | exact Kd.C_drew FHA.out) hb); clear FHA; have FHA := n_; clear n_)); clear hb; have CHB := Aside0.mk hc_; have FHB := Aside0.mk hC_; clear hc_ hC_) | (go_at_call 74; (with_reducible refine (HALQ.out _ _ _ _ _ ?sB ?s1 ?s2 ?s3 ?s4).mono ?_); (case sB => exact (by repeat (first | exact HB.out | apply below_drew | apply pw_below_drewN))); (case s1 => exact (by first | exact FHA.out | exact Kd.C_drew FHA.out)); (case s2 => exact CHA.out); (case s3 => exact (by first | exact FHB.out | exact Kd.C_drew FHB.out)); (case s4 => exact CHB.out); rintro e w2 ⟨AQ, cQ, rfl, hc_, hC_, hb⟩; have n1_ := Aside0.mk (below_step (by repeat (first | exact HB.out | apply below_drew | apply pw_below_drewN)) hb); have n2_ := Aside0.mk (below_step (by repeat (first | exact HB1.out | apply below_drew | apply pw_below_drewN)) hb); clear HB HB1; have HB := n1_; have HB1 := n2_; clear n1_ n2_; (try (have n_ := Aside0.mk (Kd.C_below (by first | exact FP.out | exact Kd.C_drew FP.out) hb); clear FP; have FP := n_; clear n_)); clear hb; have CQ := Aside0.mk hc_; have FQ := Aside0.mk hC_; clear hc_ hC_))
  clear FHA FHB CHA CHB
  go_wp2
  go_region_held3 (fun W' => W'.cell? ⟨gh, 0, none⟩ = some (.func (.func 74) #[] #[.pointer (some ⟨gh, 0, none⟩)])) (exact HGC.out _ (by repeat (first | exact HB.out | apply below_drew | apply pw_below_drewN))) (first | (go_at_call 76; (with_reducible refine (LOWA.out _ ?sB ?s1).mono ?_); (case sB => exact (by repeat (first | exact HB.out | apply below_drew | apply pw_below_drewN))); (case s1 => exact (by repeat (first | exact HB1.out | apply below_drew | apply pw_below_drewN))); rintro e w2 ⟨rfl, hb⟩; have n1_ := Aside0.mk (below_step (by repeat (first | exact HB.out | apply below_drew | apply pw_below_drewN)) hb); have n2_ := Aside0.mk (below_step (by repeat (first | exact HB1.out | apply below_drew | apply pw_below_drewN)) hb); clear HB HB1; have HB := n1_; have HB1 := n2_; clear n1_ n2_; (try (have n_ := Aside0.mk (Kd.C_below (by first | exact FP.out | exact Kd.C_drew FP.out) hb); clear FP; have FP := n_; clear n_)); (try (have n_ := Aside0.mk (Kd.C_below (by first | exact FQ.out | exact Kd.C_drew FQ.out) hb); clear FQ; have FQ := n_; clear n_)); (try (have n_ := Aside0.mk (Kd.C_below (by first | exact FHC.out | exact Kd.C_drew FHC.out) hb); clear FHC; have FHC := n_; clear n_)); (try (have n_ := Aside0.mk (Kd.C_below (by first | exact FHD.out | exact Kd.C_drew FHD.out) hb); clear FHD; have FHD := n_; clear n_)); (try (have n_ := Aside0.mk (Kd.C_below (by first | exact FS1.out | exact Kd.C_drew FS1.out) hb); clear FS1; have FS1 := n_; clear n_)); (try (have n_ := Aside0.mk (Kd.C_below (by first | exact FT1.out | exact Kd.C_drew FT1.out) hb); clear FT1; have FT1 := n_; clear n_)); (try (have n_ := Aside0.mk (Kd.C_below (by first | exact FS2.out | exact Kd.C_drew FS2.out) hb); clear FS2; have FS2 := n_; clear n_)); (try (have n_ := Aside0.mk (Kd.C_below (by first | exact FT2.out | exact Kd.C_drew FT2.out) hb); clear FT2; have FT2 := n_; clear n_)); clear hb) | (go_at_call 76; (with_reducible refine (LOWB.out _ ?sB ?s1).mono ?_); (case sB => exact (by repeat (first | exact HB.out | apply below_drew | apply pw_below_drewN))); (case s1 => exact (by repeat (first | exact HB1.out | apply below_drew | apply pw_below_drewN))); rintro e w2 ⟨rfl, hb⟩; have n1_ := Aside0.mk (below_step (by repeat (first | exact HB.out | apply below_drew | apply pw_below_drewN)) hb); have n2_ := Aside0.mk (below_step (by repeat (first | exact HB1.out | apply below_drew | apply pw_below_drewN)) hb); clear HB HB1; have HB := n1_; have HB1 := n2_; clear n1_ n2_; (try (have n_ := Aside0.mk (Kd.C_below (by first | exact FP.out | exact Kd.C_drew FP.out) hb); clear FP; have FP := n_; clear n_)); (try (have n_ := Aside0.mk (Kd.C_below (by first | exact FQ.out | exact Kd.C_drew FQ.out) hb); clear FQ; have FQ := n_; clear n_)); (try (have n_ := Aside0.mk (Kd.C_below (by first | exact FHC.out | exact Kd.C_drew FHC.out) hb); clear FHC; have FHC := n_; clear n_)); (try (have n_ := Aside0.mk (Kd.C_below (by first | exact FHD.out | exact Kd.C_drew FHD.out) hb); clear FHD; have FHD := n_; clear n_)); (try (have n_ := Aside0.mk (Kd.C_below (by first | exact FS1.out | exact Kd.C_drew FS1.out) hb); clear FS1; have FS1 := n_; clear n_)); (try (have n_ := Aside0.mk (Kd.C_below (by first | exact FT1.out | exact Kd.C_drew FT1.out) hb); clear FT1; have FT1 := n_; clear n_)); (try (have n_ := Aside0.mk (Kd.C_below (by first | exact FS2.out | exact Kd.C_drew FS2.out) hb); clear FS2; have FS2 := n_; clear n_)); (try (have n_ := Aside0.mk (Kd.C_below (by first | exact FT2.out | exact Kd.C_drew FT2.out) hb); clear FT2; have FT2 := n_; clear n_)); clear hb) | (go_at_call 77; (with_reducible refine (HIGHA.out _ ?sB ?s1).mono ?_); (case sB => exact (by repeat (first | exact HB.out | apply below_drew | apply pw_below_drewN))); (case s1 => exact (by repeat (first | exact HB1.out | apply below_drew | apply pw_below_drewN))); rintro e w2 ⟨AHC, cHC, rfl, hc_, hC_, hb⟩; have n1_ := Aside0.mk (below_step (by repeat (first | exact HB.out | apply below_drew | apply pw_below_drewN)) hb); have n2_ := Aside0.mk (below_step (by repeat (first | exact HB1.out | apply below_drew | apply pw_below_drewN)) hb); clear HB HB1; have HB := n1_; have HB1 := n2_; clear n1_ n2_; (try (have n_ := Aside0.mk (Kd.C_below (by first | exact FP.out | exact Kd.C_drew FP.out) hb); clear FP; have FP := n_; clear n_)); (try (have n_ := Aside0.mk (Kd.C_below (by first | exact FQ.out | exact Kd.C_drew FQ.out) hb); clear FQ; have FQ := n_; clear n_)); (try (have n_ := Aside0.mk (Kd.C_below (by first | exact FHC.out | exact Kd.C_drew FHC.out) hb); clear FHC; have FHC := n_; clear n_)); (try (have n_ := Aside0.mk (Kd.C_below (by first | exact FHD.out | exact Kd.C_drew FHD.out) hb); clear FHD; have FHD := n_; clear n_)); (try (have n_ := Aside0.mk (Kd.C_below (by first | exact FS1.out | exact Kd.C_drew FS1.out) hb); clear FS1; have FS1 := n_; clear n_)); (try (have n_ := Aside0.mk (Kd.C_below (by first | exact FT1.out | exact Kd.C_drew FT1.out) hb); clear FT1; have FT1 := n_; clear n_)); (try (have n_ := Aside0.mk (Kd.C_below (by first | exact FS2.out | exact Kd.C_drew FS2.out) hb); clear FS2; have FS2 := n_; clear n_)); (try (have n_ := Aside0.mk (Kd.C_below (by first | exact FT2.out | exact Kd.C_drew FT2.out) hb); clear FT2; have FT2 := n_; clear n_)); clear hb; have CHC := Aside0.mk hc_; have FHC := Aside0.mk hC_; clear hc_ hC_) | (go_at_call 77; (with_reducible refine (HIGHB.out _ ?sB ?s1).mono ?_); (case sB => exact (by repeat (first | exact HB.out | apply below_drew | apply pw_below_drewN))); (case s1 => exact (by repeat (first | exact HB1.out | apply below_drew | apply pw_below_drewN))); rintro e w2 ⟨AHD, cHD, rfl, hc_, hC_, hb⟩; have n1_ := Aside0.mk (below_step (by repeat (first | exact HB.out | apply below_drew | apply pw_below_drewN)) hb); have n2_ := Aside0.mk (below_step (by repeat (first | exact HB1.out | apply below_drew | apply pw_below_drewN)) hb); clear HB HB1; have HB := n1_; have HB1 := n2_; clear n1_ n2_; (try (have n_ := Aside0.mk (Kd.C_below (by first | exact FP.out | exact Kd.C_drew FP.out) hb); clear FP; have FP := n_; clear n_)); (try (have n_ := Aside0.mk (Kd.C_below (by first | exact FQ.out | exact Kd.C_drew FQ.out) hb); clear FQ; have FQ := n_; clear n_)); (try (have n_ := Aside0.mk (Kd.C_below (by first | exact FHC.out | exact Kd.C_drew FHC.out) hb); clear FHC; have FHC := n_; clear n_)); (try (have n_ := Aside0.mk (Kd.C_below (by first | exact FHD.out | exact Kd.C_drew FHD.out) hb); clear FHD; have FHD := n_; clear n_)); (try (have n_ := Aside0.mk (Kd.C_below (by first | exact FS1.out | exact Kd.C_drew FS1.out) hb); clear FS1; have FS1 := n_; clear n_)); (try (have n_ := Aside0.mk (Kd.C_below (by first | exact FT1.out | exact Kd.C_drew FT1.out) hb); clear FT1; have FT1 := n_; clear n_)); (try (have n_ := Aside0.mk (Kd.C_below (by first | exact FS2.out | exact Kd.C_drew FS2.out) hb); clear FS2; have FS2 := n_; clear n_)); (try (have n_ := Aside0.mk (Kd.C_below (by first | exact FT2.out | exact Kd.C_drew FT2.out) hb); clear FT2; have FT2 := n_; clear n_)); clear hb; have CHD := Aside0.mk hc_; have FHD := Aside0.mk hC_; clear hc_ hC_) | (go_at_call 43; (with_reducible refine (SUM1.out _ _ _ _ _ ?s1 ?s2 ?s3 ?s4).mono ?_); (case s1 => exact (FLA.out _ (by repeat (first | exact HB.out | apply below_drew | apply pw_below_drewN)))); (case s2 => exact CLA.out); (case s3 => exact (by first | exact FHC.out | exact Kd.C_drew FHC.out)); (case s4 => exact CHC.out); rintro e w2 ⟨AS1, cS1, rfl, hc_, hC_, hb⟩; have n1_ := Aside0.mk (below_step (by repeat (first | exact HB.out | apply below_drew | apply pw_below_drewN)) hb); have n2_ := Aside0.mk (below_step (by repeat (first | exact HB1.out | apply below_drew | apply pw_below_drewN)) hb); clear HB HB1; have HB := n1_; have HB1 := n2_; clear n1_ n2_; (try (have n_ := Aside0.mk (Kd.C_below (by first | exact FP.out | exact Kd.C_drew FP.out) hb); clear FP; have FP := n_; clear n_)); (try (have n_ := Aside0.mk (Kd.C_below (by first | exact FQ.out | exact Kd.C_drew FQ.out) hb); clear FQ; have FQ := n_; clear n_)); (try (have n_ := Aside0.mk (Kd.C_below (by first | exact FHC.out | exact Kd.C_drew FHC.out) hb); clear FHC; have FHC := n_; clear n_)); (try (have n_ := Aside0.mk (Kd.C_below (by first | exact FHD.out | exact Kd.C_drew FHD.out) hb); clear FHD; have FHD := n_; clear n_)); (try (have n_ := Aside0.mk (Kd.C_below (by first | exact FS1.out | exact Kd.C_drew FS1.out) hb); clear FS1; have FS1 := n_; clear n_)); (try (have n_ := Aside0.mk (Kd.C_below (by first | exact FT1.out | exact Kd.C_drew FT1.out) hb); clear FT1; have FT1 := n_; clear n_)); (try (have n_ := Aside0.mk (Kd.C_below (by first | exact FS2.out | exact Kd.C_drew FS2.out) hb); clear FS2; have FS2 := n_; clear n_)); (try (have n_ := Aside0.mk (Kd.C_below (by first | exact FT2.out | exact Kd.C_drew FT2.out) hb); clear FT2; have FT2 := n_; clear n_)); clear hb; have CS1 := Aside0.mk hc_; have FS1 := Aside0.mk hC_; clear hc_ hC_) | (go_at_call 43; (with_reducible refine (SUM2.out _ _ _ _ _ ?s1 ?s2 ?s3 ?s4).mono ?_); (case s1 => exact (FLB.out _ (by repeat (first | exact HB.out | apply below_drew | apply pw_below_drewN)))); (case s2 => exact CLB.out); (case s3 => exact (by first | exact FHD.out | exact Kd.C_drew FHD.out)); (case s4 => exact CHD.out); rintro e w2 ⟨AS2, cS2, rfl, hc_, hC_, hb⟩; have n1_ := Aside0.mk (below_step (by repeat (first | exact HB.out | apply below_drew | apply pw_below_drewN)) hb); have n2_ := Aside0.mk (below_step (by repeat (first | exact HB1.out | apply below_drew | apply pw_below_drewN)) hb); clear HB HB1; have HB := n1_; have HB1 := n2_; clear n1_ n2_; (try (have n_ := Aside0.mk (Kd.C_below (by first | exact FP.out | exact Kd.C_drew FP.out) hb); clear FP; have FP := n_; clear n_)); (try (have n_ := Aside0.mk (Kd.C_below (by first | exact FQ.out | exact Kd.C_drew FQ.out) hb); clear FQ; have FQ := n_; clear n_)); (try (have n_ := Aside0.mk (Kd.C_below (by first | exact FHC.out | exact Kd.C_drew FHC.out) hb); clear FHC; have FHC := n_; clear n_)); (try (have n_ := Aside0.mk (Kd.C_below (by first | exact FHD.out | exact Kd.C_drew FHD.out) hb); clear FHD; have FHD := n_; clear n_)); (try (have n_ := Aside0.mk (Kd.C_below (by first | exact FS1.out | exact Kd.C_drew FS1.out) hb); clear FS1; have FS1 := n_; clear n_)); (try (have n_ := Aside0.mk (Kd.C_below (by first | exact FT1.out | exact Kd.C_drew FT1.out) hb); clear FT1; have FT1 := n_; clear n_)); (try (have n_ := Aside0.mk (Kd.C_below (by first | exact FS2.out | exact Kd.C_drew FS2.out) hb); clear FS2; have FS2 := n_; clear n_)); (try (have n_ := Aside0.mk (Kd.C_below (by first | exact FT2.out | exact Kd.C_drew FT2.out) hb); clear FT2; have FT2 := n_; clear n_)); clear hb; have CS2 := Aside0.mk hc_; have FS2 := Aside0.mk hC_; clear hc_ hC_) | (go_at_call 72; (with_reducible refine (TRIM1.out _ _ _ ?s1 ?s2).mono ?_); (case s1 => exact (by first | exact FS1.out | exact Kd.C_drew FS1.out)); (case s2 => exact CS1.out); rintro e w2 ⟨rfl, hc_, hC_, hb⟩; have n1_ := Aside0.mk (below_step (by repeat (first | exact HB.out | apply below_drew | apply pw_below_drewN)) hb); have n2_ := Aside0.mk (below_step (by repeat (first | exact HB1.out | apply below_drew | apply pw_below_drewN)) hb); clear HB HB1; have HB := n1_; have HB1 := n2_; clear n1_ n2_; (try (have n_ := Aside0.mk (Kd.C_below (by first | exact FP.out | exact Kd.C_drew FP.out) hb); clear FP; have FP := n_; clear n_)); (try (have n_ := Aside0.mk (Kd.C_below (by first | exact FQ.out | exact Kd.C_drew FQ.out) hb); clear FQ; have FQ := n_; clear n_)); (try (have n_ := Aside0.mk (Kd.C_below (by first | exact FHC.out | exact Kd.C_drew FHC.out) hb); clear FHC; have FHC := n_; clear n_)); (try (have n_ := Aside0.mk (Kd.C_below (by first | exact FHD.out | exact Kd.C_drew FHD.out) hb); clear FHD; have FHD := n_; clear n_)); (try (have n_ := Aside0.mk (Kd.C_below (by first | exact FS1.out | exact Kd.C_drew FS1.out) hb); clear FS1; have FS1 := n_; clear n_)); (try (have n_ := Aside0.mk (Kd.C_below (by first | exact FT1.out | exact Kd.C_drew FT1.out) hb); clear FT1; have FT1 := n_; clear n_)); (try (have n_ := Aside0.mk (Kd.C_below (by first | exact FS2.out | exact Kd.C_drew FS2.out) hb); clear FS2; have FS2 := n_; clear n_)); (try (have n_ := Aside0.mk (Kd.C_below (by first | exact FT2.out | exact Kd.C_drew FT2.out) hb); clear FT2; have FT2 := n_; clear n_)); clear hb; have CT1 := Aside0.mk hc_; have FT1 := Aside0.mk hC_; clear hc_ hC_) | (go_at_call 72; (with_reducible refine (TRIM2.out _ _ _ ?s1 ?s2).mono ?_); (case s1 => exact (by first | exact FS2.out | exact Kd.C_drew FS2.out)); (case s2 => exact CS2.out); rintro e w2 ⟨rfl, hc_, hC_, hb⟩; have n1_ := Aside0.mk (below_step (by repeat (first | exact HB.out | apply below_drew | apply pw_below_drewN)) hb); have n2_ := Aside0.mk (below_step (by repeat (first | exact HB1.out | apply below_drew | apply pw_below_drewN)) hb); clear HB HB1; have HB := n1_; have HB1 := n2_; clear n1_ n2_; (try (have n_ := Aside0.mk (Kd.C_below (by first | exact FP.out | exact Kd.C_drew FP.out) hb); clear FP; have FP := n_; clear n_)); (try (have n_ := Aside0.mk (Kd.C_below (by first | exact FQ.out | exact Kd.C_drew FQ.out) hb); clear FQ; have FQ := n_; clear n_)); (try (have n_ := Aside0.mk (Kd.C_below (by first | exact FHC.out | exact Kd.C_drew FHC.out) hb); clear FHC; have FHC := n_; clear n_)); (try (have n_ := Aside0.mk (Kd.C_below (by first | exact FHD.out | exact Kd.C_drew FHD.out) hb); clear FHD; have FHD := n_; clear n_)); (try (have n_ := Aside0.mk (Kd.C_below (by first | exact FS1.out | exact Kd.C_drew FS1.out) hb); clear FS1; have FS1 := n_; clear n_)); (try (have n_ := Aside0.mk (Kd.C_below (by first | exact FT1.out | exact Kd.C_drew FT1.out) hb); clear FT1; have FT1 := n_; clear n_)); (try (have n_ := Aside0.mk (Kd.C_below (by first | exact FS2.out | exact Kd.C_drew FS2.out) hb); clear FS2; have FS2 := n_; clear n_)); (try (have n_ := Aside0.mk (Kd.C_below (by first | exact FT2.out | exact Kd.C_drew FT2.out) hb); clear FT2; have FT2 := n_; clear n_)); clear hb; have CT2 := Aside0.mk hc_; have FT2 := Aside0.mk hC_; clear hc_ hC_) | (go_at_call 74; (with_reducible refine (HALM.out _ _ _ _ _ ?sB ?s1 ?s2 ?s3 ?s4).mono ?_); (case sB => exact (by repeat (first | exact HB.out | apply below_drew | apply pw_below_drewN))); (case s1 => exact (by first | exact FT1.out | exact Kd.C_drew FT1.out)); (case s2 => exact CT1.out); (case s3 => exact (by first | exact FT2.out | exact Kd.C_drew FT2.out)); (case s4 => exact CT2.out); rintro e w2 ⟨AM, cM, rfl, hc_, hC_, hb⟩; have n1_ := Aside0.mk (below_step (by repeat (first | exact HB.out | apply below_drew | apply pw_below_drewN)) hb); have n2_ := Aside0.mk (below_step (by repeat (first | exact HB1.out | apply below_drew | apply pw_below_drewN)) hb); clear HB HB1; have HB := n1_; have HB1 := n2_; clear n1_ n2_; (try (have n_ := Aside0.mk (Kd.C_below (by first | exact FP.out | exact Kd.C_drew FP.out) hb); clear FP; have FP := n_; clear n_)); (try (have n_ := Aside0.mk (Kd.C_below (by first | exact FQ.out | exact Kd.C_drew FQ.out) hb); clear FQ; have FQ := n_; clear n_)); clear hb; have CM := Aside0.mk hc_; have FM := Aside0.mk hC_; clear hc_ hC_))
  clear FHC FHD CHC CHD FS1 FS2 FT1 FT2
  obtain ⟨N, hN⟩ : ∃ N : Nat, N = l0.length + l1.length + 1 := ⟨_, rfl⟩
  obtain ⟨O0, hO0⟩ : ∃ X : List Int, X = List.replicate N 0 := ⟨_, rfl⟩
  have HNL := Aside0.mk (show N ≤ 1000 from by have := HL.out; omega)
  have NO0 := Aside0.mk hO0
  have NO1b := Aside0.mk (show O1 = P.take (min P.length O0.length) ++ O0.drop (min P.length O0.length) from by
    have h := NO1.out
    rw [← hN, ← hO0] at h
    rw [hO0, List.length_replicate, ← hO0]
    exact h)
  have K6b := Aside0.mk (show nat_into.f k6 O2 Q (2 * (n : Int)) = some O3 from by
    have h := K6.out
    rw [Int.natCast_mul] at h
    exact h)
  have eN : wrap64 (wrap64 ((l0.length : Int) + (l1.length : Int)) + 1) = (N : Int) := by
    have := HL.out
    unfold wrap64
    omega
  have eNi : IntKind.i64.wrap (IntKind.i64.wrap ((l0.length : Int) + (l1.length : Int)) + 1) = (N : Int) := by rw [i64_w, i64_w]; exact eN
  have e2n : wrap64 (2 * (n : Int)) = 2 * (n : Int) := by
    have := HL.out
    unfold wrap64
    omega
  clear hN hO0
  go_wp2_with (first | (go_at_call 78; (with_reducible refine (LESS1.out _ _ _ _ _ ?s1 ?s2 ?s3 ?s4).mono ?_); (case s1 => exact (by first | exact FM.out | exact Kd.C_drew FM.out)); (case s2 => exact CM.out); (case s3 => exact (by first | exact FP.out | exact Kd.C_drew FP.out)); (case s4 => exact CP.out); rintro e w2 ⟨AU, cU, rfl, hc_, hC_, hb⟩; have n1_ := Aside0.mk (below_step (by repeat (first | exact HB.out | apply below_drew | apply pw_below_drewN)) hb); have n2_ := Aside0.mk (below_step (by repeat (first | exact HB1.out | apply below_drew | apply pw_below_drewN)) hb); clear HB HB1; have HB := n1_; have HB1 := n2_; clear n1_ n2_; (try (have n_ := Aside0.mk (Kd.C_below (by first | exact FP.out | exact Kd.C_drew FP.out) hb); clear FP; have FP := n_; clear n_)); (try (have n_ := Aside0.mk (Kd.C_below (by first | exact FQ.out | exact Kd.C_drew FQ.out) hb); clear FQ; have FQ := n_; clear n_)); (try (have n_ := Aside0.mk (Kd.C_below (by first | exact FM.out | exact Kd.C_drew FM.out) hb); clear FM; have FM := n_; clear n_)); (try (have n_ := Aside0.mk (Kd.C_below (by first | exact FU.out | exact Kd.C_drew FU.out) hb); clear FU; have FU := n_; clear n_)); (try (have n_ := Aside0.mk (Kd.C_below (by first | exact FU1.out | exact Kd.C_drew FU1.out) hb); clear FU1; have FU1 := n_; clear n_)); (try (have n_ := Aside0.mk (Kd.C_below (by first | exact FV.out | exact Kd.C_drew FV.out) hb); clear FV; have FV := n_; clear n_)); clear hb; have CU := Aside0.mk hc_; have FU := Aside0.mk hC_; clear hc_ hC_) | (go_at_call 78; (with_reducible refine (LESS2.out _ _ _ _ _ ?s1 ?s2 ?s3 ?s4).mono ?_); (case s1 => exact (by first | exact FU1.out | exact Kd.C_drew FU1.out)); (case s2 => exact CU1.out); (case s3 => exact (by first | exact FQ.out | exact Kd.C_drew FQ.out)); (case s4 => exact CQ.out); rintro e w2 ⟨AV, cV, rfl, hc_, hC_, hb⟩; have n1_ := Aside0.mk (below_step (by repeat (first | exact HB.out | apply below_drew | apply pw_below_drewN)) hb); have n2_ := Aside0.mk (below_step (by repeat (first | exact HB1.out | apply below_drew | apply pw_below_drewN)) hb); clear HB HB1; have HB := n1_; have HB1 := n2_; clear n1_ n2_; (try (have n_ := Aside0.mk (Kd.C_below (by first | exact FP.out | exact Kd.C_drew FP.out) hb); clear FP; have FP := n_; clear n_)); (try (have n_ := Aside0.mk (Kd.C_below (by first | exact FQ.out | exact Kd.C_drew FQ.out) hb); clear FQ; have FQ := n_; clear n_)); (try (have n_ := Aside0.mk (Kd.C_below (by first | exact FM.out | exact Kd.C_drew FM.out) hb); clear FM; have FM := n_; clear n_)); (try (have n_ := Aside0.mk (Kd.C_below (by first | exact FU.out | exact Kd.C_drew FU.out) hb); clear FU; have FU := n_; clear n_)); (try (have n_ := Aside0.mk (Kd.C_below (by first | exact FU1.out | exact Kd.C_drew FU1.out) hb); clear FU1; have FU1 := n_; clear n_)); (try (have n_ := Aside0.mk (Kd.C_below (by first | exact FV.out | exact Kd.C_drew FV.out) hb); clear FV; have FV := n_; clear n_)); clear hb; have CV := Aside0.mk hc_; have FV := Aside0.mk hC_; clear hc_ hC_) | (go_at_call 72; (with_reducible refine (TRIM3.out _ _ _ ?s1 ?s2).mono ?_); (case s1 => exact (by first | exact FU.out | exact Kd.C_drew FU.out)); (case s2 => exact CU.out); rintro e w2 ⟨rfl, hc_, hC_, hb⟩; have n1_ := Aside0.mk (below_step (by repeat (first | exact HB.out | apply below_drew | apply pw_below_drewN)) hb); have n2_ := Aside0.mk (below_step (by repeat (first | exact HB1.out | apply below_drew | apply pw_below_drewN)) hb); clear HB HB1; have HB := n1_; have HB1 := n2_; clear n1_ n2_; (try (have n_ := Aside0.mk (Kd.C_below (by first | exact FP.out | exact Kd.C_drew FP.out) hb); clear FP; have FP := n_; clear n_)); (try (have n_ := Aside0.mk (Kd.C_below (by first | exact FQ.out | exact Kd.C_drew FQ.out) hb); clear FQ; have FQ := n_; clear n_)); (try (have n_ := Aside0.mk (Kd.C_below (by first | exact FM.out | exact Kd.C_drew FM.out) hb); clear FM; have FM := n_; clear n_)); (try (have n_ := Aside0.mk (Kd.C_below (by first | exact FU.out | exact Kd.C_drew FU.out) hb); clear FU; have FU := n_; clear n_)); (try (have n_ := Aside0.mk (Kd.C_below (by first | exact FU1.out | exact Kd.C_drew FU1.out) hb); clear FU1; have FU1 := n_; clear n_)); (try (have n_ := Aside0.mk (Kd.C_below (by first | exact FV.out | exact Kd.C_drew FV.out) hb); clear FV; have FV := n_; clear n_)); clear hb; have CU1 := Aside0.mk hc_; have FU1 := Aside0.mk hC_; clear hc_ hC_) | (go_at_call 72; (with_reducible refine (TRIM4.out _ _ _ ?s1 ?s2).mono ?_); (case s1 => exact (by first | exact FV.out | exact Kd.C_drew FV.out)); (case s2 => exact CV.out); rintro e w2 ⟨rfl, hc_, hC_, hb⟩; have n1_ := Aside0.mk (below_step (by repeat (first | exact HB.out | apply below_drew | apply pw_below_drewN)) hb); have n2_ := Aside0.mk (below_step (by repeat (first | exact HB1.out | apply below_drew | apply pw_below_drewN)) hb); clear HB HB1; have HB := n1_; have HB1 := n2_; clear n1_ n2_; (try (have n_ := Aside0.mk (Kd.C_below (by first | exact FP.out | exact Kd.C_drew FP.out) hb); clear FP; have FP := n_; clear n_)); (try (have n_ := Aside0.mk (Kd.C_below (by first | exact FQ.out | exact Kd.C_drew FQ.out) hb); clear FQ; have FQ := n_; clear n_)); (try (have n_ := Aside0.mk (Kd.C_below (by first | exact FM.out | exact Kd.C_drew FM.out) hb); clear FM; have FM := n_; clear n_)); (try (have n_ := Aside0.mk (Kd.C_below (by first | exact FU.out | exact Kd.C_drew FU.out) hb); clear FU; have FU := n_; clear n_)); (try (have n_ := Aside0.mk (Kd.C_below (by first | exact FU1.out | exact Kd.C_drew FU1.out) hb); clear FU1; have FU1 := n_; clear n_)); (try (have n_ := Aside0.mk (Kd.C_below (by first | exact FV.out | exact Kd.C_drew FV.out) hb); clear FV; have FV := n_; clear n_)); clear hb; have CV1 := Aside0.mk hc_; have FV1 := Aside0.mk hC_; clear hc_ hC_) | ((with_reducible refine gate_dst (N := 80) rfl ?_); refine Kd.R_make (Kd.int .u64) _ 62 rfl (N := 80) rfl 57 _ _ rfl (N : Int) ?hx ?hy Try.underlying57 (.int .u64 0) 8 info62 rfl (by decide) (by omega) 0 (ok := fun _ => True) (okp := fun _ => True) rfl (fun _ hk => hk) trivial (by omega) (by have := HNL.out; omega) (Below.refl _ _) (Nat.le_refl _) ?_; (case hx => first | rfl | exact congrArg (Value.int IntKind.i64) eN | exact congrArg (Value.int IntKind.i64) eNi); (case hy => first | rfl | exact congrArg (Value.int IntKind.i64) eN | exact congrArg (Value.int IntKind.i64) eNi); intro v wm ho hb hg_ hnew_; rw [Int.toNat_natCast, ← NO0.out] at ho; have OWN0 := Aside0.mk hnew_; obtain ⟨Ao, co, rfl⟩ := Kd.R_slice ho; have OWN := Aside0.mk (show ∀ k, some k = (Value.slice Ao O0.length co).ownBlock → w2.heap.size ≤ k from fun k hk => by obtain ⟨b, h1, h2⟩ := OWN0.out; rw [h1] at hk; cases hk; exact h2); have GP := Aside0.mk (Kd.F_below (Kd.C_F (Kd.heap_int .u64) FP.out) hb); have GV := Aside0.mk (Kd.F_below (Kd.C_F (Kd.heap_int .u64) FV1.out) hb); have GQ := Aside0.mk (Kd.F_below (Kd.C_F (Kd.heap_int .u64) FQ.out) hb); have WL := Aside0.mk (Nat.lt_of_lt_of_le HS1.out HB1.out.size); have HNW := Aside0.mk ((below_step HB1.out hb).block w.heap.size HS1.out |>.trans HN.out); have HB2 := HB; have HBM := Aside0.mk hb; have HO := Aside0.mk ho; clear FP FV1 FQ FM FU FU1 FV HB HB1 OWN0 ho hb hg_ hnew_) | ((with_reducible refine gate_builtin (b := .copy) (xs := #[.tmp 81, .tmp 82]) rfl ?_); refine Kd.R_copy (0 : Int) (w0 := w2) w2.heap.size rfl (.tmp 81) (.tmp 82) 57 57 62 rfl Try.underlying57 (by obtain ⟨i0, hi0, _, hsz, _⟩ := info_parts info62; rw [hi0]; simp [hsz]) (.slice Ao O0.length co) O0 P AP P.length cP (fun _ => True) rfl rfl HO.out (Kd.F_now GP.out) HBM.out HBM.out.size ?_; intro w5 ho hb hg; rw [← NO1b.out] at ho; have n1_ := Aside0.mk (Kd.F_grown GV.out hg (fun k hk e_ => absurd (OWN.out k e_) (by have : k < w2.heap.size := hk; omega))); have n2_ := Aside0.mk (Kd.F_grown GQ.out hg (fun k hk e_ => absurd (OWN.out k e_) (by have : k < w2.heap.size := hk; omega))); have n3_ := Aside0.mk ((hg.block w.heap.size (blk_lt HNW.out) (fun e_ => absurd (OWN.out _ e_) (by have := WL.out; omega))).trans HNW.out); clear GP GV GQ HNW HBM HO; have GV := n1_; have GQ := n2_; have HNW := n3_; have HBM := Aside0.mk hb; have HO := Aside0.mk (show Kd.R (Kd.int .u64) 62 w5 w2.heap.size (fun _ => True) (.slice Ao O0.length co) O1 from ho); have hcn := (blk_cell HNW.out 0).trans rfl; clear n1_ n2_ n3_ ho hb hg) | (go_at_call 79; (with_reducible refine (nat_into.calls k5 (fun k => some k = (Value.slice Ao O0.length co).ownBlock) _ O1 AV cV V1 (n : Int) O2 w2 _ HBM.out (Kd.R_tight rfl HO.out) ?s1 CV1.out ?s2).mono ?_); (case s1 => intro W_ hk; exact Kd.F_now (Kd.F_kept GV.out hk (fun k hk2 hs => absurd (OWN.out k hs) (by have : k < w2.heap.size := hk2; omega)))); (case s2 => exact K5.out); rintro e w6 ⟨rfl, hR, hb, hkp⟩; have n2_ := Aside0.mk (Kd.F_kept GQ.out hkp (fun k hk2 hs => absurd (OWN.out k hs) (by have : k < w2.heap.size := hk2; omega))); clear GQ; have GQ := n2_; clear n2_; have n3_ := Aside0.mk ((hkp.2 w.heap.size (blk_lt HNW.out) (fun e_ => absurd (OWN.out _ e_) (by have := WL.out; omega))).trans HNW.out); clear HNW HBM HO hcn; have HNW := n3_; have HBM := Aside0.mk hb; have HO := Aside0.mk (Kd.R_mono hR (ok' := fun _ => True) (fun _ _ => trivial)); have hcn := (blk_cell HNW.out 0).trans rfl; clear n3_ hR hb hkp) | (go_at_call 79; (with_reducible refine (nat_into.calls k6 (fun k => some k = (Value.slice Ao O0.length co).ownBlock) _ O2 AQ cQ Q (2 * (n : Int)) O3 w2 _ HBM.out (Kd.R_tight rfl HO.out) ?s1 CQ.out ?s2).mono ?_); (case s1 => intro W_ hk; exact Kd.F_now (Kd.F_kept GQ.out hk (fun k hk2 hs => absurd (OWN.out k hs) (by have : k < w2.heap.size := hk2; omega)))); (case s2 => exact K6b.out); rintro e w6 ⟨rfl, hR, hb, hkp⟩; have n3_ := Aside0.mk ((hkp.2 w.heap.size (blk_lt HNW.out) (fun e_ => absurd (OWN.out _ e_) (by have := WL.out; omega))).trans HNW.out); clear HNW HBM HO hcn; have HNW := n3_; have HBM := Aside0.mk hb; have HO := Aside0.mk (Kd.R_mono hR (ok' := fun _ => True) (fun _ _ => trivial)); have hcn := (blk_cell HNW.out 0).trans rfl; clear n3_ hR hb hkp) | (go_at_call 72; (with_reducible refine (nat_trim.calls k7 (fun k => some k = (Value.slice Ao O0.length co).ownBlock) _ O3 RES w _ (below_step HB2.out HBM.out) (Kd.R_lower (Kd.R_tight rfl HO.out) (below_size HB2.out)) K7.out).mono ?_); rintro e w8 ⟨v8, rfl, hR, hb, hkp⟩; have HF := Aside0.mk hR; have HFB := Aside0.mk hb; clear hR hb hkp))
  go_ret
  exact ⟨_, rfl, by rw [← NRES.out]; exact Kd.R_mono HF.out (fun _ _ => trivial), HFB.out⟩
theorem halves_all (gh : Nat) (s : Nat) : ∀ (A0 : Option Addr) (c0 : Nat) (l0 : List Int) (A1 : Option Addr) (c1 : Nat) (l1 : List Int) (w : World), l0.length + l1.length ≤ s → l0.length ≤ 400 → l1.length ≤ 400 → Dig (b64 : Int) l0 → Dig (b64 : Int) l1 →
    Kd.C (Kd.int .u64) w A0 l0.length l0 → l0.length ≤ c0 → Kd.C (Kd.int .u64) w A1 l1.length l1 → l1.length ≤ c1 → w.heap[gh]? = some (hobj gh) → Halved gh A0 c0 l0 A1 c1 l1 w := by
  induction s with
  | zero =>
    intro A0 c0 l0 A1 c1 l1 w hs h0 h1 d0 d1 hr0 hc0 hr1 hc1 hg
    exact halves_short gh A0 c0 l0 A1 c1 l1 w h0 h1 d0 d1 hr0 hc0 hr1 hc1 (by omega)
  | succ s ih =>
    intro A0 c0 l0 A1 c1 l1 w hs h0 h1 d0 d1 hr0 hc0 hr1 hc1 hg
    by_cases h : l0.length < 24 ∨ l1.length < 24
    · exact halves_short gh A0 c0 l0 A1 c1 l1 w h0 h1 d0 d1 hr0 hc0 hr1 hc1 h
    · exact halves_long gh A0 c0 l0 A1 c1 l1 w h0 h1 d0 d1 hr0 hc0 hr1 hc1 (by omega) (by omega) hg (fun A2 c2 l2 A3 c3 l3 W a1 a2 a3 a4 a5 a6 a7 a8 a9 a10 => ih A2 c2 l2 A3 c3 l3 W (by omega) a2 a3 a4 a5 a6 a7 a8 a9 a10)
end Go.Proofs.Ytnaphgnkhhapoaa.F
end
section
namespace Go.Proofs.Ytnaphgnkhhapoaa.F
open Go.RowKit Go.Proofs.YtnaphgnkhhapoaaW.PrintWords Go.Proofs.YtnaphgnkhhapoaaW.PrintLast Go.Proofs.YtnaphgnkhhapoaaW.PrintMore
set_option linter.unusedVariables false
set_option linter.unusedSimpArgs false
open Go.Proofs.Ytnaphgnkhhapoaa.Z (Dig b64 num limbs)
theorem run_store_func {P : Program} {w : World} {a : Addr} (f : Fn) (x y : Array Value) {m : Mode} : (store a (.func f x y) m).run P w = stored P w a (.func f x y) m := run_store P w a _ m rfl
attribute [local go_sem] run_store_func
def limbB (l : List Int) : Bool := l.all fun x => decide (0 ≤ x ∧ x < 18446744073709551616)
theorem limbB_dig {l : List Int} (h : limbB l = true) : Dig (b64 : Int) l := fun x hx => of_decide_eq_true (List.all_eq_true.1 h x hx)
theorem dig_limbB {l : List Int} (h : Dig (b64 : Int) l) : limbB l = true := List.all_eq_true.2 (fun x hx => decide_eq_true (h x hx))
def nat_product.f (l0 l1 : List Int) : Option (List Int) := if (decide (l0.length ≤ 400) && decide (l1.length ≤ 400) && limbB l0 && limbB l1) = true then some (limbs (num l0 * num l1)) else none
theorem nat_product.calls (A0 : Option Addr) (c0 : Nat) (l0 : List Int) (A1 : Option Addr) (c1 : Nat) (l1 : List Int) (r : List Int) (w : World) (hr0 : Kd.C (Kd.int .u64) w A0 l0.length l0) (hc0 : l0.length ≤ c0) (hr1 : Kd.C (Kd.int .u64) w A1 l1.length l1) (hc1 : l1.length ≤ c1) (h : nat_product.f l0 l1 = some r) :
    Calls Try.prog 46 #[.slice A0 l0.length c0, .slice A1 l1.length c1] w fun e w' => ∃ v0_ : Value, e = .returned (v0_) ∧ Kd.R (Kd.int .u64) 62 w' w.heap.size (fun _ => True) v0_ r ∧ Below w.heap.size w w' := by
  unfold nat_product.f at h
  by_cases hh : (decide (l0.length ≤ 400) && decide (l1.length ≤ 400) && limbB l0 && limbB l1) = true
  · rw [if_pos hh] at h
    obtain rfl := Option.some.inj h
    simp only [Bool.and_eq_true, decide_eq_true_eq] at hh
    obtain ⟨⟨⟨h0, h1⟩, d0⟩, d1⟩ := hh
    clear h
    have HH := Aside0.mk (show ∀ W : World, Below w.heap.size w W → W.heap[w.heap.size]? = some (hobj w.heap.size) → Halved w.heap.size A0 c0 l0 A1 c1 l1 W from fun W hb hg =>
      halves_all w.heap.size (l0.length + l1.length) A0 c0 l0 A1 c1 l1 W (Nat.le_refl _) h0 h1 (limbB_dig d0) (limbB_dig d1) (Kd.C_below hr0 hb) hc0 (Kd.C_below hr1 hb) hc1 hg)
    clear hr0 hc0 hr1 hc1 h0 h1 d0 d1
    unfold Halved at HH
    have hnew := blk_new w (hobj w.heap.size)
    have HB := Aside0.mk (below_alloc (Below.refl w.heap.size w) (hobj w.heap.size))
    have HNEW := Aside0.mk hnew
    have hcell := (blk_cell hnew 0).trans rfl
    clear hnew
    unfold hobj hval at HB HNEW hcell
    go_enter Try.func46, Try.ntmps46
    go_wp2_with (go_at_call 74; (refine (HH.out _ HB.out HNEW.out).mono ?_); rintro e w2 ⟨v, rfl, hR, hb⟩; have HR := Aside0.mk hR; have HB2 := Aside0.mk hb; clear hR hb)
    go_ret
    exact ⟨_, rfl, Kd.R_lower HR.out HB.out.size, below_step HB.out HB2.out⟩
  · rw [if_neg hh] at h
    cases h
end Go.Proofs.Ytnaphgnkhhapoaa.F
end
section
namespace Go.Proofs.Ytnaphgnkhhapoaa.F
open Go.RowKit Go.Proofs.YtnaphgnkhhapoaaW.PrintWords Go.Proofs.YtnaphgnkhhapoaaW.PrintLast Go.Proofs.YtnaphgnkhhapoaaW.PrintMore
attribute [local go_sem] max2_int min2_int max_two min_two max_three min_three max_four min_four
set_option linter.unusedVariables false
set_option linter.unusedSimpArgs false
def nat_Mul.f (k : Nat) (l0 : List Int) (l1 : List Int) : Option (List Int × Int) := (nat_right.f (([l0, l1] : List (List Int)))).bind fun t464 => (if t464 = true then ((nat_product.f l0 l1).bind fun t465 => ((nat_told.f k t465).bind fun bt468 => (some (bt468.1, bt468.2)))) else (some (([] : List Int), 1)))
theorem nat_Mul.calls (k : Nat) (P0_ : Nat → Prop) (A0 : Option Addr) (c0 : Nat) (l0 : List Int) (P1_ : Nat → Prop) (A1 : Option Addr) (c1 : Nat) (l1 : List Int) (r1 : List Int) (r2 : Int) (w : World) (hs0 : Kd.V (Kd.int .u64) 62 w w.heap.size (fun k_ => P0_ k_) (.slice A0 l0.length c0) l0) (hs1 : Kd.V (Kd.int .u64) 62 w w.heap.size (fun k_ => P1_ k_) (.slice A1 l1.length c1) l1) (h : nat_Mul.f k l0 l1 = some (r1, r2)) :
  Calls Try.prog 23 #[.slice A0 l0.length c0, .slice A1 l1.length c1] w fun e w' => ∃ v0_ : Value, e = .returned (.tuple #[v0_, .int .i64 r2]) ∧ Kd.R (Kd.int .u64) 62 w' w.heap.size (fun k_ => (w.heap.size ≤ k_)) v0_ r1 ∧ Below w.heap.size w w' := by
 have HO0 := Aside0.mk (show Kd.V (Kd.int .u64) 62 w w.heap.size (fun k_ => ((P0_ k_ ∨ P1_ k_) ∨ w.heap.size ≤ k_)) (.slice A0 l0.length c0) l0 from Kd.V_mono hs0 (fun k_ hk => .inl (.inl hk)))
 have HO1 := Aside0.mk (show Kd.V (Kd.int .u64) 62 w w.heap.size (fun k_ => ((P0_ k_ ∨ P1_ k_) ∨ w.heap.size ≤ k_)) (.slice A1 l1.length c1) l1 from Kd.V_mono hs1 (fun k_ hk => .inl (.inr hk)))
 have HB := Aside0.mk (Below.refl w.heap.size w)
 have H : ((nat_right.f (([l0, l1] : List (List Int)))).bind fun t464 => (if t464 = true then ((nat_product.f l0 l1).bind fun t465 => ((nat_told.f k t465).bind fun bt468 => (some (bt468.1, bt468.2)))) else (some (([] : List Int), 1)))) = some (r1, r2) := h
 clear h
 obtain ⟨y461, hy461⟩ : ∃ y_ : List (List Int), y_ = (([l0, l1] : List (List Int))) := ⟨_, rfl⟩
 replace H : ((nat_right.f y461).bind fun t464 => (if t464 = true then ((nat_product.f l0 l1).bind fun t465 => ((nat_told.f k t465).bind fun bt468 => (some (bt468.1, bt468.2)))) else (some (([] : List Int), 1)))) = some (r1, r2) := by first | (rw [hy461]; with_reducible exact H) | (have H2_ := (Option.bind_some _ _).symm.trans H; rw [hy461]; with_reducible exact H2_) | (have H2_ := (Option.bind_some _ _).symm.trans H; with_reducible exact H2_) | with_reducible exact H | (rw [hy461]; exact H) | exact H
 have Ny461 := Aside0.mk hy461; clear hy461
 replace H := ub H; obtain ⟨t464, A3, H⟩ := H
 by_cases c4 : t464 = true
 ·
  subst c4
  have H1 : ((nat_product.f l0 l1).bind fun t465 => ((nat_told.f k t465).bind fun bt468 => (some (bt468.1, bt468.2)))) = some (r1, r2) := by rw [if_pos rfl] at H; exact H
  clear H; have H := H1; clear H1
  replace H := ub H; obtain ⟨t465, A5, H⟩ := H
  replace H := ub H; obtain ⟨⟨t468, t471⟩, A6, H⟩ := H
  (try dsimp only at H)
  simp only [Option.some.injEq, Prod.mk.injEq] at H
  obtain ⟨rfl, rfl⟩ := H
  go_enter Try.func23, Try.ntmps23
  go_wp2_with (first | ((with_reducible refine gate_dst (N := 8) rfl ?_); refine Kd.N_lit (Kd.slice 62 (Kd.int .u64)) _ 57 ?hg (N' := 8) ?hd (xs := ([l0, l1] : List (List Int))) (inner := [.slice A0 l0.length c0, .slice A1 l1.length c1]) (ok := (fun k_ => ((P0_ k_ ∨ P1_ k_) ∨ w.heap.size ≤ k_))) (okp := (fun k_ => ((P0_ k_ ∨ P1_ k_) ∨ w.heap.size ≤ k_))) ?hr ?hp (fun _ hk => hk) ((show ∀ k_, w.heap.size ≤ k_ → (fun k_ => ((P0_ k_ ∨ P1_ k_) ∨ w.heap.size ≤ k_)) k_ from fun k_ hk => (.inr (Nat.le_trans (below_size uB) hk))) _ (Nat.le_refl _)) (Below.refl _ _) (Nat.le_refl _) (by simp) ?_; (case hd => rfl); (case hg => rfl); (case hr => first | (go_simp; done) | (go_simp; rfl) | (go_simp; simp only [u64_u8]; done) | (go_simp; simp only [u64_u8]; rfl)); (case hp => exact (Reps.one (show Kd.FK (Kd.slice 62 (Kd.int .u64)) _ _ l0 [.slice A0 l0.length c0] from (Kd.FK_slice_mk (Kd.V_reads' (Kd.V_mono (ok' := (fun k_ => ((P0_ k_ ∨ P1_ k_) ∨ w.heap.size ≤ k_))) (HO0.out) (fun k_ hk => hk))).2.1 (Kd.V_F (Kd.V_mono (ok' := (fun k_ => ((P0_ k_ ∨ P1_ k_) ∨ w.heap.size ≤ k_))) (HO0.out) (fun k_ hk => hk))))) (Reps.one (show Kd.FK (Kd.slice 62 (Kd.int .u64)) _ _ l1 [.slice A1 l1.length c1] from (Kd.FK_slice_mk (Kd.V_reads' (Kd.V_mono (ok' := (fun k_ => ((P0_ k_ ∨ P1_ k_) ∨ w.heap.size ≤ k_))) (HO1.out) (fun k_ hk => hk))).2.1 (Kd.V_F (Kd.V_mono (ok' := (fun k_ => ((P0_ k_ ∨ P1_ k_) ∨ w.heap.size ≤ k_))) (HO1.out) (fun k_ hk => hk))))) (Reps.none _ _)))); intro v462 w7 ho8 hb hg_ hnew_; clear hg_ hnew_; (first | rw [← Ny461.out] at ho8 | (simp only [Int.reduceToNat] at ho8; rw [← Ny461.out] at ho8)); replace HO0 := Aside0.mk (Kd.V_elder' (uV HO0.out) (Kd.N_base ho8) hb); replace HO1 := Aside0.mk (Kd.V_elder' (uV HO1.out) (Kd.N_base ho8) hb); have HO463 := Aside0.mk (Kd.N_lower ho8 (below_size uB)); replace HB := uy hb; clear hb ho8; obtain ⟨Ao9, co9, eo9⟩ := Kd.N_slice HO463.out; subst eo9) | ((with_reducible refine ug 41 rfl ?_); refine uh (some 9) rfl Try.func41 #[.slice Ao9 y461.length co9] ?_; (with_reducible refine (nat_right.calls _ _ y461 true _ ?side1 ?side2 A3.out).mono ?_); (case side1 => exact uC (Kd.N_reads' HO463.out).2.2); (case side2 => exact (Kd.N_reads' HO463.out).2.1); rintro e w' ⟨rfl, ⟨nd, rfl⟩⟩; refine ⟨_, rfl, ?_⟩) | ((with_reducible refine ug 46 rfl ?_); refine uh (some 13) rfl Try.func46 #[.slice A0 l0.length c0, .slice A1 l1.length c1] ?_; (with_reducible refine (nat_product.calls _ _ l0 _ _ l1 t465 _ ?side1 ?side2 ?side3 ?side4 A5.out).mono ?_); (case side1 => exact uC (Kd.V_reads' HO0.out).2.2); (case side2 => exact (Kd.V_reads' HO0.out).2.1); (case side3 => exact uC (Kd.V_reads' HO1.out).2.2); (case side4 => exact (Kd.V_reads' HO1.out).2.1); rintro e w10 ⟨v466, rfl, ho0, hb⟩; refine ⟨_, rfl, ?_⟩; replace HO0 := ueV HO0 ho0 hb; replace HO1 := ueV HO1 ho0 hb; replace HO463 := ueN HO463 ho0 hb; have HO467 := ulo (Kd.R_newM (M := fun k_ => (w.heap.size ≤ k_)) ho0 (below_size uB) (fun k_ h_ => h_)); replace HB := uy hb; (try clear hb ho0); obtain ⟨Ao11, co11, eo11⟩ := Kd.R_slice HO467.out; subst eo11) | ((with_reducible refine ug 42 rfl ?_); refine uh (some 14) rfl Try.func42 #[.slice Ao11 t465.length co11] ?_; (with_reducible refine (nat_told.calls k (fun k_ => some k_ = (.slice Ao11 t465.length co11 : Value).ownBlock) (.slice Ao11 t465.length co11) t465 t468 t471 w _ ?side1 ?side2 A6.out).mono ?_); (case side1 => repeat (first | (with_reducible first | exact HB.out | apply below_alloc | apply pw_below_drewN | apply below_drew1) | exact HB.out)); (case side2 => exact Kd.R_tight rfl HO467.out); rintro e w12 ⟨v469, rfl, ho0, hb, hkp⟩; refine ⟨_, rfl, ?_⟩; replace HO0 := Aside0.mk (Kd.V_mono (ok' := fun k_ => ((P0_ k_ ∨ P1_ k_) ∨ w.heap.size ≤ k_) ∧ some k_ ≠ (.slice Ao9 y461.length co9 : Value).ownBlock ∧ some k_ ≠ (v469 : Value).ownBlock) (Kd.V_keptB (HO0.out) hkp (fun k_ hk_ hs_ => (hk_.2) hs_)) (fun k_ hk_ => ⟨hk_.1.1.1, hk_.1.1.2, fun e_ => Or.elim (ho0.1 k_ e_.symm) (fun hs_ => hk_.2.1 hs_) (fun hn_ => Nat.not_le.2 hk_.2.2 hn_)⟩)); replace HO1 := Aside0.mk (Kd.V_mono (ok' := fun k_ => ((P0_ k_ ∨ P1_ k_) ∨ w.heap.size ≤ k_) ∧ some k_ ≠ (.slice Ao9 y461.length co9 : Value).ownBlock ∧ some k_ ≠ (v469 : Value).ownBlock) (Kd.V_keptB (HO1.out) hkp (fun k_ hk_ hs_ => (hk_.2) hs_)) (fun k_ hk_ => ⟨hk_.1.1.1, hk_.1.1.2, fun e_ => Or.elim (ho0.1 k_ e_.symm) (fun hs_ => hk_.2.1 hs_) (fun hn_ => Nat.not_le.2 hk_.2.2 hn_)⟩)); replace HO463 := Aside0.mk (Kd.N_mono (ok' := fun k_ => ((P0_ k_ ∨ P1_ k_) ∨ w.heap.size ≤ k_) ∧ some k_ ≠ (v469 : Value).ownBlock) (Kd.N_keptB (HO463.out) hkp (fun k_ hk_ hs_ => (hk_.2) hs_)) (fun k_ hk_ => ⟨hk_.1.1, fun e_ => Or.elim (ho0.1 k_ e_.symm) (fun hs_ => hk_.2.1 hs_) (fun hn_ => Nat.not_le.2 hk_.2.2 hn_)⟩)); have HO470 := Aside0.mk (Kd.R_mono (ok' := fun k_ => (w.heap.size ≤ k_)) ho0 (fun k_ hk_ => Or.elim hk_ (fun hs_ => (HO467.out.1 k_ (hs_).symm).1) (fun hn_ => (Nat.le_trans (below_size uB) hn_)))); replace HB := Aside0.mk (hb); clear HO467; (try clear hb); (try clear hkp); (try clear ho0)))
  go_ret2
  exact ⟨_, uF, uR HO470.out, uB⟩
 replace c4 := Bool.eq_false_iff.mpr c4
 subst c4
 have H1 : (some (([] : List Int), 1)) = some (r1, r2) := by rw [if_neg (show ¬ (false = true) by decide)] at H; exact H
 clear H; have H := H1; clear H1
 simp only [Option.some.injEq, Prod.mk.injEq] at H
 obtain ⟨rfl, rfl⟩ := H
 go_enter Try.func23, Try.ntmps23
 go_wp2_with (first | ((with_reducible refine gate_dst (N := 8) rfl ?_); refine Kd.N_lit (Kd.slice 62 (Kd.int .u64)) _ 57 ?hg (N' := 8) ?hd (xs := ([l0, l1] : List (List Int))) (inner := [.slice A0 l0.length c0, .slice A1 l1.length c1]) (ok := (fun k_ => ((P0_ k_ ∨ P1_ k_) ∨ w.heap.size ≤ k_))) (okp := (fun k_ => ((P0_ k_ ∨ P1_ k_) ∨ w.heap.size ≤ k_))) ?hr ?hp (fun _ hk => hk) ((show ∀ k_, w.heap.size ≤ k_ → (fun k_ => ((P0_ k_ ∨ P1_ k_) ∨ w.heap.size ≤ k_)) k_ from fun k_ hk => (.inr (Nat.le_trans (below_size uB) hk))) _ (Nat.le_refl _)) (Below.refl _ _) (Nat.le_refl _) (by simp) ?_; (case hd => rfl); (case hg => rfl); (case hr => first | (go_simp; done) | (go_simp; rfl) | (go_simp; simp only [u64_u8]; done) | (go_simp; simp only [u64_u8]; rfl)); (case hp => exact (Reps.one (show Kd.FK (Kd.slice 62 (Kd.int .u64)) _ _ l0 [.slice A0 l0.length c0] from (Kd.FK_slice_mk (Kd.V_reads' (Kd.V_mono (ok' := (fun k_ => ((P0_ k_ ∨ P1_ k_) ∨ w.heap.size ≤ k_))) (HO0.out) (fun k_ hk => hk))).2.1 (Kd.V_F (Kd.V_mono (ok' := (fun k_ => ((P0_ k_ ∨ P1_ k_) ∨ w.heap.size ≤ k_))) (HO0.out) (fun k_ hk => hk))))) (Reps.one (show Kd.FK (Kd.slice 62 (Kd.int .u64)) _ _ l1 [.slice A1 l1.length c1] from (Kd.FK_slice_mk (Kd.V_reads' (Kd.V_mono (ok' := (fun k_ => ((P0_ k_ ∨ P1_ k_) ∨ w.heap.size ≤ k_))) (HO1.out) (fun k_ hk => hk))).2.1 (Kd.V_F (Kd.V_mono (ok' := (fun k_ => ((P0_ k_ ∨ P1_ k_) ∨ w.heap.size ≤ k_))) (HO1.out) (fun k_ hk => hk))))) (Reps.none _ _)))); intro v462 w13 ho14 hb hg_ hnew_; clear hg_ hnew_; (first | rw [← Ny461.out] at ho14 | (simp only [Int.reduceToNat] at ho14; rw [← Ny461.out] at ho14)); replace HO0 := Aside0.mk (Kd.V_elder' (uV HO0.out) (Kd.N_base ho14) hb); replace HO1 := Aside0.mk (Kd.V_elder' (uV HO1.out) (Kd.N_base ho14) hb); have HO463 := Aside0.mk (Kd.N_lower ho14 (below_size uB)); replace HB := uy hb; clear hb ho14; obtain ⟨Ao15, co15, eo15⟩ := Kd.N_slice HO463.out; subst eo15) | ((with_reducible refine ug 41 rfl ?_); refine uh (some 9) rfl Try.func41 #[.slice Ao15 y461.length co15] ?_; (with_reducible refine (nat_right.calls _ _ y461 false _ ?side1 ?side2 A3.out).mono ?_); (case side1 => exact uC (Kd.N_reads' HO463.out).2.2); (case side2 => exact (Kd.N_reads' HO463.out).2.1); rintro e w' ⟨rfl, ⟨nd, rfl⟩⟩; refine ⟨_, rfl, ?_⟩))
 go_ret2
 exact ⟨_, uF, uI, uB⟩
mutual
def nat_long.l0 : Nat → Int → List Int → List Int → Int → List Int → Int → Option (List Int × List Int)
 | 0, _, _, _, _, _, _ => none
 | k + 1, x6, x7, x8, x9, x10, x11 => if x11 ≥ 0 then (if 0 ≤ (wrap64 (x11 + x9)) then (if (wrap64 (x11 + x9)) < (x7.length : Int) then (if 0 ≤ (wrap64 ((wrap64 (x11 + x9)) - 1)) then (if (wrap64 ((wrap64 (x11 + x9)) - 1)) < (x7.length : Int) then (if 0 ≤ (wrap64 ((wrap64 (x11 + x9)) - 2)) then (if (wrap64 ((wrap64 (x11 + x9)) - 2)) < (x7.length : Int) then (if 0 ≤ (wrap64 (x9 - 1)) then (if (wrap64 (x9 - 1)) < (x8.length : Int) then (if 0 ≤ (wrap64 (x9 - 2)) then (if (wrap64 (x9 - 2)) < (x8.length : Int) then ((nat_guess.f k (rd x7 (wrap64 (x11 + x9))) (rd x7 (wrap64 ((wrap64 (x11 + x9)) - 1))) (rd x7 (wrap64 ((wrap64 (x11 + x9)) - 2))) (rd x8 (wrap64 (x9 - 1))) (rd x8 (wrap64 (x9 - 2)))).bind fun t513 => (if 0 ≤ x11 then (if x11 ≤ (wrap64 ((wrap64 (x11 + x9)) + 1)) then (if (wrap64 ((wrap64 (x11 + x9)) + 1)) ≤ (x7.length : Int) then (nat_long.l1 k x6 x7 x8 x9 x10 x11 t513 ((x7.take ((wrap64 ((wrap64 (x11 + x9)) + 1)) : Int).toNat).drop (x11 : Int).toNat)) else (none)) else (none)) else (none))) else (none)) else (none)) else (none)) else (none)) else (none)) else (none)) else (none)) else (none)) else (none)) else (none)) else ((nat_trim.f k x7).bind fun t536 => (if 0 ≤ (t536.length : Int) then (if ((t536.length : Int) : Int).toNat ≤ 35184372088832 then (nat_long.l2 k x6 x10 t536 (List.replicate ((t536.length : Int) : Int).toNat 0) (t536.length : Int) 0) else (none)) else (none)))
def nat_long.l1 : Nat → Int → List Int → List Int → Int → List Int → Int → Int → List Int → Option (List Int × List Int)
 | 0, _, _, _, _, _, _, _, _ => none
 | k + 1, x6, x7, x8, x9, x10, x11, x12, x13 => (nat_Of.f k x12).bind fun t518 => ((nat_school.f k x8 t518).bind fun t521 => ((api_Nat_uint64.f x13).bind fun t524 => ((nat_trim.f k t524).bind fun t527 => ((nat_compare.f k t527 t521).bind fun t530 => (if t530 ≥ 0 then ((nat_less.f k x13 t521).bind fun t531 => (if t531.length = x13.length then (if 0 ≤ x11 then (if x11 < (x10.length : Int) then (nat_long.l0 k x6 (x7.take (x11 : Int).toNat ++ (t531 ++ x7.drop ((x11 : Int).toNat + x13.length))) x8 x9 (x10.set (x11 : Int).toNat x12) (wrap64 (x11 - 1))) else (none)) else (none)) else (none))) else (nat_long.l1 k x6 x7 x8 x9 x10 x11 (IntKind.u64.wrap (x12 - 1)) x13))))))
def nat_long.l2 : Nat → Int → List Int → List Int → List Int → Int → Int → Option (List Int × List Int)
 | 0, _, _, _, _, _, _ => none
 | k + 1, x6, x10, x15, x16, x112, x113 => if x113 < x112 then (if 0 ≤ x113 then (if x113 < (x15.length : Int) then (if 0 ≤ x6 then (if x113 < (x16.length : Int) then ((some (x16.set (x113 : Int).toNat (shr .u64 (rd x15 x113) x6) : List Int)).bind fun y543 => (if x6 > 0 then (if (wrap64 (x113 + 1)) < (x15.length : Int) then (if 0 ≤ (wrap64 (x113 + 1)) then (if 0 ≤ (IntKind.u64.wrap (64 - x6)) then (nat_long.l2 k x6 x10 x15 (y543.set (x113 : Int).toNat (Go.bits .or .u64 (rd y543 x113) (shl .u64 (rd x15 (wrap64 (x113 + 1))) (IntKind.u64.wrap (64 - x6))))) x112 (wrap64 (x113 + 1))) else (none)) else (none)) else (nat_long.l2 k x6 x10 x15 y543 x112 (wrap64 (x113 + 1)))) else (nat_long.l2 k x6 x10 x15 y543 x112 (wrap64 (x113 + 1))))) else (none)) else (none)) else (none)) else (none)) else ((nat_trim.f k x10).bind fun t547 => ((nat_trim.f k x16).bind fun t550 => (some (t547, t550))))
end
def nat_long.f (k : Nat) (l0 : List Int) (l1 : List Int) : Option (List Int × List Int) := if 0 ≤ (wrap64 ((l1.length : Int) - 1)) then (if (wrap64 ((l1.length : Int) - 1)) < (l1.length : Int) then ((bits_LeadingZeros64.f k (rd l1 (wrap64 ((l1.length : Int) - 1)))).bind fun t495 => ((nat_up.f k l0 (IntKind.u64.wrap (t495))).bind fun t496 => ((nat_up.f k l1 (IntKind.u64.wrap (t495))).bind fun t499 => ((nat_trim.f k t499).bind fun t502 => (if 0 ≤ (wrap64 ((t496.length : Int) - (t502.length : Int))) then (if (wrap64 ((t496.length : Int) - (t502.length : Int)) : Int).toNat ≤ 35184372088832 then ((some (List.replicate (wrap64 ((t496.length : Int) - (t502.length : Int)) : Int).toNat 0 : List Int)).bind fun y505 => (nat_long.l0 k (IntKind.u64.wrap (t495)) t496 t502 (t502.length : Int) y505 (wrap64 ((y505.length : Int) - 1)))) else (none)) else (none)))))) else (none)) else (none)
def nat_long.T8 : Bool × List (List Nat × List Nat) := (true, [([], []), ([], []), ([], []), ([1, 2], [1, 2]), ([0, 3], [0, 3]), ([4], [4]), ([], []), ([], []), ([], []), ([7, 8], [7, 8]), ([9], [9]), ([6, 10], [6, 10]), ([11], [11]), ([], []), ([], []), ([], []), ([14, 15], [14, 15]), ([16], [16]), ([13, 17], [13, 17]), ([18], [18]), ([], []), ([], []), ([21], [21]), ([20, 22], [20, 22]), ([23], [23]), ([], []), ([], []), ([26], [26]), ([25, 27], [25, 27]), ([28], [28]), ([5, 12, 19, 24, 29], [5, 12, 19, 24, 29]), ([30, 30, 0, 1, 2, 3, 4, 5, 6, 7, 8, 9, 10, 11, 12, 13, 14, 15, 16, 17, 18, 19, 20, 21, 22, 23, 24, 25, 26, 27, 28, 29, 30], [30])])
def nat_long.B8 : List Nat := [0, 0, 0, 6, 15, 31, 0, 0, 0, 384, 896, 1984, 4032, 0, 0, 0, 49152, 114688, 253952, 516096, 0, 0, 2097152, 7340032, 15728640, 0, 0, 67108864, 234881024, 503316480, 1073741823, 2147483647]
theorem nat_long.tab8 : rtab .any (opsOf Try.f51 8) = nat_long.T8 := by kernel_rfl
theorem nat_long.bits8 : waitsOk nat_long.T8.2 nat_long.B8 = true := by kernel_rfl
def nat_long.T22 : Bool × List (List Nat × List Nat) := (true, [([], []), ([], []), ([0, 1], [0, 1]), ([2], [2]), ([], []), ([], []), ([5], [5]), ([4, 6], [4, 6]), ([7], [7]), ([], []), ([9], [9]), ([8, 10], [8, 10]), ([3, 11], [3, 11]), ([0, 1, 0, 1, 2, 3, 4, 5, 6, 7, 8, 9, 10, 11, 12], [0, 1]), ([13, 12, 0, 1, 2, 3, 4, 5, 6, 7, 8, 9, 10, 11, 12], [12, 13])])
def nat_long.B22 : List Nat := [0, 0, 3, 7, 0, 0, 32, 112, 240, 0, 512, 2032, 4095, 8191, 16383]
theorem nat_long.tab22 : rtab .any (opsOf Try.f51 22) = nat_long.T22 := by kernel_rfl
theorem nat_long.bits22 : waitsOk nat_long.T22.2 nat_long.B22 = true := by kernel_rfl
theorem nat_long.calls (k : Nat) (A0 : Option Addr) (c0 : Nat) (l0 : List Int) (A1 : Option Addr) (c1 : Nat) (l1 : List Int) (r1 : List Int) (r2 : List Int) (w : World) (hr0 : Kd.C (Kd.int .u64) w A0 l0.length l0) (hc0 : l0.length ≤ c0) (hr1 : Kd.C (Kd.int .u64) w A1 l1.length l1) (hc1 : l1.length ≤ c1) (h : nat_long.f k l0 l1 = some (r1, r2)) :
  Calls Try.prog 51 #[.slice A0 l0.length c0, .slice A1 l1.length c1] w fun e w' => ∃ v0_ v1_ : Value, e = .returned (.tuple #[v0_, v1_]) ∧ Kd.R (Kd.int .u64) 62 w' w.heap.size (fun k_ => some k_ ≠ (v1_ : Value).ownBlock) v0_ r1 ∧ Kd.R (Kd.int .u64) 62 w' w.heap.size (fun k_ => some k_ ≠ (v0_ : Value).ownBlock) v1_ r2 ∧ Below w.heap.size w w' := by
 have HR0 := Aside0.mk hr0; have HC0 := Aside0.mk hc0; clear hr0 hc0; have HR1 := Aside0.mk hr1; have HC1 := Aside0.mk hc1; clear hr1 hc1
 have HB := Aside0.mk (Below.refl w.heap.size w)
 have H : (if 0 ≤ (wrap64 ((l1.length : Int) - 1)) then (if (wrap64 ((l1.length : Int) - 1)) < (l1.length : Int) then ((bits_LeadingZeros64.f k (rd l1 (wrap64 ((l1.length : Int) - 1)))).bind fun t495 => ((nat_up.f k l0 (IntKind.u64.wrap (t495))).bind fun t496 => ((nat_up.f k l1 (IntKind.u64.wrap (t495))).bind fun t499 => ((nat_trim.f k t499).bind fun t502 => (if 0 ≤ (wrap64 ((t496.length : Int) - (t502.length : Int))) then (if (wrap64 ((t496.length : Int) - (t502.length : Int)) : Int).toNat ≤ 35184372088832 then ((some (List.replicate (wrap64 ((t496.length : Int) - (t502.length : Int)) : Int).toNat 0 : List Int)).bind fun y505 => (nat_long.l0 k (IntKind.u64.wrap (t495)) t496 t502 (t502.length : Int) y505 (wrap64 ((y505.length : Int) - 1)))) else (none)) else (none)))))) else (none)) else (none)) = some (r1, r2) := h
 clear h
 obtain ⟨ji3, hji3⟩ : ∃ j_ : Int, (wrap64 ((l1.length : Int) - 1)) = j_ := ⟨_, rfl⟩
 first | rw [hji3] at H | simp only [hji3] at H
 have hji3w : (IntKind.i64.wrap ((l1.length : Int) - 1)) = ji3 := (i64_w _).trans hji3
 replace H := uT H; obtain ⟨c4, H⟩ := H
 have c4b0 := decide_eq_true c4
 clear c4
 replace H := uT H; obtain ⟨c5, H⟩ := H
 have c5b0 := decide_eq_true c5
 clear c5
 replace H := ub H; obtain ⟨t495, A6, H⟩ := H
 replace H := ub H; obtain ⟨t496, A7, H⟩ := H
 replace H := ub H; obtain ⟨t499, A8, H⟩ := H
 replace H := ub H; obtain ⟨t502, A9, H⟩ := H
 obtain ⟨ji10, hji10⟩ : ∃ j_ : Int, (wrap64 ((t496.length : Int) - (t502.length : Int))) = j_ := ⟨_, rfl⟩
 first | rw [hji10] at H | simp only [hji10] at H
 (try rw [hji10] at A6)
 (try rw [hji10] at A7)
 (try rw [hji10] at A8)
 (try rw [hji10] at A9)
 have hji10w : (IntKind.i64.wrap ((t496.length : Int) - (t502.length : Int))) = ji10 := (i64_w _).trans hji10
 replace H := uT H; obtain ⟨c11, H⟩ := H
 have c11b0 := eq_true c11
 have c11b1 := decide_eq_true c11
 clear c11
 replace H := uT H; obtain ⟨c12, H⟩ := H
 have c12b0 := eq_true c12
 have c12b1 := decide_eq_true c12
 clear c12
 replace H := ubs H; obtain ⟨y505, hy505, H⟩ := H
 have Ny505 := Aside0.mk hy505; clear hy505
 have H' := Aside0.mk H
 clear H
 have p494 := eq_true (uO : 0 ≤ ((ji3) : Int))
 have q494 := eq_true (uO : (ji3) < (l1.length : Int))
 obtain ⟨ad494, e494, hx494_0⟩ := Kd.at_int HR1.out (ji3) uO uO
 cases e494
 go_enter Try.func51, Try.ntmps51
 go_wp2_with (first | ((with_reducible refine ug 81 rfl ?_); refine goesL_ (some 24) rfl rfl Try.func81 (by kernel_rfl) rfl #[.int .u64 (rd l1 (ji3))] rfl (by (try simp only [List.map_toArray, List.map_cons, List.map_nil]); first | done | (simp only [hji3]; rfl) | rfl | (simp only [List.length_drop, List.length_take]; rfl)) ?_; (with_reducible refine (bits_LeadingZeros64.calls k (rd l1 (ji3)) t495 _ A6.out).mono ?_); rintro e w' ⟨rfl, ⟨nd, rfl⟩⟩; refine ⟨_, rfl, ?_⟩) | ((with_reducible refine ug 45 rfl ?_); refine uh (some 28) rfl Try.func45 #[.slice A0 l0.length c0, .int .u64 (IntKind.u64.wrap (t495))] ?_; (with_reducible refine (nat_up.calls k _ _ l0 (IntKind.u64.wrap (t495)) t496 _ ?side1 ?side2 A7.out).mono ?_); (case side1 => exact uC HR0.out); (case side2 => exact HC0.out); rintro e w13 ⟨v497, rfl, ho0, hb⟩; refine ⟨_, rfl, ?_⟩; have HO498 := ulo ho0; replace HB := uy hb; (try clear hb ho0)) | ((with_reducible refine ug 45 rfl ?_); refine uh (some 31) rfl Try.func45 #[.slice (some ad494) l1.length c1, .int .u64 (IntKind.u64.wrap (t495))] ?_; (with_reducible refine (nat_up.calls k _ _ l1 (IntKind.u64.wrap (t495)) t499 _ ?side1 ?side2 A8.out).mono ?_); (case side1 => exact uC (Kd.C_below HR1.out HB.out)); (case side2 => exact HC1.out); rintro e w14 ⟨v500, rfl, ho0, hb⟩; refine ⟨_, rfl, ?_⟩; have HO501 := ulo (unw ho0 HO498); replace HO498 := ueR HO498 ho0 hb; replace HB := uy hb; (try clear hb ho0); obtain ⟨Ao15, co15, eo15⟩ := Kd.R_slice HO501.out; subst eo15) | ((with_reducible refine ug 72 rfl ?_); refine uh (some 32) rfl Try.func72 #[.slice Ao15 t499.length co15] ?_; (with_reducible refine (nat_trim.calls k (fun k_ => some k_ = (.slice Ao15 t499.length co15 : Value).ownBlock) (.slice Ao15 t499.length co15) t499 t502 w _ ?side1 ?side2 A9.out).mono ?_); (case side1 => repeat (first | (with_reducible first | exact HB.out | apply below_alloc | apply pw_below_drewN | apply below_drew1) | exact HB.out)); (case side2 => exact Kd.R_tight rfl HO501.out); rintro e w16 ⟨v503, rfl, ho0, hb, hkp⟩; refine ⟨_, rfl, ?_⟩; have HO504 := Aside0.mk (Kd.R_mono (ok' := fun k_ => some k_ ≠ (v497 : Value).ownBlock) ho0 (fun k_ hk_ => Or.elim hk_ (fun hs_ => fun e_ => (((HO498.out).1 k_ e_.symm).2) hs_) (fun hn_ => (Kd.fresh' (Kd.R_lt (uR HO498.out)) k_ hn_)))); replace HO498 := Aside0.mk (Kd.R_mono (ok' := fun k_ => some k_ ≠ (v503 : Value).ownBlock) (Kd.R_keptB (HO498.out) hkp (fun k_ hk_ hs_ => (hk_.2) hs_)) (fun k_ hk_ => fun e_ => Or.elim (ho0.1 k_ e_.symm) (fun hs_ => hk_.2.1 hs_) (fun hn_ => Nat.not_le.2 hk_.2.2 hn_))); replace HB := Aside0.mk (hb); clear HO501; (try clear hb); (try clear hkp); (try clear ho0); obtain ⟨Ao17, co17, eo17⟩ := Kd.R_slice HO504.out; subst eo17; obtain ⟨Ao18, co18, eo18⟩ := Kd.R_slice HO498.out; subst eo18) | ((with_reducible refine gate_dst (N := 39) rfl ?_); (try (refine gate_guard (by rfl) ?_; dsimp only)); refine Kd.R_make (Kd.int .u64) _ 62 rfl (N := 39) rfl 57 _ _ rfl ji10 rfl rfl Try.underlying57 (.int .u64 0) 8 info62 rfl (by decide) (by omega) 0 (ok := fun _ => True) (okp := fun _ => True) rfl (fun _ hk => hk) trivial uO (Nat.le_trans (Nat.mul_le_mul_right _ (uO : ji10.toNat ≤ 35184372088832)) (by omega)) (Below.refl _ _) (Nat.le_refl _) ?_; intro v506 w19 ho20 hb hg_ hnew_; clear hg_ hnew_; (first | rw [← Ny505.out] at ho20 | (simp only [Int.reduceToNat] at ho20; rw [← Ny505.out] at ho20)); have HO507 := ulo (unw (unw ho20 HO498) HO504); replace HO498 := ueR HO498 ho20 hb; replace HO504 := ueR HO504 ho20 hb; replace HB := uy hb; clear hb ho20; obtain ⟨Ao21, co21, eo21⟩ := Kd.R_slice HO507.out; subst eo21))
 go_loopg [11] k (fun kq v11 w' => ∃ (x7_1 : List Int) (x10_1 : List Int) (x11_1 : Int), v11 = .int .i64 x11_1 ∧ Aside0 (nat_long.l0 kq (IntKind.u64.wrap (t495)) x7_1 t502 (t502.length : Int) x10_1 x11_1 = some (r1, r2)) ∧ Aside0 (kq ≤ k) ∧ Aside0 (Kd.R (Kd.int .u64) 62 w' w.heap.size (fun k_ => some k_ ≠ ((.slice Ao17 t502.length co17) : Value).ownBlock ∧ some k_ ≠ ((.slice Ao21 y505.length co21) : Value).ownBlock) (.slice Ao18 t496.length co18) x7_1) ∧ Aside0 (Kd.R (Kd.int .u64) 62 w' w.heap.size (fun k_ => some k_ ≠ ((.slice Ao18 t496.length co18) : Value).ownBlock ∧ some k_ ≠ ((.slice Ao21 y505.length co21) : Value).ownBlock) (.slice Ao17 t502.length co17) t502) ∧ Aside0 (Kd.R (Kd.int .u64) 62 w' w.heap.size (fun k_ => some k_ ≠ ((.slice Ao18 t496.length co18) : Value).ownBlock ∧ some k_ ≠ ((.slice Ao17 t502.length co17) : Value).ownBlock) (.slice Ao21 y505.length co21) x10_1) ∧ Aside0 (Below w.heap.size w w'))
 case atStart => exact ⟨(t496), (y505), (wrap64 ((y505.length : Int) - 1)), uG, H', ⟨Nat.le_refl _⟩, ⟨uR HO498.out⟩, ⟨uR HO504.out⟩, ⟨by exact uR (Kd.R_mono HO507.out (fun _ hk => ⟨hk.1.2, hk.2⟩))⟩, ⟨uB⟩⟩
 case round =>
  clear H'
  ; (try clear q4); (try clear hx4); (try clear hx494_0); (try clear q494)
  obtain ⟨x7_1, x10_1, x11_1, rfl, HA, HK1, HO_7, HO_8, HO_10, HB⟩ := hrel
  have hl7_1 := (Kd.R_reads' HO_7.out).1
  rw [hl7_1] at HO_7
  (try simp only [hl7_1])
  (try simp only [hl7_1] at HO_8)
  (try simp only [hl7_1] at HO_10)
  have hl10_1 := (Kd.R_reads' HO_10.out).1
  rw [hl10_1] at HO_10
  (try simp only [hl10_1])
  (try simp only [hl10_1] at HO_7)
  (try simp only [hl10_1] at HO_8)
  cases gk with
  | zero => exact absurd HA.out (by simp [nat_long.l0])
  | succ k1 =>
   have H := HA.out
   clear HA
   simp only [nat_long.l0] at H
   by_cases c22 : x11_1 ≥ 0
   ·
    rw [if_pos c22] at H
    have c22b0 := decide_eq_true c22
    clear c22
    obtain ⟨ji23, hji23⟩ : ∃ j_ : Int, (wrap64 (x11_1 + (t502.length : Int))) = j_ := ⟨_, rfl⟩
    first | rw [hji23] at H | simp only [hji23] at H
    have hji23w : (IntKind.i64.wrap (x11_1 + (t502.length : Int))) = ji23 := (i64_w _).trans hji23
    replace H := uT H; obtain ⟨c24, H⟩ := H
    have c24b0 := decide_eq_true c24
    clear c24
    replace H := uT H; obtain ⟨c25, H⟩ := H
    have c25b0 := decide_eq_true c25
    (try (have c25b0h0 := c25b0; simp only [hl7_1] at c25b0h0))
    (try (have c25b0h1 := c25b0; simp only [hl10_1] at c25b0h1))
    clear c25
    obtain ⟨ji26, hji26⟩ : ∃ j_ : Int, (wrap64 ((ji23) - 1)) = j_ := ⟨_, rfl⟩
    first | rw [hji26] at H | simp only [hji26] at H
    have hji26w : (IntKind.i64.wrap ((ji23) - 1)) = ji26 := (i64_w _).trans hji26
    replace H := uT H; obtain ⟨c27, H⟩ := H
    have c27b0 := decide_eq_true c27
    clear c27
    replace H := uT H; obtain ⟨c28, H⟩ := H
    have c28b0 := decide_eq_true c28
    (try (have c28b0h0 := c28b0; simp only [hl7_1] at c28b0h0))
    (try (have c28b0h1 := c28b0; simp only [hl10_1] at c28b0h1))
    clear c28
    obtain ⟨ji29, hji29⟩ : ∃ j_ : Int, (wrap64 ((ji23) - 2)) = j_ := ⟨_, rfl⟩
    first | rw [hji29] at H | simp only [hji29] at H
    have hji29w : (IntKind.i64.wrap ((ji23) - 2)) = ji29 := (i64_w _).trans hji29
    replace H := uT H; obtain ⟨c30, H⟩ := H
    have c30b0 := decide_eq_true c30
    clear c30
    replace H := uT H; obtain ⟨c31, H⟩ := H
    have c31b0 := decide_eq_true c31
    (try (have c31b0h0 := c31b0; simp only [hl7_1] at c31b0h0))
    (try (have c31b0h1 := c31b0; simp only [hl10_1] at c31b0h1))
    clear c31
    obtain ⟨ji32, hji32⟩ : ∃ j_ : Int, (wrap64 ((t502.length : Int) - 1)) = j_ := ⟨_, rfl⟩
    first | rw [hji32] at H | simp only [hji32] at H
    have hji32w : (IntKind.i64.wrap ((t502.length : Int) - 1)) = ji32 := (i64_w _).trans hji32
    replace H := uT H; obtain ⟨c33, H⟩ := H
    have c33b0 := decide_eq_true c33
    clear c33
    replace H := uT H; obtain ⟨c34, H⟩ := H
    have c34b0 := decide_eq_true c34
    (try (have c34b0h0 := c34b0; simp only [hl7_1] at c34b0h0))
    (try (have c34b0h1 := c34b0; simp only [hl10_1] at c34b0h1))
    clear c34
    obtain ⟨ji35, hji35⟩ : ∃ j_ : Int, (wrap64 ((t502.length : Int) - 2)) = j_ := ⟨_, rfl⟩
    first | rw [hji35] at H | simp only [hji35] at H
    have hji35w : (IntKind.i64.wrap ((t502.length : Int) - 2)) = ji35 := (i64_w _).trans hji35
    replace H := uT H; obtain ⟨c36, H⟩ := H
    have c36b0 := decide_eq_true c36
    clear c36
    replace H := uT H; obtain ⟨c37, H⟩ := H
    have c37b0 := decide_eq_true c37
    (try (have c37b0h0 := c37b0; simp only [hl7_1] at c37b0h0))
    (try (have c37b0h1 := c37b0; simp only [hl10_1] at c37b0h1))
    clear c37
    replace H := ub H; obtain ⟨t513, A38, H⟩ := H
    replace H := uT H; obtain ⟨c39, H⟩ := H
    have c39b0 := eq_true c39
    have c39b1 := decide_eq_true c39
    clear c39
    replace H := uT H; obtain ⟨c40, H⟩ := H
    have c40b0 := eq_true c40
    have c40b1 := decide_eq_true c40
    replace H := uT H; obtain ⟨c41, H⟩ := H
    have c41b0 := eq_true c41
    have c41b1 := decide_eq_true c41
    obtain ⟨y514, hy514⟩ : ∃ y_ : List Int, y_ = ((x7_1.take ((wrap64 ((ji23) + 1)) : Int).toNat).drop (x11_1 : Int).toNat) := ⟨_, rfl⟩
    replace H : (nat_long.l1 k1 (IntKind.u64.wrap (t495)) x7_1 t502 (t502.length : Int) x10_1 x11_1 t513 y514) = some (r1, r2) := by first | (rw [hy514]; with_reducible exact H) | (have H2_ := (Option.bind_some _ _).symm.trans H; rw [hy514]; with_reducible exact H2_) | (have H2_ := (Option.bind_some _ _).symm.trans H; with_reducible exact H2_) | with_reducible exact H | (rw [hy514]; exact H) | exact H
    have Ny514 := Aside0.mk hy514; clear hy514
    have H' := Aside0.mk H
    clear H
    try go_wp2
    replace HO_7 := Aside0.mk (Kd.R_drew HO_7.out); replace HO_8 := Aside0.mk (Kd.R_drew HO_8.out); replace HO_10 := Aside0.mk (Kd.R_drew HO_10.out); replace HB := Aside0.mk (below_drew1 HB.out)
    have p508 := eq_true (uO : 0 ≤ ((ji23) : Int))
    have q508 := eq_true (uO : (ji23) < (x7_1.length : Int))
    obtain ⟨ad508, e508, hx508_0⟩ := Kd.at_int (Kd.R_reads' HO_7.out).2.2 (ji23) uO uO
    cases e508
    have p509 : 0 ≤ ((ji26) : Int) := uO
    have q509 : (ji26) < (x7_1.length : Int) := uO
    obtain ⟨ad509, e509, hx509_0⟩ := Kd.at_int (Kd.R_reads' HO_7.out).2.2 (ji26) p509 q509
    obtain rfl : ad508 = ad509 := (by injection e509)
    replace p509 := eq_true p509
    replace q509 := eq_true q509
    have p510 : 0 ≤ ((ji29) : Int) := uO
    have q510 : (ji29) < (x7_1.length : Int) := uO
    obtain ⟨ad510, e510, hx510_0⟩ := Kd.at_int (Kd.R_reads' HO_7.out).2.2 (ji29) p510 q510
    obtain rfl : ad508 = ad510 := (by injection e510)
    replace p510 := eq_true p510
    replace q510 := eq_true q510
    have p511 := eq_true (uO : 0 ≤ ((ji32) : Int))
    have q511 := eq_true (uO : (ji32) < (t502.length : Int))
    obtain ⟨ad511, e511, hx511_0⟩ := Kd.at_int (Kd.R_reads' HO_8.out).2.2 (ji32) uO uO
    cases e511
    have p512 : 0 ≤ ((ji35) : Int) := uO
    have q512 : (ji35) < (t502.length : Int) := uO
    obtain ⟨ad512, e512, hx512_0⟩ := Kd.at_int (Kd.R_reads' HO_8.out).2.2 (ji35) p512 q512
    obtain rfl : ad511 = ad512 := (by injection e512)
    replace p512 := eq_true p512
    replace q512 := eq_true q512
    refine start_ (n := 32) (S := fun w' => w'.cell? (ad508.add ((ji23)).toNat) = some (.int .u64 (rd x7_1 (ji23))) ∧ w'.cell? (ad508.add ((ji26)).toNat) = some (.int .u64 (rd x7_1 (ji26))) ∧ w'.cell? (ad508.add ((ji29)).toNat) = some (.int .u64 (rd x7_1 (ji29))) ∧ w'.cell? (ad511.add ((ji32)).toNat) = some (.int .u64 (rd t502 (ji32))) ∧ w'.cell? (ad511.add ((ji35)).toNat) = some (.int .u64 (rd t502 (ji35)))) (ds := []) (.replicate 32 false) (by kernel_rfl) rfl rfl ⟨hx508_0, hx509_0, hx510_0, hx511_0, hx512_0⟩ (fun hHeld => ?_); refine with_tabW nat_long.tab8 nat_long.bits8 (fun HT_ HW_ => ?_)
    generalize wr.drew = w42 at HO_7 HO_8 HO_10 HB hx508_0 hx509_0 hx510_0 hx511_0 hx512_0 hHeld ⊢
    refine upu 0 (some 47) (uA 32 1) rfl rfl HT_ ?_
    refine upu 1 (some 48) (uA 32 3) rfl rfl HT_ ?_
    refine upu 2 (some 49) (uA 32 7) rfl rfl HT_ ?_
    refine upu 3 (some 50) (uA 32 15) rfl rfl HT_ ?_
    refine upu 4 (some 51) (uA 32 31) rfl rfl HT_ ?_
    refine upu 6 (some 53) (uA 32 95) rfl rfl HT_ ?_
    refine upu 7 (some 54) (uA 32 223) rfl rfl HT_ ?_
    refine upu 8 (some 55) (uA 32 479) rfl rfl HT_ ?_
    refine upu 9 (some 56) (uA 32 991) rfl rfl HT_ ?_
    refine upu 10 (some 57) (uA 32 2015) rfl rfl HT_ ?_
    refine upu 11 (some 58) (uA 32 4063) rfl rfl HT_ ?_
    refine upu 13 (some 60) (uA 32 12255) rfl rfl HT_ ?_
    refine upu 14 (some 61) (uA 32 28639) rfl rfl HT_ ?_
    refine upu 15 (some 62) (uA 32 61407) rfl rfl HT_ ?_
    refine upu 16 (some 63) (uA 32 126943) rfl rfl HT_ ?_
    refine upu 17 (some 64) (uA 32 258015) rfl rfl HT_ ?_
    refine upu 18 (some 65) (uA 32 520159) rfl rfl HT_ ?_
    refine upu 20 (some 67) (uA 32 1568735) rfl rfl HT_ ?_
    refine upu 21 (some 68) (uA 32 3665887) rfl rfl HT_ ?_
    refine upu 22 (some 69) (uA 32 7860191) rfl rfl HT_ ?_
    refine upu 23 (some 70) (uA 32 16248799) rfl rfl HT_ ?_
    refine upu 25 (some 72) (uA 32 49803231) rfl rfl HT_ ?_
    refine upu 26 (some 73) (uA 32 116912095) rfl rfl HT_ ?_
    refine upu 27 (some 74) (uA 32 251129823) rfl rfl HT_ ?_
    refine upu 28 (some 75) (uA 32 519565279) rfl rfl HT_ ?_
    refine take_ (i := 5) (N := some 52) (v := ?_) (a' := ?_) (uA 32 519565311) rfl rfl (take_ofW HT_.out HW_.out (by kernel_rfl)) (fun _ _ _ h => h) (Or.inl ⟨by rfl, ?_⟩) hHeld ?_ ?_
    rotate_left
    ·
     rintro w' ⟨s0, s1, s2, s3, s4⟩
     go_simp
     with_reducible rfl
    rotate_left
    · exact uQ
    refine take_ (i := 12) (N := some 59) (v := ?_) (a' := ?_) (uA 32 519569407) rfl rfl (take_ofW HT_.out HW_.out (by kernel_rfl)) (fun _ _ _ h => h) (Or.inl ⟨by rfl, ?_⟩) hHeld ?_ ?_
    rotate_left
    ·
     rintro w' ⟨s0, s1, s2, s3, s4⟩
     go_simp
     with_reducible rfl
    rotate_left
    · exact uQ
    refine take_ (i := 19) (N := some 66) (v := ?_) (a' := ?_) (uA 32 520093695) rfl rfl (take_ofW HT_.out HW_.out (by kernel_rfl)) (fun _ _ _ h => h) (Or.inl ⟨by rfl, ?_⟩) hHeld ?_ ?_
    rotate_left
    ·
     rintro w' ⟨s0, s1, s2, s3, s4⟩
     go_simp
     with_reducible rfl
    rotate_left
    · exact uQ
    refine take_ (i := 24) (N := some 71) (v := ?_) (a' := ?_) (uA 32 536870911) rfl rfl (take_ofW HT_.out HW_.out (by kernel_rfl)) (fun _ _ _ h => h) (Or.inl ⟨by rfl, ?_⟩) hHeld ?_ ?_
    rotate_left
    ·
     rintro w' ⟨s0, s1, s2, s3, s4⟩
     go_simp
     with_reducible rfl
    rotate_left
    · exact uQ
    refine take_ (i := 29) (N := some 76) (v := ?_) (a' := ?_) (uA 32 1073741823) rfl rfl (take_ofW HT_.out HW_.out (by kernel_rfl)) (fun _ _ _ h => h) (Or.inl ⟨by rfl, ?_⟩) hHeld ?_ ?_
    rotate_left
    ·
     rintro w' ⟨s0, s1, s2, s3, s4⟩
     go_simp
     with_reducible rfl
    rotate_left
    · exact uQ
    refine one_ (i := 30) (N := some 77) (uA 32 2147483647) rfl rfl (one_of HT_.out (by kernel_rfl)) (by decide) (fun K hK => ?_)
    refine goes_ Try.func82 (by kernel_rfl) rfl #[.int .u64 (rd x7_1 (ji23)), .int .u64 (rd x7_1 (ji26)), .int .u64 (rd x7_1 (ji29)), .int .u64 (rd t502 (ji32)), .int .u64 (rd t502 (ji35))] (by rfl) rfl rfl (by (try simp only [List.map_toArray, List.map_cons, List.map_nil]); first | done | (simp only [hji23, hji26, hji29, hji32, hji35]; rfl) | rfl | (simp only [List.length_drop, List.length_take]; rfl)) ?_
    with_reducible refine (nat_guess.calls k1 (rd x7_1 (ji23)) (rd x7_1 (ji26)) (rd x7_1 (ji29)) (rd t502 (ji32)) (rd t502 (ji35)) t513 _ A38.out).mono ?_
    rintro e w' ⟨rfl, ⟨nd, rfl⟩⟩
    refine ⟨_, rfl, ?_⟩; refine hK.out _ _ ⟨hHeld.1, hHeld.2.1, hHeld.2.2.1, hHeld.2.2.2.1, hHeld.2.2.2.2⟩ (fun hHeld => ?_); clear hK K; refine norm_ (a' := ?_) ?_ ?_; rotate_left
    · exact (show Act.put _ (some 77) _ = _ from uQ)
    refine upu 31 (some 12) (uA 32 4294967295) rfl rfl HT_ ?_
    refine done_ (done_of HT_.out (by kernel_rfl)) ?_
    have q43 : ((wrap64 ((ji23) + 1)) : Int) ≤ ((x7_1.length : Int) : Int) := uO
    obtain ⟨i043, hi043, _, hsz43, _⟩ := info_parts info62
    have hroom43 : x7_1.length ≤ co18 := (Kd.R_reads' HO_7.out).2.1
    have hC43 : Kd.C (Kd.int .u64) _ (some ad508) x7_1.length x7_1 := (Kd.R_reads' HO_7.out).2.2
    have ql43 : (x11_1 : Int) ≤ ((wrap64 ((ji23) + 1)) : Int) := uO
    have q043 : (0 : Int) ≤ (x11_1 : Int) := uO
    have hcut43 := cut_mid (P := Try.prog) 57 62 .i64 .i64 Try.underlying57 hi043 1 hsz43 (some ad508) x7_1.length co18 x11_1 (wrap64 ((ji23) + 1)) q043 ql43 q43 hroom43
    have hr43 := Kd.C_mid (lo := (x11_1 : Int).toNat) (hi := ((wrap64 ((ji23) + 1)) : Int).toNat) (c := co18) hC43 (by omega) (by omega) hroom43
    obtain ⟨A43, hA43⟩ : ∃ A1, A1 = (if co18 = (x11_1 : Int).toNat then (some ad508) else ((some ad508) : Option Addr).map (·.add ((x11_1 : Int).toNat * 1))) := ⟨_, rfl⟩
    obtain ⟨c43, hc43⟩ : ∃ c1, c1 = co18 - (x11_1 : Int).toNat := ⟨_, rfl⟩
    have hy43 : y514.length = ((wrap64 ((ji23) + 1)) : Int).toNat - (x11_1 : Int).toNat := (by rw [Ny514.out, List.length_drop, List.length_take] <;> omega)
    rw [show ((x7_1).take ((wrap64 ((ji23) + 1)) : Int).toNat).drop (x11_1 : Int).toNat = y514 from Ny514.out.symm] at hr43
    replace hr43 : Kd.C (Kd.int .u64) _ A43 y514.length y514 := (by rw [hA43]; exact hr43)
    rw [← hy43, ← hA43, ← hc43] at hcut43
    have HR517 := Aside0.mk hr43
    have HC517 := Aside0.mk (show y514.length ≤ c43 from by rw [hy43, hc43]; exact Nat.sub_le_sub_right (Nat.le_trans (by omega) hroom43) _)
    clear hr43 hC43 hroom43 hi043 hsz43 hc43; have KY43 := Aside0.mk hy43; have KA43 := Aside0.mk hA43; clear hy43 hA43
    have KL43 := Aside0.mk (show ((wrap64 ((ji23) + 1)) : Int).toNat ≤ x7_1.length from by omega)
    have KM43 := Aside0.mk (show (x11_1 : Int).toNat ≤ ((wrap64 ((ji23) + 1)) : Int).toNat from by omega)
    replace q43 := eq_true q43
    try go_wp2
    go_loopg [12] k1 (fun kq v12 w' => ∃ (x12_2 : Int), v12 = .int .u64 x12_2 ∧ Aside0 (nat_long.l1 kq (IntKind.u64.wrap (t495)) x7_1 t502 (t502.length : Int) x10_1 x11_1 x12_2 y514 = some (r1, r2)) ∧ Aside0 (kq ≤ k1) ∧ Aside0 (Kd.R (Kd.int .u64) 62 w' w.heap.size (fun k_ => some k_ ≠ ((.slice (some ad511) t502.length co17) : Value).ownBlock ∧ some k_ ≠ ((.slice Ao21 x10_1.length co21) : Value).ownBlock) (.slice (some ad508) x7_1.length co18) x7_1) ∧ Aside0 (Kd.R (Kd.int .u64) 62 w' w.heap.size (fun k_ => some k_ ≠ ((.slice (some ad508) x7_1.length co18) : Value).ownBlock ∧ some k_ ≠ ((.slice Ao21 x10_1.length co21) : Value).ownBlock) (.slice (some ad511) t502.length co17) t502) ∧ Aside0 (Kd.R (Kd.int .u64) 62 w' w.heap.size (fun k_ => some k_ ≠ ((.slice (some ad508) x7_1.length co18) : Value).ownBlock ∧ some k_ ≠ ((.slice (some ad511) t502.length co17) : Value).ownBlock) (.slice Ao21 x10_1.length co21) x10_1) ∧ Aside0 (Kd.C (Kd.int .u64) w' A43 y514.length y514) ∧ Aside0 (Below w.heap.size w w'))
    case atStart => exact ⟨(t513), uG, H', ⟨Nat.le_refl _⟩, ⟨by (try simp only [hl7_1]); (try simp only [hl10_1]); exact uR HO_7.out⟩, ⟨by (try simp only [hl7_1]); (try simp only [hl10_1]); exact uR HO_8.out⟩, ⟨by (try simp only [hl7_1]); (try simp only [hl10_1]); exact uR HO_10.out⟩, ⟨by repeat (first | (with_reducible exact HR517.out) | (with_reducible refine Kd.C_alloc ?_ _) | (with_reducible refine Kd.C_drewN ?_ _) | (with_reducible refine Kd.C_drew ?_) | exact HR517.out)⟩, ⟨uB⟩⟩
    case round =>
     clear H'
     ; (try clear q4 q4); (try clear hx4); (try clear q5); (try clear hx5); (try clear q43 q43); (try clear hx494_0); (try clear hx508_0); (try clear hx509_0); (try clear hx510_0); (try clear hx511_0); (try clear hx512_0); (try clear q043); (try clear q494); (try clear q508); (try clear q509); (try clear q510); (try clear q511); (try clear q512)
     obtain ⟨x12_2, rfl, HA, HK2, HO_7, HO_8, HO_10, HR517, HB⟩ := hrel
     cases gk with
     | zero => exact absurd HA.out (by simp [nat_long.l1])
     | succ k2 =>
      have H := HA.out
      clear HA
      simp only [nat_long.l1] at H
      replace H := ub H; obtain ⟨t518, A44, H⟩ := H
      replace H := ub H; obtain ⟨t521, A45, H⟩ := H
      replace H := ub H; obtain ⟨t524, A46, H⟩ := H
      replace H := ub H; obtain ⟨t527, A47, H⟩ := H
      replace H := ub H; obtain ⟨t530, A48, H⟩ := H
      by_cases c49 : t530 ≥ 0
      ·
       rw [if_pos c49] at H
       have c49b0 := decide_eq_true c49
       clear c49
       replace H := ub H; obtain ⟨t531, A50, H⟩ := H
       replace H := uT H; obtain ⟨c51, H⟩ := H
       have c51b0 := eq_true c51
       have c51b1 := decide_eq_true c51
       clear c51
       obtain ⟨y534, hy534⟩ : ∃ y_ : List Int, y_ = (x7_1.take (x11_1 : Int).toNat ++ (t531 ++ x7_1.drop ((x11_1 : Int).toNat + y514.length))) := ⟨_, rfl⟩
       replace H : (if 0 ≤ x11_1 then (if x11_1 < (x10_1.length : Int) then (nat_long.l0 k2 (IntKind.u64.wrap (t495)) y534 t502 (t502.length : Int) (x10_1.set (x11_1 : Int).toNat x12_2) (wrap64 (x11_1 - 1))) else (none)) else (none)) = some (r1, r2) := by first | (rw [hy534]; with_reducible exact H) | (have H2_ := (Option.bind_some _ _).symm.trans H; rw [hy534]; with_reducible exact H2_) | (have H2_ := (Option.bind_some _ _).symm.trans H; with_reducible exact H2_) | with_reducible exact H | (rw [hy534]; exact H) | exact H
       have Ny534 := Aside0.mk hy534; clear hy534
       replace H := uT H; obtain ⟨c52, H⟩ := H
       have c52b0 := decide_eq_true c52
       clear c52
       replace H := uT H; obtain ⟨c53, H⟩ := H
       have c53b0 := decide_eq_true c53
       (try (have c53b0h0 := c53b0; simp only [hl7_1] at c53b0h0))
       (try (have c53b0h1 := c53b0; simp only [hl10_1] at c53b0h1))
       clear c53
       obtain ⟨y535, hy535⟩ : ∃ y_ : List Int, y_ = (x10_1.set (x11_1 : Int).toNat x12_2) := ⟨_, rfl⟩
       replace H : (nat_long.l0 k2 (IntKind.u64.wrap (t495)) y534 t502 (t502.length : Int) y535 (wrap64 (x11_1 - 1))) = some (r1, r2) := by first | (rw [hy535]; with_reducible exact H) | (have H2_ := (Option.bind_some _ _).symm.trans H; rw [hy535]; with_reducible exact H2_) | (have H2_ := (Option.bind_some _ _).symm.trans H; with_reducible exact H2_) | with_reducible exact H | (rw [hy535]; exact H) | exact H
       have Ny535 := Aside0.mk hy535; clear hy535
       have H' := Aside0.mk H
       clear H
       go_wp2_with (first | ((with_reducible refine ug 50 rfl ?_); refine uh (some 87) rfl Try.func50 #[.int .u64 x12_2] ?_; (with_reducible refine (nat_Of.calls k2 x12_2 t518 _ A44.out).mono ?_); rintro e w55 ⟨v519, rfl, ho0, hb⟩; refine ⟨_, rfl, ?_⟩; have HO520 := ulo (unw (unw (unw ho0 HO_7) HO_8) HO_10); replace HO_7 := ueR HO_7 ho0 hb; replace HO_8 := ueR HO_8 ho0 hb; replace HO_10 := ueR HO_10 ho0 hb; replace HR517 := Aside0.mk (Kd.C_below (by repeat (first | (with_reducible exact HR517.out) | (with_reducible refine Kd.C_alloc ?_ _) | (with_reducible refine Kd.C_drewN ?_ _) | (with_reducible refine Kd.C_drew ?_) | exact HR517.out)) hb); replace HB := uy hb; (try clear hb); (try clear hb2); (try clear hk); (try clear hi); (try clear ho0); obtain ⟨Ao56, co56, eo56⟩ := Kd.R_slice HO520.out; subst eo56) | ((with_reducible refine ug 75 rfl ?_); refine uh (some 88) rfl Try.func75 #[.slice (some ad511) t502.length co17, .slice Ao56 t518.length co56] ?_; (with_reducible refine (nat_school.calls k2 _ _ t502 _ _ t518 t521 _ ?side1 ?side2 ?side3 ?side4 A45.out).mono ?_); (case side1 => exact uC (Kd.R_reads' HO_8.out).2.2); (case side2 => exact (Kd.R_reads' HO_8.out).2.1); (case side3 => exact uC (Kd.R_reads' HO520.out).2.2); (case side4 => exact (Kd.R_reads' HO520.out).2.1); rintro e w57 ⟨v522, rfl, ho0, hb⟩; refine ⟨_, rfl, ?_⟩; have HO523 := ulo (unw (unw (unw (unw ho0 HO_7) HO_8) HO_10) HO520); replace HO_7 := ueR HO_7 ho0 hb; replace HO_8 := ueR HO_8 ho0 hb; replace HO_10 := ueR HO_10 ho0 hb; replace HO520 := ueR HO520 ho0 hb; replace HR517 := Aside0.mk (Kd.C_below (by repeat (first | (with_reducible exact HR517.out) | (with_reducible refine Kd.C_alloc ?_ _) | (with_reducible refine Kd.C_drewN ?_ _) | (with_reducible refine Kd.C_drew ?_) | exact HR517.out)) hb); replace HB := uy hb; (try clear hb); (try clear hb2); (try clear hk); (try clear hi); (try clear ho0)) | ((with_reducible refine ug 48 rfl ?_); refine uh (some 90) rfl Try.func48 #[.slice A43 y514.length c43] ?_; (with_reducible refine (api_Nat_uint64.calls _ _ y514 t524 _ ?side1 ?side2 A46.out).mono ?_); (case side1 => repeat (first | exact (by repeat (first | (with_reducible exact HR517.out) | (with_reducible refine Kd.C_alloc ?_ _) | (with_reducible refine Kd.C_drewN ?_ _) | (with_reducible refine Kd.C_drew ?_) | exact HR517.out)) | (with_reducible refine Kd.C_alloc ?_ _) | (with_reducible refine Kd.C_drewN ?_ _) | (with_reducible refine Kd.C_drew ?_))); (case side2 => exact HC517.out); rintro e w58 ⟨v525, rfl, ho0, hb⟩; refine ⟨_, rfl, ?_⟩; have HO526 := ulo (unw (unw (unw (unw (unw ho0 HO_7) HO_8) HO_10) HO520) HO523); replace HO_7 := ueR HO_7 ho0 hb; replace HO_8 := ueR HO_8 ho0 hb; replace HO_10 := ueR HO_10 ho0 hb; replace HO520 := ueR HO520 ho0 hb; replace HO523 := ueR HO523 ho0 hb; replace HR517 := Aside0.mk (Kd.C_below (by repeat (first | (with_reducible exact HR517.out) | (with_reducible refine Kd.C_alloc ?_ _) | (with_reducible refine Kd.C_drewN ?_ _) | (with_reducible refine Kd.C_drew ?_) | exact HR517.out)) hb); replace HB := uy hb; (try clear hb); (try clear hb2); (try clear hk); (try clear hi); (try clear ho0); obtain ⟨Ao59, co59, eo59⟩ := Kd.R_slice HO526.out; subst eo59) | ((with_reducible refine ug 72 rfl ?_); refine uh (some 91) rfl Try.func72 #[.slice Ao59 t524.length co59] ?_; (with_reducible refine (nat_trim.calls k2 (fun k_ => some k_ = (.slice Ao59 t524.length co59 : Value).ownBlock) (.slice Ao59 t524.length co59) t524 t527 w _ ?side1 ?side2 A47.out).mono ?_); (case side1 => repeat (first | (with_reducible first | exact HB.out | apply below_alloc | apply pw_below_drewN | apply below_drew1) | exact HB.out)); (case side2 => exact Kd.R_tight rfl HO526.out); rintro e w60 ⟨v528, rfl, ho0, hb, hkp⟩; refine ⟨_, rfl, ?_⟩; have HO529 := Aside0.mk (Kd.R_mono (ok' := fun k_ => some k_ ≠ (.slice (some ad508) x7_1.length co18 : Value).ownBlock ∧ some k_ ≠ (.slice (some ad511) t502.length co17 : Value).ownBlock ∧ some k_ ≠ (.slice Ao21 x10_1.length co21 : Value).ownBlock ∧ some k_ ≠ (.slice Ao56 t518.length co56 : Value).ownBlock ∧ some k_ ≠ (v522 : Value).ownBlock) ho0 (fun k_ hk_ => ⟨Or.elim hk_ (fun hs_ => fun e_ => (((HO_7.out).1 k_ e_.symm).2) hs_) (fun hn_ => (Kd.fresh' (Kd.R_lt (uR HO_7.out)) k_ hn_)), Or.elim hk_ (fun hs_ => fun e_ => (((HO_8.out).1 k_ e_.symm).2) hs_) (fun hn_ => (Kd.fresh' (Kd.R_lt (uR HO_8.out)) k_ hn_)), Or.elim hk_ (fun hs_ => fun e_ => (((HO_10.out).1 k_ e_.symm).2) hs_) (fun hn_ => (Kd.fresh' (Kd.R_lt (uR HO_10.out)) k_ hn_)), Or.elim hk_ (fun hs_ => fun e_ => (((HO520.out).1 k_ e_.symm).2) hs_) (fun hn_ => (Kd.fresh' (Kd.R_lt (uR HO520.out)) k_ hn_)), Or.elim hk_ (fun hs_ => fun e_ => (((HO523.out).1 k_ e_.symm).2) hs_) (fun hn_ => (Kd.fresh' (Kd.R_lt (uR HO523.out)) k_ hn_))⟩)); replace HO_8 := Aside0.mk (Kd.R_mono (ok' := fun k_ => some k_ ≠ (.slice (some ad508) x7_1.length co18 : Value).ownBlock ∧ some k_ ≠ (.slice Ao21 x10_1.length co21 : Value).ownBlock ∧ some k_ ≠ (.slice Ao56 t518.length co56 : Value).ownBlock ∧ some k_ ≠ (v522 : Value).ownBlock ∧ some k_ ≠ (v528 : Value).ownBlock) (Kd.R_keptB (HO_8.out) hkp (fun k_ hk_ hs_ => (hk_.2) hs_)) (fun k_ hk_ => ⟨hk_.1.1.1.1.1, hk_.1.1.1.1.2, hk_.1.1.1.2, hk_.1.1.2, fun e_ => Or.elim (ho0.1 k_ e_.symm) (fun hs_ => hk_.2.1 hs_) (fun hn_ => Nat.not_le.2 hk_.2.2 hn_)⟩)); replace HO_10 := Aside0.mk (Kd.R_mono (ok' := fun k_ => some k_ ≠ (.slice (some ad508) x7_1.length co18 : Value).ownBlock ∧ some k_ ≠ (.slice (some ad511) t502.length co17 : Value).ownBlock ∧ some k_ ≠ (.slice Ao56 t518.length co56 : Value).ownBlock ∧ some k_ ≠ (v522 : Value).ownBlock ∧ some k_ ≠ (v528 : Value).ownBlock) (Kd.R_keptB (HO_10.out) hkp (fun k_ hk_ hs_ => (hk_.2) hs_)) (fun k_ hk_ => ⟨hk_.1.1.1.1.1, hk_.1.1.1.1.2, hk_.1.1.1.2, hk_.1.1.2, fun e_ => Or.elim (ho0.1 k_ e_.symm) (fun hs_ => hk_.2.1 hs_) (fun hn_ => Nat.not_le.2 hk_.2.2 hn_)⟩)); replace HO520 := Aside0.mk (Kd.R_mono (ok' := fun k_ => some k_ ≠ (.slice (some ad508) x7_1.length co18 : Value).ownBlock ∧ some k_ ≠ (.slice (some ad511) t502.length co17 : Value).ownBlock ∧ some k_ ≠ (.slice Ao21 x10_1.length co21 : Value).ownBlock ∧ some k_ ≠ (v522 : Value).ownBlock ∧ some k_ ≠ (v528 : Value).ownBlock) (Kd.R_keptB (HO520.out) hkp (fun k_ hk_ hs_ => (hk_.2) hs_)) (fun k_ hk_ => ⟨hk_.1.1.1.1.1.2, hk_.1.1.1.1.2, hk_.1.1.1.2, hk_.1.1.2, fun e_ => Or.elim (ho0.1 k_ e_.symm) (fun hs_ => hk_.2.1 hs_) (fun hn_ => Nat.not_le.2 hk_.2.2 hn_)⟩)); replace HO523 := Aside0.mk (Kd.R_mono (ok' := fun k_ => some k_ ≠ (.slice (some ad508) x7_1.length co18 : Value).ownBlock ∧ some k_ ≠ (.slice (some ad511) t502.length co17 : Value).ownBlock ∧ some k_ ≠ (.slice Ao21 x10_1.length co21 : Value).ownBlock ∧ some k_ ≠ (.slice Ao56 t518.length co56 : Value).ownBlock ∧ some k_ ≠ (v528 : Value).ownBlock) (Kd.R_keptB (HO523.out) hkp (fun k_ hk_ hs_ => (hk_.2) hs_)) (fun k_ hk_ => ⟨hk_.1.1.1.1.1.2, hk_.1.1.1.1.2, hk_.1.1.1.2, hk_.1.1.2, fun e_ => Or.elim (ho0.1 k_ e_.symm) (fun hs_ => hk_.2.1 hs_) (fun hn_ => Nat.not_le.2 hk_.2.2 hn_)⟩)); replace HR517 := Aside0.mk ((show Kd.C (Kd.int .u64) w60 A43 y514.length y514 from by rw [Ny514.out, KA43.out]; exact Kd.C_mid (lo := (x11_1 : Int).toNat) (hi := ((wrap64 ((ji23) + 1)) : Int).toNat) (c := co18) ((Kd.R_reads' (Kd.R_mono (ok' := fun k_ => some k_ ≠ (.slice (some ad511) t502.length co17 : Value).ownBlock ∧ some k_ ≠ (.slice Ao21 x10_1.length co21 : Value).ownBlock ∧ some k_ ≠ (.slice Ao56 t518.length co56 : Value).ownBlock ∧ some k_ ≠ (v522 : Value).ownBlock ∧ some k_ ≠ (v528 : Value).ownBlock) (Kd.R_keptB (HO_7.out) hkp (fun k_ hk_ hs_ => (hk_.2) hs_)) (fun k_ hk_ => ⟨hk_.1.1.1.1.1, hk_.1.1.1.1.2, hk_.1.1.1.2, hk_.1.1.2, fun e_ => Or.elim (ho0.1 k_ e_.symm) (fun hs_ => hk_.2.1 hs_) (fun hn_ => Nat.not_le.2 hk_.2.2 hn_)⟩))).2.2) KM43.out KL43.out ((Kd.R_reads' (Kd.R_mono (ok' := fun k_ => some k_ ≠ (.slice (some ad511) t502.length co17 : Value).ownBlock ∧ some k_ ≠ (.slice Ao21 x10_1.length co21 : Value).ownBlock ∧ some k_ ≠ (.slice Ao56 t518.length co56 : Value).ownBlock ∧ some k_ ≠ (v522 : Value).ownBlock ∧ some k_ ≠ (v528 : Value).ownBlock) (Kd.R_keptB (HO_7.out) hkp (fun k_ hk_ hs_ => (hk_.2) hs_)) (fun k_ hk_ => ⟨hk_.1.1.1.1.1, hk_.1.1.1.1.2, hk_.1.1.1.2, hk_.1.1.2, fun e_ => Or.elim (ho0.1 k_ e_.symm) (fun hs_ => hk_.2.1 hs_) (fun hn_ => Nat.not_le.2 hk_.2.2 hn_)⟩))).2.1))); replace HO_7 := Aside0.mk (Kd.R_mono (ok' := fun k_ => some k_ ≠ (.slice (some ad511) t502.length co17 : Value).ownBlock ∧ some k_ ≠ (.slice Ao21 x10_1.length co21 : Value).ownBlock ∧ some k_ ≠ (.slice Ao56 t518.length co56 : Value).ownBlock ∧ some k_ ≠ (v522 : Value).ownBlock ∧ some k_ ≠ (v528 : Value).ownBlock) (Kd.R_keptB (HO_7.out) hkp (fun k_ hk_ hs_ => (hk_.2) hs_)) (fun k_ hk_ => ⟨hk_.1.1.1.1.1, hk_.1.1.1.1.2, hk_.1.1.1.2, hk_.1.1.2, fun e_ => Or.elim (ho0.1 k_ e_.symm) (fun hs_ => hk_.2.1 hs_) (fun hn_ => Nat.not_le.2 hk_.2.2 hn_)⟩)); replace HB := Aside0.mk (hb); clear HO526; (try clear hb); (try clear hkp); (try clear ho0); obtain ⟨Ao61, co61, eo61⟩ := Kd.R_slice HO529.out; subst eo61; obtain ⟨Ao62, co62, eo62⟩ := Kd.R_slice HO523.out; subst eo62) | ((with_reducible refine ug 47 rfl ?_); refine uh (some 93) rfl Try.func47 #[.slice Ao61 t527.length co61, .slice Ao62 t521.length co62] ?_; (with_reducible refine (nat_compare.calls k2 _ _ t527 _ _ t521 t530 _ ?side1 ?side2 ?side3 ?side4 A48.out).mono ?_); (case side1 => exact uC (Kd.R_reads' HO529.out).2.2); (case side2 => exact (Kd.R_reads' HO529.out).2.1); (case side3 => exact uC (Kd.R_reads' HO523.out).2.2); (case side4 => exact (Kd.R_reads' HO523.out).2.1); rintro e w' ⟨rfl, ⟨nd, rfl⟩⟩; refine ⟨_, rfl, ?_⟩; (try (rw [drewN_self w60]; generalize hq_ : World.drewN w60 _ = w60; replace HO520 : Aside0 (Kd.R (Kd.int .u64) 62 w60 w.heap.size (fun k_ => (some k_ ≠ (.slice (some ad508) x7_1.length co18 : Value).ownBlock ∧ (some k_ ≠ (.slice (some ad511) t502.length co17 : Value).ownBlock ∧ (some k_ ≠ (.slice Ao21 x10_1.length co21 : Value).ownBlock ∧ (some k_ ≠ (.slice Ao62 t521.length co62 : Value).ownBlock ∧ some k_ ≠ (.slice Ao61 t527.length co61 : Value).ownBlock))))) (.slice Ao56 t518.length co56) t518) := ⟨by rw [← hq_]; exact (uR HO520.out)⟩; replace HO523 : Aside0 (Kd.R (Kd.int .u64) 62 w60 w.heap.size (fun k_ => (some k_ ≠ (.slice (some ad508) x7_1.length co18 : Value).ownBlock ∧ (some k_ ≠ (.slice (some ad511) t502.length co17 : Value).ownBlock ∧ (some k_ ≠ (.slice Ao21 x10_1.length co21 : Value).ownBlock ∧ (some k_ ≠ (.slice Ao56 t518.length co56 : Value).ownBlock ∧ some k_ ≠ (.slice Ao61 t527.length co61 : Value).ownBlock))))) (.slice Ao62 t521.length co62) t521) := ⟨by rw [← hq_]; exact (uR HO523.out)⟩; replace HO529 : Aside0 (Kd.R (Kd.int .u64) 62 w60 w.heap.size (fun k_ => (some k_ ≠ (.slice (some ad508) x7_1.length co18 : Value).ownBlock ∧ (some k_ ≠ (.slice (some ad511) t502.length co17 : Value).ownBlock ∧ (some k_ ≠ (.slice Ao21 x10_1.length co21 : Value).ownBlock ∧ (some k_ ≠ (.slice Ao56 t518.length co56 : Value).ownBlock ∧ some k_ ≠ (.slice Ao62 t521.length co62 : Value).ownBlock))))) (.slice Ao61 t527.length co61) t527) := ⟨by rw [← hq_]; exact (uR HO529.out)⟩; replace HO_10 : Aside0 (Kd.R (Kd.int .u64) 62 w60 w.heap.size (fun k_ => (some k_ ≠ (.slice (some ad508) x7_1.length co18 : Value).ownBlock ∧ (some k_ ≠ (.slice (some ad511) t502.length co17 : Value).ownBlock ∧ (some k_ ≠ (.slice Ao56 t518.length co56 : Value).ownBlock ∧ (some k_ ≠ (.slice Ao62 t521.length co62 : Value).ownBlock ∧ some k_ ≠ (.slice Ao61 t527.length co61 : Value).ownBlock))))) (.slice Ao21 x10_1.length co21) x10_1) := ⟨by rw [← hq_]; exact (uR HO_10.out)⟩; replace HO_7 : Aside0 (Kd.R (Kd.int .u64) 62 w60 w.heap.size (fun k_ => (some k_ ≠ (.slice (some ad511) t502.length co17 : Value).ownBlock ∧ (some k_ ≠ (.slice Ao21 x10_1.length co21 : Value).ownBlock ∧ (some k_ ≠ (.slice Ao56 t518.length co56 : Value).ownBlock ∧ (some k_ ≠ (.slice Ao62 t521.length co62 : Value).ownBlock ∧ some k_ ≠ (.slice Ao61 t527.length co61 : Value).ownBlock))))) (.slice (some ad508) x7_1.length co18) x7_1) := ⟨by rw [← hq_]; exact (uR HO_7.out)⟩; replace HO_8 : Aside0 (Kd.R (Kd.int .u64) 62 w60 w.heap.size (fun k_ => (some k_ ≠ (.slice (some ad508) x7_1.length co18 : Value).ownBlock ∧ (some k_ ≠ (.slice Ao21 x10_1.length co21 : Value).ownBlock ∧ (some k_ ≠ (.slice Ao56 t518.length co56 : Value).ownBlock ∧ (some k_ ≠ (.slice Ao62 t521.length co62 : Value).ownBlock ∧ some k_ ≠ (.slice Ao61 t527.length co61 : Value).ownBlock))))) (.slice (some ad511) t502.length co17) t502) := ⟨by rw [← hq_]; exact (uR HO_8.out)⟩; replace HB : Aside0 (Below w.heap.size w w60) := ⟨by rw [← hq_]; exact uB⟩; replace HR517 : Aside0 (Kd.C (Kd.int .u64) w60 A43 y514.length y514) := ⟨by rw [← hq_]; exact (by repeat (first | (with_reducible exact HR517.out) | (with_reducible refine Kd.C_alloc ?_ _) | (with_reducible refine Kd.C_drewN ?_ _) | (with_reducible refine Kd.C_drew ?_) | exact HR517.out))⟩; clear hq_))) | ((with_reducible refine ug 78 rfl ?_); refine uh (some 98) rfl Try.func78 #[.slice A43 y514.length c43, .slice Ao62 t521.length co62] ?_; (with_reducible refine (nat_less.calls k2 _ _ y514 _ _ t521 t531 _ ?side1 ?side2 ?side3 ?side4 A50.out).mono ?_); (case side1 => repeat (first | exact (by repeat (first | (with_reducible exact HR517.out) | (with_reducible refine Kd.C_alloc ?_ _) | (with_reducible refine Kd.C_drewN ?_ _) | (with_reducible refine Kd.C_drew ?_) | exact HR517.out)) | (with_reducible refine Kd.C_alloc ?_ _) | (with_reducible refine Kd.C_drewN ?_ _) | (with_reducible refine Kd.C_drew ?_))); (case side2 => exact HC517.out); (case side3 => exact uC (Kd.R_reads' HO523.out).2.2); (case side4 => exact (Kd.R_reads' HO523.out).2.1); rintro e w63 ⟨v532, rfl, ho0, hb⟩; refine ⟨_, rfl, ?_⟩; have HO533 := ulo (unw (unw (unw (unw (unw (unw ho0 HO_7) HO_8) HO_10) HO520) HO523) HO529); replace HO_7 := ueR HO_7 ho0 hb; replace HO_8 := ueR HO_8 ho0 hb; replace HO_10 := ueR HO_10 ho0 hb; replace HO520 := ueR HO520 ho0 hb; replace HO523 := ueR HO523 ho0 hb; replace HO529 := ueR HO529 ho0 hb; replace HR517 := Aside0.mk (Kd.C_below (by repeat (first | (with_reducible exact HR517.out) | (with_reducible refine Kd.C_alloc ?_ _) | (with_reducible refine Kd.C_drewN ?_ _) | (with_reducible refine Kd.C_drew ?_) | exact HR517.out)) hb); replace HB := uy hb; (try clear hb); (try clear hb2); (try clear hk); (try clear hi); (try clear ho0); obtain ⟨Ao66, co66, eo66⟩ := Kd.R_slice HO533.out; subst eo66; have n_ := Aside0.mk (Kd.R_mono (ok' := (fun k_ => some k_ ≠ (.slice (some ad511) t502.length co17 : Value).ownBlock ∧ some k_ ≠ (.slice Ao21 x10_1.length co21 : Value).ownBlock ∧ some k_ ≠ (.slice Ao56 t518.length co56 : Value).ownBlock ∧ some k_ ≠ (.slice Ao62 t521.length co62 : Value).ownBlock ∧ some k_ ≠ (.slice Ao61 t527.length co61 : Value).ownBlock ∧ some k_ ≠ (.slice Ao66 t531.length co66 : Value).ownBlock)) HO_7.out (fun k_ hk => ⟨hk.1.1, ⟨hk.1.2.1, ⟨hk.1.2.2.1, ⟨hk.1.2.2.2.1, ⟨hk.1.2.2.2.2, hk.2⟩⟩⟩⟩⟩)); clear HO_7; have HO_7 := n_; clear n_) | ((with_reducible refine gate_builtin (b := .copy) (xs := #[.tmp 95, .tmp 98]) (ts := #[57, 57]) rfl ?_); (try (refine gate_guard (by rfl) ?_; dsimp only)); refine R_copyin (0 : Int) (w0 := w) w.heap.size rfl (.tmp 95) (.tmp 98) 57 57 62 rfl Try.underlying57 (by kernel_rfl) (A0 := (some ad508)) (n := x7_1.length) (c := co18) (k := (x11_1 : Int).toNat) (m := y514.length) (ys := t531) rfl rfl KA43.out (Kd.R_reads' HO533.out).2.2 uO (uR HO_7.out) ?hk uB (below_size uB) ?_; (case hk => have hy_ := KY43.out; have hl_ := KL43.out; have hm_ := KM43.out; omega); intro w64 ho hb hg; rw [← Ny534.out] at ho; replace HO_7 := Aside0.mk (ho); replace HO_8 := Aside0.mk (Kd.R_after (v := (.slice (some ad508) x7_1.length co18)) (v1 := (.slice (some ad508) x7_1.length co18)) (ok := (fun k_ => some k_ ≠ (.slice Ao21 x10_1.length co21 : Value).ownBlock ∧ some k_ ≠ (.slice Ao56 t518.length co56 : Value).ownBlock ∧ some k_ ≠ (.slice Ao62 t521.length co62 : Value).ownBlock ∧ some k_ ≠ (.slice Ao61 t527.length co61 : Value).ownBlock ∧ some k_ ≠ (.slice Ao66 t531.length co66 : Value).ownBlock)) (uR (Kd.R_mono HO_8.out (fun _ hk => ⟨⟨hk.1.2.1, ⟨hk.1.2.2.1, ⟨hk.1.2.2.2.1, ⟨hk.1.2.2.2.2, hk.2⟩⟩⟩⟩, hk.1.1⟩))) hg (.inl rfl)); replace HO_10 := Aside0.mk (Kd.R_after (v := (.slice (some ad508) x7_1.length co18)) (v1 := (.slice (some ad508) x7_1.length co18)) (ok := (fun k_ => some k_ ≠ (.slice (some ad511) t502.length co17 : Value).ownBlock ∧ some k_ ≠ (.slice Ao56 t518.length co56 : Value).ownBlock ∧ some k_ ≠ (.slice Ao62 t521.length co62 : Value).ownBlock ∧ some k_ ≠ (.slice Ao61 t527.length co61 : Value).ownBlock ∧ some k_ ≠ (.slice Ao66 t531.length co66 : Value).ownBlock)) (uR (Kd.R_mono HO_10.out (fun _ hk => ⟨⟨hk.1.2.1, ⟨hk.1.2.2.1, ⟨hk.1.2.2.2.1, ⟨hk.1.2.2.2.2, hk.2⟩⟩⟩⟩, hk.1.1⟩))) hg (.inl rfl)); replace HO520 := Aside0.mk (Kd.R_after (v := (.slice (some ad508) x7_1.length co18)) (v1 := (.slice (some ad508) x7_1.length co18)) (ok := (fun k_ => some k_ ≠ (.slice (some ad511) t502.length co17 : Value).ownBlock ∧ some k_ ≠ (.slice Ao21 x10_1.length co21 : Value).ownBlock ∧ some k_ ≠ (.slice Ao62 t521.length co62 : Value).ownBlock ∧ some k_ ≠ (.slice Ao61 t527.length co61 : Value).ownBlock ∧ some k_ ≠ (.slice Ao66 t531.length co66 : Value).ownBlock)) (uR (Kd.R_mono HO520.out (fun _ hk => ⟨⟨hk.1.2.1, ⟨hk.1.2.2.1, ⟨hk.1.2.2.2.1, ⟨hk.1.2.2.2.2, hk.2⟩⟩⟩⟩, hk.1.1⟩))) hg (.inl rfl)); replace HO523 := Aside0.mk (Kd.R_after (v := (.slice (some ad508) x7_1.length co18)) (v1 := (.slice (some ad508) x7_1.length co18)) (ok := (fun k_ => some k_ ≠ (.slice (some ad511) t502.length co17 : Value).ownBlock ∧ some k_ ≠ (.slice Ao21 x10_1.length co21 : Value).ownBlock ∧ some k_ ≠ (.slice Ao56 t518.length co56 : Value).ownBlock ∧ some k_ ≠ (.slice Ao61 t527.length co61 : Value).ownBlock ∧ some k_ ≠ (.slice Ao66 t531.length co66 : Value).ownBlock)) (uR (Kd.R_mono HO523.out (fun _ hk => ⟨⟨hk.1.2.1, ⟨hk.1.2.2.1, ⟨hk.1.2.2.2.1, ⟨hk.1.2.2.2.2, hk.2⟩⟩⟩⟩, hk.1.1⟩))) hg (.inl rfl)); replace HO529 := Aside0.mk (Kd.R_after (v := (.slice (some ad508) x7_1.length co18)) (v1 := (.slice (some ad508) x7_1.length co18)) (ok := (fun k_ => some k_ ≠ (.slice (some ad511) t502.length co17 : Value).ownBlock ∧ some k_ ≠ (.slice Ao21 x10_1.length co21 : Value).ownBlock ∧ some k_ ≠ (.slice Ao56 t518.length co56 : Value).ownBlock ∧ some k_ ≠ (.slice Ao62 t521.length co62 : Value).ownBlock ∧ some k_ ≠ (.slice Ao66 t531.length co66 : Value).ownBlock)) (uR (Kd.R_mono HO529.out (fun _ hk => ⟨⟨hk.1.2.1, ⟨hk.1.2.2.1, ⟨hk.1.2.2.2.1, ⟨hk.1.2.2.2.2, hk.2⟩⟩⟩⟩, hk.1.1⟩))) hg (.inl rfl)); replace HO533 := Aside0.mk (Kd.R_after (v := (.slice (some ad508) x7_1.length co18)) (v1 := (.slice (some ad508) x7_1.length co18)) (ok := (fun k_ => some k_ ≠ (.slice (some ad511) t502.length co17 : Value).ownBlock ∧ some k_ ≠ (.slice Ao21 x10_1.length co21 : Value).ownBlock ∧ some k_ ≠ (.slice Ao56 t518.length co56 : Value).ownBlock ∧ some k_ ≠ (.slice Ao62 t521.length co62 : Value).ownBlock ∧ some k_ ≠ (.slice Ao61 t527.length co61 : Value).ownBlock)) (uR (Kd.R_mono HO533.out (fun _ hk => ⟨⟨hk.1.1.1.1.2, ⟨hk.1.1.1.2, ⟨hk.1.1.2, ⟨hk.1.2, hk.2⟩⟩⟩⟩, hk.1.1.1.1.1.2⟩))) hg (.inl rfl)); replace HB := Aside0.mk (hb); clear ho hb hg; have p54 : 0 ≤ (x11_1 : Int) := uO; have q54 : (x11_1 : Int) < ((x10_1.length : Int) : Int) := uO; obtain ⟨go54, co54, eo54, gb54, gl54, cl54, HG54⟩ := Kd.R_form HO_10.out (by omega); (first | cases eo54 | (injection eo54 with ea_ en_ ec_; (first | subst ea_ | (injection ea_ with ea_; subst ea_)); subst ec_; clear en_)); have GB54 := Aside0.mk gb54; have GG54 := Aside0.mk HG54; clear gb54 gl54 HG54; obtain ⟨hx54_0, hf54_0⟩ := Kd.R_celln 0 HO_10.out (x11_1 : Int) p54 q54; replace p54 := eq_true p54; replace q54 := eq_true q54; have n_ := Aside0.mk (Kd.R_mono (ok' := (fun k_ => some k_ ≠ (.slice (some ad508) x7_1.length co18 : Value).ownBlock ∧ some k_ ≠ (.slice (some ad511) t502.length co17 : Value).ownBlock ∧ some k_ ≠ (.slice Ao56 t518.length co56 : Value).ownBlock ∧ some k_ ≠ (.slice Ao62 t521.length co62 : Value).ownBlock ∧ some k_ ≠ (.slice Ao61 t527.length co61 : Value).ownBlock ∧ some k_ ≠ (.slice Ao66 t531.length co66 : Value).ownBlock)) HO_10.out (fun k_ hk => ⟨hk.2, ⟨hk.1.1, ⟨hk.1.2.1, ⟨hk.1.2.2.1, ⟨hk.1.2.2.2.1, hk.1.2.2.2.2⟩⟩⟩⟩⟩)); clear HO_10; have HO_10 := n_; clear n_; obtain ⟨hy67_, hz67_⟩ := Kd.R_celln 0 HO_10.out (x11_1 : Int) uO uO; have HP67 := Kd.R_putg HO_10.out (x11_1 : Int) x12_2) | ((with_reducible refine gate_store (t := 62) (p := 105) rfl ?_); refine store_event (t := 62) (p := 105) (v := ?vo_w68) (w1 := (w64.setCell ⟨go54, (x11_1 : Int).toNat, none⟩ (.int .u64 x12_2))) ?hg ?ho ?hn ?hr ?_; (case ho => rfl); (case hg => rfl); (case hn => rfl); (case hr => first | (go_simp; done) | (go_simp; rfl) | (obtain ⟨hy_, hz_⟩ := Kd.R_celln 0 HO_10.out (x11_1 : Int) uO uO; (try simp only [Go.IntWalk.toNatUp] at hy_ hz_); (try simp only [Int.reduceToNat, Int.toNat_zero, Int.toNat_ofNat] at hy_ hz_); first | (go_simp; done) | (go_simp; rfl))); intro w68 hw; have hg : w64.grownBy w68 (some go54) := (by rw [hw]; exact HP67.2); have hp_ : Kd.R (Kd.int .u64) 62 w68 w.heap.size (fun k_ => some k_ ≠ (.slice (some ad508) x7_1.length co18 : Value).ownBlock ∧ some k_ ≠ (.slice (some ad511) t502.length co17 : Value).ownBlock ∧ some k_ ≠ (.slice Ao56 t518.length co56 : Value).ownBlock ∧ some k_ ≠ (.slice Ao62 t521.length co62 : Value).ownBlock ∧ some k_ ≠ (.slice Ao61 t527.length co61 : Value).ownBlock ∧ some k_ ≠ (.slice Ao66 t531.length co66 : Value).ownBlock) (.slice (some ⟨go54, 0, none⟩) x10_1.length co21) y535 := (by rw [hw, Ny535.out]; exact HP67.1); clear HP67; replace HO_7 := Aside0.mk (Kd.R_after (v := (.slice (some ⟨go54, 0, none⟩) x10_1.length co21)) (v1 := (.slice (some ⟨go54, 0, none⟩) x10_1.length co21)) (ok := (fun k_ => some k_ ≠ (.slice (some ad511) t502.length co17 : Value).ownBlock ∧ some k_ ≠ (.slice Ao56 t518.length co56 : Value).ownBlock ∧ some k_ ≠ (.slice Ao62 t521.length co62 : Value).ownBlock ∧ some k_ ≠ (.slice Ao61 t527.length co61 : Value).ownBlock ∧ some k_ ≠ (.slice Ao66 t531.length co66 : Value).ownBlock)) (uR (Kd.R_mono HO_7.out (fun _ hk => ⟨⟨hk.1, ⟨hk.2.2.1, ⟨hk.2.2.2.1, ⟨hk.2.2.2.2.1, hk.2.2.2.2.2⟩⟩⟩⟩, hk.2.1⟩))) hg (.inl rfl)); replace HO_8 := Aside0.mk (Kd.R_after (v := (.slice (some ⟨go54, 0, none⟩) x10_1.length co21)) (v1 := (.slice (some ⟨go54, 0, none⟩) x10_1.length co21)) (ok := (fun k_ => some k_ ≠ (.slice (some ad508) x7_1.length co18 : Value).ownBlock ∧ some k_ ≠ (.slice Ao56 t518.length co56 : Value).ownBlock ∧ some k_ ≠ (.slice Ao62 t521.length co62 : Value).ownBlock ∧ some k_ ≠ (.slice Ao61 t527.length co61 : Value).ownBlock ∧ some k_ ≠ (.slice Ao66 t531.length co66 : Value).ownBlock)) (uR (Kd.R_mono HO_8.out (fun _ hk => ⟨⟨hk.2, ⟨hk.1.2.1, ⟨hk.1.2.2.1, ⟨hk.1.2.2.2.1, hk.1.2.2.2.2⟩⟩⟩⟩, hk.1.1⟩))) hg (.inl rfl)); replace HO_10 := Aside0.mk (hp_); replace HO520 := Aside0.mk (Kd.R_after (v := (.slice (some ⟨go54, 0, none⟩) x10_1.length co21)) (v1 := (.slice (some ⟨go54, 0, none⟩) x10_1.length co21)) (ok := (fun k_ => some k_ ≠ (.slice (some ad508) x7_1.length co18 : Value).ownBlock ∧ some k_ ≠ (.slice (some ad511) t502.length co17 : Value).ownBlock ∧ some k_ ≠ (.slice Ao62 t521.length co62 : Value).ownBlock ∧ some k_ ≠ (.slice Ao61 t527.length co61 : Value).ownBlock ∧ some k_ ≠ (.slice Ao66 t531.length co66 : Value).ownBlock)) (uR (Kd.R_mono HO520.out (fun _ hk => ⟨⟨hk.2, ⟨hk.1.1, ⟨hk.1.2.2.1, ⟨hk.1.2.2.2.1, hk.1.2.2.2.2⟩⟩⟩⟩, hk.1.2.1⟩))) hg (.inl rfl)); replace HO523 := Aside0.mk (Kd.R_after (v := (.slice (some ⟨go54, 0, none⟩) x10_1.length co21)) (v1 := (.slice (some ⟨go54, 0, none⟩) x10_1.length co21)) (ok := (fun k_ => some k_ ≠ (.slice (some ad508) x7_1.length co18 : Value).ownBlock ∧ some k_ ≠ (.slice (some ad511) t502.length co17 : Value).ownBlock ∧ some k_ ≠ (.slice Ao56 t518.length co56 : Value).ownBlock ∧ some k_ ≠ (.slice Ao61 t527.length co61 : Value).ownBlock ∧ some k_ ≠ (.slice Ao66 t531.length co66 : Value).ownBlock)) (uR (Kd.R_mono HO523.out (fun _ hk => ⟨⟨hk.2, ⟨hk.1.1, ⟨hk.1.2.2.1, ⟨hk.1.2.2.2.1, hk.1.2.2.2.2⟩⟩⟩⟩, hk.1.2.1⟩))) hg (.inl rfl)); replace HO529 := Aside0.mk (Kd.R_after (v := (.slice (some ⟨go54, 0, none⟩) x10_1.length co21)) (v1 := (.slice (some ⟨go54, 0, none⟩) x10_1.length co21)) (ok := (fun k_ => some k_ ≠ (.slice (some ad508) x7_1.length co18 : Value).ownBlock ∧ some k_ ≠ (.slice (some ad511) t502.length co17 : Value).ownBlock ∧ some k_ ≠ (.slice Ao56 t518.length co56 : Value).ownBlock ∧ some k_ ≠ (.slice Ao62 t521.length co62 : Value).ownBlock ∧ some k_ ≠ (.slice Ao66 t531.length co66 : Value).ownBlock)) (uR (Kd.R_mono HO529.out (fun _ hk => ⟨⟨hk.2, ⟨hk.1.1, ⟨hk.1.2.2.1, ⟨hk.1.2.2.2.1, hk.1.2.2.2.2⟩⟩⟩⟩, hk.1.2.1⟩))) hg (.inl rfl)); replace HO533 := Aside0.mk (Kd.R_after (v := (.slice (some ⟨go54, 0, none⟩) x10_1.length co21)) (v1 := (.slice (some ⟨go54, 0, none⟩) x10_1.length co21)) (ok := (fun k_ => some k_ ≠ (.slice (some ad508) x7_1.length co18 : Value).ownBlock ∧ some k_ ≠ (.slice (some ad511) t502.length co17 : Value).ownBlock ∧ some k_ ≠ (.slice Ao56 t518.length co56 : Value).ownBlock ∧ some k_ ≠ (.slice Ao62 t521.length co62 : Value).ownBlock ∧ some k_ ≠ (.slice Ao61 t527.length co61 : Value).ownBlock)) (uR (Kd.R_mono HO533.out (fun _ hk => ⟨⟨hk.2, ⟨hk.1.1, ⟨hk.1.2.2.1, ⟨hk.1.2.2.2.1, hk.1.2.2.2.2⟩⟩⟩⟩, hk.1.2.1⟩))) hg (.inl rfl)); replace HB := Aside0.mk ((by rw [hw]; exact below_set (HB.out) GB54.out : Below w.heap.size w w68)); clear hg hw hp_))
       (try simp only [← hl7_1, ← hl10_1])
       first | go_roundg k2 | ((try simp only [← hji35] at H'); simp only [← hji35]; go_roundg k2) | ((try simp only [← hji32] at H'); simp only [← hji32]; go_roundg k2) | ((try simp only [← hji29] at H'); simp only [← hji29]; go_roundg k2) | ((try simp only [← hji26] at H'); simp only [← hji26]; go_roundg k2) | ((try simp only [← hji23] at H'); simp only [← hji23]; go_roundg k2) | ((try simp only [← hji10] at H'); simp only [← hji10]; go_roundg k2)
       case measure => have := HK1.out; have := HK2.out; omega
       case rel => first | exact ⟨(y534), (y535), (wrap64 (x11_1 - 1)), uG, H', ⟨by have := HK1.out; have := HK2.out; omega⟩, ⟨by (try simp only [hl7_1]); (try simp only [hl10_1]); exact uR (Kd.R_mono HO_7.out (fun _ hk => ⟨hk.1.1, hk.2⟩))⟩, ⟨by (try simp only [hl7_1]); (try simp only [hl10_1]); exact uR (Kd.R_mono HO_8.out (fun _ hk => ⟨hk.1.1, hk.2⟩))⟩, ⟨by (try simp only [hl7_1]); (try simp only [hl10_1]); exact uR (Kd.R_mono HO_10.out (fun _ hk => ⟨hk.1, hk.2.1⟩))⟩, ⟨uB⟩⟩ | (simp only [← hji35] at H'; exact ⟨(y534), (y535), (wrap64 (x11_1 - 1)), uG, H', ⟨by have := HK1.out; have := HK2.out; omega⟩, ⟨by (try simp only [hl7_1]); (try simp only [hl10_1]); exact uR (Kd.R_mono HO_7.out (fun _ hk => ⟨hk.1.1, hk.2⟩))⟩, ⟨by (try simp only [hl7_1]); (try simp only [hl10_1]); exact uR (Kd.R_mono HO_8.out (fun _ hk => ⟨hk.1.1, hk.2⟩))⟩, ⟨by (try simp only [hl7_1]); (try simp only [hl10_1]); exact uR (Kd.R_mono HO_10.out (fun _ hk => ⟨hk.1, hk.2.1⟩))⟩, ⟨uB⟩⟩) | (simp only [← hji32] at H'; exact ⟨(y534), (y535), (wrap64 (x11_1 - 1)), uG, H', ⟨by have := HK1.out; have := HK2.out; omega⟩, ⟨by (try simp only [hl7_1]); (try simp only [hl10_1]); exact uR (Kd.R_mono HO_7.out (fun _ hk => ⟨hk.1.1, hk.2⟩))⟩, ⟨by (try simp only [hl7_1]); (try simp only [hl10_1]); exact uR (Kd.R_mono HO_8.out (fun _ hk => ⟨hk.1.1, hk.2⟩))⟩, ⟨by (try simp only [hl7_1]); (try simp only [hl10_1]); exact uR (Kd.R_mono HO_10.out (fun _ hk => ⟨hk.1, hk.2.1⟩))⟩, ⟨uB⟩⟩) | (simp only [← hji29] at H'; exact ⟨(y534), (y535), (wrap64 (x11_1 - 1)), uG, H', ⟨by have := HK1.out; have := HK2.out; omega⟩, ⟨by (try simp only [hl7_1]); (try simp only [hl10_1]); exact uR (Kd.R_mono HO_7.out (fun _ hk => ⟨hk.1.1, hk.2⟩))⟩, ⟨by (try simp only [hl7_1]); (try simp only [hl10_1]); exact uR (Kd.R_mono HO_8.out (fun _ hk => ⟨hk.1.1, hk.2⟩))⟩, ⟨by (try simp only [hl7_1]); (try simp only [hl10_1]); exact uR (Kd.R_mono HO_10.out (fun _ hk => ⟨hk.1, hk.2.1⟩))⟩, ⟨uB⟩⟩) | (simp only [← hji26] at H'; exact ⟨(y534), (y535), (wrap64 (x11_1 - 1)), uG, H', ⟨by have := HK1.out; have := HK2.out; omega⟩, ⟨by (try simp only [hl7_1]); (try simp only [hl10_1]); exact uR (Kd.R_mono HO_7.out (fun _ hk => ⟨hk.1.1, hk.2⟩))⟩, ⟨by (try simp only [hl7_1]); (try simp only [hl10_1]); exact uR (Kd.R_mono HO_8.out (fun _ hk => ⟨hk.1.1, hk.2⟩))⟩, ⟨by (try simp only [hl7_1]); (try simp only [hl10_1]); exact uR (Kd.R_mono HO_10.out (fun _ hk => ⟨hk.1, hk.2.1⟩))⟩, ⟨uB⟩⟩) | (simp only [← hji23] at H'; exact ⟨(y534), (y535), (wrap64 (x11_1 - 1)), uG, H', ⟨by have := HK1.out; have := HK2.out; omega⟩, ⟨by (try simp only [hl7_1]); (try simp only [hl10_1]); exact uR (Kd.R_mono HO_7.out (fun _ hk => ⟨hk.1.1, hk.2⟩))⟩, ⟨by (try simp only [hl7_1]); (try simp only [hl10_1]); exact uR (Kd.R_mono HO_8.out (fun _ hk => ⟨hk.1.1, hk.2⟩))⟩, ⟨by (try simp only [hl7_1]); (try simp only [hl10_1]); exact uR (Kd.R_mono HO_10.out (fun _ hk => ⟨hk.1, hk.2.1⟩))⟩, ⟨uB⟩⟩) | (simp only [← hji10] at H'; exact ⟨(y534), (y535), (wrap64 (x11_1 - 1)), uG, H', ⟨by have := HK1.out; have := HK2.out; omega⟩, ⟨by (try simp only [hl7_1]); (try simp only [hl10_1]); exact uR (Kd.R_mono HO_7.out (fun _ hk => ⟨hk.1.1, hk.2⟩))⟩, ⟨by (try simp only [hl7_1]); (try simp only [hl10_1]); exact uR (Kd.R_mono HO_8.out (fun _ hk => ⟨hk.1.1, hk.2⟩))⟩, ⟨by (try simp only [hl7_1]); (try simp only [hl10_1]); exact uR (Kd.R_mono HO_10.out (fun _ hk => ⟨hk.1, hk.2.1⟩))⟩, ⟨uB⟩⟩)
      rw [if_neg c49] at H
      have c49b0 := decide_eq_false c49
      clear c49
      have H' := Aside0.mk H
      clear H
      go_wp2_with (first | ((with_reducible refine ug 50 rfl ?_); refine uh (some 87) rfl Try.func50 #[.int .u64 x12_2] ?_; (with_reducible refine (nat_Of.calls k2 x12_2 t518 _ A44.out).mono ?_); rintro e w69 ⟨v519, rfl, ho0, hb⟩; refine ⟨_, rfl, ?_⟩; have HO520 := ulo (unw (unw (unw ho0 HO_7) HO_8) HO_10); replace HO_7 := ueR HO_7 ho0 hb; replace HO_8 := ueR HO_8 ho0 hb; replace HO_10 := ueR HO_10 ho0 hb; replace HR517 := Aside0.mk (Kd.C_below (by repeat (first | (with_reducible exact HR517.out) | (with_reducible refine Kd.C_alloc ?_ _) | (with_reducible refine Kd.C_drewN ?_ _) | (with_reducible refine Kd.C_drew ?_) | exact HR517.out)) hb); replace HB := uy hb; (try clear hb); (try clear hb2); (try clear hk); (try clear hi); (try clear ho0); obtain ⟨Ao70, co70, eo70⟩ := Kd.R_slice HO520.out; subst eo70) | ((with_reducible refine ug 75 rfl ?_); refine uh (some 88) rfl Try.func75 #[.slice (some ad511) t502.length co17, .slice Ao70 t518.length co70] ?_; (with_reducible refine (nat_school.calls k2 _ _ t502 _ _ t518 t521 _ ?side1 ?side2 ?side3 ?side4 A45.out).mono ?_); (case side1 => exact uC (Kd.R_reads' HO_8.out).2.2); (case side2 => exact (Kd.R_reads' HO_8.out).2.1); (case side3 => exact uC (Kd.R_reads' HO520.out).2.2); (case side4 => exact (Kd.R_reads' HO520.out).2.1); rintro e w71 ⟨v522, rfl, ho0, hb⟩; refine ⟨_, rfl, ?_⟩; have HO523 := ulo (unw (unw (unw (unw ho0 HO_7) HO_8) HO_10) HO520); replace HO_7 := ueR HO_7 ho0 hb; replace HO_8 := ueR HO_8 ho0 hb; replace HO_10 := ueR HO_10 ho0 hb; replace HO520 := ueR HO520 ho0 hb; replace HR517 := Aside0.mk (Kd.C_below (by repeat (first | (with_reducible exact HR517.out) | (with_reducible refine Kd.C_alloc ?_ _) | (with_reducible refine Kd.C_drewN ?_ _) | (with_reducible refine Kd.C_drew ?_) | exact HR517.out)) hb); replace HB := uy hb; (try clear hb); (try clear hb2); (try clear hk); (try clear hi); (try clear ho0)) | ((with_reducible refine ug 48 rfl ?_); refine uh (some 90) rfl Try.func48 #[.slice A43 y514.length c43] ?_; (with_reducible refine (api_Nat_uint64.calls _ _ y514 t524 _ ?side1 ?side2 A46.out).mono ?_); (case side1 => repeat (first | exact (by repeat (first | (with_reducible exact HR517.out) | (with_reducible refine Kd.C_alloc ?_ _) | (with_reducible refine Kd.C_drewN ?_ _) | (with_reducible refine Kd.C_drew ?_) | exact HR517.out)) | (with_reducible refine Kd.C_alloc ?_ _) | (with_reducible refine Kd.C_drewN ?_ _) | (with_reducible refine Kd.C_drew ?_))); (case side2 => exact HC517.out); rintro e w72 ⟨v525, rfl, ho0, hb⟩; refine ⟨_, rfl, ?_⟩; have HO526 := ulo (unw (unw (unw (unw (unw ho0 HO_7) HO_8) HO_10) HO520) HO523); replace HO_7 := ueR HO_7 ho0 hb; replace HO_8 := ueR HO_8 ho0 hb; replace HO_10 := ueR HO_10 ho0 hb; replace HO520 := ueR HO520 ho0 hb; replace HO523 := ueR HO523 ho0 hb; replace HR517 := Aside0.mk (Kd.C_below (by repeat (first | (with_reducible exact HR517.out) | (with_reducible refine Kd.C_alloc ?_ _) | (with_reducible refine Kd.C_drewN ?_ _) | (with_reducible refine Kd.C_drew ?_) | exact HR517.out)) hb); replace HB := uy hb; (try clear hb); (try clear hb2); (try clear hk); (try clear hi); (try clear ho0); obtain ⟨Ao73, co73, eo73⟩ := Kd.R_slice HO526.out; subst eo73) | ((with_reducible refine ug 72 rfl ?_); refine uh (some 91) rfl Try.func72 #[.slice Ao73 t524.length co73] ?_; (with_reducible refine (nat_trim.calls k2 (fun k_ => some k_ = (.slice Ao73 t524.length co73 : Value).ownBlock) (.slice Ao73 t524.length co73) t524 t527 w _ ?side1 ?side2 A47.out).mono ?_); (case side1 => repeat (first | (with_reducible first | exact HB.out | apply below_alloc | apply pw_below_drewN | apply below_drew1) | exact HB.out)); (case side2 => exact Kd.R_tight rfl HO526.out); rintro e w74 ⟨v528, rfl, ho0, hb, hkp⟩; refine ⟨_, rfl, ?_⟩; have HO529 := Aside0.mk (Kd.R_mono (ok' := fun k_ => some k_ ≠ (.slice (some ad508) x7_1.length co18 : Value).ownBlock ∧ some k_ ≠ (.slice (some ad511) t502.length co17 : Value).ownBlock ∧ some k_ ≠ (.slice Ao21 x10_1.length co21 : Value).ownBlock ∧ some k_ ≠ (.slice Ao70 t518.length co70 : Value).ownBlock ∧ some k_ ≠ (v522 : Value).ownBlock) ho0 (fun k_ hk_ => ⟨Or.elim hk_ (fun hs_ => fun e_ => (((HO_7.out).1 k_ e_.symm).2) hs_) (fun hn_ => (Kd.fresh' (Kd.R_lt (uR HO_7.out)) k_ hn_)), Or.elim hk_ (fun hs_ => fun e_ => (((HO_8.out).1 k_ e_.symm).2) hs_) (fun hn_ => (Kd.fresh' (Kd.R_lt (uR HO_8.out)) k_ hn_)), Or.elim hk_ (fun hs_ => fun e_ => (((HO_10.out).1 k_ e_.symm).2) hs_) (fun hn_ => (Kd.fresh' (Kd.R_lt (uR HO_10.out)) k_ hn_)), Or.elim hk_ (fun hs_ => fun e_ => (((HO520.out).1 k_ e_.symm).2) hs_) (fun hn_ => (Kd.fresh' (Kd.R_lt (uR HO520.out)) k_ hn_)), Or.elim hk_ (fun hs_ => fun e_ => (((HO523.out).1 k_ e_.symm).2) hs_) (fun hn_ => (Kd.fresh' (Kd.R_lt (uR HO523.out)) k_ hn_))⟩)); replace HO_8 := Aside0.mk (Kd.R_mono (ok' := fun k_ => some k_ ≠ (.slice (some ad508) x7_1.length co18 : Value).ownBlock ∧ some k_ ≠ (.slice Ao21 x10_1.length co21 : Value).ownBlock ∧ some k_ ≠ (.slice Ao70 t518.length co70 : Value).ownBlock ∧ some k_ ≠ (v522 : Value).ownBlock ∧ some k_ ≠ (v528 : Value).ownBlock) (Kd.R_keptB (HO_8.out) hkp (fun k_ hk_ hs_ => (hk_.2) hs_)) (fun k_ hk_ => ⟨hk_.1.1.1.1.1, hk_.1.1.1.1.2, hk_.1.1.1.2, hk_.1.1.2, fun e_ => Or.elim (ho0.1 k_ e_.symm) (fun hs_ => hk_.2.1 hs_) (fun hn_ => Nat.not_le.2 hk_.2.2 hn_)⟩)); replace HO_10 := Aside0.mk (Kd.R_mono (ok' := fun k_ => some k_ ≠ (.slice (some ad508) x7_1.length co18 : Value).ownBlock ∧ some k_ ≠ (.slice (some ad511) t502.length co17 : Value).ownBlock ∧ some k_ ≠ (.slice Ao70 t518.length co70 : Value).ownBlock ∧ some k_ ≠ (v522 : Value).ownBlock ∧ some k_ ≠ (v528 : Value).ownBlock) (Kd.R_keptB (HO_10.out) hkp (fun k_ hk_ hs_ => (hk_.2) hs_)) (fun k_ hk_ => ⟨hk_.1.1.1.1.1, hk_.1.1.1.1.2, hk_.1.1.1.2, hk_.1.1.2, fun e_ => Or.elim (ho0.1 k_ e_.symm) (fun hs_ => hk_.2.1 hs_) (fun hn_ => Nat.not_le.2 hk_.2.2 hn_)⟩)); replace HO520 := Aside0.mk (Kd.R_mono (ok' := fun k_ => some k_ ≠ (.slice (some ad508) x7_1.length co18 : Value).ownBlock ∧ some k_ ≠ (.slice (some ad511) t502.length co17 : Value).ownBlock ∧ some k_ ≠ (.slice Ao21 x10_1.length co21 : Value).ownBlock ∧ some k_ ≠ (v522 : Value).ownBlock ∧ some k_ ≠ (v528 : Value).ownBlock) (Kd.R_keptB (HO520.out) hkp (fun k_ hk_ hs_ => (hk_.2) hs_)) (fun k_ hk_ => ⟨hk_.1.1.1.1.1.2, hk_.1.1.1.1.2, hk_.1.1.1.2, hk_.1.1.2, fun e_ => Or.elim (ho0.1 k_ e_.symm) (fun hs_ => hk_.2.1 hs_) (fun hn_ => Nat.not_le.2 hk_.2.2 hn_)⟩)); replace HO523 := Aside0.mk (Kd.R_mono (ok' := fun k_ => some k_ ≠ (.slice (some ad508) x7_1.length co18 : Value).ownBlock ∧ some k_ ≠ (.slice (some ad511) t502.length co17 : Value).ownBlock ∧ some k_ ≠ (.slice Ao21 x10_1.length co21 : Value).ownBlock ∧ some k_ ≠ (.slice Ao70 t518.length co70 : Value).ownBlock ∧ some k_ ≠ (v528 : Value).ownBlock) (Kd.R_keptB (HO523.out) hkp (fun k_ hk_ hs_ => (hk_.2) hs_)) (fun k_ hk_ => ⟨hk_.1.1.1.1.1.2, hk_.1.1.1.1.2, hk_.1.1.1.2, hk_.1.1.2, fun e_ => Or.elim (ho0.1 k_ e_.symm) (fun hs_ => hk_.2.1 hs_) (fun hn_ => Nat.not_le.2 hk_.2.2 hn_)⟩)); replace HR517 := Aside0.mk ((show Kd.C (Kd.int .u64) w74 A43 y514.length y514 from by rw [Ny514.out, KA43.out]; exact Kd.C_mid (lo := (x11_1 : Int).toNat) (hi := ((wrap64 ((ji23) + 1)) : Int).toNat) (c := co18) ((Kd.R_reads' (Kd.R_mono (ok' := fun k_ => some k_ ≠ (.slice (some ad511) t502.length co17 : Value).ownBlock ∧ some k_ ≠ (.slice Ao21 x10_1.length co21 : Value).ownBlock ∧ some k_ ≠ (.slice Ao70 t518.length co70 : Value).ownBlock ∧ some k_ ≠ (v522 : Value).ownBlock ∧ some k_ ≠ (v528 : Value).ownBlock) (Kd.R_keptB (HO_7.out) hkp (fun k_ hk_ hs_ => (hk_.2) hs_)) (fun k_ hk_ => ⟨hk_.1.1.1.1.1, hk_.1.1.1.1.2, hk_.1.1.1.2, hk_.1.1.2, fun e_ => Or.elim (ho0.1 k_ e_.symm) (fun hs_ => hk_.2.1 hs_) (fun hn_ => Nat.not_le.2 hk_.2.2 hn_)⟩))).2.2) KM43.out KL43.out ((Kd.R_reads' (Kd.R_mono (ok' := fun k_ => some k_ ≠ (.slice (some ad511) t502.length co17 : Value).ownBlock ∧ some k_ ≠ (.slice Ao21 x10_1.length co21 : Value).ownBlock ∧ some k_ ≠ (.slice Ao70 t518.length co70 : Value).ownBlock ∧ some k_ ≠ (v522 : Value).ownBlock ∧ some k_ ≠ (v528 : Value).ownBlock) (Kd.R_keptB (HO_7.out) hkp (fun k_ hk_ hs_ => (hk_.2) hs_)) (fun k_ hk_ => ⟨hk_.1.1.1.1.1, hk_.1.1.1.1.2, hk_.1.1.1.2, hk_.1.1.2, fun e_ => Or.elim (ho0.1 k_ e_.symm) (fun hs_ => hk_.2.1 hs_) (fun hn_ => Nat.not_le.2 hk_.2.2 hn_)⟩))).2.1))); replace HO_7 := Aside0.mk (Kd.R_mono (ok' := fun k_ => some k_ ≠ (.slice (some ad511) t502.length co17 : Value).ownBlock ∧ some k_ ≠ (.slice Ao21 x10_1.length co21 : Value).ownBlock ∧ some k_ ≠ (.slice Ao70 t518.length co70 : Value).ownBlock ∧ some k_ ≠ (v522 : Value).ownBlock ∧ some k_ ≠ (v528 : Value).ownBlock) (Kd.R_keptB (HO_7.out) hkp (fun k_ hk_ hs_ => (hk_.2) hs_)) (fun k_ hk_ => ⟨hk_.1.1.1.1.1, hk_.1.1.1.1.2, hk_.1.1.1.2, hk_.1.1.2, fun e_ => Or.elim (ho0.1 k_ e_.symm) (fun hs_ => hk_.2.1 hs_) (fun hn_ => Nat.not_le.2 hk_.2.2 hn_)⟩)); replace HB := Aside0.mk (hb); clear HO526; (try clear hb); (try clear hkp); (try clear ho0); obtain ⟨Ao75, co75, eo75⟩ := Kd.R_slice HO529.out; subst eo75; obtain ⟨Ao76, co76, eo76⟩ := Kd.R_slice HO523.out; subst eo76) | ((with_reducible refine ug 47 rfl ?_); refine uh (some 93) rfl Try.func47 #[.slice Ao75 t527.length co75, .slice Ao76 t521.length co76] ?_; (with_reducible refine (nat_compare.calls k2 _ _ t527 _ _ t521 t530 _ ?side1 ?side2 ?side3 ?side4 A48.out).mono ?_); (case side1 => exact uC (Kd.R_reads' HO529.out).2.2); (case side2 => exact (Kd.R_reads' HO529.out).2.1); (case side3 => exact uC (Kd.R_reads' HO523.out).2.2); (case side4 => exact (Kd.R_reads' HO523.out).2.1); rintro e w' ⟨rfl, ⟨nd, rfl⟩⟩; refine ⟨_, rfl, ?_⟩))
      first | go_roundg k2 | ((try simp only [← hji35] at H'); simp only [← hji35]; go_roundg k2) | ((try simp only [← hji32] at H'); simp only [← hji32]; go_roundg k2) | ((try simp only [← hji29] at H'); simp only [← hji29]; go_roundg k2) | ((try simp only [← hji26] at H'); simp only [← hji26]; go_roundg k2) | ((try simp only [← hji23] at H'); simp only [← hji23]; go_roundg k2) | ((try simp only [← hji10] at H'); simp only [← hji10]; go_roundg k2)
      case measure => have := HK1.out; have := HK2.out; omega
      case rel => first | exact ⟨(IntKind.u64.wrap (x12_2 - 1)), uG, H', ⟨by have := HK1.out; have := HK2.out; omega⟩, ⟨by (try simp only [hl7_1]); (try simp only [hl10_1]); exact uR (Kd.R_mono HO_7.out (fun _ hk => ⟨hk.1, hk.2.1⟩))⟩, ⟨by (try simp only [hl7_1]); (try simp only [hl10_1]); exact uR (Kd.R_mono HO_8.out (fun _ hk => ⟨hk.1, hk.2.1⟩))⟩, ⟨by (try simp only [hl7_1]); (try simp only [hl10_1]); exact uR (Kd.R_mono HO_10.out (fun _ hk => ⟨hk.1, hk.2.1⟩))⟩, ⟨by repeat (first | (with_reducible exact HR517.out) | (with_reducible refine Kd.C_alloc ?_ _) | (with_reducible refine Kd.C_drewN ?_ _) | (with_reducible refine Kd.C_drew ?_) | exact HR517.out)⟩, ⟨uB⟩⟩ | (simp only [← hji35] at H'; exact ⟨(IntKind.u64.wrap (x12_2 - 1)), uG, H', ⟨by have := HK1.out; have := HK2.out; omega⟩, ⟨by (try simp only [hl7_1]); (try simp only [hl10_1]); exact uR (Kd.R_mono HO_7.out (fun _ hk => ⟨hk.1, hk.2.1⟩))⟩, ⟨by (try simp only [hl7_1]); (try simp only [hl10_1]); exact uR (Kd.R_mono HO_8.out (fun _ hk => ⟨hk.1, hk.2.1⟩))⟩, ⟨by (try simp only [hl7_1]); (try simp only [hl10_1]); exact uR (Kd.R_mono HO_10.out (fun _ hk => ⟨hk.1, hk.2.1⟩))⟩, ⟨by repeat (first | (with_reducible exact HR517.out) | (with_reducible refine Kd.C_alloc ?_ _) | (with_reducible refine Kd.C_drewN ?_ _) | (with_reducible refine Kd.C_drew ?_) | exact HR517.out)⟩, ⟨uB⟩⟩) | (simp only [← hji32] at H'; exact ⟨(IntKind.u64.wrap (x12_2 - 1)), uG, H', ⟨by have := HK1.out; have := HK2.out; omega⟩, ⟨by (try simp only [hl7_1]); (try simp only [hl10_1]); exact uR (Kd.R_mono HO_7.out (fun _ hk => ⟨hk.1, hk.2.1⟩))⟩, ⟨by (try simp only [hl7_1]); (try simp only [hl10_1]); exact uR (Kd.R_mono HO_8.out (fun _ hk => ⟨hk.1, hk.2.1⟩))⟩, ⟨by (try simp only [hl7_1]); (try simp only [hl10_1]); exact uR (Kd.R_mono HO_10.out (fun _ hk => ⟨hk.1, hk.2.1⟩))⟩, ⟨by repeat (first | (with_reducible exact HR517.out) | (with_reducible refine Kd.C_alloc ?_ _) | (with_reducible refine Kd.C_drewN ?_ _) | (with_reducible refine Kd.C_drew ?_) | exact HR517.out)⟩, ⟨uB⟩⟩) | (simp only [← hji29] at H'; exact ⟨(IntKind.u64.wrap (x12_2 - 1)), uG, H', ⟨by have := HK1.out; have := HK2.out; omega⟩, ⟨by (try simp only [hl7_1]); (try simp only [hl10_1]); exact uR (Kd.R_mono HO_7.out (fun _ hk => ⟨hk.1, hk.2.1⟩))⟩, ⟨by (try simp only [hl7_1]); (try simp only [hl10_1]); exact uR (Kd.R_mono HO_8.out (fun _ hk => ⟨hk.1, hk.2.1⟩))⟩, ⟨by (try simp only [hl7_1]); (try simp only [hl10_1]); exact uR (Kd.R_mono HO_10.out (fun _ hk => ⟨hk.1, hk.2.1⟩))⟩, ⟨by repeat (first | (with_reducible exact HR517.out) | (with_reducible refine Kd.C_alloc ?_ _) | (with_reducible refine Kd.C_drewN ?_ _) | (with_reducible refine Kd.C_drew ?_) | exact HR517.out)⟩, ⟨uB⟩⟩) | (simp only [← hji26] at H'; exact ⟨(IntKind.u64.wrap (x12_2 - 1)), uG, H', ⟨by have := HK1.out; have := HK2.out; omega⟩, ⟨by (try simp only [hl7_1]); (try simp only [hl10_1]); exact uR (Kd.R_mono HO_7.out (fun _ hk => ⟨hk.1, hk.2.1⟩))⟩, ⟨by (try simp only [hl7_1]); (try simp only [hl10_1]); exact uR (Kd.R_mono HO_8.out (fun _ hk => ⟨hk.1, hk.2.1⟩))⟩, ⟨by (try simp only [hl7_1]); (try simp only [hl10_1]); exact uR (Kd.R_mono HO_10.out (fun _ hk => ⟨hk.1, hk.2.1⟩))⟩, ⟨by repeat (first | (with_reducible exact HR517.out) | (with_reducible refine Kd.C_alloc ?_ _) | (with_reducible refine Kd.C_drewN ?_ _) | (with_reducible refine Kd.C_drew ?_) | exact HR517.out)⟩, ⟨uB⟩⟩) | (simp only [← hji23] at H'; exact ⟨(IntKind.u64.wrap (x12_2 - 1)), uG, H', ⟨by have := HK1.out; have := HK2.out; omega⟩, ⟨by (try simp only [hl7_1]); (try simp only [hl10_1]); exact uR (Kd.R_mono HO_7.out (fun _ hk => ⟨hk.1, hk.2.1⟩))⟩, ⟨by (try simp only [hl7_1]); (try simp only [hl10_1]); exact uR (Kd.R_mono HO_8.out (fun _ hk => ⟨hk.1, hk.2.1⟩))⟩, ⟨by (try simp only [hl7_1]); (try simp only [hl10_1]); exact uR (Kd.R_mono HO_10.out (fun _ hk => ⟨hk.1, hk.2.1⟩))⟩, ⟨by repeat (first | (with_reducible exact HR517.out) | (with_reducible refine Kd.C_alloc ?_ _) | (with_reducible refine Kd.C_drewN ?_ _) | (with_reducible refine Kd.C_drew ?_) | exact HR517.out)⟩, ⟨uB⟩⟩) | (simp only [← hji10] at H'; exact ⟨(IntKind.u64.wrap (x12_2 - 1)), uG, H', ⟨by have := HK1.out; have := HK2.out; omega⟩, ⟨by (try simp only [hl7_1]); (try simp only [hl10_1]); exact uR (Kd.R_mono HO_7.out (fun _ hk => ⟨hk.1, hk.2.1⟩))⟩, ⟨by (try simp only [hl7_1]); (try simp only [hl10_1]); exact uR (Kd.R_mono HO_8.out (fun _ hk => ⟨hk.1, hk.2.1⟩))⟩, ⟨by (try simp only [hl7_1]); (try simp only [hl10_1]); exact uR (Kd.R_mono HO_10.out (fun _ hk => ⟨hk.1, hk.2.1⟩))⟩, ⟨by repeat (first | (with_reducible exact HR517.out) | (with_reducible refine Kd.C_alloc ?_ _) | (with_reducible refine Kd.C_drewN ?_ _) | (with_reducible refine Kd.C_drew ?_) | exact HR517.out)⟩, ⟨uB⟩⟩)
   rw [if_neg c22] at H
   have c22b0 := decide_eq_false c22
   clear c22
   replace H := ub H; obtain ⟨t536, A77, H⟩ := H
   replace H := uT H; obtain ⟨c78, H⟩ := H
   have c78b0 := eq_true c78
   have c78b1 := decide_eq_true c78
   clear c78
   replace H := uT H; obtain ⟨c79, H⟩ := H
   have c79b0 := eq_true c79
   have c79b1 := decide_eq_true c79
   clear c79
   obtain ⟨y539, hy539⟩ : ∃ y_ : List Int, y_ = (List.replicate ((t536.length : Int) : Int).toNat 0) := ⟨_, rfl⟩
   replace H : (nat_long.l2 k1 (IntKind.u64.wrap (t495)) x10_1 t536 y539 (t536.length : Int) 0) = some (r1, r2) := by first | (rw [hy539]; with_reducible exact H) | (have H2_ := (Option.bind_some _ _).symm.trans H; rw [hy539]; with_reducible exact H2_) | (have H2_ := (Option.bind_some _ _).symm.trans H; with_reducible exact H2_) | with_reducible exact H | (rw [hy539]; exact H) | exact H
   have Ny539 := Aside0.mk hy539; clear hy539
   have H' := Aside0.mk H
   clear H
   go_wp2_with (first | ((with_reducible refine ug 72 rfl ?_); refine uh (some 107) rfl Try.func72 #[.slice Ao18 x7_1.length co18] ?_; (with_reducible refine (nat_trim.calls k1 (fun k_ => some k_ = (.slice Ao18 x7_1.length co18 : Value).ownBlock) (.slice Ao18 x7_1.length co18) x7_1 t536 w _ ?side1 ?side2 A77.out).mono ?_); (case side1 => repeat (first | (with_reducible first | exact HB.out | apply below_alloc | apply pw_below_drewN | apply below_drew1) | exact HB.out)); (case side2 => exact Kd.R_tight rfl HO_7.out); rintro e w80 ⟨v537, rfl, ho0, hb, hkp⟩; refine ⟨_, rfl, ?_⟩; have HO538 := Aside0.mk (Kd.R_mono (ok' := fun k_ => some k_ ≠ (.slice Ao17 t502.length co17 : Value).ownBlock ∧ some k_ ≠ (.slice Ao21 x10_1.length co21 : Value).ownBlock) ho0 (fun k_ hk_ => ⟨Or.elim hk_ (fun hs_ => fun e_ => (((HO_8.out).1 k_ e_.symm).1) hs_) (fun hn_ => (Kd.fresh' (Kd.R_lt (uR HO_8.out)) k_ hn_)), Or.elim hk_ (fun hs_ => fun e_ => (((HO_10.out).1 k_ e_.symm).1) hs_) (fun hn_ => (Kd.fresh' (Kd.R_lt (uR HO_10.out)) k_ hn_))⟩)); replace HO_8 := Aside0.mk (Kd.R_mono (ok' := fun k_ => some k_ ≠ (.slice Ao21 x10_1.length co21 : Value).ownBlock ∧ some k_ ≠ (v537 : Value).ownBlock) (Kd.R_keptB (HO_8.out) hkp (fun k_ hk_ hs_ => (hk_.1) hs_)) (fun k_ hk_ => ⟨hk_.1.2, fun e_ => Or.elim (ho0.1 k_ e_.symm) (fun hs_ => hk_.2.1 hs_) (fun hn_ => Nat.not_le.2 hk_.2.2 hn_)⟩)); replace HO_10 := Aside0.mk (Kd.R_mono (ok' := fun k_ => some k_ ≠ (.slice Ao17 t502.length co17 : Value).ownBlock ∧ some k_ ≠ (v537 : Value).ownBlock) (Kd.R_keptB (HO_10.out) hkp (fun k_ hk_ hs_ => (hk_.1) hs_)) (fun k_ hk_ => ⟨hk_.1.2, fun e_ => Or.elim (ho0.1 k_ e_.symm) (fun hs_ => hk_.2.1 hs_) (fun hn_ => Nat.not_le.2 hk_.2.2 hn_)⟩)); replace HB := Aside0.mk (hb); clear HO_7; (try clear hb); (try clear hkp); (try clear ho0); obtain ⟨Ao81, co81, eo81⟩ := Kd.R_slice HO538.out; subst eo81) | ((with_reducible refine gate_dst (N := 110) rfl ?_); (try (refine gate_guard (by rfl) ?_; dsimp only)); refine Kd.R_make (Kd.int .u64) _ 62 rfl (N := 110) rfl 57 _ _ rfl (t536.length : Int) rfl rfl Try.underlying57 (.int .u64 0) 8 info62 rfl (by decide) (by omega) 0 (ok := fun _ => True) (okp := fun _ => True) rfl (fun _ hk => hk) trivial uO (Nat.le_trans (Nat.mul_le_mul_right _ (uO : (t536.length : Int).toNat ≤ 35184372088832)) (by omega)) (Below.refl _ _) (Nat.le_refl _) ?_; intro v540 w82 ho83 hb hg_ hnew_; clear hg_ hnew_; (first | rw [← Ny539.out] at ho83 | (simp only [Int.reduceToNat] at ho83; rw [← Ny539.out] at ho83)); have HO541 := ulo (unw (unw (unw ho83 HO_8) HO_10) HO538); replace HO_8 := ueR HO_8 ho83 hb; replace HO_10 := ueR HO_10 ho83 hb; replace HO538 := ueR HO538 ho83 hb; replace HB := uy hb; clear hb ho83))
   go_loopg [113] k1 (fun kq v113 w' => ∃ (x16_2 : List Int) (x113_2 : Int), v113 = .int .i64 x113_2 ∧ Aside0 (nat_long.l2 kq (IntKind.u64.wrap (t495)) x10_1 t536 x16_2 (t536.length : Int) x113_2 = some (r1, r2)) ∧ Aside0 (kq ≤ k1) ∧ Aside0 (Kd.R (Kd.int .u64) 62 w' w.heap.size (fun k_ => some k_ ≠ ((.slice Ao81 t536.length co81) : Value).ownBlock ∧ some k_ ≠ (v540 : Value).ownBlock) (.slice Ao21 x10_1.length co21) x10_1) ∧ Aside0 (Kd.R (Kd.int .u64) 62 w' w.heap.size (fun k_ => some k_ ≠ ((.slice Ao21 x10_1.length co21) : Value).ownBlock ∧ some k_ ≠ (v540 : Value).ownBlock) (.slice Ao81 t536.length co81) t536) ∧ Aside0 (Kd.R (Kd.int .u64) 62 w' w.heap.size (fun k_ => some k_ ≠ ((.slice Ao21 x10_1.length co21) : Value).ownBlock ∧ some k_ ≠ ((.slice Ao81 t536.length co81) : Value).ownBlock) v540 x16_2) ∧ Aside0 (Below w.heap.size w w'))
   case atStart => exact ⟨(y539), (0), uG, H', ⟨Nat.le_refl _⟩, ⟨by (try simp only [hl7_1]); (try simp only [hl10_1]); exact uR (Kd.R_mono HO_10.out (fun _ hk => ⟨hk.1.2, hk.2⟩))⟩, ⟨by (try simp only [hl7_1]); (try simp only [hl10_1]); exact uR (Kd.R_mono HO538.out (fun _ hk => ⟨hk.1.2, hk.2⟩))⟩, ⟨by (try simp only [hl7_1]); (try simp only [hl10_1]); exact uR (Kd.R_mono HO541.out (fun _ hk => ⟨hk.1.2, hk.2⟩))⟩, ⟨uB⟩⟩
   case round =>
    clear H'
    ; (try clear q4 q4); (try clear hx4); (try clear q5 q5); (try clear hx5); (try clear hf5); (try clear q43 q43); (try clear q49); (try clear hx49); (try clear q50); (try clear hx50); (try clear q51); (try clear hx51); (try clear q54 q54); (try clear hx54 hx54_0); (try clear hf54); (try clear hx494_0); (try clear hx508_0); (try clear hx509_0); (try clear hx510_0); (try clear hx511_0); (try clear hx512_0); (try clear q043); (try clear q494); (try clear q508); (try clear q509); (try clear q510); (try clear q511); (try clear q512)
    obtain ⟨x16_2, x113_2, rfl, HA, HK2, HO_10, HO_15, HO_16, HB⟩ := hrel
    cases gk with
    | zero => exact absurd HA.out (by simp [nat_long.l2])
    | succ k2 =>
     have H := HA.out
     clear HA
     simp only [nat_long.l2] at H
     by_cases c84 : x113_2 < (t536.length : Int)
     ·
      rw [if_pos c84] at H
      have c84b0 := decide_eq_true c84
      (try (have c84b0h0 := c84b0; simp only [hl7_1] at c84b0h0))
      (try (have c84b0h1 := c84b0; simp only [hl10_1] at c84b0h1))
      clear c84
      replace H := uT H; obtain ⟨c85, H⟩ := H
      have c85b0 := decide_eq_true c85
      clear c85
      replace H := uT H; obtain ⟨c86, H⟩ := H
      have c86b0 := decide_eq_true c86
      (try (have c86b0h0 := c86b0; simp only [hl7_1] at c86b0h0))
      (try (have c86b0h1 := c86b0; simp only [hl10_1] at c86b0h1))
      clear c86
      obtain ⟨ji87, hji87⟩ : ∃ j_ : Int, (IntKind.u64.wrap (t495)) = j_ := ⟨_, rfl⟩
      first | rw [hji87] at H | simp only [hji87] at H
      replace H := uT H; obtain ⟨c88, H⟩ := H
      have c88b0 := eq_true c88
      have c88b1 := decide_eq_true c88
      clear c88
      obtain ⟨ji89, hji89⟩ : ∃ j_ : Int, (shr .u64 (rd t536 x113_2) (ji87)) = j_ := ⟨_, rfl⟩
      first | rw [hji89] at H | simp only [hji89] at H
      have hji89_ : ((rd t536 x113_2) / 2 ^ min (ji87).toNat 64) = ji89 := hji89
      have hji89z : (ji87) ≤ 64 → ((rd t536 x113_2) / 2 ^ (ji87).toNat) = ji89 := shr_small hji89
      replace H := uT H; obtain ⟨c90, H⟩ := H
      have c90b0 := decide_eq_true c90
      (try (have c90b0h0 := c90b0; simp only [hl7_1] at c90b0h0))
      (try (have c90b0h1 := c90b0; simp only [hl10_1] at c90b0h1))
      clear c90
      replace H := ubs H; obtain ⟨y543, hy543, H⟩ := H
      have Ny543 := Aside0.mk hy543; clear hy543
      by_cases c92 : (ji87) > 0
      ·
       rw [if_pos c92] at H
       have c92b0 := decide_eq_true c92
       clear c92
       by_cases c93 : (wrap64 (x113_2 + 1)) < (t536.length : Int)
       ·
        rw [if_pos c93] at H
        have c93b0 := decide_eq_true c93
        (try (have c93b0h0 := c93b0; simp only [hl7_1] at c93b0h0))
        (try (have c93b0h1 := c93b0; simp only [hl10_1] at c93b0h1))
        clear c93
        obtain ⟨ji94, hji94⟩ : ∃ j_ : Int, (wrap64 (x113_2 + 1)) = j_ := ⟨_, rfl⟩
        first | rw [hji94] at H | simp only [hji94] at H
        (try rw [hji94] at c93b0)
        have hji94w : (IntKind.i64.wrap (x113_2 + 1)) = ji94 := (i64_w _).trans hji94
        replace H := uT H; obtain ⟨c95, H⟩ := H
        have c95b0 := decide_eq_true c95
        clear c95
        obtain ⟨ji96, hji96⟩ : ∃ j_ : Int, (IntKind.u64.wrap (64 - (ji87))) = j_ := ⟨_, rfl⟩
        first | rw [hji96] at H | simp only [hji96] at H
        replace H := uT H; obtain ⟨c97, H⟩ := H
        have c97b0 := eq_true c97
        have c97b1 := decide_eq_true c97
        clear c97
        obtain ⟨ji98, hji98⟩ : ∃ j_ : Int, (shl .u64 (rd t536 (ji94)) (ji96)) = j_ := ⟨_, rfl⟩
        first | rw [hji98] at H | simp only [hji98] at H
        have hji98_ : (IntKind.u64.wrap ((rd t536 (ji94)) * 2 ^ min (ji96).toNat 64)) = ji98 := hji98
        have hji98z : (ji96) ≤ 64 → (IntKind.u64.wrap ((rd t536 (ji94)) * 2 ^ (ji96).toNat)) = ji98 := shl_small hji98
        obtain ⟨y546, hy546⟩ : ∃ y_ : List Int, y_ = (y543.set (x113_2 : Int).toNat (Go.bits .or .u64 (rd y543 x113_2) (ji98))) := ⟨_, rfl⟩
        replace H : (nat_long.l2 k2 (ji87) x10_1 t536 y546 (t536.length : Int) ji94) = some (r1, r2) := by first | (rw [hy546]; with_reducible exact H) | (have H2_ := (Option.bind_some _ _).symm.trans H; rw [hy546]; with_reducible exact H2_) | (have H2_ := (Option.bind_some _ _).symm.trans H; with_reducible exact H2_) | with_reducible exact H | (rw [hy546]; exact H) | exact H
        have Ny546 := Aside0.mk hy546; clear hy546
        have H' := Aside0.mk H
        clear H
        have p542 := eq_true (uO : 0 ≤ (x113_2 : Int))
        have q542 := eq_true (uO : x113_2 < (t536.length : Int))
        obtain ⟨ad542, e542, hx542_0⟩ := Kd.at_int (Kd.R_reads' HO_15.out).2.2 x113_2 uO uO
        cases e542
        have p91 : 0 ≤ (x113_2 : Int) := uO
        have q91 : (x113_2 : Int) < ((x16_2.length : Int) : Int) := uO
        obtain ⟨go91, co91, eo91, gb91, gl91, cl91, HG91⟩ := Kd.R_form HO_16.out (by omega)
        (first | cases eo91 | (injection eo91 with ea_ en_ ec_; (first | subst ea_ | (injection ea_ with ea_; subst ea_)); subst ec_; clear en_))
        have GB91 := Aside0.mk gb91; have GG91 := Aside0.mk HG91; clear gb91 gl91 HG91
        obtain ⟨hx91_0, hf91_0⟩ := Kd.R_celln 0 HO_16.out (x113_2 : Int) p91 q91
        replace p91 := eq_true p91
        replace q91 := eq_true q91
        have HP100 := Kd.R_putg HO_16.out (x113_2 : Int) ji89
        try go_wp2_with (first | ((with_reducible refine gate_store (t := 62) (p := 124) rfl ?_); refine store_event (t := 62) (p := 124) (v := ?vo_w101) (w1 := (wr.setCell ⟨go91, (x113_2 : Int).toNat, none⟩ (.int .u64 ji89))) ?hg ?ho ?hn ?hr ?_; (case ho => rfl); (case hg => rfl); (case hn => rfl); (case hr => first | (go_simp; done) | (go_simp; rfl) | (obtain ⟨hy_, hz_⟩ := Kd.R_celln 0 HO_16.out (x113_2 : Int) uO uO; (try simp only [Go.IntWalk.toNatUp] at hy_ hz_); (try simp only [Int.reduceToNat, Int.toNat_zero, Int.toNat_ofNat] at hy_ hz_); first | (go_simp; done) | (go_simp; rfl))); intro w101 hw; have hg : wr.grownBy w101 (some go91) := (by rw [hw]; exact HP100.2); have hp_ : Kd.R (Kd.int .u64) 62 w101 w.heap.size (fun k_ => some k_ ≠ (.slice Ao21 x10_1.length co21 : Value).ownBlock ∧ some k_ ≠ (.slice (some ad542) t536.length co81 : Value).ownBlock) (.slice (some ⟨go91, 0, none⟩) x16_2.length co91) y543 := (by rw [hw, Ny543.out]; exact HP100.1); clear HP100; replace HO_10 := Aside0.mk (Kd.R_after (v := (.slice (some ⟨go91, 0, none⟩) x16_2.length co91)) (v1 := (.slice (some ⟨go91, 0, none⟩) x16_2.length co91)) (ok := (fun k_ => some k_ ≠ (.slice (some ad542) t536.length co81 : Value).ownBlock)) (uR HO_10.out) hg (.inl rfl)); replace HO_15 := Aside0.mk (Kd.R_after (v := (.slice (some ⟨go91, 0, none⟩) x16_2.length co91)) (v1 := (.slice (some ⟨go91, 0, none⟩) x16_2.length co91)) (ok := (fun k_ => some k_ ≠ (.slice Ao21 x10_1.length co21 : Value).ownBlock)) (uR HO_15.out) hg (.inl rfl)); replace HO_16 := Aside0.mk (hp_); replace HB := Aside0.mk ((by rw [hw]; exact below_set (HB.out) GB91.out : Below w.heap.size w w101)); clear hg hw hp_))
        replace HO_10 := Aside0.mk (Kd.R_drew HO_10.out); replace HO_15 := Aside0.mk (Kd.R_drew HO_15.out); replace HO_16 := Aside0.mk (Kd.R_drew HO_16.out); replace HB := Aside0.mk (below_drew1 HB.out)
        have p544 : 0 ≤ (x113_2 : Int) := uO
        have q544 : x113_2 < (y543.length : Int) := (by have h_ : (x113_2 : Int) < ((x16_2.length : Int) : Int) := uO; first | (have e_ := (Kd.R_reads' HO_16.out).1; omega) | simpa only [Ny543.out, List.length_set] using h_)
        have ql544 : ((x113_2 : Int) < ((x16_2.length : Int) : Int)) = True := eq_true uO
        obtain ⟨ad544, e544, hx544_0⟩ := Kd.at_int (Kd.R_reads' HO_16.out).2.2 x113_2 p544 q544
        obtain rfl : (⟨go91, 0, none⟩ : Addr) = ad544 := (by injection e544)
        (first | simp only [add_plain] at hx544_0 | simp only [add_at] at hx544_0 | simp only [Addr.add, Nat.zero_add] at hx544_0 | skip)
        replace p544 := eq_true p544
        replace q544 := eq_true q544
        have p545 : 0 ≤ ((ji94) : Int) := uO
        have q545 : (ji94) < (t536.length : Int) := uO
        obtain ⟨ad545, e545, hx545_0⟩ := Kd.at_int (Kd.R_reads' HO_15.out).2.2 (ji94) p545 q545
        obtain rfl : ad542 = ad545 := (by injection e545)
        replace p545 := eq_true p545
        replace q545 := eq_true q545
        have p99 : 0 ≤ (x113_2 : Int) := uO
        have q99 : (x113_2 : Int) < ((x16_2.length : Int) : Int) := uO
        obtain ⟨hx99_0, hf99_0⟩ := Kd.R_celln 0 HO_16.out (x113_2 : Int) p99 q99
        replace p99 := eq_true p99
        replace q99 := eq_true q99
        have HP103 := Kd.R_putn HO_16.out (x113_2 : Int) (Go.bits .or .u64 (rd y543 x113_2) (ji98))
        rw [← Ny546.out] at HP103
        have HQ103 := Aside0.mk HP103; clear HP103
        refine start_ (n := 15) (S := fun w' => w'.cell? ⟨go91, (x113_2).toNat, none⟩ = some (.int .u64 (rd y543 x113_2)) ∧ w'.cell? (ad542.add ((ji94)).toNat) = some (.int .u64 (rd t536 (ji94)))) (ds := [14]) (.replicate 15 false) (by kernel_rfl) rfl rfl ⟨hx544_0, hx545_0⟩ (fun hHeld => ?_); refine with_tabW nat_long.tab22 nat_long.bits22 (fun HT_ HW_ => ?_)
        generalize w101.drew = w102 at HO_10 HO_15 HO_16 HB HQ103 hf99_0 hx544_0 hx545_0 hx99_0 hHeld ⊢
        refine upu 0 (some 134) (uA 15 1) rfl rfl HT_ ?_
        refine upu 1 (some 135) (uA 15 3) rfl rfl HT_ ?_
        refine upu 2 (some 136) (uA 15 7) rfl rfl HT_ ?_
        refine upu 4 (some 138) (uA 15 23) rfl rfl HT_ ?_
        refine upu 5 (some 139) (uA 15 55) rfl rfl HT_ ?_
        refine upu 6 (some 140) (uA 15 119) rfl rfl HT_ ?_
        refine upu 7 (some 141) (uA 15 247) rfl rfl HT_ ?_
        refine upu 9 (some 143) (uA 15 759) rfl rfl HT_ ?_
        refine upu 10 (some 144) (uA 15 1783) rfl rfl HT_ ?_
        refine take_ (i := 3) (N := some 137) (v := ?_) (a' := ?_) (uA 15 1791) rfl rfl (take_ofW HT_.out HW_.out (by kernel_rfl)) (fun _ _ _ h => h) (Or.inl ⟨by rfl, ?_⟩) hHeld ?_ ?_
        rotate_left
        ·
         rintro w' ⟨s0, s1⟩
         go_simp
         with_reducible rfl
        rotate_left
        · exact uQ
        refine take_ (i := 8) (N := some 142) (v := ?_) (a' := ?_) (uA 15 2047) rfl rfl (take_ofW HT_.out HW_.out (by kernel_rfl)) (fun _ _ _ h => h) (Or.inl ⟨by rfl, ?_⟩) hHeld ?_ ?_
        rotate_left
        ·
         rintro w' ⟨s0, s1⟩
         go_simp
         with_reducible rfl
        rotate_left
        · exact uQ
        refine upu 11 (some 145) (uA 15 4095) rfl rfl HT_ ?_
        refine upu 12 (some 146) (uA 15 8191) rfl rfl HT_ ?_
        refine upu 13 (some 147) (uA 15 16383) rfl rfl HT_ ?_
        refine last_ (i := 14) (N := none) (uA 15 32767) rfl rfl (one_of HT_.out (by kernel_rfl)) (by decide) (fun K hK => ?_)
        refine skip_ (w1 := ?_) (by rfl) rfl ?_ ?_
        rotate_left
        ·
         go_simp
         rfl
        refine hK.out _ _ ?_; clear hK K
        refine done_ (done_of HT_.out (by kernel_rfl)) ?_
        try go_wp2
        first | go_roundg k2 | ((try simp only [← hji98] at H'); simp only [← hji98]; go_roundg k2) | ((try simp only [← hji96] at H'); simp only [← hji96]; go_roundg k2) | ((try simp only [← hji94] at H'); simp only [← hji94]; go_roundg k2) | ((try simp only [← hji89] at H'); simp only [← hji89]; go_roundg k2) | ((try simp only [← hji87] at H'); simp only [← hji87]; go_roundg k2) | ((try simp only [← hji35] at H'); simp only [← hji35]; go_roundg k2)
        case measure => have := HK1.out; have := HK2.out; omega
        case rel => first | exact ⟨(y546), (ji94), (by first | rfl | (simp; done) | (simp only [← hji94] <;> (first | rfl | simp)) | (simp [*]; done)), H', ⟨by have := HK1.out; have := HK2.out; omega⟩, ⟨by (try simp only [hl7_1]); (try simp only [hl10_1]); exact uR (Kd.R_mono (Kd.R_far (p := ⟨go91, (x113_2 : Int).toNat, none⟩) (Kd.R_mono HO_10.out (fun k_ hk => (⟨hk, fun e_ => hk.2 (by rw [e_]; rfl)⟩ : _ ∧ k_ ≠ go91))) (fun _ hk => hk.2) (.int .u64 (Go.bits .or .u64 (rd y543 x113_2) (ji98)))) (fun _ hk => ⟨hk.1.1, hk.1.2⟩))⟩, ⟨by (try simp only [hl7_1]); (try simp only [hl10_1]); exact uR (Kd.R_mono (Kd.R_far (p := ⟨go91, (x113_2 : Int).toNat, none⟩) (Kd.R_mono HO_15.out (fun k_ hk => (⟨hk, fun e_ => hk.2 (by rw [e_]; rfl)⟩ : _ ∧ k_ ≠ go91))) (fun _ hk => hk.2) (.int .u64 (Go.bits .or .u64 (rd y543 x113_2) (ji98)))) (fun _ hk => ⟨hk.1.1, hk.1.2⟩))⟩, ⟨by (try simp only [hl7_1]); (try simp only [hl10_1]); exact uR HQ103.out⟩, ⟨uB⟩⟩ | (simp only [← hji98] at H'; exact ⟨(y546), (ji94), (by first | rfl | (simp; done) | (simp only [← hji94] <;> (first | rfl | simp)) | (simp [*]; done)), H', ⟨by have := HK1.out; have := HK2.out; omega⟩, ⟨by (try simp only [hl7_1]); (try simp only [hl10_1]); exact uR (Kd.R_mono (Kd.R_far (p := ⟨go91, (x113_2 : Int).toNat, none⟩) (Kd.R_mono HO_10.out (fun k_ hk => (⟨hk, fun e_ => hk.2 (by rw [e_]; rfl)⟩ : _ ∧ k_ ≠ go91))) (fun _ hk => hk.2) (.int .u64 (Go.bits .or .u64 (rd y543 x113_2) (ji98)))) (fun _ hk => ⟨hk.1.1, hk.1.2⟩))⟩, ⟨by (try simp only [hl7_1]); (try simp only [hl10_1]); exact uR (Kd.R_mono (Kd.R_far (p := ⟨go91, (x113_2 : Int).toNat, none⟩) (Kd.R_mono HO_15.out (fun k_ hk => (⟨hk, fun e_ => hk.2 (by rw [e_]; rfl)⟩ : _ ∧ k_ ≠ go91))) (fun _ hk => hk.2) (.int .u64 (Go.bits .or .u64 (rd y543 x113_2) (ji98)))) (fun _ hk => ⟨hk.1.1, hk.1.2⟩))⟩, ⟨by (try simp only [hl7_1]); (try simp only [hl10_1]); exact uR HQ103.out⟩, ⟨uB⟩⟩) | (simp only [← hji96] at H'; exact ⟨(y546), (ji94), (by first | rfl | (simp; done) | (simp only [← hji94] <;> (first | rfl | simp)) | (simp [*]; done)), H', ⟨by have := HK1.out; have := HK2.out; omega⟩, ⟨by (try simp only [hl7_1]); (try simp only [hl10_1]); exact uR (Kd.R_mono (Kd.R_far (p := ⟨go91, (x113_2 : Int).toNat, none⟩) (Kd.R_mono HO_10.out (fun k_ hk => (⟨hk, fun e_ => hk.2 (by rw [e_]; rfl)⟩ : _ ∧ k_ ≠ go91))) (fun _ hk => hk.2) (.int .u64 (Go.bits .or .u64 (rd y543 x113_2) (ji98)))) (fun _ hk => ⟨hk.1.1, hk.1.2⟩))⟩, ⟨by (try simp only [hl7_1]); (try simp only [hl10_1]); exact uR (Kd.R_mono (Kd.R_far (p := ⟨go91, (x113_2 : Int).toNat, none⟩) (Kd.R_mono HO_15.out (fun k_ hk => (⟨hk, fun e_ => hk.2 (by rw [e_]; rfl)⟩ : _ ∧ k_ ≠ go91))) (fun _ hk => hk.2) (.int .u64 (Go.bits .or .u64 (rd y543 x113_2) (ji98)))) (fun _ hk => ⟨hk.1.1, hk.1.2⟩))⟩, ⟨by (try simp only [hl7_1]); (try simp only [hl10_1]); exact uR HQ103.out⟩, ⟨uB⟩⟩) | (simp only [← hji94] at H'; exact ⟨(y546), (ji94), (by first | rfl | (simp; done) | (simp only [← hji94] <;> (first | rfl | simp)) | (simp [*]; done)), H', ⟨by have := HK1.out; have := HK2.out; omega⟩, ⟨by (try simp only [hl7_1]); (try simp only [hl10_1]); exact uR (Kd.R_mono (Kd.R_far (p := ⟨go91, (x113_2 : Int).toNat, none⟩) (Kd.R_mono HO_10.out (fun k_ hk => (⟨hk, fun e_ => hk.2 (by rw [e_]; rfl)⟩ : _ ∧ k_ ≠ go91))) (fun _ hk => hk.2) (.int .u64 (Go.bits .or .u64 (rd y543 x113_2) (ji98)))) (fun _ hk => ⟨hk.1.1, hk.1.2⟩))⟩, ⟨by (try simp only [hl7_1]); (try simp only [hl10_1]); exact uR (Kd.R_mono (Kd.R_far (p := ⟨go91, (x113_2 : Int).toNat, none⟩) (Kd.R_mono HO_15.out (fun k_ hk => (⟨hk, fun e_ => hk.2 (by rw [e_]; rfl)⟩ : _ ∧ k_ ≠ go91))) (fun _ hk => hk.2) (.int .u64 (Go.bits .or .u64 (rd y543 x113_2) (ji98)))) (fun _ hk => ⟨hk.1.1, hk.1.2⟩))⟩, ⟨by (try simp only [hl7_1]); (try simp only [hl10_1]); exact uR HQ103.out⟩, ⟨uB⟩⟩) | (simp only [← hji89] at H'; exact ⟨(y546), (ji94), (by first | rfl | (simp; done) | (simp only [← hji94] <;> (first | rfl | simp)) | (simp [*]; done)), H', ⟨by have := HK1.out; have := HK2.out; omega⟩, ⟨by (try simp only [hl7_1]); (try simp only [hl10_1]); exact uR (Kd.R_mono (Kd.R_far (p := ⟨go91, (x113_2 : Int).toNat, none⟩) (Kd.R_mono HO_10.out (fun k_ hk => (⟨hk, fun e_ => hk.2 (by rw [e_]; rfl)⟩ : _ ∧ k_ ≠ go91))) (fun _ hk => hk.2) (.int .u64 (Go.bits .or .u64 (rd y543 x113_2) (ji98)))) (fun _ hk => ⟨hk.1.1, hk.1.2⟩))⟩, ⟨by (try simp only [hl7_1]); (try simp only [hl10_1]); exact uR (Kd.R_mono (Kd.R_far (p := ⟨go91, (x113_2 : Int).toNat, none⟩) (Kd.R_mono HO_15.out (fun k_ hk => (⟨hk, fun e_ => hk.2 (by rw [e_]; rfl)⟩ : _ ∧ k_ ≠ go91))) (fun _ hk => hk.2) (.int .u64 (Go.bits .or .u64 (rd y543 x113_2) (ji98)))) (fun _ hk => ⟨hk.1.1, hk.1.2⟩))⟩, ⟨by (try simp only [hl7_1]); (try simp only [hl10_1]); exact uR HQ103.out⟩, ⟨uB⟩⟩) | (simp only [← hji87] at H'; exact ⟨(y546), (ji94), (by first | rfl | (simp; done) | (simp only [← hji94] <;> (first | rfl | simp)) | (simp [*]; done)), H', ⟨by have := HK1.out; have := HK2.out; omega⟩, ⟨by (try simp only [hl7_1]); (try simp only [hl10_1]); exact uR (Kd.R_mono (Kd.R_far (p := ⟨go91, (x113_2 : Int).toNat, none⟩) (Kd.R_mono HO_10.out (fun k_ hk => (⟨hk, fun e_ => hk.2 (by rw [e_]; rfl)⟩ : _ ∧ k_ ≠ go91))) (fun _ hk => hk.2) (.int .u64 (Go.bits .or .u64 (rd y543 x113_2) (ji98)))) (fun _ hk => ⟨hk.1.1, hk.1.2⟩))⟩, ⟨by (try simp only [hl7_1]); (try simp only [hl10_1]); exact uR (Kd.R_mono (Kd.R_far (p := ⟨go91, (x113_2 : Int).toNat, none⟩) (Kd.R_mono HO_15.out (fun k_ hk => (⟨hk, fun e_ => hk.2 (by rw [e_]; rfl)⟩ : _ ∧ k_ ≠ go91))) (fun _ hk => hk.2) (.int .u64 (Go.bits .or .u64 (rd y543 x113_2) (ji98)))) (fun _ hk => ⟨hk.1.1, hk.1.2⟩))⟩, ⟨by (try simp only [hl7_1]); (try simp only [hl10_1]); exact uR HQ103.out⟩, ⟨uB⟩⟩) | (simp only [← hji35] at H'; exact ⟨(y546), (ji94), (by first | rfl | (simp; done) | (simp only [← hji94] <;> (first | rfl | simp)) | (simp [*]; done)), H', ⟨by have := HK1.out; have := HK2.out; omega⟩, ⟨by (try simp only [hl7_1]); (try simp only [hl10_1]); exact uR (Kd.R_mono (Kd.R_far (p := ⟨go91, (x113_2 : Int).toNat, none⟩) (Kd.R_mono HO_10.out (fun k_ hk => (⟨hk, fun e_ => hk.2 (by rw [e_]; rfl)⟩ : _ ∧ k_ ≠ go91))) (fun _ hk => hk.2) (.int .u64 (Go.bits .or .u64 (rd y543 x113_2) (ji98)))) (fun _ hk => ⟨hk.1.1, hk.1.2⟩))⟩, ⟨by (try simp only [hl7_1]); (try simp only [hl10_1]); exact uR (Kd.R_mono (Kd.R_far (p := ⟨go91, (x113_2 : Int).toNat, none⟩) (Kd.R_mono HO_15.out (fun k_ hk => (⟨hk, fun e_ => hk.2 (by rw [e_]; rfl)⟩ : _ ∧ k_ ≠ go91))) (fun _ hk => hk.2) (.int .u64 (Go.bits .or .u64 (rd y543 x113_2) (ji98)))) (fun _ hk => ⟨hk.1.1, hk.1.2⟩))⟩, ⟨by (try simp only [hl7_1]); (try simp only [hl10_1]); exact uR HQ103.out⟩, ⟨uB⟩⟩)
       rw [if_neg c93] at H
       have c93b0 := decide_eq_false c93
       (try (have c93b0h0 := c93b0; simp only [hl7_1] at c93b0h0))
       (try (have c93b0h1 := c93b0; simp only [hl10_1] at c93b0h1))
       clear c93
       have H' := Aside0.mk H
       clear H
       have p542 := eq_true (uO : 0 ≤ (x113_2 : Int))
       have q542 := eq_true (uO : x113_2 < (t536.length : Int))
       obtain ⟨ad542, e542, hx542_0⟩ := Kd.at_int (Kd.R_reads' HO_15.out).2.2 x113_2 uO uO
       cases e542
       have p91 : 0 ≤ (x113_2 : Int) := uO
       have q91 : (x113_2 : Int) < ((x16_2.length : Int) : Int) := uO
       obtain ⟨go91, co91, eo91, gb91, gl91, cl91, HG91⟩ := Kd.R_form HO_16.out (by omega)
       (first | cases eo91 | (injection eo91 with ea_ en_ ec_; (first | subst ea_ | (injection ea_ with ea_; subst ea_)); subst ec_; clear en_))
       have GB91 := Aside0.mk gb91; have GG91 := Aside0.mk HG91; clear gb91 gl91 HG91
       obtain ⟨hx91_0, hf91_0⟩ := Kd.R_celln 0 HO_16.out (x113_2 : Int) p91 q91
       replace p91 := eq_true p91
       replace q91 := eq_true q91
       have HP104 := Kd.R_putg HO_16.out (x113_2 : Int) ji89
       go_wp2_with (first | ((with_reducible refine gate_store (t := 62) (p := 124) rfl ?_); refine store_event (t := 62) (p := 124) (v := ?vo_w105) (w1 := (wr.setCell ⟨go91, (x113_2 : Int).toNat, none⟩ (.int .u64 ji89))) ?hg ?ho ?hn ?hr ?_; (case ho => rfl); (case hg => rfl); (case hn => rfl); (case hr => first | (go_simp; done) | (go_simp; rfl) | (obtain ⟨hy_, hz_⟩ := Kd.R_celln 0 HO_16.out (x113_2 : Int) uO uO; (try simp only [Go.IntWalk.toNatUp] at hy_ hz_); (try simp only [Int.reduceToNat, Int.toNat_zero, Int.toNat_ofNat] at hy_ hz_); first | (go_simp; done) | (go_simp; rfl))); intro w105 hw; have hg : wr.grownBy w105 (some go91) := (by rw [hw]; exact HP104.2); have hp_ : Kd.R (Kd.int .u64) 62 w105 w.heap.size (fun k_ => some k_ ≠ (.slice Ao21 x10_1.length co21 : Value).ownBlock ∧ some k_ ≠ (.slice (some ad542) t536.length co81 : Value).ownBlock) (.slice (some ⟨go91, 0, none⟩) x16_2.length co91) y543 := (by rw [hw, Ny543.out]; exact HP104.1); clear HP104; replace HO_10 := Aside0.mk (Kd.R_after (v := (.slice (some ⟨go91, 0, none⟩) x16_2.length co91)) (v1 := (.slice (some ⟨go91, 0, none⟩) x16_2.length co91)) (ok := (fun k_ => some k_ ≠ (.slice (some ad542) t536.length co81 : Value).ownBlock)) (uR HO_10.out) hg (.inl rfl)); replace HO_15 := Aside0.mk (Kd.R_after (v := (.slice (some ⟨go91, 0, none⟩) x16_2.length co91)) (v1 := (.slice (some ⟨go91, 0, none⟩) x16_2.length co91)) (ok := (fun k_ => some k_ ≠ (.slice Ao21 x10_1.length co21 : Value).ownBlock)) (uR HO_15.out) hg (.inl rfl)); replace HO_16 := Aside0.mk (hp_); replace HB := Aside0.mk ((by rw [hw]; exact below_set (HB.out) GB91.out : Below w.heap.size w w105)); clear hg hw hp_))
       first | go_roundg k2 | ((try simp only [← hji98] at H'); simp only [← hji98]; go_roundg k2) | ((try simp only [← hji96] at H'); simp only [← hji96]; go_roundg k2) | ((try simp only [← hji94] at H'); simp only [← hji94]; go_roundg k2) | ((try simp only [← hji89] at H'); simp only [← hji89]; go_roundg k2) | ((try simp only [← hji87] at H'); simp only [← hji87]; go_roundg k2) | ((try simp only [← hji35] at H'); simp only [← hji35]; go_roundg k2)
       case measure => have := HK1.out; have := HK2.out; omega
       case rel => first | exact ⟨(y543), (wrap64 (x113_2 + 1)), uG, H', ⟨by have := HK1.out; have := HK2.out; omega⟩, ⟨by (try simp only [hl7_1]); (try simp only [hl10_1]); exact uR HO_10.out⟩, ⟨by (try simp only [hl7_1]); (try simp only [hl10_1]); exact uR HO_15.out⟩, ⟨by (try simp only [hl7_1]); (try simp only [hl10_1]); exact uR HO_16.out⟩, ⟨uB⟩⟩ | (simp only [← hji98] at H'; exact ⟨(y543), (wrap64 (x113_2 + 1)), uG, H', ⟨by have := HK1.out; have := HK2.out; omega⟩, ⟨by (try simp only [hl7_1]); (try simp only [hl10_1]); exact uR HO_10.out⟩, ⟨by (try simp only [hl7_1]); (try simp only [hl10_1]); exact uR HO_15.out⟩, ⟨by (try simp only [hl7_1]); (try simp only [hl10_1]); exact uR HO_16.out⟩, ⟨uB⟩⟩) | (simp only [← hji96] at H'; exact ⟨(y543), (wrap64 (x113_2 + 1)), uG, H', ⟨by have := HK1.out; have := HK2.out; omega⟩, ⟨by (try simp only [hl7_1]); (try simp only [hl10_1]); exact uR HO_10.out⟩, ⟨by (try simp only [hl7_1]); (try simp only [hl10_1]); exact uR HO_15.out⟩, ⟨by (try simp only [hl7_1]); (try simp only [hl10_1]); exact uR HO_16.out⟩, ⟨uB⟩⟩) | (simp only [← hji94] at H'; exact ⟨(y543), (wrap64 (x113_2 + 1)), uG, H', ⟨by have := HK1.out; have := HK2.out; omega⟩, ⟨by (try simp only [hl7_1]); (try simp only [hl10_1]); exact uR HO_10.out⟩, ⟨by (try simp only [hl7_1]); (try simp only [hl10_1]); exact uR HO_15.out⟩, ⟨by (try simp only [hl7_1]); (try simp only [hl10_1]); exact uR HO_16.out⟩, ⟨uB⟩⟩) | (simp only [← hji89] at H'; exact ⟨(y543), (wrap64 (x113_2 + 1)), uG, H', ⟨by have := HK1.out; have := HK2.out; omega⟩, ⟨by (try simp only [hl7_1]); (try simp only [hl10_1]); exact uR HO_10.out⟩, ⟨by (try simp only [hl7_1]); (try simp only [hl10_1]); exact uR HO_15.out⟩, ⟨by (try simp only [hl7_1]); (try simp only [hl10_1]); exact uR HO_16.out⟩, ⟨uB⟩⟩) | (simp only [← hji87] at H'; exact ⟨(y543), (wrap64 (x113_2 + 1)), uG, H', ⟨by have := HK1.out; have := HK2.out; omega⟩, ⟨by (try simp only [hl7_1]); (try simp only [hl10_1]); exact uR HO_10.out⟩, ⟨by (try simp only [hl7_1]); (try simp only [hl10_1]); exact uR HO_15.out⟩, ⟨by (try simp only [hl7_1]); (try simp only [hl10_1]); exact uR HO_16.out⟩, ⟨uB⟩⟩) | (simp only [← hji35] at H'; exact ⟨(y543), (wrap64 (x113_2 + 1)), uG, H', ⟨by have := HK1.out; have := HK2.out; omega⟩, ⟨by (try simp only [hl7_1]); (try simp only [hl10_1]); exact uR HO_10.out⟩, ⟨by (try simp only [hl7_1]); (try simp only [hl10_1]); exact uR HO_15.out⟩, ⟨by (try simp only [hl7_1]); (try simp only [hl10_1]); exact uR HO_16.out⟩, ⟨uB⟩⟩)
      rw [if_neg c92] at H
      have c92b0 := decide_eq_false c92
      clear c92
      have H' := Aside0.mk H
      clear H
      have p542 := eq_true (uO : 0 ≤ (x113_2 : Int))
      have q542 := eq_true (uO : x113_2 < (t536.length : Int))
      obtain ⟨ad542, e542, hx542_0⟩ := Kd.at_int (Kd.R_reads' HO_15.out).2.2 x113_2 uO uO
      cases e542
      have p91 : 0 ≤ (x113_2 : Int) := uO
      have q91 : (x113_2 : Int) < ((x16_2.length : Int) : Int) := uO
      obtain ⟨go91, co91, eo91, gb91, gl91, cl91, HG91⟩ := Kd.R_form HO_16.out (by omega)
      (first | cases eo91 | (injection eo91 with ea_ en_ ec_; (first | subst ea_ | (injection ea_ with ea_; subst ea_)); subst ec_; clear en_))
      have GB91 := Aside0.mk gb91; have GG91 := Aside0.mk HG91; clear gb91 gl91 HG91
      obtain ⟨hx91_0, hf91_0⟩ := Kd.R_celln 0 HO_16.out (x113_2 : Int) p91 q91
      replace p91 := eq_true p91
      replace q91 := eq_true q91
      have HP106 := Kd.R_putg HO_16.out (x113_2 : Int) ji89
      go_wp2_with (first | ((with_reducible refine gate_store (t := 62) (p := 124) rfl ?_); refine store_event (t := 62) (p := 124) (v := ?vo_w107) (w1 := (wr.setCell ⟨go91, (x113_2 : Int).toNat, none⟩ (.int .u64 ji89))) ?hg ?ho ?hn ?hr ?_; (case ho => rfl); (case hg => rfl); (case hn => rfl); (case hr => first | (go_simp; done) | (go_simp; rfl) | (obtain ⟨hy_, hz_⟩ := Kd.R_celln 0 HO_16.out (x113_2 : Int) uO uO; (try simp only [Go.IntWalk.toNatUp] at hy_ hz_); (try simp only [Int.reduceToNat, Int.toNat_zero, Int.toNat_ofNat] at hy_ hz_); first | (go_simp; done) | (go_simp; rfl))); intro w107 hw; have hg : wr.grownBy w107 (some go91) := (by rw [hw]; exact HP106.2); have hp_ : Kd.R (Kd.int .u64) 62 w107 w.heap.size (fun k_ => some k_ ≠ (.slice Ao21 x10_1.length co21 : Value).ownBlock ∧ some k_ ≠ (.slice (some ad542) t536.length co81 : Value).ownBlock) (.slice (some ⟨go91, 0, none⟩) x16_2.length co91) y543 := (by rw [hw, Ny543.out]; exact HP106.1); clear HP106; replace HO_10 := Aside0.mk (Kd.R_after (v := (.slice (some ⟨go91, 0, none⟩) x16_2.length co91)) (v1 := (.slice (some ⟨go91, 0, none⟩) x16_2.length co91)) (ok := (fun k_ => some k_ ≠ (.slice (some ad542) t536.length co81 : Value).ownBlock)) (uR HO_10.out) hg (.inl rfl)); replace HO_15 := Aside0.mk (Kd.R_after (v := (.slice (some ⟨go91, 0, none⟩) x16_2.length co91)) (v1 := (.slice (some ⟨go91, 0, none⟩) x16_2.length co91)) (ok := (fun k_ => some k_ ≠ (.slice Ao21 x10_1.length co21 : Value).ownBlock)) (uR HO_15.out) hg (.inl rfl)); replace HO_16 := Aside0.mk (hp_); replace HB := Aside0.mk ((by rw [hw]; exact below_set (HB.out) GB91.out : Below w.heap.size w w107)); clear hg hw hp_))
      first | go_roundg k2 | ((try simp only [← hji98] at H'); simp only [← hji98]; go_roundg k2) | ((try simp only [← hji96] at H'); simp only [← hji96]; go_roundg k2) | ((try simp only [← hji94] at H'); simp only [← hji94]; go_roundg k2) | ((try simp only [← hji89] at H'); simp only [← hji89]; go_roundg k2) | ((try simp only [← hji87] at H'); simp only [← hji87]; go_roundg k2) | ((try simp only [← hji35] at H'); simp only [← hji35]; go_roundg k2)
      case measure => have := HK1.out; have := HK2.out; omega
      case rel => first | exact ⟨(y543), (wrap64 (x113_2 + 1)), uG, H', ⟨by have := HK1.out; have := HK2.out; omega⟩, ⟨by (try simp only [hl7_1]); (try simp only [hl10_1]); exact uR HO_10.out⟩, ⟨by (try simp only [hl7_1]); (try simp only [hl10_1]); exact uR HO_15.out⟩, ⟨by (try simp only [hl7_1]); (try simp only [hl10_1]); exact uR HO_16.out⟩, ⟨uB⟩⟩ | (simp only [← hji98] at H'; exact ⟨(y543), (wrap64 (x113_2 + 1)), uG, H', ⟨by have := HK1.out; have := HK2.out; omega⟩, ⟨by (try simp only [hl7_1]); (try simp only [hl10_1]); exact uR HO_10.out⟩, ⟨by (try simp only [hl7_1]); (try simp only [hl10_1]); exact uR HO_15.out⟩, ⟨by (try simp only [hl7_1]); (try simp only [hl10_1]); exact uR HO_16.out⟩, ⟨uB⟩⟩) | (simp only [← hji96] at H'; exact ⟨(y543), (wrap64 (x113_2 + 1)), uG, H', ⟨by have := HK1.out; have := HK2.out; omega⟩, ⟨by (try simp only [hl7_1]); (try simp only [hl10_1]); exact uR HO_10.out⟩, ⟨by (try simp only [hl7_1]); (try simp only [hl10_1]); exact uR HO_15.out⟩, ⟨by (try simp only [hl7_1]); (try simp only [hl10_1]); exact uR HO_16.out⟩, ⟨uB⟩⟩) | (simp only [← hji94] at H'; exact ⟨(y543), (wrap64 (x113_2 + 1)), uG, H', ⟨by have := HK1.out; have := HK2.out; omega⟩, ⟨by (try simp only [hl7_1]); (try simp only [hl10_1]); exact uR HO_10.out⟩, ⟨by (try simp only [hl7_1]); (try simp only [hl10_1]); exact uR HO_15.out⟩, ⟨by (try simp only [hl7_1]); (try simp only [hl10_1]); exact uR HO_16.out⟩, ⟨uB⟩⟩) | (simp only [← hji89] at H'; exact ⟨(y543), (wrap64 (x113_2 + 1)), uG, H', ⟨by have := HK1.out; have := HK2.out; omega⟩, ⟨by (try simp only [hl7_1]); (try simp only [hl10_1]); exact uR HO_10.out⟩, ⟨by (try simp only [hl7_1]); (try simp only [hl10_1]); exact uR HO_15.out⟩, ⟨by (try simp only [hl7_1]); (try simp only [hl10_1]); exact uR HO_16.out⟩, ⟨uB⟩⟩) | (simp only [← hji87] at H'; exact ⟨(y543), (wrap64 (x113_2 + 1)), uG, H', ⟨by have := HK1.out; have := HK2.out; omega⟩, ⟨by (try simp only [hl7_1]); (try simp only [hl10_1]); exact uR HO_10.out⟩, ⟨by (try simp only [hl7_1]); (try simp only [hl10_1]); exact uR HO_15.out⟩, ⟨by (try simp only [hl7_1]); (try simp only [hl10_1]); exact uR HO_16.out⟩, ⟨uB⟩⟩) | (simp only [← hji35] at H'; exact ⟨(y543), (wrap64 (x113_2 + 1)), uG, H', ⟨by have := HK1.out; have := HK2.out; omega⟩, ⟨by (try simp only [hl7_1]); (try simp only [hl10_1]); exact uR HO_10.out⟩, ⟨by (try simp only [hl7_1]); (try simp only [hl10_1]); exact uR HO_15.out⟩, ⟨by (try simp only [hl7_1]); (try simp only [hl10_1]); exact uR HO_16.out⟩, ⟨uB⟩⟩)
     rw [if_neg c84] at H
     have c84b0 := decide_eq_false c84
     (try (have c84b0h0 := c84b0; simp only [hl7_1] at c84b0h0))
     (try (have c84b0h1 := c84b0; simp only [hl10_1] at c84b0h1))
     clear c84
     replace H := ub H; obtain ⟨t547, A108, H⟩ := H
     replace H := ub H; obtain ⟨t550, A109, H⟩ := H
     simp only [Option.some.injEq, Prod.mk.injEq] at H
     obtain ⟨rfl, rfl⟩ := H
     go_wp2_with (first | ((with_reducible refine ug 72 rfl ?_); refine uh (some 150) rfl Try.func72 #[.slice Ao21 x10_1.length co21] ?_; (with_reducible refine (nat_trim.calls k2 (fun k_ => some k_ = (.slice Ao21 x10_1.length co21 : Value).ownBlock) (.slice Ao21 x10_1.length co21) x10_1 t547 w _ ?side1 ?side2 A108.out).mono ?_); (case side1 => repeat (first | (with_reducible first | exact HB.out | apply below_alloc | apply pw_below_drewN | apply below_drew1) | exact HB.out)); (case side2 => exact Kd.R_tight rfl HO_10.out); rintro e w110 ⟨v548, rfl, ho0, hb, hkp⟩; refine ⟨_, rfl, ?_⟩; have HO549 := Aside0.mk (Kd.R_mono (ok' := fun k_ => some k_ ≠ (.slice Ao81 t536.length co81 : Value).ownBlock ∧ some k_ ≠ (v540 : Value).ownBlock) ho0 (fun k_ hk_ => ⟨Or.elim hk_ (fun hs_ => fun e_ => (((HO_15.out).1 k_ e_.symm).1) hs_) (fun hn_ => (Kd.fresh' (Kd.R_lt (uR HO_15.out)) k_ hn_)), Or.elim hk_ (fun hs_ => fun e_ => (((HO_16.out).1 k_ e_.symm).1) hs_) (fun hn_ => (Kd.fresh' (Kd.R_lt (uR HO_16.out)) k_ hn_))⟩)); replace HO_15 := Aside0.mk (Kd.R_mono (ok' := fun k_ => some k_ ≠ (v540 : Value).ownBlock ∧ some k_ ≠ (v548 : Value).ownBlock) (Kd.R_keptB (HO_15.out) hkp (fun k_ hk_ hs_ => (hk_.1) hs_)) (fun k_ hk_ => ⟨hk_.1.2, fun e_ => Or.elim (ho0.1 k_ e_.symm) (fun hs_ => hk_.2.1 hs_) (fun hn_ => Nat.not_le.2 hk_.2.2 hn_)⟩)); replace HO_16 := Aside0.mk (Kd.R_mono (ok' := fun k_ => some k_ ≠ (.slice Ao81 t536.length co81 : Value).ownBlock ∧ some k_ ≠ (v548 : Value).ownBlock) (Kd.R_keptB (HO_16.out) hkp (fun k_ hk_ hs_ => (hk_.1) hs_)) (fun k_ hk_ => ⟨hk_.1.2, fun e_ => Or.elim (ho0.1 k_ e_.symm) (fun hs_ => hk_.2.1 hs_) (fun hn_ => Nat.not_le.2 hk_.2.2 hn_)⟩)); replace HB := Aside0.mk (hb); clear HO_10; (try clear hb); (try clear hkp); (try clear ho0); obtain ⟨Ao111, co111, eo111⟩ := Kd.R_slice HO_16.out; subst eo111) | ((with_reducible refine ug 72 rfl ?_); refine uh (some 152) rfl Try.func72 #[.slice Ao111 x16_2.length co111] ?_; (with_reducible refine (nat_trim.calls k2 (fun k_ => some k_ = (.slice Ao111 x16_2.length co111 : Value).ownBlock) (.slice Ao111 x16_2.length co111) x16_2 t550 w _ ?side1 ?side2 A109.out).mono ?_); (case side1 => repeat (first | (with_reducible first | exact HB.out | apply below_alloc | apply pw_below_drewN | apply below_drew1) | exact HB.out)); (case side2 => exact Kd.R_tight rfl HO_16.out); rintro e w112 ⟨v551, rfl, ho0, hb, hkp⟩; refine ⟨_, rfl, ?_⟩; have HO552 := Aside0.mk (Kd.R_mono (ok' := fun k_ => some k_ ≠ (.slice Ao81 t536.length co81 : Value).ownBlock ∧ some k_ ≠ (v548 : Value).ownBlock) ho0 (fun k_ hk_ => ⟨Or.elim hk_ (fun hs_ => fun e_ => (((HO_15.out).1 k_ e_.symm).1) hs_) (fun hn_ => (Kd.fresh' (Kd.R_lt (uR HO_15.out)) k_ hn_)), Or.elim hk_ (fun hs_ => fun e_ => (((HO549.out).1 k_ e_.symm).2) hs_) (fun hn_ => (Kd.fresh' (Kd.R_lt (uR HO549.out)) k_ hn_))⟩)); replace HO_15 := Aside0.mk (Kd.R_mono (ok' := fun k_ => some k_ ≠ (v548 : Value).ownBlock ∧ some k_ ≠ (v551 : Value).ownBlock) (Kd.R_keptB (HO_15.out) hkp (fun k_ hk_ hs_ => (hk_.1) hs_)) (fun k_ hk_ => ⟨hk_.1.2, fun e_ => Or.elim (ho0.1 k_ e_.symm) (fun hs_ => hk_.2.1 hs_) (fun hn_ => Nat.not_le.2 hk_.2.2 hn_)⟩)); replace HO549 := Aside0.mk (Kd.R_mono (ok' := fun k_ => some k_ ≠ (.slice Ao81 t536.length co81 : Value).ownBlock ∧ some k_ ≠ (v551 : Value).ownBlock) (Kd.R_keptB (HO549.out) hkp (fun k_ hk_ hs_ => (hk_.2) hs_)) (fun k_ hk_ => ⟨hk_.1.1, fun e_ => Or.elim (ho0.1 k_ e_.symm) (fun hs_ => hk_.2.1 hs_) (fun hn_ => Nat.not_le.2 hk_.2.2 hn_)⟩)); replace HB := Aside0.mk (hb); clear HO_16; (try clear hb); (try clear hkp); (try clear ho0)))
     go_ret2
     exact ⟨_, _, by first | rfl | (simp [errW_none, errW_some] <;> rfl) | (simp only [← hji3, ← hji10]; first | rfl | (simp [errW_none, errW_some] <;> rfl)) | (simp [*, errW_none, errW_some] <;> rfl), by exact uR (Kd.R_mono HO549.out (fun _ hk => hk.2)), by (with_reducible repeat (first | apply Kd.R_alloc | apply Kd.R_drewN | apply Kd.R_drew)); exact Kd.R_mono HO552.out (fun _ hk => hk.2), uB⟩
def nat_Div.f (k : Nat) (l0 : List Int) (l1 : List Int) : Option (List Int × List Int × Int) := (nat_right.f (([l0, l1] : List (List Int)))).bind fun t556 => (if t556 = true then (if (l1.length : Int) = 0 then (some (([] : List Int), ([] : List Int), 3)) else ((nat_compare.f k l0 l1).bind fun t557 => (if t557 < 0 then ((api_Nat_uint64.f l0).bind fun t558 => (some (([] : List Int), t558, 0))) else (if (l1.length : Int) = 1 then (if 0 < (l1.length : Int) then ((nat_short.f k l0 (rd l1 0)).bind fun bt562 => ((nat_Of.f k bt562.2).bind fun t566 => (some (bt562.1, t566, 0)))) else (none)) else ((nat_long.f k l0 l1).bind fun bt569 => (some (bt569.1, bt569.2, 0))))))) else (some (([] : List Int), ([] : List Int), 1)))
theorem nat_Div.calls (k : Nat) (P0_ : Nat → Prop) (A0 : Option Addr) (c0 : Nat) (l0 : List Int) (P1_ : Nat → Prop) (A1 : Option Addr) (c1 : Nat) (l1 : List Int) (r1 : List Int) (r2 : List Int) (r3 : Int) (w : World) (hs0 : Kd.V (Kd.int .u64) 62 w w.heap.size (fun k_ => P0_ k_) (.slice A0 l0.length c0) l0) (hs1 : Kd.V (Kd.int .u64) 62 w w.heap.size (fun k_ => P1_ k_) (.slice A1 l1.length c1) l1) (h : nat_Div.f k l0 l1 = some (r1, r2, r3)) :
  Calls Try.prog 24 #[.slice A0 l0.length c0, .slice A1 l1.length c1] w fun e w' => ∃ v0_ v1_ : Value, e = .returned (.tuple #[v0_, v1_, .int .i64 r3]) ∧ Kd.R (Kd.int .u64) 62 w' w.heap.size (fun k_ => (w.heap.size ≤ k_) ∧ some k_ ≠ (v1_ : Value).ownBlock) v0_ r1 ∧ Kd.R (Kd.int .u64) 62 w' w.heap.size (fun k_ => (w.heap.size ≤ k_) ∧ some k_ ≠ (v0_ : Value).ownBlock) v1_ r2 ∧ Below w.heap.size w w' := by
 have HO0 := Aside0.mk (show Kd.V (Kd.int .u64) 62 w w.heap.size (fun k_ => ((P0_ k_ ∨ P1_ k_) ∨ w.heap.size ≤ k_)) (.slice A0 l0.length c0) l0 from Kd.V_mono hs0 (fun k_ hk => .inl (.inl hk)))
 have HO1 := Aside0.mk (show Kd.V (Kd.int .u64) 62 w w.heap.size (fun k_ => ((P0_ k_ ∨ P1_ k_) ∨ w.heap.size ≤ k_)) (.slice A1 l1.length c1) l1 from Kd.V_mono hs1 (fun k_ hk => .inl (.inr hk)))
 have HB := Aside0.mk (Below.refl w.heap.size w)
 have H : ((nat_right.f (([l0, l1] : List (List Int)))).bind fun t556 => (if t556 = true then (if (l1.length : Int) = 0 then (some (([] : List Int), ([] : List Int), 3)) else ((nat_compare.f k l0 l1).bind fun t557 => (if t557 < 0 then ((api_Nat_uint64.f l0).bind fun t558 => (some (([] : List Int), t558, 0))) else (if (l1.length : Int) = 1 then (if 0 < (l1.length : Int) then ((nat_short.f k l0 (rd l1 0)).bind fun bt562 => ((nat_Of.f k bt562.2).bind fun t566 => (some (bt562.1, t566, 0)))) else (none)) else ((nat_long.f k l0 l1).bind fun bt569 => (some (bt569.1, bt569.2, 0))))))) else (some (([] : List Int), ([] : List Int), 1)))) = some (r1, r2, r3) := h
 clear h
 obtain ⟨y553, hy553⟩ : ∃ y_ : List (List Int), y_ = (([l0, l1] : List (List Int))) := ⟨_, rfl⟩
 replace H : ((nat_right.f y553).bind fun t556 => (if t556 = true then (if (l1.length : Int) = 0 then (some (([] : List Int), ([] : List Int), 3)) else ((nat_compare.f k l0 l1).bind fun t557 => (if t557 < 0 then ((api_Nat_uint64.f l0).bind fun t558 => (some (([] : List Int), t558, 0))) else (if (l1.length : Int) = 1 then (if 0 < (l1.length : Int) then ((nat_short.f k l0 (rd l1 0)).bind fun bt562 => ((nat_Of.f k bt562.2).bind fun t566 => (some (bt562.1, t566, 0)))) else (none)) else ((nat_long.f k l0 l1).bind fun bt569 => (some (bt569.1, bt569.2, 0))))))) else (some (([] : List Int), ([] : List Int), 1)))) = some (r1, r2, r3) := by first | (rw [hy553]; with_reducible exact H) | (have H2_ := (Option.bind_some _ _).symm.trans H; rw [hy553]; with_reducible exact H2_) | (have H2_ := (Option.bind_some _ _).symm.trans H; with_reducible exact H2_) | with_reducible exact H | (rw [hy553]; exact H) | exact H
 have Ny553 := Aside0.mk hy553; clear hy553
 replace H := ub H; obtain ⟨t556, A3, H⟩ := H
 by_cases c4 : t556 = true
 ·
  subst c4
  have H1 : (if (l1.length : Int) = 0 then (some (([] : List Int), ([] : List Int), 3)) else ((nat_compare.f k l0 l1).bind fun t557 => (if t557 < 0 then ((api_Nat_uint64.f l0).bind fun t558 => (some (([] : List Int), t558, 0))) else (if (l1.length : Int) = 1 then (if 0 < (l1.length : Int) then ((nat_short.f k l0 (rd l1 0)).bind fun bt562 => ((nat_Of.f k bt562.2).bind fun t566 => (some (bt562.1, t566, 0)))) else (none)) else ((nat_long.f k l0 l1).bind fun bt569 => (some (bt569.1, bt569.2, 0))))))) = some (r1, r2, r3) := by rw [if_pos rfl] at H; exact H
  clear H; have H := H1; clear H1
  by_cases c5 : (l1.length : Int) = 0
  ·
   rw [if_pos c5] at H
   have c5b0 := beq_iff_eq.mpr c5
   have c5b1 := bne_eq_false_iff_eq.mpr c5
   clear c5
   simp only [Option.some.injEq, Prod.mk.injEq] at H
   obtain ⟨rfl, rfl, rfl⟩ := H
   go_enter Try.func24, Try.ntmps24
   go_wp2_with (first | ((with_reducible refine gate_dst (N := 14) rfl ?_); refine Kd.N_lit (Kd.slice 62 (Kd.int .u64)) _ 57 ?hg (N' := 14) ?hd (xs := ([l0, l1] : List (List Int))) (inner := [.slice A0 l0.length c0, .slice A1 l1.length c1]) (ok := (fun k_ => ((P0_ k_ ∨ P1_ k_) ∨ w.heap.size ≤ k_))) (okp := (fun k_ => ((P0_ k_ ∨ P1_ k_) ∨ w.heap.size ≤ k_))) ?hr ?hp (fun _ hk => hk) ((show ∀ k_, w.heap.size ≤ k_ → (fun k_ => ((P0_ k_ ∨ P1_ k_) ∨ w.heap.size ≤ k_)) k_ from fun k_ hk => (.inr (Nat.le_trans (below_size uB) hk))) _ (Nat.le_refl _)) (Below.refl _ _) (Nat.le_refl _) (by simp) ?_; (case hd => rfl); (case hg => rfl); (case hr => first | (go_simp; done) | (go_simp; rfl) | (go_simp; simp only [u64_u8]; done) | (go_simp; simp only [u64_u8]; rfl)); (case hp => exact (Reps.one (show Kd.FK (Kd.slice 62 (Kd.int .u64)) _ _ l0 [.slice A0 l0.length c0] from (Kd.FK_slice_mk (Kd.V_reads' (Kd.V_mono (ok' := (fun k_ => ((P0_ k_ ∨ P1_ k_) ∨ w.heap.size ≤ k_))) (HO0.out) (fun k_ hk => hk))).2.1 (Kd.V_F (Kd.V_mono (ok' := (fun k_ => ((P0_ k_ ∨ P1_ k_) ∨ w.heap.size ≤ k_))) (HO0.out) (fun k_ hk => hk))))) (Reps.one (show Kd.FK (Kd.slice 62 (Kd.int .u64)) _ _ l1 [.slice A1 l1.length c1] from (Kd.FK_slice_mk (Kd.V_reads' (Kd.V_mono (ok' := (fun k_ => ((P0_ k_ ∨ P1_ k_) ∨ w.heap.size ≤ k_))) (HO1.out) (fun k_ hk => hk))).2.1 (Kd.V_F (Kd.V_mono (ok' := (fun k_ => ((P0_ k_ ∨ P1_ k_) ∨ w.heap.size ≤ k_))) (HO1.out) (fun k_ hk => hk))))) (Reps.none _ _)))); intro v554 w6 ho7 hb hg_ hnew_; clear hg_ hnew_; (first | rw [← Ny553.out] at ho7 | (simp only [Int.reduceToNat] at ho7; rw [← Ny553.out] at ho7)); replace HO0 := Aside0.mk (Kd.V_elder' (uV HO0.out) (Kd.N_base ho7) hb); replace HO1 := Aside0.mk (Kd.V_elder' (uV HO1.out) (Kd.N_base ho7) hb); have HO555 := Aside0.mk (Kd.N_lower ho7 (below_size uB)); replace HB := uy hb; clear hb ho7; obtain ⟨Ao8, co8, eo8⟩ := Kd.N_slice HO555.out; subst eo8) | ((with_reducible refine ug 41 rfl ?_); refine uh (some 15) rfl Try.func41 #[.slice Ao8 y553.length co8] ?_; (with_reducible refine (nat_right.calls _ _ y553 true _ ?side1 ?side2 A3.out).mono ?_); (case side1 => exact uC (Kd.N_reads' HO555.out).2.2); (case side2 => exact (Kd.N_reads' HO555.out).2.1); rintro e w' ⟨rfl, ⟨nd, rfl⟩⟩; refine ⟨_, rfl, ?_⟩))
   go_ret3
   exact ⟨_, _, uF, uI, uI, uB⟩
  rw [if_neg c5] at H
  have c5b0 := beq_eq_false_iff_ne.mpr c5
  have c5b1 := bne_iff_ne.mpr c5
  have c5b2 : ¬ (l1 = []) := fun h_ => c5 (by rw [h_]; rfl)
  replace H := ub H; obtain ⟨t557, A9, H⟩ := H
  by_cases c10 : t557 < 0
  ·
   rw [if_pos c10] at H
   have c10b0 := decide_eq_true c10
   clear c10
   replace H := ub H; obtain ⟨t558, A11, H⟩ := H
   simp only [Option.some.injEq, Prod.mk.injEq] at H
   obtain ⟨rfl, rfl, rfl⟩ := H
   go_enter Try.func24, Try.ntmps24
   go_wp2_with (first | ((with_reducible refine gate_dst (N := 14) rfl ?_); refine Kd.N_lit (Kd.slice 62 (Kd.int .u64)) _ 57 ?hg (N' := 14) ?hd (xs := ([l0, l1] : List (List Int))) (inner := [.slice A0 l0.length c0, .slice A1 l1.length c1]) (ok := (fun k_ => ((P0_ k_ ∨ P1_ k_) ∨ w.heap.size ≤ k_))) (okp := (fun k_ => ((P0_ k_ ∨ P1_ k_) ∨ w.heap.size ≤ k_))) ?hr ?hp (fun _ hk => hk) ((show ∀ k_, w.heap.size ≤ k_ → (fun k_ => ((P0_ k_ ∨ P1_ k_) ∨ w.heap.size ≤ k_)) k_ from fun k_ hk => (.inr (Nat.le_trans (below_size uB) hk))) _ (Nat.le_refl _)) (Below.refl _ _) (Nat.le_refl _) (by simp) ?_; (case hd => rfl); (case hg => rfl); (case hr => first | (go_simp; done) | (go_simp; rfl) | (go_simp; simp only [u64_u8]; done) | (go_simp; simp only [u64_u8]; rfl)); (case hp => exact (Reps.one (show Kd.FK (Kd.slice 62 (Kd.int .u64)) _ _ l0 [.slice A0 l0.length c0] from (Kd.FK_slice_mk (Kd.V_reads' (Kd.V_mono (ok' := (fun k_ => ((P0_ k_ ∨ P1_ k_) ∨ w.heap.size ≤ k_))) (HO0.out) (fun k_ hk => hk))).2.1 (Kd.V_F (Kd.V_mono (ok' := (fun k_ => ((P0_ k_ ∨ P1_ k_) ∨ w.heap.size ≤ k_))) (HO0.out) (fun k_ hk => hk))))) (Reps.one (show Kd.FK (Kd.slice 62 (Kd.int .u64)) _ _ l1 [.slice A1 l1.length c1] from (Kd.FK_slice_mk (Kd.V_reads' (Kd.V_mono (ok' := (fun k_ => ((P0_ k_ ∨ P1_ k_) ∨ w.heap.size ≤ k_))) (HO1.out) (fun k_ hk => hk))).2.1 (Kd.V_F (Kd.V_mono (ok' := (fun k_ => ((P0_ k_ ∨ P1_ k_) ∨ w.heap.size ≤ k_))) (HO1.out) (fun k_ hk => hk))))) (Reps.none _ _)))); intro v554 w12 ho13 hb hg_ hnew_; clear hg_ hnew_; (first | rw [← Ny553.out] at ho13 | (simp only [Int.reduceToNat] at ho13; rw [← Ny553.out] at ho13)); replace HO0 := Aside0.mk (Kd.V_elder' (uV HO0.out) (Kd.N_base ho13) hb); replace HO1 := Aside0.mk (Kd.V_elder' (uV HO1.out) (Kd.N_base ho13) hb); have HO555 := Aside0.mk (Kd.N_lower ho13 (below_size uB)); replace HB := uy hb; clear hb ho13; obtain ⟨Ao14, co14, eo14⟩ := Kd.N_slice HO555.out; subst eo14) | ((with_reducible refine ug 41 rfl ?_); refine uh (some 15) rfl Try.func41 #[.slice Ao14 y553.length co14] ?_; (with_reducible refine (nat_right.calls _ _ y553 true _ ?side1 ?side2 A3.out).mono ?_); (case side1 => exact uC (Kd.N_reads' HO555.out).2.2); (case side2 => exact (Kd.N_reads' HO555.out).2.1); rintro e w' ⟨rfl, ⟨nd, rfl⟩⟩; refine ⟨_, rfl, ?_⟩) | ((with_reducible refine ug 47 rfl ?_); refine uh (some 24) rfl Try.func47 #[.slice A0 l0.length c0, .slice A1 l1.length c1] ?_; (with_reducible refine (nat_compare.calls k _ _ l0 _ _ l1 t557 _ ?side1 ?side2 ?side3 ?side4 A9.out).mono ?_); (case side1 => exact uC (Kd.V_reads' HO0.out).2.2); (case side2 => exact (Kd.V_reads' HO0.out).2.1); (case side3 => exact uC (Kd.V_reads' HO1.out).2.2); (case side4 => exact (Kd.V_reads' HO1.out).2.1); rintro e w' ⟨rfl, ⟨nd, rfl⟩⟩; refine ⟨_, rfl, ?_⟩) | ((with_reducible refine ug 48 rfl ?_); refine uh (some 27) rfl Try.func48 #[.slice A0 l0.length c0] ?_; (with_reducible refine (api_Nat_uint64.calls _ _ l0 t558 _ ?side1 ?side2 A11.out).mono ?_); (case side1 => exact uC (Kd.V_reads' HO0.out).2.2); (case side2 => exact (Kd.V_reads' HO0.out).2.1); rintro e w15 ⟨v559, rfl, ho0, hb⟩; refine ⟨_, rfl, ?_⟩; replace HO0 := ueV HO0 ho0 hb; replace HO1 := ueV HO1 ho0 hb; replace HO555 := ueN HO555 ho0 hb; have HO560 := ulo (Kd.R_newM (M := fun k_ => (w.heap.size ≤ k_)) ho0 (below_size uB) (fun k_ h_ => h_)); replace HB := uy hb; (try clear hb ho0)))
   go_ret3
   exact ⟨_, _, uF, uI, by exact uR (Kd.R_mono HO560.out (fun _ hk => ⟨hk.1, (by simp [Value.ownBlock])⟩)), uB⟩
  rw [if_neg c10] at H
  have c10b0 := decide_eq_false c10
  clear c10
  by_cases c16 : (l1.length : Int) = 1
  ·
   rw [if_pos c16] at H
   have c16b0 := beq_iff_eq.mpr c16
   have c16b1 := bne_eq_false_iff_eq.mpr c16
   clear c16
   replace H := uT H; obtain ⟨c17, H⟩ := H
   have c17b0 := decide_eq_true c17
   have c17b1 : decide (0 < l1.length) = true := decide_eq_true (by omega)
   clear c17
   replace H := ub H; obtain ⟨⟨t562, t563⟩, A18, H⟩ := H
   (try dsimp only at H)
   replace H := ub H; obtain ⟨t566, A19, H⟩ := H
   simp only [Option.some.injEq, Prod.mk.injEq] at H
   obtain ⟨rfl, rfl, rfl⟩ := H
   go_enter Try.func24, Try.ntmps24
   go_wp2_with (first | ((with_reducible refine gate_dst (N := 14) rfl ?_); refine Kd.N_lit (Kd.slice 62 (Kd.int .u64)) _ 57 ?hg (N' := 14) ?hd (xs := ([l0, l1] : List (List Int))) (inner := [.slice A0 l0.length c0, .slice A1 l1.length c1]) (ok := (fun k_ => ((P0_ k_ ∨ P1_ k_) ∨ w.heap.size ≤ k_))) (okp := (fun k_ => ((P0_ k_ ∨ P1_ k_) ∨ w.heap.size ≤ k_))) ?hr ?hp (fun _ hk => hk) ((show ∀ k_, w.heap.size ≤ k_ → (fun k_ => ((P0_ k_ ∨ P1_ k_) ∨ w.heap.size ≤ k_)) k_ from fun k_ hk => (.inr (Nat.le_trans (below_size uB) hk))) _ (Nat.le_refl _)) (Below.refl _ _) (Nat.le_refl _) (by simp) ?_; (case hd => rfl); (case hg => rfl); (case hr => first | (go_simp; done) | (go_simp; rfl) | (go_simp; simp only [u64_u8]; done) | (go_simp; simp only [u64_u8]; rfl)); (case hp => exact (Reps.one (show Kd.FK (Kd.slice 62 (Kd.int .u64)) _ _ l0 [.slice A0 l0.length c0] from (Kd.FK_slice_mk (Kd.V_reads' (Kd.V_mono (ok' := (fun k_ => ((P0_ k_ ∨ P1_ k_) ∨ w.heap.size ≤ k_))) (HO0.out) (fun k_ hk => hk))).2.1 (Kd.V_F (Kd.V_mono (ok' := (fun k_ => ((P0_ k_ ∨ P1_ k_) ∨ w.heap.size ≤ k_))) (HO0.out) (fun k_ hk => hk))))) (Reps.one (show Kd.FK (Kd.slice 62 (Kd.int .u64)) _ _ l1 [.slice A1 l1.length c1] from (Kd.FK_slice_mk (Kd.V_reads' (Kd.V_mono (ok' := (fun k_ => ((P0_ k_ ∨ P1_ k_) ∨ w.heap.size ≤ k_))) (HO1.out) (fun k_ hk => hk))).2.1 (Kd.V_F (Kd.V_mono (ok' := (fun k_ => ((P0_ k_ ∨ P1_ k_) ∨ w.heap.size ≤ k_))) (HO1.out) (fun k_ hk => hk))))) (Reps.none _ _)))); intro v554 w20 ho21 hb hg_ hnew_; clear hg_ hnew_; (first | rw [← Ny553.out] at ho21 | (simp only [Int.reduceToNat] at ho21; rw [← Ny553.out] at ho21)); replace HO0 := Aside0.mk (Kd.V_elder' (uV HO0.out) (Kd.N_base ho21) hb); replace HO1 := Aside0.mk (Kd.V_elder' (uV HO1.out) (Kd.N_base ho21) hb); have HO555 := Aside0.mk (Kd.N_lower ho21 (below_size uB)); replace HB := uy hb; clear hb ho21; obtain ⟨Ao22, co22, eo22⟩ := Kd.N_slice HO555.out; subst eo22) | ((with_reducible refine ug 41 rfl ?_); refine uh (some 15) rfl Try.func41 #[.slice Ao22 y553.length co22] ?_; (with_reducible refine (nat_right.calls _ _ y553 true _ ?side1 ?side2 A3.out).mono ?_); (case side1 => exact uC (Kd.N_reads' HO555.out).2.2); (case side2 => exact (Kd.N_reads' HO555.out).2.1); rintro e w' ⟨rfl, ⟨nd, rfl⟩⟩; refine ⟨_, rfl, ?_⟩) | ((with_reducible refine ug 47 rfl ?_); refine uh (some 24) rfl Try.func47 #[.slice A0 l0.length c0, .slice A1 l1.length c1] ?_; (with_reducible refine (nat_compare.calls k _ _ l0 _ _ l1 t557 _ ?side1 ?side2 ?side3 ?side4 A9.out).mono ?_); (case side1 => exact uC (Kd.V_reads' HO0.out).2.2); (case side2 => exact (Kd.V_reads' HO0.out).2.1); (case side3 => exact uC (Kd.V_reads' HO1.out).2.2); (case side4 => exact (Kd.V_reads' HO1.out).2.1); rintro e w' ⟨rfl, ⟨nd, rfl⟩⟩; refine ⟨_, rfl, ?_⟩; have p561 : 0 ≤ (0 : Int) := (by omega); have q561 : 0 < (l1.length : Int) := uO; obtain ⟨ad561, e561, hx561_0⟩ := Kd.at_int (Kd.V_reads' HO1.out).2.2 0 p561 q561; cases e561; have qi561 : (0 < l1.length) = True := eq_true (by omega); (try rw [show ((0 : Int)).toNat = 0 from rfl] at hx561_0); (try rw [Addr.add_zero'] at hx561_0); replace p561 := eq_true p561; replace q561 := eq_true q561) | ((with_reducible refine ug 49 rfl ?_); refine uh (some 37) rfl Try.func49 #[.slice A0 l0.length c0, .int .u64 (rd l1 0)] ?_; (with_reducible refine (nat_short.calls k _ _ l0 (rd l1 0) t562 t563 _ ?side1 ?side2 A18.out).mono ?_); (case side1 => exact uC (Kd.V_reads' HO0.out).2.2); (case side2 => exact (Kd.V_reads' HO0.out).2.1); rintro e w23 ⟨v564, rfl, ho0, hb⟩; refine ⟨_, rfl, ?_⟩; replace HO0 := ueV HO0 ho0 hb; replace HO1 := ueV HO1 ho0 hb; replace HO555 := ueN HO555 ho0 hb; have HO565 := ulo (Kd.R_newM (M := fun k_ => (w.heap.size ≤ k_)) ho0 (below_size uB) (fun k_ h_ => h_)); replace HB := uy hb; (try clear hb ho0)) | ((with_reducible refine ug 50 rfl ?_); refine uh (some 42) rfl Try.func50 #[.int .u64 t563] ?_; (with_reducible refine (nat_Of.calls k t563 t566 _ A19.out).mono ?_); rintro e w24 ⟨v567, rfl, ho0, hb⟩; refine ⟨_, rfl, ?_⟩; replace HO0 := ueV HO0 ho0 hb; replace HO1 := ueV HO1 ho0 hb; replace HO555 := ueN HO555 ho0 hb; have HO568 := ulo (unw (Kd.R_newM (M := fun k_ => (w.heap.size ≤ k_)) ho0 (below_size uB) (fun k_ h_ => h_)) HO565); replace HO565 := ueR HO565 ho0 hb; replace HB := uy hb; (try clear hb ho0)))
   go_ret3
   exact ⟨_, _, uF, by exact uR (Kd.R_mono HO565.out (fun _ hk => ⟨hk.1.1, hk.2⟩)), by (with_reducible repeat (first | apply Kd.R_alloc | apply Kd.R_drewN | apply Kd.R_drew)); exact Kd.R_mono HO568.out (fun _ hk => ⟨hk.1.1, hk.2⟩), uB⟩
  rw [if_neg c16] at H
  have c16b0 := beq_eq_false_iff_ne.mpr c16
  have c16b1 := bne_iff_ne.mpr c16
  replace H := ub H; obtain ⟨⟨t569, t570⟩, A25, H⟩ := H
  (try dsimp only at H)
  simp only [Option.some.injEq, Prod.mk.injEq] at H
  obtain ⟨rfl, rfl, rfl⟩ := H
  go_enter Try.func24, Try.ntmps24
  go_wp2_with (first | ((with_reducible refine gate_dst (N := 14) rfl ?_); refine Kd.N_lit (Kd.slice 62 (Kd.int .u64)) _ 57 ?hg (N' := 14) ?hd (xs := ([l0, l1] : List (List Int))) (inner := [.slice A0 l0.length c0, .slice A1 l1.length c1]) (ok := (fun k_ => ((P0_ k_ ∨ P1_ k_) ∨ w.heap.size ≤ k_))) (okp := (fun k_ => ((P0_ k_ ∨ P1_ k_) ∨ w.heap.size ≤ k_))) ?hr ?hp (fun _ hk => hk) ((show ∀ k_, w.heap.size ≤ k_ → (fun k_ => ((P0_ k_ ∨ P1_ k_) ∨ w.heap.size ≤ k_)) k_ from fun k_ hk => (.inr (Nat.le_trans (below_size uB) hk))) _ (Nat.le_refl _)) (Below.refl _ _) (Nat.le_refl _) (by simp) ?_; (case hd => rfl); (case hg => rfl); (case hr => first | (go_simp; done) | (go_simp; rfl) | (go_simp; simp only [u64_u8]; done) | (go_simp; simp only [u64_u8]; rfl)); (case hp => exact (Reps.one (show Kd.FK (Kd.slice 62 (Kd.int .u64)) _ _ l0 [.slice A0 l0.length c0] from (Kd.FK_slice_mk (Kd.V_reads' (Kd.V_mono (ok' := (fun k_ => ((P0_ k_ ∨ P1_ k_) ∨ w.heap.size ≤ k_))) (HO0.out) (fun k_ hk => hk))).2.1 (Kd.V_F (Kd.V_mono (ok' := (fun k_ => ((P0_ k_ ∨ P1_ k_) ∨ w.heap.size ≤ k_))) (HO0.out) (fun k_ hk => hk))))) (Reps.one (show Kd.FK (Kd.slice 62 (Kd.int .u64)) _ _ l1 [.slice A1 l1.length c1] from (Kd.FK_slice_mk (Kd.V_reads' (Kd.V_mono (ok' := (fun k_ => ((P0_ k_ ∨ P1_ k_) ∨ w.heap.size ≤ k_))) (HO1.out) (fun k_ hk => hk))).2.1 (Kd.V_F (Kd.V_mono (ok' := (fun k_ => ((P0_ k_ ∨ P1_ k_) ∨ w.heap.size ≤ k_))) (HO1.out) (fun k_ hk => hk))))) (Reps.none _ _)))); intro v554 w26 ho27 hb hg_ hnew_; clear hg_ hnew_; (first | rw [← Ny553.out] at ho27 | (simp only [Int.reduceToNat] at ho27; rw [← Ny553.out] at ho27)); replace HO0 := Aside0.mk (Kd.V_elder' (uV HO0.out) (Kd.N_base ho27) hb); replace HO1 := Aside0.mk (Kd.V_elder' (uV HO1.out) (Kd.N_base ho27) hb); have HO555 := Aside0.mk (Kd.N_lower ho27 (below_size uB)); replace HB := uy hb; clear hb ho27; obtain ⟨Ao28, co28, eo28⟩ := Kd.N_slice HO555.out; subst eo28) | ((with_reducible refine ug 41 rfl ?_); refine uh (some 15) rfl Try.func41 #[.slice Ao28 y553.length co28] ?_; (with_reducible refine (nat_right.calls _ _ y553 true _ ?side1 ?side2 A3.out).mono ?_); (case side1 => exact uC (Kd.N_reads' HO555.out).2.2); (case side2 => exact (Kd.N_reads' HO555.out).2.1); rintro e w' ⟨rfl, ⟨nd, rfl⟩⟩; refine ⟨_, rfl, ?_⟩) | ((with_reducible refine ug 47 rfl ?_); refine uh (some 24) rfl Try.func47 #[.slice A0 l0.length c0, .slice A1 l1.length c1] ?_; (with_reducible refine (nat_compare.calls k _ _ l0 _ _ l1 t557 _ ?side1 ?side2 ?side3 ?side4 A9.out).mono ?_); (case side1 => exact uC (Kd.V_reads' HO0.out).2.2); (case side2 => exact (Kd.V_reads' HO0.out).2.1); (case side3 => exact uC (Kd.V_reads' HO1.out).2.2); (case side4 => exact (Kd.V_reads' HO1.out).2.1); rintro e w' ⟨rfl, ⟨nd, rfl⟩⟩; refine ⟨_, rfl, ?_⟩) | ((with_reducible refine ug 51 rfl ?_); refine uh (some 46) rfl Try.func51 #[.slice A0 l0.length c0, .slice A1 l1.length c1] ?_; (with_reducible refine (nat_long.calls k _ _ l0 _ _ l1 t569 t570 _ ?side1 ?side2 ?side3 ?side4 A25.out).mono ?_); (case side1 => exact uC (Kd.V_reads' HO0.out).2.2); (case side2 => exact (Kd.V_reads' HO0.out).2.1); (case side3 => exact uC (Kd.V_reads' HO1.out).2.2); (case side4 => exact (Kd.V_reads' HO1.out).2.1); rintro e w29 ⟨v571, v573, rfl, ho0, ho1, hb⟩; refine ⟨_, rfl, ?_⟩; replace HO0 := Aside0.mk (Kd.V_mono (Kd.V_told (Kd.V_told (Kd.V_old (uV HO0.out) hb) (Kd.R_base ho0)) (Kd.R_base ho1)) (fun _ h_ => h_.1)); replace HO1 := Aside0.mk (Kd.V_mono (Kd.V_told (Kd.V_told (Kd.V_old (uV HO1.out) hb) (Kd.R_base ho0)) (Kd.R_base ho1)) (fun _ h_ => h_.1)); replace HO555 := Aside0.mk (Kd.N_mono (Kd.N_told (Kd.N_told (Kd.N_old (uN HO555.out) hb) (Kd.R_base ho0)) (Kd.R_base ho1)) (fun _ h_ => h_.1)); have HO572 := ulo (Kd.R_newM (M := fun k_ => (w.heap.size ≤ k_)) ho0 (below_size uB) (fun k_ h_ => h_)); have HO574 := ulo (Kd.R_newM (M := fun k_ => (w.heap.size ≤ k_)) ho1 (below_size uB) (fun k_ h_ => h_)); replace HB := uy hb; (try clear hb ho0 ho1)))
  go_ret3
  exact ⟨_, _, uF, uR HO572.out, uR HO574.out, uB⟩
 replace c4 := Bool.eq_false_iff.mpr c4
 subst c4
 have H1 : (some (([] : List Int), ([] : List Int), 1)) = some (r1, r2, r3) := by rw [if_neg (show ¬ (false = true) by decide)] at H; exact H
 clear H; have H := H1; clear H1
 simp only [Option.some.injEq, Prod.mk.injEq] at H
 obtain ⟨rfl, rfl, rfl⟩ := H
 go_enter Try.func24, Try.ntmps24
 go_wp2_with (first | ((with_reducible refine gate_dst (N := 14) rfl ?_); refine Kd.N_lit (Kd.slice 62 (Kd.int .u64)) _ 57 ?hg (N' := 14) ?hd (xs := ([l0, l1] : List (List Int))) (inner := [.slice A0 l0.length c0, .slice A1 l1.length c1]) (ok := (fun k_ => ((P0_ k_ ∨ P1_ k_) ∨ w.heap.size ≤ k_))) (okp := (fun k_ => ((P0_ k_ ∨ P1_ k_) ∨ w.heap.size ≤ k_))) ?hr ?hp (fun _ hk => hk) ((show ∀ k_, w.heap.size ≤ k_ → (fun k_ => ((P0_ k_ ∨ P1_ k_) ∨ w.heap.size ≤ k_)) k_ from fun k_ hk => (.inr (Nat.le_trans (below_size uB) hk))) _ (Nat.le_refl _)) (Below.refl _ _) (Nat.le_refl _) (by simp) ?_; (case hd => rfl); (case hg => rfl); (case hr => first | (go_simp; done) | (go_simp; rfl) | (go_simp; simp only [u64_u8]; done) | (go_simp; simp only [u64_u8]; rfl)); (case hp => exact (Reps.one (show Kd.FK (Kd.slice 62 (Kd.int .u64)) _ _ l0 [.slice A0 l0.length c0] from (Kd.FK_slice_mk (Kd.V_reads' (Kd.V_mono (ok' := (fun k_ => ((P0_ k_ ∨ P1_ k_) ∨ w.heap.size ≤ k_))) (HO0.out) (fun k_ hk => hk))).2.1 (Kd.V_F (Kd.V_mono (ok' := (fun k_ => ((P0_ k_ ∨ P1_ k_) ∨ w.heap.size ≤ k_))) (HO0.out) (fun k_ hk => hk))))) (Reps.one (show Kd.FK (Kd.slice 62 (Kd.int .u64)) _ _ l1 [.slice A1 l1.length c1] from (Kd.FK_slice_mk (Kd.V_reads' (Kd.V_mono (ok' := (fun k_ => ((P0_ k_ ∨ P1_ k_) ∨ w.heap.size ≤ k_))) (HO1.out) (fun k_ hk => hk))).2.1 (Kd.V_F (Kd.V_mono (ok' := (fun k_ => ((P0_ k_ ∨ P1_ k_) ∨ w.heap.size ≤ k_))) (HO1.out) (fun k_ hk => hk))))) (Reps.none _ _)))); intro v554 w30 ho31 hb hg_ hnew_; clear hg_ hnew_; (first | rw [← Ny553.out] at ho31 | (simp only [Int.reduceToNat] at ho31; rw [← Ny553.out] at ho31)); replace HO0 := Aside0.mk (Kd.V_elder' (uV HO0.out) (Kd.N_base ho31) hb); replace HO1 := Aside0.mk (Kd.V_elder' (uV HO1.out) (Kd.N_base ho31) hb); have HO555 := Aside0.mk (Kd.N_lower ho31 (below_size uB)); replace HB := uy hb; clear hb ho31; obtain ⟨Ao32, co32, eo32⟩ := Kd.N_slice HO555.out; subst eo32) | ((with_reducible refine ug 41 rfl ?_); refine uh (some 15) rfl Try.func41 #[.slice Ao32 y553.length co32] ?_; (with_reducible refine (nat_right.calls _ _ y553 false _ ?side1 ?side2 A3.out).mono ?_); (case side1 => exact uC (Kd.N_reads' HO555.out).2.2); (case side2 => exact (Kd.N_reads' HO555.out).2.1); rintro e w' ⟨rfl, ⟨nd, rfl⟩⟩; refine ⟨_, rfl, ?_⟩))
 go_ret3
 exact ⟨_, _, uF, uI, uI, uB⟩
end Go.Proofs.Ytnaphgnkhhapoaa.F
end
section
namespace Go.Proofs.Ytnaphgnkhhapoaa.F
open Go.RowKit Go.Proofs.YtnaphgnkhhapoaaW.PrintWords Go.Proofs.YtnaphgnkhhapoaaW.PrintLast Go.Proofs.YtnaphgnkhhapoaaW.PrintMore
set_option linter.unusedVariables false
set_option linter.unusedSimpArgs false
def Ro (w : World) (ok : Nat → Prop) (A : Option Addr) (c : Nat) (l : List Int) : Prop := Kd.F (Kd.int .u64) w ok A l.length l ∧ l.length ≤ c
theorem Ro.V {w : World} {ok : Nat → Prop} {A : Option Addr} {c : Nat} {l : List Int} (h : Ro w ok A c l) {base : Nat} : Kd.V (Kd.int .u64) 62 w base ok (.slice A l.length c) l := Kd.V_mk h.2 h.1
theorem Ro.C {w : World} {ok : Nat → Prop} {A : Option Addr} {c : Nat} {l : List Int} (h : Ro w ok A c l) : Kd.C (Kd.int .u64) w A l.length l := Kd.F_now h.1
theorem Ro.below {w w1 : World} {ok : Nat → Prop} {A : Option Addr} {c : Nat} {l : List Int} (h : Ro w ok A c l) (hb : Below w.heap.size w w1) : Ro w1 ok A c l := ⟨Kd.F_below h.1 hb, h.2⟩
theorem Ro.nil (w : World) : Ro w (fun _ => True) none 0 [] := ⟨Kd.F_nil _ _ _, Nat.le_refl _⟩
theorem Ro.of {w : World} {A : Option Addr} {c e base : Nat} {ok : Nat → Prop} {l : List Int} (h : Kd.R (Kd.int .u64) e w base ok (.slice A l.length c) l) : Ro w (fun k => k < w.heap.size) A c l := ⟨Kd.R_F (Kd.R_mono (Kd.R_bound h) (fun _ hk => hk.2.2.1)), (Kd.R_reads' h).2.1⟩
def Cel (w : World) (B B2 : Nat) (A : Option Addr) (n : Nat) : Prop := ∀ i, i < n → ∃ (g : Nat) (z : Int), A = some ⟨g, 0, none⟩ ∧ B ≤ g ∧ g < B2 ∧ w.cell? ⟨g, i, none⟩ = some (.int .u64 z) ∧ w.frozen? ⟨g, i, none⟩ = false
theorem Cel.of {w : World} {A : Option Addr} {c e base B : Nat} {ok : Nat → Prop} {l : List Int} (h : Kd.R (Kd.int .u64) e w base ok (.slice A l.length c) l) (hB : B ≤ base) : Cel w B w.heap.size A l.length := by
  intro i hi
  obtain ⟨ad, rfl, _⟩ := Kd.at_int (Kd.R_reads' h).2.2 (0 : Int) (by omega) (by omega)
  obtain ⟨g, rfl⟩ := Kd.R_head h
  have hc := Kd.R_celln (0 : Int) h (i : Int) (by omega) (by omega)
  rw [Int.toNat_natCast] at hc
  exact ⟨g, _, rfl, Nat.le_trans hB (Kd.R_base h g rfl), World.block_lt_of_cell? _ _ hc.1, hc.1, hc.2⟩
theorem Cel.below {w w1 : World} {B B2 n : Nat} {A : Option Addr} (h : Cel w B B2 A n) (hb : Below w.heap.size w w1) : Cel w1 B B2 A n := by
  intro i hi
  obtain ⟨g, z, h1, h2, h3, h4, h5⟩ := h i hi
  have hlt := World.block_lt_of_cell? _ _ h4
  exact ⟨g, z, h1, h2, h3, (hb.cell hlt).trans h4, (hb.frozen hlt).trans h5⟩
theorem Cel.wide {w : World} {B B2 B3 n : Nat} {A : Option Addr} (h : Cel w B B2 A n) (hb : B2 ≤ B3) : Cel w B B3 A n := by
  intro i hi
  obtain ⟨g, z, h1, h2, h3, h4, h5⟩ := h i hi
  exact ⟨g, z, h1, h2, Nat.lt_of_lt_of_le h3 hb, h4, h5⟩
theorem Cel.set {w : World} {B B2 n : Nat} {A : Option Addr} (h : Cel w B B2 A n) (p : Addr) (y : Int) : Cel (w.setCell p (.int .u64 y)) B B2 A n := by
  intro i hi
  obtain ⟨g, z, h1, h2, h3, h4, h5⟩ := h i hi
  by_cases e : p = ⟨g, i, none⟩
  · subst e
    exact ⟨g, y, h1, h2, h3, World.cell?_setCell_same w _ _ h4, by rw [World.frozen?_setCell]; exact h5⟩
  · exact ⟨g, z, h1, h2, h3, (World.cell?_setCell_other w p _ _ e).trans h4, by rw [World.frozen?_setCell]; exact h5⟩
structure Own (w : World) (B : Nat) (w' : World) (Ax : Option Addr) (cx : Nat) (l0 : List Int) (Ay : Option Addr) (cy : Nat) (l1 : List Int) (B2 : Nat) (L : List (Option Addr × Nat × Nat)) : Prop where
  hb : Below w.heap.size w w'
  base : w.heap.size ≤ B
  size : B2 ≤ w'.heap.size
  low : B ≤ B2
  x : Ro w' (fun k => k < B) Ax cx l0
  y : Ro w' (fun k => k < B) Ay cy l1
  rows : ∀ t ∈ L, Cel w' B B2 t.1 t.2.1
  long : ∀ t ∈ L, t.2.1 ≤ 9223372036854775807
theorem Own.below {w w1 w2 : World} {B cx cy B2 : Nat} {Ax Ay : Option Addr} {l0 l1 : List Int} {L : List (Option Addr × Nat × Nat)} (h : Own w B w1 Ax cx l0 Ay cy l1 B2 L) (hb : Below w1.heap.size w1 w2) : Own w B w2 Ax cx l0 Ay cy l1 B2 L :=
  ⟨below_step h.hb hb, h.base, Nat.le_trans h.size hb.size, h.low, h.x.below hb, h.y.below hb, fun t ht => (h.rows t ht).below hb, h.long⟩
theorem Own.add {w w1 w2 : World} {B cx cy B2 e c : Nat} {Ax Ay A : Option Addr} {l0 l1 l : List Int} {ok : Nat → Prop} {L : List (Option Addr × Nat × Nat)} (h : Own w B w1 Ax cx l0 Ay cy l1 B2 L) (ho : Kd.R (Kd.int .u64) e w2 w1.heap.size ok (.slice A l.length c) l) (hb : Below w1.heap.size w1 w2) : Own w B w2 Ax cx l0 Ay cy l1 w2.heap.size (L ++ [(A, l.length, c)]) := by
  have hs := hb.size
  have h1 := h.size
  have h2 := h.low
  refine ⟨below_step h.hb hb, h.base, Nat.le_refl _, by omega, h.x.below hb, h.y.below hb, fun t ht => ?_, fun t ht => ?_⟩
  · rcases List.mem_append.1 ht with ht | ht
    · exact ((h.rows t ht).below hb).wide (by omega)
    · obtain rfl := List.mem_singleton.1 ht
      exact Cel.of ho (by omega)
  · rcases List.mem_append.1 ht with ht | ht
    · exact h.long t ht
    · obtain rfl := List.mem_singleton.1 ht
      exact (Kd.R_reads' ho).2.2.2.1
theorem Own.set {w w1 : World} {B cx cy B2 : Nat} {Ax Ay : Option Addr} {l0 l1 : List Int} {L : List (Option Addr × Nat × Nat)} (h : Own w B w1 Ax cx l0 Ay cy l1 B2 L) {g i : Nat} (hg : B ≤ g) (y : Int) : Own w B (w1.setCell ⟨g, i, none⟩ (.int .u64 y)) Ax cx l0 Ay cy l1 B2 L :=
  ⟨below_set h.hb (Nat.le_trans h.base hg), h.base, by simpa [World.setCell] using h.size, h.low, ⟨Kd.F_far h.x.1 (p := ⟨g, i, none⟩) (fun k hk => by show k ≠ g; omega) _, h.x.2⟩, ⟨Kd.F_far h.y.1 (p := ⟨g, i, none⟩) (fun k hk => by show k ≠ g; omega) _, h.y.2⟩, fun t ht => (h.rows t ht).set _ _, h.long⟩
def natOwn.f (k : Nat) (l0 l1 : List Int) : Option Bool :=
  (windbreakref01_Right.f l0).bind fun a => (windbreakref01_Right.f l1).bind fun b => if a = true ∧ b = true then
    (nat_Add.f k l0 l1).bind fun _ => (nat_Add.f k l0 []).bind fun _ => (nat_Shl.f k l0 0).bind fun _ => (nat_Shr.f k l0 0).bind fun _ => (nat_Mul.f k l0 [1]).bind fun _ => (nat_Div.f k l0 [0, 1]).bind fun _ =>
    (windbreakref01_Same.f k l0 l0).bind fun one => (windbreakref01_Same.f k l1 l1).bind fun two => (nat_Add.f k [1] []).bind fun u => if one = true ∧ two = true ∧ u.1.length = 1 then some true else none
  else some true
theorem natOwn.odd (A0 : Option Addr) (c0 : Nat) (l0 : List Int) (A1 : Option Addr) (c1 : Nat) (l1 : List Int) (a b : Bool) (w : World) (hr0 : Kd.C (Kd.int .u64) w A0 l0.length l0) (hc0 : l0.length ≤ c0) (hr1 : Kd.C (Kd.int .u64) w A1 l1.length l1) (hc1 : l1.length ≤ c1) (ha : windbreakref01_Right.f l0 = some a) (hb : windbreakref01_Right.f l1 = some b) (hab : ¬ (a = true ∧ b = true)) :
    Calls Try.prog 5 #[.slice A0 l0.length c0, .slice A1 l1.length c1] w fun e w' => e = .returned (.bool true) ∧ Below w.heap.size w w' := by
  have HB := Aside0.mk (Below.refl w.heap.size w)
  have HR0 := Aside0.mk hr0
  have HR1 := Aside0.mk hr1
  have HC0 := Aside0.mk hc0
  have HC1 := Aside0.mk hc1
  have HA := Aside0.mk ha
  have HBb := Aside0.mk hb
  clear hr0 hr1 hc0 hc1 ha hb
  have key : a = false ∨ (a = true ∧ b = false) := by cases a <;> cases b <;> simp_all
  clear hab
  rcases key with rfl | ⟨rfl, rfl⟩
  all_goals
    go_enter Try.func5, Try.ntmps5
    go_wp2_with (first
      | (go_at_call 19; refine (windbreakref01_Right.calls A0 c0 l0 _ _ (Kd.C_below HR0.out uB) HC0.out HA.out).mono ?_; rintro e w1 ⟨rfl, ⟨z, rfl⟩⟩; clear HA)
      | (go_at_call 19; refine (windbreakref01_Right.calls A1 c1 l1 _ _ (Kd.C_below HR1.out uB) HC1.out HBb.out).mono ?_; rintro e w2 ⟨rfl, ⟨z2, rfl⟩⟩; clear HBb))
    go_ret
    exact ⟨rfl, uB⟩
def ownCells (L : List (Option Addr × Nat × Nat)) : Array Value := (L.map fun t => Value.slice t.1 t.2.1 t.2.2).toArray
theorem natOwn.good (k : Nat) (A0 : Option Addr) (c0 : Nat) (l0 : List Int) (A1 : Option Addr) (c1 : Nat) (l1 : List Int) (s t d h p q r u : List Int) (es et ed eh ep er eu : Int) (w : World) (hr0 : Kd.C (Kd.int .u64) w A0 l0.length l0) (hc0 : l0.length ≤ c0) (hr1 : Kd.C (Kd.int .u64) w A1 l1.length l1) (hc1 : l1.length ≤ c1) (ha : windbreakref01_Right.f l0 = some true) (hb : windbreakref01_Right.f l1 = some true) (hl0 : l0.length * 8 ≤ 140737488355328) (hl1 : l1.length * 8 ≤ 140737488355328)
    (h1 : nat_Add.f k l0 l1 = some (s, es)) (h2 : nat_Add.f k l0 [] = some (t, et)) (h3 : nat_Shl.f k l0 0 = some (d, ed)) (h4 : nat_Shr.f k l0 0 = some (h, eh)) (h5 : nat_Mul.f k l0 [1] = some (p, ep)) (h6 : nat_Div.f k l0 [0, 1] = some (q, r, er))
    (h7 : windbreakref01_Same.f k l0 l0 = some true) (h8 : windbreakref01_Same.f k l1 l1 = some true) (h9 : nat_Add.f k [1] [] = some (u, eu)) (h10 : u.length = 1) :
    Calls Try.prog 5 #[.slice A0 l0.length c0, .slice A1 l1.length c1] w fun e w' => e = .returned (.bool true) ∧ Below w.heap.size w w' := by
  have HB := Aside0.mk (Below.refl w.heap.size w)
  have HR0 := Aside0.mk hr0
  have HR1 := Aside0.mk hr1
  have HC0 := Aside0.mk hc0
  have HC1 := Aside0.mk hc1
  have HA := Aside0.mk ha
  have HBb := Aside0.mk hb
  have H1 := Aside0.mk h1
  have H2 := Aside0.mk h2
  have H3 := Aside0.mk h3
  have H4 := Aside0.mk h4
  have H5 := Aside0.mk h5
  have H6 := Aside0.mk h6
  have H7 := Aside0.mk h7
  have H8 := Aside0.mk h8
  have H9 := Aside0.mk h9
  have HL0 := Aside0.mk hl0
  have HL1 := Aside0.mk hl1
  clear hr0 hr1 hc0 hc1 ha hb h1 h2 h3 h4 h5 h6 h7 h8 h9 hl0 hl1
  go_enter Try.func5, Try.ntmps5
  go_wp2_with (first
    | (go_at_call 19; refine (windbreakref01_Right.calls A0 c0 l0 _ _ (Kd.C_below HR0.out uB) HC0.out HA.out).mono ?_; rintro e w1 ⟨rfl, ⟨z, rfl⟩⟩; clear HA)
    | (go_at_call 19; refine (windbreakref01_Right.calls A1 c1 l1 _ _ (Kd.C_below HR1.out uB) HC1.out HBb.out).mono ?_; rintro e w2 ⟨rfl, ⟨z2, rfl⟩⟩; clear HBb)
    | ((with_reducible refine gate_dst (N := 39) rfl ?_); refine Kd.R_lit (Kd.int .u64) _ 62 ?hg (N := 39) ?hd (xs := ([] : List Int)) (inner := []) (ok := fun _ => True) (okp := fun _ => True) ?hr ?hp (fun _ hk => hk) trivial (Below.refl _ _) (Nat.le_refl _) (by simp) ?_; (case hd => rfl); (case hg => rfl); (case hr => first | (go_simp; done) | (go_simp; rfl)); (case hp => exact Reps.none _ _); intro v1 w3 ho hb hg_ hnew_; clear hg_ hnew_; have HO1 := ulo ho; have HB1 := uy hb; clear HB ho hb)
    | ((with_reducible refine gate_builtin (b := .append) (xs := #[.tmp 39, .tmp 40]) rfl ?_); at_builtin; refine Kd.R_append_rows (Kd.int .u64) (w0 := w) w.heap.size rfl (.tmp 39) (.tmp 40) 57 62 (.int .u64 0) 8 rfl Try.underlying57 info62 rfl (by decide) (by omega) v1 [] l0 _ _ _ (fun _ => True) (fun _ => False) rfl rfl (uR HO1.out) (uC (Kd.C_below HR0.out HB1.out)) (fun _ _ h => h) (fun _ h => h.elim) (fun _ _ => trivial) uB (below_size uB) (by have := HL0.out; simp only [List.length_nil]; omega) ?_; intro v2 w4 ho hb hg_ hat_; rw [List.nil_append] at ho; have HX := Aside0.mk ho; have HB2 := Aside0.mk hb; clear HB1 HO1 ho hb hg_ hat_)
    | ((with_reducible refine gate_dst (N := 42) rfl ?_); refine Kd.R_lit (Kd.int .u64) _ 62 ?hg (N := 42) ?hd (xs := ([] : List Int)) (inner := []) (ok := fun _ => True) (okp := fun _ => True) ?hr ?hp (fun _ hk => hk) trivial (Below.refl _ _) (Nat.le_refl _) (by simp) ?_; (case hd => rfl); (case hg => rfl); (case hr => first | (go_simp; done) | (go_simp; rfl)); (case hp => exact Reps.none _ _); intro v3 w5 ho hb hg_ hnew_; clear hg_ hnew_; have HX2 := ueR HX ho hb; have HO2 := ulo ho; have HB3 := uy hb; clear HB2 HX ho hb)
    | ((with_reducible refine gate_builtin (b := .append) (xs := #[.tmp 42, .tmp 43]) rfl ?_); at_builtin; refine Kd.R_append_rows (Kd.int .u64) (w0 := w) w.heap.size rfl (.tmp 42) (.tmp 43) 57 62 (.int .u64 0) 8 rfl Try.underlying57 info62 rfl (by decide) (by omega) v3 [] l1 _ _ _ (fun _ => True) (fun _ => False) rfl rfl (uR HO2.out) (uC (Kd.C_below HR1.out HB3.out)) (fun _ _ h => h) (fun _ h => h.elim) (fun _ _ => trivial) uB (below_size uB) (by have := HL1.out; simp only [List.length_nil]; omega) ?_; intro v4 w6 ho hb hg_ hat_; rw [List.nil_append] at ho; have hx_ := Kd.R_after (ok := (fun _ => True)) (uR (Kd.R_mono HX2.out (fun _ hk => ⟨trivial, hk.2⟩))) hg_ hat_; obtain ⟨Ax, cx, ex⟩ := Kd.R_slice hx_; subst ex; obtain ⟨Ay, cy, ey⟩ := Kd.R_slice ho; subst ey; have HI := Aside0.mk (show Own w w6.heap.size w6 Ax cx l0 Ay cy l1 w6.heap.size [] from ⟨hb, below_size hb, Nat.le_refl _, Nat.le_refl _, Ro.of hx_, Ro.of ho, (fun t ht => by cases ht), (fun t ht => by cases ht)⟩); clear HB3 HO2 HX2 ho hb hg_ hat_ hx_)
    | (go_at_call 20; refine (nat_Add.calls k _ Ax cx l0 _ Ay cy l1 s es _ HI.out.x.V HI.out.y.V H1.out).mono ?_; rintro e w7 ⟨v, rfl, ho, hb⟩; obtain ⟨As, cs, ev⟩ := Kd.R_slice ho; subst ev; have HI1 := Aside0.mk (HI.out.add ho hb); clear HI H1 ho hb)
    | (go_at_call 20; refine (nat_Add.calls k _ Ax cx l0 _ none 0 [] t et _ HI1.out.x.V (Ro.nil _).V H2.out).mono ?_; rintro e w8 ⟨v, rfl, ho, hb⟩; obtain ⟨At, ct, ev⟩ := Kd.R_slice ho; subst ev; have HI2 := Aside0.mk (HI1.out.add ho hb); clear HI1 H2 ho hb)
    | (go_at_call 21; refine (nat_Shl.calls k Ax cx l0 0 d ed _ HI2.out.x.C HI2.out.x.2 H3.out).mono ?_; rintro e w9 ⟨v, rfl, ho, hb⟩; obtain ⟨Ad, cd, ev⟩ := Kd.R_slice ho; subst ev; have HI3 := Aside0.mk (HI2.out.add ho hb); clear HI2 H3 ho hb)
    | (go_at_call 22; refine (nat_Shr.calls k Ax cx l0 0 h eh _ HI3.out.x.C HI3.out.x.2 H4.out).mono ?_; rintro e w10 ⟨v, rfl, ho, hb⟩; obtain ⟨Ah, ch, ev⟩ := Kd.R_slice ho; subst ev; have HI4 := Aside0.mk (HI3.out.add ho hb); clear HI3 H4 ho hb)
    | ((with_reducible refine gate_dst (N := 68) rfl ?_); refine Kd.R_lit (Kd.int .u64) _ 62 ?hg (N := 68) ?hd (xs := ([1] : List Int)) (inner := [.int .u64 1]) (ok := fun _ => True) (okp := fun _ => True) ?hr ?hp (fun _ hk => hk) trivial (Below.refl _ _) (Nat.le_refl _) (by simp) ?_; (case hd => rfl); (case hg => rfl); (case hr => first | (go_simp; done) | (go_simp; rfl)); (case hp => exact (Reps.one (show Kd.M (Kd.int .u64) _ _ _ 1 [.int .u64 1] from rfl) (Reps.none _ _))); intro v5 w11 ho hb hg_ hnew_; clear hg_ hnew_; obtain ⟨A5, c5, ev⟩ := Kd.R_slice ho; subst ev; have HO5 := Aside0.mk (Ro.of ho); have HI5 := Aside0.mk (HI4.out.below hb); clear HI4 ho hb)
    | (go_at_call 23; refine (nat_Mul.calls k _ Ax cx l0 _ A5 c5 [1] p ep _ HI5.out.x.V HO5.out.V H5.out).mono ?_; rintro e w12 ⟨v, rfl, ho, hb⟩; obtain ⟨Ap, cp, ev⟩ := Kd.R_slice ho; subst ev; have HI6 := Aside0.mk (HI5.out.add ho hb); clear HI5 H5 HO5 ho hb)
    | ((with_reducible refine gate_dst (N := 74) rfl ?_); refine Kd.R_lit (Kd.int .u64) _ 62 ?hg (N := 74) ?hd (xs := ([0, 1] : List Int)) (inner := [.int .u64 0, .int .u64 1]) (ok := fun _ => True) (okp := fun _ => True) ?hr ?hp (fun _ hk => hk) trivial (Below.refl _ _) (Nat.le_refl _) (by simp) ?_; (case hd => rfl); (case hg => rfl); (case hr => first | (go_simp; done) | (go_simp; rfl)); (case hp => exact (Reps.one (show Kd.M (Kd.int .u64) _ _ _ 0 [.int .u64 0] from rfl) (Reps.one (show Kd.M (Kd.int .u64) _ _ _ 1 [.int .u64 1] from rfl) (Reps.none _ _)))); intro v6 w13 ho hb hg_ hnew_; clear hg_ hnew_; obtain ⟨A6, c6, ev⟩ := Kd.R_slice ho; subst ev; have HO6 := Aside0.mk (Ro.of ho); have HI7 := Aside0.mk (HI6.out.below hb); clear HI6 ho hb)
    | (go_at_call 24; refine (nat_Div.calls k _ Ax cx l0 _ A6 c6 [0, 1] q r er _ HI7.out.x.V HO6.out.V H6.out).mono ?_; rintro e w14 ⟨v, v', rfl, ho, ho2, hb⟩; obtain ⟨Aq, cq, ev⟩ := Kd.R_slice ho; subst ev; obtain ⟨Ar, cr, ev⟩ := Kd.R_slice ho2; subst ev; have HI8 := Aside0.mk (HI7.out.add ho2 hb); clear HI7 H6 HO6 ho ho2 hb)
    | ((with_reducible refine gate_dst (N := 85) rfl ?_); refine Kd.event_run (v := .slice (some ⟨w14.heap.size, 0, none⟩) 6 6) (w1 := w14.alloc (.cells #[.slice As s.length cs, .slice At t.length ct, .slice Ad d.length cd, .slice Ah h.length ch, .slice Ap p.length cp, .slice Ar r.length cr] 57)) rfl ?hr ?_; (case hr => first | (go_simp; done) | (go_simp; rfl)); have HL := Aside0.mk (blk_new w14 (.cells #[.slice As s.length cs, .slice At t.length ct, .slice Ad d.length cd, .slice Ah h.length ch, .slice Ap p.length cp, .slice Ar r.length cr] 57)); have HI9 := Aside0.mk (HI8.out.below (below_alloc (Below.refl _ _) (.cells #[.slice As s.length cs, .slice At t.length ct, .slice Ad d.length cd, .slice Ah h.length ch, .slice Ap p.length cp, .slice Ar r.length cr] 57))); generalize w14.alloc (.cells #[.slice As s.length cs, .slice At t.length ct, .slice Ad d.length cd, .slice Ah h.length ch, .slice Ap p.length cp, .slice Ar r.length cr] 57) = w15 at HL HI9 ⊢; clear HI8))
  have hgl : w14.heap.size < w15.heap.size := blk_lt HL.out
  have HNB := Aside0.mk (Nat.le_refl w14.heap.size)
  have HU10 := Aside0.mk h10
  go_loopg [23] 6 (fun gg v23 wr => ∃ i : Nat, v23 = .int .i64 (i : Int) ∧ i ≤ 6 ∧ 6 - i ≤ gg ∧ Aside0 (Own w w6.heap.size wr Ax cx l0 Ay cy l1 w14.heap.size [(As, s.length, cs), (At, t.length, ct), (Ad, d.length, cd), (Ah, h.length, ch), (Ap, p.length, cp), (Ar, r.length, cr)]) ∧ Aside0 (wr.heap[w14.heap.size]? = some (.cells (ownCells [(As, s.length, cs), (At, t.length, ct), (Ad, d.length, cd), (Ah, h.length, ch), (Ap, p.length, cp), (Ar, r.length, cr)]) 57 (0, 0))))
  case atStart => exact ⟨0, rfl, by omega, by omega, HI9, HL⟩
  case round =>
    clear HI9 HL
    obtain ⟨i, rfl, hi, hgg, HI, HL⟩ := hrel
    by_cases hlt : i < 6
    · have hltz : decide ((i : Int) < 6) = true := decide_eq_true (by omega)
      have hiz : decide ((i : Int) < 0) = false := decide_eq_false (by omega)
      have hiy : decide ((6 : Int) ≤ (i : Int)) = false := decide_eq_false (by omega)
      obtain ⟨A, n, c, hmem, hcell⟩ : ∃ (A : Option Addr) (n c : Nat), (A, n, c) ∈ [(As, s.length, cs), (At, t.length, ct), (Ad, d.length, cd), (Ah, h.length, ch), (Ap, p.length, cp), (Ar, r.length, cr)] ∧ (ownCells [(As, s.length, cs), (At, t.length, ct), (Ad, d.length, cd), (Ah, h.length, ch), (Ap, p.length, cp), (Ar, r.length, cr)])[i]? = some (.slice A n c) := by
        match i, hlt with
        | 0, _ => exact ⟨_, _, _, List.mem_cons_self, rfl⟩
        | 1, _ => exact ⟨_, _, _, by simp, rfl⟩
        | 2, _ => exact ⟨_, _, _, by simp, rfl⟩
        | 3, _ => exact ⟨_, _, _, by simp, rfl⟩
        | 4, _ => exact ⟨_, _, _, by simp, rfl⟩
        | 5, _ => exact ⟨_, _, _, by simp, rfl⟩
      have HM := Aside0.mk hmem
      have HCL := Aside0.mk hcell
      clear hmem hcell
      obtain ⟨L, hLL⟩ : ∃ L, L = [(As, s.length, cs), (At, t.length, ct), (Ad, d.length, cd), (Ah, h.length, ch), (Ap, p.length, cp), (Ar, r.length, cr)] := ⟨_, rfl⟩
      rw [← hLL] at HI HL HM HCL
      have HLL := Aside0.mk hLL
      clear hLL
      go_wp2
      go_loopg [24] n (fun gg v24 wr2 => ∃ j : Nat, v24 = .int .i64 (j : Int) ∧ j ≤ n ∧ n - j ≤ gg ∧ Aside0 (Own w w6.heap.size wr2 Ax cx l0 Ay cy l1 w14.heap.size L) ∧ Aside0 (wr2.heap[w14.heap.size]? = some (.cells (ownCells L) 57 (0, 0))))
      case atStart => exact ⟨0, rfl, by omega, by omega, HI, HL⟩
      case round =>
        clear HI HL
        obtain ⟨j, rfl, hj, hgj, HI, HL⟩ := hrel
        have hl_ : wr.cell? ⟨w14.heap.size, i, none⟩ = some (.slice A n c) := (blk_cell HL.out i).trans HCL.out
        by_cases hjn : j < n
        · have hjz : decide ((j : Int) < (n : Int)) = true := decide_eq_true (by omega)
          have hj0 : decide ((j : Int) < 0) = false := decide_eq_false (by omega)
          have hj1 : decide ((n : Int) ≤ (j : Int)) = false := decide_eq_false (by omega)
          obtain ⟨g, z, rfl, hg1, hg2, hgc, hgf⟩ := HI.out.rows _ HM.out j hjn
          have hnl : n ≤ 9223372036854775807 := HI.out.long _ HM.out
          have HI2 := Aside0.mk (HI.out.set (g := g) (i := j) hg1 77)
          have HL2 := Aside0.mk (show (wr.setCell ⟨g, j, none⟩ (.int .u64 77)).heap[w14.heap.size]? = some (.cells (ownCells L) 57 (0, 0)) from (Below.heap_setCell wr ⟨g, j, none⟩ _ w14.heap.size (by show w14.heap.size ≠ g; omega)).trans HL.out)
          clear HI HL
          go_wp2_with ((with_reducible refine gate_store (t := 62) (p := 106) rfl ?_); refine store_event (t := 62) (p := 106) (v := ?vo) (w1 := (wr.setCell ⟨g, j, none⟩ (.int .u64 77))) ?hg ?ho ?hn ?hr ?_; (case ho => rfl); (case hg => rfl); (case hn => rfl); (case hr => first | (go_simp; done) | (go_simp; rfl)); intro w5 hw; subst hw)
          go_roundg (n - (j + 1))
          case measure => omega
          case rel => exact ⟨j + 1, by go_num, by omega, by omega, HI2, HL2⟩
        · have hjz : decide ((j : Int) < (n : Int)) = false := decide_eq_false (by omega)
          have hLL := HLL.out
          subst hLL
          go_wp2
          go_roundg (6 - (i + 1))
          case measure => omega
          case rel => exact ⟨i + 1, by go_num, by omega, by omega, HI, HL⟩
    · have hltz : decide ((i : Int) < 6) = false := decide_eq_false (by omega)
      clear hgg
      go_wp2_with (first
        | (go_at_call 25; refine (windbreakref01_Same.calls k Ax cx l0 A0 c0 l0 _ _ HI.out.x.C HI.out.x.2 (Kd.C_below HR0.out HI.out.hb) HC0.out H7.out).mono ?_; rintro e w16 ⟨rfl, ⟨z3, rfl⟩⟩; clear H7)
        | (go_at_call 25; refine (windbreakref01_Same.calls k Ay cy l1 A1 c1 l1 _ _ (HI.out.below (pw_below_drewN (Below.refl _ _) _)).y.C HI.out.y.2 (Kd.C_below HR1.out (HI.out.below (pw_below_drewN (Below.refl _ _) _)).hb) HC1.out H8.out).mono ?_; rintro e w17 ⟨rfl, ⟨z4, rfl⟩⟩; clear H8)
        | ((with_reducible refine gate_dst (N := 114) rfl ?_); refine Kd.R_lit (Kd.int .u64) _ 62 ?hg (N := 114) ?hd (xs := ([1] : List Int)) (inner := [.int .u64 1]) (ok := fun _ => True) (okp := fun _ => True) ?hr ?hp (fun _ hk => hk) trivial (Below.refl _ _) (Nat.le_refl _) (by simp) ?_; (case hd => rfl); (case hg => rfl); (case hr => first | (go_simp; done) | (go_simp; rfl)); (case hp => exact (Reps.one (show Kd.M (Kd.int .u64) _ _ _ 1 [.int .u64 1] from rfl) (Reps.none _ _))); intro v7 w18 ho hb hg_ hnew_; clear hg_ hnew_; obtain ⟨A7, c7, ev⟩ := Kd.R_slice ho; subst ev; have HO7 := Aside0.mk (Ro.of ho); have HB9 := Aside0.mk (below_step (by have hz := HI.out.hb; repeat (first | exact hz | apply pw_below_drewN | apply below_drew)) hb); clear ho hb)
        | (go_at_call 20; (refine (nat_Add.calls k _ A7 c7 [1] _ none 0 [] u eu _ HO7.out.V (Ro.nil _).V H9.out).mono ?_; rintro e w19 ⟨v, rfl, ho, hb⟩; obtain ⟨Au, cu, ev⟩ := Kd.R_slice ho; subst ev; have HB10 := Aside0.mk (below_step HB9.out hb); clear HB9 H9 ho hb)))
      have hu := HU10.out
      go_ret
      exact ⟨by simp [hu], HB10.out⟩
def windbreaklaw01_NatOwn.Pure : Prop := ∀ a b : List Int, a.length ≤ maxLen → (∀ x ∈ a, (Lit.int .u64 x).wf = true) → b.length ≤ maxLen → (∀ x ∈ b, (Lit.int .u64 x).wf = true) → ∃ k, natOwn.f k a b = some true ∧ (windbreakref01_Right.f a = some true → a.length ≤ 64) ∧ (windbreakref01_Right.f b = some true → b.length ≤ 64)
theorem windbreaklaw01_NatOwn.row (hp : windbreaklaw01_NatOwn.Pure) (w : World) (A0 : Option Addr) (n0 c0 : Nat) (x0 : List Int) (h0 : (Kd.slice 62 (Kd.int .u64)).K w x0 [.slice A0 n0 c0]) (o0 : x0.length ≤ maxLen ∧ ∀ x ∈ x0, (Lit.int .u64 x).wf = true) (A1 : Option Addr) (n1 c1 : Nat) (x1 : List Int) (h1 : (Kd.slice 62 (Kd.int .u64)).K w x1 [.slice A1 n1 c1]) (o1 : x1.length ≤ maxLen ∧ ∀ x ∈ x1, (Lit.int .u64 x).wf = true) :
    Calls Try.prog 5 #[.slice A0 n0 c0, .slice A1 n1 c1] w fun e w' => e = .returned (.bool true) ∧ Below w.heap.size w w' := by
  obtain ⟨B0, d0, e0, l0, r0⟩ := h0
  simp only [List.cons.injEq, Value.slice.injEq, and_true] at e0
  obtain ⟨rfl, rfl, rfl⟩ := e0
  obtain ⟨B1, d1, e1, l1, r1⟩ := h1
  simp only [List.cons.injEq, Value.slice.injEq, and_true] at e1
  obtain ⟨rfl, rfl, rfl⟩ := e1
  obtain ⟨k, hk, ha, hb⟩ := hp x0 x1 o0.1 o0.2 o1.1 o1.2
  unfold natOwn.f at hk
  obtain ⟨a, ea, hk'⟩ := Option.bind_eq_some_iff.mp hk
  clear hk
  obtain ⟨b, eb, hk⟩ := Option.bind_eq_some_iff.mp hk'
  clear hk'
  by_cases hab : a = true ∧ b = true
  · rw [if_pos hab] at hk
    obtain ⟨rfl, rfl⟩ := hab
    obtain ⟨⟨s, es⟩, k1, hk⟩ := Option.bind_eq_some_iff.mp hk
    obtain ⟨⟨t, et⟩, k2, hk⟩ := Option.bind_eq_some_iff.mp hk
    obtain ⟨⟨d, ed⟩, k3, hk⟩ := Option.bind_eq_some_iff.mp hk
    obtain ⟨⟨h, eh⟩, k4, hk⟩ := Option.bind_eq_some_iff.mp hk
    obtain ⟨⟨p, ep⟩, k5, hk⟩ := Option.bind_eq_some_iff.mp hk
    obtain ⟨⟨q, r, er⟩, k6, hk⟩ := Option.bind_eq_some_iff.mp hk
    obtain ⟨one, k7, hk⟩ := Option.bind_eq_some_iff.mp hk
    obtain ⟨two, k8, hk⟩ := Option.bind_eq_some_iff.mp hk
    obtain ⟨⟨u, eu⟩, k9, hk⟩ := Option.bind_eq_some_iff.mp hk
    by_cases hz : one = true ∧ two = true ∧ u.length = 1
    · obtain ⟨rfl, rfl, hu⟩ := hz
      have m0 := ha ea
      have m1 := hb eb
      exact natOwn.good k A0 c0 x0 A1 c1 x1 s t d h p q r u es et ed eh ep er eu w r0 l0 r1 l1 ea eb (by omega) (by omega) k1 k2 k3 k4 k5 k6 k7 k8 k9 hu
    · rw [if_neg hz] at hk
      cases hk
  · exact natOwn.odd A0 c0 x0 A1 c1 x1 a b w r0 l0 r1 l1 ea eb hab
end Go.Proofs.Ytnaphgnkhhapoaa.F
end
section
namespace Go.Proofs.Ytnaphgnkhhapoaa.F
open Go.RowKit Go.Deep Go.ChangeShapes Go.Proofs.YtnaphgnkhhapoaaW.PrintWords
set_option linter.unusedSimpArgs false
set_option linter.unusedVariables false
def Opens {α : Type} (P : Program) (t : TypeId) (d : Kd α) (ok : α → Prop) : Prop :=
  ∀ {H : Type} (enc : TypeId × Value → H) (w : World) (held : Bool) (fuel : Nat) (cs : List Value) (x : DataW H × List MemPlace), DataW.trod enc P w 0 (fun _ => true) held fuel t cs = some x → ∃ a : α, d.K w a cs ∧ ok a
theorem Opens.int {P : Program} {t : TypeId} {k : IntKind} (ht : P.underlying t = some (.int k)) : Opens P t (Kd.int k) (fun n => (Lit.int k n).wf = true) := by
  intro H enc w held fuel cs x h
  obtain ⟨n, rfl, _, hw⟩ := DataW.trod_int ht h
  exact ⟨n, rfl, hw⟩
theorem choose_list {α : Type} {n : Nat} {p : Nat → α → Prop} (h : ∀ i, i < n → ∃ x, p i x) : ∃ l : List α, l.length = n ∧ ∀ i x, l[i]? = some x → p i x := by
  induction n with
  | zero => exact ⟨[], rfl, fun i x hx => by simp at hx⟩
  | succ n ih =>
    obtain ⟨l, hl, hp⟩ := ih (fun i hi => h i (by omega))
    obtain ⟨x, hx⟩ := h n (by omega)
    refine ⟨l ++ [x], by simp [hl], fun i y hy => ?_⟩
    rcases Nat.lt_or_ge i l.length with hi | hi
    · rw [List.getElem?_append_left hi] at hy
      exact hp i y hy
    · rw [List.getElem?_append_right hi] at hy
      have h0 : i - l.length = 0 := by
        rcases Nat.eq_zero_or_pos (i - l.length) with h0 | h0
        · exact h0
        · rw [List.getElem?_eq_none (by simp; omega)] at hy; cases hy
      rw [h0] at hy
      obtain rfl : x = y := by simpa using hy
      obtain rfl : i = n := by omega
      exact hx
theorem Opens.slice {α : Type} {P : Program} {t e : TypeId} {d : Kd α} {ok : α → Prop} (ht : P.underlying t = some (.slice e)) (hs : P.cellsOf e = d.sz) (hd : Opens P e d ok) : Opens P t (Kd.slice e d) (fun xs => xs.length ≤ maxLen ∧ ∀ x ∈ xs, ok x) := by
  intro H enc w held fuel cs x h
  rcases open_slice ht h with ⟨rfl, _⟩ | ⟨a, len, cap, m, n, D, Pl, rfl, _, hlc, hcm, hm, _, hel⟩
  · exact ⟨[], ⟨none, 0, rfl, Nat.le_refl _, Kd.C_nil d w⟩, Nat.zero_le _, fun x hx => by cases hx⟩
  · have hlm : len ≤ m := by simp at hm; omega
    have h1 : ∀ i, i < len → ∃ y : α, (∃ c, c.length = d.sz ∧ d.K w y c ∧ ∀ j u, c[j]? = some u → w.cell? (a.add (i * d.sz + j)) = some u) ∧ ok y := by
      intro i hi
      obtain ⟨cs', hc, htr⟩ := hel i (by omega)
      obtain ⟨y, hK, hok⟩ := hd enc w held n cs' _ htr
      obtain ⟨_, hl, hcell⟩ := World.cells?_some hc
      refine ⟨y, ⟨cs', by rw [hl, hs], hK, fun j u hu => ?_⟩, hok⟩
      have hj : j < P.cellsOf e := by have := (List.getElem?_eq_some_iff.1 hu).1; omega
      have := hcell j hj
      rw [Go.Deep.add_add, hs, hu] at this
      exact this
    obtain ⟨xs, hxl, hxp⟩ := choose_list h1
    have hml : len ≤ maxLen := Nat.le_trans hlc hcm
    refine ⟨xs, ⟨some a, cap, by rw [hxl], by omega, ⟨rfl, ?_, fun hp => ⟨a, rfl, fun j p hj => (hxp j p hj).1⟩⟩⟩, by omega, fun x hx => ?_⟩
    · unfold maxLen at hml; omega
    · obtain ⟨i, hi⟩ := List.getElem?_of_mem hx
      exact (hxp i x hi).2
theorem Opens.elem {α : Type} {H : Type} {enc : TypeId × Value → H} {P : Program} {w : World} {held : Bool} {fuel : Nat} {t e : TypeId} {cs : List Value} {x : DataW H × List MemPlace} {n : Nat} (ht : P.underlying t = some (.array n e)) (h : DataW.trod enc P w 0 (fun _ => true) held fuel t cs = some x) {d : Kd α} {ok : α → Prop} (i : Nat) (hi : i < n) (hd : Opens P e d ok) :
    ∃ a : α, d.K w a ((cs.drop (i * P.cellsOf e)).take (P.cellsOf e)) ∧ ok a := by
  obtain ⟨xs, m, _, _, _, hl, hx⟩ := DataW.trod_array ht h
  have h1 := hx i hi
  rw [List.getElem?_eq_getElem (by omega)] at h1
  exact hd enc w held m _ _ h1
end Go.Proofs.Ytnaphgnkhhapoaa.F
end
section
namespace Go.Proofs.Ytnaphgnkhhapoaa.Z
open Go.RowKit Go.Proofs.YtnaphgnkhhapoaaW.PrintWords Go.Proofs.YtnaphgnkhhapoaaW.PrintMore
set_option linter.unusedSimpArgs false
set_option linter.unusedVariables false
def downL (s : Nat) : List Int → List Int
  | [] => []
  | x :: l => (x / 2 ^ s + (if s = 0 then 0 else (l.getD 0 0 * 2 ^ (64 - s)) % 18446744073709551616)) :: downL s l
theorem downL_facts (s : Nat) (hs : s < 64) (l : List Int) (d : Dig (b64 : Int) l) : Dig (b64 : Int) (downL s l) ∧ (downL s l).length = l.length ∧ val (b64 : Int) (downL s l) * 2 ^ s + l.getD 0 0 % 2 ^ s = val (b64 : Int) l := by
  have hB : (b64 : Int) = 18446744073709551616 := rfl
  have hps := pow2_pos s
  induction l with
  | nil => exact ⟨Dig.nil, rfl, by simp [downL, val]⟩
  | cons x l ih =>
    have d1 := Dig.cons.1 d
    obtain ⟨i1, i2, i3⟩ := ih d1.2
    have rx := d1.1
    have ry := d1.2.getD b64_pos 0
    rw [hB] at rx ry
    by_cases h0 : s = 0
    · subst h0
      simp only [downL, Int.pow_zero, Int.ediv_one, if_true, Int.add_zero] at i3 ⊢
      refine ⟨Dig.cons.2 ⟨by rw [hB]; exact rx, i1⟩, by simp [i2], ?_⟩
      simp only [val, List.getD_cons_zero, Int.emod_one, Int.add_zero, Int.mul_one] at i3 ⊢
      rw [i3]
    · have hp64 := pow64_split (s := s) (by omega)
      have hq := pow2_pos (64 - s)
      obtain ⟨f1, f2, f3, f4⟩ := shl_facts ry (s := 64 - s) (by omega)
      rw [show 64 - (64 - s) = s from by omega] at f1 f3 f4
      simp only [downL, if_neg h0]
      have e1 := Int.emod_add_mul_ediv x (2 ^ s)
      have e2 := Int.emod_nonneg x (show (2 : Int) ^ s ≠ 0 by omega)
      have e3 := Int.emod_lt_of_pos x hps
      have e4 := Int.emod_add_mul_ediv (l.getD 0 0) (2 ^ s)
      generalize hz : (l.getD 0 0 * 2 ^ (64 - s)) % 18446744073709551616 = z at *
      generalize hxd : x / 2 ^ s = xd at *
      generalize hyd : l.getD 0 0 / 2 ^ s = yd at *
      generalize l.getD 0 0 = y at *
      have hxd1 : xd < 2 ^ (64 - s) := by
        rw [← hxd]
        apply Int.ediv_lt_of_lt_mul hps
        rw [Int.mul_comm, hp64]
        exact rx.2
      have hxd0 : 0 ≤ xd := by rw [← hxd]; exact Int.ediv_nonneg rx.1 (by omega)
      obtain ⟨t, ht⟩ := Int.dvd_of_emod_eq_zero f2
      have hz0 : 0 ≤ z := by omega
      have hz1 : z < 18446744073709551616 := by omega
      refine ⟨Dig.cons.2 ⟨?_, i1⟩, by simp [i2], ?_⟩
      · rw [hB]
        refine ⟨by omega, ?_⟩
        have ht2 : t < 2 ^ s := by
          refine Int.not_le.1 (fun hle => ?_)
          have := Int.mul_le_mul_of_nonneg_left hle (Int.le_of_lt hq)
          rw [Int.mul_comm ((2 : Int) ^ (64 - s)) (2 ^ s), hp64] at this
          omega
        have h5 : 2 ^ (64 - s) * (t + 1) ≤ (2 : Int) ^ (64 - s) * 2 ^ s := Int.mul_le_mul_of_nonneg_left (by omega) (by omega)
        rw [Int.mul_comm ((2 : Int) ^ (64 - s)) (2 ^ s), hp64, Int.mul_add] at h5
        omega
      · simp only [val, List.getD_cons_zero]
        rw [hB] at i3 ⊢
        generalize val 18446744073709551616 (downL s l) = vd at *
        generalize val 18446744073709551616 l = vl at *
        generalize x % 2 ^ s = xm at *
        generalize y % 2 ^ s = ym at *
        have hP : (2 : Int) ^ (64 - s) * 2 ^ s = 18446744073709551616 := by rw [Int.mul_comm]; exact hp64
        generalize (2 : Int) ^ s = P at *
        generalize (2 : Int) ^ (64 - s) = Q at *
        have e5 : (xd + z + 18446744073709551616 * vd) * P + xm = P * xd + xm + (z * P + 18446744073709551616 * (vd * P)) := by grind
        rw [e5]
        have e6 : z = y * Q - 18446744073709551616 * yd := by omega
        have e7 : z * P = 18446744073709551616 * ym := by
          rw [e6, ← e4, ← hP]
          grind
        rw [e7]
        omega
theorem num_drop {a : List Int} (da : Dig (b64 : Int) a) (m : Nat) (hm : m ≤ a.length) : num (a.drop m) = num a / b64 ^ m := by
  have h1 := num_val da
  have h2 := num_val (da.drop m)
  have h3 := num_val (da.take m)
  have h4 := num_lt (da.take m)
  have h5 := val_append (b64 : Int) (a.take m) (a.drop m)
  rw [List.take_append_drop, ← h1, ← h2, ← h3, List.length_take, show min m a.length = m from by omega, pow_cast] at h5
  rw [List.length_take, show min m a.length = m from by omega] at h4
  have h6 : num a = num (a.take m) + b64 ^ m * num (a.drop m) := by
    have : ((num (a.take m) + b64 ^ m * num (a.drop m) : Nat) : Int) = (num (a.take m) : Int) + ((b64 ^ m : Nat) : Int) * (num (a.drop m) : Int) := by simp
    omega
  rw [h6, Nat.add_mul_div_left _ _ (Nat.pow_pos (by decide)), Nat.div_eq_of_lt h4, Nat.zero_add]
theorem num_down {a : List Int} (da : Dig (b64 : Int) a) (s : Nat) (hs : s < 64) : num (downL s a) = num a / 2 ^ s := by
  obtain ⟨d, _, e⟩ := downL_facts s hs a da
  have h1 := num_val d
  have h2 := num_val da
  have hp := pow2_pos s
  have hr0 := Int.emod_nonneg (a.getD 0 0) (show (2 : Int) ^ s ≠ 0 by omega)
  have hr1 := Int.emod_lt_of_pos (a.getD 0 0) hp
  rw [← h1, ← h2] at e
  generalize a.getD 0 0 % 2 ^ s = r at *
  obtain ⟨r', rfl⟩ := Int.eq_ofNat_of_zero_le hr0
  have hP : (2 : Int) ^ s = ((2 ^ s : Nat) : Int) := by simp
  rw [hP] at e hr1
  have e2 : num a = r' + 2 ^ s * num (downL s a) := by
    have : ((r' + 2 ^ s * num (downL s a) : Nat) : Int) = (r' : Int) + ((2 ^ s : Nat) : Int) * (num (downL s a) : Int) := by simp
    rw [Int.mul_comm] at e
    omega
  rw [e2, Nat.add_mul_div_left _ _ (Nat.pow_pos (by decide)), Nat.div_eq_of_lt (by omega), Nat.zero_add]
end Go.Proofs.Ytnaphgnkhhapoaa.Z
end
section
namespace Go.Proofs.Ytnaphgnkhhapoaa.Z
open Go.RowKit Go.Proofs.Ytnaphgnkhhapoaa.F Go.Proofs.YtnaphgnkhhapoaaW.PrintWords Go.Proofs.YtnaphgnkhhapoaaW.PrintMore
set_option linter.unusedSimpArgs false
set_option linter.unusedVariables false
def shrV (a : List Int) (n : Int) : List Int × Int :=
  if rightB a = true ∧ 0 ≤ n then (limbs (num a / 2 ^ n.toNat), 0) else ([], 1)
theorem nat_Shr_loop (a : List Int) (da : Dig (b64 : Int) a) (ha : a.length ≤ 100000) (s : Nat) (hs : s < 64) {r : List Int × Int} (fin : Evt (fun k => nat_told.f k (downL s a)) r) (n : Nat) :
    ∀ (i : Nat) (p : List Int), a.length - i = n → i ≤ a.length → p.length = i → p ++ downL s (a.drop i) = downL s a →
      Evt (fun k => nat_Shr.l0 k a (s : Int) (p ++ List.replicate n 0) (a.length : Int) (i : Int)) (r.1, r.2) := by
  induction n with
  | zero =>
    intro i p hn hi hp he
    refine Evt.succ ?_
    simp only [nat_Shr.l0]
    refine Evt.ite_neg (by omega) ?_
    rw [List.drop_of_length_le (by omega)] at he
    simp only [downL, List.append_nil] at he
    rw [List.replicate_zero, List.append_nil, he]
    exact Evt.bind fin (h := fun t _ => some (t.1, t.2)) (Evt.pure _)
  | succ n ih =>
    intro i p hn hi hp he
    have hlt : i < a.length := by omega
    have rx := da a[i] (List.getElem_mem hlt)
    have ry := (da.drop (i + 1)).getD b64_pos 0
    have hB : (b64 : Int) = 18446744073709551616 := rfl
    rw [hB] at rx ry
    rw [List.drop_eq_getElem_cons hlt] at he
    simp only [downL] at he
    have hx : rd a (i : Int) = a[i] := by simp [rd_nat, hlt]
    refine Evt.succ ?_
    simp only [nat_Shr.l0]
    refine Evt.ite_pos (by omega) (Evt.ite_pos (by omega) (Evt.ite_pos (by omega) (Evt.ite_pos (by omega) (Evt.ite_pos (by simp; omega) ?_))))
    refine Evt.bind (Evt.pure _) ?_
    rw [hx, shr_u64 _ s (by omega), show ((i : Int)).toNat = p.length from by omega, List.replicate_succ, set_at, w64 (show -9223372036854775808 ≤ (i : Int) + 1 by omega) (by omega)]
    have hps := pow2_pos s
    have hxd0 : 0 ≤ a[i] / 2 ^ s := Int.ediv_nonneg rx.1 (by omega)
    by_cases h0 : s = 0
    · refine Evt.ite_neg (by omega) ?_
      rw [if_pos h0, Int.add_zero] at he
      refine (ih (i + 1) (p ++ [a[i] / 2 ^ s]) (by omega) (by omega) (by simp; omega) (by rw [List.append_assoc]; exact he)).congr (fun k => ?_) rfl
      rw [List.append_assoc]; rfl
    · refine Evt.ite_pos (by omega) ?_
      rw [if_neg h0] at he
      by_cases h1 : i + 1 < a.length
      · refine Evt.ite_pos (by omega) (Evt.ite_pos (by omega) (Evt.ite_pos (by rw [wu64_of (by omega) (by omega)]; omega) ?_))
        have hy : rd a ((i : Int) + 1) = a[i + 1] := by
          rw [show (i : Int) + 1 = ((i + 1 : Nat) : Int) from by omega, rd_nat]
          simp [List.getD_eq_getElem?_getD, h1]
        have hy2 : (a.drop (i + 1)).getD 0 0 = a[i + 1] := by simp [List.getD_eq_getElem?_getD, h1]
        have hg : rd (p ++ a[i] / 2 ^ s :: List.replicate n 0) (i : Int) = a[i] / 2 ^ s := by
          rw [rd_nat]
          simp [List.getD_eq_getElem?_getD, ← hp]
        rw [hy2] at he ry
        obtain ⟨f1, f2, f3, f4⟩ := shl_facts ry (s := 64 - s) (by omega)
        have hxd1 : a[i] / 2 ^ s < 2 ^ (64 - s) := by
          apply Int.ediv_lt_of_lt_mul hps
          rw [Int.mul_comm, pow64_split (by omega)]
          exact rx.2
        have hz0 : 0 ≤ (a[i + 1] * 2 ^ (64 - s)) % 18446744073709551616 := by omega
        have hz1 : (a[i + 1] * 2 ^ (64 - s)) % 18446744073709551616 < 18446744073709551616 := by omega
        have hq64 : (2 : Int) ^ (64 - s) ≤ 2 ^ 64 := pow_mono (by omega) (by omega)
        rw [hy, hg, wu64_of (show (0 : Int) ≤ 64 - (s : Int) by omega) (by omega), show (64 : Int) - (s : Int) = ((64 - s : Nat) : Int) from by omega, shl_u64 _ (64 - s) (by omega), set_at, or_comm_u64 hxd0 (by omega) hz0 hz1, or_u64 (64 - s) (by omega) hz0 f2 hz1 hxd0 hxd1]
        refine (ih (i + 1) (p ++ [(a[i + 1] * 2 ^ (64 - s)) % 18446744073709551616 + a[i] / 2 ^ s]) (by omega) (by omega) (by simp; omega) (by rw [List.append_assoc, Int.add_comm ((a[i + 1] * 2 ^ (64 - s)) % 18446744073709551616)]; exact he)).congr (fun k => ?_) rfl
        rw [List.append_assoc]; rfl
      · refine Evt.ite_neg (by omega) ?_
        have hy2 : (a.drop (i + 1)).getD 0 0 = 0 := by rw [List.drop_of_length_le (by omega)]; rfl
        rw [hy2, Int.zero_mul, Int.zero_emod, Int.add_zero] at he
        refine (ih (i + 1) (p ++ [a[i] / 2 ^ s]) (by omega) (by omega) (by simp; omega) (by rw [List.append_assoc]; exact he)).congr (fun k => ?_) rfl
        rw [List.append_assoc]; rfl
theorem nat_Shr_ev (a : List Int) (n : Int) (ha : a.length ≤ maxLen) (da : Dig (b64 : Int) a) (hn9 : n < 9223372036854775808) : Evt (fun k => nat_Shr.f k a n) (shrV a n) := by
  unfold nat_Shr.f shrV
  rw [nat_Right_eq ha]
  simp only [Option.bind_some]
  have J : ∀ x : Bool, (x = false → rightB a = true ∧ 0 ≤ n) → Evt (fun k => nat_Shr.j0 k a n x) (if x = true then ([], 1) else (limbs (num a / 2 ^ n.toNat), 0)) := by
    intro x hx
    refine Evt.succ ?_
    simp only [nat_Shr.j0]
    refine Evt.cond (fun _ => Evt.pure _) (fun hc => ?_)
    have h := hx (by simpa using hc)
    obtain ⟨h1, c1⟩ := (rightB_iff a).1 h.1
    obtain ⟨m, rfl⟩ := Int.eq_ofNat_of_zero_le h.2
    rw [show ((m : Int)).toNat = m from Int.toNat_natCast m]
    have e1 : Int.tdiv (m : Int) 64 = ((m / 64 : Nat) : Int) := by rw [Int.tdiv_eq_ediv_of_nonneg (by omega)]; omega
    rw [e1, w64 (show -9223372036854775808 ≤ ((m / 64 : Nat) : Int) by omega) (by omega)]
    have hp := num_lt_p da h1
    by_cases hlen : a.length ≤ m / 64
    · have e : num a / 2 ^ m = 0 := by
        apply Nat.div_eq_of_lt
        exact Nat.lt_of_lt_of_le (num_lt da) (b64_le_pow2 (by omega))
      rw [e, show limbs 0 = [] from toD_zero b64]
      exact Evt.ite_pos (by omega) (Evt.pure _)
    · have e2 : IntKind.u64.wrap (Int.tmod (m : Int) 64) = ((m % 64 : Nat) : Int) := by
        rw [Int.tmod_eq_emod_of_nonneg (by omega), wu64_of (by omega) (by omega)]; omega
      rw [e2, Int.toNat_natCast]
      refine Evt.ite_neg (by omega) (Evt.ite_pos (by omega) (Evt.ite_pos (by omega) (Evt.ite_pos (by omega) (Evt.ite_pos (by simp; omega) ?_))))
      have dd := da.drop (m / 64)
      obtain ⟨g1, g2, g3⟩ := downL_facts (m % 64) (by omega) (a.drop (m / 64)) dd
      have hnum : num (downL (m % 64) (a.drop (m / 64))) = num a / 2 ^ m := by
        rw [num_down dd _ (by omega), num_drop da _ (by omega), b64_pow2, Nat.div_div_eq_div_mul, ← Nat.pow_add, show 64 * (m / 64) + m % 64 = m from by omega]
      have h3 : num a / 2 ^ m ≤ num a := Nat.div_le_self _ _
      have ht := nat_told_ev (downL (m % 64) (a.drop (m / 64))) (by rw [g2]; simp; omega) g1
      have e : toldV (num a / 2 ^ m) = (limbs (num a / 2 ^ m), 0) := if_pos (Nat.lt_of_le_of_lt h3 hp)
      rw [hnum, e] at ht
      refine (nat_Shr_loop (a.drop (m / 64)) dd (by simp; omega) (m % 64) (by omega) ht (a.drop (m / 64)).length 0 [] (by omega) (by omega) rfl (by simp)).congr (fun k => ?_) rfl
      rw [Int.toNat_natCast]
      rfl
  cases hA : rightB a with
  | true =>
    refine Evt.ite_pos rfl ((J _ (fun h => ⟨hA, by simpa using h⟩)).congr (fun k => rfl) ?_)
    by_cases hn : n < 0
    · rw [decide_eq_true hn, if_pos rfl, if_neg (show ¬ (true = true ∧ 0 ≤ n) by omega)]
    · rw [decide_eq_false hn, if_neg (by simp), if_pos (show true = true ∧ 0 ≤ n from ⟨rfl, by omega⟩)]
  | false =>
    refine Evt.ite_neg (by simp) ((J _ (fun h => by simp at h)).congr (fun k => rfl) ?_)
    simp
end Go.Proofs.Ytnaphgnkhhapoaa.Z
end
section
namespace Go.Proofs.Ytnaphgnkhhapoaa.Z
open Go.RowKit Go.Proofs.Ytnaphgnkhhapoaa.F Go.Proofs.YtnaphgnkhhapoaaW.PrintWords
set_option linter.unusedSimpArgs false
set_option linter.unusedVariables false
def mulV (a b : List Int) : List Int × Int := if rightB a = true ∧ rightB b = true then toldV (num a * num b) else ([], 1)
theorem nat_Mul_ev (a b : List Int) (ha : a.length ≤ maxLen) (hb : b.length ≤ maxLen) (da : Dig (b64 : Int) a) (db : Dig (b64 : Int) b) : Evt (fun k => nat_Mul.f k a b) (mulV a b) := by
  unfold nat_Mul.f mulV
  rw [nat_right_eq _ (by intro l hl; simp at hl; rcases hl with rfl | rfl <;> assumption)]
  simp only [Option.bind_some, List.all_cons, List.all_nil, Bool.and_true, Bool.and_eq_true]
  by_cases h : rightB a = true ∧ rightB b = true
  · rw [if_pos h]
    refine Evt.ite_pos h ?_
    obtain ⟨h1, c1⟩ := (rightB_iff a).1 h.1
    obtain ⟨h2, c2⟩ := (rightB_iff b).1 h.2
    have e : nat_product.f a b = some (limbs (num a * num b)) := by
      unfold nat_product.f
      rw [if_pos (by simp only [dig_limbB da, dig_limbB db, Bool.and_true, Bool.and_eq_true, decide_eq_true_eq]; omega)]
    refine Evt.bind (Evt.of fun _ => e) ?_
    have hl : (limbs (num a * num b)).length ≤ 128 := by
      refine toD_len_le b64_two ?_
      have g1 := num_lt_p da h1
      have g2 := num_lt_p db h2
      have g3 := Nat.mul_lt_mul'' g1 g2
      rw [← Nat.pow_add] at g3
      exact g3
    have ht := nat_told_ev (limbs (num a * num b)) (by omega) (toD_dig b64_two _)
    rw [num_limbs] at ht
    exact Evt.bind ht (h := fun t _ => some (t.1, t.2)) (Evt.pure _)
  · rw [if_neg h]
    exact Evt.ite_neg h (Evt.pure _)
end Go.Proofs.Ytnaphgnkhhapoaa.Z
end
section
namespace Go.Proofs.Ytnaphgnkhhapoaa.Z
open Go.RowKit Go.Proofs.YtnaphgnkhhapoaaW.PrintWords
set_option linter.unusedSimpArgs false
set_option linter.unusedVariables false
theorem can_last {a : List Int} (ca : Can a) (h0 : a.length ≠ 0) : a.getD (a.length - 1) 0 ≠ 0 := by
  have h : a ≠ [] := fun e => h0 (by rw [e]; rfl)
  have h2 := ca h
  rw [List.getLast_eq_getElem] at h2
  rw [List.getD_eq_getElem?_getD, List.getElem?_eq_getElem (show a.length - 1 < a.length by omega)]
  exact h2
def divV (a b : List Int) : List Int × List Int × Int :=
  if rightB a = true ∧ rightB b = true then (if num b = 0 then ([], [], 3) else (limbs (num a / num b), limbs (num a % num b), 0)) else ([], [], 1)
theorem num_zero_iff {b : List Int} (db : Dig (b64 : Int) b) (cb : Can b) : num b = 0 ↔ b.length = 0 := by
  constructor
  · intro h
    have := limbs_num db cb
    rw [h] at this
    rw [← this, show limbs 0 = [] from toD_zero b64]
    rfl
  · intro h
    rw [List.eq_nil_of_length_eq_zero h]
    rfl
theorem num_len_le {a b : List Int} (da : Dig (b64 : Int) a) (ca : Can a) (db : Dig (b64 : Int) b) (h : num a ≤ num b) : a.length ≤ b.length := by
  have h1 := limbs_num da ca
  rw [← h1]
  exact toD_len_le b64_two (Nat.lt_of_le_of_lt h (num_lt db))
end Go.Proofs.Ytnaphgnkhhapoaa.Z
end
section
namespace Go.Proofs.Ytnaphgnkhhapoaa.Z
open Go.RowKit Go.Proofs.Ytnaphgnkhhapoaa.F Go.Proofs.YtnaphgnkhhapoaaW.PrintWords Go.Proofs.YtnaphgnkhhapoaaW.PrintMore
set_option linter.unusedSimpArgs false
set_option linter.unusedVariables false
theorem limbs_dig' (v : Nat) : Dig (b64 : Int) (limbs v) := toD_dig b64_two v
theorem limbs_can' (v : Nat) : Can (limbs v) := toD_can b64_two v
theorem limbs_len' {v n : Nat} (h : v < b64 ^ n) : (limbs v).length ≤ n := toD_len_le b64_two h
theorem pow_pos64' (n : Nat) : 0 < b64 ^ n := Nat.pow_pos (by decide)
theorem num_strip' {l : List Int} (d : Dig (b64 : Int) l) : num (strip l) = num l := by rw [strip_limbs d, num_limbs]
theorem vdrop (B : Int) (a : List Int) (j : Nat) : val B (a.drop j) = a.getD j 0 + B * val B (a.drop (j + 1)) := by
  by_cases h : j < a.length
  · rw [List.drop_eq_getElem_cons h]
    simp [val, List.getD_eq_getElem?_getD, h]
  · rw [List.drop_of_length_le (by omega), List.drop_of_length_le (by omega)]
    simp [val, List.getD_eq_getElem?_getD, Nat.le_of_not_lt h]
theorem vsplit (B : Int) (a : List Int) (j : Nat) (hj : j ≤ a.length) : val B a = val B (a.take j) + B ^ j * val B (a.drop j) := by
  have := val_append B (a.take j) (a.drop j)
  rw [List.take_append_drop, List.length_take, Nat.min_eq_left hj] at this
  exact this
theorem clone_ev (l : List Int) (h : l.length ≤ 100000) : api_Nat_uint64.f l = some l := by
  unfold api_Nat_uint64.f
  simp only [Option.bind_some, List.nil_append, List.length_nil]
  rw [if_pos (by omega)]
theorem long_l2 (a q : List Int) (da : Dig (b64 : Int) a) (ha : a.length ≤ 100000) (hq : q.length ≤ 100000) (s : Nat) (hs : s < 64) (n : Nat) :
    ∀ (i : Nat) (p : List Int), a.length - i = n → i ≤ a.length → p.length = i → p ++ downL s (a.drop i) = downL s a →
      Evt (fun k => nat_long.l2 k (s : Int) q a (p ++ List.replicate n 0) (a.length : Int) (i : Int)) (strip q, strip (downL s a)) := by
  induction n with
  | zero =>
    intro i p hn hi hp he
    refine Evt.succ ?_
    simp only [nat_long.l2]
    refine Evt.ite_neg (by omega) ?_
    rw [List.drop_of_length_le (by omega)] at he
    simp only [downL, List.append_nil] at he
    rw [List.replicate_zero, List.append_nil, he]
    have hdl := (downL_facts s hs a da).2.1
    exact Evt.bind (nat_trim_ev q (by simp [maxLen]; omega)) (Evt.bind (nat_trim_ev (downL s a) (by simp [maxLen]; omega)) (h := fun t _ => some (strip q, t)) (Evt.pure _))
  | succ n ih =>
    intro i p hn hi hp he
    have hlt : i < a.length := by omega
    have rx := da a[i] (List.getElem_mem hlt)
    have ry := (da.drop (i + 1)).getD b64_pos 0
    have hB : (b64 : Int) = 18446744073709551616 := rfl
    rw [hB] at rx ry
    rw [List.drop_eq_getElem_cons hlt] at he
    simp only [downL] at he
    have hx : rd a (i : Int) = a[i] := by simp [rd_nat, hlt]
    refine Evt.succ ?_
    simp only [nat_long.l2]
    refine Evt.ite_pos (by omega) (Evt.ite_pos (by omega) (Evt.ite_pos (by omega) (Evt.ite_pos (by omega) (Evt.ite_pos (by simp; omega) ?_))))
    refine Evt.bind (Evt.pure _) ?_
    rw [hx, shr_u64 _ s (by omega), show ((i : Int)).toNat = p.length from by omega, List.replicate_succ, set_at, w64 (show -9223372036854775808 ≤ (i : Int) + 1 by omega) (by omega)]
    have hps := pow2_pos s
    have hxd0 : 0 ≤ a[i] / 2 ^ s := Int.ediv_nonneg rx.1 (by omega)
    by_cases h0 : s = 0
    · refine Evt.ite_neg (by omega) ?_
      rw [if_pos h0, Int.add_zero] at he
      refine (ih (i + 1) (p ++ [a[i] / 2 ^ s]) (by omega) (by omega) (by simp; omega) (by rw [List.append_assoc]; exact he)).congr (fun k => ?_) rfl
      rw [List.append_assoc]; rfl
    · refine Evt.ite_pos (by omega) ?_
      rw [if_neg h0] at he
      by_cases h1 : i + 1 < a.length
      · refine Evt.ite_pos (by omega) (Evt.ite_pos (by omega) (Evt.ite_pos (by rw [wu64_of (by omega) (by omega)]; omega) ?_))
        have hy : rd a ((i : Int) + 1) = a[i + 1] := by
          rw [show (i : Int) + 1 = ((i + 1 : Nat) : Int) from by omega, rd_nat]
          simp [List.getD_eq_getElem?_getD, h1]
        have hy2 : (a.drop (i + 1)).getD 0 0 = a[i + 1] := by simp [List.getD_eq_getElem?_getD, h1]
        have hg : rd (p ++ a[i] / 2 ^ s :: List.replicate n 0) (i : Int) = a[i] / 2 ^ s := by
          rw [rd_nat]
          simp [List.getD_eq_getElem?_getD, ← hp]
        rw [hy2] at he ry
        obtain ⟨f1, f2, f3, f4⟩ := shl_facts ry (s := 64 - s) (by omega)
        have hxd1 : a[i] / 2 ^ s < 2 ^ (64 - s) := by
          apply Int.ediv_lt_of_lt_mul hps
          rw [Int.mul_comm, pow64_split (by omega)]
          exact rx.2
        have hz0 : 0 ≤ (a[i + 1] * 2 ^ (64 - s)) % 18446744073709551616 := by omega
        have hz1 : (a[i + 1] * 2 ^ (64 - s)) % 18446744073709551616 < 18446744073709551616 := by omega
        have hq64 : (2 : Int) ^ (64 - s) ≤ 2 ^ 64 := pow_mono (by omega) (by omega)
        rw [hy, hg, wu64_of (show (0 : Int) ≤ 64 - (s : Int) by omega) (by omega), show (64 : Int) - (s : Int) = ((64 - s : Nat) : Int) from by omega, shl_u64 _ (64 - s) (by omega), set_at, or_comm_u64 hxd0 (by omega) hz0 hz1, or_u64 (64 - s) (by omega) hz0 f2 hz1 hxd0 hxd1]
        refine (ih (i + 1) (p ++ [(a[i + 1] * 2 ^ (64 - s)) % 18446744073709551616 + a[i] / 2 ^ s]) (by omega) (by omega) (by simp; omega) (by rw [List.append_assoc, Int.add_comm ((a[i + 1] * 2 ^ (64 - s)) % 18446744073709551616)]; exact he)).congr (fun k => ?_) rfl
        rw [List.append_assoc]; rfl
      · refine Evt.ite_neg (by omega) ?_
        have hy2 : (a.drop (i + 1)).getD 0 0 = 0 := by rw [List.drop_of_length_le (by omega)]; rfl
        rw [hy2, Int.zero_mul, Int.zero_emod, Int.add_zero] at he
        refine (ih (i + 1) (p ++ [a[i] / 2 ^ s]) (by omega) (by omega) (by simp; omega) (by rw [List.append_assoc]; exact he)).congr (fun k => ?_) rfl
        rw [List.append_assoc]; rfl
theorem long_l1 (r d q part sN : List Int) (s dk gs : Int) (a : Nat) (hpart : part.length ≤ 1000) (hdl : d.length ≤ 1000) (dp : Dig (b64 : Int) part) (dd : Dig (b64 : Int) d) (hg0 : 0 ≤ gs)
    (hfit : ∀ g : Int, 0 ≤ g → (num d * g.toNat ≤ num part ↔ g ≤ gs)) (hs : Evt (fun k => nat_less.f k part (limbs (num d * gs.toNat))) sN) (hsl : sN.length = part.length) (haq : a < q.length) (ha : a ≤ 1000000)
    {res : List Int × List Int} (fin : Evt (fun k => nat_long.l0 k s (r.take a ++ (sN ++ r.drop (a + part.length))) d dk (q.set a gs) ((a : Int) - 1)) res) (n : Nat) :
    ∀ g : Int, gs ≤ g → g < 18446744073709551616 → g - gs ≤ n → Evt (fun k => nat_long.l1 k s r d dk q (a : Int) g part) res := by
  have step : ∀ g : Int, gs ≤ g → g < 18446744073709551616 → (gs < g → Evt (fun k => nat_long.l1 k s r d dk q (a : Int) (IntKind.u64.wrap (g - 1)) part) res) → Evt (fun k => nat_long.l1 k s r d dk q (a : Int) g part) res := by
    intro g h1 h2 hnext
    have dg : Dig (b64 : Int) [g] := Dig.cons.2 ⟨⟨by omega, h2⟩, Dig.nil⟩
    have hng : num (strip [g]) = g.toNat := by rw [num_strip' dg, num_one (by omega)]
    refine Evt.succ ?_
    simp only [nat_long.l1]
    refine Evt.bind (nat_Of_ev g) ?_
    refine Evt.bind (nat_school_ev d (strip [g]) (by omega) (by have := strip_length [g]; simp at this; omega) dd (by rw [strip_limbs dg]; exact limbs_dig' _)) ?_
    refine Evt.bind (Evt.of (fun _ => clone_ev part (by omega))) ?_
    refine Evt.bind (nat_trim_ev part (by simp [maxLen]; omega)) ?_
    rw [hng, strip_limbs dp]
    refine Evt.bind (nat_compare_ev (limbs (num part)) (limbs (num d * g.toNat)) (limbs_dig' _) (limbs_dig' _) (limbs_can' _) (limbs_can' _) (by have := limbs_len' (num_lt dp); omega)) ?_
    rw [num_limbs, num_limbs]
    by_cases hle : g ≤ gs
    · obtain rfl : g = gs := by omega
      have hf := (hfit g hg0).2 (Int.le_refl _)
      refine Evt.ite_pos (by unfold cmpN; rw [if_neg (by omega)]; split <;> omega) ?_
      refine Evt.bind hs ?_
      refine Evt.ite_pos hsl (Evt.ite_pos (by omega) (Evt.ite_pos (by omega) ?_))
      rw [Int.toNat_natCast, w64 (by omega) (by omega)]
      exact fin
    · have hf : ¬ num d * g.toNat ≤ num part := fun h => hle ((hfit g (by omega)).1 h)
      refine Evt.ite_neg (by unfold cmpN; rw [if_pos (by omega)]; omega) ?_
      exact hnext (by omega)
  induction n with
  | zero =>
    intro g h1 h2 h3
    exact step g h1 h2 (fun h => absurd h (by omega))
  | succ n ih =>
    intro g h1 h2 h3
    refine step g h1 h2 (fun h => ?_)
    rw [wu64_of (by omega) (by omega)]
    exact ih (g - 1) (by omega) (by omega) (by omega)
theorem guess_fits {X D P0 D0 W r2 r1 r0 d1 d0 g h : Int} (hX : X = P0 + W * (r0 + 18446744073709551616 * (r1 + 18446744073709551616 * r2))) (hD : D = D0 + W * (d0 + 18446744073709551616 * d1))
    (hP : P0 < W) (hD0 : 0 ≤ D0) (hW : 0 < W) (hh : 0 ≤ h) (hfit : h * D ≤ X) : h * (d1 * 18446744073709551616 + d0) ≤ (r2 * 18446744073709551616 + r1) * 18446744073709551616 + r0 := by
  refine Int.not_lt.1 (fun hlt => ?_)
  have e1 : (r2 * 18446744073709551616 + r1) * 18446744073709551616 + r0 + 1 ≤ h * (d1 * 18446744073709551616 + d0) := hlt
  have e2 := Int.mul_le_mul_of_nonneg_left e1 (Int.le_of_lt hW)
  have e3 : 0 ≤ h * D0 := Int.mul_nonneg hh hD0
  have e4 : h * D = h * D0 + W * (h * (d1 * 18446744073709551616 + d0)) := by rw [hD]; grind
  have e5 : W * ((r2 * 18446744073709551616 + r1) * 18446744073709551616 + r0 + 1) = W * (r0 + 18446744073709551616 * (r1 + 18446744073709551616 * r2)) + W := by grind
  omega
theorem long_l0 (s : Nat) (hs : s < 64) (d : List Int) (dd : Dig (b64 : Int) d) (cd : Can d) (hk : 2 ≤ d.length) (hdl : d.length ≤ 400) (A : Int) (ql : Nat) (hql : ql ≤ 400) (i : Nat) :
    ∀ r q : List Int, i ≤ ql → r.length = ql + d.length → q.length = ql → Dig (b64 : Int) r → Dig (b64 : Int) q → val (b64 : Int) (r.drop i) < val (b64 : Int) d → val (b64 : Int) (q.drop i) * (b64 : Int) ^ i * val (b64 : Int) d + val (b64 : Int) r = A →
      Evt (fun k => nat_long.l0 k (s : Int) r d (d.length : Int) q ((i : Int) - 1)) (limbs (A / val (b64 : Int) d).toNat, limbs ((A % val (b64 : Int) d).toNat / 2 ^ s)) := by
  have hB : (b64 : Int) = 18446744073709551616 := rfl
  have hDn := val_nonneg b64_pos dd
  induction i with
  | zero =>
    intro r q hi hr hq dr dq hlt hv
    rw [List.drop_zero] at hlt
    rw [List.drop_zero, Int.pow_zero, Int.mul_one] at hv
    have hrn := val_nonneg b64_pos dr
    have e1 : A / val (b64 : Int) d = val (b64 : Int) q := by
      rw [← hv, Int.mul_comm, Int.mul_add_ediv_left _ _ (by omega), Int.ediv_eq_zero_of_lt hrn hlt, Int.add_zero]
    have e2 : A % val (b64 : Int) d = val (b64 : Int) r := by
      rw [← hv, Int.mul_comm, Int.add_comm, Int.add_mul_emod_self_left, Int.emod_eq_of_lt hrn hlt]
    rw [e1, e2, show (val (b64 : Int) q).toNat = num q from rfl, show (val (b64 : Int) r).toNat = num r from rfl]
    refine Evt.succ ?_
    simp only [nat_long.l0]
    refine Evt.ite_neg (by omega) ?_
    refine Evt.bind (nat_trim_ev r (by simp [maxLen]; omega)) ?_
    have hsl := strip_length r
    refine Evt.ite_pos (by omega) (Evt.ite_pos (by omega) ?_)
    rw [Int.toNat_natCast]
    have dsr : Dig (b64 : Int) (strip r) := by rw [strip_limbs dr]; exact limbs_dig' _
    refine (long_l2 (strip r) q dsr (by omega) (by omega) s hs (strip r).length 0 [] (by omega) (by omega) rfl (by simp)).congr (fun k => by rfl) ?_
    have hdw := downL_facts s hs (strip r) dsr
    rw [strip_limbs dq, strip_limbs hdw.1, num_down dsr s hs, num_strip' dr]
  | succ a ih =>
    intro r q hi hr hq dr dq hlt hv
    rw [show ((a + 1 : Nat) : Int) - 1 = (a : Int) from by omega]
    have hDlt := val_lt b64_pos dd
    have h1 := vsplit (b64 : Int) (r.drop (a + 1)) d.length (by rw [List.length_drop]; omega)
    rw [List.drop_drop] at h1
    have h2 := val_nonneg b64_pos ((dr.drop (a + 1)).take d.length)
    have h3 := val_nonneg b64_pos (dr.drop (a + 1 + d.length))
    have hW : (0 : Int) < (b64 : Int) ^ d.length := Int.pow_pos b64_pos
    have h4 : val (b64 : Int) (r.drop (a + 1 + d.length)) = 0 := by
      refine Int.le_antisymm (Int.not_lt.1 (fun h => ?_)) h3
      have := Int.mul_le_mul_of_nonneg_left (show (1 : Int) ≤ val (b64 : Int) (r.drop (a + 1 + d.length)) from h) (Int.le_of_lt hW)
      omega
    have hX := vdrop (b64 : Int) r a
    have hra := dr.getD b64_pos a
    have hpartl : (((r.take (a + d.length + 1)).drop a)).length = d.length + 1 := by
      rw [List.length_drop, List.length_take]; omega
    have hpv : val (b64 : Int) ((r.take (a + d.length + 1)).drop a) = val (b64 : Int) (r.drop a) := by
      have h5 := vsplit (b64 : Int) (r.drop a) (d.length + 1) (by rw [List.length_drop]; omega)
      rw [List.drop_drop, show a + (d.length + 1) = a + 1 + d.length from by omega, h4, Int.mul_zero, Int.add_zero] at h5
      rw [List.drop_take, show a + d.length + 1 - a = d.length + 1 from by omega]
      exact h5.symm
    have dpart : Dig (b64 : Int) ((r.take (a + d.length + 1)).drop a) := (dr.take _).drop _
    have hXlt : val (b64 : Int) (r.drop a) < 18446744073709551616 * val (b64 : Int) d := by
      rw [hX, hB] at *
      omega
    have hX0 : 0 ≤ val (b64 : Int) (r.drop a) := val_nonneg b64_pos (dr.drop a)
    have hD0 : 0 < val (b64 : Int) d := by
      have := val_nonneg b64_pos (dr.drop (a + 1))
      omega
    obtain ⟨gs, hgs⟩ : ∃ gs, gs = val (b64 : Int) (r.drop a) / val (b64 : Int) d := ⟨_, rfl⟩
    have hgs0 : 0 ≤ gs := by rw [hgs]; exact Int.ediv_nonneg hX0 hDn
    have hgs1 : gs < 18446744073709551616 := by
      rw [hgs]
      exact Int.ediv_lt_of_lt_mul hD0 hXlt
    have hle : ∀ g : Int, g * val (b64 : Int) d ≤ val (b64 : Int) (r.drop a) ↔ g ≤ gs := fun g => by rw [hgs, Int.le_ediv_iff_mul_le hD0]
    have hnd := num_val dd
    have hnp := num_val dpart
    have hfit : ∀ g : Int, 0 ≤ g → (num d * g.toNat ≤ num ((r.take (a + d.length + 1)).drop a) ↔ g ≤ gs) := by
      intro g hg
      rw [← hle g, ← hpv, ← hnp, ← hnd]
      obtain ⟨m, rfl⟩ := Int.eq_ofNat_of_zero_le hg
      rw [Int.toNat_natCast, Nat.mul_comm]
      have : ((m : Int) * (num d : Int)) = ((m * num d : Nat) : Int) := by simp
      rw [this]
      omega
    have hsmall : num d * gs.toNat ≤ num ((r.take (a + d.length + 1)).drop a) := (hfit gs hgs0).2 (Int.le_refl _)
    obtain ⟨sN, s1, s2, s3, s4⟩ := nat_less_ev ((r.take (a + d.length + 1)).drop a) (limbs (num d * gs.toNat)) (by omega) (limbs_len' (Nat.lt_of_le_of_lt hsmall (num_lt dpart))) dpart (limbs_dig' _) (by rw [num_limbs]; exact hsmall)
    rw [num_limbs] at s3
    have hsv : val (b64 : Int) sN = val (b64 : Int) (r.drop a) - gs * val (b64 : Int) d := by
      rw [← num_val s2, s3, ← hpv, ← hnp, ← hnd]
      obtain ⟨m, hm⟩ := Int.eq_ofNat_of_zero_le hgs0
      rw [hm] at hsmall ⊢
      rw [Int.toNat_natCast] at hsmall ⊢
      have : ((m : Int) * (num d : Int)) = ((num d * m : Nat) : Int) := by rw [Nat.mul_comm]; simp
      rw [this]
      omega
    have hslt : val (b64 : Int) sN < val (b64 : Int) d := by
      have h6 := Int.emod_lt_of_pos (val (b64 : Int) (r.drop a)) hD0
      have h7 := Int.emod_add_mul_ediv (val (b64 : Int) (r.drop a)) (val (b64 : Int) d)
      rw [← hgs, Int.mul_comm] at h7
      omega
    have hnew : (r.take a ++ (sN ++ r.drop (a + sN.length))).drop a = sN ++ r.drop (a + sN.length) := by
      rw [List.drop_append, List.drop_of_length_le (by rw [List.length_take]; omega), List.length_take, Nat.min_eq_left (by omega), Nat.sub_self, List.drop_zero, List.nil_append]
    have hnv : val (b64 : Int) (sN ++ r.drop (a + sN.length)) = val (b64 : Int) sN := by
      rw [val_append, s4, hpartl, show a + (d.length + 1) = a + 1 + d.length from by omega, h4, Int.mul_zero, Int.add_zero]
    have hfin := ih (r.take a ++ (sN ++ r.drop (a + sN.length))) (q.set a gs) (by omega) (by simp only [List.length_append, List.length_take, List.length_drop, s4, hpartl]; omega) (by rw [List.length_set]; exact hq)
      (Dig.append.2 ⟨dr.take _, Dig.append.2 ⟨s2, dr.drop _⟩⟩) (dq.set _ ⟨hgs0, hgs1⟩) (by rw [hnew, hnv]; exact hslt) (by
        rw [val_append, hnv, hsv, List.length_take, Nat.min_eq_left (by omega)]
        have e1 : (q.set a gs).drop a = gs :: q.drop (a + 1) := by
          rw [List.drop_eq_getElem_cons (by rw [List.length_set]; omega), List.drop_set, if_pos (Nat.lt_succ_self a)]
          simp
        rw [e1]
        simp only [val]
        have h8 := vsplit (b64 : Int) r a (by omega)
        rw [Int.pow_succ] at hv
        rw [← hv, h8]
        generalize val (b64 : Int) (q.drop (a + 1)) = Q
        generalize (b64 : Int) ^ a = W
        generalize val (b64 : Int) d = D
        generalize (b64 : Int) = B
        grind)
    have k1 := can_last cd (by omega)
    have kd1 := dd.getD b64_pos (d.length - 1)
    have kd0 := dd.getD b64_pos (d.length - 2)
    have kr2 := dr.getD b64_pos (a + d.length)
    have kr1 := dr.getD b64_pos (a + d.length - 1)
    have kr0 := dr.getD b64_pos (a + d.length - 2)
    rw [hB] at kd1 kd0 kr2 kr1 kr0
    obtain ⟨g, g1, g2, g3⟩ := nat_guess_ev (r2 := r.getD (a + d.length) 0) (r1 := r.getD (a + d.length - 1) 0) (r0 := r.getD (a + d.length - 2) 0) (d1 := d.getD (d.length - 1) 0) (d0 := d.getD (d.length - 2) 0) kr2.1 kr1 kr0 ⟨by omega, kd1.2⟩ kd0
    have hgg : gs ≤ g := by
      refine g3 gs hgs1 ?_
      have eX : val (b64 : Int) (r.drop a) = val (b64 : Int) ((r.drop a).take (d.length - 2)) + (b64 : Int) ^ (d.length - 2) * (r.getD (a + d.length - 2) 0 + 18446744073709551616 * (r.getD (a + d.length - 1) 0 + 18446744073709551616 * r.getD (a + d.length) 0)) := by
        rw [vsplit (b64 : Int) (r.drop a) (d.length - 2) (by rw [List.length_drop]; omega), List.drop_drop, show a + (d.length - 2) = a + d.length - 2 from by omega, vdrop (b64 : Int) r (a + d.length - 2), show a + d.length - 2 + 1 = a + d.length - 1 from by omega, vdrop (b64 : Int) r (a + d.length - 1), show a + d.length - 1 + 1 = a + d.length from by omega, vdrop (b64 : Int) r (a + d.length), show a + d.length + 1 = a + 1 + d.length from by omega, h4, Int.mul_zero, Int.add_zero, hB]
      have eD : val (b64 : Int) d = val (b64 : Int) (d.take (d.length - 2)) + (b64 : Int) ^ (d.length - 2) * (d.getD (d.length - 2) 0 + 18446744073709551616 * d.getD (d.length - 1) 0) := by
        have := vsplit (b64 : Int) d (d.length - 2) (by omega)
        rw [vdrop (b64 : Int) d (d.length - 2), show d.length - 2 + 1 = d.length - 1 from by omega, vdrop (b64 : Int) d (d.length - 1), show d.length - 1 + 1 = d.length from by omega, List.drop_length] at this
        simp only [val, Int.mul_zero, Int.add_zero] at this
        rw [hB] at this ⊢
        exact this
      have hPlt := val_lt b64_pos ((dr.drop a).take (d.length - 2))
      rw [List.length_take, List.length_drop, Nat.min_eq_left (by omega)] at hPlt
      exact guess_fits (g := 0) eX eD hPlt (val_nonneg b64_pos (dd.take _)) (Int.pow_pos b64_pos) hgs0 ((hle gs).2 (Int.le_refl _))
    refine Evt.succ ?_
    simp only [nat_long.l0]
    rw [w64 (x := (a : Int) + (d.length : Int)) (by omega) (by omega), w64 (x := (a : Int) + (d.length : Int) - 1) (by omega) (by omega), w64 (x := (a : Int) + (d.length : Int) - 2) (by omega) (by omega), w64 (x := (d.length : Int) - 1) (by omega) (by omega), w64 (x := (d.length : Int) - 2) (by omega) (by omega), w64 (x := (a : Int) + (d.length : Int) + 1) (by omega) (by omega)]
    rw [show (a : Int) + (d.length : Int) - 1 = ((a + d.length - 1 : Nat) : Int) from by omega, show (a : Int) + (d.length : Int) - 2 = ((a + d.length - 2 : Nat) : Int) from by omega, show (a : Int) + (d.length : Int) = ((a + d.length : Nat) : Int) from by omega, show (d.length : Int) - 1 = ((d.length - 1 : Nat) : Int) from by omega, show (d.length : Int) - 2 = ((d.length - 2 : Nat) : Int) from by omega, show ((a + d.length : Nat) : Int) + 1 = ((a + d.length + 1 : Nat) : Int) from by omega]
    simp only [rd_nat, Int.toNat_natCast]
    refine Evt.ite_pos (by omega) (Evt.ite_pos (by omega) (Evt.ite_pos (by omega) (Evt.ite_pos (by omega) (Evt.ite_pos (by omega) (Evt.ite_pos (by omega) (Evt.ite_pos (by omega) (Evt.ite_pos (by omega) (Evt.ite_pos (by omega) (Evt.ite_pos (by omega) (Evt.ite_pos (by omega) ?_))))))))))
    refine Evt.bind g1 ?_
    refine Evt.ite_pos (by omega) (Evt.ite_pos (by omega) (Evt.ite_pos (by omega) ?_))
    refine long_l1 r d q ((r.take (a + d.length + 1)).drop a) sN (s : Int) (d.length : Int) gs a (by omega) (by omega) dpart dd hgs0 hfit s1 s4 (by omega) (by omega) ?_ (g - gs).toNat g hgg g2.2 (by omega)
    rw [← s4]
    exact hfin
theorem nat_long_ev (a b : List Int) (da : Dig (b64 : Int) a) (db : Dig (b64 : Int) b) (cb : Can b) (hb : 2 ≤ b.length) (hab : b.length ≤ a.length) (ha : a.length ≤ 390) :
    Evt (fun k => nat_long.f k a b) (limbs (num a / num b), limbs (num a % num b)) := by
  have hB : (b64 : Int) = 18446744073709551616 := rfl
  have ht := can_last cb (by omega)
  have htr := db.getD b64_pos (b.length - 1)
  rw [hB] at htr
  obtain ⟨t, htt⟩ : ∃ t, t = b.getD (b.length - 1) 0 := ⟨_, rfl⟩
  rw [← htt] at ht htr
  have hbl1 := bl_lt t.toNat
  have hbl2 : bl t.toNat ≤ 64 := bl_le (by omega)
  have hbl3 := bl_pos (n := t.toNat) (by omega)
  obtain ⟨s, hs⟩ : ∃ s, s = 64 - bl t.toNat := ⟨_, rfl⟩
  have hs64 : s < 64 := by omega
  obtain ⟨r, r1, r2, r3, r4⟩ := nat_up_ev a da (by omega) s hs64
  obtain ⟨e, e1, e2, e3, e4⟩ := nat_up_ev b db (by omega) s hs64
  have v1 := vsplit (b64 : Int) b (b.length - 1) (by omega)
  rw [vdrop (b64 : Int) b (b.length - 1), show b.length - 1 + 1 = b.length from by omega, List.drop_length, ← htt] at v1
  simp only [val, Int.mul_zero, Int.add_zero] at v1
  have v2 := val_lt b64_pos (db.take (b.length - 1))
  rw [List.length_take, Nat.min_eq_left (by omega)] at v2
  have v3 := val_nonneg b64_pos (db.take (b.length - 1))
  have hnb := num_val db
  have hWp := pow_pos64' (b.length - 1)
  have hpc := pow_cast b64 (b.length - 1)
  have nlo : b64 ^ (b.length - 1) ≤ num b := by
    have h5 : (b64 : Int) ^ (b.length - 1) * 1 ≤ (b64 : Int) ^ (b.length - 1) * t := Int.mul_le_mul_of_nonneg_left (by omega) (by rw [hpc]; omega)
    rw [Int.mul_one] at h5
    omega
  have nhi : num b < b64 ^ (b.length - 1) * 2 ^ bl t.toNat := by
    have h5 : t + 1 ≤ ((2 ^ bl t.toNat : Nat) : Int) := by omega
    have h6 : (b64 : Int) ^ (b.length - 1) * (t + 1) ≤ (b64 : Int) ^ (b.length - 1) * ((2 ^ bl t.toNat : Nat) : Int) := Int.mul_le_mul_of_nonneg_left h5 (by rw [hpc]; omega)
    rw [Int.mul_add, Int.mul_one, hpc] at h6
    rw [hpc] at v1 v2
    have h7 : ((b64 ^ (b.length - 1) * 2 ^ bl t.toNat : Nat) : Int) = ((b64 ^ (b.length - 1) : Nat) : Int) * ((2 ^ bl t.toNat : Nat) : Int) := by simp
    omega
  have hP : 0 < 2 ^ s := Nat.pow_pos (by omega)
  have p64 : 2 ^ bl t.toNat * 2 ^ s = b64 := by
    rw [← Nat.pow_add, show bl t.toNat + s = 64 from by omega]
    rfl
  have dhi : num b * 2 ^ s < b64 ^ b.length := by
    have h6 := Nat.mul_lt_mul_of_pos_right nhi hP
    rw [Nat.mul_assoc, p64, ← Nat.pow_succ, show (b.length - 1).succ = b.length from by omega] at h6
    exact h6
  have dlo : b64 ^ (b.length - 1) ≤ num b * 2 ^ s := Nat.le_trans nlo (Nat.le_mul_of_pos_right _ hP)
  have dlen : (limbs (num b * 2 ^ s)).length = b.length := by
    have h6 := limbs_len' dhi
    have h7 : ¬ (limbs (num b * 2 ^ s)).length ≤ b.length - 1 := fun h => by
      have := (toD_len_iff b64_two (num b * 2 ^ s) (b.length - 1)).1 h
      omega
    omega
  have hvd : val (b64 : Int) (limbs (num b * 2 ^ s)) = ((num b * 2 ^ s : Nat) : Int) := val_toD b64_two _
  unfold nat_long.f
  rw [w64 (x := (b.length : Int) - 1) (by omega) (by omega)]
  refine Evt.ite_pos (by omega) (Evt.ite_pos (by omega) ?_)
  rw [show (b.length : Int) - 1 = ((b.length - 1 : Nat) : Int) from by omega, rd_nat, ← htt]
  have lz : Evt (fun k => bits_LeadingZeros64.f k t) (s : Int) := by
    unfold bits_LeadingZeros64.f
    refine (Evt.bind (bits_Len64_ev (x := t) (by omega) (by omega)) (h := fun t333 _ => some (wrap64 (64 - t333))) (Evt.pure _)).congr (fun k => rfl) ?_
    rw [w64 (by omega) (by omega)]
    omega
  refine Evt.bind lz ?_
  rw [wu64_of (by omega) (by omega)]
  refine Evt.bind r1 ?_
  refine Evt.bind e1 ?_
  refine Evt.bind (nat_trim_ev e (by simp [maxLen]; omega)) ?_
  rw [strip_limbs e2, e4, dlen, r3]
  rw [w64 (x := ((a.length + 1 : Nat) : Int) - (b.length : Int)) (by omega) (by omega), show ((a.length + 1 : Nat) : Int) - (b.length : Int) = ((a.length + 1 - b.length : Nat) : Int) from by omega, Int.toNat_natCast]
  refine Evt.ite_pos (by omega) (Evt.ite_pos (by omega) ?_)
  refine Evt.bind (Evt.pure _) ?_
  rw [List.length_replicate, w64 (by omega) (by omega)]
  have hmain := long_l0 s hs64 (limbs (num b * 2 ^ s)) (limbs_dig' _) (limbs_can' _) (by omega) (by omega) (val (b64 : Int) r) (a.length + 1 - b.length) (by omega) (a.length + 1 - b.length) r (List.replicate (a.length + 1 - b.length) 0) (Nat.le_refl _) (by omega) (by simp) r2 (Dig.replicate b64_pos _) (by
    have h6 := vsplit (b64 : Int) r (a.length + 1 - b.length) (by omega)
    have h7 := val_nonneg b64_pos (r2.take (a.length + 1 - b.length))
    have h8 := num_val r2
    rw [r4] at h8
    have h9 := num_lt da
    have h10 : num a * 2 ^ s < b64 ^ a.length * 2 ^ s := Nat.mul_lt_mul_of_pos_right h9 hP
    have h11 : b64 ^ a.length * 2 ^ s ≤ b64 ^ (a.length + 1 - b.length) * (num b * 2 ^ s) := by
      have : b64 ^ a.length = b64 ^ (a.length + 1 - b.length) * b64 ^ (b.length - 1) := by
        rw [← Nat.pow_add, show a.length + 1 - b.length + (b.length - 1) = a.length from by omega]
      rw [this, Nat.mul_assoc]
      exact Nat.mul_le_mul_left _ (Nat.mul_le_mul_right _ nlo)
    rw [hvd]
    refine Int.not_le.1 (fun hge => ?_)
    have h12 := Int.mul_le_mul_of_nonneg_left hge (show (0 : Int) ≤ (b64 : Int) ^ (a.length + 1 - b.length) by rw [pow_cast]; omega)
    have h13 : (b64 : Int) ^ (a.length + 1 - b.length) * ((num b * 2 ^ s : Nat) : Int) = ((b64 ^ (a.length + 1 - b.length) * (num b * 2 ^ s) : Nat) : Int) := by rw [pow_cast, ← Int.natCast_mul]
    rw [h13] at h12
    omega) (by
    rw [List.drop_of_length_le (by simp)]
    simp [val])
  rw [dlen] at hmain
  refine hmain.congr (fun k => rfl) ?_
  have h8 := num_val r2
  rw [hvd, ← h8, r4, show ((num a * 2 ^ s : Nat) : Int) / ((num b * 2 ^ s : Nat) : Int) = ((num a * 2 ^ s / (num b * 2 ^ s) : Nat) : Int) from rfl, show ((num a * 2 ^ s : Nat) : Int) % ((num b * 2 ^ s : Nat) : Int) = ((num a * 2 ^ s % (num b * 2 ^ s) : Nat) : Int) from rfl, Int.toNat_natCast, Int.toNat_natCast, Nat.mul_div_mul_right _ _ hP, Nat.mul_mod_mul_right, Nat.mul_div_cancel _ hP]
end Go.Proofs.Ytnaphgnkhhapoaa.Z
end
section
namespace Go.Proofs.Ytnaphgnkhhapoaa.Z
open Go.RowKit Go.Proofs.Ytnaphgnkhhapoaa.F Go.Proofs.YtnaphgnkhhapoaaW.PrintWords
set_option linter.unusedSimpArgs false
set_option linter.unusedVariables false
theorem nat_Div_ev (a b : List Int) (ha : a.length ≤ maxLen) (hb : b.length ≤ maxLen) (da : Dig (b64 : Int) a) (db : Dig (b64 : Int) b) : Evt (fun k => nat_Div.f k a b) (divV a b) := by
  unfold nat_Div.f divV
  rw [nat_right_eq _ (by intro l hl; simp at hl; rcases hl with rfl | rfl <;> assumption)]
  simp only [Option.bind_some, List.all_cons, List.all_nil, Bool.and_true, Bool.and_eq_true]
  by_cases h : rightB a = true ∧ rightB b = true
  · rw [if_pos h]
    refine Evt.ite_pos h ?_
    obtain ⟨h1, c1⟩ := (rightB_iff a).1 h.1
    obtain ⟨h2, c2⟩ := (rightB_iff b).1 h.2
    have hz := num_zero_iff db c2
    by_cases h0 : b.length = 0
    · rw [if_pos (hz.2 h0)]
      exact Evt.ite_pos (by omega) (Evt.pure _)
    · have hnz : num b ≠ 0 := fun e => h0 (hz.1 e)
      rw [if_neg hnz]
      refine Evt.ite_neg (by omega) ?_
      refine Evt.bind (nat_compare_ev a b da db c1 c2 (by omega)) ?_
      by_cases hlt : num a < num b
      · refine Evt.ite_pos (by unfold cmpN; rw [if_pos hlt]; omega) ?_
        refine Evt.bind (Evt.of (fun _ => clone_ev a (by omega))) ?_
        rw [Nat.div_eq_of_lt hlt, Nat.mod_eq_of_lt hlt, limbs_num da c1]
        rw [show limbs 0 = [] from toD_zero b64]
        exact Evt.pure _
      · refine Evt.ite_neg (by unfold cmpN; rw [if_neg hlt]; split <;> omega) ?_
        by_cases h3 : b.length = 1
        · obtain ⟨x, rfl⟩ : ∃ x, b = [x] := List.length_eq_one_iff.1 h3
          have hx := (Dig.cons.1 db).1
          have hx0 : num [x] = x.toNat := num_one hx.1
          refine Evt.ite_pos (by simp) (Evt.ite_pos (by simp) ?_)
          have hr : rd [x] 0 = x := rfl
          rw [hr]
          rw [hx0] at hnz ⊢
          have hB : (b64 : Int) = 18446744073709551616 := rfl
          rw [hB] at hx
          refine Evt.bind (nat_short_ev a x da (by omega) (by omega) hx.2) ?_
          refine (Evt.bind (nat_Of_ev ((num a % x.toNat : Nat) : Int)) (h := fun t _ => some (limbs (num a / x.toNat), t, (0 : Int))) (Evt.pure _)).congr (fun k => rfl) ?_
          have hm : num a % x.toNat < x.toNat := Nat.mod_lt _ (by omega)
          have dr : Dig (b64 : Int) [((num a % x.toNat : Nat) : Int)] := Dig.cons.2 ⟨by rw [hB]; omega, Dig.nil⟩
          rw [strip_limbs dr, num_one (by omega), Int.toNat_natCast]
        · refine Evt.ite_neg (by omega) ?_
          have hab := num_len_le db c2 da (by omega)
          exact Evt.bind (nat_long_ev a b da db c2 (by omega) hab (by omega)) (h := fun t _ => some (t.1, t.2, (0 : Int))) (Evt.pure _)
  · rw [if_neg h]
    exact Evt.ite_neg h (Evt.pure _)
end Go.Proofs.Ytnaphgnkhhapoaa.Z
end
section
namespace Go.Proofs.Ytnaphgnkhhapoaa.Pure
open Go.RowKit Go.Proofs.Ytnaphgnkhhapoaa.F Go.Proofs.Ytnaphgnkhhapoaa.Z
set_option linter.unusedSimpArgs false
set_option linter.unusedVariables false
theorem NatOwn : windbreaklaw01_NatOwn.Pure := by
  intro a b ha wa hb wb
  have da := dig_of_wf wa
  have db := dig_of_wf wb
  have d1 : Dig (b64 : Int) [1] := by intro x hx; simp at hx; subst hx; decide
  have d2 : Dig (b64 : Int) [0, 1] := by intro x hx; simp at hx; rcases hx with rfl | rfl <;> decide
  have mm : ∀ {l : List Int}, l.length ≤ 64 → l.length ≤ maxLen := fun h => by simp only [maxLen]; omega
  have e2 : (addV [1] []).1.length = 1 := by
    have e3 : addV [1] [] = ([1], 0) := by
      unfold addV toldV
      rw [if_pos ⟨by decide, by decide⟩, num_one (by omega), num_nil, if_pos (by decide)]
      have := limbs_num d1 (Can.one (by omega))
      rw [num_one (by omega)] at this
      rw [Nat.add_zero, this]
    rw [e3]; rfl
  have H : Evt (fun k => natOwn.f k a b) true := by
    unfold natOwn.f
    rw [windbreakref01_Right_eq ha, windbreakref01_Right_eq hb]
    simp only [Option.bind_some]
    refine Evt.cond' (fun _ => ?_) (fun _ => Evt.pure _)
    refine Evt.bind (nat_Add_ev a b ha hb da db) ?_
    refine Evt.bind (nat_Add_ev a [] ha (mm (by simp)) da Dig.nil) ?_
    refine Evt.bind (nat_Shl_ev a 0 ha da) ?_
    refine Evt.bind (nat_Shr_ev a 0 ha da (by omega)) ?_
    refine Evt.bind (nat_Mul_ev a [1] ha (mm (by simp)) da d1) ?_
    refine Evt.bind (nat_Div_ev a [0, 1] ha (mm (by simp)) da d2) ?_
    refine Evt.bind (same_ev a a ha) ?_
    refine Evt.bind (same_ev b b hb) ?_
    refine Evt.bind (nat_Add_ev [1] [] (mm (by simp)) (mm (by simp)) d1 Dig.nil) ?_
    refine Evt.ite_pos ⟨by simp, by simp, e2⟩ (Evt.pure _)
  obtain ⟨k, hk⟩ := Evt.get H
  refine ⟨k, hk, fun h => ?_, fun h => ?_⟩
  · rw [windbreakref01_Right_eq ha] at h
    exact ((rightB_iff a).1 (Option.some.inj h)).1
  · rw [windbreakref01_Right_eq hb] at h
    exact ((rightB_iff b).1 (Option.some.inj h)).1
end Go.Proofs.Ytnaphgnkhhapoaa.Pure
end
section
namespace Go.Proofs.YtnaphgnkhhapoaaW.PrintWords
open Go.ChangeShapes Go.WideShapes
end Go.Proofs.YtnaphgnkhhapoaaW.PrintWords
end
section
namespace Go.Proofs.Ytnaphgnkhhapoaa.natOwn
open Go.ChangeShapes Go.WideShapes Go.ChangeAt Go.RowKit Go.Proofs.Ytnaphgnkhhapoaa.F Go.Proofs.YtnaphgnkhhapoaaW.PrintWords
set_option linter.unusedSimpArgs false
open Go.ChangeMaps (open_string shut_string)
set_option linter.unusedVariables false
theorem own : ownKnob Try.prog.godebug = none := by kernel_rfl
theorem laidOut : laidOutB Try.prog = true := by kernel_rfl
theorem lifted (os : Os) (started : os.Started) (H : Type) (enc : TypeId × Value → H) :
    ReturnsInHanded {} Try.checked os 5 .any (Rows.natOwnSpec.pre6 enc Try.prog Try.f5 Rows.natOwnRow.domain false) (Rows.natOwnSpec.post enc Try.prog Try.f5 false true false false) := by
  refine returnsInHanded_of_change_sized (C := Try.checked) own started (by kernel_rfl) Try.func5
    (ChangeSpec.witness6 (enc := enc) (C := Try.checked) false ⟨#[], #[.slice none 0 0, .slice none 0 0], []⟩ 8 (by kernel_rfl) (by kernel_rfl) (by kernel_rfl) (by kernel_rfl)) ?_
  intro W base args ds gs before hval0 hW hcnd hsz0 _
  have hsz : (DataW.weightsEach Try.prog (Try.f5.params.toList ++ Rows.natOwnSpec.plain.varTypes Try.prog) (ds ++ gs)).all (· ≤ reachBytes) = true := hsz0
  have hval : ∀ (j : Nat) t v, Try.f5.params[j]? = some t → args[j]? = some v → Value.okWide Try.prog W .any base t v := hval0
  have hW' := hW
  obtain ⟨p, q, hA0, hV, rfl, hfz, hnd⟩ := hW
  have hA : DataW.TrodAll enc Try.prog W 0 (fun _ => true) true Try.f5.params.toList args.toList ds p := hA0
  rw [Try.params5] at hA hval hsz
  obtain ⟨v0, vs0, d0, ds0, p0, q0, hargs, rfl, rfl, h0, r0⟩ := trodAll_cons hA
  obtain ⟨v1, vs1, d1, ds1, p1, q1, rfl, rfl, rfl, h1, r1⟩ := trodAll_cons r0
  obtain ⟨rfl, rfl, rfl⟩ := trodAll_nil r1
  obtain rfl : args = #[v0, v1] := by cases args; simp_all
  obtain ⟨rfl, rfl⟩ := trodVars_none hV
  obtain ⟨a0, len0, cap0, rfl⟩ := okWide_slice Try.underlying57 (hval 0 57 v0 rfl rfl)
  have k0 := h0
  have lt0 : ∀ x ∈ p0, x.block < W.heap.size := by obtain ⟨m, hm⟩ := k0; exact DataW.trod_lt m _ _ _ hm
  obtain ⟨m0, hm0⟩ := h0
  obtain ⟨x0, hK0, ok0⟩ := (Opens.slice Try.underlying57 (by kernel_rfl) (Opens.int Try.underlying62)) enc W true m0 _ _ hm0
  obtain ⟨a1, len1, cap1, rfl⟩ := okWide_slice Try.underlying57 (hval 1 57 v1 rfl rfl)
  have k1 := h1
  have lt1 : ∀ x ∈ p1, x.block < W.heap.size := by obtain ⟨m, hm⟩ := k1; exact DataW.trod_lt m _ _ _ hm
  obtain ⟨m1, hm1⟩ := h1
  obtain ⟨x1, hK1, ok1⟩ := (Opens.slice Try.underlying57 (by kernel_rfl) (Opens.int Try.underlying62)) enc W true m1 _ _ hm1
  clear hA0 hval0 hsz0 hsz
  refine (F.windbreaklaw01_NatOwn.row Pure.NatOwn W a0 len0 cap0 x0 hK0 ok0 a1 len1 cap1 x1 hK1 ok1).mono fun e W' ⟨he, bel⟩ => ?_
  subst he
  exact ⟨_, rfl, _, _, _, [], _, [], hW', trodAll_mk1 (shut_bool Try.underlying4 _), (trodAll_cons_mk (Below.trod laidOut (by kernel_rfl) (of_decide_eq_true (by kernel_rfl)) k0 bel lt0) (trodAll_cons_mk (Below.trod laidOut (by kernel_rfl) (of_decide_eq_true (by kernel_rfl)) k1 bel lt1) trodAll_mk0)), rfl, bel.frame _, fun h => by cases h⟩
theorem over : Rows.natOwnRow.holds Try.pinned (OpenSpec.ofChange Rows.natOwnSpec) :=
  OpenClaim.holds_of_wide 5 Try.f5 rfl rfl rfl rfl rfl rfl rfl ⟨rfl, rfl, rfl, rfl, rfl⟩ rfl rfl rfl rfl rfl (by kernel_rfl) Try.func5 (by kernel_rfl)
    (of_decide_eq_true (by kernel_rfl)) (by unfold Func.isWrapper; first | (rw [if_pos (by decide +kernel)]; kernel_rfl) | (rw [if_neg (by decide +kernel)]; exact ⟨rfl, rfl⟩))
    (fun os started H enc _ => lifted os started H enc)
theorem proved : Rows.NatOwnSaid := over
#print axioms proved
end Go.Proofs.Ytnaphgnkhhapoaa.natOwn
namespace Go.Proofs.Ytnaphgnkhhapoaa
theorem natOwn_holds : Rows.NatOwnSaid := natOwn.proved
end Go.Proofs.Ytnaphgnkhhapoaa
end
