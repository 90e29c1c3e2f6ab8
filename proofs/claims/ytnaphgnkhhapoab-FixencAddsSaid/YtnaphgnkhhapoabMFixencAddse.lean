/- Proved: the law FixencAdds of layer 7, the stage's theorem: if there is room, the sum of the packs of any list that is not too long, by the modulus, unpacks to the sums; for every input, without a condition. -/
import Derived.Test.YtnaphgnkhhapoabMFixencAddsd
import Derived.Deep.RegionHeld3
import Derived.Deep.Slices
import Derived.Lib.SmallJoins
import Derived.OpenShut
import Derived.SizedLaws
import Derived.ChangeSlices
import Derived.Test.YtnaphgnkhhapoabRows
import Derived.WalkKit
import Derived.ProofKit
import Derived.ShutString
import Derived.ChangeOld
import Derived.Below
set_option maxHeartbeats 8000000
set_option maxRecDepth 100000
section
namespace Go.Proofs.Ytnaphgnkhhapoab.F
open Go.RowKit Go.Proofs.YtnaphgnkhhapoabW.PrintWords Go.Proofs.YtnaphgnkhhapoabW.PrintLast Go.Proofs.YtnaphgnkhhapoabW.PrintMore
theorem max2_mx (k k' : IntKind) (x y : Int) : Builtin.max2 (.int k x) (.int k' y) = pure (.int k (max x y)) := by
  rw [max2_int]
  congr 2
  by_cases h : x < y
  · rw [if_pos h]; omega
  · rw [if_neg h]; omega
attribute [local go_sem] max2_mx max_two
set_option linter.unusedVariables false
set_option linter.unusedSimpArgs false
open Go.Proofs.Ytnaphgnkhhapoab.Z (strip Dig b64 num limbs)
def hval (gh : Nat) : Value := .func (.func 91) #[] #[.pointer (some ⟨gh, 0, none⟩)]
def hobj (gh : Nat) : Obj := .cells #[hval gh] 38 (0, 0)
def Halved (gh : Nat) (A0 : Option Addr) (c0 : Nat) (l0 : List Int) (A1 : Option Addr) (c1 : Nat) (l1 : List Int) (w : World) : Prop :=
  Calls Try.prog 91 #[.slice A0 l0.length c0, .slice A1 l1.length c1, .pointer (some ⟨gh, 0, none⟩)] w fun e w' => ∃ v : Value, e = .returned v ∧ Kd.R (Kd.int .u64) 42 w' w.heap.size (fun _ => True) v (limbs (num l0 * num l1)) ∧ Below w.heap.size w w'
theorem C_low {W : World} {A : Option Addr} {l : List Int} (n : Nat) (h : Kd.C (Kd.int .u64) W A l.length l) : Kd.C (Kd.int .u64) W A (strip (l.take n)).length (strip (l.take n)) := by
  obtain ⟨k, hk, hs, _⟩ := strip_take (l.take n)
  rw [hs, List.take_take]
  exact Kd.C_take h (by rw [List.length_take] at hk; omega)
theorem strip_len (l : List Int) : (strip l).length ≤ l.length := Go.Proofs.Ytnaphgnkhhapoab.Z.strip_length l
theorem halves_short (gh : Nat) (A0 : Option Addr) (c0 : Nat) (l0 : List Int) (A1 : Option Addr) (c1 : Nat) (l1 : List Int) (w : World) (hl0 : l0.length ≤ 400) (hl1 : l1.length ≤ 400) (d0 : Dig (b64 : Int) l0) (d1 : Dig (b64 : Int) l1)
    (hr0 : Kd.C (Kd.int .u64) w A0 l0.length l0) (hc0 : l0.length ≤ c0) (hr1 : Kd.C (Kd.int .u64) w A1 l1.length l1) (hc1 : l1.length ≤ c1) (h24 : l0.length < 24 ∨ l1.length < 24) : Halved gh A0 c0 l0 A1 c1 l1 w := by
  unfold Halved
  obtain ⟨k, hk⟩ := Go.Proofs.Ytnaphgnkhhapoab.Z.Evt.get (Go.Proofs.Ytnaphgnkhhapoab.Z.nat_school_ev l0 l1 (by omega) (by omega) d0 d1)
  have HS := Aside0.mk (nat_school.calls k A0 c0 l0 A1 c1 l1 _ w hr0 hc0 hr1 hc1 hk)
  clear hr0 hc0 hr1 hc1 hk d0 d1
  by_cases h1 : l0.length < 24
  · have h1b : decide ((l0.length : Int) < 24) = true := decide_eq_true (by omega)
    clear h24
    go_enter Try.func91, Try.ntmps91
    go_wp2_with (go_at_call 90; (with_reducible refine HS.out.mono ?_); rintro e w' ⟨v, rfl, hR, hb⟩; have HR := Aside0.mk hR; have HB := Aside0.mk hb; clear hR hb)
    go_ret
    exact ⟨_, rfl, HR.out, HB.out⟩
  · have h1b : decide ((l0.length : Int) < 24) = false := decide_eq_false (by omega)
    have h2b : decide ((l1.length : Int) < 24) = true := decide_eq_true (by omega)
    clear h24
    go_enter Try.func91, Try.ntmps91
    go_wp2_with (go_at_call 90; (with_reducible refine HS.out.mono ?_); rintro e w' ⟨v, rfl, hR, hb⟩; have HR := Aside0.mk hR; have HB := Aside0.mk hb; clear hR hb)
    go_ret
    exact ⟨_, rfl, HR.out, HB.out⟩
theorem halves_long (gh : Nat) (A0 : Option Addr) (c0 : Nat) (l0 : List Int) (A1 : Option Addr) (c1 : Nat) (l1 : List Int) (w : World) (hl0 : l0.length ≤ 400) (hl1 : l1.length ≤ 400) (d0 : Dig (b64 : Int) l0) (d1 : Dig (b64 : Int) l1)
    (hr0 : Kd.C (Kd.int .u64) w A0 l0.length l0) (hc0 : l0.length ≤ c0) (hr1 : Kd.C (Kd.int .u64) w A1 l1.length l1) (hc1 : l1.length ≤ c1) (h24a : 24 ≤ l0.length) (h24b : 24 ≤ l1.length) (hgh : w.heap[gh]? = some (hobj gh))
    (IH : ∀ (A2 : Option Addr) (c2 : Nat) (l2 : List Int) (A3 : Option Addr) (c3 : Nat) (l3 : List Int) (W : World), l2.length + l3.length < l0.length + l1.length → l2.length ≤ 400 → l3.length ≤ 400 → Dig (b64 : Int) l2 → Dig (b64 : Int) l3 →
      Kd.C (Kd.int .u64) W A2 l2.length l2 → l2.length ≤ c2 → Kd.C (Kd.int .u64) W A3 l3.length l3 → l3.length ≤ c3 → W.heap[gh]? = some (hobj gh) → Halved gh A2 c2 l2 A3 c3 l3 W) : Halved gh A0 c0 l0 A1 c1 l1 w := by
  unfold Halved
  have h1b : decide ((l0.length : Int) < 24) = false := decide_eq_false (by omega)
  have h2b : decide ((l1.length : Int) < 24) = false := decide_eq_false (by omega)
  obtain ⟨M, hM⟩ : ∃ M : Nat, M = max l0.length l1.length := ⟨_, rfl⟩
  obtain ⟨n, hn⟩ : ∃ n : Nat, n = (M + 1) / 2 := ⟨_, rfl⟩
  have HR0 := Aside0.mk hr0
  have HC0 := Aside0.mk hc0
  have HR1 := Aside0.mk hr1
  have HC1 := Aside0.mk hc1
  have HGH := Aside0.mk hgh
  have HL := Aside0.mk (show l0.length ≤ 400 ∧ l1.length ≤ 400 ∧ 24 ≤ l0.length ∧ 24 ≤ l1.length ∧ M = max l0.length l1.length ∧ n = (M + 1) / 2 from ⟨hl0, hl1, h24a, h24b, hM, hn⟩)
  have HI := Aside0.mk IH
  have HD0 := Aside0.mk d0
  have HD1 := Aside0.mk d1
  clear hr0 hc0 hr1 hc1 hgh hl0 hl1 h24a h24b hM hn IH d0 d1
  go_enter Try.func91, Try.ntmps91
  have e1 : wrap64 (max (l0.length : Int) (l1.length : Int) + 1) = ((M + 1 : Nat) : Int) := by
    have := HL.out
    unfold wrap64
    omega
  have e2 : wrap64 (((M : Int) + 1).tdiv 2) = (n : Int) := by
    have := HL.out
    rw [Int.tdiv_eq_ediv_of_nonneg (by omega)]
    unfold wrap64
    omega
  go_wp2
  clear e1 e2
  have hN := blk_new w (.cells #[.int .i64 (n : Int)] 3)
  have hB := below_alloc (Below.refl w.heap.size w) (.cells #[.int .i64 (n : Int)] 3)
  have hs1 : w.heap.size < (w.alloc (.cells #[.int .i64 (n : Int)] 3)).heap.size := by simp
  generalize w.alloc (.cells #[.int .i64 (n : Int)] 3) = W1 at *
  obtain ⟨LA, hLA⟩ : ∃ X, X = strip (l0.take n) := ⟨_, rfl⟩
  obtain ⟨LB, hLB⟩ : ∃ X, X = strip (l1.take n) := ⟨_, rfl⟩
  obtain ⟨HA, hHA⟩ : ∃ X, X = l0.drop n := ⟨_, rfl⟩
  obtain ⟨HB_, hHB⟩ : ∃ X, X = l1.drop n := ⟨_, rfl⟩
  obtain ⟨P, hP⟩ : ∃ X, X = limbs (num LA * num LB) := ⟨_, rfl⟩
  obtain ⟨Q, hQ⟩ : ∃ X, X = limbs (num HA * num HB_) := ⟨_, rfl⟩
  obtain ⟨O1, hO1⟩ : ∃ X, X = P.take (min P.length (l0.length + l1.length + 1)) ++ (List.replicate (l0.length + l1.length + 1) (0 : Int)).drop (min P.length (l0.length + l1.length + 1)) := ⟨_, rfl⟩
  obtain ⟨pl1, pl2, S1, S2, T1, T2, Mm, U, U1, V, V1, O2, O3, ⟨k1, hk1⟩, ⟨k2, hk2⟩, hT1, hT2, pl3, hMm, ⟨k3, hk3⟩, hU1, ⟨k4, hk4⟩, hV1, ⟨k5, hk5⟩, ⟨k6, hk6⟩, ⟨k7, hk7⟩⟩ :=
    Go.Proofs.Ytnaphgnkhhapoab.Z.kara_ev l0 l1 HL.out.1 HL.out.2.1 HL.out.2.2.1 HL.out.2.2.2.1 HD0.out HD1.out n (by have := HL.out; omega) LA LB HA HB_ P Q O1 hLA hLB hHA hHB hP hQ hO1
  obtain ⟨RES, hRES⟩ : ∃ X, X = limbs (num l0 * num l1) := ⟨_, rfl⟩
  rw [← hRES] at hk7
  have NLA := Aside0.mk hLA
  have NLB := Aside0.mk hLB
  have NHA := Aside0.mk hHA
  have NHB := Aside0.mk hHB
  have NP := Aside0.mk hP
  have NQ := Aside0.mk hQ
  have NO1 := Aside0.mk hO1
  have NT1 := Aside0.mk hT1
  have NT2 := Aside0.mk hT2
  have NM := Aside0.mk hMm
  have NU1 := Aside0.mk hU1
  have NV1 := Aside0.mk hV1
  have NRES := Aside0.mk hRES
  have PL1 := Aside0.mk pl1
  have PL2 := Aside0.mk pl2
  have PL3 := Aside0.mk pl3
  have K1 := Aside0.mk hk1
  have K2 := Aside0.mk hk2
  have K3 := Aside0.mk hk3
  have K4 := Aside0.mk hk4
  have K5 := Aside0.mk hk5
  have K6 := Aside0.mk hk6
  have K7 := Aside0.mk hk7
  have FLA := Aside0.mk (show ∀ W, Below w.heap.size w W → Kd.C (Kd.int .u64) W A0 LA.length LA from fun W h => by rw [NLA.out]; exact C_low n (Kd.C_below HR0.out h))
  have FLB := Aside0.mk (show ∀ W, Below w.heap.size w W → Kd.C (Kd.int .u64) W A1 LB.length LB from fun W h => by rw [NLB.out]; exact C_low n (Kd.C_below HR1.out h))
  have CLA := Aside0.mk (show LA.length ≤ c0 from by
    have h1 := strip_len (l0.take n)
    rw [← hLA, List.length_take] at h1
    have := HC0.out
    omega)
  have CLB := Aside0.mk (show LB.length ≤ c1 from by
    have h1 := strip_len (l1.take n)
    rw [← hLB, List.length_take] at h1
    have := HC1.out
    omega)
  have HS1 := Aside0.mk hs1
  have HB1 := Aside0.mk (Below.refl W1.heap.size W1)
  clear hLA hLB hHA hHB hP hQ hO1 hT1 hT2 hMm hU1 hV1 hRES pl1 pl2 pl3 hk1 hk2 hk3 hk4 hk5 hk6 hk7 hs1
  have hgc : ∀ W : World, Below w.heap.size w W → W.cell? ⟨gh, 0, none⟩ = some (.func (.func 91) #[] #[.pointer (some ⟨gh, 0, none⟩)]) := fun W h => pw_cell_below h ((blk_cell HGH.out 0).trans rfl)
  have HGC := Aside0.mk hgc
  have HB := Aside0.mk hB
  have HN := Aside0.mk hN
  clear hB hN hgc
  have hgn : ∀ W : World, Below W1.heap.size W1 W → W.heap[w.heap.size]? = some (.cells #[.int .i64 (n : Int)] 3 (0, 0)) := fun W h => (h.block w.heap.size HS1.out).trans HN.out
  have hgg : ∀ W : World, Below w.heap.size w W → W.heap[gh]? = some (hobj gh) := fun W h => (h.block gh (blk_lt HGH.out)).trans HGH.out
  have LOWA := Aside0.mk (show ∀ W, Below w.heap.size w W → Below W1.heap.size W1 W → Calls Try.prog 92 #[.slice A0 l0.length c0, .pointer (some ⟨w.heap.size, 0, none⟩)] W fun e w' => e = .returned (.slice A0 LA.length c0) ∧ Below W.heap.size W w' from fun W h h1 => by
    have tk_ := nat_low.calls A0 c0 l0 w.heap.size n W (Kd.C_below HR0.out h) HC0.out (hgn W h1)
    rw [← NLA.out] at tk_
    exact tk_.mono (fun e w' hh => ⟨hh.1, hh.2.below⟩))
  have LOWB := Aside0.mk (show ∀ W, Below w.heap.size w W → Below W1.heap.size W1 W → Calls Try.prog 92 #[.slice A1 l1.length c1, .pointer (some ⟨w.heap.size, 0, none⟩)] W fun e w' => e = .returned (.slice A1 LB.length c1) ∧ Below W.heap.size W w' from fun W h h1 => by
    have tk_ := nat_low.calls A1 c1 l1 w.heap.size n W (Kd.C_below HR1.out h) HC1.out (hgn W h1)
    rw [← NLB.out] at tk_
    exact tk_.mono (fun e w' hh => ⟨hh.1, hh.2.below⟩))
  have HIGHA := Aside0.mk (show ∀ W, Below w.heap.size w W → Below W1.heap.size W1 W → Calls Try.prog 93 #[.slice A0 l0.length c0, .pointer (some ⟨w.heap.size, 0, none⟩)] W fun e w' => ∃ (A : Option Addr) (c : Nat), e = .returned (.slice A HA.length c) ∧ HA.length ≤ c ∧ Kd.C (Kd.int .u64) w' A HA.length HA ∧ Below W.heap.size W w' from fun W h h1 => by
    have tk_ := nat_high.calls A0 c0 l0 w.heap.size n W HC0.out (hgn W h1)
    rw [← NHA.out] at tk_
    exact tk_.mono (fun e w' hh => by
      obtain ⟨A, c, q1, q2, q3, q4⟩ := hh
      exact ⟨A, c, q1, q2, q3 w' (Kd.C_below HR0.out (below_step h q4.below)), q4.below⟩))
  have HIGHB := Aside0.mk (show ∀ W, Below w.heap.size w W → Below W1.heap.size W1 W → Calls Try.prog 93 #[.slice A1 l1.length c1, .pointer (some ⟨w.heap.size, 0, none⟩)] W fun e w' => ∃ (A : Option Addr) (c : Nat), e = .returned (.slice A HB_.length c) ∧ HB_.length ≤ c ∧ Kd.C (Kd.int .u64) w' A HB_.length HB_ ∧ Below W.heap.size W w' from fun W h h1 => by
    have tk_ := nat_high.calls A1 c1 l1 w.heap.size n W HC1.out (hgn W h1)
    rw [← NHB.out] at tk_
    exact tk_.mono (fun e w' hh => by
      obtain ⟨A, c, q1, q2, q3, q4⟩ := hh
      exact ⟨A, c, q1, q2, q3 w' (Kd.C_below HR1.out (below_step h q4.below)), q4.below⟩))
  have told : ∀ {l2 l3 R : List Int} (hR : R = limbs (num l2 * num l3)) (h : l2.length + l3.length < l0.length + l1.length ∧ l2.length ≤ 400 ∧ l3.length ≤ 400 ∧ Dig (b64 : Int) l2 ∧ Dig (b64 : Int) l3) (W : World) (A2 : Option Addr) (c2 : Nat) (A3 : Option Addr) (c3 : Nat), Below w.heap.size w W → Kd.C (Kd.int .u64) W A2 l2.length l2 → l2.length ≤ c2 → Kd.C (Kd.int .u64) W A3 l3.length l3 → l3.length ≤ c3 →
      Calls Try.prog 91 #[.slice A2 l2.length c2, .slice A3 l3.length c3, .pointer (some ⟨gh, 0, none⟩)] W fun e w' => ∃ (A : Option Addr) (c : Nat), e = .returned (.slice A R.length c) ∧ R.length ≤ c ∧ Kd.C (Kd.int .u64) w' A R.length R ∧ Below W.heap.size W w' := by
    intro l2 l3 R hR h W A2 c2 A3 c3 hw h2 h2c h3 h3c
    have tk_ := HI.out A2 c2 l2 A3 c3 l3 W h.1 h.2.1 h.2.2.1 h.2.2.2.1 h.2.2.2.2 h2 h2c h3 h3c (hgg W hw)
    unfold Halved at tk_
    rw [← hR] at tk_
    refine tk_.mono (fun e w' hh => ?_)
    obtain ⟨v, q1, q2, q3⟩ := hh
    obtain ⟨A, c, rfl⟩ := Kd.R_slice q2
    exact ⟨A, c, q1, (Kd.R_reads' q2).2.1, (Kd.R_reads' q2).2.2, q3⟩
  have HALP := Aside0.mk (told NP.out PL1.out)
  have HALQ := Aside0.mk (told NQ.out PL2.out)
  have HALM := Aside0.mk (told NM.out PL3.out)
  have SUM1 := Aside0.mk (show ∀ (W : World) (A2 : Option Addr) (c2 : Nat) (A3 : Option Addr) (c3 : Nat), Kd.C (Kd.int .u64) W A2 LA.length LA → LA.length ≤ c2 → Kd.C (Kd.int .u64) W A3 HA.length HA → HA.length ≤ c3 → Calls Try.prog 66 #[.slice A2 LA.length c2, .slice A3 HA.length c3] W fun e w' => ∃ (A : Option Addr) (c : Nat), e = .returned (.slice A S1.length c) ∧ S1.length ≤ c ∧ Kd.C (Kd.int .u64) w' A S1.length S1 ∧ Below W.heap.size W w' from fun W A2 c2 A3 c3 h2 h2c h3 h3c => (nat_sum.calls k1 A2 c2 LA A3 c3 HA S1 W h2 h2c h3 h3c K1.out).mono (fun e w' hh => by
    obtain ⟨v, q1, q2, q3⟩ := hh
    obtain ⟨A, c, rfl⟩ := Kd.R_slice q2
    exact ⟨A, c, q1, (Kd.R_reads' q2).2.1, (Kd.R_reads' q2).2.2, q3⟩))
  have SUM2 := Aside0.mk (show ∀ (W : World) (A2 : Option Addr) (c2 : Nat) (A3 : Option Addr) (c3 : Nat), Kd.C (Kd.int .u64) W A2 LB.length LB → LB.length ≤ c2 → Kd.C (Kd.int .u64) W A3 HB_.length HB_ → HB_.length ≤ c3 → Calls Try.prog 66 #[.slice A2 LB.length c2, .slice A3 HB_.length c3] W fun e w' => ∃ (A : Option Addr) (c : Nat), e = .returned (.slice A S2.length c) ∧ S2.length ≤ c ∧ Kd.C (Kd.int .u64) w' A S2.length S2 ∧ Below W.heap.size W w' from fun W A2 c2 A3 c3 h2 h2c h3 h3c => (nat_sum.calls k2 A2 c2 LB A3 c3 HB_ S2 W h2 h2c h3 h3c K2.out).mono (fun e w' hh => by
    obtain ⟨v, q1, q2, q3⟩ := hh
    obtain ⟨A, c, rfl⟩ := Kd.R_slice q2
    exact ⟨A, c, q1, (Kd.R_reads' q2).2.1, (Kd.R_reads' q2).2.2, q3⟩))
  have trimmed : ∀ {l R : List Int} (hR : R = strip l) (W : World) (A2 : Option Addr) (c2 : Nat), Kd.C (Kd.int .u64) W A2 l.length l → l.length ≤ c2 → Calls Try.prog 72 #[.slice A2 l.length c2] W fun e w' => e = .returned (.slice A2 R.length c2) ∧ R.length ≤ c2 ∧ Kd.C (Kd.int .u64) w' A2 R.length R ∧ Below W.heap.size W w' := by
    intro l R hR W A2 c2 h2 h2c
    refine (nat_trimC.calls A2 c2 l W h2 h2c).mono (fun e w' hh => ?_)
    have q := C_low l.length (Kd.C_below h2 hh.2.below)
    rw [List.take_length, ← hR] at q
    have q2 := strip_len l
    rw [← hR] at q2
    exact ⟨by rw [hh.1, hR], by omega, q, hh.2.below⟩
  have TRIM1 := Aside0.mk (trimmed NT1.out)
  have TRIM2 := Aside0.mk (trimmed NT2.out)
  have TRIM3 := Aside0.mk (trimmed NU1.out)
  have TRIM4 := Aside0.mk (trimmed NV1.out)
  have LESS1 := Aside0.mk (show ∀ (W : World) (A2 : Option Addr) (c2 : Nat) (A3 : Option Addr) (c3 : Nat), Kd.C (Kd.int .u64) W A2 Mm.length Mm → Mm.length ≤ c2 → Kd.C (Kd.int .u64) W A3 P.length P → P.length ≤ c3 → Calls Try.prog 65 #[.slice A2 Mm.length c2, .slice A3 P.length c3] W fun e w' => ∃ (A : Option Addr) (c : Nat), e = .returned (.slice A U.length c) ∧ U.length ≤ c ∧ Kd.C (Kd.int .u64) w' A U.length U ∧ Below W.heap.size W w' from fun W A2 c2 A3 c3 h2 h2c h3 h3c => (nat_less.calls k3 A2 c2 Mm A3 c3 P U W h2 h2c h3 h3c K3.out).mono (fun e w' hh => by
    obtain ⟨v, q1, q2, q3⟩ := hh
    obtain ⟨A, c, rfl⟩ := Kd.R_slice q2
    exact ⟨A, c, q1, (Kd.R_reads' q2).2.1, (Kd.R_reads' q2).2.2, q3⟩))
  have LESS2 := Aside0.mk (show ∀ (W : World) (A2 : Option Addr) (c2 : Nat) (A3 : Option Addr) (c3 : Nat), Kd.C (Kd.int .u64) W A2 U1.length U1 → U1.length ≤ c2 → Kd.C (Kd.int .u64) W A3 Q.length Q → Q.length ≤ c3 → Calls Try.prog 65 #[.slice A2 U1.length c2, .slice A3 Q.length c3] W fun e w' => ∃ (A : Option Addr) (c : Nat), e = .returned (.slice A V.length c) ∧ V.length ≤ c ∧ Kd.C (Kd.int .u64) w' A V.length V ∧ Below W.heap.size W w' from fun W A2 c2 A3 c3 h2 h2c h3 h3c => (nat_less.calls k4 A2 c2 U1 A3 c3 Q V W h2 h2c h3 h3c K4.out).mono (fun e w' hh => by
    obtain ⟨v, q1, q2, q3⟩ := hh
    obtain ⟨A, c, rfl⟩ := Kd.R_slice q2
    exact ⟨A, c, q1, (Kd.R_reads' q2).2.1, (Kd.R_reads' q2).2.2, q3⟩))
  clear told hgn hgg trimmed
  go_region_held3 (fun W' => W'.cell? ⟨gh, 0, none⟩ = some (.func (.func 91) #[] #[.pointer (some ⟨gh, 0, none⟩)])) (exact HGC.out _ (by repeat (first | exact HB.out | apply below_drew | apply pw_below_drewN))) (first | (go_at_call 92; (with_reducible refine (LOWA.out _ ?sB ?s1).mono ?_); (case sB => exact (by repeat (first | exact HB.out | apply below_drew | apply pw_below_drewN))); (case s1 => exact (by repeat (first | exact HB1.out | apply below_drew | apply pw_below_drewN))); rintro e w2 ⟨rfl, hb⟩; have n1_ := Aside0.mk (below_step (by repeat (first | exact HB.out | apply below_drew | apply pw_below_drewN)) hb); have n2_ := Aside0.mk (below_step (by repeat (first | exact HB1.out | apply below_drew | apply pw_below_drewN)) hb); clear HB HB1; have HB := n1_; have HB1 := n2_; clear n1_ n2_; (try (have n_ := Aside0.mk (Kd.C_below (by first | exact FP.out | exact Kd.C_drew FP.out) hb); clear FP; have FP := n_; clear n_)); clear hb) | (go_at_call 92; (with_reducible refine (LOWB.out _ ?sB ?s1).mono ?_); (case sB => exact (by repeat (first | exact HB.out | apply below_drew | apply pw_below_drewN))); (case s1 => exact (by repeat (first | exact HB1.out | apply below_drew | apply pw_below_drewN))); rintro e w2 ⟨rfl, hb⟩; have n1_ := Aside0.mk (below_step (by repeat (first | exact HB.out | apply below_drew | apply pw_below_drewN)) hb); have n2_ := Aside0.mk (below_step (by repeat (first | exact HB1.out | apply below_drew | apply pw_below_drewN)) hb); clear HB HB1; have HB := n1_; have HB1 := n2_; clear n1_ n2_; (try (have n_ := Aside0.mk (Kd.C_below (by first | exact FP.out | exact Kd.C_drew FP.out) hb); clear FP; have FP := n_; clear n_)); clear hb) | (go_at_call 91; (with_reducible refine (HALP.out _ _ _ _ _ ?sB ?s1 ?s2 ?s3 ?s4).mono ?_); (case sB => exact (by repeat (first | exact HB.out | apply below_drew | apply pw_below_drewN))); (case s1 => exact (FLA.out _ (by repeat (first | exact HB.out | apply below_drew | apply pw_below_drewN)))); (case s2 => exact CLA.out); (case s3 => exact (FLB.out _ (by repeat (first | exact HB.out | apply below_drew | apply pw_below_drewN)))); (case s4 => exact CLB.out); rintro e w2 ⟨AP, cP, rfl, hc_, hC_, hb⟩; have n1_ := Aside0.mk (below_step (by repeat (first | exact HB.out | apply below_drew | apply pw_below_drewN)) hb); have n2_ := Aside0.mk (below_step (by repeat (first | exact HB1.out | apply below_drew | apply pw_below_drewN)) hb); clear HB HB1; have HB := n1_; have HB1 := n2_; clear n1_ n2_; clear hb; have CP := Aside0.mk hc_; have FP := Aside0.mk hC_; clear hc_ hC_) | (go_at_call 93; (with_reducible refine (HIGHA.out _ ?sB ?s1).mono ?_); (case sB => exact (by repeat (first | exact HB.out | apply below_drew | apply pw_below_drewN))); (case s1 => exact (by repeat (first | exact HB1.out | apply below_drew | apply pw_below_drewN))); rintro e w2 ⟨AHA, cHA, rfl, hc_, hC_, hb⟩; have n1_ := Aside0.mk (below_step (by repeat (first | exact HB.out | apply below_drew | apply pw_below_drewN)) hb); have n2_ := Aside0.mk (below_step (by repeat (first | exact HB1.out | apply below_drew | apply pw_below_drewN)) hb); clear HB HB1; have HB := n1_; have HB1 := n2_; clear n1_ n2_; (try (have n_ := Aside0.mk (Kd.C_below (by first | exact FP.out | exact Kd.C_drew FP.out) hb); clear FP; have FP := n_; clear n_)); clear hb; have CHA := Aside0.mk hc_; have FHA := Aside0.mk hC_; clear hc_ hC_) | (go_at_call 93; (with_reducible refine (HIGHB.out _ ?sB ?s1).mono ?_); (case sB => exact (by repeat (first | exact HB.out | apply below_drew | apply pw_below_drewN))); (case s1 => exact (by repeat (first | exact HB1.out | apply below_drew | apply pw_below_drewN))); rintro e w2 ⟨AHB, cHB, rfl, hc_, hC_, hb⟩; have n1_ := Aside0.mk (below_step (by repeat (first | exact HB.out | apply below_drew | apply pw_below_drewN)) hb); have n2_ := Aside0.mk (below_step (by repeat (first | exact HB1.out | apply below_drew | apply pw_below_drewN)) hb); clear HB HB1; have HB := n1_; have HB1 := n2_; clear n1_ n2_; (try (have n_ := Aside0.mk (Kd.C_below (by first | exact FP.out | exact Kd.C_drew FP.out) hb); clear FP; have FP := n_; clear n_)); (try (have n_ := Aside0.mk (Kd.C_below (by first | exact FHA.out | exact Kd.C_drew FHA.out) hb); clear FHA; have FHA := n_; clear n_)); clear hb; have CHB := Aside0.mk hc_; have FHB := Aside0.mk hC_; clear hc_ hC_) | (go_at_call 91; (with_reducible refine (HALQ.out _ _ _ _ _ ?sB ?s1 ?s2 ?s3 ?s4).mono ?_); (case sB => exact (by repeat (first | exact HB.out | apply below_drew | apply pw_below_drewN))); (case s1 => exact (by first | exact FHA.out | exact Kd.C_drew FHA.out)); (case s2 => exact CHA.out); (case s3 => exact (by first | exact FHB.out | exact Kd.C_drew FHB.out)); (case s4 => exact CHB.out); rintro e w2 ⟨AQ, cQ, rfl, hc_, hC_, hb⟩; have n1_ := Aside0.mk (below_step (by repeat (first | exact HB.out | apply below_drew | apply pw_below_drewN)) hb); have n2_ := Aside0.mk (below_step (by repeat (first | exact HB1.out | apply below_drew | apply pw_below_drewN)) hb); clear HB HB1; have HB := n1_; have HB1 := n2_; clear n1_ n2_; (try (have n_ := Aside0.mk (Kd.C_below (by first | exact FP.out | exact Kd.C_drew FP.out) hb); clear FP; have FP := n_; clear n_)); clear hb; have CQ := Aside0.mk hc_; have FQ := Aside0.mk hC_; clear hc_ hC_))
  clear FHA FHB CHA CHB
  go_wp2
  go_region_held3 (fun W' => W'.cell? ⟨gh, 0, none⟩ = some (.func (.func 91) #[] #[.pointer (some ⟨gh, 0, none⟩)])) (exact HGC.out _ (by repeat (first | exact HB.out | apply below_drew | apply pw_below_drewN))) (first | (go_at_call 92; (with_reducible refine (LOWA.out _ ?sB ?s1).mono ?_); (case sB => exact (by repeat (first | exact HB.out | apply below_drew | apply pw_below_drewN))); (case s1 => exact (by repeat (first | exact HB1.out | apply below_drew | apply pw_below_drewN))); rintro e w2 ⟨rfl, hb⟩; have n1_ := Aside0.mk (below_step (by repeat (first | exact HB.out | apply below_drew | apply pw_below_drewN)) hb); have n2_ := Aside0.mk (below_step (by repeat (first | exact HB1.out | apply below_drew | apply pw_below_drewN)) hb); clear HB HB1; have HB := n1_; have HB1 := n2_; clear n1_ n2_; (try (have n_ := Aside0.mk (Kd.C_below (by first | exact FP.out | exact Kd.C_drew FP.out) hb); clear FP; have FP := n_; clear n_)); (try (have n_ := Aside0.mk (Kd.C_below (by first | exact FQ.out | exact Kd.C_drew FQ.out) hb); clear FQ; have FQ := n_; clear n_)); (try (have n_ := Aside0.mk (Kd.C_below (by first | exact FHC.out | exact Kd.C_drew FHC.out) hb); clear FHC; have FHC := n_; clear n_)); (try (have n_ := Aside0.mk (Kd.C_below (by first | exact FHD.out | exact Kd.C_drew FHD.out) hb); clear FHD; have FHD := n_; clear n_)); (try (have n_ := Aside0.mk (Kd.C_below (by first | exact FS1.out | exact Kd.C_drew FS1.out) hb); clear FS1; have FS1 := n_; clear n_)); (try (have n_ := Aside0.mk (Kd.C_below (by first | exact FT1.out | exact Kd.C_drew FT1.out) hb); clear FT1; have FT1 := n_; clear n_)); (try (have n_ := Aside0.mk (Kd.C_below (by first | exact FS2.out | exact Kd.C_drew FS2.out) hb); clear FS2; have FS2 := n_; clear n_)); (try (have n_ := Aside0.mk (Kd.C_below (by first | exact FT2.out | exact Kd.C_drew FT2.out) hb); clear FT2; have FT2 := n_; clear n_)); clear hb) | (go_at_call 92; (with_reducible refine (LOWB.out _ ?sB ?s1).mono ?_); (case sB => exact (by repeat (first | exact HB.out | apply below_drew | apply pw_below_drewN))); (case s1 => exact (by repeat (first | exact HB1.out | apply below_drew | apply pw_below_drewN))); rintro e w2 ⟨rfl, hb⟩; have n1_ := Aside0.mk (below_step (by repeat (first | exact HB.out | apply below_drew | apply pw_below_drewN)) hb); have n2_ := Aside0.mk (below_step (by repeat (first | exact HB1.out | apply below_drew | apply pw_below_drewN)) hb); clear HB HB1; have HB := n1_; have HB1 := n2_; clear n1_ n2_; (try (have n_ := Aside0.mk (Kd.C_below (by first | exact FP.out | exact Kd.C_drew FP.out) hb); clear FP; have FP := n_; clear n_)); (try (have n_ := Aside0.mk (Kd.C_below (by first | exact FQ.out | exact Kd.C_drew FQ.out) hb); clear FQ; have FQ := n_; clear n_)); (try (have n_ := Aside0.mk (Kd.C_below (by first | exact FHC.out | exact Kd.C_drew FHC.out) hb); clear FHC; have FHC := n_; clear n_)); (try (have n_ := Aside0.mk (Kd.C_below (by first | exact FHD.out | exact Kd.C_drew FHD.out) hb); clear FHD; have FHD := n_; clear n_)); (try (have n_ := Aside0.mk (Kd.C_below (by first | exact FS1.out | exact Kd.C_drew FS1.out) hb); clear FS1; have FS1 := n_; clear n_)); (try (have n_ := Aside0.mk (Kd.C_below (by first | exact FT1.out | exact Kd.C_drew FT1.out) hb); clear FT1; have FT1 := n_; clear n_)); (try (have n_ := Aside0.mk (Kd.C_below (by first | exact FS2.out | exact Kd.C_drew FS2.out) hb); clear FS2; have FS2 := n_; clear n_)); (try (have n_ := Aside0.mk (Kd.C_below (by first | exact FT2.out | exact Kd.C_drew FT2.out) hb); clear FT2; have FT2 := n_; clear n_)); clear hb) | (go_at_call 93; (with_reducible refine (HIGHA.out _ ?sB ?s1).mono ?_); (case sB => exact (by repeat (first | exact HB.out | apply below_drew | apply pw_below_drewN))); (case s1 => exact (by repeat (first | exact HB1.out | apply below_drew | apply pw_below_drewN))); rintro e w2 ⟨AHC, cHC, rfl, hc_, hC_, hb⟩; have n1_ := Aside0.mk (below_step (by repeat (first | exact HB.out | apply below_drew | apply pw_below_drewN)) hb); have n2_ := Aside0.mk (below_step (by repeat (first | exact HB1.out | apply below_drew | apply pw_below_drewN)) hb); clear HB HB1; have HB := n1_; have HB1 := n2_; clear n1_ n2_; (try (have n_ := Aside0.mk (Kd.C_below (by first | exact FP.out | exact Kd.C_drew FP.out) hb); clear FP; have FP := n_; clear n_)); (try (have n_ := Aside0.mk (Kd.C_below (by first | exact FQ.out | exact Kd.C_drew FQ.out) hb); clear FQ; have FQ := n_; clear n_)); (try (have n_ := Aside0.mk (Kd.C_below (by first | exact FHC.out | exact Kd.C_drew FHC.out) hb); clear FHC; have FHC := n_; clear n_)); (try (have n_ := Aside0.mk (Kd.C_below (by first | exact FHD.out | exact Kd.C_drew FHD.out) hb); clear FHD; have FHD := n_; clear n_)); (try (have n_ := Aside0.mk (Kd.C_below (by first | exact FS1.out | exact Kd.C_drew FS1.out) hb); clear FS1; have FS1 := n_; clear n_)); (try (have n_ := Aside0.mk (Kd.C_below (by first | exact FT1.out | exact Kd.C_drew FT1.out) hb); clear FT1; have FT1 := n_; clear n_)); (try (have n_ := Aside0.mk (Kd.C_below (by first | exact FS2.out | exact Kd.C_drew FS2.out) hb); clear FS2; have FS2 := n_; clear n_)); (try (have n_ := Aside0.mk (Kd.C_below (by first | exact FT2.out | exact Kd.C_drew FT2.out) hb); clear FT2; have FT2 := n_; clear n_)); clear hb; have CHC := Aside0.mk hc_; have FHC := Aside0.mk hC_; clear hc_ hC_) | (go_at_call 93; (with_reducible refine (HIGHB.out _ ?sB ?s1).mono ?_); (case sB => exact (by repeat (first | exact HB.out | apply below_drew | apply pw_below_drewN))); (case s1 => exact (by repeat (first | exact HB1.out | apply below_drew | apply pw_below_drewN))); rintro e w2 ⟨AHD, cHD, rfl, hc_, hC_, hb⟩; have n1_ := Aside0.mk (below_step (by repeat (first | exact HB.out | apply below_drew | apply pw_below_drewN)) hb); have n2_ := Aside0.mk (below_step (by repeat (first | exact HB1.out | apply below_drew | apply pw_below_drewN)) hb); clear HB HB1; have HB := n1_; have HB1 := n2_; clear n1_ n2_; (try (have n_ := Aside0.mk (Kd.C_below (by first | exact FP.out | exact Kd.C_drew FP.out) hb); clear FP; have FP := n_; clear n_)); (try (have n_ := Aside0.mk (Kd.C_below (by first | exact FQ.out | exact Kd.C_drew FQ.out) hb); clear FQ; have FQ := n_; clear n_)); (try (have n_ := Aside0.mk (Kd.C_below (by first | exact FHC.out | exact Kd.C_drew FHC.out) hb); clear FHC; have FHC := n_; clear n_)); (try (have n_ := Aside0.mk (Kd.C_below (by first | exact FHD.out | exact Kd.C_drew FHD.out) hb); clear FHD; have FHD := n_; clear n_)); (try (have n_ := Aside0.mk (Kd.C_below (by first | exact FS1.out | exact Kd.C_drew FS1.out) hb); clear FS1; have FS1 := n_; clear n_)); (try (have n_ := Aside0.mk (Kd.C_below (by first | exact FT1.out | exact Kd.C_drew FT1.out) hb); clear FT1; have FT1 := n_; clear n_)); (try (have n_ := Aside0.mk (Kd.C_below (by first | exact FS2.out | exact Kd.C_drew FS2.out) hb); clear FS2; have FS2 := n_; clear n_)); (try (have n_ := Aside0.mk (Kd.C_below (by first | exact FT2.out | exact Kd.C_drew FT2.out) hb); clear FT2; have FT2 := n_; clear n_)); clear hb; have CHD := Aside0.mk hc_; have FHD := Aside0.mk hC_; clear hc_ hC_) | (go_at_call 66; (with_reducible refine (SUM1.out _ _ _ _ _ ?s1 ?s2 ?s3 ?s4).mono ?_); (case s1 => exact (FLA.out _ (by repeat (first | exact HB.out | apply below_drew | apply pw_below_drewN)))); (case s2 => exact CLA.out); (case s3 => exact (by first | exact FHC.out | exact Kd.C_drew FHC.out)); (case s4 => exact CHC.out); rintro e w2 ⟨AS1, cS1, rfl, hc_, hC_, hb⟩; have n1_ := Aside0.mk (below_step (by repeat (first | exact HB.out | apply below_drew | apply pw_below_drewN)) hb); have n2_ := Aside0.mk (below_step (by repeat (first | exact HB1.out | apply below_drew | apply pw_below_drewN)) hb); clear HB HB1; have HB := n1_; have HB1 := n2_; clear n1_ n2_; (try (have n_ := Aside0.mk (Kd.C_below (by first | exact FP.out | exact Kd.C_drew FP.out) hb); clear FP; have FP := n_; clear n_)); (try (have n_ := Aside0.mk (Kd.C_below (by first | exact FQ.out | exact Kd.C_drew FQ.out) hb); clear FQ; have FQ := n_; clear n_)); (try (have n_ := Aside0.mk (Kd.C_below (by first | exact FHC.out | exact Kd.C_drew FHC.out) hb); clear FHC; have FHC := n_; clear n_)); (try (have n_ := Aside0.mk (Kd.C_below (by first | exact FHD.out | exact Kd.C_drew FHD.out) hb); clear FHD; have FHD := n_; clear n_)); (try (have n_ := Aside0.mk (Kd.C_below (by first | exact FS1.out | exact Kd.C_drew FS1.out) hb); clear FS1; have FS1 := n_; clear n_)); (try (have n_ := Aside0.mk (Kd.C_below (by first | exact FT1.out | exact Kd.C_drew FT1.out) hb); clear FT1; have FT1 := n_; clear n_)); (try (have n_ := Aside0.mk (Kd.C_below (by first | exact FS2.out | exact Kd.C_drew FS2.out) hb); clear FS2; have FS2 := n_; clear n_)); (try (have n_ := Aside0.mk (Kd.C_below (by first | exact FT2.out | exact Kd.C_drew FT2.out) hb); clear FT2; have FT2 := n_; clear n_)); clear hb; have CS1 := Aside0.mk hc_; have FS1 := Aside0.mk hC_; clear hc_ hC_) | (go_at_call 66; (with_reducible refine (SUM2.out _ _ _ _ _ ?s1 ?s2 ?s3 ?s4).mono ?_); (case s1 => exact (FLB.out _ (by repeat (first | exact HB.out | apply below_drew | apply pw_below_drewN)))); (case s2 => exact CLB.out); (case s3 => exact (by first | exact FHD.out | exact Kd.C_drew FHD.out)); (case s4 => exact CHD.out); rintro e w2 ⟨AS2, cS2, rfl, hc_, hC_, hb⟩; have n1_ := Aside0.mk (below_step (by repeat (first | exact HB.out | apply below_drew | apply pw_below_drewN)) hb); have n2_ := Aside0.mk (below_step (by repeat (first | exact HB1.out | apply below_drew | apply pw_below_drewN)) hb); clear HB HB1; have HB := n1_; have HB1 := n2_; clear n1_ n2_; (try (have n_ := Aside0.mk (Kd.C_below (by first | exact FP.out | exact Kd.C_drew FP.out) hb); clear FP; have FP := n_; clear n_)); (try (have n_ := Aside0.mk (Kd.C_below (by first | exact FQ.out | exact Kd.C_drew FQ.out) hb); clear FQ; have FQ := n_; clear n_)); (try (have n_ := Aside0.mk (Kd.C_below (by first | exact FHC.out | exact Kd.C_drew FHC.out) hb); clear FHC; have FHC := n_; clear n_)); (try (have n_ := Aside0.mk (Kd.C_below (by first | exact FHD.out | exact Kd.C_drew FHD.out) hb); clear FHD; have FHD := n_; clear n_)); (try (have n_ := Aside0.mk (Kd.C_below (by first | exact FS1.out | exact Kd.C_drew FS1.out) hb); clear FS1; have FS1 := n_; clear n_)); (try (have n_ := Aside0.mk (Kd.C_below (by first | exact FT1.out | exact Kd.C_drew FT1.out) hb); clear FT1; have FT1 := n_; clear n_)); (try (have n_ := Aside0.mk (Kd.C_below (by first | exact FS2.out | exact Kd.C_drew FS2.out) hb); clear FS2; have FS2 := n_; clear n_)); (try (have n_ := Aside0.mk (Kd.C_below (by first | exact FT2.out | exact Kd.C_drew FT2.out) hb); clear FT2; have FT2 := n_; clear n_)); clear hb; have CS2 := Aside0.mk hc_; have FS2 := Aside0.mk hC_; clear hc_ hC_) | (go_at_call 72; (with_reducible refine (TRIM1.out _ _ _ ?s1 ?s2).mono ?_); (case s1 => exact (by first | exact FS1.out | exact Kd.C_drew FS1.out)); (case s2 => exact CS1.out); rintro e w2 ⟨rfl, hc_, hC_, hb⟩; have n1_ := Aside0.mk (below_step (by repeat (first | exact HB.out | apply below_drew | apply pw_below_drewN)) hb); have n2_ := Aside0.mk (below_step (by repeat (first | exact HB1.out | apply below_drew | apply pw_below_drewN)) hb); clear HB HB1; have HB := n1_; have HB1 := n2_; clear n1_ n2_; (try (have n_ := Aside0.mk (Kd.C_below (by first | exact FP.out | exact Kd.C_drew FP.out) hb); clear FP; have FP := n_; clear n_)); (try (have n_ := Aside0.mk (Kd.C_below (by first | exact FQ.out | exact Kd.C_drew FQ.out) hb); clear FQ; have FQ := n_; clear n_)); (try (have n_ := Aside0.mk (Kd.C_below (by first | exact FHC.out | exact Kd.C_drew FHC.out) hb); clear FHC; have FHC := n_; clear n_)); (try (have n_ := Aside0.mk (Kd.C_below (by first | exact FHD.out | exact Kd.C_drew FHD.out) hb); clear FHD; have FHD := n_; clear n_)); (try (have n_ := Aside0.mk (Kd.C_below (by first | exact FS1.out | exact Kd.C_drew FS1.out) hb); clear FS1; have FS1 := n_; clear n_)); (try (have n_ := Aside0.mk (Kd.C_below (by first | exact FT1.out | exact Kd.C_drew FT1.out) hb); clear FT1; have FT1 := n_; clear n_)); (try (have n_ := Aside0.mk (Kd.C_below (by first | exact FS2.out | exact Kd.C_drew FS2.out) hb); clear FS2; have FS2 := n_; clear n_)); (try (have n_ := Aside0.mk (Kd.C_below (by first | exact FT2.out | exact Kd.C_drew FT2.out) hb); clear FT2; have FT2 := n_; clear n_)); clear hb; have CT1 := Aside0.mk hc_; have FT1 := Aside0.mk hC_; clear hc_ hC_) | (go_at_call 72; (with_reducible refine (TRIM2.out _ _ _ ?s1 ?s2).mono ?_); (case s1 => exact (by first | exact FS2.out | exact Kd.C_drew FS2.out)); (case s2 => exact CS2.out); rintro e w2 ⟨rfl, hc_, hC_, hb⟩; have n1_ := Aside0.mk (below_step (by repeat (first | exact HB.out | apply below_drew | apply pw_below_drewN)) hb); have n2_ := Aside0.mk (below_step (by repeat (first | exact HB1.out | apply below_drew | apply pw_below_drewN)) hb); clear HB HB1; have HB := n1_; have HB1 := n2_; clear n1_ n2_; (try (have n_ := Aside0.mk (Kd.C_below (by first | exact FP.out | exact Kd.C_drew FP.out) hb); clear FP; have FP := n_; clear n_)); (try (have n_ := Aside0.mk (Kd.C_below (by first | exact FQ.out | exact Kd.C_drew FQ.out) hb); clear FQ; have FQ := n_; clear n_)); (try (have n_ := Aside0.mk (Kd.C_below (by first | exact FHC.out | exact Kd.C_drew FHC.out) hb); clear FHC; have FHC := n_; clear n_)); (try (have n_ := Aside0.mk (Kd.C_below (by first | exact FHD.out | exact Kd.C_drew FHD.out) hb); clear FHD; have FHD := n_; clear n_)); (try (have n_ := Aside0.mk (Kd.C_below (by first | exact FS1.out | exact Kd.C_drew FS1.out) hb); clear FS1; have FS1 := n_; clear n_)); (try (have n_ := Aside0.mk (Kd.C_below (by first | exact FT1.out | exact Kd.C_drew FT1.out) hb); clear FT1; have FT1 := n_; clear n_)); (try (have n_ := Aside0.mk (Kd.C_below (by first | exact FS2.out | exact Kd.C_drew FS2.out) hb); clear FS2; have FS2 := n_; clear n_)); (try (have n_ := Aside0.mk (Kd.C_below (by first | exact FT2.out | exact Kd.C_drew FT2.out) hb); clear FT2; have FT2 := n_; clear n_)); clear hb; have CT2 := Aside0.mk hc_; have FT2 := Aside0.mk hC_; clear hc_ hC_) | (go_at_call 91; (with_reducible refine (HALM.out _ _ _ _ _ ?sB ?s1 ?s2 ?s3 ?s4).mono ?_); (case sB => exact (by repeat (first | exact HB.out | apply below_drew | apply pw_below_drewN))); (case s1 => exact (by first | exact FT1.out | exact Kd.C_drew FT1.out)); (case s2 => exact CT1.out); (case s3 => exact (by first | exact FT2.out | exact Kd.C_drew FT2.out)); (case s4 => exact CT2.out); rintro e w2 ⟨AM, cM, rfl, hc_, hC_, hb⟩; have n1_ := Aside0.mk (below_step (by repeat (first | exact HB.out | apply below_drew | apply pw_below_drewN)) hb); have n2_ := Aside0.mk (below_step (by repeat (first | exact HB1.out | apply below_drew | apply pw_below_drewN)) hb); clear HB HB1; have HB := n1_; have HB1 := n2_; clear n1_ n2_; (try (have n_ := Aside0.mk (Kd.C_below (by first | exact FP.out | exact Kd.C_drew FP.out) hb); clear FP; have FP := n_; clear n_)); (try (have n_ := Aside0.mk (Kd.C_below (by first | exact FQ.out | exact Kd.C_drew FQ.out) hb); clear FQ; have FQ := n_; clear n_)); clear hb; have CM := Aside0.mk hc_; have FM := Aside0.mk hC_; clear hc_ hC_))
  clear FHC FHD CHC CHD FS1 FS2 FT1 FT2
  obtain ⟨N, hN⟩ : ∃ N : Nat, N = l0.length + l1.length + 1 := ⟨_, rfl⟩
  obtain ⟨O0, hO0⟩ : ∃ X : List Int, X = List.replicate N 0 := ⟨_, rfl⟩
  have HNL := Aside0.mk (show N ≤ 1000 from by have := HL.out; omega)
  have NO0 := Aside0.mk hO0
  have NO1b := Aside0.mk (show O1 = P.take (min P.length O0.length) ++ O0.drop (min P.length O0.length) from by
    have h := NO1.out
    rw [← hN, ← hO0] at h
    rw [hO0, List.length_replicate, ← hO0]
    exact h)
  have K6b := Aside0.mk (show nat_into.f k6 O2 Q (2 * (n : Int)) = some O3 from by
    have h := K6.out
    rw [Int.natCast_mul] at h
    exact h)
  have eN : wrap64 (wrap64 ((l0.length : Int) + (l1.length : Int)) + 1) = (N : Int) := by
    have := HL.out
    unfold wrap64
    omega
  have eNi : IntKind.i64.wrap (IntKind.i64.wrap ((l0.length : Int) + (l1.length : Int)) + 1) = (N : Int) := by rw [i64_w, i64_w]; exact eN
  have e2n : wrap64 (2 * (n : Int)) = 2 * (n : Int) := by
    have := HL.out
    unfold wrap64
    omega
  clear hN hO0
  go_wp2_with (first | (go_at_call 65; (with_reducible refine (LESS1.out _ _ _ _ _ ?s1 ?s2 ?s3 ?s4).mono ?_); (case s1 => exact (by first | exact FM.out | exact Kd.C_drew FM.out)); (case s2 => exact CM.out); (case s3 => exact (by first | exact FP.out | exact Kd.C_drew FP.out)); (case s4 => exact CP.out); rintro e w2 ⟨AU, cU, rfl, hc_, hC_, hb⟩; have n1_ := Aside0.mk (below_step (by repeat (first | exact HB.out | apply below_drew | apply pw_below_drewN)) hb); have n2_ := Aside0.mk (below_step (by repeat (first | exact HB1.out | apply below_drew | apply pw_below_drewN)) hb); clear HB HB1; have HB := n1_; have HB1 := n2_; clear n1_ n2_; (try (have n_ := Aside0.mk (Kd.C_below (by first | exact FP.out | exact Kd.C_drew FP.out) hb); clear FP; have FP := n_; clear n_)); (try (have n_ := Aside0.mk (Kd.C_below (by first | exact FQ.out | exact Kd.C_drew FQ.out) hb); clear FQ; have FQ := n_; clear n_)); (try (have n_ := Aside0.mk (Kd.C_below (by first | exact FM.out | exact Kd.C_drew FM.out) hb); clear FM; have FM := n_; clear n_)); (try (have n_ := Aside0.mk (Kd.C_below (by first | exact FU.out | exact Kd.C_drew FU.out) hb); clear FU; have FU := n_; clear n_)); (try (have n_ := Aside0.mk (Kd.C_below (by first | exact FU1.out | exact Kd.C_drew FU1.out) hb); clear FU1; have FU1 := n_; clear n_)); (try (have n_ := Aside0.mk (Kd.C_below (by first | exact FV.out | exact Kd.C_drew FV.out) hb); clear FV; have FV := n_; clear n_)); clear hb; have CU := Aside0.mk hc_; have FU := Aside0.mk hC_; clear hc_ hC_) | (go_at_call 65; (with_reducible refine (LESS2.out _ _ _ _ _ ?s1 ?s2 ?s3 ?s4).mono ?_); (case s1 => exact (by first | exact FU1.out | exact Kd.C_drew FU1.out)); (case s2 => exact CU1.out); (case s3 => exact (by first | exact FQ.out | exact Kd.C_drew FQ.out)); (case s4 => exact CQ.out); rintro e w2 ⟨AV, cV, rfl, hc_, hC_, hb⟩; have n1_ := Aside0.mk (below_step (by repeat (first | exact HB.out | apply below_drew | apply pw_below_drewN)) hb); have n2_ := Aside0.mk (below_step (by repeat (first | exact HB1.out | apply below_drew | apply pw_below_drewN)) hb); clear HB HB1; have HB := n1_; have HB1 := n2_; clear n1_ n2_; (try (have n_ := Aside0.mk (Kd.C_below (by first | exact FP.out | exact Kd.C_drew FP.out) hb); clear FP; have FP := n_; clear n_)); (try (have n_ := Aside0.mk (Kd.C_below (by first | exact FQ.out | exact Kd.C_drew FQ.out) hb); clear FQ; have FQ := n_; clear n_)); (try (have n_ := Aside0.mk (Kd.C_below (by first | exact FM.out | exact Kd.C_drew FM.out) hb); clear FM; have FM := n_; clear n_)); (try (have n_ := Aside0.mk (Kd.C_below (by first | exact FU.out | exact Kd.C_drew FU.out) hb); clear FU; have FU := n_; clear n_)); (try (have n_ := Aside0.mk (Kd.C_below (by first | exact FU1.out | exact Kd.C_drew FU1.out) hb); clear FU1; have FU1 := n_; clear n_)); (try (have n_ := Aside0.mk (Kd.C_below (by first | exact FV.out | exact Kd.C_drew FV.out) hb); clear FV; have FV := n_; clear n_)); clear hb; have CV := Aside0.mk hc_; have FV := Aside0.mk hC_; clear hc_ hC_) | (go_at_call 72; (with_reducible refine (TRIM3.out _ _ _ ?s1 ?s2).mono ?_); (case s1 => exact (by first | exact FU.out | exact Kd.C_drew FU.out)); (case s2 => exact CU.out); rintro e w2 ⟨rfl, hc_, hC_, hb⟩; have n1_ := Aside0.mk (below_step (by repeat (first | exact HB.out | apply below_drew | apply pw_below_drewN)) hb); have n2_ := Aside0.mk (below_step (by repeat (first | exact HB1.out | apply below_drew | apply pw_below_drewN)) hb); clear HB HB1; have HB := n1_; have HB1 := n2_; clear n1_ n2_; (try (have n_ := Aside0.mk (Kd.C_below (by first | exact FP.out | exact Kd.C_drew FP.out) hb); clear FP; have FP := n_; clear n_)); (try (have n_ := Aside0.mk (Kd.C_below (by first | exact FQ.out | exact Kd.C_drew FQ.out) hb); clear FQ; have FQ := n_; clear n_)); (try (have n_ := Aside0.mk (Kd.C_below (by first | exact FM.out | exact Kd.C_drew FM.out) hb); clear FM; have FM := n_; clear n_)); (try (have n_ := Aside0.mk (Kd.C_below (by first | exact FU.out | exact Kd.C_drew FU.out) hb); clear FU; have FU := n_; clear n_)); (try (have n_ := Aside0.mk (Kd.C_below (by first | exact FU1.out | exact Kd.C_drew FU1.out) hb); clear FU1; have FU1 := n_; clear n_)); (try (have n_ := Aside0.mk (Kd.C_below (by first | exact FV.out | exact Kd.C_drew FV.out) hb); clear FV; have FV := n_; clear n_)); clear hb; have CU1 := Aside0.mk hc_; have FU1 := Aside0.mk hC_; clear hc_ hC_) | (go_at_call 72; (with_reducible refine (TRIM4.out _ _ _ ?s1 ?s2).mono ?_); (case s1 => exact (by first | exact FV.out | exact Kd.C_drew FV.out)); (case s2 => exact CV.out); rintro e w2 ⟨rfl, hc_, hC_, hb⟩; have n1_ := Aside0.mk (below_step (by repeat (first | exact HB.out | apply below_drew | apply pw_below_drewN)) hb); have n2_ := Aside0.mk (below_step (by repeat (first | exact HB1.out | apply below_drew | apply pw_below_drewN)) hb); clear HB HB1; have HB := n1_; have HB1 := n2_; clear n1_ n2_; (try (have n_ := Aside0.mk (Kd.C_below (by first | exact FP.out | exact Kd.C_drew FP.out) hb); clear FP; have FP := n_; clear n_)); (try (have n_ := Aside0.mk (Kd.C_below (by first | exact FQ.out | exact Kd.C_drew FQ.out) hb); clear FQ; have FQ := n_; clear n_)); (try (have n_ := Aside0.mk (Kd.C_below (by first | exact FM.out | exact Kd.C_drew FM.out) hb); clear FM; have FM := n_; clear n_)); (try (have n_ := Aside0.mk (Kd.C_below (by first | exact FU.out | exact Kd.C_drew FU.out) hb); clear FU; have FU := n_; clear n_)); (try (have n_ := Aside0.mk (Kd.C_below (by first | exact FU1.out | exact Kd.C_drew FU1.out) hb); clear FU1; have FU1 := n_; clear n_)); (try (have n_ := Aside0.mk (Kd.C_below (by first | exact FV.out | exact Kd.C_drew FV.out) hb); clear FV; have FV := n_; clear n_)); clear hb; have CV1 := Aside0.mk hc_; have FV1 := Aside0.mk hC_; clear hc_ hC_) | ((with_reducible refine gate_dst (N := 80) rfl ?_); refine Kd.R_make (Kd.int .u64) _ 42 rfl (N := 80) rfl 23 _ _ rfl (N : Int) ?hx ?hy Try.underlying23 (.int .u64 0) 8 info42 rfl (by decide) (by omega) 0 (ok := fun _ => True) (okp := fun _ => True) rfl (fun _ hk => hk) trivial (by omega) (by have := HNL.out; omega) (Below.refl _ _) (Nat.le_refl _) ?_; (case hx => first | rfl | exact congrArg (Value.int IntKind.i64) eN | exact congrArg (Value.int IntKind.i64) eNi); (case hy => first | rfl | exact congrArg (Value.int IntKind.i64) eN | exact congrArg (Value.int IntKind.i64) eNi); intro v wm ho hb hg_ hnew_; rw [Int.toNat_natCast, ← NO0.out] at ho; have OWN0 := Aside0.mk hnew_; obtain ⟨Ao, co, rfl⟩ := Kd.R_slice ho; have OWN := Aside0.mk (show ∀ k, some k = (Value.slice Ao O0.length co).ownBlock → w2.heap.size ≤ k from fun k hk => by obtain ⟨b, h1, h2⟩ := OWN0.out; rw [h1] at hk; cases hk; exact h2); have GP := Aside0.mk (Kd.F_below (Kd.C_F (Kd.heap_int .u64) FP.out) hb); have GV := Aside0.mk (Kd.F_below (Kd.C_F (Kd.heap_int .u64) FV1.out) hb); have GQ := Aside0.mk (Kd.F_below (Kd.C_F (Kd.heap_int .u64) FQ.out) hb); have WL := Aside0.mk (Nat.lt_of_lt_of_le HS1.out HB1.out.size); have HNW := Aside0.mk ((below_step HB1.out hb).block w.heap.size HS1.out |>.trans HN.out); have HB2 := HB; have HBM := Aside0.mk hb; have HO := Aside0.mk ho; clear FP FV1 FQ FM FU FU1 FV HB HB1 OWN0 ho hb hg_ hnew_) | ((with_reducible refine gate_builtin (b := .copy) (xs := #[.tmp 81, .tmp 82]) rfl ?_); refine Kd.R_copy (0 : Int) (w0 := w2) w2.heap.size rfl (.tmp 81) (.tmp 82) 23 23 42 rfl Try.underlying23 (by obtain ⟨i0, hi0, _, hsz, _⟩ := info_parts info42; rw [hi0]; simp [hsz]) (.slice Ao O0.length co) O0 P AP P.length cP (fun _ => True) rfl rfl HO.out (Kd.F_now GP.out) HBM.out HBM.out.size ?_; intro w5 ho hb hg; rw [← NO1b.out] at ho; have n1_ := Aside0.mk (Kd.F_grown GV.out hg (fun k hk e_ => absurd (OWN.out k e_) (by have : k < w2.heap.size := hk; omega))); have n2_ := Aside0.mk (Kd.F_grown GQ.out hg (fun k hk e_ => absurd (OWN.out k e_) (by have : k < w2.heap.size := hk; omega))); have n3_ := Aside0.mk ((hg.block w.heap.size (blk_lt HNW.out) (fun e_ => absurd (OWN.out _ e_) (by have := WL.out; omega))).trans HNW.out); clear GP GV GQ HNW HBM HO; have GV := n1_; have GQ := n2_; have HNW := n3_; have HBM := Aside0.mk hb; have HO := Aside0.mk (show Kd.R (Kd.int .u64) 42 w5 w2.heap.size (fun _ => True) (.slice Ao O0.length co) O1 from ho); have hcn := (blk_cell HNW.out 0).trans rfl; clear n1_ n2_ n3_ ho hb hg) | (go_at_call 94; (with_reducible refine (nat_into.calls k5 (fun k => some k = (Value.slice Ao O0.length co).ownBlock) _ O1 AV cV V1 (n : Int) O2 w2 _ HBM.out (Kd.R_tight rfl HO.out) ?s1 CV1.out ?s2).mono ?_); (case s1 => intro W_ hk; exact Kd.F_now (Kd.F_kept GV.out hk (fun k hk2 hs => absurd (OWN.out k hs) (by have : k < w2.heap.size := hk2; omega)))); (case s2 => exact K5.out); rintro e w6 ⟨rfl, hR, hb, hkp⟩; have n2_ := Aside0.mk (Kd.F_kept GQ.out hkp (fun k hk2 hs => absurd (OWN.out k hs) (by have : k < w2.heap.size := hk2; omega))); clear GQ; have GQ := n2_; clear n2_; have n3_ := Aside0.mk ((hkp.2 w.heap.size (blk_lt HNW.out) (fun e_ => absurd (OWN.out _ e_) (by have := WL.out; omega))).trans HNW.out); clear HNW HBM HO hcn; have HNW := n3_; have HBM := Aside0.mk hb; have HO := Aside0.mk (Kd.R_mono hR (ok' := fun _ => True) (fun _ _ => trivial)); have hcn := (blk_cell HNW.out 0).trans rfl; clear n3_ hR hb hkp) | (go_at_call 94; (with_reducible refine (nat_into.calls k6 (fun k => some k = (Value.slice Ao O0.length co).ownBlock) _ O2 AQ cQ Q (2 * (n : Int)) O3 w2 _ HBM.out (Kd.R_tight rfl HO.out) ?s1 CQ.out ?s2).mono ?_); (case s1 => intro W_ hk; exact Kd.F_now (Kd.F_kept GQ.out hk (fun k hk2 hs => absurd (OWN.out k hs) (by have : k < w2.heap.size := hk2; omega)))); (case s2 => exact K6b.out); rintro e w6 ⟨rfl, hR, hb, hkp⟩; have n3_ := Aside0.mk ((hkp.2 w.heap.size (blk_lt HNW.out) (fun e_ => absurd (OWN.out _ e_) (by have := WL.out; omega))).trans HNW.out); clear HNW HBM HO hcn; have HNW := n3_; have HBM := Aside0.mk hb; have HO := Aside0.mk (Kd.R_mono hR (ok' := fun _ => True) (fun _ _ => trivial)); have hcn := (blk_cell HNW.out 0).trans rfl; clear n3_ hR hb hkp) | (go_at_call 72; (with_reducible refine (nat_trim.calls k7 (fun k => some k = (Value.slice Ao O0.length co).ownBlock) _ O3 RES w _ (below_step HB2.out HBM.out) (Kd.R_lower (Kd.R_tight rfl HO.out) (below_size HB2.out)) K7.out).mono ?_); rintro e w8 ⟨v8, rfl, hR, hb, hkp⟩; have HF := Aside0.mk hR; have HFB := Aside0.mk hb; clear hR hb hkp))
  go_ret
  exact ⟨_, rfl, by rw [← NRES.out]; exact Kd.R_mono HF.out (fun _ _ => trivial), HFB.out⟩
theorem halves_all (gh : Nat) (s : Nat) : ∀ (A0 : Option Addr) (c0 : Nat) (l0 : List Int) (A1 : Option Addr) (c1 : Nat) (l1 : List Int) (w : World), l0.length + l1.length ≤ s → l0.length ≤ 400 → l1.length ≤ 400 → Dig (b64 : Int) l0 → Dig (b64 : Int) l1 →
    Kd.C (Kd.int .u64) w A0 l0.length l0 → l0.length ≤ c0 → Kd.C (Kd.int .u64) w A1 l1.length l1 → l1.length ≤ c1 → w.heap[gh]? = some (hobj gh) → Halved gh A0 c0 l0 A1 c1 l1 w := by
  induction s with
  | zero =>
    intro A0 c0 l0 A1 c1 l1 w hs h0 h1 d0 d1 hr0 hc0 hr1 hc1 hg
    exact halves_short gh A0 c0 l0 A1 c1 l1 w h0 h1 d0 d1 hr0 hc0 hr1 hc1 (by omega)
  | succ s ih =>
    intro A0 c0 l0 A1 c1 l1 w hs h0 h1 d0 d1 hr0 hc0 hr1 hc1 hg
    by_cases h : l0.length < 24 ∨ l1.length < 24
    · exact halves_short gh A0 c0 l0 A1 c1 l1 w h0 h1 d0 d1 hr0 hc0 hr1 hc1 h
    · exact halves_long gh A0 c0 l0 A1 c1 l1 w h0 h1 d0 d1 hr0 hc0 hr1 hc1 (by omega) (by omega) hg (fun A2 c2 l2 A3 c3 l3 W a1 a2 a3 a4 a5 a6 a7 a8 a9 a10 => ih A2 c2 l2 A3 c3 l3 W (by omega) a2 a3 a4 a5 a6 a7 a8 a9 a10)
end Go.Proofs.Ytnaphgnkhhapoab.F
end
section
namespace Go.Proofs.Ytnaphgnkhhapoab.F
open Go.RowKit Go.Proofs.YtnaphgnkhhapoabW.PrintWords Go.Proofs.YtnaphgnkhhapoabW.PrintLast Go.Proofs.YtnaphgnkhhapoabW.PrintMore
set_option linter.unusedVariables false
set_option linter.unusedSimpArgs false
open Go.Proofs.Ytnaphgnkhhapoab.Z (Dig b64 num limbs)
theorem run_store_func {P : Program} {w : World} {a : Addr} (f : Fn) (x y : Array Value) {m : Mode} : (store a (.func f x y) m).run P w = stored P w a (.func f x y) m := run_store P w a _ m rfl
attribute [local go_sem] run_store_func
def limbB (l : List Int) : Bool := l.all fun x => decide (0 ≤ x ∧ x < 18446744073709551616)
theorem limbB_dig {l : List Int} (h : limbB l = true) : Dig (b64 : Int) l := fun x hx => of_decide_eq_true (List.all_eq_true.1 h x hx)
theorem dig_limbB {l : List Int} (h : Dig (b64 : Int) l) : limbB l = true := List.all_eq_true.2 (fun x hx => decide_eq_true (h x hx))
def nat_product.f (l0 l1 : List Int) : Option (List Int) := if (decide (l0.length ≤ 400) && decide (l1.length ≤ 400) && limbB l0 && limbB l1) = true then some (limbs (num l0 * num l1)) else none
theorem nat_product.calls (A0 : Option Addr) (c0 : Nat) (l0 : List Int) (A1 : Option Addr) (c1 : Nat) (l1 : List Int) (r : List Int) (w : World) (hr0 : Kd.C (Kd.int .u64) w A0 l0.length l0) (hc0 : l0.length ≤ c0) (hr1 : Kd.C (Kd.int .u64) w A1 l1.length l1) (hc1 : l1.length ≤ c1) (h : nat_product.f l0 l1 = some r) :
    Calls Try.prog 79 #[.slice A0 l0.length c0, .slice A1 l1.length c1] w fun e w' => ∃ v0_ : Value, e = .returned (v0_) ∧ Kd.R (Kd.int .u64) 42 w' w.heap.size (fun _ => True) v0_ r ∧ Below w.heap.size w w' := by
  unfold nat_product.f at h
  by_cases hh : (decide (l0.length ≤ 400) && decide (l1.length ≤ 400) && limbB l0 && limbB l1) = true
  · rw [if_pos hh] at h
    obtain rfl := Option.some.inj h
    simp only [Bool.and_eq_true, decide_eq_true_eq] at hh
    obtain ⟨⟨⟨h0, h1⟩, d0⟩, d1⟩ := hh
    clear h
    have HH := Aside0.mk (show ∀ W : World, Below w.heap.size w W → W.heap[w.heap.size]? = some (hobj w.heap.size) → Halved w.heap.size A0 c0 l0 A1 c1 l1 W from fun W hb hg =>
      halves_all w.heap.size (l0.length + l1.length) A0 c0 l0 A1 c1 l1 W (Nat.le_refl _) h0 h1 (limbB_dig d0) (limbB_dig d1) (Kd.C_below hr0 hb) hc0 (Kd.C_below hr1 hb) hc1 hg)
    clear hr0 hc0 hr1 hc1 h0 h1 d0 d1
    unfold Halved at HH
    have hnew := blk_new w (hobj w.heap.size)
    have HB := Aside0.mk (below_alloc (Below.refl w.heap.size w) (hobj w.heap.size))
    have HNEW := Aside0.mk hnew
    have hcell := (blk_cell hnew 0).trans rfl
    clear hnew
    unfold hobj hval at HB HNEW hcell
    go_enter Try.func79, Try.ntmps79
    go_wp2_with (go_at_call 91; (refine (HH.out _ HB.out HNEW.out).mono ?_); rintro e w2 ⟨v, rfl, hR, hb⟩; have HR := Aside0.mk hR; have HB2 := Aside0.mk hb; clear hR hb)
    go_ret
    exact ⟨_, rfl, Kd.R_lower HR.out HB.out.size, below_step HB.out HB2.out⟩
  · rw [if_neg hh] at h
    cases h
end Go.Proofs.Ytnaphgnkhhapoab.F
end
section
namespace Go.Proofs.Ytnaphgnkhhapoab.F
open Go.RowKit Go.Proofs.YtnaphgnkhhapoabW.PrintWords Go.Proofs.YtnaphgnkhhapoabW.PrintLast Go.Proofs.YtnaphgnkhhapoabW.PrintMore
attribute [local go_sem] max2_int min2_int max_two min_two max_three min_three max_four min_four
set_option linter.unusedVariables false
set_option linter.unusedSimpArgs false
def nat_Mul.f (k : Nat) (l0 : List Int) (l1 : List Int) : Option (List Int × Int) := (nat_right.f (([l0, l1] : List (List Int)))).bind fun t843 => (if t843 = true then ((nat_product.f l0 l1).bind fun t844 => ((nat_told.f k t844).bind fun bt847 => (some (bt847.1, bt847.2)))) else (some (([] : List Int), 1)))
theorem nat_Mul.calls (k : Nat) (P0_ : Nat → Prop) (A0 : Option Addr) (c0 : Nat) (l0 : List Int) (P1_ : Nat → Prop) (A1 : Option Addr) (c1 : Nat) (l1 : List Int) (r1 : List Int) (r2 : Int) (w : World) (hs0 : Kd.V (Kd.int .u64) 42 w w.heap.size (fun k_ => P0_ k_) (.slice A0 l0.length c0) l0) (hs1 : Kd.V (Kd.int .u64) 42 w w.heap.size (fun k_ => P1_ k_) (.slice A1 l1.length c1) l1) (h : nat_Mul.f k l0 l1 = some (r1, r2)) :
  Calls Try.prog 55 #[.slice A0 l0.length c0, .slice A1 l1.length c1] w fun e w' => ∃ v0_ : Value, e = .returned (.tuple #[v0_, .int .i64 r2]) ∧ Kd.R (Kd.int .u64) 42 w' w.heap.size (fun k_ => (w.heap.size ≤ k_)) v0_ r1 ∧ Below w.heap.size w w' := by
 have HO0 := Aside0.mk (show Kd.V (Kd.int .u64) 42 w w.heap.size (fun k_ => ((P0_ k_ ∨ P1_ k_) ∨ w.heap.size ≤ k_)) (.slice A0 l0.length c0) l0 from Kd.V_mono hs0 (fun k_ hk => .inl (.inl hk)))
 have HO1 := Aside0.mk (show Kd.V (Kd.int .u64) 42 w w.heap.size (fun k_ => ((P0_ k_ ∨ P1_ k_) ∨ w.heap.size ≤ k_)) (.slice A1 l1.length c1) l1 from Kd.V_mono hs1 (fun k_ hk => .inl (.inr hk)))
 have HB := Aside0.mk (Below.refl w.heap.size w)
 have H : ((nat_right.f (([l0, l1] : List (List Int)))).bind fun t843 => (if t843 = true then ((nat_product.f l0 l1).bind fun t844 => ((nat_told.f k t844).bind fun bt847 => (some (bt847.1, bt847.2)))) else (some (([] : List Int), 1)))) = some (r1, r2) := h
 clear h
 generalize hy840 : ((([l0, l1] : List (List Int))) : List (List Int)) = y840 at H
 have Ny840 := Aside0.mk hy840.symm; clear hy840
 replace ⟨t843, A3, H⟩ := ub H
 by_cases c4 : t843 = true
 ·
  subst c4
  rw [if_pos rfl] at H
  replace ⟨t844, A5, H⟩ := ub H
  replace ⟨⟨t847, t850⟩, A6, H⟩ := ub H
  (try dsimp only at H)
  simp only [Option.some.injEq, Prod.mk.injEq] at H
  obtain ⟨rfl, rfl⟩ := H
  go_enter Try.func55, Try.ntmps55
  go_wp2_with (first | ((with_reducible refine gate_dst (N := 8) rfl ?_); refine uNl 8 23 (Kd.slice 42 (Kd.int .u64)) ([l0, l1] : List (List Int)) [.slice A0 l0.length c0, .slice A1 l1.length c1] (fun k_ => ((P0_ k_ ∨ P1_ k_) ∨ w.heap.size ≤ k_)) rfl rfl ?hp ?hf ?_; (case hp => exact (Reps.one (uFs HO0.out) (Reps.one (uFs HO1.out) (Reps.none _ _)))); (case hf => exact fun k_ hk => (.inr (Nat.le_trans (below_size uB) hk))); intro v841 w7 ho8 hb; (first | rw [← Ny840.out] at ho8 | (simp only [Int.reduceToNat] at ho8; rw [← Ny840.out] at ho8)); replace HO0 := Aside0.mk (Kd.V_elder' (uV HO0.out) (Kd.N_base ho8) hb); replace HO1 := Aside0.mk (Kd.V_elder' (uV HO1.out) (Kd.N_base ho8) hb); have HO842 := Aside0.mk (Kd.N_lower ho8 (below_size uB)); replace HB := uy hb; clear hb ho8; obtain ⟨Ao9, co9, eo9⟩ := Kd.N_slice HO842.out; subst eo9) | ((with_reducible refine ug 62 rfl ?_); refine uh (some 9) rfl Try.func62 #[.slice Ao9 y840.length co9] ?_; (with_reducible refine (nat_right.calls _ _ y840 true _ (uC (Kd.N_reads' HO842.out).2.2) ((Kd.N_reads' HO842.out).2.1) A3.out).mono ?_); rintro e w' ⟨rfl, ⟨nd, rfl⟩⟩; refine ⟨_, rfl, ?_⟩) | ((with_reducible refine ug 79 rfl ?_); refine uh (some 13) rfl Try.func79 #[.slice A0 l0.length c0, .slice A1 l1.length c1] ?_; (with_reducible refine (nat_product.calls _ _ l0 _ _ l1 t844 _ (uC (Kd.V_reads' HO0.out).2.2) ((Kd.V_reads' HO0.out).2.1) (uC (Kd.V_reads' HO1.out).2.2) ((Kd.V_reads' HO1.out).2.1) A5.out).mono ?_); rintro e w10 ⟨v845, rfl, ho0, hb⟩; refine ⟨_, rfl, ?_⟩; replace HO0 := ueV HO0 ho0 hb; replace HO1 := ueV HO1 ho0 hb; replace HO842 := ueN HO842 ho0 hb; have HO846 := ulo (Kd.R_newM (M := fun k_ => (w.heap.size ≤ k_)) ho0 (below_size uB) (fun k_ h_ => h_)); replace HB := uy hb; (try clear hb ho0); obtain ⟨Ao11, co11, eo11⟩ := Kd.R_slice HO846.out; subst eo11) | ((with_reducible refine ug 64 rfl ?_); refine uh (some 14) rfl Try.func64 #[.slice Ao11 t844.length co11] ?_; (with_reducible refine (nat_told.calls k (fun k_ => some k_ = (.slice Ao11 t844.length co11 : Value).ownBlock) (.slice Ao11 t844.length co11) t844 t847 t850 w _ ?side1 ?side2 A6.out).mono ?_); (case side1 => repeat (first | (with_reducible first | exact HB.out | apply below_alloc | apply pw_below_drewN | apply below_drew1) | exact HB.out)); (case side2 => exact Kd.R_tight rfl HO846.out); rintro e w12 ⟨v848, rfl, ho0, hb, hkp⟩; refine ⟨_, rfl, ?_⟩; replace HO0 := Aside0.mk (Kd.V_mono (ok' := fun k_ => ((P0_ k_ ∨ P1_ k_) ∨ w.heap.size ≤ k_) ∧ some k_ ≠ (.slice Ao9 y840.length co9 : Value).ownBlock ∧ some k_ ≠ (v848 : Value).ownBlock) (Kd.V_keptB (HO0.out) hkp (fun k_ hk_ hs_ => (hk_.2) hs_)) (fun k_ hk_ => ⟨hk_.1.1.1, hk_.1.1.2, fun e_ => Or.elim (ho0.1 k_ e_.symm) (fun hs_ => hk_.2.1 hs_) (fun hn_ => Nat.not_le.2 hk_.2.2 hn_)⟩)); replace HO1 := Aside0.mk (Kd.V_mono (ok' := fun k_ => ((P0_ k_ ∨ P1_ k_) ∨ w.heap.size ≤ k_) ∧ some k_ ≠ (.slice Ao9 y840.length co9 : Value).ownBlock ∧ some k_ ≠ (v848 : Value).ownBlock) (Kd.V_keptB (HO1.out) hkp (fun k_ hk_ hs_ => (hk_.2) hs_)) (fun k_ hk_ => ⟨hk_.1.1.1, hk_.1.1.2, fun e_ => Or.elim (ho0.1 k_ e_.symm) (fun hs_ => hk_.2.1 hs_) (fun hn_ => Nat.not_le.2 hk_.2.2 hn_)⟩)); replace HO842 := Aside0.mk (Kd.N_mono (ok' := fun k_ => ((P0_ k_ ∨ P1_ k_) ∨ w.heap.size ≤ k_) ∧ some k_ ≠ (v848 : Value).ownBlock) (Kd.N_keptB (HO842.out) hkp (fun k_ hk_ hs_ => (hk_.2) hs_)) (fun k_ hk_ => ⟨hk_.1.1, fun e_ => Or.elim (ho0.1 k_ e_.symm) (fun hs_ => hk_.2.1 hs_) (fun hn_ => Nat.not_le.2 hk_.2.2 hn_)⟩)); have HO849 := Aside0.mk (Kd.R_mono (ok' := fun k_ => (w.heap.size ≤ k_)) ho0 (fun k_ hk_ => Or.elim hk_ (fun hs_ => (HO846.out.1 k_ (hs_).symm).1) (fun hn_ => (Nat.le_trans (below_size uB) hn_)))); replace HB := Aside0.mk (hb); clear HO846; (try clear hb); (try clear hkp); (try clear ho0)))
  go_ret2
  exact ⟨_, uF, uR HO849.out, uB⟩
 replace c4 := Bool.eq_false_iff.mpr c4
 subst c4
 rw [if_neg (show ¬ (false = true) by decide)] at H
 simp only [Option.some.injEq, Prod.mk.injEq] at H
 obtain ⟨rfl, rfl⟩ := H
 go_enter Try.func55, Try.ntmps55
 go_wp2_with (first | ((with_reducible refine gate_dst (N := 8) rfl ?_); refine uNl 8 23 (Kd.slice 42 (Kd.int .u64)) ([l0, l1] : List (List Int)) [.slice A0 l0.length c0, .slice A1 l1.length c1] (fun k_ => ((P0_ k_ ∨ P1_ k_) ∨ w.heap.size ≤ k_)) rfl rfl ?hp ?hf ?_; (case hp => exact (Reps.one (uFs HO0.out) (Reps.one (uFs HO1.out) (Reps.none _ _)))); (case hf => exact fun k_ hk => (.inr (Nat.le_trans (below_size uB) hk))); intro v841 w13 ho14 hb; (first | rw [← Ny840.out] at ho14 | (simp only [Int.reduceToNat] at ho14; rw [← Ny840.out] at ho14)); replace HO0 := Aside0.mk (Kd.V_elder' (uV HO0.out) (Kd.N_base ho14) hb); replace HO1 := Aside0.mk (Kd.V_elder' (uV HO1.out) (Kd.N_base ho14) hb); have HO842 := Aside0.mk (Kd.N_lower ho14 (below_size uB)); replace HB := uy hb; clear hb ho14; obtain ⟨Ao15, co15, eo15⟩ := Kd.N_slice HO842.out; subst eo15) | ((with_reducible refine ug 62 rfl ?_); refine uh (some 9) rfl Try.func62 #[.slice Ao15 y840.length co15] ?_; (with_reducible refine (nat_right.calls _ _ y840 false _ (uC (Kd.N_reads' HO842.out).2.2) ((Kd.N_reads' HO842.out).2.1) A3.out).mono ?_); rintro e w' ⟨rfl, ⟨nd, rfl⟩⟩; refine ⟨_, rfl, ?_⟩))
 go_ret2
 exact ⟨_, uF, uI, uB⟩
def modint_Mul.f (k : Nat) (a0_0 : Bool) (l0_1 : List Int) (a1_0 : Bool) (l1_1 : List Int) : Option (Bool × List Int × Int) := (modint_right.f (([(⟨a0_0, l0_1⟩ : S44), (⟨a1_0, l1_1⟩ : S44)] : List (S44)))).bind fun t857 => (if t857 = true then ((nat_Mul.f k l0_1 l1_1).bind fun bt858 => ((modint_From.f (a0_0 != a1_0) bt858.1).bind fun bt862 => (some (bt862.1, bt862.2, bt858.2)))) else (some (false, ([] : List Int), 1)))
theorem modint_Mul.calls (k : Nat) (a0_0 : Bool) (P0_1_ : Nat → Prop) (A0_1 : Option Addr) (c0_1 : Nat) (l0_1 : List Int) (a1_0 : Bool) (P1_1_ : Nat → Prop) (A1_1 : Option Addr) (c1_1 : Nat) (l1_1 : List Int) (r1 : Bool) (r2 : List Int) (r3 : Int) (w : World) (hs0_1 : Kd.V (Kd.int .u64) 42 w w.heap.size (fun k_ => P0_1_ k_) (.slice A0_1 l0_1.length c0_1) l0_1) (hs1_1 : Kd.V (Kd.int .u64) 42 w w.heap.size (fun k_ => P1_1_ k_) (.slice A1_1 l1_1.length c1_1) l1_1) (h : modint_Mul.f k a0_0 l0_1 a1_0 l1_1 = some (r1, r2, r3)) :
  Calls Try.prog 27 #[.agg #[.bool a0_0, .slice A0_1 l0_1.length c0_1], .agg #[.bool a1_0, .slice A1_1 l1_1.length c1_1]] w fun e w' => ∃ v1_ : Value, e = .returned (.tuple #[.agg #[.bool r1, v1_], .int .i64 r3]) ∧ Kd.R (Kd.int .u64) 42 w' w.heap.size (fun k_ => (w.heap.size ≤ k_)) v1_ r2 ∧ Below w.heap.size w w' := by
 have hu44 := Try.underlying44
 have HO0_1 := Aside0.mk (show Kd.V (Kd.int .u64) 42 w w.heap.size (fun k_ => ((P0_1_ k_ ∨ P1_1_ k_) ∨ w.heap.size ≤ k_)) (.slice A0_1 l0_1.length c0_1) l0_1 from Kd.V_mono hs0_1 (fun k_ hk => .inl (.inl hk)))
 have HO1_1 := Aside0.mk (show Kd.V (Kd.int .u64) 42 w w.heap.size (fun k_ => ((P0_1_ k_ ∨ P1_1_ k_) ∨ w.heap.size ≤ k_)) (.slice A1_1 l1_1.length c1_1) l1_1 from Kd.V_mono hs1_1 (fun k_ hk => .inl (.inr hk)))
 have HB := Aside0.mk (Below.refl w.heap.size w)
 have H : ((modint_right.f (([(⟨a0_0, l0_1⟩ : S44), (⟨a1_0, l1_1⟩ : S44)] : List (S44)))).bind fun t857 => (if t857 = true then ((nat_Mul.f k l0_1 l1_1).bind fun bt858 => ((modint_From.f (a0_0 != a1_0) bt858.1).bind fun bt862 => (some (bt862.1, bt862.2, bt858.2)))) else (some (false, ([] : List Int), 1)))) = some (r1, r2, r3) := h
 clear h
 generalize hy854 : ((([(⟨a0_0, l0_1⟩ : S44), (⟨a1_0, l1_1⟩ : S44)] : List (S44))) : List (S44)) = y854 at H
 have Ny854 := Aside0.mk hy854.symm; clear hy854
 replace ⟨t857, A3, H⟩ := ub H
 by_cases c4 : t857 = true
 ·
  subst c4
  rw [if_pos rfl] at H
  replace ⟨⟨t858, t861⟩, A5, H⟩ := ub H
  (try dsimp only at H)
  replace ⟨⟨t862, t863⟩, A6, H⟩ := ub H
  (try dsimp only at H)
  simp only [Option.some.injEq, Prod.mk.injEq] at H
  obtain ⟨rfl, rfl, rfl⟩ := H
  go_enter Try.func27, Try.ntmps27
  go_wp2_with (first | ((with_reducible refine gate_dst (N := 2) rfl ?_); refine ubx 2 #[.bool a0_0, .slice A0_1 l0_1.length c0_1] 44 rfl rfl ?_; intro gb851 hg w7 hbox hb; replace HO0_1 := uvb HO0_1 hg hb; replace HO1_1 := uvb HO1_1 hg hb; have BK851 := Aside0.mk (hbox); have GW851 := us hg; have GE851 := us hg; replace HB := uy hb; clear hb hbox hg) | ((with_reducible refine gate_dst (N := 3) rfl ?_); refine ubx 3 #[.bool a1_0, .slice A1_1 l1_1.length c1_1] 44 rfl rfl ?_; intro gb852 hg w8 hbox hb; replace HO0_1 := uvb HO0_1 hg hb; replace HO1_1 := uvb HO1_1 hg hb; have BK852 := Aside0.mk (hbox); have GW852 := us hg; have GE852 := us hg; replace HB := uy hb; obtain ⟨NB851_852, NB852_851⟩ := unb hg BK851; replace BK851 := ux BK851 hb; clear hb hbox hg) | ((with_reducible refine gate_dst (N := 4) rfl ?_); refine ubx 4 #[.bool false, .slice none 0 0] 44 rfl rfl ?_; intro gb853 hg w9 hbox hb; replace HO0_1 := uvb HO0_1 hg hb; replace HO1_1 := uvb HO1_1 hg hb; have BK853 := Aside0.mk (hbox); have GW853 := us hg; have GE853 := us hg; replace HB := uy hb; obtain ⟨NB851_853, NB853_851⟩ := unb hg BK851; replace BK851 := ux BK851 hb; obtain ⟨NB852_853, NB853_852⟩ := unb hg BK852; replace BK852 := ux BK852 hb; clear hb hbox hg; have hnb10 := NB851_852.out; have hnc10 := NB852_851.out; have hnb11 := NB851_853.out; have hnc11 := NB853_851.out; obtain ⟨hcz12_0, hcz12_1, hfz12_0, hfz12_1⟩ := uz2 w9 BK851; have hnb13 := NB852_853.out; have hnc13 := NB853_852.out; obtain ⟨hcz14_0, hcz14_1, hfz14_0, hfz14_1⟩ := uz2 w9 BK852) | ((with_reducible refine gate_dst (N := 10) rfl ?_); refine uNl 10 44 k44 ([(⟨a0_0, l0_1⟩ : S44), (⟨a1_0, l1_1⟩ : S44)] : List (S44)) [.bool a0_0, .slice A0_1 l0_1.length c0_1, .bool a1_0, .slice A1_1 l1_1.length c1_1] (fun k_ => ((P0_1_ k_ ∨ P1_1_ k_) ∨ w.heap.size ≤ k_) ∧ k_ ≠ gb851 ∧ k_ ≠ gb852 ∧ k_ ≠ gb853) rfl rfl ?hp ?hf ?_; (case hp => exact (Reps.c2 (k44_mkF _ _ (⟨a0_0, l0_1⟩ : S44) (Kd.V_reads' HO0_1.out).2.1 (Kd.V_F (Kd.V_mono (HO0_1.out) (fun k_ hk => ⟨hk.1.1.1, ⟨hk.1.1.2, ⟨hk.1.2, hk.2⟩⟩⟩)))) (Reps.c2 (k44_mkF _ _ (⟨a1_0, l1_1⟩ : S44) (Kd.V_reads' HO1_1.out).2.1 (Kd.V_F (Kd.V_mono (HO1_1.out) (fun k_ hk => ⟨hk.1.1.1, ⟨hk.1.1.2, ⟨hk.1.2, hk.2⟩⟩⟩)))) (Reps.none _ _)))); (case hf => exact fun k_ hk => ⟨(.inr (Nat.le_trans (below_size uB) hk)), Kd.freshB (g := gb851) (o := .cells #[.bool a0_0, .slice A0_1 l0_1.length c0_1] 44 (0, 0)) (uK BK851.out) k_ hk, Kd.freshB (g := gb852) (o := .cells #[.bool a1_0, .slice A1_1 l1_1.length c1_1] 44 (0, 0)) (uK BK852.out) k_ hk, Kd.freshB (g := gb853) (o := .cells #[.bool false, .slice none 0 0] 44 (0, 0)) (uK BK853.out) k_ hk⟩); intro v855 w15 ho16 hb; (first | rw [← Ny854.out] at ho16 | (simp only [Int.reduceToNat] at ho16; rw [← Ny854.out] at ho16)); replace HO0_1 := Aside0.mk (Kd.V_elder' (uV HO0_1.out) (Kd.N_base ho16) hb); replace HO1_1 := Aside0.mk (Kd.V_elder' (uV HO1_1.out) (Kd.N_base ho16) hb); have HO856 := Aside0.mk (Kd.N_lower ho16 (below_size uB)); replace BK851 := ux BK851 hb; replace BK852 := ux BK852 hb; replace BK853 := ux BK853 hb; replace HB := uy hb; clear hb ho16; obtain ⟨Ao17, co17, eo17⟩ := Kd.N_slice HO856.out; subst eo17) | ((with_reducible refine ug 42 rfl ?_); refine uh (some 11) rfl Try.func42 #[.slice Ao17 y854.length co17] ?_; (with_reducible refine (modint_right.calls _ _ y854 true _ (uC (Kd.N_reads' HO856.out).2.2) ((Kd.N_reads' HO856.out).2.1) A3.out).mono ?_); rintro e w18 ⟨rfl, hb⟩; refine ⟨_, rfl, ?_⟩; replace HO0_1 := Aside0.mk (Kd.V_below (uV HO0_1.out) hb); replace HO1_1 := Aside0.mk (Kd.V_below (uV HO1_1.out) hb); replace HO856 := Aside0.mk (Kd.N_below (uN HO856.out) hb); replace BK851 := ux BK851 hb; replace BK852 := ux BK852 hb; replace BK853 := ux BK853 hb; replace HB := uy hb; (try clear hb); obtain ⟨hcz19_0, hcz19_1, hfz19_0, hfz19_1⟩ := uz2 w18 BK851; obtain ⟨hcz20_0, hcz20_1, hfz20_0, hfz20_1⟩ := uz2 w18 BK852) | ((with_reducible refine ug 55 rfl ?_); refine uh (some 19) rfl Try.func55 #[.slice A0_1 l0_1.length c0_1, .slice A1_1 l1_1.length c1_1] ?_; (with_reducible refine (nat_Mul.calls k (fun k_ => ((((((P0_1_ k_ ∨ P1_1_ k_) ∨ w.heap.size ≤ k_) ∧ k_ ≠ gb851) ∧ k_ ≠ gb852) ∧ k_ ≠ gb853) ∧ some k_ ≠ (.slice Ao17 y854.length co17 : Value).ownBlock)) _ _ l0_1 (fun k_ => ((((((P0_1_ k_ ∨ P1_1_ k_) ∨ w.heap.size ≤ k_) ∧ k_ ≠ gb851) ∧ k_ ≠ gb852) ∧ k_ ≠ gb853) ∧ some k_ ≠ (.slice Ao17 y854.length co17 : Value).ownBlock)) _ _ l1_1 t858 t861 _ HO0_1.out HO1_1.out A5.out).mono ?_); rintro e w21 ⟨v859, rfl, ho0, hb⟩; refine ⟨_, rfl, ?_⟩; replace HO0_1 := ueV HO0_1 ho0 hb; replace HO1_1 := ueV HO1_1 ho0 hb; replace HO856 := ueN HO856 ho0 hb; have HO860 := ulo (Kd.R_newM (M := fun k_ => (w.heap.size ≤ k_)) (Kd.R_mono (ok' := fun k_ => True) ho0 (fun _ hk_ => trivial)) (below_size uB) (fun k_ h_ => h_)); replace BK851 := ux BK851 hb; replace BK852 := ux BK852 hb; replace BK853 := ux BK853 hb; replace HB := uy hb; (try clear hb ho0); obtain ⟨hcz22_0, hcz22_1, hfz22_0, hfz22_1⟩ := uz2 w21 BK851; obtain ⟨hcz23_0, hcz23_1, hfz23_0, hfz23_1⟩ := uz2 w21 BK852; obtain ⟨Ao24, co24, eo24⟩ := Kd.R_slice HO860.out; subst eo24) | ((with_reducible refine ug 41 rfl ?_); refine uh (some 28) rfl Try.func41 #[.bool (a0_0 != a1_0), .slice Ao24 t858.length co24] ?_; (with_reducible refine (modint_From.calls (a0_0 != a1_0) _ _ t858 t862 t863 _ (uC (Kd.R_reads' HO860.out).2.2) ((Kd.R_reads' HO860.out).2.1) A6.out).mono ?_); rintro e w25 ⟨v864, rfl, ho0, hb⟩; refine ⟨_, rfl, ?_⟩; replace HO0_1 := ueV HO0_1 ho0 hb; replace HO1_1 := ueV HO1_1 ho0 hb; replace HO856 := ueN HO856 ho0 hb; have HO865 := ulo (unw (Kd.R_newM (M := fun k_ => (w.heap.size ≤ k_)) ho0 (below_size uB) (fun k_ h_ => h_)) HO860); replace HO860 := ueR HO860 ho0 hb; replace BK851 := ux BK851 hb; replace BK852 := ux BK852 hb; replace BK853 := ux BK853 hb; replace HB := uy hb; (try clear hb ho0); obtain ⟨hcz26_0, hcz26_1, hfz26_0, hfz26_1⟩ := uz2 w25 BK853; obtain ⟨Ao27, co27, eo27⟩ := Kd.R_slice HO865.out; subst eo27))
  refine bodyPost_ret (results_ct rfl _ _ gb853 44 #[.bool t862, .slice Ao27 t863.length co27] (0, 0) _ rfl (by refine blk_put (cs := #[.bool t862, .slice none 0 0]) ?_ 1 _ rfl; refine blk_put (cs := #[.bool false, .slice none 0 0]) ?_ 0 _ rfl; exact uK BK853.out) Try.underlying44 rfl (by kernel_rfl)) rfl ?_
  exact ⟨_, uF, by exact uR (Kd.R_mono (Kd.R_far (p := ⟨gb853, 1, none⟩) (Kd.R_far (p := ⟨gb853, 0, none⟩) (Kd.R_types HO865.out BK853.out (by decide)) (fun _ hk => hk.2) (.bool t862)) (fun _ hk => hk.2) (.slice Ao27 t863.length co27)) (fun _ hk => hk.1.1.1)), uB⟩
 replace c4 := Bool.eq_false_iff.mpr c4
 subst c4
 rw [if_neg (show ¬ (false = true) by decide)] at H
 simp only [Option.some.injEq, Prod.mk.injEq] at H
 obtain ⟨rfl, rfl, rfl⟩ := H
 go_enter Try.func27, Try.ntmps27
 go_wp2_with (first | ((with_reducible refine gate_dst (N := 2) rfl ?_); refine ubx 2 #[.bool a0_0, .slice A0_1 l0_1.length c0_1] 44 rfl rfl ?_; intro gb851 hg w28 hbox hb; replace HO0_1 := uvb HO0_1 hg hb; replace HO1_1 := uvb HO1_1 hg hb; have BK851 := Aside0.mk (hbox); have GW851 := us hg; have GE851 := us hg; replace HB := uy hb; clear hb hbox hg) | ((with_reducible refine gate_dst (N := 3) rfl ?_); refine ubx 3 #[.bool a1_0, .slice A1_1 l1_1.length c1_1] 44 rfl rfl ?_; intro gb852 hg w29 hbox hb; replace HO0_1 := uvb HO0_1 hg hb; replace HO1_1 := uvb HO1_1 hg hb; have BK852 := Aside0.mk (hbox); have GW852 := us hg; have GE852 := us hg; replace HB := uy hb; obtain ⟨NB851_852, NB852_851⟩ := unb hg BK851; replace BK851 := ux BK851 hb; clear hb hbox hg) | ((with_reducible refine gate_dst (N := 4) rfl ?_); refine ubx 4 #[.bool false, .slice none 0 0] 44 rfl rfl ?_; intro gb853 hg w30 hbox hb; replace HO0_1 := uvb HO0_1 hg hb; replace HO1_1 := uvb HO1_1 hg hb; have BK853 := Aside0.mk (hbox); have GW853 := us hg; have GE853 := us hg; replace HB := uy hb; obtain ⟨NB851_853, NB853_851⟩ := unb hg BK851; replace BK851 := ux BK851 hb; obtain ⟨NB852_853, NB853_852⟩ := unb hg BK852; replace BK852 := ux BK852 hb; clear hb hbox hg; have hnb31 := NB851_852.out; have hnc31 := NB852_851.out; have hnb32 := NB851_853.out; have hnc32 := NB853_851.out; obtain ⟨hcz33_0, hcz33_1, hfz33_0, hfz33_1⟩ := uz2 w30 BK851; have hnb34 := NB852_853.out; have hnc34 := NB853_852.out; obtain ⟨hcz35_0, hcz35_1, hfz35_0, hfz35_1⟩ := uz2 w30 BK852) | ((with_reducible refine gate_dst (N := 10) rfl ?_); refine uNl 10 44 k44 ([(⟨a0_0, l0_1⟩ : S44), (⟨a1_0, l1_1⟩ : S44)] : List (S44)) [.bool a0_0, .slice A0_1 l0_1.length c0_1, .bool a1_0, .slice A1_1 l1_1.length c1_1] (fun k_ => ((P0_1_ k_ ∨ P1_1_ k_) ∨ w.heap.size ≤ k_) ∧ k_ ≠ gb851 ∧ k_ ≠ gb852 ∧ k_ ≠ gb853) rfl rfl ?hp ?hf ?_; (case hp => exact (Reps.c2 (k44_mkF _ _ (⟨a0_0, l0_1⟩ : S44) (Kd.V_reads' HO0_1.out).2.1 (Kd.V_F (Kd.V_mono (HO0_1.out) (fun k_ hk => ⟨hk.1.1.1, ⟨hk.1.1.2, ⟨hk.1.2, hk.2⟩⟩⟩)))) (Reps.c2 (k44_mkF _ _ (⟨a1_0, l1_1⟩ : S44) (Kd.V_reads' HO1_1.out).2.1 (Kd.V_F (Kd.V_mono (HO1_1.out) (fun k_ hk => ⟨hk.1.1.1, ⟨hk.1.1.2, ⟨hk.1.2, hk.2⟩⟩⟩)))) (Reps.none _ _)))); (case hf => exact fun k_ hk => ⟨(.inr (Nat.le_trans (below_size uB) hk)), Kd.freshB (g := gb851) (o := .cells #[.bool a0_0, .slice A0_1 l0_1.length c0_1] 44 (0, 0)) (uK BK851.out) k_ hk, Kd.freshB (g := gb852) (o := .cells #[.bool a1_0, .slice A1_1 l1_1.length c1_1] 44 (0, 0)) (uK BK852.out) k_ hk, Kd.freshB (g := gb853) (o := .cells #[.bool false, .slice none 0 0] 44 (0, 0)) (uK BK853.out) k_ hk⟩); intro v855 w36 ho37 hb; (first | rw [← Ny854.out] at ho37 | (simp only [Int.reduceToNat] at ho37; rw [← Ny854.out] at ho37)); replace HO0_1 := Aside0.mk (Kd.V_elder' (uV HO0_1.out) (Kd.N_base ho37) hb); replace HO1_1 := Aside0.mk (Kd.V_elder' (uV HO1_1.out) (Kd.N_base ho37) hb); have HO856 := Aside0.mk (Kd.N_lower ho37 (below_size uB)); replace BK851 := ux BK851 hb; replace BK852 := ux BK852 hb; replace BK853 := ux BK853 hb; replace HB := uy hb; clear hb ho37; obtain ⟨Ao38, co38, eo38⟩ := Kd.N_slice HO856.out; subst eo38) | ((with_reducible refine ug 42 rfl ?_); refine uh (some 11) rfl Try.func42 #[.slice Ao38 y854.length co38] ?_; (with_reducible refine (modint_right.calls _ _ y854 false _ (uC (Kd.N_reads' HO856.out).2.2) ((Kd.N_reads' HO856.out).2.1) A3.out).mono ?_); rintro e w39 ⟨rfl, hb⟩; refine ⟨_, rfl, ?_⟩; replace HO0_1 := Aside0.mk (Kd.V_below (uV HO0_1.out) hb); replace HO1_1 := Aside0.mk (Kd.V_below (uV HO1_1.out) hb); replace HO856 := Aside0.mk (Kd.N_below (uN HO856.out) hb); replace BK851 := ux BK851 hb; replace BK852 := ux BK852 hb; replace BK853 := ux BK853 hb; replace HB := uy hb; (try clear hb); obtain ⟨hcz40_0, hcz40_1, hfz40_0, hfz40_1⟩ := uz2 w39 BK853))
 refine bodyPost_ret (results_ct rfl _ _ gb853 44 #[.bool false, .slice none 0 0] (0, 0) _ rfl (by refine blk_put (cs := #[.bool false, .slice none 0 0]) ?_ 1 _ rfl; refine blk_put (cs := #[.bool false, .slice none 0 0]) ?_ 0 _ rfl; exact uK BK853.out) Try.underlying44 rfl (by kernel_rfl)) rfl ?_
 exact ⟨_, uF, uI, uB⟩
mutual
def fixenc_Room.j0 : Nat → List Int → Int → Int → Int → Bool → Option (Int × Int)
 | 0, _, _, _, _, _ => none
 | k + 1, x0, x1, x2, x3, x31 => if x31 = true then (some (0, 1)) else ((bits_Mul64.f (IntKind.u64.wrap (x1)) (IntKind.u64.wrap (x3))).bind fun bt922 => ((bits_Len64.f k bt922.2).bind fun t924 => (if bt922.1 > 0 then (fixenc_Room.j1 k x0 x1 x2 t924 true) else (fixenc_Room.j1 k x0 x1 x2 t924 (decide (t924 > 62))))))
def fixenc_Room.j1 : Nat → List Int → Int → Int → Int → Bool → Option (Int × Int)
 | 0, _, _, _, _, _ => none
 | k + 1, x0, x1, x2, x12, x47 => if x47 = true then (some (0, 12)) else ((modint_Of.f k x1).bind fun bt925 => ((modint_Of.f k x2).bind fun bt929 => ((modint_Mul.f k bt925.1 bt925.2 bt929.1 bt929.2).bind fun bt933 => ((modint_Of.f k 1).bind fun bt939 => ((modint_Add.f k bt933.1 bt933.2.1 bt939.1 bt939.2).bind fun bt943 => ((fixenc_times2.f k bt943.1 bt943.2.1 x12).bind fun bt948 => ((modint_Of.f k 1).bind fun bt952 => ((modint_Sub.f k bt948.1 bt948.2 bt952.1 bt952.2).bind fun bt956 => ((fixenc_fits.f k x0 bt956.2.1).bind fun t962 => (if t962 = true then (some (x12, 0)) else (some (0, 12))))))))))))
end
def fixenc_Room.f (k : Nat) (l0 : List Int) (a1 : Int) (a2 : Int) (a3 : Int) : Option (Int × Int) := (fixenc_modulus_may.f k l0).bind fun t921 => (if t921 = true then (if a1 < 1 then (fixenc_Room.j0 k l0 a1 a2 a3 true) else (if a2 < 1 then (fixenc_Room.j0 k l0 a1 a2 a3 true) else (fixenc_Room.j0 k l0 a1 a2 a3 (decide (a3 < 1))))) else (fixenc_Room.j0 k l0 a1 a2 a3 true))
theorem fixenc_Room.calls (k : Nat) (A0 : Option Addr) (c0 : Nat) (l0 : List Int) (a1 : Int) (a2 : Int) (a3 : Int) (r1 : Int) (r2 : Int) (w : World) (hr0 : Kd.C (Kd.int .u64) w A0 l0.length l0) (hc0 : l0.length ≤ c0) (h : fixenc_Room.f k l0 a1 a2 a3 = some (r1, r2)) :
  Calls Try.prog 9 #[.slice A0 l0.length c0, .int .i64 a1, .int .i64 a2, .int .i64 a3] w fun e w' => e = .returned (.tuple #[.int .i64 r1, .int .i64 r2]) ∧ Below w.heap.size w w' := by
 have hu44 := Try.underlying44
 have HR0 := Aside0.mk hr0; have HC0 := Aside0.mk hc0; clear hr0 hc0
 have HB := Aside0.mk (Below.refl w.heap.size w)
 have H : ((fixenc_modulus_may.f k l0).bind fun t921 => (if t921 = true then (if a1 < 1 then (fixenc_Room.j0 k l0 a1 a2 a3 true) else (if a2 < 1 then (fixenc_Room.j0 k l0 a1 a2 a3 true) else (fixenc_Room.j0 k l0 a1 a2 a3 (decide (a3 < 1))))) else (fixenc_Room.j0 k l0 a1 a2 a3 true))) = some (r1, r2) := h
 clear h; have HC5 := Aside0.mk H; clear H
 go_enter Try.func9, Try.ntmps9
 go_upto_region 1 with (fail)
 go_cut [31] (fun v31 wc => ∃ (kq : Nat) (x31_4 : Bool), v31 = .bool x31_4 ∧ Aside0 (fixenc_Room.j0 kq l0 a1 a2 a3 x31_4 = some (r1, r2)) ∧ Aside0 (kq ≤ k) ∧ Aside0 (Below w.heap.size w wc))
 case first =>
  have H := HC5.out
  clear HC5
  replace ⟨t921, A6, H⟩ := ub H
  by_cases c7 : t921 = true
  ·
   subst c7
   rw [if_pos rfl] at H
   by_cases c8 : a1 < 1
   ·
    rw [if_pos c8] at H
    have c8b0 := decide_eq_true c8
    clear c8
    (first | rw [c8b0] | (simp only [i64_w, i32_w]; rw [c8b0]) | skip)
    have H' := Aside0.mk H
    clear H
    go_wp2_with (first | ((with_reducible refine ug 14 rfl ?_); refine uh (some 18) rfl Try.func14 #[.slice A0 l0.length c0] ?_; (with_reducible refine (fixenc_modulus_may.calls k _ _ l0 true _ (uC (Kd.C_below HR0.out HB.out)) HC0.out A6.out).mono ?_); rintro e w9 ⟨rfl, hb⟩; refine ⟨_, rfl, ?_⟩; replace HB := uy hb; (try clear hb)))
    go_meet
    case rel => exact ⟨_, (true), uG, H', ⟨uW⟩, ⟨uB⟩⟩
   rw [if_neg c8] at H
   have c8b0 := decide_eq_false c8
   clear c8
   (first | rw [c8b0] | (simp only [i64_w, i32_w]; rw [c8b0]) | skip)
   by_cases c10 : a2 < 1
   ·
    rw [if_pos c10] at H
    have c10b0 := decide_eq_true c10
    clear c10
    have H' := Aside0.mk H
    clear H
    go_wp2_with (first | ((with_reducible refine ug 14 rfl ?_); refine uh (some 18) rfl Try.func14 #[.slice A0 l0.length c0] ?_; (with_reducible refine (fixenc_modulus_may.calls k _ _ l0 true _ (uC (Kd.C_below HR0.out HB.out)) HC0.out A6.out).mono ?_); rintro e w11 ⟨rfl, hb⟩; refine ⟨_, rfl, ?_⟩; replace HB := uy hb; (try clear hb)))
    go_meet
    case rel => exact ⟨_, (true), uG, H', ⟨uW⟩, ⟨uB⟩⟩
   rw [if_neg c10] at H
   have c10b0 := decide_eq_false c10
   clear c10
   have H' := Aside0.mk H
   clear H
   go_wp2_with (first | ((with_reducible refine ug 14 rfl ?_); refine uh (some 18) rfl Try.func14 #[.slice A0 l0.length c0] ?_; (with_reducible refine (fixenc_modulus_may.calls k _ _ l0 true _ (uC (Kd.C_below HR0.out HB.out)) HC0.out A6.out).mono ?_); rintro e w12 ⟨rfl, hb⟩; refine ⟨_, rfl, ?_⟩; replace HB := uy hb; (try clear hb)))
   go_meet
   case rel => exact ⟨_, (decide (a3 < 1)), uG, H', ⟨uW⟩, ⟨uB⟩⟩
  replace c7 := Bool.eq_false_iff.mpr c7
  subst c7
  rw [if_neg (show ¬ (false = true) by decide)] at H
  have H' := Aside0.mk H
  clear H
  go_wp2_with (first | ((with_reducible refine ug 14 rfl ?_); refine uh (some 18) rfl Try.func14 #[.slice A0 l0.length c0] ?_; (with_reducible refine (fixenc_modulus_may.calls k _ _ l0 false _ (uC (Kd.C_below HR0.out HB.out)) HC0.out A6.out).mono ?_); rintro e w13 ⟨rfl, hb⟩; refine ⟨_, rfl, ?_⟩; replace HB := uy hb; (try clear hb)))
  go_meet
  case rel => exact ⟨_, (true), uG, H', ⟨uW⟩, ⟨uB⟩⟩
 case rest =>
  clear HC5
  obtain ⟨kq, x31_4, rfl, HA, HJ4, HB⟩ := hcut
  cases kq with
  | zero => exact absurd HA.out (by simp [fixenc_Room.j0])
  | succ kj4 =>
   have H := HA.out
   clear HA
   simp only [fixenc_Room.j0] at H
   by_cases c14 : x31_4 = true
   ·
    subst c14
    rw [if_pos rfl] at H
    simp only [Option.some.injEq, Prod.mk.injEq] at H
    obtain ⟨rfl, rfl⟩ := H
    go_wp2
    go_ret2
    exact ⟨uF, uB⟩
   replace c14 := Bool.eq_false_iff.mpr c14
   subst c14
   rw [if_neg (show ¬ (false = true) by decide)] at H
   replace ⟨⟨t922, t923⟩, A15, H⟩ := ub H
   (try dsimp only at H)
   replace ⟨t924, A16, H⟩ := ub H
   have HC17 := Aside0.mk H; clear H
   go_upto_region 5 with (first | ((with_reducible refine ug 25 rfl ?_); refine uh (some 37) rfl Try.func25 #[.int .u64 (IntKind.u64.wrap (a1)), .int .u64 (IntKind.u64.wrap (a3))] ?_; (with_reducible refine (bits_Mul64.calls (IntKind.u64.wrap (a1)) (IntKind.u64.wrap (a3)) t922 t923 _ A15.out).mono ?_); rintro e w' ⟨rfl, ⟨nd, rfl⟩⟩; refine ⟨_, rfl, ?_⟩) | ((with_reducible refine ug 26 rfl ?_); refine uh (some 41) rfl Try.func26 #[.int .u64 t923] ?_; (with_reducible refine (bits_Len64.calls kj4 t923 t924 _ A16.out).mono ?_); rintro e w' ⟨rfl, ⟨nd, rfl⟩⟩; refine ⟨_, rfl, ?_⟩))
   (try simp only [Act.put, List.setIfInBounds_toArray, List.set_cons_zero, List.set_cons_succ])
   go_cut [47] (fun v47 wc => ∃ (kq : Nat) (x47_16 : Bool), v47 = .bool x47_16 ∧ Aside0 (fixenc_Room.j1 kq l0 a1 a2 t924 x47_16 = some (r1, r2)) ∧ Aside0 (kq ≤ kj4) ∧ Aside0 (Below w.heap.size w wc))
   case first =>
    have H := HC17.out
    clear HC17
    by_cases c18 : t922 > 0
    ·
     rw [if_pos c18] at H
     have c18b0 := decide_eq_true c18
     clear c18
     (first | rw [c18b0] | (simp only [i64_w, i32_w]; rw [c18b0]) | skip)
     have H' := Aside0.mk H
     clear H
     go_wp2
     go_meet
     case rel => exact ⟨_, (true), uG, H', ⟨by have := HJ4.out; first | omega | exact Nat.le_refl _⟩, ⟨uB⟩⟩
    rw [if_neg c18] at H
    have c18b0 := decide_eq_false c18
    clear c18
    (first | rw [c18b0] | (simp only [i64_w, i32_w]; rw [c18b0]) | skip)
    have H' := Aside0.mk H
    clear H
    go_wp2
    go_meet
    case rel => exact ⟨_, (decide (t924 > 62)), uG, H', ⟨by have := HJ4.out; first | omega | exact Nat.le_refl _⟩, ⟨uB⟩⟩
   case rest =>
    clear HC17
    obtain ⟨kq, x47_16, rfl, HA, HJ16, HB⟩ := hcut
    cases kq with
    | zero => exact absurd HA.out (by simp [fixenc_Room.j1])
    | succ kj16 =>
     have H := HA.out
     clear HA
     simp only [fixenc_Room.j1] at H
     by_cases c19 : x47_16 = true
     ·
      subst c19
      rw [if_pos rfl] at H
      simp only [Option.some.injEq, Prod.mk.injEq] at H
      obtain ⟨rfl, rfl⟩ := H
      go_wp2
      go_ret2
      exact ⟨uF, uB⟩
     replace c19 := Bool.eq_false_iff.mpr c19
     subst c19
     rw [if_neg (show ¬ (false = true) by decide)] at H
     replace ⟨⟨t925, t926⟩, A20, H⟩ := ub H
     (try dsimp only at H)
     replace ⟨⟨t929, t930⟩, A21, H⟩ := ub H
     (try dsimp only at H)
     replace ⟨⟨t933, t934, t937⟩, A22, H⟩ := ub H
     (try dsimp only at H)
     replace ⟨⟨t939, t940⟩, A23, H⟩ := ub H
     (try dsimp only at H)
     replace ⟨⟨t943, t944, t947⟩, A24, H⟩ := ub H
     (try dsimp only at H)
     replace ⟨⟨t948, t949⟩, A25, H⟩ := ub H
     (try dsimp only at H)
     replace ⟨⟨t952, t953⟩, A26, H⟩ := ub H
     (try dsimp only at H)
     replace ⟨⟨t956, t957, t960⟩, A27, H⟩ := ub H
     (try dsimp only at H)
     replace ⟨t962, A28, H⟩ := ub H
     have HS_ := Aside0.mk H; clear H
     try go_wp2_with (first | ((with_reducible refine ug 18 rfl ?_); refine uh (some 50) rfl Try.func18 #[.int .i64 a1] ?_; (with_reducible refine (modint_Of.calls kj16 a1 t925 t926 _ A20.out).mono ?_); rintro e w30 ⟨v927, rfl, ho0, hb⟩; refine ⟨_, rfl, ?_⟩; have HO928 := ulo ho0; replace HB := uy hb; (try clear hb ho0)) | ((with_reducible refine ug 18 rfl ?_); refine uh (some 52) rfl Try.func18 #[.int .i64 a2] ?_; (with_reducible refine (modint_Of.calls kj16 a2 t929 t930 _ A21.out).mono ?_); rintro e w31 ⟨v931, rfl, ho0, hb⟩; refine ⟨_, rfl, ?_⟩; have HO932 := ulo (unw ho0 HO928); replace HO928 := ueR HO928 ho0 hb; replace HB := uy hb; (try clear hb ho0); obtain ⟨Ao32, co32, eo32⟩ := Kd.R_slice HO928.out; subst eo32; obtain ⟨Ao33, co33, eo33⟩ := Kd.R_slice HO932.out; subst eo33) | ((with_reducible refine ug 27 rfl ?_); refine uh (some 53) rfl Try.func27 #[.agg #[.bool t925, .slice Ao32 t926.length co32], .agg #[.bool t929, .slice Ao33 t930.length co33]] ?_; (with_reducible refine (modint_Mul.calls kj16 t925 (fun k_ => some k_ = (.slice Ao32 t926.length co32 : Value).ownBlock) _ _ t926 t929 (fun k_ => some k_ = (.slice Ao33 t930.length co33 : Value).ownBlock) _ _ t930 t933 t934 t937 _ (Kd.R_V (Kd.R_tight rfl (HO928.out))) (Kd.R_V (Kd.R_tight rfl (HO932.out))) A22.out).mono ?_); rintro e w34 ⟨v935, rfl, ho0, hb⟩; refine ⟨_, rfl, ?_⟩; have HO936 := ulo (unw (unw (Kd.R_mono (ok' := fun k_ => True) ho0 (fun _ hk_ => trivial)) HO928) HO932); replace HO928 := ueR HO928 ho0 hb; replace HO932 := ueR HO932 ho0 hb; replace HB := uy hb; (try clear hb ho0)) | ((with_reducible refine gate_dst (N := 13) rfl ?_); refine ubx 13 #[.bool false, .slice none 0 0] 44 rfl rfl ?_; intro gb938 hg w35 hbox hb; replace HO928 := urb HO928 hb; replace HO932 := urb HO932 hb; replace HO936 := urb HO936 hb; have BK938 := Aside0.mk (hbox); have GW938 := us hg; have GE938 := us hg; replace HB := uy hb; clear hb hbox hg; obtain ⟨hcz36_0, hcz36_1, hfz36_0, hfz36_1⟩ := uz2 w35 BK938; obtain ⟨Ao37, co37, eo37⟩ := Kd.R_slice HO936.out; subst eo37))
     have n0_ : Aside0 (Kd.R (Kd.int .u64) 42 ((w35.setCell ⟨gb938, 0, none⟩ (.bool t933)).setCell ⟨gb938, 1, none⟩ (.slice Ao37 t934.length co37)) w.heap.size (fun k_ => some k_ ≠ (.slice Ao33 t930.length co33 : Value).ownBlock ∧ some k_ ≠ (.slice Ao37 t934.length co37 : Value).ownBlock) (.slice Ao32 t926.length co32) t926) := ⟨by exact uR (Kd.R_mono (Kd.R_far (p := ⟨gb938, 1, none⟩) (Kd.R_far (p := ⟨gb938, 0, none⟩) (Kd.R_types HO928.out BK938.out (by decide)) (fun _ hk => hk.2) (.bool t933)) (fun _ hk => hk.2) (.slice Ao37 t934.length co37)) (fun _ hk => ⟨hk.1.1.2, hk.1.2⟩))⟩
     have n1_ : Aside0 (Kd.R (Kd.int .u64) 42 ((w35.setCell ⟨gb938, 0, none⟩ (.bool t933)).setCell ⟨gb938, 1, none⟩ (.slice Ao37 t934.length co37)) w.heap.size (fun k_ => some k_ ≠ (.slice Ao32 t926.length co32 : Value).ownBlock ∧ some k_ ≠ (.slice Ao37 t934.length co37 : Value).ownBlock) (.slice Ao33 t930.length co33) t930) := ⟨by exact uR (Kd.R_mono (Kd.R_far (p := ⟨gb938, 1, none⟩) (Kd.R_far (p := ⟨gb938, 0, none⟩) (Kd.R_types HO932.out BK938.out (by decide)) (fun _ hk => hk.2) (.bool t933)) (fun _ hk => hk.2) (.slice Ao37 t934.length co37)) (fun _ hk => ⟨hk.1.1.2, hk.1.2⟩))⟩
     have n2_ : Aside0 (Kd.R (Kd.int .u64) 42 ((w35.setCell ⟨gb938, 0, none⟩ (.bool t933)).setCell ⟨gb938, 1, none⟩ (.slice Ao37 t934.length co37)) w.heap.size (fun k_ => some k_ ≠ (.slice Ao32 t926.length co32 : Value).ownBlock ∧ some k_ ≠ (.slice Ao33 t930.length co33 : Value).ownBlock) (.slice Ao37 t934.length co37) t934) := ⟨by exact uR (Kd.R_mono (Kd.R_far (p := ⟨gb938, 1, none⟩) (Kd.R_far (p := ⟨gb938, 0, none⟩) (Kd.R_types HO936.out BK938.out (by decide)) (fun _ hk => hk.2) (.bool t933)) (fun _ hk => hk.2) (.slice Ao37 t934.length co37)) (fun _ hk => ⟨hk.1.1.2, hk.1.2⟩))⟩
     have n3_ : Aside0 (((w35.setCell ⟨gb938, 0, none⟩ (.bool t933)).setCell ⟨gb938, 1, none⟩ (.slice Ao37 t934.length co37)).heap[gb938]? = some (.cells #[.bool t933, .slice Ao37 t934.length co37] 44 (0, 0))) := ⟨by refine blk_put (cs := #[.bool t933, .slice none 0 0]) ?_ 1 _ rfl; refine blk_put (cs := #[.bool false, .slice none 0 0]) ?_ 0 _ rfl; exact uK BK938.out⟩
     have n4_ : Aside0 (Below w.heap.size w ((w35.setCell ⟨gb938, 0, none⟩ (.bool t933)).setCell ⟨gb938, 1, none⟩ (.slice Ao37 t934.length co37))) := ⟨uB⟩
     (try clear HO928); (try clear HO932); (try clear HO936); (try clear BK938); (try clear HB)
     generalize ((w35.setCell ⟨gb938, 0, none⟩ (.bool t933)).setCell ⟨gb938, 1, none⟩ (.slice Ao37 t934.length co37)) = w38 at n0_ n1_ n2_ n3_ n4_ ⊢
     have HO928 := n0_; have HO932 := n1_; have HO936 := n2_; have BK938 := n3_; have HB := n4_; clear n0_ n1_ n2_ n3_ n4_; replace HO928 := Aside0.mk (Kd.R_drew HO928.out); replace HO932 := Aside0.mk (Kd.R_drew HO932.out); replace HO936 := Aside0.mk (Kd.R_drew HO936.out); replace BK938 := Aside0.mk (blk_drew BK938.out); replace HB := Aside0.mk (below_drew1 HB.out)
     refine start_ (n := 7) (S := fun w' => w'.cell? ⟨gb938, 0, none⟩ = some (.bool t933) ∧ w'.cell? ⟨gb938, 1, none⟩ = some (.slice Ao37 t934.length co37)) (ds := [6]) (.replicate 7 false) (by kernel_rfl) rfl rfl ⟨(blk_cell BK938.out 0).trans rfl, (blk_cell BK938.out 1).trans rfl⟩ (fun hHeld => ?_)
     generalize w38.drew = w39 at HO928 HO932 HO936 BK938 HB hHeld ⊢
     refine take_ (i := 0) (N := some 57) (v := ?_) (a' := ?_) (uA 7 1) rfl rfl (by kernel_rfl) (fun _ _ _ h => h) (Or.inl ⟨by rfl, ?_⟩) hHeld ?_ ?_
     rotate_left
     ·
      rintro w' ⟨s0, s1⟩
      go_simp
      with_reducible rfl
     rotate_left
     · exact uQ
     refine one_ (i := 1) (N := some 58) (uA 7 3) rfl rfl (by kernel_rfl) (by decide) (fun K hK => ?_)
     refine goes_ Try.func18 (by kernel_rfl) rfl #[.int .i64 1] (by rfl) rfl rfl uM ?_
     with_reducible refine (modint_Of.calls kj16 1 t939 t940 _ A23.out).mono ?_
     rintro e w40 ⟨v941, rfl, ho0, hb⟩
     refine ⟨_, rfl, ?_⟩; have HO942 := ulo (unw (unw (unw ho0 HO928) HO932) HO936); replace HO928 := ueR HO928 ho0 hb; replace HO932 := ueR HO932 ho0 hb; replace HO936 := ueR HO936 ho0 hb; replace BK938 := ux BK938 hb; replace HB := uy hb; (try clear hb ho0)
     obtain ⟨Ao41, co41, eo41⟩ := Kd.R_slice HO942.out
     (first | subst eo41 | (injection eo41 with f1_ f2_ f3_; have f4_ := f1_.symm; have f5_ := f3_.symm; clear f1_ f2_ f3_; subst f4_; subst f5_))
     refine hK.out _ _ ⟨(blk_cell BK938.out 0).trans rfl, (blk_cell BK938.out 1).trans rfl⟩ (fun hHeld => ?_); clear hK K; refine norm_ (a' := ?_) ?_ ?_; rotate_left
     · exact (show Act.put _ (some 58) _ = _ from uQ)
     refine one_ (i := 2) (N := some 59) (uA 7 7) rfl rfl (by kernel_rfl) (by decide) (fun K hK => ?_)
     refine goes_ Try.func28 (by kernel_rfl) rfl #[.agg #[.bool t933, .slice Ao37 t934.length co37], .agg #[.bool t939, .slice Ao41 t940.length co41]] (by rfl) rfl rfl uM ?_
     with_reducible refine (modint_Add.calls kj16 t933 (fun k_ => some k_ = (.slice Ao37 t934.length co37 : Value).ownBlock) _ _ t934 t939 (fun k_ => some k_ = (.slice Ao41 t940.length co41 : Value).ownBlock) _ _ t940 t943 t944 t947 _ ?side1 ?side2 A24.out).mono ?_
     (case side1 => exact Kd.R_V (Kd.R_tight rfl (Kd.R_types (HO936.out) BK938.out (by decide))))
     (case side2 => exact Kd.R_V (Kd.R_tight rfl (Kd.R_types (HO942.out) BK938.out (by decide))))
     rintro e w42 ⟨v945, rfl, ho0, hb⟩
     refine ⟨_, rfl, ?_⟩; have HO946 := ulo (unw (unw (unw (unw (Kd.R_mono (ok' := fun k_ => True) ho0 (fun _ hk_ => trivial)) HO928) HO932) HO936) HO942); replace HO928 := ueR HO928 ho0 hb; replace HO932 := ueR HO932 ho0 hb; replace HO936 := ueR HO936 ho0 hb; replace HO942 := ueR HO942 ho0 hb; replace BK938 := ux BK938 hb; replace HB := uy hb; (try clear hb ho0)
     obtain ⟨Ao44, co44, eo44⟩ := Kd.R_slice HO946.out
     (first | subst eo44 | (injection eo44 with f1_ f2_ f3_; have f4_ := f1_.symm; have f5_ := f3_.symm; clear f1_ f2_ f3_; subst f4_; subst f5_))
     refine hK.out _ _ ⟨(blk_cell BK938.out 0).trans rfl, (blk_cell BK938.out 1).trans rfl⟩ (fun hHeld => ?_); clear hK K; refine norm_ (a' := ?_) ?_ ?_; rotate_left
     · exact (show Act.put _ (some 59) _ = _ from uQ)
     refine pure_ (i := 3) (N := some 56) (v := ?_) (a' := ?_) (uA 7 15) rfl rfl (by kernel_rfl) (fun _ _ _ h => h) (Or.inl ⟨by rfl, ?_⟩) ?_ ?_
     rotate_left
     ·
      intro w'
      go_simp
      with_reducible rfl
     rotate_left
     · exact uQ
     refine pure_ (i := 4) (N := some 60) (v := ?_) (a' := ?_) (uA 7 31) rfl rfl (by kernel_rfl) (fun _ _ _ h => h) (Or.inl ⟨by rfl, ?_⟩) ?_ ?_
     rotate_left
     ·
      intro w'
      go_simp
      with_reducible rfl
     rotate_left
     · exact uQ
     refine pure_ (i := 5) (N := some 61) (v := ?_) (a' := ?_) (uA 7 63) rfl rfl (by kernel_rfl) (fun _ _ _ h => h) (Or.inl ⟨by rfl, ?_⟩) ?_ ?_
     rotate_left
     ·
      intro w'
      go_simp
      with_reducible rfl
     rotate_left
     · exact uQ
     refine last_ (i := 6) (N := none) (uA 7 127) rfl rfl (by kernel_rfl) (by decide) (fun K hK => ?_)
     have hs43 : w42.cell? ⟨gb938, 0, none⟩ = some (.bool t933) := (blk_cell BK938.out 0).trans rfl
     have hfs43 := blk_frozen BK938.out 0
     have hs45 : w42.cell? ⟨gb938, 1, none⟩ = some (.slice Ao37 t934.length co37) := (blk_cell BK938.out 1).trans rfl
     have hfs45 := blk_frozen BK938.out 1
     refine skip_ (w1 := ?_) (by rfl) rfl ?_ ?_
     rotate_left
     ·
      go_simp
      rfl
     refine hK.out _ _ ?_; clear hK K
     refine done_ (by kernel_rfl) ?_
     have H := HS_.out; clear HS_
     by_cases c29 : t962 = true
     ·
      subst c29
      rw [if_pos rfl] at H
      simp only [Option.some.injEq, Prod.mk.injEq] at H
      obtain ⟨rfl, rfl⟩ := H
      obtain ⟨hcz46_0, hcz46_1, hfz46_0, hfz46_1⟩ := uz2 w42 BK938
      try go_wp2_with (first | ((with_reducible refine ug 17 rfl ?_); refine uh (some 65) rfl Try.func17 #[.agg #[.bool t943, .slice Ao44 t944.length co44], .int .i64 t924] ?_; (with_reducible refine (fixenc_times2.calls kj16 t943 _ _ t944 t924 t948 t949 _ ?side1 ?side2 A25.out).mono ?_); (case side1 => refine (Kd.R_reads' (e := 42) (base := w.heap.size) (ok := fun k_ => ((((True ∧ some k_ ≠ (.slice Ao32 t926.length co32 : Value).ownBlock) ∧ some k_ ≠ (.slice Ao33 t930.length co33 : Value).ownBlock) ∧ some k_ ≠ (.slice Ao37 t934.length co37 : Value).ownBlock) ∧ some k_ ≠ (.slice Ao41 t940.length co41 : Value).ownBlock)) (n := t944.length) (c := co44) ?_).2.2; exact (uR ((Kd.R_mono (Kd.R_far (p := ⟨gb938, 1, none⟩) (Kd.R_far (p := ⟨gb938, 0, none⟩) (Kd.R_types HO946.out BK938.out (by decide)) (fun _ hk => hk.2) (.bool t943)) (fun _ hk => hk.2) (.slice Ao44 t944.length co44)) (fun _ h_ => h_.1))))); (case side2 => exact (Kd.R_reads' HO946.out).2.1); rintro e w47 ⟨v950, rfl, ho0, hb⟩; refine ⟨_, rfl, ?_⟩; have HO951 := ulo (Kd.R_new' (Kd.R_new' (Kd.R_new' (Kd.R_new' (Kd.R_new' ho0 (Kd.R_lt (uR ((Kd.R_mono (Kd.R_far (p := ⟨gb938, 1, none⟩) (Kd.R_far (p := ⟨gb938, 0, none⟩) (Kd.R_types HO928.out BK938.out (by decide)) (fun _ hk => hk.2) (.bool t943)) (fun _ hk => hk.2) (.slice Ao44 t944.length co44)) (fun _ h_ => h_.1)))))) (Kd.R_lt (uR ((Kd.R_mono (Kd.R_far (p := ⟨gb938, 1, none⟩) (Kd.R_far (p := ⟨gb938, 0, none⟩) (Kd.R_types HO932.out BK938.out (by decide)) (fun _ hk => hk.2) (.bool t943)) (fun _ hk => hk.2) (.slice Ao44 t944.length co44)) (fun _ h_ => h_.1)))))) (Kd.R_lt (uR ((Kd.R_mono (Kd.R_far (p := ⟨gb938, 1, none⟩) (Kd.R_far (p := ⟨gb938, 0, none⟩) (Kd.R_types HO936.out BK938.out (by decide)) (fun _ hk => hk.2) (.bool t943)) (fun _ hk => hk.2) (.slice Ao44 t944.length co44)) (fun _ h_ => h_.1)))))) (Kd.R_lt (uR ((Kd.R_mono (Kd.R_far (p := ⟨gb938, 1, none⟩) (Kd.R_far (p := ⟨gb938, 0, none⟩) (Kd.R_types HO942.out BK938.out (by decide)) (fun _ hk => hk.2) (.bool t943)) (fun _ hk => hk.2) (.slice Ao44 t944.length co44)) (fun _ h_ => h_.1)))))) (Kd.R_lt (uR ((Kd.R_mono (Kd.R_far (p := ⟨gb938, 1, none⟩) (Kd.R_far (p := ⟨gb938, 0, none⟩) (Kd.R_types HO946.out BK938.out (by decide)) (fun _ hk => hk.2) (.bool t943)) (fun _ hk => hk.2) (.slice Ao44 t944.length co44)) (fun _ h_ => h_.1)))))); replace HO928 := Aside0.mk (Kd.R_elder' (uR ((Kd.R_mono (Kd.R_far (p := ⟨gb938, 1, none⟩) (Kd.R_far (p := ⟨gb938, 0, none⟩) (Kd.R_types HO928.out BK938.out (by decide)) (fun _ hk => hk.2) (.bool t943)) (fun _ hk => hk.2) (.slice Ao44 t944.length co44)) (fun _ h_ => h_.1)))) (Kd.R_base ho0) hb); replace HO932 := Aside0.mk (Kd.R_elder' (uR ((Kd.R_mono (Kd.R_far (p := ⟨gb938, 1, none⟩) (Kd.R_far (p := ⟨gb938, 0, none⟩) (Kd.R_types HO932.out BK938.out (by decide)) (fun _ hk => hk.2) (.bool t943)) (fun _ hk => hk.2) (.slice Ao44 t944.length co44)) (fun _ h_ => h_.1)))) (Kd.R_base ho0) hb); replace HO936 := Aside0.mk (Kd.R_elder' (uR ((Kd.R_mono (Kd.R_far (p := ⟨gb938, 1, none⟩) (Kd.R_far (p := ⟨gb938, 0, none⟩) (Kd.R_types HO936.out BK938.out (by decide)) (fun _ hk => hk.2) (.bool t943)) (fun _ hk => hk.2) (.slice Ao44 t944.length co44)) (fun _ h_ => h_.1)))) (Kd.R_base ho0) hb); replace HO942 := Aside0.mk (Kd.R_elder' (uR ((Kd.R_mono (Kd.R_far (p := ⟨gb938, 1, none⟩) (Kd.R_far (p := ⟨gb938, 0, none⟩) (Kd.R_types HO942.out BK938.out (by decide)) (fun _ hk => hk.2) (.bool t943)) (fun _ hk => hk.2) (.slice Ao44 t944.length co44)) (fun _ h_ => h_.1)))) (Kd.R_base ho0) hb); replace HO946 := Aside0.mk (Kd.R_elder' (uR ((Kd.R_mono (Kd.R_far (p := ⟨gb938, 1, none⟩) (Kd.R_far (p := ⟨gb938, 0, none⟩) (Kd.R_types HO946.out BK938.out (by decide)) (fun _ hk => hk.2) (.bool t943)) (fun _ hk => hk.2) (.slice Ao44 t944.length co44)) (fun _ h_ => h_.1)))) (Kd.R_base ho0) hb); replace BK938 := Aside0.mk (blk_below (g := gb938) (o := .cells #[.bool t943, .slice Ao44 t944.length co44] 44 (0, 0)) (by refine blk_put (cs := #[.bool t943, .slice Ao37 t934.length co37]) ?_ 1 _ rfl; refine blk_put (cs := #[.bool t933, .slice Ao37 t934.length co37]) ?_ 0 _ rfl; exact uK BK938.out) hb); replace HB := uy hb; (try clear hb); (try clear hb2); (try clear hk); (try clear hi); (try clear ho0)) | ((with_reducible refine ug 18 rfl ?_); refine uh (some 66) rfl Try.func18 #[.int .i64 1] ?_; (with_reducible refine (modint_Of.calls kj16 1 t952 t953 _ A26.out).mono ?_); rintro e w48 ⟨v954, rfl, ho0, hb⟩; refine ⟨_, rfl, ?_⟩; have HO955 := ulo (unw (unw (unw (unw (unw (unw ho0 HO928) HO932) HO936) HO942) HO946) HO951); replace HO928 := ueR HO928 ho0 hb; replace HO932 := ueR HO932 ho0 hb; replace HO936 := ueR HO936 ho0 hb; replace HO942 := ueR HO942 ho0 hb; replace HO946 := ueR HO946 ho0 hb; replace HO951 := ueR HO951 ho0 hb; replace BK938 := ux BK938 hb; replace HB := uy hb; (try clear hb ho0); obtain ⟨Ao49, co49, eo49⟩ := Kd.R_slice HO951.out; subst eo49; obtain ⟨Ao50, co50, eo50⟩ := Kd.R_slice HO955.out; subst eo50) | ((with_reducible refine ug 29 rfl ?_); refine uh (some 67) rfl Try.func29 #[.agg #[.bool t948, .slice Ao49 t949.length co49], .agg #[.bool t952, .slice Ao50 t953.length co50]] ?_; (with_reducible refine (modint_Sub.calls kj16 t948 (fun k_ => some k_ = (.slice Ao49 t949.length co49 : Value).ownBlock) _ _ t949 t952 (fun k_ => some k_ = (.slice Ao50 t953.length co50 : Value).ownBlock) _ _ t953 t956 t957 t960 _ (Kd.R_V (Kd.R_tight rfl (Kd.R_types (HO951.out) BK938.out (by decide)))) (Kd.R_V (Kd.R_tight rfl (Kd.R_types (HO955.out) BK938.out (by decide)))) A27.out).mono ?_); rintro e w51 ⟨v958, rfl, ho0, hb⟩; refine ⟨_, rfl, ?_⟩; have HO959 := ulo (unw (unw (unw (unw (unw (unw (unw (Kd.R_mono (ok' := fun k_ => True) ho0 (fun _ hk_ => trivial)) HO928) HO932) HO936) HO942) HO946) HO951) HO955); replace HO928 := ueR HO928 ho0 hb; replace HO932 := ueR HO932 ho0 hb; replace HO936 := ueR HO936 ho0 hb; replace HO942 := ueR HO942 ho0 hb; replace HO946 := ueR HO946 ho0 hb; replace HO951 := ueR HO951 ho0 hb; replace HO955 := ueR HO955 ho0 hb; replace BK938 := ux BK938 hb; replace HB := uy hb; (try clear hb ho0)) | ((with_reducible refine gate_dst (N := 15) rfl ?_); refine ubx 15 #[.bool false, .slice none 0 0] 44 rfl rfl ?_; intro gb961 hg w52 hbox hb; replace HO928 := urb HO928 hb; replace HO932 := urb HO932 hb; replace HO936 := urb HO936 hb; replace HO942 := urb HO942 hb; replace HO946 := urb HO946 hb; replace HO951 := urb HO951 hb; replace HO955 := urb HO955 hb; replace HO959 := urb HO959 hb; have BK961 := Aside0.mk (hbox); have GW961 := us hg; have GE961 := us hg; replace HB := uy hb; obtain ⟨NB938_961, NB961_938⟩ := unb hg BK938; replace BK938 := ux BK938 hb; clear hb hbox hg; have hnb53 := NB961_938.out; have hnc53 := NB938_961.out; obtain ⟨hcz54_0, hcz54_1, hfz54_0, hfz54_1⟩ := uz2 w52 BK961; obtain ⟨Ao55, co55, eo55⟩ := Kd.R_slice HO959.out; subst eo55) | ((with_reducible refine ug 30 rfl ?_); refine uh (some 73) rfl Try.func30 #[.slice A0 l0.length c0, .slice Ao55 t957.length co55] ?_; (with_reducible refine (fixenc_fits.calls kj16 _ _ l0 _ _ t957 true _ ?side1 ?side2 ?side3 ?side4 A28.out).mono ?_); (case side1 => exact Kd.C_below HR0.out uB); (case side2 => exact HC0.out); (case side3 => refine (Kd.R_reads' (e := 42) (base := w.heap.size) (ok := fun k_ => (((((((True ∧ some k_ ≠ (.slice Ao32 t926.length co32 : Value).ownBlock) ∧ some k_ ≠ (.slice Ao33 t930.length co33 : Value).ownBlock) ∧ some k_ ≠ (.slice Ao37 t934.length co37 : Value).ownBlock) ∧ some k_ ≠ (.slice Ao41 t940.length co41 : Value).ownBlock) ∧ some k_ ≠ (.slice Ao44 t944.length co44 : Value).ownBlock) ∧ some k_ ≠ (.slice Ao49 t949.length co49 : Value).ownBlock) ∧ some k_ ≠ (.slice Ao50 t953.length co50 : Value).ownBlock)) (n := t957.length) (c := co55) ?_).2.2; exact (uR ((Kd.R_mono (Kd.R_far (p := ⟨gb961, 1, none⟩) (Kd.R_far (p := ⟨gb961, 0, none⟩) (Kd.R_types HO959.out BK961.out (by decide)) (fun _ hk => hk.2) (.bool t956)) (fun _ hk => hk.2) (.slice Ao55 t957.length co55)) (fun _ h_ => h_.1))))); (case side4 => exact (Kd.R_reads' HO959.out).2.1); rintro e w56 ⟨rfl, hb⟩; refine ⟨_, rfl, ?_⟩; replace HO928 := Aside0.mk (Kd.R_below (uR ((Kd.R_mono (Kd.R_far (p := ⟨gb961, 1, none⟩) (Kd.R_far (p := ⟨gb961, 0, none⟩) (Kd.R_types HO928.out BK961.out (by decide)) (fun _ hk => hk.2) (.bool t956)) (fun _ hk => hk.2) (.slice Ao55 t957.length co55)) (fun _ h_ => h_.1)))) hb); replace HO932 := Aside0.mk (Kd.R_below (uR ((Kd.R_mono (Kd.R_far (p := ⟨gb961, 1, none⟩) (Kd.R_far (p := ⟨gb961, 0, none⟩) (Kd.R_types HO932.out BK961.out (by decide)) (fun _ hk => hk.2) (.bool t956)) (fun _ hk => hk.2) (.slice Ao55 t957.length co55)) (fun _ h_ => h_.1)))) hb); replace HO936 := Aside0.mk (Kd.R_below (uR ((Kd.R_mono (Kd.R_far (p := ⟨gb961, 1, none⟩) (Kd.R_far (p := ⟨gb961, 0, none⟩) (Kd.R_types HO936.out BK961.out (by decide)) (fun _ hk => hk.2) (.bool t956)) (fun _ hk => hk.2) (.slice Ao55 t957.length co55)) (fun _ h_ => h_.1)))) hb); replace HO942 := Aside0.mk (Kd.R_below (uR ((Kd.R_mono (Kd.R_far (p := ⟨gb961, 1, none⟩) (Kd.R_far (p := ⟨gb961, 0, none⟩) (Kd.R_types HO942.out BK961.out (by decide)) (fun _ hk => hk.2) (.bool t956)) (fun _ hk => hk.2) (.slice Ao55 t957.length co55)) (fun _ h_ => h_.1)))) hb); replace HO946 := Aside0.mk (Kd.R_below (uR ((Kd.R_mono (Kd.R_far (p := ⟨gb961, 1, none⟩) (Kd.R_far (p := ⟨gb961, 0, none⟩) (Kd.R_types HO946.out BK961.out (by decide)) (fun _ hk => hk.2) (.bool t956)) (fun _ hk => hk.2) (.slice Ao55 t957.length co55)) (fun _ h_ => h_.1)))) hb); replace HO951 := Aside0.mk (Kd.R_below (uR ((Kd.R_mono (Kd.R_far (p := ⟨gb961, 1, none⟩) (Kd.R_far (p := ⟨gb961, 0, none⟩) (Kd.R_types HO951.out BK961.out (by decide)) (fun _ hk => hk.2) (.bool t956)) (fun _ hk => hk.2) (.slice Ao55 t957.length co55)) (fun _ h_ => h_.1)))) hb); replace HO955 := Aside0.mk (Kd.R_below (uR ((Kd.R_mono (Kd.R_far (p := ⟨gb961, 1, none⟩) (Kd.R_far (p := ⟨gb961, 0, none⟩) (Kd.R_types HO955.out BK961.out (by decide)) (fun _ hk => hk.2) (.bool t956)) (fun _ hk => hk.2) (.slice Ao55 t957.length co55)) (fun _ h_ => h_.1)))) hb); replace HO959 := Aside0.mk (Kd.R_below (uR ((Kd.R_mono (Kd.R_far (p := ⟨gb961, 1, none⟩) (Kd.R_far (p := ⟨gb961, 0, none⟩) (Kd.R_types HO959.out BK961.out (by decide)) (fun _ hk => hk.2) (.bool t956)) (fun _ hk => hk.2) (.slice Ao55 t957.length co55)) (fun _ h_ => h_.1)))) hb); replace BK938 := Aside0.mk (blk_below (g := gb938) (o := .cells #[.bool t943, .slice Ao44 t944.length co44] 44 (0, 0)) (by refine blk_far ?_ NB938_961.out _; refine blk_far ?_ NB938_961.out _; exact uK BK938.out) hb); replace BK961 := Aside0.mk (blk_below (g := gb961) (o := .cells #[.bool t956, .slice Ao55 t957.length co55] 44 (0, 0)) (by refine blk_put (cs := #[.bool t956, .slice none 0 0]) ?_ 1 _ rfl; refine blk_put (cs := #[.bool false, .slice none 0 0]) ?_ 0 _ rfl; exact uK BK961.out) hb); replace HB := uy hb; (try clear hb); (try clear hb2); (try clear hk); (try clear hi)))
      go_ret2
      exact ⟨uF, uB⟩
     replace c29 := Bool.eq_false_iff.mpr c29
     subst c29
     rw [if_neg (show ¬ (false = true) by decide)] at H
     simp only [Option.some.injEq, Prod.mk.injEq] at H
     obtain ⟨rfl, rfl⟩ := H
     obtain ⟨hcz73_0, hcz73_1, hfz73_0, hfz73_1⟩ := uz2 w42 BK938
     try go_wp2_with (first | ((with_reducible refine ug 17 rfl ?_); refine uh (some 65) rfl Try.func17 #[.agg #[.bool t943, .slice Ao44 t944.length co44], .int .i64 t924] ?_; (with_reducible refine (fixenc_times2.calls kj16 t943 _ _ t944 t924 t948 t949 _ ?side1 ?side2 A25.out).mono ?_); (case side1 => refine (Kd.R_reads' (e := 42) (base := w.heap.size) (ok := fun k_ => ((((True ∧ some k_ ≠ (.slice Ao32 t926.length co32 : Value).ownBlock) ∧ some k_ ≠ (.slice Ao33 t930.length co33 : Value).ownBlock) ∧ some k_ ≠ (.slice Ao37 t934.length co37 : Value).ownBlock) ∧ some k_ ≠ (.slice Ao41 t940.length co41 : Value).ownBlock)) (n := t944.length) (c := co44) ?_).2.2; exact (uR ((Kd.R_mono (Kd.R_far (p := ⟨gb938, 1, none⟩) (Kd.R_far (p := ⟨gb938, 0, none⟩) (Kd.R_types HO946.out BK938.out (by decide)) (fun _ hk => hk.2) (.bool t943)) (fun _ hk => hk.2) (.slice Ao44 t944.length co44)) (fun _ h_ => h_.1))))); (case side2 => exact (Kd.R_reads' HO946.out).2.1); rintro e w74 ⟨v950, rfl, ho0, hb⟩; refine ⟨_, rfl, ?_⟩; have HO951 := ulo (Kd.R_new' (Kd.R_new' (Kd.R_new' (Kd.R_new' (Kd.R_new' ho0 (Kd.R_lt (uR ((Kd.R_mono (Kd.R_far (p := ⟨gb938, 1, none⟩) (Kd.R_far (p := ⟨gb938, 0, none⟩) (Kd.R_types HO928.out BK938.out (by decide)) (fun _ hk => hk.2) (.bool t943)) (fun _ hk => hk.2) (.slice Ao44 t944.length co44)) (fun _ h_ => h_.1)))))) (Kd.R_lt (uR ((Kd.R_mono (Kd.R_far (p := ⟨gb938, 1, none⟩) (Kd.R_far (p := ⟨gb938, 0, none⟩) (Kd.R_types HO932.out BK938.out (by decide)) (fun _ hk => hk.2) (.bool t943)) (fun _ hk => hk.2) (.slice Ao44 t944.length co44)) (fun _ h_ => h_.1)))))) (Kd.R_lt (uR ((Kd.R_mono (Kd.R_far (p := ⟨gb938, 1, none⟩) (Kd.R_far (p := ⟨gb938, 0, none⟩) (Kd.R_types HO936.out BK938.out (by decide)) (fun _ hk => hk.2) (.bool t943)) (fun _ hk => hk.2) (.slice Ao44 t944.length co44)) (fun _ h_ => h_.1)))))) (Kd.R_lt (uR ((Kd.R_mono (Kd.R_far (p := ⟨gb938, 1, none⟩) (Kd.R_far (p := ⟨gb938, 0, none⟩) (Kd.R_types HO942.out BK938.out (by decide)) (fun _ hk => hk.2) (.bool t943)) (fun _ hk => hk.2) (.slice Ao44 t944.length co44)) (fun _ h_ => h_.1)))))) (Kd.R_lt (uR ((Kd.R_mono (Kd.R_far (p := ⟨gb938, 1, none⟩) (Kd.R_far (p := ⟨gb938, 0, none⟩) (Kd.R_types HO946.out BK938.out (by decide)) (fun _ hk => hk.2) (.bool t943)) (fun _ hk => hk.2) (.slice Ao44 t944.length co44)) (fun _ h_ => h_.1)))))); replace HO928 := Aside0.mk (Kd.R_elder' (uR ((Kd.R_mono (Kd.R_far (p := ⟨gb938, 1, none⟩) (Kd.R_far (p := ⟨gb938, 0, none⟩) (Kd.R_types HO928.out BK938.out (by decide)) (fun _ hk => hk.2) (.bool t943)) (fun _ hk => hk.2) (.slice Ao44 t944.length co44)) (fun _ h_ => h_.1)))) (Kd.R_base ho0) hb); replace HO932 := Aside0.mk (Kd.R_elder' (uR ((Kd.R_mono (Kd.R_far (p := ⟨gb938, 1, none⟩) (Kd.R_far (p := ⟨gb938, 0, none⟩) (Kd.R_types HO932.out BK938.out (by decide)) (fun _ hk => hk.2) (.bool t943)) (fun _ hk => hk.2) (.slice Ao44 t944.length co44)) (fun _ h_ => h_.1)))) (Kd.R_base ho0) hb); replace HO936 := Aside0.mk (Kd.R_elder' (uR ((Kd.R_mono (Kd.R_far (p := ⟨gb938, 1, none⟩) (Kd.R_far (p := ⟨gb938, 0, none⟩) (Kd.R_types HO936.out BK938.out (by decide)) (fun _ hk => hk.2) (.bool t943)) (fun _ hk => hk.2) (.slice Ao44 t944.length co44)) (fun _ h_ => h_.1)))) (Kd.R_base ho0) hb); replace HO942 := Aside0.mk (Kd.R_elder' (uR ((Kd.R_mono (Kd.R_far (p := ⟨gb938, 1, none⟩) (Kd.R_far (p := ⟨gb938, 0, none⟩) (Kd.R_types HO942.out BK938.out (by decide)) (fun _ hk => hk.2) (.bool t943)) (fun _ hk => hk.2) (.slice Ao44 t944.length co44)) (fun _ h_ => h_.1)))) (Kd.R_base ho0) hb); replace HO946 := Aside0.mk (Kd.R_elder' (uR ((Kd.R_mono (Kd.R_far (p := ⟨gb938, 1, none⟩) (Kd.R_far (p := ⟨gb938, 0, none⟩) (Kd.R_types HO946.out BK938.out (by decide)) (fun _ hk => hk.2) (.bool t943)) (fun _ hk => hk.2) (.slice Ao44 t944.length co44)) (fun _ h_ => h_.1)))) (Kd.R_base ho0) hb); replace BK938 := Aside0.mk (blk_below (g := gb938) (o := .cells #[.bool t943, .slice Ao44 t944.length co44] 44 (0, 0)) (by refine blk_put (cs := #[.bool t943, .slice Ao37 t934.length co37]) ?_ 1 _ rfl; refine blk_put (cs := #[.bool t933, .slice Ao37 t934.length co37]) ?_ 0 _ rfl; exact uK BK938.out) hb); replace HB := uy hb; (try clear hb); (try clear hb2); (try clear hk); (try clear hi); (try clear ho0)) | ((with_reducible refine ug 18 rfl ?_); refine uh (some 66) rfl Try.func18 #[.int .i64 1] ?_; (with_reducible refine (modint_Of.calls kj16 1 t952 t953 _ A26.out).mono ?_); rintro e w75 ⟨v954, rfl, ho0, hb⟩; refine ⟨_, rfl, ?_⟩; have HO955 := ulo (unw (unw (unw (unw (unw (unw ho0 HO928) HO932) HO936) HO942) HO946) HO951); replace HO928 := ueR HO928 ho0 hb; replace HO932 := ueR HO932 ho0 hb; replace HO936 := ueR HO936 ho0 hb; replace HO942 := ueR HO942 ho0 hb; replace HO946 := ueR HO946 ho0 hb; replace HO951 := ueR HO951 ho0 hb; replace BK938 := ux BK938 hb; replace HB := uy hb; (try clear hb ho0); obtain ⟨Ao76, co76, eo76⟩ := Kd.R_slice HO951.out; subst eo76; obtain ⟨Ao77, co77, eo77⟩ := Kd.R_slice HO955.out; subst eo77) | ((with_reducible refine ug 29 rfl ?_); refine uh (some 67) rfl Try.func29 #[.agg #[.bool t948, .slice Ao76 t949.length co76], .agg #[.bool t952, .slice Ao77 t953.length co77]] ?_; (with_reducible refine (modint_Sub.calls kj16 t948 (fun k_ => some k_ = (.slice Ao76 t949.length co76 : Value).ownBlock) _ _ t949 t952 (fun k_ => some k_ = (.slice Ao77 t953.length co77 : Value).ownBlock) _ _ t953 t956 t957 t960 _ (Kd.R_V (Kd.R_tight rfl (Kd.R_types (HO951.out) BK938.out (by decide)))) (Kd.R_V (Kd.R_tight rfl (Kd.R_types (HO955.out) BK938.out (by decide)))) A27.out).mono ?_); rintro e w78 ⟨v958, rfl, ho0, hb⟩; refine ⟨_, rfl, ?_⟩; have HO959 := ulo (unw (unw (unw (unw (unw (unw (unw (Kd.R_mono (ok' := fun k_ => True) ho0 (fun _ hk_ => trivial)) HO928) HO932) HO936) HO942) HO946) HO951) HO955); replace HO928 := ueR HO928 ho0 hb; replace HO932 := ueR HO932 ho0 hb; replace HO936 := ueR HO936 ho0 hb; replace HO942 := ueR HO942 ho0 hb; replace HO946 := ueR HO946 ho0 hb; replace HO951 := ueR HO951 ho0 hb; replace HO955 := ueR HO955 ho0 hb; replace BK938 := ux BK938 hb; replace HB := uy hb; (try clear hb ho0)) | ((with_reducible refine gate_dst (N := 15) rfl ?_); refine ubx 15 #[.bool false, .slice none 0 0] 44 rfl rfl ?_; intro gb961 hg w79 hbox hb; replace HO928 := urb HO928 hb; replace HO932 := urb HO932 hb; replace HO936 := urb HO936 hb; replace HO942 := urb HO942 hb; replace HO946 := urb HO946 hb; replace HO951 := urb HO951 hb; replace HO955 := urb HO955 hb; replace HO959 := urb HO959 hb; have BK961 := Aside0.mk (hbox); have GW961 := us hg; have GE961 := us hg; replace HB := uy hb; obtain ⟨NB938_961, NB961_938⟩ := unb hg BK938; replace BK938 := ux BK938 hb; clear hb hbox hg; have hnb80 := NB961_938.out; have hnc80 := NB938_961.out; obtain ⟨hcz81_0, hcz81_1, hfz81_0, hfz81_1⟩ := uz2 w79 BK961; obtain ⟨Ao82, co82, eo82⟩ := Kd.R_slice HO959.out; subst eo82) | ((with_reducible refine ug 30 rfl ?_); refine uh (some 73) rfl Try.func30 #[.slice A0 l0.length c0, .slice Ao82 t957.length co82] ?_; (with_reducible refine (fixenc_fits.calls kj16 _ _ l0 _ _ t957 false _ ?side1 ?side2 ?side3 ?side4 A28.out).mono ?_); (case side1 => exact Kd.C_below HR0.out uB); (case side2 => exact HC0.out); (case side3 => refine (Kd.R_reads' (e := 42) (base := w.heap.size) (ok := fun k_ => (((((((True ∧ some k_ ≠ (.slice Ao32 t926.length co32 : Value).ownBlock) ∧ some k_ ≠ (.slice Ao33 t930.length co33 : Value).ownBlock) ∧ some k_ ≠ (.slice Ao37 t934.length co37 : Value).ownBlock) ∧ some k_ ≠ (.slice Ao41 t940.length co41 : Value).ownBlock) ∧ some k_ ≠ (.slice Ao44 t944.length co44 : Value).ownBlock) ∧ some k_ ≠ (.slice Ao76 t949.length co76 : Value).ownBlock) ∧ some k_ ≠ (.slice Ao77 t953.length co77 : Value).ownBlock)) (n := t957.length) (c := co82) ?_).2.2; exact (uR ((Kd.R_mono (Kd.R_far (p := ⟨gb961, 1, none⟩) (Kd.R_far (p := ⟨gb961, 0, none⟩) (Kd.R_types HO959.out BK961.out (by decide)) (fun _ hk => hk.2) (.bool t956)) (fun _ hk => hk.2) (.slice Ao82 t957.length co82)) (fun _ h_ => h_.1))))); (case side4 => exact (Kd.R_reads' HO959.out).2.1); rintro e w83 ⟨rfl, hb⟩; refine ⟨_, rfl, ?_⟩; replace HO928 := Aside0.mk (Kd.R_below (uR ((Kd.R_mono (Kd.R_far (p := ⟨gb961, 1, none⟩) (Kd.R_far (p := ⟨gb961, 0, none⟩) (Kd.R_types HO928.out BK961.out (by decide)) (fun _ hk => hk.2) (.bool t956)) (fun _ hk => hk.2) (.slice Ao82 t957.length co82)) (fun _ h_ => h_.1)))) hb); replace HO932 := Aside0.mk (Kd.R_below (uR ((Kd.R_mono (Kd.R_far (p := ⟨gb961, 1, none⟩) (Kd.R_far (p := ⟨gb961, 0, none⟩) (Kd.R_types HO932.out BK961.out (by decide)) (fun _ hk => hk.2) (.bool t956)) (fun _ hk => hk.2) (.slice Ao82 t957.length co82)) (fun _ h_ => h_.1)))) hb); replace HO936 := Aside0.mk (Kd.R_below (uR ((Kd.R_mono (Kd.R_far (p := ⟨gb961, 1, none⟩) (Kd.R_far (p := ⟨gb961, 0, none⟩) (Kd.R_types HO936.out BK961.out (by decide)) (fun _ hk => hk.2) (.bool t956)) (fun _ hk => hk.2) (.slice Ao82 t957.length co82)) (fun _ h_ => h_.1)))) hb); replace HO942 := Aside0.mk (Kd.R_below (uR ((Kd.R_mono (Kd.R_far (p := ⟨gb961, 1, none⟩) (Kd.R_far (p := ⟨gb961, 0, none⟩) (Kd.R_types HO942.out BK961.out (by decide)) (fun _ hk => hk.2) (.bool t956)) (fun _ hk => hk.2) (.slice Ao82 t957.length co82)) (fun _ h_ => h_.1)))) hb); replace HO946 := Aside0.mk (Kd.R_below (uR ((Kd.R_mono (Kd.R_far (p := ⟨gb961, 1, none⟩) (Kd.R_far (p := ⟨gb961, 0, none⟩) (Kd.R_types HO946.out BK961.out (by decide)) (fun _ hk => hk.2) (.bool t956)) (fun _ hk => hk.2) (.slice Ao82 t957.length co82)) (fun _ h_ => h_.1)))) hb); replace HO951 := Aside0.mk (Kd.R_below (uR ((Kd.R_mono (Kd.R_far (p := ⟨gb961, 1, none⟩) (Kd.R_far (p := ⟨gb961, 0, none⟩) (Kd.R_types HO951.out BK961.out (by decide)) (fun _ hk => hk.2) (.bool t956)) (fun _ hk => hk.2) (.slice Ao82 t957.length co82)) (fun _ h_ => h_.1)))) hb); replace HO955 := Aside0.mk (Kd.R_below (uR ((Kd.R_mono (Kd.R_far (p := ⟨gb961, 1, none⟩) (Kd.R_far (p := ⟨gb961, 0, none⟩) (Kd.R_types HO955.out BK961.out (by decide)) (fun _ hk => hk.2) (.bool t956)) (fun _ hk => hk.2) (.slice Ao82 t957.length co82)) (fun _ h_ => h_.1)))) hb); replace HO959 := Aside0.mk (Kd.R_below (uR ((Kd.R_mono (Kd.R_far (p := ⟨gb961, 1, none⟩) (Kd.R_far (p := ⟨gb961, 0, none⟩) (Kd.R_types HO959.out BK961.out (by decide)) (fun _ hk => hk.2) (.bool t956)) (fun _ hk => hk.2) (.slice Ao82 t957.length co82)) (fun _ h_ => h_.1)))) hb); replace BK938 := Aside0.mk (blk_below (g := gb938) (o := .cells #[.bool t943, .slice Ao44 t944.length co44] 44 (0, 0)) (by refine blk_far ?_ NB938_961.out _; refine blk_far ?_ NB938_961.out _; exact uK BK938.out) hb); replace BK961 := Aside0.mk (blk_below (g := gb961) (o := .cells #[.bool t956, .slice Ao82 t957.length co82] 44 (0, 0)) (by refine blk_put (cs := #[.bool t956, .slice none 0 0]) ?_ 1 _ rfl; refine blk_put (cs := #[.bool false, .slice none 0 0]) ?_ 0 _ rfl; exact uK BK961.out) hb); replace HB := uy hb; (try clear hb); (try clear hb2); (try clear hk); (try clear hi)))
     go_ret2
     exact ⟨uF, uB⟩
mutual
def windbreaklaw07_FixencAdds.j0 : Nat → List Int → List (S34) → Bool → Int → Bool → Int → Int → Int → Option (Bool)
 | 0, _, _, _, _, _, _, _, _ => none
 | k + 1, x0, x2, x7, x8, x44, x994000, x994001, x994002 => if x44 = true then (some x7) else (windbreaklaw07_FixencAdds.l0 k x0 x2 x8 ([] : List Int) 0 0 0 x994000 x994001 x994002)
def windbreaklaw07_FixencAdds.l0 : Nat → List Int → List (S34) → Int → List Int → Int → Int → Int → Int → Int → Int → Option (Bool)
 | 0, _, _, _, _, _, _, _, _, _, _ => none
 | k + 1, x0, x2, x8, x10, x11, x12, x13, x994000, x994001, x994002 => if x13 < (x2.length : Int) then (if x13 < x994000 then (windbreaklaw07_FixencAdds.j2 k x0 x2 x8 x10 x11 x12 x13 (decide (x13 < 1000)) x994000 x994001 x994002) else (windbreaklaw07_FixencAdds.j2 k x0 x2 x8 x10 x11 x12 x13 false x994000 x994001 x994002)) else (windbreaklaw07_FixencAdds.j2 k x0 x2 x8 x10 x11 x12 x13 false x994000 x994001 x994002)
def windbreaklaw07_FixencAdds.j2 : Nat → List Int → List (S34) → Int → List Int → Int → Int → Int → Bool → Int → Int → Int → Option (Bool)
 | 0, _, _, _, _, _, _, _, _, _, _, _ => none
 | k + 1, x0, x2, x8, x10, x11, x12, x13, x59, x994000, x994001, x994002 => if x59 = true then (if 0 ≤ x13 then (if x13 < (x2.length : Int) then (if ((rd_T34 x2 x13).f0) > x994001 then (windbreaklaw07_FixencAdds.j3 k x0 x2 x8 x10 x11 x12 x13 ((rd_T34 x2 x13).f0) ((rd_T34 x2 x13).f1) true x994000 x994001 x994002) else (if ((rd_T34 x2 x13).f0) < (wrap64 (-x994001)) then (windbreaklaw07_FixencAdds.j3 k x0 x2 x8 x10 x11 x12 x13 ((rd_T34 x2 x13).f0) ((rd_T34 x2 x13).f1) true x994000 x994001 x994002) else (if ((rd_T34 x2 x13).f1) < 0 then (windbreaklaw07_FixencAdds.j3 k x0 x2 x8 x10 x11 x12 x13 ((rd_T34 x2 x13).f0) ((rd_T34 x2 x13).f1) true x994000 x994001 x994002) else (if ((rd_T34 x2 x13).f1) > x994002 then (windbreaklaw07_FixencAdds.j3 k x0 x2 x8 x10 x11 x12 x13 ((rd_T34 x2 x13).f0) ((rd_T34 x2 x13).f1) true x994000 x994001 x994002) else (if x994001 > 1099511627776 then (windbreaklaw07_FixencAdds.j3 k x0 x2 x8 x10 x11 x12 x13 ((rd_T34 x2 x13).f0) ((rd_T34 x2 x13).f1) true x994000 x994001 x994002) else (windbreaklaw07_FixencAdds.j3 k x0 x2 x8 x10 x11 x12 x13 ((rd_T34 x2 x13).f0) ((rd_T34 x2 x13).f1) (decide (x994002 > 1099511627776)) x994000 x994001 x994002)))))) else (none)) else (none)) else ((fixenc_Unpack.f k x0 x8 x10).bind fun bt1001 => (if bt1001.2.2 = 0 then (if bt1001.1 = x11 then (some (bt1001.2.1 == x12)) else (some false)) else (some false)))
def windbreaklaw07_FixencAdds.j3 : Nat → List Int → List (S34) → Int → List Int → Int → Int → Int → Int → Int → Bool → Int → Int → Int → Option (Bool)
 | 0, _, _, _, _, _, _, _, _, _, _, _, _, _ => none
 | k + 1, x0, x2, x8, x10, x11, x12, x13, x14, x15, x102, x994000, x994001, x994002 => if x102 = true then (some true) else ((fixenc_Pack.f k x0 x8 x14 x15).bind fun bt1006 => (if bt1006.2 = 0 then ((windbreakref01_Add.f k x10 bt1006.1).bind fun bt1010 => ((windbreakref01_Rest.f k bt1010.1 x0).bind fun t1014 => (windbreaklaw07_FixencAdds.l0 k x0 x2 x8 t1014 (wrap64 (x11 + x14)) (wrap64 (x12 + x15)) (wrap64 (x13 + 1)) x994000 x994001 x994002))) else (some false)))
end
def windbreaklaw07_FixencAdds.f (k : Nat) (l0 : List Int) (a1_0 : Int) (a1_1 : Int) (a1_2 : Int) (l2 : List (S34)) : Option (Bool) := (windbreaklaw07_few.f k (([l0] : List (List Int)))).bind fun t997 => (if t997 = true then ((windbreaklaw07_awake.f k).bind fun t998 => ((fixenc_Room.f k l0 a1_0 a1_1 a1_2).bind fun bt999 => (if t998 = true then (windbreaklaw07_FixencAdds.j0 k l0 l2 t998 bt999.1 (bt999.2 != 0) a1_0 a1_1 a1_2) else (windbreaklaw07_FixencAdds.j0 k l0 l2 t998 bt999.1 true a1_0 a1_1 a1_2)))) else (some true))
theorem windbreaklaw07_FixencAdds.calls (k : Nat) (P0_ : Nat → Prop) (A0 : Option Addr) (c0 : Nat) (l0 : List Int) (a1_0 : Int) (a1_1 : Int) (a1_2 : Int) (A2 : Option Addr) (c2 : Nat) (l2 : List (S34)) (r : Bool) (w : World) (hs0 : Kd.V (Kd.int .u64) 42 w w.heap.size (fun k_ => P0_ k_) (.slice A0 l0.length c0) l0) (hr2 : Kd.C k34 w A2 l2.length l2) (hc2 : l2.length ≤ c2) (h : windbreaklaw07_FixencAdds.f k l0 a1_0 a1_1 a1_2 l2 = some r) :
  Calls Try.prog 4 #[.slice A0 l0.length c0, .agg #[.int .i64 a1_0, .int .i64 a1_1, .int .i64 a1_2], .slice A2 l2.length c2] w fun e w' => e = .returned (.bool r) ∧ Below w.heap.size w w' := by
 have hu30 := Try.underlying30
 have HO0 := Aside0.mk (show Kd.V (Kd.int .u64) 42 w w.heap.size (fun k_ => (P0_ k_ ∨ w.heap.size ≤ k_)) (.slice A0 l0.length c0) l0 from Kd.V_mono hs0 (fun k_ hk => .inl hk))
 have HR2 := Aside0.mk hr2; have HC2 := Aside0.mk hc2; clear hr2 hc2
 have HB := Aside0.mk (Below.refl w.heap.size w)
 have H : ((windbreaklaw07_few.f k (([l0] : List (List Int)))).bind fun t997 => (if t997 = true then ((windbreaklaw07_awake.f k).bind fun t998 => ((fixenc_Room.f k l0 a1_0 a1_1 a1_2).bind fun bt999 => (if t998 = true then (windbreaklaw07_FixencAdds.j0 k l0 l2 t998 bt999.1 (bt999.2 != 0) a1_0 a1_1 a1_2) else (windbreaklaw07_FixencAdds.j0 k l0 l2 t998 bt999.1 true a1_0 a1_1 a1_2)))) else (some true))) = some r := h
 clear h
 generalize hy994 : ((([l0] : List (List Int))) : List (List Int)) = y994 at H
 have Ny994 := Aside0.mk hy994.symm; clear hy994
 replace ⟨t997, A4, H⟩ := ub H
 by_cases c5 : t997 = true
 ·
  subst c5
  rw [if_pos rfl] at H
  replace ⟨t998, A6, H⟩ := ub H
  replace ⟨⟨t999, t1000⟩, A7, H⟩ := ub H
  (try dsimp only at H)
  have HC8 := Aside0.mk H; clear H
  go_enter Try.func4, Try.ntmps4
  go_upto_region 5 with (first | ((with_reducible refine gate_dst (N := 4) rfl ?_); refine ubx 4 #[.int .i64 a1_0, .int .i64 a1_1, .int .i64 a1_2] 30 rfl rfl ?_; intro gb993 hg w9 hbox hb; replace HO0 := uvb HO0 hg hb; have BK993 := Aside0.mk (hbox); have GW993 := us hg; have GE993 := us hg; replace HB := uy hb; clear hb hbox hg) | ((with_reducible refine gate_dst (N := 24) rfl ?_); refine uNl 24 23 (Kd.slice 42 (Kd.int .u64)) ([l0] : List (List Int)) [.slice A0 l0.length c0] (fun k_ => (P0_ k_ ∨ w.heap.size ≤ k_) ∧ k_ ≠ gb993) rfl rfl ?hp ?hf ?_; (case hp => exact (Reps.one (uFs (Kd.V_mono (HO0.out) (fun k_ hk => ⟨hk.1, hk.2⟩))) (Reps.none _ _))); (case hf => exact fun k_ hk => ⟨(.inr (Nat.le_trans (below_size uB) hk)), Kd.freshB (g := gb993) (o := .cells #[.int .i64 a1_0, .int .i64 a1_1, .int .i64 a1_2] 30 (0, 0)) (uK BK993.out) k_ hk⟩); intro v995 w10 ho11 hb; (first | rw [← Ny994.out] at ho11 | (simp only [Int.reduceToNat] at ho11; rw [← Ny994.out] at ho11)); replace HO0 := Aside0.mk (Kd.V_elder' (uV HO0.out) (Kd.N_base ho11) hb); have HO996 := Aside0.mk (Kd.N_lower ho11 (below_size uB)); replace BK993 := ux BK993 hb; replace HB := uy hb; clear hb ho11; obtain ⟨Ao12, co12, eo12⟩ := Kd.N_slice HO996.out; subst eo12) | ((with_reducible refine ug 5 rfl ?_); refine uh (some 25) rfl Try.func5 #[.slice Ao12 y994.length co12] ?_; (with_reducible refine (windbreaklaw07_few.calls k _ _ y994 true _ (uC (Kd.N_reads' HO996.out).2.2) ((Kd.N_reads' HO996.out).2.1) A4.out).mono ?_); rintro e w' ⟨rfl, ⟨nd, rfl⟩⟩; refine ⟨_, rfl, ?_⟩) | ((with_reducible refine ug 6 rfl ?_); refine uh (some 27) rfl Try.func6 #[] ?_; (with_reducible refine (windbreaklaw07_awake.calls k  t998 _ A6.out).mono ?_); rintro e w13 ⟨rfl, hb⟩; refine ⟨_, rfl, ?_⟩; replace HO0 := Aside0.mk (Kd.V_below (uV HO0.out) hb); replace HO996 := Aside0.mk (Kd.N_below (uN HO996.out) hb); replace BK993 := ux BK993 hb; replace HB := uy hb; (try clear hb); have hcz14_0 : w13.cell? ⟨gb993, 0, none⟩ = some (.int .i64 a1_0) := (blk_cell BK993.out 0).trans rfl; have hcz14_1 : w13.cell? ⟨gb993, 1, none⟩ = some (.int .i64 a1_1) := (blk_cell BK993.out 1).trans rfl; have hcz14_2 : w13.cell? ⟨gb993, 2, none⟩ = some (.int .i64 a1_2) := (blk_cell BK993.out 2).trans rfl; have hfz14_0 := blk_frozen BK993.out 0; have hfz14_1 := blk_frozen BK993.out 1; have hfz14_2 := blk_frozen BK993.out 2) | ((with_reducible refine ug 9 rfl ?_); refine uh (some 36) rfl Try.func9 #[.slice A0 l0.length c0, .int .i64 a1_0, .int .i64 a1_1, .int .i64 a1_2] ?_; (with_reducible refine (fixenc_Room.calls k _ _ l0 a1_0 a1_1 a1_2 t999 t1000 _ (uC (Kd.V_reads' HO0.out).2.2) ((Kd.V_reads' HO0.out).2.1) A7.out).mono ?_); rintro e w15 ⟨rfl, hb⟩; refine ⟨_, rfl, ?_⟩; replace HO0 := Aside0.mk (Kd.V_below (uV HO0.out) hb); replace HO996 := Aside0.mk (Kd.N_below (uN HO996.out) hb); replace BK993 := ux BK993 hb; replace HB := uy hb; (try clear hb)))
  (try simp only [Act.put, List.setIfInBounds_toArray, List.set_cons_zero, List.set_cons_succ])
  go_cut [44] (fun v44 wc => ∃ (kq : Nat) (x44_7 : Bool), v44 = .bool x44_7 ∧ Aside0 (windbreaklaw07_FixencAdds.j0 kq l0 l2 t998 t999 x44_7 a1_0 a1_1 a1_2 = some r) ∧ Aside0 (kq ≤ k) ∧ Aside0 (Kd.V (Kd.int .u64) 42 wc w.heap.size (fun k_ => (P0_ k_ ∨ w.heap.size ≤ k_) ∧ k_ ≠ gb993) (.slice A0 l0.length c0) l0) ∧ Aside0 (wc.heap[gb993]? = some (.cells #[.int .i64 a1_0, .int .i64 a1_1, .int .i64 a1_2] 30 (0, 0))) ∧ Aside0 (Below w.heap.size w wc))
  case first =>
   have H := HC8.out
   clear HC8
   by_cases c16 : t998 = true
   ·
    subst c16
    rw [if_pos rfl] at H
    have H' := Aside0.mk H
    clear H
    go_wp2
    go_meet
    case rel => exact ⟨_, ((t1000 != 0)), uG, H', ⟨uW⟩, ⟨by (with_reducible repeat (first | apply Kd.V_alloc | apply Kd.V_drewN | apply Kd.V_drew)); exact Kd.V_mono HO0.out (fun _ hk => ⟨hk.1.1, hk.1.2⟩)⟩, ⟨uK BK993.out⟩, ⟨uB⟩⟩
   replace c16 := Bool.eq_false_iff.mpr c16
   subst c16
   rw [if_neg (show ¬ (false = true) by decide)] at H
   have H' := Aside0.mk H
   clear H
   go_wp2
   go_meet
   case rel => exact ⟨_, (true), uG, H', ⟨uW⟩, ⟨by (with_reducible repeat (first | apply Kd.V_alloc | apply Kd.V_drewN | apply Kd.V_drew)); exact Kd.V_mono HO0.out (fun _ hk => ⟨hk.1.1, hk.1.2⟩)⟩, ⟨uK BK993.out⟩, ⟨uB⟩⟩
  case rest =>
   clear HC8; (try clear hcz14_0 hcz14_1 hcz14_2); (try clear hfz14_0 hfz14_1 hfz14_2)
   obtain ⟨kq, x44_7, rfl, HA, HJ7, HO_0, BK993, HB⟩ := hcut
   cases kq with
   | zero => exact absurd HA.out (by simp [windbreaklaw07_FixencAdds.j0])
   | succ kj7 =>
    have H := HA.out
    clear HA
    simp only [windbreaklaw07_FixencAdds.j0] at H
    by_cases c17 : x44_7 = true
    ·
     subst c17
     rw [if_pos rfl] at H
     obtain rfl := Option.some.inj H
     go_wp2
     go_ret
     exact ⟨uF, uB⟩
    replace c17 := Bool.eq_false_iff.mpr c17
    subst c17
    rw [if_neg (show ¬ (false = true) by decide)] at H
    have H' := Aside0.mk H
    clear H
    go_wp2
    go_loopg [10, 11, 12, 13] kj7 (fun kq v10 v11 v12 v13 w' => ∃ (x10_2 : List Int) (x11_2 : Int) (x12_2 : Int) (x13_2 : Int), v11 = .int .i64 x11_2 ∧ v12 = .int .i64 x12_2 ∧ v13 = .int .i64 x13_2 ∧ Aside0 (windbreaklaw07_FixencAdds.l0 kq l0 l2 t999 x10_2 x11_2 x12_2 x13_2 a1_0 a1_1 a1_2 = some r) ∧ Aside0 (kq ≤ kj7) ∧ Aside0 (Kd.V (Kd.int .u64) 42 w' w.heap.size (fun k_ => (P0_ k_ ∨ w.heap.size ≤ k_) ∧ some k_ ≠ (v10 : Value).ownBlock ∧ k_ ≠ gb993) (.slice A0 l0.length c0) l0) ∧ Aside0 (Kd.R (Kd.int .u64) 42 w' w.heap.size (fun k_ => (w.heap.size ≤ k_)) v10 x10_2) ∧ Aside0 (w'.heap[gb993]? = some (.cells #[.int .i64 a1_0, .int .i64 a1_1, .int .i64 a1_2] 30 (0, 0))) ∧ Aside0 (Below w.heap.size w w'))
    case atStart => exact ⟨(([] : List Int)), (0), (0), (0), uG, uG, uG, H', ⟨Nat.le_refl _⟩, ⟨by (with_reducible repeat (first | apply Kd.V_alloc | apply Kd.V_drewN | apply Kd.V_drew)); exact Kd.V_mono HO_0.out (fun _ hk => ⟨hk.1, ⟨(by simp [Value.ownBlock]), hk.2⟩⟩)⟩, ⟨uI⟩, ⟨uK BK993.out⟩, ⟨uB⟩⟩
    case round =>
     clear H'
     ; (try clear hcz14_0 hcz14_1 hcz14_2); (try clear hfz14_0 hfz14_1 hfz14_2)
     obtain ⟨x10_2, x11_2, x12_2, x13_2, rfl, rfl, rfl, HA, HK2, HO_0, HO_10, BK993, HB⟩ := hrel
     cases gk with
     | zero => exact absurd HA.out (by simp [windbreaklaw07_FixencAdds.l0])
     | succ k2 =>
      have H := HA.out
      clear HA
      simp only [windbreaklaw07_FixencAdds.l0] at H
      have HC18 := Aside0.mk H; clear H
      go_upto_region 11 with (fail)
      go_cut [59] (fun v59 wc => ∃ (kq : Nat) (x59_17 : Bool), v59 = .bool x59_17 ∧ Aside0 (windbreaklaw07_FixencAdds.j2 kq l0 l2 t999 x10_2 x11_2 x12_2 x13_2 x59_17 a1_0 a1_1 a1_2 = some r) ∧ Aside0 (kq ≤ k2) ∧ Aside0 (Kd.V (Kd.int .u64) 42 wc w.heap.size (fun k_ => (P0_ k_ ∨ w.heap.size ≤ k_) ∧ some k_ ≠ (u10 : Value).ownBlock ∧ k_ ≠ gb993) (.slice A0 l0.length c0) l0) ∧ Aside0 (Kd.R (Kd.int .u64) 42 wc w.heap.size (fun k_ => (w.heap.size ≤ k_)) u10 x10_2) ∧ Aside0 (wc.heap[gb993]? = some (.cells #[.int .i64 a1_0, .int .i64 a1_1, .int .i64 a1_2] 30 (0, 0))) ∧ Aside0 (Below w.heap.size w wc))
      case first =>
       have H := HC18.out
       clear HC18
       by_cases c19 : x13_2 < (l2.length : Int)
       ·
        rw [if_pos c19] at H
        have c19b0 := decide_eq_true c19
        clear c19
        (first | rw [c19b0] | (simp only [i64_w, i32_w]; rw [c19b0]) | skip)
        by_cases c20 : x13_2 < a1_0
        ·
         rw [if_pos c20] at H
         have c20b0 := decide_eq_true c20
         clear c20
         have H' := Aside0.mk H
         clear H; have hcz21_0 : wr.cell? ⟨gb993, 0, none⟩ = some (.int .i64 a1_0) := (blk_cell BK993.out 0).trans rfl; have hcz21_1 : wr.cell? ⟨gb993, 1, none⟩ = some (.int .i64 a1_1) := (blk_cell BK993.out 1).trans rfl; have hcz21_2 : wr.cell? ⟨gb993, 2, none⟩ = some (.int .i64 a1_2) := (blk_cell BK993.out 2).trans rfl; have hfz21_0 := blk_frozen BK993.out 0; have hfz21_1 := blk_frozen BK993.out 1; have hfz21_2 := blk_frozen BK993.out 2
         go_wp2
         go_meet
         case rel => exact ⟨_, (decide (x13_2 < 1000)), uG, H', ⟨by have := HJ7.out; have := HK2.out; first | omega | exact Nat.le_refl _⟩, ⟨uV HO_0.out⟩, ⟨uR HO_10.out⟩, ⟨uK BK993.out⟩, ⟨uB⟩⟩
        rw [if_neg c20] at H
        have c20b0 := decide_eq_false c20
        clear c20
        have H' := Aside0.mk H
        clear H; have hcz22_0 : wr.cell? ⟨gb993, 0, none⟩ = some (.int .i64 a1_0) := (blk_cell BK993.out 0).trans rfl; have hcz22_1 : wr.cell? ⟨gb993, 1, none⟩ = some (.int .i64 a1_1) := (blk_cell BK993.out 1).trans rfl; have hcz22_2 : wr.cell? ⟨gb993, 2, none⟩ = some (.int .i64 a1_2) := (blk_cell BK993.out 2).trans rfl; have hfz22_0 := blk_frozen BK993.out 0; have hfz22_1 := blk_frozen BK993.out 1; have hfz22_2 := blk_frozen BK993.out 2
        go_wp2
        go_meet
        case rel => exact ⟨_, (false), uG, H', ⟨by have := HJ7.out; have := HK2.out; first | omega | exact Nat.le_refl _⟩, ⟨uV HO_0.out⟩, ⟨uR HO_10.out⟩, ⟨uK BK993.out⟩, ⟨uB⟩⟩
       rw [if_neg c19] at H
       have c19b0 := decide_eq_false c19
       clear c19
       (first | rw [c19b0] | (simp only [i64_w, i32_w]; rw [c19b0]) | skip)
       have H' := Aside0.mk H
       clear H
       go_wp2
       go_meet
       case rel => exact ⟨_, (false), uG, H', ⟨by have := HJ7.out; have := HK2.out; first | omega | exact Nat.le_refl _⟩, ⟨uV HO_0.out⟩, ⟨uR HO_10.out⟩, ⟨uK BK993.out⟩, ⟨uB⟩⟩
      case rest =>
       clear HC18; (try clear hcz14_0 hcz14_1 hcz14_2); (try clear hcz21_0 hcz21_1 hcz21_2); (try clear hcz22_0 hcz22_1 hcz22_2); (try clear hfz14_0 hfz14_1 hfz14_2); (try clear hfz21_0 hfz21_1 hfz21_2); (try clear hfz22_0 hfz22_1 hfz22_2)
       obtain ⟨kq, x59_17, rfl, HA, HJ17, HO_0, HO_10, BK993, HB⟩ := hcut
       cases kq with
       | zero => exact absurd HA.out (by simp [windbreaklaw07_FixencAdds.j2])
       | succ kj17 =>
        have H := HA.out
        clear HA
        simp only [windbreaklaw07_FixencAdds.j2] at H
        by_cases c23 : x59_17 = true
        ·
         subst c23
         rw [if_pos rfl] at H
         replace ⟨c24b0, H⟩ := uTd H
         replace ⟨c25b0, H⟩ := uTd H; have HC26 := Aside0.mk H; clear H
         have p1004 : 0 ≤ (x13_2 : Int) := uO
         have q1004 : x13_2 < (l2.length : Int) := uO
         obtain ⟨ad1004, e1004, hx1004_0, hx1004_1⟩ := at_T34 HR2.out x13_2 p1004 q1004
         cases e1004
         replace hx1004_0 := (HB.out.cell (World.block_lt_of_cell? w _ hx1004_0)).trans hx1004_0
         replace hx1004_1 := (HB.out.cell (World.block_lt_of_cell? w _ hx1004_1)).trans hx1004_1
         replace p1004 := eq_true p1004
         replace q1004 := eq_true q1004
         have p1005 : 0 ≤ (x13_2 : Int) := uO
         have q1005 : x13_2 < (l2.length : Int) := uO
         obtain ⟨ad1005, e1005, hx1005_0, hx1005_1⟩ := at_T34 HR2.out x13_2 p1005 q1005
         obtain rfl : ad1004 = ad1005 := (by injection e1005)
         replace hx1005_0 := (HB.out.cell (World.block_lt_of_cell? w _ hx1005_0)).trans hx1005_0
         replace hx1005_1 := (HB.out.cell (World.block_lt_of_cell? w _ hx1005_1)).trans hx1005_1
         replace p1005 := eq_true p1005
         replace q1005 := eq_true q1005
         go_upto_region 15 with (fail)
         go_cut [102] (fun v102 wc => ∃ (kq : Nat) (x102_25 : Bool), v102 = .bool x102_25 ∧ Aside0 (windbreaklaw07_FixencAdds.j3 kq l0 l2 t999 x10_2 x11_2 x12_2 x13_2 ((rd_T34 l2 x13_2).f0) ((rd_T34 l2 x13_2).f1) x102_25 a1_0 a1_1 a1_2 = some r) ∧ Aside0 (kq ≤ kj17) ∧ Aside0 (Kd.V (Kd.int .u64) 42 wc w.heap.size (fun k_ => (P0_ k_ ∨ w.heap.size ≤ k_) ∧ some k_ ≠ (u10 : Value).ownBlock ∧ k_ ≠ gb993) (.slice A0 l0.length c0) l0) ∧ Aside0 (Kd.R (Kd.int .u64) 42 wc w.heap.size (fun k_ => (w.heap.size ≤ k_)) u10 x10_2) ∧ Aside0 (wc.heap[gb993]? = some (.cells #[.int .i64 a1_0, .int .i64 a1_1, .int .i64 a1_2] 30 (0, 0))) ∧ Aside0 (Below w.heap.size w wc))
         case first =>
          have H := HC26.out
          clear HC26
          by_cases c27 : ((rd_T34 l2 x13_2).f0) > a1_1
          ·
           rw [if_pos c27] at H
           have c27b0 := decide_eq_true c27
           clear c27
           (first | rw [c27b0] | (simp only [i64_w, i32_w]; rw [c27b0]) | skip)
           have H' := Aside0.mk H
           clear H; have hcz28_0 : wc.cell? ⟨gb993, 0, none⟩ = some (.int .i64 a1_0) := (blk_cell BK993.out 0).trans rfl; have hcz28_1 : wc.cell? ⟨gb993, 1, none⟩ = some (.int .i64 a1_1) := (blk_cell BK993.out 1).trans rfl; have hcz28_2 : wc.cell? ⟨gb993, 2, none⟩ = some (.int .i64 a1_2) := (blk_cell BK993.out 2).trans rfl; have hfz28_0 := blk_frozen BK993.out 0; have hfz28_1 := blk_frozen BK993.out 1; have hfz28_2 := blk_frozen BK993.out 2
           go_wp2
           go_meet
           case rel => exact ⟨_, (true), uG, H', ⟨by have := HJ7.out; have := HK2.out; have := HJ17.out; first | omega | exact Nat.le_refl _⟩, ⟨uV HO_0.out⟩, ⟨uR HO_10.out⟩, ⟨uK BK993.out⟩, ⟨uB⟩⟩
          rw [if_neg c27] at H
          have c27b0 := decide_eq_false c27
          clear c27
          (first | rw [c27b0] | (simp only [i64_w, i32_w]; rw [c27b0]) | skip)
          by_cases c29 : ((rd_T34 l2 x13_2).f0) < (wrap64 (-a1_1))
          ·
           rw [if_pos c29] at H
           have c29b0 := decide_eq_true c29
           clear c29
           have H' := Aside0.mk H
           clear H; have hcz30_0 : wc.cell? ⟨gb993, 0, none⟩ = some (.int .i64 a1_0) := (blk_cell BK993.out 0).trans rfl; have hcz30_1 : wc.cell? ⟨gb993, 1, none⟩ = some (.int .i64 a1_1) := (blk_cell BK993.out 1).trans rfl; have hcz30_2 : wc.cell? ⟨gb993, 2, none⟩ = some (.int .i64 a1_2) := (blk_cell BK993.out 2).trans rfl; have hfz30_0 := blk_frozen BK993.out 0; have hfz30_1 := blk_frozen BK993.out 1; have hfz30_2 := blk_frozen BK993.out 2
           go_wp2
           go_meet
           case rel => exact ⟨_, (true), uG, H', ⟨by have := HJ7.out; have := HK2.out; have := HJ17.out; first | omega | exact Nat.le_refl _⟩, ⟨uV HO_0.out⟩, ⟨uR HO_10.out⟩, ⟨uK BK993.out⟩, ⟨uB⟩⟩
          rw [if_neg c29] at H
          have c29b0 := decide_eq_false c29
          clear c29
          by_cases c31 : ((rd_T34 l2 x13_2).f1) < 0
          ·
           rw [if_pos c31] at H
           have c31b0 := decide_eq_true c31
           clear c31
           have H' := Aside0.mk H
           clear H; have hcz32_0 : wc.cell? ⟨gb993, 0, none⟩ = some (.int .i64 a1_0) := (blk_cell BK993.out 0).trans rfl; have hcz32_1 : wc.cell? ⟨gb993, 1, none⟩ = some (.int .i64 a1_1) := (blk_cell BK993.out 1).trans rfl; have hcz32_2 : wc.cell? ⟨gb993, 2, none⟩ = some (.int .i64 a1_2) := (blk_cell BK993.out 2).trans rfl; have hfz32_0 := blk_frozen BK993.out 0; have hfz32_1 := blk_frozen BK993.out 1; have hfz32_2 := blk_frozen BK993.out 2
           go_wp2
           go_meet
           case rel => exact ⟨_, (true), uG, H', ⟨by have := HJ7.out; have := HK2.out; have := HJ17.out; first | omega | exact Nat.le_refl _⟩, ⟨uV HO_0.out⟩, ⟨uR HO_10.out⟩, ⟨uK BK993.out⟩, ⟨uB⟩⟩
          rw [if_neg c31] at H
          have c31b0 := decide_eq_false c31
          clear c31
          by_cases c33 : ((rd_T34 l2 x13_2).f1) > a1_2
          ·
           rw [if_pos c33] at H
           have c33b0 := decide_eq_true c33
           clear c33
           have H' := Aside0.mk H
           clear H; have hcz34_0 : wc.cell? ⟨gb993, 0, none⟩ = some (.int .i64 a1_0) := (blk_cell BK993.out 0).trans rfl; have hcz34_1 : wc.cell? ⟨gb993, 1, none⟩ = some (.int .i64 a1_1) := (blk_cell BK993.out 1).trans rfl; have hcz34_2 : wc.cell? ⟨gb993, 2, none⟩ = some (.int .i64 a1_2) := (blk_cell BK993.out 2).trans rfl; have hfz34_0 := blk_frozen BK993.out 0; have hfz34_1 := blk_frozen BK993.out 1; have hfz34_2 := blk_frozen BK993.out 2
           go_wp2
           go_meet
           case rel => exact ⟨_, (true), uG, H', ⟨by have := HJ7.out; have := HK2.out; have := HJ17.out; first | omega | exact Nat.le_refl _⟩, ⟨uV HO_0.out⟩, ⟨uR HO_10.out⟩, ⟨uK BK993.out⟩, ⟨uB⟩⟩
          rw [if_neg c33] at H
          have c33b0 := decide_eq_false c33
          clear c33
          by_cases c35 : a1_1 > 1099511627776
          ·
           rw [if_pos c35] at H
           have c35b0 := decide_eq_true c35
           clear c35
           have H' := Aside0.mk H
           clear H; have hcz36_0 : wc.cell? ⟨gb993, 0, none⟩ = some (.int .i64 a1_0) := (blk_cell BK993.out 0).trans rfl; have hcz36_1 : wc.cell? ⟨gb993, 1, none⟩ = some (.int .i64 a1_1) := (blk_cell BK993.out 1).trans rfl; have hcz36_2 : wc.cell? ⟨gb993, 2, none⟩ = some (.int .i64 a1_2) := (blk_cell BK993.out 2).trans rfl; have hfz36_0 := blk_frozen BK993.out 0; have hfz36_1 := blk_frozen BK993.out 1; have hfz36_2 := blk_frozen BK993.out 2
           go_wp2
           go_meet
           case rel => exact ⟨_, (true), uG, H', ⟨by have := HJ7.out; have := HK2.out; have := HJ17.out; first | omega | exact Nat.le_refl _⟩, ⟨uV HO_0.out⟩, ⟨uR HO_10.out⟩, ⟨uK BK993.out⟩, ⟨uB⟩⟩
          rw [if_neg c35] at H
          have c35b0 := decide_eq_false c35
          clear c35
          have H' := Aside0.mk H
          clear H; have hcz37_0 : wc.cell? ⟨gb993, 0, none⟩ = some (.int .i64 a1_0) := (blk_cell BK993.out 0).trans rfl; have hcz37_1 : wc.cell? ⟨gb993, 1, none⟩ = some (.int .i64 a1_1) := (blk_cell BK993.out 1).trans rfl; have hcz37_2 : wc.cell? ⟨gb993, 2, none⟩ = some (.int .i64 a1_2) := (blk_cell BK993.out 2).trans rfl; have hfz37_0 := blk_frozen BK993.out 0; have hfz37_1 := blk_frozen BK993.out 1; have hfz37_2 := blk_frozen BK993.out 2
          go_wp2
          go_meet
          case rel => exact ⟨_, (decide (a1_2 > 1099511627776)), uG, H', ⟨by have := HJ7.out; have := HK2.out; have := HJ17.out; first | omega | exact Nat.le_refl _⟩, ⟨uV HO_0.out⟩, ⟨uR HO_10.out⟩, ⟨uK BK993.out⟩, ⟨uB⟩⟩
         case rest =>
          clear HC26; (try clear q1); (try clear hx1); (try clear q10); (try clear hx10); (try clear hcz14_0 hcz14_1 hcz14_2); (try clear hcz21_0 hcz21_1 hcz21_2); (try clear hcz22_0 hcz22_1 hcz22_2); (try clear hcz28_0 hcz28_1 hcz28_2); (try clear hcz30_0 hcz30_1 hcz30_2); (try clear hcz32_0 hcz32_1 hcz32_2); (try clear hcz34_0 hcz34_1 hcz34_2); (try clear hcz36_0 hcz36_1 hcz36_2); (try clear hcz37_0 hcz37_1 hcz37_2); (try clear hfz14_0 hfz14_1 hfz14_2); (try clear hfz21_0 hfz21_1 hfz21_2); (try clear hfz22_0 hfz22_1 hfz22_2); (try clear hfz28_0 hfz28_1 hfz28_2); (try clear hfz30_0 hfz30_1 hfz30_2); (try clear hfz32_0 hfz32_1 hfz32_2); (try clear hfz34_0 hfz34_1 hfz34_2); (try clear hfz36_0 hfz36_1 hfz36_2); (try clear hfz37_0 hfz37_1 hfz37_2); (try clear hx1004_0 hx1004_1); (try clear hx1005_0 hx1005_1); (try clear q1004); (try clear q1005)
          obtain ⟨kq, x102_25, rfl, HA, HJ25, HO_0, HO_10, BK993, HB⟩ := hcut
          cases kq with
          | zero => exact absurd HA.out (by simp [windbreaklaw07_FixencAdds.j3])
          | succ kj25 =>
           have H := HA.out
           clear HA
           simp only [windbreaklaw07_FixencAdds.j3] at H
           by_cases c38 : x102_25 = true
           ·
            subst c38
            rw [if_pos rfl] at H
            obtain rfl := Option.some.inj H
            go_wp2
            go_ret
            exact ⟨uF, uB⟩
           replace c38 := Bool.eq_false_iff.mpr c38
           subst c38
           rw [if_neg (show ¬ (false = true) by decide)] at H
           replace ⟨⟨t1006, t1007⟩, A39, H⟩ := ub H
           (try dsimp only at H)
           by_cases c40 : t1007 = 0
           ·
            rw [if_pos c40] at H
            have c40b0 := beq_iff_eq.mpr c40
            have c40b1 := bne_eq_false_iff_eq.mpr c40
            clear c40
            replace ⟨⟨t1010, t1011⟩, A41, H⟩ := ub H
            (try dsimp only at H)
            replace ⟨t1014, A42, H⟩ := ub H
            have H' := Aside0.mk H
            clear H
            go_wp2_with (first | ((with_reducible refine ug 10 rfl ?_); refine uh (some 108) rfl Try.func10 #[.slice A0 l0.length c0, .int .i64 t999, .int .i64 ((rd_T34 l2 x13_2).f0), .int .i64 ((rd_T34 l2 x13_2).f1)] ?_; (with_reducible refine (fixenc_Pack.calls kj25 _ _ l0 t999 ((rd_T34 l2 x13_2).f0) ((rd_T34 l2 x13_2).f1) t1006 t1007 _ (uC (Kd.V_reads' HO_0.out).2.2) ((Kd.V_reads' HO_0.out).2.1) A39.out).mono ?_); rintro e w43 ⟨v1008, rfl, ho0, hb⟩; refine ⟨_, rfl, ?_⟩; replace HO_0 := ueV HO_0 ho0 hb; have HO1009 := ulo (unw (Kd.R_newM (M := fun k_ => (w.heap.size ≤ k_)) ho0 (below_size uB) (fun k_ h_ => h_)) HO_10); replace HO_10 := ueR HO_10 ho0 hb; replace BK993 := ux BK993 hb; replace HB := uy hb; (try clear hb ho0); obtain ⟨Ao44, co44, eo44⟩ := Kd.R_slice HO_10.out; subst eo44; obtain ⟨Ao45, co45, eo45⟩ := Kd.R_slice HO1009.out; subst eo45) | ((with_reducible refine ug 11 rfl ?_); refine uh (some 116) rfl Try.func11 #[.slice Ao44 x10_2.length co44, .slice Ao45 t1006.length co45] ?_; (with_reducible refine (windbreakref01_Add.calls kj25 _ _ x10_2 _ _ t1006 t1010 t1011 _ (uC (Kd.R_reads' HO_10.out).2.2) ((Kd.R_reads' HO_10.out).2.1) (uC (Kd.R_reads' HO1009.out).2.2) ((Kd.R_reads' HO1009.out).2.1) A41.out).mono ?_); rintro e w46 ⟨v1012, rfl, ho0, hb⟩; refine ⟨_, rfl, ?_⟩; replace HO_0 := ueV HO_0 ho0 hb; have HO1013 := ulo (unw (unw (Kd.R_newM (M := fun k_ => (w.heap.size ≤ k_)) ho0 (below_size uB) (fun k_ h_ => h_)) HO_10) HO1009); replace HO_10 := ueR HO_10 ho0 hb; replace HO1009 := ueR HO1009 ho0 hb; replace BK993 := ux BK993 hb; replace HB := uy hb; (try clear hb ho0); obtain ⟨Ao47, co47, eo47⟩ := Kd.R_slice HO1013.out; subst eo47) | ((with_reducible refine ug 12 rfl ?_); refine uh (some 121) rfl Try.func12 #[.slice Ao47 t1010.length co47, .slice A0 l0.length c0] ?_; (with_reducible refine (windbreakref01_Rest.calls kj25 _ _ t1010 _ _ l0 t1014 _ (uC (Kd.R_reads' HO1013.out).2.2) ((Kd.R_reads' HO1013.out).2.1) (uC (Kd.V_reads' HO_0.out).2.2) ((Kd.V_reads' HO_0.out).2.1) A42.out).mono ?_); rintro e w48 ⟨v1015, rfl, ho0, hb⟩; refine ⟨_, rfl, ?_⟩; replace HO_0 := ueV HO_0 ho0 hb; have HO1016 := ulo (unw (unw (unw (Kd.R_newM (M := fun k_ => (w.heap.size ≤ k_)) ho0 (below_size uB) (fun k_ h_ => h_)) HO_10) HO1009) HO1013); replace HO_10 := ueR HO_10 ho0 hb; replace HO1009 := ueR HO1009 ho0 hb; replace HO1013 := ueR HO1013 ho0 hb; replace BK993 := ux BK993 hb; replace HB := uy hb; (try clear hb ho0)))
            go_roundg kj25
            case measure => have := HJ7.out; have := HK2.out; have := HJ17.out; have := HJ25.out; omega
            case rel => exact ⟨(t1014), (wrap64 (x11_2 + ((rd_T34 l2 x13_2).f0))), (wrap64 (x12_2 + ((rd_T34 l2 x13_2).f1))), (wrap64 (x13_2 + 1)), uG, uG, uG, H', ⟨by have := HJ7.out; have := HK2.out; have := HJ17.out; have := HJ25.out; omega⟩, ⟨by (with_reducible repeat (first | apply Kd.V_alloc | apply Kd.V_drewN | apply Kd.V_drew)); exact Kd.V_mono HO_0.out (fun _ hk => ⟨hk.1.1.1.1, ⟨hk.2, hk.1.1.1.2.2⟩⟩)⟩, ⟨by exact uR (Kd.R_mono HO1016.out (fun _ hk => hk.1.1.1.1))⟩, ⟨uK BK993.out⟩, ⟨uB⟩⟩
           rw [if_neg c40] at H
           have c40b0 := beq_eq_false_iff_ne.mpr c40
           have c40b1 := bne_iff_ne.mpr c40
           obtain rfl := Option.some.inj H
           go_wp2_with (first | ((with_reducible refine ug 10 rfl ?_); refine uh (some 108) rfl Try.func10 #[.slice A0 l0.length c0, .int .i64 t999, .int .i64 ((rd_T34 l2 x13_2).f0), .int .i64 ((rd_T34 l2 x13_2).f1)] ?_; (with_reducible refine (fixenc_Pack.calls kj25 _ _ l0 t999 ((rd_T34 l2 x13_2).f0) ((rd_T34 l2 x13_2).f1) t1006 t1007 _ (uC (Kd.V_reads' HO_0.out).2.2) ((Kd.V_reads' HO_0.out).2.1) A39.out).mono ?_); rintro e w49 ⟨v1008, rfl, ho0, hb⟩; refine ⟨_, rfl, ?_⟩; replace HO_0 := ueV HO_0 ho0 hb; have HO1009 := ulo (unw (Kd.R_newM (M := fun k_ => (w.heap.size ≤ k_)) ho0 (below_size uB) (fun k_ h_ => h_)) HO_10); replace HO_10 := ueR HO_10 ho0 hb; replace BK993 := ux BK993 hb; replace HB := uy hb; (try clear hb ho0)))
           go_ret
           exact ⟨uF, uB⟩
        replace c23 := Bool.eq_false_iff.mpr c23
        subst c23
        rw [if_neg (show ¬ (false = true) by decide)] at H
        replace ⟨⟨t1001, t1002, t1003⟩, A50, H⟩ := ub H
        (try dsimp only at H)
        by_cases c51 : t1003 = 0
        ·
         rw [if_pos c51] at H
         have c51b0 := beq_iff_eq.mpr c51
         have c51b1 := bne_eq_false_iff_eq.mpr c51
         clear c51
         by_cases c52 : t1001 = x11_2
         ·
          rw [if_pos c52] at H
          have c52b0 := beq_iff_eq.mpr c52
          have c52b1 := bne_eq_false_iff_eq.mpr c52
          clear c52
          obtain rfl := Option.some.inj H
          obtain ⟨Ao53, co53, eo53⟩ := Kd.R_slice HO_10.out
          subst eo53
          go_wp2_with (first | ((with_reducible refine ug 7 rfl ?_); refine uh (some 132) rfl Try.func7 #[.slice A0 l0.length c0, .int .i64 t999, .slice Ao53 x10_2.length co53] ?_; (with_reducible refine (fixenc_Unpack.calls kj17 _ _ l0 t999 _ _ x10_2 t1001 t1002 t1003 _ (uC (Kd.V_reads' HO_0.out).2.2) ((Kd.V_reads' HO_0.out).2.1) (uC (Kd.R_reads' HO_10.out).2.2) ((Kd.R_reads' HO_10.out).2.1) A50.out).mono ?_); rintro e w54 ⟨rfl, hb⟩; refine ⟨_, rfl, ?_⟩; replace HO_0 := Aside0.mk (Kd.V_below (uV HO_0.out) hb); replace HO_10 := urb HO_10 hb; replace BK993 := ux BK993 hb; replace HB := uy hb; (try clear hb)))
          go_ret
          exact ⟨uF, uB⟩
         rw [if_neg c52] at H
         have c52b0 := beq_eq_false_iff_ne.mpr c52
         have c52b1 := bne_iff_ne.mpr c52
         obtain rfl := Option.some.inj H
         obtain ⟨Ao55, co55, eo55⟩ := Kd.R_slice HO_10.out
         subst eo55
         go_wp2_with (first | ((with_reducible refine ug 7 rfl ?_); refine uh (some 132) rfl Try.func7 #[.slice A0 l0.length c0, .int .i64 t999, .slice Ao55 x10_2.length co55] ?_; (with_reducible refine (fixenc_Unpack.calls kj17 _ _ l0 t999 _ _ x10_2 t1001 t1002 t1003 _ (uC (Kd.V_reads' HO_0.out).2.2) ((Kd.V_reads' HO_0.out).2.1) (uC (Kd.R_reads' HO_10.out).2.2) ((Kd.R_reads' HO_10.out).2.1) A50.out).mono ?_); rintro e w56 ⟨rfl, hb⟩; refine ⟨_, rfl, ?_⟩; replace HO_0 := Aside0.mk (Kd.V_below (uV HO_0.out) hb); replace HO_10 := urb HO_10 hb; replace BK993 := ux BK993 hb; replace HB := uy hb; (try clear hb)))
         go_ret
         exact ⟨uF, uB⟩
        rw [if_neg c51] at H
        have c51b0 := beq_eq_false_iff_ne.mpr c51
        have c51b1 := bne_iff_ne.mpr c51
        obtain rfl := Option.some.inj H
        obtain ⟨Ao57, co57, eo57⟩ := Kd.R_slice HO_10.out
        subst eo57
        go_wp2_with (first | ((with_reducible refine ug 7 rfl ?_); refine uh (some 132) rfl Try.func7 #[.slice A0 l0.length c0, .int .i64 t999, .slice Ao57 x10_2.length co57] ?_; (with_reducible refine (fixenc_Unpack.calls kj17 _ _ l0 t999 _ _ x10_2 t1001 t1002 t1003 _ (uC (Kd.V_reads' HO_0.out).2.2) ((Kd.V_reads' HO_0.out).2.1) (uC (Kd.R_reads' HO_10.out).2.2) ((Kd.R_reads' HO_10.out).2.1) A50.out).mono ?_); rintro e w58 ⟨rfl, hb⟩; refine ⟨_, rfl, ?_⟩; replace HO_0 := Aside0.mk (Kd.V_below (uV HO_0.out) hb); replace HO_10 := urb HO_10 hb; replace BK993 := ux BK993 hb; replace HB := uy hb; (try clear hb)))
        go_ret
        exact ⟨uF, uB⟩
 replace c5 := Bool.eq_false_iff.mpr c5
 subst c5
 rw [if_neg (show ¬ (false = true) by decide)] at H
 obtain rfl := Option.some.inj H
 go_enter Try.func4, Try.ntmps4
 go_wp2_with (first | ((with_reducible refine gate_dst (N := 4) rfl ?_); refine ubx 4 #[.int .i64 a1_0, .int .i64 a1_1, .int .i64 a1_2] 30 rfl rfl ?_; intro gb993 hg w59 hbox hb; replace HO0 := uvb HO0 hg hb; have BK993 := Aside0.mk (hbox); have GW993 := us hg; have GE993 := us hg; replace HB := uy hb; clear hb hbox hg) | ((with_reducible refine gate_dst (N := 24) rfl ?_); refine uNl 24 23 (Kd.slice 42 (Kd.int .u64)) ([l0] : List (List Int)) [.slice A0 l0.length c0] (fun k_ => (P0_ k_ ∨ w.heap.size ≤ k_) ∧ k_ ≠ gb993) rfl rfl ?hp ?hf ?_; (case hp => exact (Reps.one (uFs (Kd.V_mono (HO0.out) (fun k_ hk => ⟨hk.1, hk.2⟩))) (Reps.none _ _))); (case hf => exact fun k_ hk => ⟨(.inr (Nat.le_trans (below_size uB) hk)), Kd.freshB (g := gb993) (o := .cells #[.int .i64 a1_0, .int .i64 a1_1, .int .i64 a1_2] 30 (0, 0)) (uK BK993.out) k_ hk⟩); intro v995 w60 ho61 hb; (first | rw [← Ny994.out] at ho61 | (simp only [Int.reduceToNat] at ho61; rw [← Ny994.out] at ho61)); replace HO0 := Aside0.mk (Kd.V_elder' (uV HO0.out) (Kd.N_base ho61) hb); have HO996 := Aside0.mk (Kd.N_lower ho61 (below_size uB)); replace BK993 := ux BK993 hb; replace HB := uy hb; clear hb ho61; obtain ⟨Ao62, co62, eo62⟩ := Kd.N_slice HO996.out; subst eo62) | ((with_reducible refine ug 5 rfl ?_); refine uh (some 25) rfl Try.func5 #[.slice Ao62 y994.length co62] ?_; (with_reducible refine (windbreaklaw07_few.calls k _ _ y994 false _ (uC (Kd.N_reads' HO996.out).2.2) ((Kd.N_reads' HO996.out).2.1) A4.out).mono ?_); rintro e w' ⟨rfl, ⟨nd, rfl⟩⟩; refine ⟨_, rfl, ?_⟩))
 go_ret
 exact ⟨uF, uB⟩
end Go.Proofs.Ytnaphgnkhhapoab.F
end
section
namespace Go.Proofs.Ytnaphgnkhhapoab.F
open Go.RowKit Go.Proofs.YtnaphgnkhhapoabW.PrintWords Go.Proofs.YtnaphgnkhhapoabW.PrintLast Go.Proofs.YtnaphgnkhhapoabW.PrintMore
set_option linter.unusedVariables false
set_option linter.unusedSimpArgs false
def pairS (p : Int × Int) : S34 := ⟨p.1, p.2⟩
theorem pairS_C {w : World} {A : Option Addr} {n : Nat} {ps : List (Int × Int)} (h : (Kd.pair (Kd.int .i64) (Kd.int .i64)).C w A n ps) : k34.C w A n (ps.map pairS) := by
  obtain ⟨h1, h2, h3⟩ := h
  refine ⟨by simpa using h1, h2, fun hn => ?_⟩
  obtain ⟨ad, hA, hc⟩ := h3 hn
  refine ⟨ad, hA, fun j p hj => ?_⟩
  rw [List.getElem?_map, Option.map_eq_some_iff] at hj
  obtain ⟨q, hq, rfl⟩ := hj
  obtain ⟨c, e1, e2, e3⟩ := hc j q hq
  exact ⟨c, e1, e2, e3⟩
def windbreaklaw07_FixencAdds.Pure : Prop := ∀ (n : List Int) (a b c : Int) (ps : List (Int × Int)), n.length ≤ maxLen → (∀ x ∈ n, (Lit.int .u64 x).wf = true) → (Lit.int .i64 a).wf = true → (Lit.int .i64 b).wf = true → (Lit.int .i64 c).wf = true → ps.length ≤ maxLen → (∀ p ∈ ps, (Lit.int .i64 p.1).wf = true ∧ (Lit.int .i64 p.2).wf = true) → ∃ k, windbreaklaw07_FixencAdds.f k n a b c (ps.map pairS) = some true
theorem windbreaklaw07_FixencAdds.row (hp : windbreaklaw07_FixencAdds.Pure) (w : World) (A0 : Option Addr) (n0 c0 : Nat) (x0 : List Int) (h0 : (Kd.slice 42 (Kd.int .u64)).K w x0 [.slice A0 n0 c0]) (o0 : x0.length ≤ maxLen ∧ ∀ x ∈ x0, (Lit.int .u64 x).wf = true) (cs1 : Array Value) (x1 : Int × Int × Int) (h1 : (Kd.pair (Kd.int .i64) (Kd.pair (Kd.int .i64) (Kd.int .i64))).K w x1 cs1.toList) (o1 : (Lit.int .i64 x1.1).wf = true ∧ (Lit.int .i64 x1.2.1).wf = true ∧ (Lit.int .i64 x1.2.2).wf = true) (A2 : Option Addr) (n2 c2 : Nat) (x2 : List (Int × Int)) (h2 : (Kd.slice 34 (Kd.pair (Kd.int .i64) (Kd.int .i64))).K w x2 [.slice A2 n2 c2]) (o2 : x2.length ≤ maxLen ∧ ∀ x ∈ x2, (Lit.int .i64 x.1).wf = true ∧ (Lit.int .i64 x.2).wf = true) :
    Calls Try.prog 4 #[.slice A0 n0 c0, .agg cs1, .slice A2 n2 c2] w fun e w' => e = .returned (.bool true) ∧ Below w.heap.size w w' := by
  obtain ⟨B0, d0, e0, l0, r0⟩ := h0
  simp only [List.cons.injEq, Value.slice.injEq, and_true] at e0
  obtain ⟨rfl, rfl, rfl⟩ := e0
  obtain ⟨_, _, e1, rfl, _, _, rfl, rfl, rfl⟩ := h1
  obtain rfl : cs1 = #[.int .i64 x1.1, .int .i64 x1.2.1, .int .i64 x1.2.2] := by
    cases cs1
    simp only [List.cons_append, List.nil_append] at e1
    rw [e1]
  obtain ⟨B2, d2, e2, l2, r2⟩ := h2
  simp only [List.cons.injEq, Value.slice.injEq, and_true] at e2
  obtain ⟨rfl, rfl, rfl⟩ := e2
  obtain ⟨k, hk⟩ := hp x0 x1.1 x1.2.1 x1.2.2 x2 o0.1 o0.2 o1.1 o1.2.1 o1.2.2 o2.1 o2.2
  have hl : (x2.map pairS).length = x2.length := List.length_map ..
  have hc := windbreaklaw07_FixencAdds.calls k (fun k_ => k_ < w.heap.size) A0 c0 x0 x1.1 x1.2.1 x1.2.2 A2 c2 (x2.map pairS) true w (Kd.V_mk l0 (Kd.C_F (Kd.heap_int .u64) r0)) (by rw [hl]; exact pairS_C r2) (by rw [hl]; exact l2) hk
  rw [hl] at hc
  exact hc
end Go.Proofs.Ytnaphgnkhhapoab.F
end
section
namespace Go.Proofs.Ytnaphgnkhhapoab.F
open Go.RowKit Go.Deep Go.ChangeShapes Go.Proofs.YtnaphgnkhhapoabW.PrintWords
set_option linter.unusedSimpArgs false
set_option linter.unusedVariables false
def Opens {α : Type} (P : Program) (t : TypeId) (d : Kd α) (ok : α → Prop) : Prop :=
  ∀ {H : Type} (enc : TypeId × Value → H) (w : World) (held : Bool) (fuel : Nat) (cs : List Value) (x : DataW H × List MemPlace), DataW.trod enc P w 0 (fun _ => true) held fuel t cs = some x → ∃ a : α, d.K w a cs ∧ ok a
theorem Opens.int {P : Program} {t : TypeId} {k : IntKind} (ht : P.underlying t = some (.int k)) : Opens P t (Kd.int k) (fun n => (Lit.int k n).wf = true) := by
  intro H enc w held fuel cs x h
  obtain ⟨n, rfl, _, hw⟩ := DataW.trod_int ht h
  exact ⟨n, rfl, hw⟩
theorem choose_list {α : Type} {n : Nat} {p : Nat → α → Prop} (h : ∀ i, i < n → ∃ x, p i x) : ∃ l : List α, l.length = n ∧ ∀ i x, l[i]? = some x → p i x := by
  induction n with
  | zero => exact ⟨[], rfl, fun i x hx => by simp at hx⟩
  | succ n ih =>
    obtain ⟨l, hl, hp⟩ := ih (fun i hi => h i (by omega))
    obtain ⟨x, hx⟩ := h n (by omega)
    refine ⟨l ++ [x], by simp [hl], fun i y hy => ?_⟩
    rcases Nat.lt_or_ge i l.length with hi | hi
    · rw [List.getElem?_append_left hi] at hy
      exact hp i y hy
    · rw [List.getElem?_append_right hi] at hy
      have h0 : i - l.length = 0 := by
        rcases Nat.eq_zero_or_pos (i - l.length) with h0 | h0
        · exact h0
        · rw [List.getElem?_eq_none (by simp; omega)] at hy; cases hy
      rw [h0] at hy
      obtain rfl : x = y := by simpa using hy
      obtain rfl : i = n := by omega
      exact hx
theorem Opens.slice {α : Type} {P : Program} {t e : TypeId} {d : Kd α} {ok : α → Prop} (ht : P.underlying t = some (.slice e)) (hs : P.cellsOf e = d.sz) (hd : Opens P e d ok) : Opens P t (Kd.slice e d) (fun xs => xs.length ≤ maxLen ∧ ∀ x ∈ xs, ok x) := by
  intro H enc w held fuel cs x h
  rcases open_slice ht h with ⟨rfl, _⟩ | ⟨a, len, cap, m, n, D, Pl, rfl, _, hlc, hcm, hm, _, hel⟩
  · exact ⟨[], ⟨none, 0, rfl, Nat.le_refl _, Kd.C_nil d w⟩, Nat.zero_le _, fun x hx => by cases hx⟩
  · have hlm : len ≤ m := by simp at hm; omega
    have h1 : ∀ i, i < len → ∃ y : α, (∃ c, c.length = d.sz ∧ d.K w y c ∧ ∀ j u, c[j]? = some u → w.cell? (a.add (i * d.sz + j)) = some u) ∧ ok y := by
      intro i hi
      obtain ⟨cs', hc, htr⟩ := hel i (by omega)
      obtain ⟨y, hK, hok⟩ := hd enc w held n cs' _ htr
      obtain ⟨_, hl, hcell⟩ := World.cells?_some hc
      refine ⟨y, ⟨cs', by rw [hl, hs], hK, fun j u hu => ?_⟩, hok⟩
      have hj : j < P.cellsOf e := by have := (List.getElem?_eq_some_iff.1 hu).1; omega
      have := hcell j hj
      rw [Go.Deep.add_add, hs, hu] at this
      exact this
    obtain ⟨xs, hxl, hxp⟩ := choose_list h1
    have hml : len ≤ maxLen := Nat.le_trans hlc hcm
    refine ⟨xs, ⟨some a, cap, by rw [hxl], by omega, ⟨rfl, ?_, fun hp => ⟨a, rfl, fun j p hj => (hxp j p hj).1⟩⟩⟩, by omega, fun x hx => ?_⟩
    · unfold maxLen at hml; omega
    · obtain ⟨i, hi⟩ := List.getElem?_of_mem hx
      exact (hxp i x hi).2
theorem Opens.elem {α : Type} {H : Type} {enc : TypeId × Value → H} {P : Program} {w : World} {held : Bool} {fuel : Nat} {t e : TypeId} {cs : List Value} {x : DataW H × List MemPlace} {n : Nat} (ht : P.underlying t = some (.array n e)) (h : DataW.trod enc P w 0 (fun _ => true) held fuel t cs = some x) {d : Kd α} {ok : α → Prop} (i : Nat) (hi : i < n) (hd : Opens P e d ok) :
    ∃ a : α, d.K w a ((cs.drop (i * P.cellsOf e)).take (P.cellsOf e)) ∧ ok a := by
  obtain ⟨xs, m, _, _, _, hl, hx⟩ := DataW.trod_array ht h
  have h1 := hx i hi
  rw [List.getElem?_eq_getElem (by omega)] at h1
  exact hd enc w held m _ _ h1
theorem Opens.array_len {H : Type} {enc : TypeId × Value → H} {P : Program} {w : World} {held : Bool} {fuel : Nat} {t e : TypeId} {n : Nat} {cs : List Value} {x : DataW H × List MemPlace} (ht : P.underlying t = some (.array n e)) (h : DataW.trod enc P w 0 (fun _ => true) held fuel t cs = some x) : cs.length = P.cellsOf t := by
  obtain ⟨xs, m, _, _, hl, _⟩ := DataW.trod_array ht h
  exact hl
theorem Opens.array2 {α : Type} {P : Program} {t e : TypeId} {d : Kd α} {ok : α → Prop} (ht : P.underlying t = some (.array 2 e)) (h2 : P.cellsOf t = 2) (h1 : P.cellsOf e = 1) (hs : d.sz = 1) (hd : Opens P e d ok) : Opens P t (Kd.pair d d) (fun p => ok p.1 ∧ ok p.2) := by
  intro H enc w held fuel cs x h
  have hl := Opens.array_len ht h
  rw [h2] at hl
  obtain ⟨a, ha, oa⟩ := Opens.elem ht h 0 (by omega) hd
  obtain ⟨b, hb, ob⟩ := Opens.elem ht h 1 (by omega) hd
  rw [h1] at ha hb
  match cs, hl with
  | [c0, c1], _ => exact ⟨(a, b), ⟨[c0], [c1], rfl, ha, hb⟩, oa, ob⟩
theorem Opens.array3 {α : Type} {P : Program} {t e : TypeId} {d : Kd α} {ok : α → Prop} (ht : P.underlying t = some (.array 3 e)) (h2 : P.cellsOf t = 3) (h1 : P.cellsOf e = 1) (hs : d.sz = 1) (hd : Opens P e d ok) : Opens P t (Kd.pair d (Kd.pair d d)) (fun p => ok p.1 ∧ ok p.2.1 ∧ ok p.2.2) := by
  intro H enc w held fuel cs x h
  have hl := Opens.array_len ht h
  rw [h2] at hl
  obtain ⟨a, ha, oa⟩ := Opens.elem ht h 0 (by omega) hd
  obtain ⟨b, hb, ob⟩ := Opens.elem ht h 1 (by omega) hd
  obtain ⟨c, hc, oc⟩ := Opens.elem ht h 2 (by omega) hd
  rw [h1] at ha hb hc
  match cs, hl with
  | [c0, c1, c2], _ => exact ⟨(a, b, c), ⟨[c0], [c1, c2], rfl, ha, ⟨[c1], [c2], rfl, hb, hc⟩⟩, oa, ob, oc⟩
end Go.Proofs.Ytnaphgnkhhapoab.F
end
section
namespace Go.Proofs.Ytnaphgnkhhapoab.Z
open Go.RowKit Go.Proofs.YtnaphgnkhhapoabW.PrintWords
set_option linter.unusedSimpArgs false
set_option linter.unusedVariables false
theorem can_last {a : List Int} (ca : Can a) (h0 : a.length ≠ 0) : a.getD (a.length - 1) 0 ≠ 0 := by
  have h : a ≠ [] := fun e => h0 (by rw [e]; rfl)
  have h2 := ca h
  rw [List.getLast_eq_getElem] at h2
  rw [List.getD_eq_getElem?_getD, List.getElem?_eq_getElem (show a.length - 1 < a.length by omega)]
  exact h2
def mayV (n : List Int) : Bool := rightB n && decide (n.length ≤ 8) && decide (3 ≤ num n)
def halfV (n : List Int) : Nat := (num n - 1) / 2
def intR (a : Bool) (l : List Int) : Bool := rightB l && (!a || decide (0 < l.length))
def fromV (a : Bool) (l : List Int) : Bool × List Int := if rightB l = true ∧ l.length ≠ 0 then (a, l) else (false, [])
def encV (n : List Int) (a : Bool) (x : List Int) : List Int × Int :=
  if mayV n = true ∧ intR a x = true then (if num x ≤ halfV n then (if a = true then (limbs (num n - num x), 0) else (x, 0)) else ([], 12)) else ([], 1)
def decV (n v : List Int) : Bool × List Int × Int :=
  if mayV n = true then (if rightB v = true ∧ num v < num n then (if num v ≤ halfV n then ((fromV false v).1, (fromV false v).2, 0) else ((fromV true (limbs (num n - num v))).1, (fromV true (limbs (num n - num v))).2, 0)) else (false, [], 10)) else (false, [], 1)
theorem dig_one {x : Int} (h0 : 0 ≤ x) (h1 : x < 18446744073709551616) : Dig (b64 : Int) [x] := Dig.cons.2 ⟨⟨h0, h1⟩, Dig.nil⟩
theorem right_one {x : Int} (h : x ≠ 0) : rightB [x] = true := (rightB_iff _).2 ⟨by simp, Can.one h⟩
theorem right_limbs' {v : Nat} (h : v < b64 ^ 64) : rightB (limbs v) = true := (rightB_iff _).2 ⟨(limbs_long v).2 h, toD_can b64_two v⟩
theorem dig_limbs' (v : Nat) : Dig (b64 : Int) (limbs v) := toD_dig b64_two v
theorem mayV_iff (n : List Int) : mayV n = true ↔ rightB n = true ∧ n.length ≤ 8 ∧ 3 ≤ num n := by
  unfold mayV
  simp [and_assoc]
theorem may_lt {n : List Int} (dn : Dig (b64 : Int) n) (h : mayV n = true) : num n < b64 ^ 64 := by
  obtain ⟨h1, h2, _⟩ := (mayV_iff n).1 h
  exact num_lt_p dn (by omega)
theorem limbs_le64 {v : Nat} (h : v < b64 ^ 64) : (limbs v).length ≤ 64 := (limbs_long v).2 h
theorem cmpN_ge (x y : Nat) : decide (cmpN x y ≥ 0) = decide (y ≤ x) := by
  unfold cmpN
  by_cases h : x < y
  · rw [if_pos h]; simp; omega
  · rw [if_neg h]; split <;> simp <;> omega
theorem cmpN_le (x y : Nat) : decide (cmpN x y ≤ 0) = decide (x ≤ y) := by
  unfold cmpN
  by_cases h : x < y
  · rw [if_pos h]; simp; omega
  · rw [if_neg h]
    by_cases h2 : x = y
    · rw [if_pos h2]; simp; omega
    · rw [if_neg h2]; simp; omega
def ofI (x : Int) : Bool × List Int := (decide (x < 0), limbs x.natAbs)
def sI (a : Bool) (m : Nat) : Int := if a = true then -(m : Int) else (m : Int)
theorem sI_of (x : Int) : sI (decide (x < 0)) x.natAbs = x := by
  unfold sI
  by_cases h : x < 0
  · rw [if_pos (by simpa using h)]; omega
  · rw [if_neg (by simpa using h)]; omega
theorem sI_abs (a : Bool) (m : Nat) : (sI a m).natAbs = m := by
  unfold sI
  cases a <;> simp
theorem limbs_zero : limbs 0 = [] := toD_zero b64
theorem limbs_nil_iff (m : Nat) : (limbs m).length = 0 ↔ m = 0 := by
  constructor
  · intro h
    have h1 := num_limbs m
    rw [List.eq_nil_of_length_eq_zero h] at h1
    rw [← h1]; rfl
  · rintro rfl
    rw [limbs_zero]; rfl
theorem fromV_s {a : Bool} {m : Nat} (h : m < b64 ^ 64) : fromV a (limbs m) = ofI (sI a m) := by
  unfold fromV
  by_cases h0 : m = 0
  · subst h0
    rw [if_neg (fun h' => h'.2 ((limbs_nil_iff 0).2 rfl))]
    unfold ofI sI
    cases a <;> simp [limbs_zero]
  · rw [if_pos ⟨right_limbs' h, fun e => h0 ((limbs_nil_iff m).1 e)⟩]
    unfold ofI
    rw [sI_abs]
    unfold sI
    cases a
    · simp
    · simp; omega
theorem intR_of {x : Int} (h : x.natAbs < b64 ^ 64) : intR (ofI x).1 (ofI x).2 = true := by
  unfold intR ofI
  simp only [right_limbs' h, Bool.true_and, Bool.or_eq_true, Bool.not_eq_true', decide_eq_false_iff_not, decide_eq_true_eq]
  by_cases h0 : x < 0
  · right
    have h1 : (limbs x.natAbs).length ≠ 0 := fun e => by
      have := (limbs_nil_iff _).1 e
      omega
    omega
  · exact Or.inl h0
theorem intR_s {a : Bool} {m : Nat} (h : m < b64 ^ 64) (ha : a = true → m ≠ 0) : intR a (limbs m) = true := by
  unfold intR
  cases a with
  | false => simp [right_limbs' h]
  | true =>
    have h1 : (limbs m).length ≠ 0 := fun e => ha rfl ((limbs_nil_iff m).1 e)
    simp only [right_limbs' h, Bool.true_and, Bool.not_true, Bool.false_or, decide_eq_true_eq]
    omega
theorem neg_abs {x : Int} : decide (x < 0) = true → x.natAbs ≠ 0 := by
  intro h
  have := of_decide_eq_true h
  omega
def SmI (x : Int) : Prop := x.natAbs < b64 ^ 30
theorem SmI.lt {x : Int} (h : SmI x) : x.natAbs < b64 ^ 64 := Nat.lt_of_lt_of_le h (Nat.pow_le_pow_right (by decide) (by decide))
theorem SmI.sum {m n : Nat} (h : m < b64 ^ 30) (k : n < b64 ^ 30) : m + n < b64 ^ 64 := by
  have h1 : b64 ^ 31 ≤ b64 ^ 64 := Nat.pow_le_pow_right (by decide) (by decide)
  have h2 : b64 ^ 30 * 2 ≤ b64 ^ 31 := Nat.mul_le_mul_left _ b64_two
  generalize b64 ^ 30 = X at *
  generalize b64 ^ 31 = Y at *
  omega
theorem SmI.prod {m n : Nat} (h : m < b64 ^ 30) (k : n < b64 ^ 30) : m * n < b64 ^ 64 := by
  have h1 : b64 ^ 60 ≤ b64 ^ 64 := Nat.pow_le_pow_right (by decide) (by decide)
  have h2 := Nat.mul_lt_mul'' h k
  rw [← Nat.pow_add] at h2
  exact Nat.lt_of_lt_of_le h2 h1
def Sz (j : Nat) (x : Int) : Prop := x.natAbs < b64 ^ j
theorem Sz.smI {j : Nat} {x : Int} (h : Sz j x) (hj : j ≤ 30) : SmI x := Nat.lt_of_lt_of_le h (Nat.pow_le_pow_right (by decide) hj)
theorem Sz.mono {j i : Nat} {x : Int} (h : Sz j x) (hj : j ≤ i) : Sz i x := Nat.lt_of_lt_of_le h (Nat.pow_le_pow_right (by decide) hj)
theorem Sz.i64 {x : Int} (h0 : -9223372036854775808 ≤ x) (h1 : x < 9223372036854775808) : Sz 1 x := by
  have hb : b64 = 18446744073709551616 := rfl
  unfold Sz
  rw [Nat.pow_one]
  omega
theorem Sz.mul {i j : Nat} {x y : Int} (h : Sz i x) (k : Sz j y) : Sz (i + j) (x * y) := by
  unfold Sz at h k ⊢
  rw [Int.natAbs_mul, Nat.pow_add]
  exact Nat.mul_lt_mul'' h k
theorem Sz.add {j : Nat} {x y : Int} (h : Sz j x) (k : Sz j y) : Sz (j + 1) (x + y) := by
  unfold Sz at h k ⊢
  have h1 := Int.natAbs_add_le x y
  have h2 : b64 ^ j * 2 ≤ b64 ^ (j + 1) := Nat.mul_le_mul_left _ b64_two
  generalize b64 ^ (j + 1) = Y at *
  generalize b64 ^ j = X at *
  omega
theorem Sz.neg {j : Nat} {x : Int} (h : Sz j x) : Sz j (-x) := by
  unfold Sz at h ⊢
  rwa [Int.natAbs_neg]
theorem Sz.sub {j : Nat} {x y : Int} (h : Sz j x) (k : Sz j y) : Sz (j + 1) (x - y) := by
  rw [Int.sub_eq_add_neg]
  exact h.add k.neg
theorem Sz.pow {s : Nat} (hs : s ≤ 64) : Sz 2 (2 ^ s) := by
  unfold Sz
  have h2 : 2 ^ s ≤ b64 ^ 1 := pow2_le_b64 (by omega)
  have h3 : 2 ^ s < b64 ^ 2 := Nat.lt_of_le_of_lt h2 ((Nat.pow_lt_pow_iff_right (by decide)).2 (by decide))
  rwa [Int.natAbs_pow]
theorem limbs_max {m : Nat} (h : m < b64 ^ 64) : (limbs m).length ≤ maxLen := by
  have := limbs_le64 h
  simp only [maxLen]
  omega
theorem sI_add (a : Bool) (m n : Nat) : sI a (m + n) = sI a m + sI a n := by
  unfold sI
  cases a <;> simp <;> omega
theorem sI_sub {a b : Bool} {m n : Nat} (h : a ≠ b) (hm : n ≤ m) : sI a (m - n) = sI a m + sI b n := by
  unfold sI
  cases a <;> cases b <;> simp at h ⊢ <;> omega
theorem sI_mul (a b : Bool) (m n : Nat) : sI (a != b) (m * n) = sI a m * sI b n := by
  unfold sI
  cases a <;> cases b <;> simp [Int.natCast_mul, Int.neg_mul, Int.mul_neg]
theorem sI_pow (a : Bool) (m s : Nat) : sI a (m * 2 ^ s) = sI a m * 2 ^ s := by
  unfold sI
  cases a <;> simp [Int.natCast_mul, Int.neg_mul]
theorem floor_neg {m n : Nat} (hn : 0 < n) : (-(m : Int)) / (n : Int) = (if m % n = 0 then -((m / n : Nat) : Int) else -((m / n + 1 : Nat) : Int)) ∧ (-(m : Int)) % (n : Int) = (if m % n = 0 then 0 else ((n - m % n : Nat) : Int)) := by
  have h1 := Nat.div_add_mod m n
  have h2 := Nat.mod_lt m hn
  have h3 : (n : Int) * ((m / n : Nat) : Int) + ((m % n : Nat) : Int) = (m : Int) := by rw [← Int.natCast_mul, ← Int.natCast_add, h1]
  apply (Int.ediv_emod_unique (by omega)).2
  by_cases h : m % n = 0
  · rw [if_pos h, if_pos h]
    rw [h] at h3
    refine ⟨?_, by omega, by omega⟩
    rw [Int.mul_neg]
    omega
  · rw [if_neg h, if_neg h]
    refine ⟨?_, by omega, by omega⟩
    rw [Int.mul_neg, Int.natCast_add, Int.mul_add]
    have : ((n - m % n : Nat) : Int) = (n : Int) - ((m % n : Nat) : Int) := by omega
    rw [this]
    simp only [Int.natCast_one, Int.mul_one]
    omega
def packV (n : List Int) (s g h : Int) : List Int × Int :=
  if mayV n = true ∧ 1 ≤ s ∧ s ≤ 62 then (if h < 0 ∨ 2 ^ s.toNat ≤ h then ([], 12) else encV n (ofI (g * 2 ^ s.toNat + h)).1 (ofI (g * 2 ^ s.toNat + h)).2) else ([], 1)
theorem div_lt_lim {m n : Nat} (hm : m < b64 ^ 30) : m / n + 1 < b64 ^ 64 := by
  have h1 : m / n ≤ m := Nat.div_le_self _ _
  have h2 : b64 ^ 30 + 1 ≤ b64 ^ 64 := (Nat.pow_lt_pow_iff_right (by decide)).2 (by decide)
  generalize b64 ^ 64 = Y at *
  generalize b64 ^ 30 = X at *
  omega
def smI (x : Int) : Int × Bool := if -9223372036854775808 ≤ x ∧ x < 9223372036854775808 then (x, true) else (0, false)
theorem small_limbs {m : Nat} (hm : m < b64 ^ 64) : smallV (limbs m) = if m < b64 then ((m : Int), true) else (0, false) := by
  unfold smallV
  by_cases h : m < b64
  · have h1 : (limbs m).length ≤ 1 := toD_len_le b64_two (by rw [Nat.pow_one]; exact h)
    rw [if_pos ⟨right_limbs' hm, h1⟩, if_pos h]
    by_cases h0 : m = 0
    · subst h0
      rw [limbs_zero]; rfl
    · have e : limbs m = [(m : Int)] := by
        unfold limbs
        rw [toD_pos b64_two (by omega), Nat.mod_eq_of_lt h, Nat.div_eq_of_lt h, toD_zero]
      rw [e]; rfl
  · rw [if_neg h, if_neg (fun e => h (by have := (toD_len_iff b64_two m 1).1 e.2; rwa [Nat.pow_one] at this))]
def decI (n v : List Int) : Int := if num v ≤ halfV n then (num v : Int) else -((num n - num v : Nat) : Int)
def unpackV (n : List Int) (s : Int) (v : List Int) : Int × Int × Int :=
  if mayV n = true ∧ 1 ≤ s ∧ s ≤ 62 then (if rightB v = true ∧ num v < num n then (if -9223372036854775808 ≤ decI n v / 2 ^ s.toNat ∧ decI n v / 2 ^ s.toNat < 9223372036854775808 then (decI n v / 2 ^ s.toNat, decI n v % 2 ^ s.toNat, 0) else (0, 0, 12)) else (0, 0, 10)) else (0, 0, 1)
theorem mod_pow_i64 (x : Int) {q : Nat} (hq : q ≤ 62) : 0 ≤ x % 2 ^ q ∧ x % 2 ^ q < 9223372036854775808 := by
  have hp : (0 : Int) < 2 ^ q := Int.pow_pos (by omega)
  have h1 := Int.emod_nonneg x (show (2 : Int) ^ q ≠ 0 by omega)
  have h2 := Int.emod_lt_of_pos x hp
  have h3 : (2 : Int) ^ q ≤ 2 ^ 62 := pow_mono (by omega) hq
  omega
theorem decV_eq {n v : List Int} (dn : Dig (b64 : Int) n) (dv : Dig (b64 : Int) v) (hm : mayV n = true) : decV n v = if rightB v = true ∧ num v < num n then ((ofI (decI n v)).1, (ofI (decI n v)).2, 0) else (false, [], 10) := by
  unfold decV decI
  rw [if_pos hm]
  by_cases h : rightB v = true ∧ num v < num n
  · rw [if_pos h, if_pos h]
    have hlt := may_lt dn hm
    have e : v = limbs (num v) := (limbs_num dv ((rightB_iff v).1 h.1).2).symm
    by_cases hh : num v ≤ halfV n
    · rw [if_pos hh, if_pos hh]
      have h1 : fromV false v = ofI (num v : Int) := by
        conv => lhs; rw [e]
        rw [fromV_s (Nat.lt_trans h.2 hlt)]
        rfl
      rw [h1]
    · rw [if_neg hh, if_neg hh]
      have h1 : fromV true (limbs (num n - num v)) = ofI (-((num n - num v : Nat) : Int)) := by
        rw [fromV_s (Nat.lt_of_le_of_lt (Nat.sub_le _ _) hlt)]
        rfl
      rw [h1]
  · rw [if_neg h, if_neg h]
theorem may_lt8 {n : List Int} (dn : Dig (b64 : Int) n) (h : mayV n = true) : num n < b64 ^ 8 := by
  obtain ⟨h1, h2, _⟩ := (mayV_iff n).1 h
  exact Nat.lt_of_lt_of_le (num_lt dn) (Nat.pow_le_pow_right (show b64 > 0 by decide) h2)
theorem decI_sz {n v : List Int} (dn : Dig (b64 : Int) n) (hm : mayV n = true) (hv : num v < num n) : Sz 8 (decI n v) := by
  have := may_lt8 dn hm
  unfold Sz decI
  split <;> omega
theorem smI_of (x : Int) : smI x = if -9223372036854775808 ≤ x ∧ x < 9223372036854775808 then (x, true) else (0, false) := rfl
theorem Sz.ediv {j : Nat} {x y : Int} (h : Sz j x) (hy : 0 < y) : Sz (j + 1) (x / y) := by
  unfold Sz at h ⊢
  have h1 := Int.natAbs_ediv_le_natAbs x y
  have h2 : b64 ^ j ≤ b64 ^ (j + 1) := Nat.pow_le_pow_right (by decide) (by omega)
  omega
theorem encV_int {n : List Int} {x : Int} (dn : Dig (b64 : Int) n) (hm : mayV n = true) (hx : x.natAbs < b64 ^ 64) : encV n (ofI x).1 (ofI x).2 = if x.natAbs ≤ halfV n then (limbs (if x < 0 then num n - x.natAbs else x.natAbs), 0) else ([], 12) := by
  unfold encV
  rw [if_pos ⟨hm, intR_of hx⟩]
  have e : num (ofI x).2 = x.natAbs := num_limbs _
  rw [e]
  by_cases h : x.natAbs ≤ halfV n
  · rw [if_pos h, if_pos h]
    by_cases hn : x < 0
    · rw [if_pos hn, if_pos (show (ofI x).1 = true from decide_eq_true hn)]
    · rw [if_neg hn, if_neg (show ¬ (ofI x).1 = true from by simpa [ofI] using hn)]
      rfl
  · rw [if_neg h, if_neg h]
theorem enc_back {n : List Int} {x : Int} (dn : Dig (b64 : Int) n) (hm : mayV n = true) (hx : x.natAbs ≤ halfV n) (v : List Int) (hv : v = limbs (if x < 0 then num n - x.natAbs else x.natAbs)) : rightB v = true ∧ num v < num n ∧ decI n v = x := by
  have hlt := may_lt dn hm
  obtain ⟨_, _, h3⟩ := (mayV_iff n).1 hm
  have hh : halfV n = (num n - 1) / 2 := rfl
  subst hv
  by_cases hn : x < 0
  · rw [if_pos hn]
    refine ⟨right_limbs' (Nat.lt_of_le_of_lt (Nat.sub_le _ _) hlt), by rw [num_limbs]; omega, ?_⟩
    unfold decI
    rw [num_limbs, if_neg (by omega)]
    omega
  · rw [if_neg hn]
    refine ⟨right_limbs' (by omega), by rw [num_limbs]; omega, ?_⟩
    unfold decI
    rw [num_limbs, if_pos hx]
    omega
theorem split_div {g h : Int} {q : Nat} (h0 : 0 ≤ h) (h1 : h < 2 ^ q) : (g * 2 ^ q + h) / 2 ^ q = g ∧ (g * 2 ^ q + h) % 2 ^ q = h := by
  have hp : (0 : Int) < 2 ^ q := Int.pow_pos (by omega)
  apply (Int.ediv_emod_unique hp).2
  refine ⟨?_, h0, h1⟩
  rw [Int.mul_comm g]
  omega
def roomV (n : List Int) (r m w : Int) : Int × Int :=
  if mayV n = true ∧ 1 ≤ r ∧ 1 ≤ m ∧ 1 ≤ w then (if bl (r * w).toNat ≤ 62 then (if ((r * m + 1) * 2 ^ bl (r * w).toNat - 1).natAbs ≤ halfV n then ((bl (r * w).toNat : Int), 0) else (0, 12)) else (0, 12)) else (0, 1)
def divV (a b : List Int) : List Int × List Int × Int :=
  if rightB a = true ∧ rightB b = true then (if num b = 0 then ([], [], 3) else (limbs (num a / num b), limbs (num a % num b), 0)) else ([], [], 1)
theorem num_zero_iff {b : List Int} (db : Dig (b64 : Int) b) (cb : Can b) : num b = 0 ↔ b.length = 0 := by
  constructor
  · intro h
    have := limbs_num db cb
    rw [h] at this
    rw [← this, show limbs 0 = [] from toD_zero b64]
    rfl
  · intro h
    rw [List.eq_nil_of_length_eq_zero h]
    rfl
theorem num_len_le {a b : List Int} (da : Dig (b64 : Int) a) (ca : Can a) (db : Dig (b64 : Int) b) (h : num a ≤ num b) : a.length ≤ b.length := by
  have h1 := limbs_num da ca
  rw [← h1]
  exact toD_len_le b64_two (Nat.lt_of_le_of_lt h (num_lt db))
end Go.Proofs.Ytnaphgnkhhapoab.Z
end
section
namespace Go.Proofs.Ytnaphgnkhhapoab.Z
open Go.RowKit Go.Proofs.YtnaphgnkhhapoabW.PrintWords Go.Proofs.YtnaphgnkhhapoabW.PrintMore
set_option linter.unusedSimpArgs false
set_option linter.unusedVariables false
def downL (s : Nat) : List Int → List Int
  | [] => []
  | x :: l => (x / 2 ^ s + (if s = 0 then 0 else (l.getD 0 0 * 2 ^ (64 - s)) % 18446744073709551616)) :: downL s l
theorem downL_facts (s : Nat) (hs : s < 64) (l : List Int) (d : Dig (b64 : Int) l) : Dig (b64 : Int) (downL s l) ∧ (downL s l).length = l.length ∧ val (b64 : Int) (downL s l) * 2 ^ s + l.getD 0 0 % 2 ^ s = val (b64 : Int) l := by
  have hB : (b64 : Int) = 18446744073709551616 := rfl
  have hps := pow2_pos s
  induction l with
  | nil => exact ⟨Dig.nil, rfl, by simp [downL, val]⟩
  | cons x l ih =>
    have d1 := Dig.cons.1 d
    obtain ⟨i1, i2, i3⟩ := ih d1.2
    have rx := d1.1
    have ry := d1.2.getD b64_pos 0
    rw [hB] at rx ry
    by_cases h0 : s = 0
    · subst h0
      simp only [downL, Int.pow_zero, Int.ediv_one, if_true, Int.add_zero] at i3 ⊢
      refine ⟨Dig.cons.2 ⟨by rw [hB]; exact rx, i1⟩, by simp [i2], ?_⟩
      simp only [val, List.getD_cons_zero, Int.emod_one, Int.add_zero, Int.mul_one] at i3 ⊢
      rw [i3]
    · have hp64 := pow64_split (s := s) (by omega)
      have hq := pow2_pos (64 - s)
      obtain ⟨f1, f2, f3, f4⟩ := shl_facts ry (s := 64 - s) (by omega)
      rw [show 64 - (64 - s) = s from by omega] at f1 f3 f4
      simp only [downL, if_neg h0]
      have e1 := Int.emod_add_mul_ediv x (2 ^ s)
      have e2 := Int.emod_nonneg x (show (2 : Int) ^ s ≠ 0 by omega)
      have e3 := Int.emod_lt_of_pos x hps
      have e4 := Int.emod_add_mul_ediv (l.getD 0 0) (2 ^ s)
      generalize hz : (l.getD 0 0 * 2 ^ (64 - s)) % 18446744073709551616 = z at *
      generalize hxd : x / 2 ^ s = xd at *
      generalize hyd : l.getD 0 0 / 2 ^ s = yd at *
      generalize l.getD 0 0 = y at *
      have hxd1 : xd < 2 ^ (64 - s) := by
        rw [← hxd]
        apply Int.ediv_lt_of_lt_mul hps
        rw [Int.mul_comm, hp64]
        exact rx.2
      have hxd0 : 0 ≤ xd := by rw [← hxd]; exact Int.ediv_nonneg rx.1 (by omega)
      obtain ⟨t, ht⟩ := Int.dvd_of_emod_eq_zero f2
      have hz0 : 0 ≤ z := by omega
      have hz1 : z < 18446744073709551616 := by omega
      refine ⟨Dig.cons.2 ⟨?_, i1⟩, by simp [i2], ?_⟩
      · rw [hB]
        refine ⟨by omega, ?_⟩
        have ht2 : t < 2 ^ s := by
          refine Int.not_le.1 (fun hle => ?_)
          have := Int.mul_le_mul_of_nonneg_left hle (Int.le_of_lt hq)
          rw [Int.mul_comm ((2 : Int) ^ (64 - s)) (2 ^ s), hp64] at this
          omega
        have h5 : 2 ^ (64 - s) * (t + 1) ≤ (2 : Int) ^ (64 - s) * 2 ^ s := Int.mul_le_mul_of_nonneg_left (by omega) (by omega)
        rw [Int.mul_comm ((2 : Int) ^ (64 - s)) (2 ^ s), hp64, Int.mul_add] at h5
        omega
      · simp only [val, List.getD_cons_zero]
        rw [hB] at i3 ⊢
        generalize val 18446744073709551616 (downL s l) = vd at *
        generalize val 18446744073709551616 l = vl at *
        generalize x % 2 ^ s = xm at *
        generalize y % 2 ^ s = ym at *
        have hP : (2 : Int) ^ (64 - s) * 2 ^ s = 18446744073709551616 := by rw [Int.mul_comm]; exact hp64
        generalize (2 : Int) ^ s = P at *
        generalize (2 : Int) ^ (64 - s) = Q at *
        have e5 : (xd + z + 18446744073709551616 * vd) * P + xm = P * xd + xm + (z * P + 18446744073709551616 * (vd * P)) := by grind
        rw [e5]
        have e6 : z = y * Q - 18446744073709551616 * yd := by omega
        have e7 : z * P = 18446744073709551616 * ym := by
          rw [e6, ← e4, ← hP]
          grind
        rw [e7]
        omega
theorem num_drop {a : List Int} (da : Dig (b64 : Int) a) (m : Nat) (hm : m ≤ a.length) : num (a.drop m) = num a / b64 ^ m := by
  have h1 := num_val da
  have h2 := num_val (da.drop m)
  have h3 := num_val (da.take m)
  have h4 := num_lt (da.take m)
  have h5 := val_append (b64 : Int) (a.take m) (a.drop m)
  rw [List.take_append_drop, ← h1, ← h2, ← h3, List.length_take, show min m a.length = m from by omega, pow_cast] at h5
  rw [List.length_take, show min m a.length = m from by omega] at h4
  have h6 : num a = num (a.take m) + b64 ^ m * num (a.drop m) := by
    have : ((num (a.take m) + b64 ^ m * num (a.drop m) : Nat) : Int) = (num (a.take m) : Int) + ((b64 ^ m : Nat) : Int) * (num (a.drop m) : Int) := by simp
    omega
  rw [h6, Nat.add_mul_div_left _ _ (Nat.pow_pos (by decide)), Nat.div_eq_of_lt h4, Nat.zero_add]
theorem num_down {a : List Int} (da : Dig (b64 : Int) a) (s : Nat) (hs : s < 64) : num (downL s a) = num a / 2 ^ s := by
  obtain ⟨d, _, e⟩ := downL_facts s hs a da
  have h1 := num_val d
  have h2 := num_val da
  have hp := pow2_pos s
  have hr0 := Int.emod_nonneg (a.getD 0 0) (show (2 : Int) ^ s ≠ 0 by omega)
  have hr1 := Int.emod_lt_of_pos (a.getD 0 0) hp
  rw [← h1, ← h2] at e
  generalize a.getD 0 0 % 2 ^ s = r at *
  obtain ⟨r', rfl⟩ := Int.eq_ofNat_of_zero_le hr0
  have hP : (2 : Int) ^ s = ((2 ^ s : Nat) : Int) := by simp
  rw [hP] at e hr1
  have e2 : num a = r' + 2 ^ s * num (downL s a) := by
    have : ((r' + 2 ^ s * num (downL s a) : Nat) : Int) = (r' : Int) + ((2 ^ s : Nat) : Int) * (num (downL s a) : Int) := by simp
    rw [Int.mul_comm] at e
    omega
  rw [e2, Nat.add_mul_div_left _ _ (Nat.pow_pos (by decide)), Nat.div_eq_of_lt (by omega), Nat.zero_add]
end Go.Proofs.Ytnaphgnkhhapoab.Z
end
section
namespace Go.Proofs.Ytnaphgnkhhapoab.Z
open Go.RowKit Go.Proofs.Ytnaphgnkhhapoab.F Go.Proofs.YtnaphgnkhhapoabW.PrintWords Go.Proofs.YtnaphgnkhhapoabW.PrintMore
set_option linter.unusedSimpArgs false
set_option linter.unusedVariables false
def shrV (a : List Int) (n : Int) : List Int × Int :=
  if rightB a = true ∧ 0 ≤ n then (limbs (num a / 2 ^ n.toNat), 0) else ([], 1)
theorem nat_Shr_loop (a : List Int) (da : Dig (b64 : Int) a) (ha : a.length ≤ 100000) (s : Nat) (hs : s < 64) {r : List Int × Int} (fin : Evt (fun k => nat_told.f k (downL s a)) r) (n : Nat) :
    ∀ (i : Nat) (p : List Int), a.length - i = n → i ≤ a.length → p.length = i → p ++ downL s (a.drop i) = downL s a →
      Evt (fun k => nat_Shr.l0 k a (s : Int) (p ++ List.replicate n 0) (a.length : Int) (i : Int)) (r.1, r.2) := by
  induction n with
  | zero =>
    intro i p hn hi hp he
    refine Evt.succ ?_
    simp only [nat_Shr.l0]
    refine Evt.ite_neg (by omega) ?_
    rw [List.drop_of_length_le (by omega)] at he
    simp only [downL, List.append_nil] at he
    rw [List.replicate_zero, List.append_nil, he]
    exact Evt.bind fin (h := fun t _ => some (t.1, t.2)) (Evt.pure _)
  | succ n ih =>
    intro i p hn hi hp he
    have hlt : i < a.length := by omega
    have rx := da a[i] (List.getElem_mem hlt)
    have ry := (da.drop (i + 1)).getD b64_pos 0
    have hB : (b64 : Int) = 18446744073709551616 := rfl
    rw [hB] at rx ry
    rw [List.drop_eq_getElem_cons hlt] at he
    simp only [downL] at he
    have hx : rd a (i : Int) = a[i] := by simp [rd_nat, hlt]
    refine Evt.succ ?_
    simp only [nat_Shr.l0]
    refine Evt.ite_pos (by omega) (Evt.ite_pos (by omega) (Evt.ite_pos (by omega) (Evt.ite_pos (by omega) (Evt.ite_pos (by simp; omega) ?_))))
    refine Evt.bind (Evt.pure _) ?_
    rw [hx, shr_u64 _ s (by omega), show ((i : Int)).toNat = p.length from by omega, List.replicate_succ, set_at, w64 (show -9223372036854775808 ≤ (i : Int) + 1 by omega) (by omega)]
    have hps := pow2_pos s
    have hxd0 : 0 ≤ a[i] / 2 ^ s := Int.ediv_nonneg rx.1 (by omega)
    by_cases h0 : s = 0
    · refine Evt.ite_neg (by omega) ?_
      rw [if_pos h0, Int.add_zero] at he
      refine (ih (i + 1) (p ++ [a[i] / 2 ^ s]) (by omega) (by omega) (by simp; omega) (by rw [List.append_assoc]; exact he)).congr (fun k => ?_) rfl
      rw [List.append_assoc]; rfl
    · refine Evt.ite_pos (by omega) ?_
      rw [if_neg h0] at he
      by_cases h1 : i + 1 < a.length
      · refine Evt.ite_pos (by omega) (Evt.ite_pos (by omega) (Evt.ite_pos (by rw [wu64_of (by omega) (by omega)]; omega) ?_))
        have hy : rd a ((i : Int) + 1) = a[i + 1] := by
          rw [show (i : Int) + 1 = ((i + 1 : Nat) : Int) from by omega, rd_nat]
          simp [List.getD_eq_getElem?_getD, h1]
        have hy2 : (a.drop (i + 1)).getD 0 0 = a[i + 1] := by simp [List.getD_eq_getElem?_getD, h1]
        have hg : rd (p ++ a[i] / 2 ^ s :: List.replicate n 0) (i : Int) = a[i] / 2 ^ s := by
          rw [rd_nat]
          simp [List.getD_eq_getElem?_getD, ← hp]
        rw [hy2] at he ry
        obtain ⟨f1, f2, f3, f4⟩ := shl_facts ry (s := 64 - s) (by omega)
        have hxd1 : a[i] / 2 ^ s < 2 ^ (64 - s) := by
          apply Int.ediv_lt_of_lt_mul hps
          rw [Int.mul_comm, pow64_split (by omega)]
          exact rx.2
        have hz0 : 0 ≤ (a[i + 1] * 2 ^ (64 - s)) % 18446744073709551616 := by omega
        have hz1 : (a[i + 1] * 2 ^ (64 - s)) % 18446744073709551616 < 18446744073709551616 := by omega
        have hq64 : (2 : Int) ^ (64 - s) ≤ 2 ^ 64 := pow_mono (by omega) (by omega)
        rw [hy, hg, wu64_of (show (0 : Int) ≤ 64 - (s : Int) by omega) (by omega), show (64 : Int) - (s : Int) = ((64 - s : Nat) : Int) from by omega, shl_u64 _ (64 - s) (by omega), set_at, or_comm_u64 hxd0 (by omega) hz0 hz1, or_u64 (64 - s) (by omega) hz0 f2 hz1 hxd0 hxd1]
        refine (ih (i + 1) (p ++ [(a[i + 1] * 2 ^ (64 - s)) % 18446744073709551616 + a[i] / 2 ^ s]) (by omega) (by omega) (by simp; omega) (by rw [List.append_assoc, Int.add_comm ((a[i + 1] * 2 ^ (64 - s)) % 18446744073709551616)]; exact he)).congr (fun k => ?_) rfl
        rw [List.append_assoc]; rfl
      · refine Evt.ite_neg (by omega) ?_
        have hy2 : (a.drop (i + 1)).getD 0 0 = 0 := by rw [List.drop_of_length_le (by omega)]; rfl
        rw [hy2, Int.zero_mul, Int.zero_emod, Int.add_zero] at he
        refine (ih (i + 1) (p ++ [a[i] / 2 ^ s]) (by omega) (by omega) (by simp; omega) (by rw [List.append_assoc]; exact he)).congr (fun k => ?_) rfl
        rw [List.append_assoc]; rfl
theorem nat_Shr_ev (a : List Int) (n : Int) (ha : a.length ≤ maxLen) (da : Dig (b64 : Int) a) (hn9 : n < 9223372036854775808) : Evt (fun k => nat_Shr.f k a n) (shrV a n) := by
  unfold nat_Shr.f shrV
  rw [nat_Right_eq ha]
  simp only [Option.bind_some]
  have J : ∀ x : Bool, (x = false → rightB a = true ∧ 0 ≤ n) → Evt (fun k => nat_Shr.j0 k a n x) (if x = true then ([], 1) else (limbs (num a / 2 ^ n.toNat), 0)) := by
    intro x hx
    refine Evt.succ ?_
    simp only [nat_Shr.j0]
    refine Evt.cond (fun _ => Evt.pure _) (fun hc => ?_)
    have h := hx (by simpa using hc)
    obtain ⟨h1, c1⟩ := (rightB_iff a).1 h.1
    obtain ⟨m, rfl⟩ := Int.eq_ofNat_of_zero_le h.2
    rw [show ((m : Int)).toNat = m from Int.toNat_natCast m]
    have e1 : Int.tdiv (m : Int) 64 = ((m / 64 : Nat) : Int) := by rw [Int.tdiv_eq_ediv_of_nonneg (by omega)]; omega
    rw [e1, w64 (show -9223372036854775808 ≤ ((m / 64 : Nat) : Int) by omega) (by omega)]
    have hp := num_lt_p da h1
    by_cases hlen : a.length ≤ m / 64
    · have e : num a / 2 ^ m = 0 := by
        apply Nat.div_eq_of_lt
        exact Nat.lt_of_lt_of_le (num_lt da) (b64_le_pow2 (by omega))
      rw [e, show limbs 0 = [] from toD_zero b64]
      exact Evt.ite_pos (by omega) (Evt.pure _)
    · have e2 : IntKind.u64.wrap (Int.tmod (m : Int) 64) = ((m % 64 : Nat) : Int) := by
        rw [Int.tmod_eq_emod_of_nonneg (by omega), wu64_of (by omega) (by omega)]; omega
      rw [e2, Int.toNat_natCast]
      refine Evt.ite_neg (by omega) (Evt.ite_pos (by omega) (Evt.ite_pos (by omega) (Evt.ite_pos (by omega) (Evt.ite_pos (by simp; omega) ?_))))
      have dd := da.drop (m / 64)
      obtain ⟨g1, g2, g3⟩ := downL_facts (m % 64) (by omega) (a.drop (m / 64)) dd
      have hnum : num (downL (m % 64) (a.drop (m / 64))) = num a / 2 ^ m := by
        rw [num_down dd _ (by omega), num_drop da _ (by omega), b64_pow2, Nat.div_div_eq_div_mul, ← Nat.pow_add, show 64 * (m / 64) + m % 64 = m from by omega]
      have h3 : num a / 2 ^ m ≤ num a := Nat.div_le_self _ _
      have ht := nat_told_ev (downL (m % 64) (a.drop (m / 64))) (by rw [g2]; simp; omega) g1
      have e : toldV (num a / 2 ^ m) = (limbs (num a / 2 ^ m), 0) := if_pos (Nat.lt_of_le_of_lt h3 hp)
      rw [hnum, e] at ht
      refine (nat_Shr_loop (a.drop (m / 64)) dd (by simp; omega) (m % 64) (by omega) ht (a.drop (m / 64)).length 0 [] (by omega) (by omega) rfl (by simp)).congr (fun k => ?_) rfl
      rw [Int.toNat_natCast]
      rfl
  cases hA : rightB a with
  | true =>
    refine Evt.ite_pos rfl ((J _ (fun h => ⟨hA, by simpa using h⟩)).congr (fun k => rfl) ?_)
    by_cases hn : n < 0
    · rw [decide_eq_true hn, if_pos rfl, if_neg (show ¬ (true = true ∧ 0 ≤ n) by omega)]
    · rw [decide_eq_false hn, if_neg (by simp), if_pos (show true = true ∧ 0 ≤ n from ⟨rfl, by omega⟩)]
  | false =>
    refine Evt.ite_neg (by simp) ((J _ (fun h => by simp at h)).congr (fun k => rfl) ?_)
    simp
theorem limbs_dig' (v : Nat) : Dig (b64 : Int) (limbs v) := toD_dig b64_two v
theorem limbs_can' (v : Nat) : Can (limbs v) := toD_can b64_two v
theorem limbs_len' {v n : Nat} (h : v < b64 ^ n) : (limbs v).length ≤ n := toD_len_le b64_two h
theorem pow_pos64' (n : Nat) : 0 < b64 ^ n := Nat.pow_pos (by decide)
theorem num_strip' {l : List Int} (d : Dig (b64 : Int) l) : num (strip l) = num l := by rw [strip_limbs d, num_limbs]
theorem vdrop (B : Int) (a : List Int) (j : Nat) : val B (a.drop j) = a.getD j 0 + B * val B (a.drop (j + 1)) := by
  by_cases h : j < a.length
  · rw [List.drop_eq_getElem_cons h]
    simp [val, List.getD_eq_getElem?_getD, h]
  · rw [List.drop_of_length_le (by omega), List.drop_of_length_le (by omega)]
    simp [val, List.getD_eq_getElem?_getD, Nat.le_of_not_lt h]
theorem vsplit (B : Int) (a : List Int) (j : Nat) (hj : j ≤ a.length) : val B a = val B (a.take j) + B ^ j * val B (a.drop j) := by
  have := val_append B (a.take j) (a.drop j)
  rw [List.take_append_drop, List.length_take, Nat.min_eq_left hj] at this
  exact this
theorem clone_ev (l : List Int) (h : l.length ≤ 100000) : api_Nat_uint64.f l = some l := by
  unfold api_Nat_uint64.f
  simp only [Option.bind_some, List.nil_append, List.length_nil]
  rw [if_pos (by omega)]
theorem long_l2 (a q : List Int) (da : Dig (b64 : Int) a) (ha : a.length ≤ 100000) (hq : q.length ≤ 100000) (s : Nat) (hs : s < 64) (n : Nat) :
    ∀ (i : Nat) (p : List Int), a.length - i = n → i ≤ a.length → p.length = i → p ++ downL s (a.drop i) = downL s a →
      Evt (fun k => nat_long.l2 k (s : Int) q a (p ++ List.replicate n 0) (a.length : Int) (i : Int)) (strip q, strip (downL s a)) := by
  induction n with
  | zero =>
    intro i p hn hi hp he
    refine Evt.succ ?_
    simp only [nat_long.l2]
    refine Evt.ite_neg (by omega) ?_
    rw [List.drop_of_length_le (by omega)] at he
    simp only [downL, List.append_nil] at he
    rw [List.replicate_zero, List.append_nil, he]
    have hdl := (downL_facts s hs a da).2.1
    exact Evt.bind (nat_trim_ev q (by simp [maxLen]; omega)) (Evt.bind (nat_trim_ev (downL s a) (by simp [maxLen]; omega)) (h := fun t _ => some (strip q, t)) (Evt.pure _))
  | succ n ih =>
    intro i p hn hi hp he
    have hlt : i < a.length := by omega
    have rx := da a[i] (List.getElem_mem hlt)
    have ry := (da.drop (i + 1)).getD b64_pos 0
    have hB : (b64 : Int) = 18446744073709551616 := rfl
    rw [hB] at rx ry
    rw [List.drop_eq_getElem_cons hlt] at he
    simp only [downL] at he
    have hx : rd a (i : Int) = a[i] := by simp [rd_nat, hlt]
    refine Evt.succ ?_
    simp only [nat_long.l2]
    refine Evt.ite_pos (by omega) (Evt.ite_pos (by omega) (Evt.ite_pos (by omega) (Evt.ite_pos (by omega) (Evt.ite_pos (by simp; omega) ?_))))
    refine Evt.bind (Evt.pure _) ?_
    rw [hx, shr_u64 _ s (by omega), show ((i : Int)).toNat = p.length from by omega, List.replicate_succ, set_at, w64 (show -9223372036854775808 ≤ (i : Int) + 1 by omega) (by omega)]
    have hps := pow2_pos s
    have hxd0 : 0 ≤ a[i] / 2 ^ s := Int.ediv_nonneg rx.1 (by omega)
    by_cases h0 : s = 0
    · refine Evt.ite_neg (by omega) ?_
      rw [if_pos h0, Int.add_zero] at he
      refine (ih (i + 1) (p ++ [a[i] / 2 ^ s]) (by omega) (by omega) (by simp; omega) (by rw [List.append_assoc]; exact he)).congr (fun k => ?_) rfl
      rw [List.append_assoc]; rfl
    · refine Evt.ite_pos (by omega) ?_
      rw [if_neg h0] at he
      by_cases h1 : i + 1 < a.length
      · refine Evt.ite_pos (by omega) (Evt.ite_pos (by omega) (Evt.ite_pos (by rw [wu64_of (by omega) (by omega)]; omega) ?_))
        have hy : rd a ((i : Int) + 1) = a[i + 1] := by
          rw [show (i : Int) + 1 = ((i + 1 : Nat) : Int) from by omega, rd_nat]
          simp [List.getD_eq_getElem?_getD, h1]
        have hy2 : (a.drop (i + 1)).getD 0 0 = a[i + 1] := by simp [List.getD_eq_getElem?_getD, h1]
        have hg : rd (p ++ a[i] / 2 ^ s :: List.replicate n 0) (i : Int) = a[i] / 2 ^ s := by
          rw [rd_nat]
          simp [List.getD_eq_getElem?_getD, ← hp]
        rw [hy2] at he ry
        obtain ⟨f1, f2, f3, f4⟩ := shl_facts ry (s := 64 - s) (by omega)
        have hxd1 : a[i] / 2 ^ s < 2 ^ (64 - s) := by
          apply Int.ediv_lt_of_lt_mul hps
          rw [Int.mul_comm, pow64_split (by omega)]
          exact rx.2
        have hz0 : 0 ≤ (a[i + 1] * 2 ^ (64 - s)) % 18446744073709551616 := by omega
        have hz1 : (a[i + 1] * 2 ^ (64 - s)) % 18446744073709551616 < 18446744073709551616 := by omega
        have hq64 : (2 : Int) ^ (64 - s) ≤ 2 ^ 64 := pow_mono (by omega) (by omega)
        rw [hy, hg, wu64_of (show (0 : Int) ≤ 64 - (s : Int) by omega) (by omega), show (64 : Int) - (s : Int) = ((64 - s : Nat) : Int) from by omega, shl_u64 _ (64 - s) (by omega), set_at, or_comm_u64 hxd0 (by omega) hz0 hz1, or_u64 (64 - s) (by omega) hz0 f2 hz1 hxd0 hxd1]
        refine (ih (i + 1) (p ++ [(a[i + 1] * 2 ^ (64 - s)) % 18446744073709551616 + a[i] / 2 ^ s]) (by omega) (by omega) (by simp; omega) (by rw [List.append_assoc, Int.add_comm ((a[i + 1] * 2 ^ (64 - s)) % 18446744073709551616)]; exact he)).congr (fun k => ?_) rfl
        rw [List.append_assoc]; rfl
      · refine Evt.ite_neg (by omega) ?_
        have hy2 : (a.drop (i + 1)).getD 0 0 = 0 := by rw [List.drop_of_length_le (by omega)]; rfl
        rw [hy2, Int.zero_mul, Int.zero_emod, Int.add_zero] at he
        refine (ih (i + 1) (p ++ [a[i] / 2 ^ s]) (by omega) (by omega) (by simp; omega) (by rw [List.append_assoc]; exact he)).congr (fun k => ?_) rfl
        rw [List.append_assoc]; rfl
theorem long_l1 (r d q part sN : List Int) (s dk gs : Int) (a : Nat) (hpart : part.length ≤ 1000) (hdl : d.length ≤ 1000) (dp : Dig (b64 : Int) part) (dd : Dig (b64 : Int) d) (hg0 : 0 ≤ gs)
    (hfit : ∀ g : Int, 0 ≤ g → (num d * g.toNat ≤ num part ↔ g ≤ gs)) (hs : Evt (fun k => nat_less.f k part (limbs (num d * gs.toNat))) sN) (hsl : sN.length = part.length) (haq : a < q.length) (ha : a ≤ 1000000)
    {res : List Int × List Int} (fin : Evt (fun k => nat_long.l0 k s (r.take a ++ (sN ++ r.drop (a + part.length))) d dk (q.set a gs) ((a : Int) - 1)) res) (n : Nat) :
    ∀ g : Int, gs ≤ g → g < 18446744073709551616 → g - gs ≤ n → Evt (fun k => nat_long.l1 k s r d dk q (a : Int) g part) res := by
  have step : ∀ g : Int, gs ≤ g → g < 18446744073709551616 → (gs < g → Evt (fun k => nat_long.l1 k s r d dk q (a : Int) (IntKind.u64.wrap (g - 1)) part) res) → Evt (fun k => nat_long.l1 k s r d dk q (a : Int) g part) res := by
    intro g h1 h2 hnext
    have dg : Dig (b64 : Int) [g] := Dig.cons.2 ⟨⟨by omega, h2⟩, Dig.nil⟩
    have hng : num (strip [g]) = g.toNat := by rw [num_strip' dg, num_one (by omega)]
    refine Evt.succ ?_
    simp only [nat_long.l1]
    refine Evt.bind (nat_Of_ev g) ?_
    refine Evt.bind (nat_school_ev d (strip [g]) (by omega) (by have := strip_length [g]; simp at this; omega) dd (by rw [strip_limbs dg]; exact limbs_dig' _)) ?_
    refine Evt.bind (Evt.of (fun _ => clone_ev part (by omega))) ?_
    refine Evt.bind (nat_trim_ev part (by simp [maxLen]; omega)) ?_
    rw [hng, strip_limbs dp]
    refine Evt.bind (nat_compare_ev (limbs (num part)) (limbs (num d * g.toNat)) (limbs_dig' _) (limbs_dig' _) (limbs_can' _) (limbs_can' _) (by have := limbs_len' (num_lt dp); omega)) ?_
    rw [num_limbs, num_limbs]
    by_cases hle : g ≤ gs
    · obtain rfl : g = gs := by omega
      have hf := (hfit g hg0).2 (Int.le_refl _)
      refine Evt.ite_pos (by unfold cmpN; rw [if_neg (by omega)]; split <;> omega) ?_
      refine Evt.bind hs ?_
      refine Evt.ite_pos hsl (Evt.ite_pos (by omega) (Evt.ite_pos (by omega) ?_))
      rw [Int.toNat_natCast, w64 (by omega) (by omega)]
      exact fin
    · have hf : ¬ num d * g.toNat ≤ num part := fun h => hle ((hfit g (by omega)).1 h)
      refine Evt.ite_neg (by unfold cmpN; rw [if_pos (by omega)]; omega) ?_
      exact hnext (by omega)
  induction n with
  | zero =>
    intro g h1 h2 h3
    exact step g h1 h2 (fun h => absurd h (by omega))
  | succ n ih =>
    intro g h1 h2 h3
    refine step g h1 h2 (fun h => ?_)
    rw [wu64_of (by omega) (by omega)]
    exact ih (g - 1) (by omega) (by omega) (by omega)
theorem guess_fits {X D P0 D0 W r2 r1 r0 d1 d0 g h : Int} (hX : X = P0 + W * (r0 + 18446744073709551616 * (r1 + 18446744073709551616 * r2))) (hD : D = D0 + W * (d0 + 18446744073709551616 * d1))
    (hP : P0 < W) (hD0 : 0 ≤ D0) (hW : 0 < W) (hh : 0 ≤ h) (hfit : h * D ≤ X) : h * (d1 * 18446744073709551616 + d0) ≤ (r2 * 18446744073709551616 + r1) * 18446744073709551616 + r0 := by
  refine Int.not_lt.1 (fun hlt => ?_)
  have e1 : (r2 * 18446744073709551616 + r1) * 18446744073709551616 + r0 + 1 ≤ h * (d1 * 18446744073709551616 + d0) := hlt
  have e2 := Int.mul_le_mul_of_nonneg_left e1 (Int.le_of_lt hW)
  have e3 : 0 ≤ h * D0 := Int.mul_nonneg hh hD0
  have e4 : h * D = h * D0 + W * (h * (d1 * 18446744073709551616 + d0)) := by rw [hD]; grind
  have e5 : W * ((r2 * 18446744073709551616 + r1) * 18446744073709551616 + r0 + 1) = W * (r0 + 18446744073709551616 * (r1 + 18446744073709551616 * r2)) + W := by grind
  omega
theorem long_l0 (s : Nat) (hs : s < 64) (d : List Int) (dd : Dig (b64 : Int) d) (cd : Can d) (hk : 2 ≤ d.length) (hdl : d.length ≤ 400) (A : Int) (ql : Nat) (hql : ql ≤ 400) (i : Nat) :
    ∀ r q : List Int, i ≤ ql → r.length = ql + d.length → q.length = ql → Dig (b64 : Int) r → Dig (b64 : Int) q → val (b64 : Int) (r.drop i) < val (b64 : Int) d → val (b64 : Int) (q.drop i) * (b64 : Int) ^ i * val (b64 : Int) d + val (b64 : Int) r = A →
      Evt (fun k => nat_long.l0 k (s : Int) r d (d.length : Int) q ((i : Int) - 1)) (limbs (A / val (b64 : Int) d).toNat, limbs ((A % val (b64 : Int) d).toNat / 2 ^ s)) := by
  have hB : (b64 : Int) = 18446744073709551616 := rfl
  have hDn := val_nonneg b64_pos dd
  induction i with
  | zero =>
    intro r q hi hr hq dr dq hlt hv
    rw [List.drop_zero] at hlt
    rw [List.drop_zero, Int.pow_zero, Int.mul_one] at hv
    have hrn := val_nonneg b64_pos dr
    have e1 : A / val (b64 : Int) d = val (b64 : Int) q := by
      rw [← hv, Int.mul_comm, Int.mul_add_ediv_left _ _ (by omega), Int.ediv_eq_zero_of_lt hrn hlt, Int.add_zero]
    have e2 : A % val (b64 : Int) d = val (b64 : Int) r := by
      rw [← hv, Int.mul_comm, Int.add_comm, Int.add_mul_emod_self_left, Int.emod_eq_of_lt hrn hlt]
    rw [e1, e2, show (val (b64 : Int) q).toNat = num q from rfl, show (val (b64 : Int) r).toNat = num r from rfl]
    refine Evt.succ ?_
    simp only [nat_long.l0]
    refine Evt.ite_neg (by omega) ?_
    refine Evt.bind (nat_trim_ev r (by simp [maxLen]; omega)) ?_
    have hsl := strip_length r
    refine Evt.ite_pos (by omega) (Evt.ite_pos (by omega) ?_)
    rw [Int.toNat_natCast]
    have dsr : Dig (b64 : Int) (strip r) := by rw [strip_limbs dr]; exact limbs_dig' _
    refine (long_l2 (strip r) q dsr (by omega) (by omega) s hs (strip r).length 0 [] (by omega) (by omega) rfl (by simp)).congr (fun k => by rfl) ?_
    have hdw := downL_facts s hs (strip r) dsr
    rw [strip_limbs dq, strip_limbs hdw.1, num_down dsr s hs, num_strip' dr]
  | succ a ih =>
    intro r q hi hr hq dr dq hlt hv
    rw [show ((a + 1 : Nat) : Int) - 1 = (a : Int) from by omega]
    have hDlt := val_lt b64_pos dd
    have h1 := vsplit (b64 : Int) (r.drop (a + 1)) d.length (by rw [List.length_drop]; omega)
    rw [List.drop_drop] at h1
    have h2 := val_nonneg b64_pos ((dr.drop (a + 1)).take d.length)
    have h3 := val_nonneg b64_pos (dr.drop (a + 1 + d.length))
    have hW : (0 : Int) < (b64 : Int) ^ d.length := Int.pow_pos b64_pos
    have h4 : val (b64 : Int) (r.drop (a + 1 + d.length)) = 0 := by
      refine Int.le_antisymm (Int.not_lt.1 (fun h => ?_)) h3
      have := Int.mul_le_mul_of_nonneg_left (show (1 : Int) ≤ val (b64 : Int) (r.drop (a + 1 + d.length)) from h) (Int.le_of_lt hW)
      omega
    have hX := vdrop (b64 : Int) r a
    have hra := dr.getD b64_pos a
    have hpartl : (((r.take (a + d.length + 1)).drop a)).length = d.length + 1 := by
      rw [List.length_drop, List.length_take]; omega
    have hpv : val (b64 : Int) ((r.take (a + d.length + 1)).drop a) = val (b64 : Int) (r.drop a) := by
      have h5 := vsplit (b64 : Int) (r.drop a) (d.length + 1) (by rw [List.length_drop]; omega)
      rw [List.drop_drop, show a + (d.length + 1) = a + 1 + d.length from by omega, h4, Int.mul_zero, Int.add_zero] at h5
      rw [List.drop_take, show a + d.length + 1 - a = d.length + 1 from by omega]
      exact h5.symm
    have dpart : Dig (b64 : Int) ((r.take (a + d.length + 1)).drop a) := (dr.take _).drop _
    have hXlt : val (b64 : Int) (r.drop a) < 18446744073709551616 * val (b64 : Int) d := by
      rw [hX, hB] at *
      omega
    have hX0 : 0 ≤ val (b64 : Int) (r.drop a) := val_nonneg b64_pos (dr.drop a)
    have hD0 : 0 < val (b64 : Int) d := by
      have := val_nonneg b64_pos (dr.drop (a + 1))
      omega
    obtain ⟨gs, hgs⟩ : ∃ gs, gs = val (b64 : Int) (r.drop a) / val (b64 : Int) d := ⟨_, rfl⟩
    have hgs0 : 0 ≤ gs := by rw [hgs]; exact Int.ediv_nonneg hX0 hDn
    have hgs1 : gs < 18446744073709551616 := by
      rw [hgs]
      exact Int.ediv_lt_of_lt_mul hD0 hXlt
    have hle : ∀ g : Int, g * val (b64 : Int) d ≤ val (b64 : Int) (r.drop a) ↔ g ≤ gs := fun g => by rw [hgs, Int.le_ediv_iff_mul_le hD0]
    have hnd := num_val dd
    have hnp := num_val dpart
    have hfit : ∀ g : Int, 0 ≤ g → (num d * g.toNat ≤ num ((r.take (a + d.length + 1)).drop a) ↔ g ≤ gs) := by
      intro g hg
      rw [← hle g, ← hpv, ← hnp, ← hnd]
      obtain ⟨m, rfl⟩ := Int.eq_ofNat_of_zero_le hg
      rw [Int.toNat_natCast, Nat.mul_comm]
      have : ((m : Int) * (num d : Int)) = ((m * num d : Nat) : Int) := by simp
      rw [this]
      omega
    have hsmall : num d * gs.toNat ≤ num ((r.take (a + d.length + 1)).drop a) := (hfit gs hgs0).2 (Int.le_refl _)
    obtain ⟨sN, s1, s2, s3, s4⟩ := nat_less_ev ((r.take (a + d.length + 1)).drop a) (limbs (num d * gs.toNat)) (by omega) (limbs_len' (Nat.lt_of_le_of_lt hsmall (num_lt dpart))) dpart (limbs_dig' _) (by rw [num_limbs]; exact hsmall)
    rw [num_limbs] at s3
    have hsv : val (b64 : Int) sN = val (b64 : Int) (r.drop a) - gs * val (b64 : Int) d := by
      rw [← num_val s2, s3, ← hpv, ← hnp, ← hnd]
      obtain ⟨m, hm⟩ := Int.eq_ofNat_of_zero_le hgs0
      rw [hm] at hsmall ⊢
      rw [Int.toNat_natCast] at hsmall ⊢
      have : ((m : Int) * (num d : Int)) = ((num d * m : Nat) : Int) := by rw [Nat.mul_comm]; simp
      rw [this]
      omega
    have hslt : val (b64 : Int) sN < val (b64 : Int) d := by
      have h6 := Int.emod_lt_of_pos (val (b64 : Int) (r.drop a)) hD0
      have h7 := Int.emod_add_mul_ediv (val (b64 : Int) (r.drop a)) (val (b64 : Int) d)
      rw [← hgs, Int.mul_comm] at h7
      omega
    have hnew : (r.take a ++ (sN ++ r.drop (a + sN.length))).drop a = sN ++ r.drop (a + sN.length) := by
      rw [List.drop_append, List.drop_of_length_le (by rw [List.length_take]; omega), List.length_take, Nat.min_eq_left (by omega), Nat.sub_self, List.drop_zero, List.nil_append]
    have hnv : val (b64 : Int) (sN ++ r.drop (a + sN.length)) = val (b64 : Int) sN := by
      rw [val_append, s4, hpartl, show a + (d.length + 1) = a + 1 + d.length from by omega, h4, Int.mul_zero, Int.add_zero]
    have hfin := ih (r.take a ++ (sN ++ r.drop (a + sN.length))) (q.set a gs) (by omega) (by simp only [List.length_append, List.length_take, List.length_drop, s4, hpartl]; omega) (by rw [List.length_set]; exact hq)
      (Dig.append.2 ⟨dr.take _, Dig.append.2 ⟨s2, dr.drop _⟩⟩) (dq.set _ ⟨hgs0, hgs1⟩) (by rw [hnew, hnv]; exact hslt) (by
        rw [val_append, hnv, hsv, List.length_take, Nat.min_eq_left (by omega)]
        have e1 : (q.set a gs).drop a = gs :: q.drop (a + 1) := by
          rw [List.drop_eq_getElem_cons (by rw [List.length_set]; omega), List.drop_set, if_pos (Nat.lt_succ_self a)]
          simp
        rw [e1]
        simp only [val]
        have h8 := vsplit (b64 : Int) r a (by omega)
        rw [Int.pow_succ] at hv
        rw [← hv, h8]
        generalize val (b64 : Int) (q.drop (a + 1)) = Q
        generalize (b64 : Int) ^ a = W
        generalize val (b64 : Int) d = D
        generalize (b64 : Int) = B
        grind)
    have k1 := can_last cd (by omega)
    have kd1 := dd.getD b64_pos (d.length - 1)
    have kd0 := dd.getD b64_pos (d.length - 2)
    have kr2 := dr.getD b64_pos (a + d.length)
    have kr1 := dr.getD b64_pos (a + d.length - 1)
    have kr0 := dr.getD b64_pos (a + d.length - 2)
    rw [hB] at kd1 kd0 kr2 kr1 kr0
    obtain ⟨g, g1, g2, g3⟩ := nat_guess_ev (r2 := r.getD (a + d.length) 0) (r1 := r.getD (a + d.length - 1) 0) (r0 := r.getD (a + d.length - 2) 0) (d1 := d.getD (d.length - 1) 0) (d0 := d.getD (d.length - 2) 0) kr2.1 kr1 kr0 ⟨by omega, kd1.2⟩ kd0
    have hgg : gs ≤ g := by
      refine g3 gs hgs1 ?_
      have eX : val (b64 : Int) (r.drop a) = val (b64 : Int) ((r.drop a).take (d.length - 2)) + (b64 : Int) ^ (d.length - 2) * (r.getD (a + d.length - 2) 0 + 18446744073709551616 * (r.getD (a + d.length - 1) 0 + 18446744073709551616 * r.getD (a + d.length) 0)) := by
        rw [vsplit (b64 : Int) (r.drop a) (d.length - 2) (by rw [List.length_drop]; omega), List.drop_drop, show a + (d.length - 2) = a + d.length - 2 from by omega, vdrop (b64 : Int) r (a + d.length - 2), show a + d.length - 2 + 1 = a + d.length - 1 from by omega, vdrop (b64 : Int) r (a + d.length - 1), show a + d.length - 1 + 1 = a + d.length from by omega, vdrop (b64 : Int) r (a + d.length), show a + d.length + 1 = a + 1 + d.length from by omega, h4, Int.mul_zero, Int.add_zero, hB]
      have eD : val (b64 : Int) d = val (b64 : Int) (d.take (d.length - 2)) + (b64 : Int) ^ (d.length - 2) * (d.getD (d.length - 2) 0 + 18446744073709551616 * d.getD (d.length - 1) 0) := by
        have := vsplit (b64 : Int) d (d.length - 2) (by omega)
        rw [vdrop (b64 : Int) d (d.length - 2), show d.length - 2 + 1 = d.length - 1 from by omega, vdrop (b64 : Int) d (d.length - 1), show d.length - 1 + 1 = d.length from by omega, List.drop_length] at this
        simp only [val, Int.mul_zero, Int.add_zero] at this
        rw [hB] at this ⊢
        exact this
      have hPlt := val_lt b64_pos ((dr.drop a).take (d.length - 2))
      rw [List.length_take, List.length_drop, Nat.min_eq_left (by omega)] at hPlt
      exact guess_fits (g := 0) eX eD hPlt (val_nonneg b64_pos (dd.take _)) (Int.pow_pos b64_pos) hgs0 ((hle gs).2 (Int.le_refl _))
    refine Evt.succ ?_
    simp only [nat_long.l0]
    rw [w64 (x := (a : Int) + (d.length : Int)) (by omega) (by omega), w64 (x := (a : Int) + (d.length : Int) - 1) (by omega) (by omega), w64 (x := (a : Int) + (d.length : Int) - 2) (by omega) (by omega), w64 (x := (d.length : Int) - 1) (by omega) (by omega), w64 (x := (d.length : Int) - 2) (by omega) (by omega), w64 (x := (a : Int) + (d.length : Int) + 1) (by omega) (by omega)]
    rw [show (a : Int) + (d.length : Int) - 1 = ((a + d.length - 1 : Nat) : Int) from by omega, show (a : Int) + (d.length : Int) - 2 = ((a + d.length - 2 : Nat) : Int) from by omega, show (a : Int) + (d.length : Int) = ((a + d.length : Nat) : Int) from by omega, show (d.length : Int) - 1 = ((d.length - 1 : Nat) : Int) from by omega, show (d.length : Int) - 2 = ((d.length - 2 : Nat) : Int) from by omega, show ((a + d.length : Nat) : Int) + 1 = ((a + d.length + 1 : Nat) : Int) from by omega]
    simp only [rd_nat, Int.toNat_natCast]
    refine Evt.ite_pos (by omega) (Evt.ite_pos (by omega) (Evt.ite_pos (by omega) (Evt.ite_pos (by omega) (Evt.ite_pos (by omega) (Evt.ite_pos (by omega) (Evt.ite_pos (by omega) (Evt.ite_pos (by omega) (Evt.ite_pos (by omega) (Evt.ite_pos (by omega) (Evt.ite_pos (by omega) ?_))))))))))
    refine Evt.bind g1 ?_
    refine Evt.ite_pos (by omega) (Evt.ite_pos (by omega) (Evt.ite_pos (by omega) ?_))
    refine long_l1 r d q ((r.take (a + d.length + 1)).drop a) sN (s : Int) (d.length : Int) gs a (by omega) (by omega) dpart dd hgs0 hfit s1 s4 (by omega) (by omega) ?_ (g - gs).toNat g hgg g2.2 (by omega)
    rw [← s4]
    exact hfin
theorem nat_long_ev (a b : List Int) (da : Dig (b64 : Int) a) (db : Dig (b64 : Int) b) (cb : Can b) (hb : 2 ≤ b.length) (hab : b.length ≤ a.length) (ha : a.length ≤ 390) :
    Evt (fun k => nat_long.f k a b) (limbs (num a / num b), limbs (num a % num b)) := by
  have hB : (b64 : Int) = 18446744073709551616 := rfl
  have ht := can_last cb (by omega)
  have htr := db.getD b64_pos (b.length - 1)
  rw [hB] at htr
  obtain ⟨t, htt⟩ : ∃ t, t = b.getD (b.length - 1) 0 := ⟨_, rfl⟩
  rw [← htt] at ht htr
  have hbl1 := bl_lt t.toNat
  have hbl2 : bl t.toNat ≤ 64 := bl_le (by omega)
  have hbl3 := bl_pos (n := t.toNat) (by omega)
  obtain ⟨s, hs⟩ : ∃ s, s = 64 - bl t.toNat := ⟨_, rfl⟩
  have hs64 : s < 64 := by omega
  obtain ⟨r, r1, r2, r3, r4⟩ := nat_up_ev a da (by omega) s hs64
  obtain ⟨e, e1, e2, e3, e4⟩ := nat_up_ev b db (by omega) s hs64
  have v1 := vsplit (b64 : Int) b (b.length - 1) (by omega)
  rw [vdrop (b64 : Int) b (b.length - 1), show b.length - 1 + 1 = b.length from by omega, List.drop_length, ← htt] at v1
  simp only [val, Int.mul_zero, Int.add_zero] at v1
  have v2 := val_lt b64_pos (db.take (b.length - 1))
  rw [List.length_take, Nat.min_eq_left (by omega)] at v2
  have v3 := val_nonneg b64_pos (db.take (b.length - 1))
  have hnb := num_val db
  have hWp := pow_pos64' (b.length - 1)
  have hpc := pow_cast b64 (b.length - 1)
  have nlo : b64 ^ (b.length - 1) ≤ num b := by
    have h5 : (b64 : Int) ^ (b.length - 1) * 1 ≤ (b64 : Int) ^ (b.length - 1) * t := Int.mul_le_mul_of_nonneg_left (by omega) (by rw [hpc]; omega)
    rw [Int.mul_one] at h5
    omega
  have nhi : num b < b64 ^ (b.length - 1) * 2 ^ bl t.toNat := by
    have h5 : t + 1 ≤ ((2 ^ bl t.toNat : Nat) : Int) := by omega
    have h6 : (b64 : Int) ^ (b.length - 1) * (t + 1) ≤ (b64 : Int) ^ (b.length - 1) * ((2 ^ bl t.toNat : Nat) : Int) := Int.mul_le_mul_of_nonneg_left h5 (by rw [hpc]; omega)
    rw [Int.mul_add, Int.mul_one, hpc] at h6
    rw [hpc] at v1 v2
    have h7 : ((b64 ^ (b.length - 1) * 2 ^ bl t.toNat : Nat) : Int) = ((b64 ^ (b.length - 1) : Nat) : Int) * ((2 ^ bl t.toNat : Nat) : Int) := by simp
    omega
  have hP : 0 < 2 ^ s := Nat.pow_pos (by omega)
  have p64 : 2 ^ bl t.toNat * 2 ^ s = b64 := by
    rw [← Nat.pow_add, show bl t.toNat + s = 64 from by omega]
    rfl
  have dhi : num b * 2 ^ s < b64 ^ b.length := by
    have h6 := Nat.mul_lt_mul_of_pos_right nhi hP
    rw [Nat.mul_assoc, p64, ← Nat.pow_succ, show (b.length - 1).succ = b.length from by omega] at h6
    exact h6
  have dlo : b64 ^ (b.length - 1) ≤ num b * 2 ^ s := Nat.le_trans nlo (Nat.le_mul_of_pos_right _ hP)
  have dlen : (limbs (num b * 2 ^ s)).length = b.length := by
    have h6 := limbs_len' dhi
    have h7 : ¬ (limbs (num b * 2 ^ s)).length ≤ b.length - 1 := fun h => by
      have := (toD_len_iff b64_two (num b * 2 ^ s) (b.length - 1)).1 h
      omega
    omega
  have hvd : val (b64 : Int) (limbs (num b * 2 ^ s)) = ((num b * 2 ^ s : Nat) : Int) := val_toD b64_two _
  unfold nat_long.f
  rw [w64 (x := (b.length : Int) - 1) (by omega) (by omega)]
  refine Evt.ite_pos (by omega) (Evt.ite_pos (by omega) ?_)
  rw [show (b.length : Int) - 1 = ((b.length - 1 : Nat) : Int) from by omega, rd_nat, ← htt]
  have lz : Evt (fun k => bits_LeadingZeros64.f k t) (s : Int) := by
    unfold bits_LeadingZeros64.f
    refine (Evt.bind (bits_Len64_ev (x := t) (by omega) (by omega)) (h := fun t333 _ => some (wrap64 (64 - t333))) (Evt.pure _)).congr (fun k => rfl) ?_
    rw [w64 (by omega) (by omega)]
    omega
  refine Evt.bind lz ?_
  rw [wu64_of (by omega) (by omega)]
  refine Evt.bind r1 ?_
  refine Evt.bind e1 ?_
  refine Evt.bind (nat_trim_ev e (by simp [maxLen]; omega)) ?_
  rw [strip_limbs e2, e4, dlen, r3]
  rw [w64 (x := ((a.length + 1 : Nat) : Int) - (b.length : Int)) (by omega) (by omega), show ((a.length + 1 : Nat) : Int) - (b.length : Int) = ((a.length + 1 - b.length : Nat) : Int) from by omega, Int.toNat_natCast]
  refine Evt.ite_pos (by omega) (Evt.ite_pos (by omega) ?_)
  refine Evt.bind (Evt.pure _) ?_
  rw [List.length_replicate, w64 (by omega) (by omega)]
  have hmain := long_l0 s hs64 (limbs (num b * 2 ^ s)) (limbs_dig' _) (limbs_can' _) (by omega) (by omega) (val (b64 : Int) r) (a.length + 1 - b.length) (by omega) (a.length + 1 - b.length) r (List.replicate (a.length + 1 - b.length) 0) (Nat.le_refl _) (by omega) (by simp) r2 (Dig.replicate b64_pos _) (by
    have h6 := vsplit (b64 : Int) r (a.length + 1 - b.length) (by omega)
    have h7 := val_nonneg b64_pos (r2.take (a.length + 1 - b.length))
    have h8 := num_val r2
    rw [r4] at h8
    have h9 := num_lt da
    have h10 : num a * 2 ^ s < b64 ^ a.length * 2 ^ s := Nat.mul_lt_mul_of_pos_right h9 hP
    have h11 : b64 ^ a.length * 2 ^ s ≤ b64 ^ (a.length + 1 - b.length) * (num b * 2 ^ s) := by
      have : b64 ^ a.length = b64 ^ (a.length + 1 - b.length) * b64 ^ (b.length - 1) := by
        rw [← Nat.pow_add, show a.length + 1 - b.length + (b.length - 1) = a.length from by omega]
      rw [this, Nat.mul_assoc]
      exact Nat.mul_le_mul_left _ (Nat.mul_le_mul_right _ nlo)
    rw [hvd]
    refine Int.not_le.1 (fun hge => ?_)
    have h12 := Int.mul_le_mul_of_nonneg_left hge (show (0 : Int) ≤ (b64 : Int) ^ (a.length + 1 - b.length) by rw [pow_cast]; omega)
    have h13 : (b64 : Int) ^ (a.length + 1 - b.length) * ((num b * 2 ^ s : Nat) : Int) = ((b64 ^ (a.length + 1 - b.length) * (num b * 2 ^ s) : Nat) : Int) := by rw [pow_cast, ← Int.natCast_mul]
    rw [h13] at h12
    omega) (by
    rw [List.drop_of_length_le (by simp)]
    simp [val])
  rw [dlen] at hmain
  refine hmain.congr (fun k => rfl) ?_
  have h8 := num_val r2
  rw [hvd, ← h8, r4, show ((num a * 2 ^ s : Nat) : Int) / ((num b * 2 ^ s : Nat) : Int) = ((num a * 2 ^ s / (num b * 2 ^ s) : Nat) : Int) from rfl, show ((num a * 2 ^ s : Nat) : Int) % ((num b * 2 ^ s : Nat) : Int) = ((num a * 2 ^ s % (num b * 2 ^ s) : Nat) : Int) from rfl, Int.toNat_natCast, Int.toNat_natCast, Nat.mul_div_mul_right _ _ hP, Nat.mul_mod_mul_right, Nat.mul_div_cancel _ hP]
end Go.Proofs.Ytnaphgnkhhapoab.Z
end
section
namespace Go.Proofs.Ytnaphgnkhhapoab.Z
open Go.RowKit Go.Proofs.Ytnaphgnkhhapoab.F Go.Proofs.YtnaphgnkhhapoabW.PrintWords
set_option linter.unusedSimpArgs false
set_option linter.unusedVariables false
theorem may_ev (n : List Int) (hn : n.length ≤ maxLen) (dn : Dig (b64 : Int) n) : Evt (fun k => fixenc_modulus_may.f k n) (mayV n) := by
  unfold fixenc_modulus_may.f mayV
  rw [nat_Right_eq hn]
  simp only [Option.bind_some]
  cases hR : rightB n with
  | false => exact Evt.ite_neg (by simp) (Evt.pure _)
  | true =>
    refine Evt.ite_pos rfl ?_
    by_cases h8 : n.length ≤ 8
    · refine Evt.ite_pos (by omega) ?_
      have d3 : Dig (b64 : Int) [3] := dig_one (by omega) (by omega)
      refine (Evt.bind (nat_Cmp_ev n [3] hn (by simp [maxLen]) dn d3) (h := fun t _ => some (decide (t ≥ 0))) (Evt.pure _)).congr (fun k => rfl) ?_
      unfold cmpV
      rw [if_pos ⟨hR, right_one (by omega)⟩, cmpN_ge, num_one (by omega)]
      simp [h8]
    · refine Evt.ite_neg (by omega) ((Evt.pure _).congr (fun k => rfl) ?_)
      simp [h8]
theorem half_ev (n : List Int) (dn : Dig (b64 : Int) n) (hm : mayV n = true) : Evt (fun k => fixenc_modulus_half.f k n) (limbs (halfV n)) := by
  obtain ⟨hR, h8, h3⟩ := (mayV_iff n).1 hm
  have hlt := may_lt dn hm
  unfold fixenc_modulus_half.f
  have hs := nat_Shr_ev n 1 (by simp only [maxLen]; omega) dn (by omega)
  unfold shrV at hs
  rw [if_pos ⟨hR, by omega⟩] at hs
  refine Evt.bind hs ?_
  refine Evt.bind (Evt.of (fun _ => nat_Bit_eq n 0 (by simp only [maxLen]; omega) dn (by omega))) ?_
  have h0 : n.length ≠ 0 := by
    intro h
    rw [List.eq_nil_of_length_eq_zero h] at h3
    simp [num, val] at h3
  obtain ⟨x, l, rfl⟩ : ∃ x l, n = x :: l := by
    cases n with
    | nil => simp at h0
    | cons x l => exact ⟨x, l, rfl⟩
  have hx := (Dig.cons.1 dn).1
  have hb : bitV (x :: l) 0 = decide (num (x :: l) % 2 = 1) := by
    unfold bitV
    rw [hR, num_cons dn]
    have hB : b64 = 18446744073709551616 := rfl
    rw [hB] at hx ⊢
    simp
    have h1 : (0 : Int) < (l.length : Int) + 1 := by omega
    by_cases h2 : x % 2 = 1
    · have : (x.toNat + 18446744073709551616 * num l) % 2 = 1 := by omega
      simp [h1, h2, this]
    · have h4 : ¬ (x.toNat + 18446744073709551616 * num l) % 2 = 1 := by omega
      simp [h2, h4]
  rw [hb]
  by_cases hp : num (x :: l) % 2 = 1
  · refine Evt.ite_pos (by simpa using hp) ((Evt.pure _).congr (fun k => rfl) ?_)
    unfold halfV
    rw [show (2 : Nat) ^ (1 : Int).toNat = 2 from rfl, show num (x :: l) / 2 = (num (x :: l) - 1) / 2 by omega]
  · refine Evt.ite_neg (by simpa using hp) ?_
    have d1 : Dig (b64 : Int) [1] := dig_one (by omega) (by omega)
    have hv : num (x :: l) / 2 ^ (1 : Int).toNat = num (x :: l) / 2 := rfl
    have hlt2 : num (x :: l) / 2 < b64 ^ 64 := Nat.lt_of_le_of_lt (Nat.div_le_self _ _) hlt
    have hsub := nat_Sub_ev (limbs (num (x :: l) / 2)) [1] (by have := limbs_le64 hlt2; simp only [maxLen]; omega) (by simp [maxLen]) (dig_limbs' _) d1
    rw [hv]
    refine (Evt.bind hsub (h := fun t _ => some t.1) (Evt.pure _)).congr (fun k => rfl) ?_
    unfold subV halfV
    rw [if_pos ⟨right_limbs' hlt2, right_one (by omega)⟩, num_limbs, num_one (by omega), if_neg (by omega), show num (x :: l) / 2 - (1 : Int).toNat = (num (x :: l) - 1) / 2 by omega]
theorem fits_ev (n x : List Int) (dn : Dig (b64 : Int) n) (dx : Dig (b64 : Int) x) (hm : mayV n = true) (hx : rightB x = true) : Evt (fun k => fixenc_fits.f k n x) (decide (num x ≤ halfV n)) := by
  obtain ⟨hR, h8, h3⟩ := (mayV_iff n).1 hm
  have hlt := may_lt dn hm
  obtain ⟨hx1, _⟩ := (rightB_iff x).1 hx
  have hh : halfV n < b64 ^ 64 := by unfold halfV; omega
  unfold fixenc_fits.f
  refine Evt.bind (half_ev n dn hm) ?_
  refine (Evt.bind (nat_Cmp_ev x (limbs (halfV n)) (by simp only [maxLen]; omega) (by have := limbs_le64 hh; simp only [maxLen]; omega) dx (dig_limbs' _)) (h := fun t _ => some (decide (t ≤ 0))) (Evt.pure _)).congr (fun k => rfl) ?_
  unfold cmpV
  rw [if_pos ⟨hx, right_limbs' hh⟩, cmpN_le, num_limbs]
theorem modint_Right_eq (a : Bool) (l : List Int) (h : l.length ≤ maxLen) : modint_Right.f a l = some (intR a l) := by
  unfold modint_Right.f intR
  rw [nat_Right_eq h]
  cases hR : rightB l <;> cases a <;> simp
theorem clone7 (l : List Int) (h : l.length ≤ 100000) : api_Nat_uint64.f l = some l := by
  unfold api_Nat_uint64.f
  simp only [Option.bind_some, List.nil_append, List.length_nil]
  rw [if_pos (by omega)]
theorem modint_From_eq (a : Bool) (l : List Int) (h : l.length ≤ 64) : modint_From.f a l = some (fromV a l) := by
  unfold modint_From.f fromV
  rw [nat_Right_eq (by simp only [maxLen]; omega), clone7 l (by omega)]
  cases hR : rightB l with
  | false => simp
  | true =>
    by_cases h0 : l.length = 0
    · simp [h0]
    · have : ¬ l = [] := fun e => h0 (by rw [e]; rfl)
      simp [this]
theorem fix_Encode_ev (n : List Int) (a : Bool) (x : List Int) (hn : n.length ≤ maxLen) (hx : x.length ≤ maxLen) (dn : Dig (b64 : Int) n) (dx : Dig (b64 : Int) x) : Evt (fun k => fixenc_Encode.f k n a x) (encV n a x) := by
  unfold fixenc_Encode.f encV
  have J : ∀ b : Bool, (b = false → mayV n = true ∧ intR a x = true) → Evt (fun k => fixenc_Encode.j0 k n b a x) (if b = true then ([], 1) else (if num x ≤ halfV n then (if a = true then (limbs (num n - num x), 0) else (x, 0)) else ([], 12))) := by
    intro b hb
    refine Evt.succ ?_
    simp only [fixenc_Encode.j0]
    refine Evt.cond (fun _ => Evt.pure _) (fun hc => ?_)
    obtain ⟨hm, hi⟩ := hb (by simpa using hc)
    have hR : rightB x = true := by unfold intR at hi; simp only [Bool.and_eq_true] at hi; exact hi.1
    obtain ⟨hx1, cx⟩ := (rightB_iff x).1 hR
    obtain ⟨hRn, h8, h3⟩ := (mayV_iff n).1 hm
    have hlt := may_lt dn hm
    refine Evt.bind (fits_ev n x dn dx hm hR) ?_
    by_cases hf : num x ≤ halfV n
    · rw [if_pos hf]
      refine Evt.ite_pos (by simpa using hf) ?_
      have hxn : num x < num n := by unfold halfV at hf; omega
      cases a with
      | true =>
        refine Evt.ite_pos rfl ?_
        have hs := nat_Sub_ev n x hn hx dn dx
        unfold subV at hs
        rw [if_pos ⟨hRn, hR⟩, if_neg (by omega)] at hs
        exact Evt.bind hs (h := fun t _ => some (t.1, t.2)) (Evt.pure _)
      | false =>
        refine Evt.ite_neg (by simp) ?_
        have hs := nat_Add_ev x [] hx (by simp) dx Dig.nil
        unfold addV toldV at hs
        rw [if_pos ⟨hR, by decide⟩, num_nil, Nat.add_zero, if_pos (by omega), limbs_num dx cx] at hs
        exact Evt.bind hs (h := fun t _ => some (t.1, t.2)) (Evt.pure _)
    · rw [if_neg hf]
      exact Evt.ite_neg (by simpa using hf) (Evt.pure _)
  refine Evt.bind (may_ev n hn dn) ?_
  cases hm : mayV n with
  | false =>
    refine Evt.ite_neg (by simp) ((J true (by simp)).congr (fun k => rfl) ?_)
    simp
  | true =>
    refine Evt.ite_pos rfl ?_
    refine Evt.bind (Evt.of (fun _ => modint_Right_eq a x hx)) ?_
    refine (J (!intR a x) (fun h => ⟨hm, by simpa using h⟩)).congr (fun k => rfl) ?_
    cases hi : intR a x <;> simp
theorem fix_Decode_ev (n v : List Int) (hn : n.length ≤ maxLen) (hv : v.length ≤ maxLen) (dn : Dig (b64 : Int) n) (dv : Dig (b64 : Int) v) : Evt (fun k => fixenc_Decode.f k n v) (decV n v) := by
  unfold fixenc_Decode.f decV
  refine Evt.bind (may_ev n hn dn) ?_
  cases hm : mayV n with
  | false => exact Evt.ite_neg (by simp) ((Evt.pure _).congr (fun k => rfl) (by simp))
  | true =>
    obtain ⟨hRn, h8, h3⟩ := (mayV_iff n).1 hm
    have hlt := may_lt dn hm
    have J : ∀ b : Bool, (b = false → rightB v = true ∧ num v < num n) → Evt (fun k => fixenc_Decode.j0 k n v b) (if b = true then (false, [], 10) else (if num v ≤ halfV n then ((fromV false v).1, (fromV false v).2, 0) else ((fromV true (limbs (num n - num v))).1, (fromV true (limbs (num n - num v))).2, 0))) := by
      intro b hb
      refine Evt.succ ?_
      simp only [fixenc_Decode.j0]
      refine Evt.cond (fun _ => Evt.pure _) (fun hc => ?_)
      obtain ⟨hR, hvn⟩ := hb (by simpa using hc)
      obtain ⟨hv1, cv⟩ := (rightB_iff v).1 hR
      refine Evt.bind (fits_ev n v dn dv hm hR) ?_
      by_cases hf : num v ≤ halfV n
      · rw [if_pos hf]
        refine Evt.ite_pos (by simpa using hf) ?_
        exact Evt.bind (Evt.of (fun _ => modint_From_eq false v hv1)) (h := fun t _ => some (t.1, t.2, (0 : Int))) (Evt.pure _)
      · rw [if_neg hf]
        refine Evt.ite_neg (by simpa using hf) ?_
        have hs := nat_Sub_ev n v hn hv dn dv
        unfold subV at hs
        rw [if_pos ⟨hRn, hR⟩, if_neg (by omega)] at hs
        refine Evt.bind hs ?_
        exact Evt.bind (Evt.of (fun _ => modint_From_eq true (limbs (num n - num v)) (limbs_le64 (Nat.lt_of_le_of_lt (Nat.sub_le _ _) hlt)))) (h := fun t _ => some (t.1, t.2, (0 : Int))) (Evt.pure _)
    refine Evt.ite_pos rfl ?_
    refine Evt.bind (Evt.of (fun _ => nat_Right_eq hv)) ?_
    cases hR : rightB v with
    | false =>
      refine Evt.ite_neg (by simp) ((J true (by simp)).congr (fun k => rfl) ?_)
      simp
    | true =>
      refine Evt.ite_pos rfl ?_
      refine Evt.bind (nat_Cmp_ev v n hv hn dv dn) ?_
      unfold cmpV
      rw [if_pos ⟨hR, hRn⟩, cmpN_ge]
      refine (J (decide (num n ≤ num v)) (fun h => ⟨hR, by simpa using h⟩)).congr (fun k => rfl) ?_
      by_cases hvn : num n ≤ num v
      · have : ¬ num v < num n := by omega
        simp [hvn, this]
      · have : num v < num n := by omega
        simp [hvn, this]
theorem awake_ev : Evt (fun k => windbreaklaw07_awake.f k) true := by
  have d101 : Dig (b64 : Int) [101] := dig_one (by omega) (by omega)
  have d1 : Dig (b64 : Int) [1] := dig_one (by omega) (by omega)
  have d100 : Dig (b64 : Int) [100] := dig_one (by omega) (by omega)
  have e1 : encV [101] true [1] = ([100], 0) := by
    have n1 : num [101] = 101 := num_one (by omega)
    have n2 : num [1] = 1 := num_one (by omega)
    have n3 : num [100] = 100 := num_one (by omega)
    unfold encV mayV intR halfV
    rw [n1, n2]
    have := limbs_num d100 (Can.one (by omega))
    rw [n3] at this
    rw [if_pos ⟨by decide, by decide⟩, if_pos (by decide), if_pos rfl, this]
  unfold windbreaklaw07_awake.f
  have h := fix_Encode_ev [101] true [1] (by simp [maxLen]) (by simp [maxLen]) d101 d1
  rw [e1] at h
  refine Evt.bind h ?_
  exact Evt.ite_pos rfl (Evt.ite_pos rfl (Evt.ite_pos (by decide) (Evt.pure _)))
def mulV (a b : List Int) : List Int × Int := if rightB a = true ∧ rightB b = true then toldV (num a * num b) else ([], 1)
theorem nat_Mul_ev (a b : List Int) (ha : a.length ≤ maxLen) (hb : b.length ≤ maxLen) (da : Dig (b64 : Int) a) (db : Dig (b64 : Int) b) : Evt (fun k => nat_Mul.f k a b) (mulV a b) := by
  unfold nat_Mul.f mulV
  rw [nat_right_eq _ (by intro l hl; simp at hl; rcases hl with rfl | rfl <;> assumption)]
  simp only [Option.bind_some, List.all_cons, List.all_nil, Bool.and_true, Bool.and_eq_true]
  by_cases h : rightB a = true ∧ rightB b = true
  · rw [if_pos h]
    refine Evt.ite_pos h ?_
    obtain ⟨h1, c1⟩ := (rightB_iff a).1 h.1
    obtain ⟨h2, c2⟩ := (rightB_iff b).1 h.2
    have e : nat_product.f a b = some (limbs (num a * num b)) := by
      unfold nat_product.f
      rw [if_pos (by simp only [dig_limbB da, dig_limbB db, Bool.and_true, Bool.and_eq_true, decide_eq_true_eq]; omega)]
    refine Evt.bind (Evt.of fun _ => e) ?_
    have hl : (limbs (num a * num b)).length ≤ 128 := by
      refine toD_len_le b64_two ?_
      have g1 := num_lt_p da h1
      have g2 := num_lt_p db h2
      have g3 := Nat.mul_lt_mul'' g1 g2
      rw [← Nat.pow_add] at g3
      exact g3
    have ht := nat_told_ev (limbs (num a * num b)) (by omega) (toD_dig b64_two _)
    rw [num_limbs] at ht
    exact Evt.bind ht (h := fun t _ => some (t.1, t.2)) (Evt.pure _)
  · rw [if_neg h]
    exact Evt.ite_neg h (Evt.pure _)
theorem mi_right_eq (a : Bool) (l : List Int) (b : Bool) (m : List Int) (hl : l.length ≤ maxLen) (hm : m.length ≤ maxLen) : modint_right.f [⟨a, l⟩, ⟨b, m⟩] = some (intR a l && intR b m) := by
  simp only [modint_right.f, modint_Right_eq a l hl, modint_Right_eq b m hm, Option.bind_some]
  cases intR a l <;> cases intR b m <;> simp
theorem mi_right_s {a b : Bool} {m n : Nat} (hm : m < b64 ^ 64) (hn : n < b64 ^ 64) (ha : a = true → m ≠ 0) (hb : b = true → n ≠ 0) : modint_right.f [⟨a, limbs m⟩, ⟨b, limbs n⟩] = some true := by
  rw [mi_right_eq _ _ _ _ (limbs_max hm) (limbs_max hn), intR_s hm ha, intR_s hn hb]
  rfl
theorem mi_From {a : Bool} {m : Nat} (h : m < b64 ^ 64) : modint_From.f a (limbs m) = some (ofI (sI a m)) := by
  rw [modint_From_eq a _ (limbs_le64 h), fromV_s h]
theorem strip_one {x : Int} (h0 : 0 ≤ x) (h1 : x < 18446744073709551616) : strip [x] = limbs x.toNat := by
  rw [strip_limbs (dig_one h0 h1), num_one h0]
theorem b64_lt_pow {m : Nat} (h : m < b64) : m < b64 ^ 64 := Nat.lt_of_lt_of_le h (Nat.le_self_pow (by decide) b64)
theorem mi_Of_ev {x : Int} (h0 : -9223372036854775808 ≤ x) (h1 : x < 9223372036854775808) : Evt (fun k => modint_Of.f k x) (ofI x) := by
  have hb : b64 = 18446744073709551616 := rfl
  unfold modint_Of.f
  by_cases h : x < 0
  · refine Evt.ite_pos h ?_
    have e : IntKind.u64.wrap (-(IntKind.u64.wrap x)) = ((x.natAbs : Nat) : Int) := by rw [wu64, wu64]; omega
    rw [e]
    refine Evt.bind (nat_Of_ev _) ?_
    rw [strip_one (by omega) (by omega), Int.toNat_natCast]
    refine (Evt.of (fun _ => ?_))
    rw [mi_From (b64_lt_pow (by omega))]
    simp only [Option.bind_some, sI, if_true]
    rw [show -((x.natAbs : Nat) : Int) = x by omega]
  · refine Evt.ite_neg h ?_
    have e : IntKind.u64.wrap x = ((x.natAbs : Nat) : Int) := by rw [wu64]; omega
    rw [e]
    refine Evt.bind (nat_Of_ev _) ?_
    rw [strip_one (by omega) (by omega), Int.toNat_natCast]
    refine (Evt.of (fun _ => ?_))
    rw [mi_From (b64_lt_pow (by omega))]
    simp only [Option.bind_some, sI]
    rw [if_neg (by simp), show ((x.natAbs : Nat) : Int) = x by omega]
theorem toldV_of {m : Nat} (h : m < b64 ^ 64) : toldV m = (limbs m, 0) := by
  unfold toldV
  rw [if_pos h]
theorem mi_Add_s {a b : Bool} {m n : Nat} (hx : m < b64 ^ 30) (hy : n < b64 ^ 30) (ha : a = true → m ≠ 0) (hb : b = true → n ≠ 0) : Evt (fun k => modint_Add.f k a (limbs m) b (limbs n)) ((ofI (sI a m + sI b n)).1, (ofI (sI a m + sI b n)).2, 0) := by
  unfold modint_Add.f
  have hs := SmI.sum hx hy
  have hm : m < b64 ^ 64 := by omega
  have hn : n < b64 ^ 64 := by omega
  have rm := right_limbs' hm
  have rn := right_limbs' hn
  refine Evt.bind (Evt.of (fun _ => mi_right_s hm hn ha hb)) (Evt.ite_pos rfl ?_)
  by_cases hab : a = b
  · subst hab
    refine Evt.ite_pos (by simp) ?_
    have h1 := nat_Add_ev (limbs m) (limbs n) (limbs_max hm) (limbs_max hn) (dig_limbs' _) (dig_limbs' _)
    unfold addV at h1
    rw [if_pos ⟨rm, rn⟩, num_limbs, num_limbs, toldV_of hs] at h1
    refine Evt.bind h1 (Evt.of (fun _ => ?_))
    rw [mi_From hs, sI_add]
    rfl
  · refine Evt.ite_neg (by simpa using hab) ?_
    have h1 := nat_Cmp_ev (limbs m) (limbs n) (limbs_max hm) (limbs_max hn) (dig_limbs' _) (dig_limbs' _)
    unfold cmpV at h1
    rw [if_pos ⟨rm, rn⟩, num_limbs, num_limbs] at h1
    refine Evt.bind h1 ?_
    by_cases hlt : m < n
    · refine Evt.ite_pos (by unfold cmpN; rw [if_pos hlt]; omega) ?_
      have h2 := nat_Sub_ev (limbs n) (limbs m) (limbs_max hn) (limbs_max hm) (dig_limbs' _) (dig_limbs' _)
      unfold subV at h2
      rw [if_pos ⟨rn, rm⟩, num_limbs, num_limbs, if_neg (by omega)] at h2
      refine Evt.bind h2 (Evt.of (fun _ => ?_))
      rw [mi_From (Nat.lt_of_le_of_lt (Nat.sub_le _ _) hn), sI_sub (b := a) (fun e => hab e.symm) (by omega), Int.add_comm]
      rfl
    · refine Evt.ite_neg (by unfold cmpN; rw [if_neg hlt]; split <;> omega) ?_
      have h2 := nat_Sub_ev (limbs m) (limbs n) (limbs_max hm) (limbs_max hn) (dig_limbs' _) (dig_limbs' _)
      unfold subV at h2
      rw [if_pos ⟨rm, rn⟩, num_limbs, num_limbs, if_neg (by omega)] at h2
      refine Evt.bind h2 (Evt.of (fun _ => ?_))
      rw [mi_From (Nat.lt_of_le_of_lt (Nat.sub_le _ _) hm), sI_sub (b := b) hab (by omega)]
      rfl
theorem mi_Add_ev {x y : Int} (hx : SmI x) (hy : SmI y) : Evt (fun k => modint_Add.f k (ofI x).1 (ofI x).2 (ofI y).1 (ofI y).2) ((ofI (x + y)).1, (ofI (x + y)).2, 0) := by
  have h := mi_Add_s (a := decide (x < 0)) (b := decide (y < 0)) hx hy neg_abs neg_abs
  rw [sI_of, sI_of] at h
  exact h
theorem mi_Neg_eq {x : Int} (hx : SmI x) : modint_Neg.f (ofI x).1 (ofI x).2 = some (ofI (-x)) := by
  unfold modint_Neg.f
  rw [modint_Right_eq (ofI x).1 (ofI x).2 (limbs_max hx.lt), intR_of hx.lt]
  simp only [Option.bind_some, if_true]
  have e : sI (!(ofI x).1) x.natAbs = -x := by
    have h := sI_of x
    unfold sI at h ⊢
    show (if (!decide (x < 0)) = true then _ else _) = _
    cases hd : decide (x < 0) <;> rw [hd] at h <;> simp at h ⊢ <;> omega
  have h : modint_From.f (!(ofI x).1) (ofI x).2 = some (ofI (sI (!(ofI x).1) x.natAbs)) := mi_From hx.lt
  rw [h, e]
  rfl
theorem SmI.neg {x : Int} (h : SmI x) : SmI (-x) := by
  unfold SmI at h ⊢
  rwa [Int.natAbs_neg]
theorem mi_Sub_ev {x y : Int} (hx : SmI x) (hy : SmI y) : Evt (fun k => modint_Sub.f k (ofI x).1 (ofI x).2 (ofI y).1 (ofI y).2) ((ofI (x - y)).1, (ofI (x - y)).2, 0) := by
  unfold modint_Sub.f
  refine Evt.bind (Evt.of (fun _ => mi_right_s (a := decide (x < 0)) (b := decide (y < 0)) hx.lt hy.lt neg_abs neg_abs)) (Evt.ite_pos rfl ?_)
  refine Evt.bind (Evt.of (fun _ => mi_Neg_eq hy)) ?_
  exact Evt.bind (mi_Add_ev hx hy.neg) (h := fun t _ => some (t.1, t.2.1, t.2.2)) (Evt.pure _)
theorem mi_Mul_ev {x y : Int} (hx : SmI x) (hy : SmI y) : Evt (fun k => modint_Mul.f k (ofI x).1 (ofI x).2 (ofI y).1 (ofI y).2) ((ofI (x * y)).1, (ofI (x * y)).2, 0) := by
  unfold modint_Mul.f
  refine Evt.bind (Evt.of (fun _ => mi_right_s (a := decide (x < 0)) (b := decide (y < 0)) hx.lt hy.lt neg_abs neg_abs)) (Evt.ite_pos rfl ?_)
  have hs := SmI.prod hx hy
  have h1 := nat_Mul_ev (limbs x.natAbs) (limbs y.natAbs) (limbs_max hx.lt) (limbs_max hy.lt) (dig_limbs' _) (dig_limbs' _)
  unfold mulV at h1
  rw [if_pos ⟨right_limbs' hx.lt, right_limbs' hy.lt⟩, num_limbs, num_limbs, toldV_of hs] at h1
  refine Evt.bind h1 (Evt.of (fun _ => ?_))
  rw [mi_From hs]
  have e : sI ((ofI x).1 != (ofI y).1) (x.natAbs * y.natAbs) = x * y := by
    rw [sI_mul]
    show sI (decide (x < 0)) x.natAbs * sI (decide (y < 0)) y.natAbs = _
    rw [sI_of, sI_of]
  rw [e]
  rfl
theorem times2_ev {x : Int} {s : Nat} (hx : SmI x) (hs : s ≤ 64) : Evt (fun k => fixenc_times2.f k (ofI x).1 (ofI x).2 (s : Int)) (ofI (x * 2 ^ s)) := by
  unfold fixenc_times2.f
  have h2 : 2 ^ s ≤ b64 ^ 1 := pow2_le_b64 (by omega)
  have h3 : 2 ^ s < b64 ^ 30 := Nat.lt_of_le_of_lt h2 ((Nat.pow_lt_pow_iff_right (by decide)).2 (by decide))
  have hp := SmI.prod hx h3
  have h1 := nat_Shl_ev (limbs x.natAbs) (s : Int) (limbs_max hx.lt) (dig_limbs' _)
  unfold shlV at h1
  rw [if_pos ⟨right_limbs' hx.lt, by omega⟩, num_limbs, Int.toNat_natCast] at h1
  have h4 : (if (limbs x.natAbs).length = 0 then (([] : List Int), (0 : Int)) else if 4096 < (s : Int) then ([], 4) else toldV (x.natAbs * 2 ^ s)) = (limbs (x.natAbs * 2 ^ s), 0) := by
    by_cases h0 : x.natAbs = 0
    · rw [if_pos ((limbs_nil_iff _).2 h0), h0, Nat.zero_mul, limbs_zero]
    · rw [if_neg (fun e => h0 ((limbs_nil_iff _).1 e)), if_neg (by omega), toldV_of hp]
  rw [h4] at h1
  refine Evt.bind h1 (Evt.of (fun _ => ?_))
  rw [mi_From hp, sI_pow]
  have e : sI (ofI x).1 x.natAbs = x := sI_of x
  rw [e]
  rfl
theorem bl_big {m j : Nat} (h : 2 ^ j ≤ m) : j < bl m := (Nat.pow_lt_pow_iff_right (a := 2) (by decide)).1 (Nat.lt_of_le_of_lt h (bl_lt m))
theorem fix_Room_ev (n : List Int) (r m w : Int) (hn : n.length ≤ maxLen) (dn : Dig (b64 : Int) n) (hr0 : -9223372036854775808 ≤ r) (hr1 : r < 9223372036854775808) (hm0 : -9223372036854775808 ≤ m) (hm1 : m < 9223372036854775808) (hw0 : -9223372036854775808 ≤ w) (hw1 : w < 9223372036854775808) : Evt (fun k => fixenc_Room.f k n r m w) (roomV n r m w) := by
  unfold fixenc_Room.f roomV
  refine Evt.bind (may_ev n hn dn) ?_
  have J1 : ∀ (q : Nat) (b : Bool), mayV n = true → (b = false → q ≤ 62) → Evt (fun k => fixenc_Room.j1 k n r m (q : Int) b) (if b = true then (0, 12) else (if ((r * m + 1) * 2 ^ q - 1).natAbs ≤ halfV n then ((q : Int), 0) else (0, 12))) := by
    intro q b hm hb
    refine Evt.succ ?_
    simp only [fixenc_Room.j1]
    refine Evt.cond (fun _ => Evt.pure _) (fun hc => ?_)
    have hq := hb (by simpa using hc)
    have zr := Sz.i64 hr0 hr1
    have zm := Sz.i64 hm0 hm1
    have z1 := Sz.i64 (x := 1) (by omega) (by omega)
    have zp := Sz.mul zr zm
    have zs := Sz.add zp (z1.mono (show 1 ≤ 1 + 1 by omega))
    have zt := Sz.mul zs (Sz.pow (s := q) (by omega))
    have zu := Sz.sub zt (z1.mono (show 1 ≤ 1 + 1 + 1 + 2 by omega))
    refine Evt.bind (mi_Of_ev hr0 hr1) ?_
    refine Evt.bind (mi_Of_ev hm0 hm1) ?_
    refine Evt.bind (mi_Mul_ev (zr.smI (by omega)) (zm.smI (by omega))) ?_
    refine Evt.bind (mi_Of_ev (x := 1) (by omega) (by omega)) ?_
    refine Evt.bind (mi_Add_ev (zp.smI (by omega)) (z1.smI (by omega))) ?_
    refine Evt.bind (times2_ev (zs.smI (by omega)) (by omega)) ?_
    refine Evt.bind (mi_Of_ev (x := 1) (by omega) (by omega)) ?_
    refine Evt.bind (mi_Sub_ev (zt.smI (by omega)) (z1.smI (by omega))) ?_
    have hf := fits_ev n (ofI ((r * m + 1) * 2 ^ q - 1)).2 dn (dig_limbs' _) hm (right_limbs' (zu.smI (by omega)).lt)
    have en : num (ofI ((r * m + 1) * 2 ^ q - 1)).2 = ((r * m + 1) * 2 ^ q - 1).natAbs := num_limbs _
    rw [en] at hf
    refine Evt.bind hf ?_
    exact Evt.cond' (fun h => by rw [if_pos (of_decide_eq_true h)]; exact Evt.pure _) (fun h => by rw [if_neg (by simpa using h)]; exact Evt.pure _)
  have J : ∀ b : Bool, (b = false → mayV n = true ∧ 1 ≤ r ∧ 1 ≤ m ∧ 1 ≤ w) → Evt (fun k => fixenc_Room.j0 k n r m w b) (if b = true then (0, 1) else (if bl (r * w).toNat ≤ 62 then (if ((r * m + 1) * 2 ^ bl (r * w).toNat - 1).natAbs ≤ halfV n then ((bl (r * w).toNat : Int), 0) else (0, 12)) else (0, 12))) := by
    intro b hb
    refine Evt.succ ?_
    simp only [fixenc_Room.j0]
    refine Evt.cond (fun _ => Evt.pure _) (fun hc => ?_)
    obtain ⟨hm, h1, h2, h3⟩ := hb (by simpa using hc)
    rw [wu64_of (x := r) (by omega) (by omega), wu64_of (x := w) (by omega) (by omega)]
    obtain ⟨hi, lo, e1, e2, e3, e4⟩ := bits_Mul64_eq (x := r) (y := w) ⟨by omega, by omega⟩ ⟨by omega, by omega⟩
    refine Evt.bind (Evt.of (fun _ => e1)) ?_
    refine Evt.bind (bits_Len64_ev e4.1 e4.2) ?_
    by_cases hh : hi > 0
    · refine Evt.ite_pos hh ((J1 _ true hm (by simp)).congr (fun k => rfl) ?_)
      have h64 : 64 < bl (r * w).toNat := bl_big (by omega)
      rw [if_pos rfl, if_neg (by omega)]
    · have hi0 : hi = 0 := by omega
      have elo : lo = r * w := by rw [hi0] at e2; omega
      rw [elo]
      refine Evt.ite_neg hh ((J1 _ _ hm (fun e => by have h' := of_decide_eq_false e; omega)).congr (fun k => rfl) ?_)
      by_cases hq : bl (r * w).toNat ≤ 62
      · rw [if_neg (by simp; omega), if_pos hq]
      · rw [if_pos (by simp; omega), if_neg hq]
  cases hm : mayV n with
  | false =>
    refine Evt.ite_neg (by simp) ((J true (by simp)).congr (fun k => rfl) ?_)
    simp
  | true =>
    refine Evt.ite_pos rfl ?_
    by_cases h1 : r < 1
    · refine Evt.ite_pos h1 ((J true (by simp)).congr (fun k => rfl) ?_)
      rw [if_pos rfl, if_neg (fun e => absurd e.2.1 (by omega))]
    · refine Evt.ite_neg h1 ?_
      by_cases h2 : m < 1
      · refine Evt.ite_pos h2 ((J true (by simp)).congr (fun k => rfl) ?_)
        rw [if_pos rfl, if_neg (fun e => absurd e.2.2.1 (by omega))]
      · refine Evt.ite_neg h2 ((J _ (fun e => ⟨hm, by omega, by omega, by have : ¬ w < 1 := by simpa using e
                                                                          omega⟩)).congr (fun k => rfl) ?_)
        by_cases h3 : w < 1
        · rw [if_pos (by simpa using h3), if_neg (fun e => absurd e.2.2.2 (by omega))]
        · rw [if_neg (by simpa using h3), if_pos (show true = true ∧ 1 ≤ r ∧ 1 ≤ m ∧ 1 ≤ w from ⟨rfl, by omega, by omega, by omega⟩)]
theorem nat_Div_ev (a b : List Int) (ha : a.length ≤ maxLen) (hb : b.length ≤ maxLen) (da : Dig (b64 : Int) a) (db : Dig (b64 : Int) b) : Evt (fun k => nat_Div.f k a b) (divV a b) := by
  unfold nat_Div.f divV
  rw [nat_right_eq _ (by intro l hl; simp at hl; rcases hl with rfl | rfl <;> assumption)]
  simp only [Option.bind_some, List.all_cons, List.all_nil, Bool.and_true, Bool.and_eq_true]
  by_cases h : rightB a = true ∧ rightB b = true
  · rw [if_pos h]
    refine Evt.ite_pos h ?_
    obtain ⟨h1, c1⟩ := (rightB_iff a).1 h.1
    obtain ⟨h2, c2⟩ := (rightB_iff b).1 h.2
    have hz := num_zero_iff db c2
    by_cases h0 : b.length = 0
    · rw [if_pos (hz.2 h0)]
      exact Evt.ite_pos (by omega) (Evt.pure _)
    · have hnz : num b ≠ 0 := fun e => h0 (hz.1 e)
      rw [if_neg hnz]
      refine Evt.ite_neg (by omega) ?_
      refine Evt.bind (nat_compare_ev a b da db c1 c2 (by omega)) ?_
      by_cases hlt : num a < num b
      · refine Evt.ite_pos (by unfold cmpN; rw [if_pos hlt]; omega) ?_
        refine Evt.bind (Evt.of (fun _ => clone_ev a (by omega))) ?_
        rw [Nat.div_eq_of_lt hlt, Nat.mod_eq_of_lt hlt, limbs_num da c1]
        rw [show limbs 0 = [] from toD_zero b64]
        exact Evt.pure _
      · refine Evt.ite_neg (by unfold cmpN; rw [if_neg hlt]; split <;> omega) ?_
        by_cases h3 : b.length = 1
        · obtain ⟨x, rfl⟩ : ∃ x, b = [x] := List.length_eq_one_iff.1 h3
          have hx := (Dig.cons.1 db).1
          have hx0 : num [x] = x.toNat := num_one hx.1
          refine Evt.ite_pos (by simp) (Evt.ite_pos (by simp) ?_)
          have hr : rd [x] 0 = x := rfl
          rw [hr]
          rw [hx0] at hnz ⊢
          have hB : (b64 : Int) = 18446744073709551616 := rfl
          rw [hB] at hx
          refine Evt.bind (nat_short_ev a x da (by omega) (by omega) hx.2) ?_
          refine (Evt.bind (nat_Of_ev ((num a % x.toNat : Nat) : Int)) (h := fun t _ => some (limbs (num a / x.toNat), t, (0 : Int))) (Evt.pure _)).congr (fun k => rfl) ?_
          have hm : num a % x.toNat < x.toNat := Nat.mod_lt _ (by omega)
          have dr : Dig (b64 : Int) [((num a % x.toNat : Nat) : Int)] := Dig.cons.2 ⟨by rw [hB]; omega, Dig.nil⟩
          rw [strip_limbs dr, num_one (by omega), Int.toNat_natCast]
        · refine Evt.ite_neg (by omega) ?_
          have hab := num_len_le db c2 da (by omega)
          exact Evt.bind (nat_long_ev a b da db c2 (by omega) hab (by omega)) (h := fun t _ => some (t.1, t.2, (0 : Int))) (Evt.pure _)
  · rw [if_neg h]
    exact Evt.ite_neg h (Evt.pure _)
theorem mi_Floor_s {a : Bool} {m n : Nat} (hm : m < b64 ^ 30) (hn : n < b64 ^ 30) (ha : a = true → m ≠ 0) (h0 : 0 < n) : Evt (fun k => modint_Floor.f k a (limbs m) false (limbs n)) ((ofI (sI a m / (n : Int))).1, (ofI (sI a m / (n : Int))).2, (ofI (sI a m % (n : Int))).1, (ofI (sI a m % (n : Int))).2, 0) := by
  have km : m < b64 ^ 64 := Nat.lt_of_lt_of_le hm (Nat.pow_le_pow_right (by decide) (by decide))
  have kn : n < b64 ^ 64 := Nat.lt_of_lt_of_le hn (Nat.pow_le_pow_right (by decide) (by decide))
  have kq := div_lt_lim (n := n) hm
  have kq' : m / n < b64 ^ 64 := by omega
  have kr : m % n < b64 ^ 64 := Nat.lt_of_le_of_lt (Nat.mod_le _ _) km
  unfold modint_Floor.f
  refine Evt.bind (Evt.of (fun _ => mi_right_s km kn ha (by simp))) (Evt.ite_pos rfl ?_)
  refine Evt.ite_neg (fun e => by have := (limbs_nil_iff n).1 (by omega); omega) (Evt.ite_neg (by simp) ?_)
  have h1 := nat_Div_ev (limbs m) (limbs n) (limbs_max km) (limbs_max kn) (dig_limbs' _) (dig_limbs' _)
  unfold divV at h1
  rw [if_pos ⟨right_limbs' km, right_limbs' kn⟩, num_limbs, num_limbs, if_neg (by omega)] at h1
  refine Evt.bind h1 ?_
  have J0 : Evt (fun k => modint_Floor.j0 k (limbs (m / n)) (limbs (m % n)) false a (limbs m) false (limbs n)) ((ofI (sI a (m / n))).1, (ofI (sI a (m / n))).2, (ofI (sI false (m % n))).1, (ofI (sI false (m % n))).2, 0) := by
    refine Evt.succ ?_
    simp only [modint_Floor.j0]
    refine Evt.ite_neg (by simp) (Evt.of (fun _ => ?_))
    rw [mi_From kq', mi_From kr]
    rfl
  cases a with
  | false =>
    refine Evt.ite_neg (by simp) (J0.congr (fun k => rfl) ?_)
    rfl
  | true =>
    refine Evt.ite_pos rfl ?_
    have hf := floor_neg (m := m) h0
    by_cases hr : m % n = 0
    · have e1 : decide (((limbs (m % n)).length : Int) > 0) = false := by
        rw [hr, limbs_zero]; rfl
      rw [e1]
      refine J0.congr (fun k => rfl) ?_
      rw [show sI true m = -(m : Int) from rfl]
      rw [if_pos hr, if_pos hr] at hf
      rw [hf.1, hf.2, hr]
      rfl
    · have e1 : decide (((limbs (m % n)).length : Int) > 0) = true := by
        have : (limbs (m % n)).length ≠ 0 := fun e => hr ((limbs_nil_iff _).1 e)
        simp; omega
      rw [e1]
      refine Evt.succ ?_
      simp only [modint_Floor.j0]
      refine Evt.ite_pos (by trivial) ?_
      refine Evt.bind (nat_Of_ev _) ?_
      rw [strip_one (by omega) (by omega)]
      have h2 := nat_Add_ev (limbs (m / n)) (limbs (1 : Int).toNat) (limbs_max kq') (limbs_max (m := 1) (by decide)) (dig_limbs' _) (dig_limbs' _)
      unfold addV at h2
      rw [if_pos ⟨right_limbs' kq', right_limbs' (v := 1) (by decide)⟩, num_limbs, num_limbs, show (1 : Int).toNat = 1 from rfl, toldV_of kq] at h2
      refine Evt.bind h2 (Evt.ite_pos rfl ?_)
      have h3 := nat_Sub_ev (limbs n) (limbs (m % n)) (limbs_max kn) (limbs_max kr) (dig_limbs' _) (dig_limbs' _)
      unfold subV at h3
      have hlt := Nat.mod_lt m h0
      rw [if_pos ⟨right_limbs' kn, right_limbs' kr⟩, num_limbs, num_limbs, if_neg (by omega)] at h3
      refine Evt.bind h3 (Evt.of (fun _ => ?_))
      rw [mi_From kq, mi_From (Nat.lt_of_le_of_lt (Nat.sub_le _ _) kn)]
      rw [if_neg hr, if_neg hr] at hf
      rw [show sI true m = -(m : Int) from rfl]
      rw [hf.1, hf.2]
      rfl
theorem mi_Floor_ev {x y : Int} (hx : SmI x) (hy : SmI y) (h0 : 0 < y) : Evt (fun k => modint_Floor.f k (ofI x).1 (ofI x).2 (ofI y).1 (ofI y).2) ((ofI (x / y)).1, (ofI (x / y)).2, (ofI (x % y)).1, (ofI (x % y)).2, 0) := by
  have h := mi_Floor_s (a := decide (x < 0)) (m := x.natAbs) (n := y.natAbs) hx hy neg_abs (by omega)
  rw [sI_of, show ((y.natAbs : Nat) : Int) = y by omega] at h
  have e : (ofI y).1 = false := decide_eq_false (by omega)
  rw [e]
  exact h
theorem mi_Small_ev {x : Int} (hx : SmI x) : Evt (fun k => modint_Small.f k (ofI x).1 (ofI x).2) (smI x) := by
  have hb : b64 = 18446744073709551616 := rfl
  unfold modint_Small.f
  refine Evt.bind (nat_Small_ev _ (limbs_max hx.lt)) ?_
  have es : smallV (ofI x).2 = if x.natAbs < b64 then ((x.natAbs : Int), true) else (0, false) := small_limbs hx.lt
  rw [es]
  have hr : modint_Right.f (ofI x).1 (ofI x).2 = some true := by rw [modint_Right_eq (ofI x).1 (ofI x).2 (limbs_max hx.lt), intR_of hx.lt]
  have J1 : ∀ (v : Int) (b : Bool), Evt (fun k => modint_Small.j1 k v b (ofI x).1 (ofI x).2) (if b = true then (0, false) else (if (ofI x).1 = true then (wrap64 (IntKind.u64.wrap (-v)), true) else (wrap64 v, true))) := by
    intro v b
    refine Evt.succ ?_
    simp only [modint_Small.j1]
    exact Evt.cond (fun _ => Evt.pure _) (fun _ => Evt.cond (fun _ => Evt.pure _) (fun _ => Evt.pure _))
  have J0 : ∀ (v : Int) (ok : Bool) (most : Int), Evt (fun k => modint_Small.j0 k v ok most (ofI x).1 (ofI x).2) (if ok = true ∧ v ≤ most then (if (ofI x).1 = true then (wrap64 (IntKind.u64.wrap (-v)), true) else (wrap64 v, true)) else (0, false)) := by
    intro v ok most
    refine Evt.succ ?_
    simp only [modint_Small.j0]
    rw [hr]
    simp only [Option.bind_some, if_true]
    cases ok with
    | false => exact Evt.ite_neg (by simp) ((J1 v true).congr (fun k => rfl) (by simp))
    | true =>
      refine Evt.ite_pos rfl ((J1 v _).congr (fun k => rfl) ?_)
      by_cases h : v ≤ most
      · have : ¬ v > most := by omega
        simp [h, this]
      · have : v > most := by omega
        simp [h, this]
  have ex : (ofI x).1 = decide (x < 0) := rfl
  have key : ∀ (v : Int) (ok : Bool) (most : Int), (v = (if x.natAbs < b64 then (x.natAbs : Int) else 0)) → ok = decide (x.natAbs < b64) → most = (if x < 0 then 9223372036854775808 else 9223372036854775807) → Evt (fun k => modint_Small.j0 k v ok most (ofI x).1 (ofI x).2) (smI x) := by
    intro v ok most hv hok hmost
    refine (J0 v ok most).congr (fun k => rfl) ?_
    unfold smI
    rw [ex, hb] at *
    by_cases hbig : x.natAbs < 18446744073709551616
    · rw [if_pos hbig] at hv
      rw [decide_eq_true hbig] at hok
      subst hok hv
      by_cases hn : x < 0
      · rw [if_pos hn] at hmost
        subst hmost
        by_cases hin : -9223372036854775808 ≤ x
        · rw [if_pos ⟨rfl, by omega⟩, if_pos (decide_eq_true hn), if_pos ⟨hin, by omega⟩, wu64]
          congr 1
          unfold wrap64
          omega
        · rw [if_neg (fun e => by omega), if_neg (fun e => by omega)]
      · rw [if_neg hn] at hmost
        subst hmost
        by_cases hin : x < 9223372036854775808
        · rw [if_pos ⟨rfl, by omega⟩, if_neg (by simpa using hn), if_pos ⟨by omega, hin⟩]
          congr 1
          unfold wrap64
          omega
        · rw [if_neg (fun e => by omega), if_neg (fun e => by omega)]
    · rw [decide_eq_false hbig] at hok
      subst hok
      rw [if_neg (by simp), if_neg (by omega)]
  by_cases hn : x < 0
  · refine Evt.ite_pos (by rw [ex]; exact decide_eq_true hn) (key _ _ _ ?_ ?_ ?_)
    · split <;> rfl
    · by_cases h : x.natAbs < b64
      · rw [if_pos h, decide_eq_true h]
      · rw [if_neg h, decide_eq_false h]
    · rw [if_pos hn]; rfl
  · refine Evt.ite_neg (by rw [ex]; simpa using hn) (key _ _ _ ?_ ?_ ?_)
    · split <;> rfl
    · by_cases h : x.natAbs < b64
      · rw [if_pos h, decide_eq_true h]
      · rw [if_neg h, decide_eq_false h]
    · rw [if_neg hn]
theorem fix_Unpack_ev (n : List Int) (s : Int) (v : List Int) (hn : n.length ≤ maxLen) (dn : Dig (b64 : Int) n) (hv : v.length ≤ maxLen) (dv : Dig (b64 : Int) v) : Evt (fun k => fixenc_Unpack.f k n s v) (unpackV n s v) := by
  unfold fixenc_Unpack.f unpackV
  refine Evt.bind (may_ev n hn dn) ?_
  have J : ∀ b : Bool, (b = false → mayV n = true ∧ 1 ≤ s ∧ s ≤ 62) → Evt (fun k => fixenc_Unpack.j0 k n s v b) (if b = true then (0, 0, 1) else (if rightB v = true ∧ num v < num n then (if -9223372036854775808 ≤ decI n v / 2 ^ s.toNat ∧ decI n v / 2 ^ s.toNat < 9223372036854775808 then (decI n v / 2 ^ s.toNat, decI n v % 2 ^ s.toNat, 0) else (0, 0, 12)) else (0, 0, 10))) := by
    intro b hb
    refine Evt.succ ?_
    simp only [fixenc_Unpack.j0]
    refine Evt.cond (fun _ => Evt.pure _) (fun hc => ?_)
    obtain ⟨hm, h1, h2⟩ := hb (by simpa using hc)
    obtain ⟨q, rfl⟩ : ∃ q : Nat, s = (q : Int) := ⟨s.toNat, by omega⟩
    rw [Int.toNat_natCast]
    refine Evt.bind (fix_Decode_ev n v hn hv dn dv) ?_
    rw [decV_eq dn dv hm]
    by_cases hR : rightB v = true ∧ num v < num n
    · rw [if_pos hR, if_pos hR]
      refine Evt.ite_pos rfl ?_
      have z0 := decI_sz dn hm hR.2
      have hp : (0 : Int) < 2 ^ q := Int.pow_pos (by omega)
      refine Evt.bind (mi_Of_ev (x := 1) (by omega) (by omega)) ?_
      refine Evt.bind (times2_ev (x := 1) ((Sz.i64 (x := 1) (by omega) (by omega)).smI (by omega)) (by omega)) ?_
      rw [Int.one_mul]
      refine Evt.bind (mi_Floor_ev (z0.smI (by omega)) ((Sz.pow (s := q) (by omega)).smI (by omega)) hp) ?_
      have z1 := Sz.ediv z0 hp
      refine Evt.bind (mi_Small_ev (z1.smI (by omega))) ?_
      rw [smI_of]
      by_cases hin : -9223372036854775808 ≤ decI n v / 2 ^ q ∧ decI n v / 2 ^ q < 9223372036854775808
      · rw [if_pos hin, if_pos hin]
        refine Evt.ite_pos rfl ?_
        obtain ⟨m0, m1⟩ := mod_pow_i64 (decI n v) (q := q) (by omega)
        have h4 := mi_Small_ev ((Sz.i64 (x := decI n v % 2 ^ q) (by omega) m1).smI (by omega))
        rw [smI_of, if_pos ⟨by omega, m1⟩] at h4
        exact Evt.bind h4 (h := fun t _ => some (decI n v / 2 ^ q, t.1, (0 : Int))) (Evt.pure _)
      · rw [if_neg hin, if_neg hin]
        exact Evt.ite_neg (by simp) (Evt.pure _)
    · rw [if_neg hR, if_neg hR]
      exact Evt.ite_neg (by simp) (Evt.pure _)
  cases hm : mayV n with
  | false =>
    refine Evt.ite_neg (by simp) ((J true (by simp)).congr (fun k => rfl) ?_)
    simp
  | true =>
    refine Evt.ite_pos rfl ?_
    by_cases h1 : s < 1
    · refine Evt.ite_pos h1 ((J true (by simp)).congr (fun k => rfl) ?_)
      rw [if_pos rfl, if_neg (fun e => absurd e.2.1 (by omega))]
    · refine Evt.ite_neg h1 ((J _ (fun e => ⟨hm, by omega, by simpa using e⟩)).congr (fun k => rfl) ?_)
      have h1' : 1 ≤ s := by omega
      by_cases h2 : s ≤ 62
      · have h3 : ¬ s > 62 := by omega
        simp [h1', h2, h3]
      · have h3 : s > 62 := by omega
        simp [h2, h3]
theorem ref_Div_ev (a b : List Int) (ha : a.length ≤ maxLen) (hb : b.length ≤ maxLen) (da : Dig (b64 : Int) a) (db : Dig (b64 : Int) b) : Evt (fun k => windbreakref01_Div.f k a b) (divV a b) := by
  unfold windbreakref01_Div.f divV
  rw [windbreakref01_Right_eq ha, windbreakref01_Right_eq hb]
  simp only [Option.bind_some]
  have J : ∀ x : Bool, (x = false → rightB a = true ∧ rightB b = true) → Evt (fun k => windbreakref01_Div.j0 k a b x) (if x = true then ([], [], 1) else (if num b = 0 then ([], [], 3) else (limbs (num a / num b), limbs (num a % num b), 0))) := by
    intro x hx
    refine Evt.succ ?_
    simp only [windbreakref01_Div.j0]
    refine Evt.cond (fun _ => Evt.pure _) (fun hc => ?_)
    have h := hx (by simpa using hc)
    obtain ⟨h1, c1⟩ := (rightB_iff a).1 h.1
    obtain ⟨h2, c2⟩ := (rightB_iff b).1 h.2
    have hz := num_zero_iff db c2
    by_cases h0 : b.length = 0
    · rw [if_pos (hz.2 h0)]
      exact Evt.ite_pos (by omega) (Evt.pure _)
    · have hnz : num b ≠ 0 := fun e => h0 (hz.1 e)
      rw [if_neg hnz]
      refine Evt.ite_neg (by omega) ?_
      have n1 := num_lt_p da h1
      have n2 := num_lt_p db h2
      have n3 := pow_lt_lim (n := 64) (by omega)
      have e1 : num a / num b ≤ num a := Nat.div_le_self _ _
      have e2 : num a % num b ≤ num a := Nat.mod_le _ _
      have n4 : num b * 65536 < lim := by
        have g1 : num b * 65536 < b64 ^ 64 * b64 := Nat.mul_lt_mul'' n2 (by decide)
        rw [← Nat.pow_succ] at g1
        exact Nat.lt_of_lt_of_le g1 (lim_pow (by omega))
      refine Evt.bind (ref_In_ev a (by omega) da) (Evt.bind (ref_In_ev b (by omega) db) ?_)
      refine Evt.bind (ref_div_ev (num a) (num b) (by omega) (by omega) n4) ?_
      refine Evt.bind (ref_Out_ev (num a / num b) (by omega)) ?_
      exact Evt.bind (ref_Out_ev (num a % num b) (by omega)) (h := fun t _ => some (limbs (num a / num b), t.1, (0 : Int))) (Evt.pure _)
  cases hA : rightB a with
  | true =>
    refine Evt.ite_pos rfl ((J _ (fun h => ⟨hA, by simpa using h⟩)).congr (fun k => rfl) ?_)
    cases hB : rightB b <;> simp
  | false =>
    refine Evt.ite_neg (by simp) ((J _ (fun h => by simp at h)).congr (fun k => rfl) ?_)
    simp
theorem ref_Rest_ev (a b : List Int) (ha : a.length ≤ maxLen) (hb : b.length ≤ maxLen) (da : Dig (b64 : Int) a) (db : Dig (b64 : Int) b) : Evt (fun k => windbreakref01_Rest.f k a b) (divV a b).2.1 := by
  unfold windbreakref01_Rest.f
  exact Evt.bind (ref_Div_ev a b ha hb da db) (h := fun t _ => some t.2.1) (Evt.pure _)
end Go.Proofs.Ytnaphgnkhhapoab.Z
end
section
namespace Go.Proofs.Ytnaphgnkhhapoab.Z
open Go.RowKit Go.Proofs.Ytnaphgnkhhapoab.F Go.Proofs.YtnaphgnkhhapoabW.PrintWords Go.Proofs.YtnaphgnkhhapoabW.PrintMore
set_option linter.unusedSimpArgs false
set_option linter.unusedVariables false
theorem shr_i64 (x : Int) (s : Nat) (hs : s ≤ 64) : shr .i64 x (s : Int) = x / 2 ^ s := by
  unfold shr
  simp only [IntKind.bits, Int.toNat_natCast]
  rw [show min s 64 = s from by omega]
theorem shr_zero_iff {x : Int} (h : 0 ≤ x) (s : Nat) : x / 2 ^ s = 0 ↔ x < 2 ^ s := by
  have hp : (0 : Int) < 2 ^ s := Int.pow_pos (by omega)
  constructor
  · intro e
    have h1 := Int.emod_lt_of_pos x hp
    have h2 := Int.emod_add_mul_ediv x (2 ^ s)
    rw [e] at h2
    omega
  · intro h1
    exact Int.ediv_eq_zero_of_lt h h1
theorem fix_Pack_ev (n : List Int) (s g h : Int) (hn : n.length ≤ maxLen) (dn : Dig (b64 : Int) n) (hg0 : -9223372036854775808 ≤ g) (hg1 : g < 9223372036854775808) (hh0 : -9223372036854775808 ≤ h) (hh1 : h < 9223372036854775808) : Evt (fun k => fixenc_Pack.f k n s g h) (packV n s g h) := by
  unfold fixenc_Pack.f packV
  refine Evt.bind (may_ev n hn dn) ?_
  have J : ∀ b : Bool, (b = false → mayV n = true ∧ 1 ≤ s ∧ s ≤ 62) → Evt (fun k => fixenc_Pack.j0 k n s g h b) (if b = true then ([], 1) else (if h < 0 ∨ 2 ^ s.toNat ≤ h then ([], 12) else encV n (ofI (g * 2 ^ s.toNat + h)).1 (ofI (g * 2 ^ s.toNat + h)).2)) := by
    intro b hb
    refine Evt.succ ?_
    simp only [fixenc_Pack.j0]
    refine Evt.cond (fun _ => Evt.pure _) (fun hc => ?_)
    obtain ⟨hm, h1, h2⟩ := hb (by simpa using hc)
    by_cases h0 : h < 0
    · rw [if_pos (Or.inl h0)]
      exact Evt.ite_pos h0 (Evt.pure _)
    · refine Evt.ite_neg h0 (Evt.ite_pos (by omega) ?_)
      obtain ⟨q, rfl⟩ : ∃ q : Nat, s = (q : Int) := ⟨s.toNat, by omega⟩
      rw [Int.toNat_natCast, shr_i64 h q (by omega)]
      by_cases h3 : h < 2 ^ q
      · rw [if_neg (by omega)]
        refine Evt.ite_pos ((shr_zero_iff (by omega) q).2 h3) ?_
        refine Evt.bind (mi_Of_ev hg0 hg1) ?_
        refine Evt.bind (times2_ev ((Sz.i64 hg0 hg1).smI (by omega)) (by omega)) ?_
        refine Evt.bind (mi_Of_ev hh0 hh1) ?_
        have z1 := Sz.mul (Sz.i64 hg0 hg1) (Sz.pow (s := q) (by omega))
        have z2 := Sz.mono (Sz.i64 hh0 hh1) (show 1 ≤ 3 by omega)
        refine Evt.bind (mi_Add_ev (z1.smI (by omega)) (z2.smI (by omega))) ?_
        have z3 := Sz.add z1 z2
        exact Evt.bind (fix_Encode_ev n (ofI (g * 2 ^ q + h)).1 (ofI (g * 2 ^ q + h)).2 hn (limbs_max (z3.smI (by omega)).lt) dn (dig_limbs' _)) (h := fun t _ => some (t.1, t.2)) (Evt.pure _)
      · rw [if_pos (by omega)]
        refine Evt.ite_neg (fun e => h3 ((shr_zero_iff (by omega) q).1 e)) (Evt.pure _)
  cases hm : mayV n with
  | false =>
    refine Evt.ite_neg (by simp) ((J true (by simp)).congr (fun k => rfl) ?_)
    simp
  | true =>
    refine Evt.ite_pos rfl ?_
    by_cases h1 : s < 1
    · refine Evt.ite_pos h1 ((J true (by simp)).congr (fun k => rfl) ?_)
      rw [if_pos rfl, if_neg (fun e => absurd e.2.1 (by omega))]
    · refine Evt.ite_neg h1 ((J _ (fun e => ⟨hm, by omega, by simpa using e⟩)).congr (fun k => rfl) ?_)
      have h1' : 1 ≤ s := by omega
      by_cases h2 : s ≤ 62
      · have h3 : ¬ s > 62 := by omega
        simp [h1', h2, h3]
      · have h3 : s > 62 := by omega
        simp [h2, h3]
end Go.Proofs.Ytnaphgnkhhapoab.Z
end
section
namespace Go.Proofs.Ytnaphgnkhhapoab.Pure
open Go.RowKit Go.Proofs.Ytnaphgnkhhapoab.F Go.Proofs.Ytnaphgnkhhapoab.Z
set_option linter.unusedSimpArgs false
set_option linter.unusedVariables false
def byN (N : Nat) (x : Int) : Nat := (x % (N : Int)).toNat
theorem byN_lt {N : Nat} (h : 0 < N) (x : Int) : byN N x < N := by
  have h1 := Int.emod_nonneg x (show (N : Int) ≠ 0 by omega)
  have h2 := Int.emod_lt_of_pos x (show (0 : Int) < N by omega)
  unfold byN
  omega
theorem byN_cast {N : Nat} (h : 0 < N) (x : Int) : ((byN N x : Nat) : Int) = x % (N : Int) := by
  have h1 := Int.emod_nonneg x (show (N : Int) ≠ 0 by omega)
  unfold byN
  omega
theorem byN_add {N : Nat} (h : 0 < N) (x y : Int) : (byN N x + byN N y) % N = byN N (x + y) := by
  have e : (((byN N x + byN N y) % N : Nat) : Int) = ((byN N (x + y) : Nat) : Int) := by
    rw [Int.natCast_emod, Int.natCast_add, byN_cast h, byN_cast h, byN_cast h, ← Int.add_emod]
  exact Int.ofNat.inj e
theorem byN_enc {N : Nat} {x : Int} (h : x.natAbs ≤ (N - 1) / 2) (hN : 3 ≤ N) : byN N x = if x < 0 then N - x.natAbs else x.natAbs := by
  unfold byN
  by_cases hx : x < 0
  · rw [if_pos hx, ← Int.add_emod_right, Int.emod_eq_of_lt (by omega) (by omega)]
    omega
  · rw [if_neg hx, Int.emod_eq_of_lt (by omega) (by omega)]
    omega
structure Rm (n : List Int) (a b c : Int) (q : Nat) : Prop where
  dn : Dig (b64 : Int) n
  ln : n.length ≤ maxLen
  may : mayV n = true
  a1 : 1 ≤ a
  b1 : 1 ≤ b
  c1 : 1 ≤ c
  b2 : b < 9223372036854775808
  c2 : c < 9223372036854775808
  q1 : 1 ≤ q
  q2 : q ≤ 62
  low : a * c < 2 ^ q
  room : (a * b + 1) * 2 ^ q - 1 ≤ (halfV n : Int)
theorem Rm.fits {n : List Int} {a b c : Int} {q : Nat} (R : Rm n a b c q) {G H : Int} (g0 : -(a * b) ≤ G) (g1 : G ≤ a * b) (h0 : 0 ≤ H) (h1 : H < 2 ^ q) : (G * 2 ^ q + H).natAbs ≤ halfV n := by
  have hr := R.room
  have hp : (0 : Int) < 2 ^ q := Int.pow_pos (by omega)
  have e1 := Int.mul_le_mul_of_nonneg_right g0 (Int.le_of_lt hp)
  have e2 := Int.mul_le_mul_of_nonneg_right g1 (Int.le_of_lt hp)
  rw [Int.neg_mul] at e1
  rw [Int.add_mul, Int.one_mul] at hr
  generalize G * 2 ^ q = X at *
  generalize a * b * 2 ^ q = Y at *
  generalize (2 : Int) ^ q = P at *
  omega
theorem Rm.pos {n : List Int} {a b c : Int} {q : Nat} (R : Rm n a b c q) : 3 ≤ num n := ((mayV_iff n).1 R.may).2.2
theorem Rm.enc {n : List Int} {a b c : Int} {q : Nat} (R : Rm n a b c q) {x : Int} (h : x.natAbs ≤ halfV n) : byN (num n) x = if x < 0 then num n - x.natAbs else x.natAbs := byN_enc h R.pos
theorem Rm.pack {n : List Int} {a b c : Int} {q : Nat} (R : Rm n a b c q) {x y : Int} (x0 : -b ≤ x) (x1 : x ≤ b) (y0 : 0 ≤ y) (y1 : y ≤ c) : packV n (q : Int) x y = (limbs (byN (num n) (x * 2 ^ q + y)), 0) ∧ y < 2 ^ q := by
  have ha := R.a1
  have hb := R.b1
  have hc := R.c1
  have e1 : b ≤ a * b := by have := Int.mul_le_mul_of_nonneg_right ha (show (0 : Int) ≤ b by omega); omega
  have e2 : c ≤ a * c := by have := Int.mul_le_mul_of_nonneg_right ha (show (0 : Int) ≤ c by omega); omega
  have hy : y < 2 ^ q := by have := R.low; omega
  have hf := R.fits (G := x) (H := y) (by omega) (by omega) y0 hy
  have hlt := may_lt R.dn R.may
  have hh : halfV n = (num n - 1) / 2 := rfl
  refine ⟨?_, hy⟩
  unfold packV
  rw [Int.toNat_natCast, if_pos ⟨R.may, by have := R.q1; omega, by have := R.q2; omega⟩, if_neg (by omega), encV_int R.dn R.may (by omega), if_pos hf, R.enc hf]
theorem Rm.unpack {n : List Int} {a b c : Int} {q : Nat} (R : Rm n a b c q) {G H : Int} (g0 : -(a * b) ≤ G) (g1 : G ≤ a * b) (h0 : 0 ≤ H) (h1 : H < 2 ^ q) (l0 : -9223372036854775808 ≤ G) (l1 : G < 9223372036854775808) : unpackV n (q : Int) (limbs (byN (num n) (G * 2 ^ q + H))) = (G, H, 0) := by
  have hf := R.fits g0 g1 h0 h1
  obtain ⟨e1, e2, e3⟩ := enc_back R.dn R.may hf _ rfl
  obtain ⟨d1, d2⟩ := split_div (g := G) h0 h1
  rw [R.enc hf]
  unfold unpackV
  rw [Int.toNat_natCast, if_pos ⟨R.may, by have := R.q1; omega, by have := R.q2; omega⟩, if_pos ⟨e1, e2⟩, e3, d1, d2, if_pos ⟨l0, l1⟩]
theorem Rm.small {n : List Int} {a b c : Int} {q : Nat} (R : Rm n a b c q) (x : Int) : byN (num n) x < b64 ^ 8 ∧ byN (num n) x < num n := by
  have h := byN_lt (N := num n) (by have := R.pos; omega) x
  have h8 := may_lt8 R.dn R.may
  exact ⟨by omega, h⟩
theorem pow9 : b64 ^ 8 + b64 ^ 8 < b64 ^ 64 := by decide +kernel
theorem Rm.add {n : List Int} {a b c : Int} {q : Nat} (R : Rm n a b c q) (x y : Int) : addW (limbs (byN (num n) x)) (limbs (byN (num n) y)) = (limbs (byN (num n) x + byN (num n) y), 0) ∧ (divV (limbs (byN (num n) x + byN (num n) y)) n).2.1 = limbs (byN (num n) (x + y)) := by
  have h1 := R.small x
  have h2 := R.small y
  have h9 := pow9
  have hN := R.pos
  refine ⟨?_, ?_⟩
  · unfold addW
    rw [if_pos ⟨right_limbs' (by omega), right_limbs' (by omega)⟩, num_limbs, num_limbs]
    exact toldV_of (by omega)
  · unfold divV
    rw [if_pos ⟨right_limbs' (by omega), ((mayV_iff n).1 R.may).1⟩, if_neg (by omega), num_limbs]
    show limbs _ = _
    rw [byN_add (by omega)]
theorem adds_end {n : List Int} {a b c : Int} {q : Nat} (R : Rm n a b c q) (L : List S34) {i : Nat} {G H : Int} (hi : i ≤ 1000) (hia : (i : Int) ≤ a) (g0 : -((i : Int) * b) ≤ G) (g1 : G ≤ (i : Int) * b) (h0 : 0 ≤ H) (h1 : H ≤ (i : Int) * c) (hbc : i = 0 ∨ b ≤ 1099511627776 ∧ c ≤ 1099511627776) :
    Evt (fun k => windbreaklaw07_FixencAdds.j2 k n L (q : Int) (limbs (byN (num n) (G * 2 ^ q + H))) G H (i : Int) false a b c) true := by
  have hb := R.b1
  have hc := R.c1
  have e1 := Int.mul_le_mul_of_nonneg_right hia (show (0 : Int) ≤ b by omega)
  have e2 := Int.mul_le_mul_of_nonneg_right hia (show (0 : Int) ≤ c by omega)
  have e3 := Int.mul_le_mul_of_nonneg_right (show (i : Int) ≤ 1000 by omega) (show (0 : Int) ≤ b by omega)
  have hlow := R.low
  have gi : -9223372036854775808 ≤ G ∧ G < 9223372036854775808 := by
    rcases hbc with h | h
    · subst h
      simp only [Int.natCast_zero, Int.zero_mul] at g0 g1
      omega
    · omega
  have hu := R.unpack (G := G) (H := H) (by omega) (by omega) h0 (by omega) gi.1 gi.2
  have hsm := R.small (G * 2 ^ q + H)
  refine Evt.succ ?_
  simp only [windbreaklaw07_FixencAdds.j2, Bool.false_eq_true, if_false]
  have hev := fix_Unpack_ev n (q : Int) (limbs (byN (num n) (G * 2 ^ q + H))) R.ln R.dn (by have := limbs_len hsm.1; simp only [maxLen]; omega) (limbs_dig _)
  rw [hu] at hev
  refine Evt.bind hev ?_
  exact Evt.ite_pos rfl (Evt.ite_pos rfl ((Evt.pure _).congr (fun k => rfl) (by simp)))
theorem adds_loop {n : List Int} {a b c : Int} {q : Nat} (R : Rm n a b c q) (L : List S34) (hw : ∀ p ∈ L, (-9223372036854775808 ≤ p.f0 ∧ p.f0 < 9223372036854775808) ∧ -9223372036854775808 ≤ p.f1 ∧ p.f1 < 9223372036854775808) :
    ∀ (m i : Nat) (G H : Int), 1000 - i = m → i ≤ 1000 → (i : Int) ≤ a → -((i : Int) * b) ≤ G → G ≤ (i : Int) * b → 0 ≤ H → H ≤ (i : Int) * c → (i = 0 ∨ b ≤ 1099511627776 ∧ c ≤ 1099511627776) →
      Evt (fun k => windbreaklaw07_FixencAdds.l0 k n L (q : Int) (limbs (byN (num n) (G * 2 ^ q + H))) G H (i : Int) a b c) true := by
  have ha := R.a1
  have hb := R.b1
  have hc := R.c1
  have b2 := R.b2
  have c2 := R.c2
  intro m
  induction m with
  | zero =>
    intro i G H hm hi hia g0 g1 h0 h1 hbc
    have J := adds_end R L hi hia g0 g1 h0 h1 hbc
    refine Evt.succ ?_
    simp only [windbreaklaw07_FixencAdds.l0]
    refine Evt.cond' (fun _ => Evt.cond' (fun _ => ?_) fun _ => J) fun _ => J
    rw [show decide ((i : Int) < 1000) = false by simp; omega]
    exact J
  | succ m ih =>
    intro i G H hm hi hia g0 g1 h0 h1 hbc
    have J := adds_end R L hi hia g0 g1 h0 h1 hbc
    refine Evt.succ ?_
    simp only [windbreaklaw07_FixencAdds.l0]
    refine Evt.cond' (fun hl => Evt.cond' (fun hia' => ?_) fun _ => J) fun _ => J
    rw [show decide ((i : Int) < 1000) = true by simp; omega]
    refine Evt.succ ?_
    simp only [windbreaklaw07_FixencAdds.j2, if_true]
    refine Evt.ite_pos (by omega) (Evt.ite_pos hl ?_)
    have hl' : i < L.length := by omega
    obtain ⟨⟨x0, x1⟩, y0, y1⟩ := hw _ (List.getElem_mem hl')
    have er : rd_T34 L (i : Int) = L[i] := by
      unfold rd_T34
      rw [Int.toNat_natCast, List.getD_eq_getElem?_getD, List.getElem?_eq_getElem hl']
      rfl
    simp only [er]
    generalize L[i].f0 = x at *
    generalize L[i].f1 = y at *
    have T : Evt (fun k => windbreaklaw07_FixencAdds.j3 k n L (q : Int) (limbs (byN (num n) (G * 2 ^ q + H))) G H (i : Int) x y true a b c) true := by
      refine Evt.succ ?_
      simp only [windbreaklaw07_FixencAdds.j3, if_true]
      exact Evt.pure _
    refine Evt.cond' (fun _ => T) fun hx1 => ?_
    rw [w64 (by omega) (by omega)]
    refine Evt.cond' (fun _ => T) fun hx0 => ?_
    refine Evt.cond' (fun _ => T) fun hy0 => ?_
    refine Evt.cond' (fun _ => T) fun hy1 => ?_
    refine Evt.cond' (fun _ => T) fun hb40 => ?_
    by_cases hc40 : c > 1099511627776
    · rw [decide_eq_true hc40]
      exact T
    rw [decide_eq_false hc40]
    refine Evt.succ ?_
    simp only [windbreaklaw07_FixencAdds.j3, Bool.false_eq_true, if_false]
    have hp := (R.pack (x := x) (y := y) (by omega) (by omega) (by omega) (by omega)).1
    have hev := fix_Pack_ev n (q : Int) x y R.ln R.dn x0 x1 y0 y1
    rw [hp] at hev
    refine Evt.bind hev (Evt.ite_pos rfl ?_)
    have s1 := R.small (G * 2 ^ q + H)
    have s2 := R.small (x * 2 ^ q + y)
    obtain ⟨a1, a2⟩ := R.add (G * 2 ^ q + H) (x * 2 ^ q + y)
    have hea := ref_Add_ev (limbs (byN (num n) (G * 2 ^ q + H))) (limbs (byN (num n) (x * 2 ^ q + y))) (by have := limbs_len s1.1; simp only [maxLen]; omega) (by have := limbs_len s2.1; simp only [maxLen]; omega) (limbs_dig _) (limbs_dig _)
    rw [a1] at hea
    refine Evt.bind hea ?_
    have h9 := pow9
    have her := ref_Rest_ev (limbs (byN (num n) (G * 2 ^ q + H) + byN (num n) (x * 2 ^ q + y))) n (by have := limbs_len (v := byN (num n) (G * 2 ^ q + H) + byN (num n) (x * 2 ^ q + y)) (n := 64) (by omega); simp only [maxLen]; omega) R.ln (limbs_dig _) R.dn
    rw [a2] at her
    refine Evt.bind her ?_
    have e1 : ((i + 1 : Nat) : Int) * b = (i : Int) * b + b := by rw [Int.natCast_add, Int.add_mul, Int.natCast_one, Int.one_mul]
    have e2 : ((i + 1 : Nat) : Int) * c = (i : Int) * c + c := by rw [Int.natCast_add, Int.add_mul, Int.natCast_one, Int.one_mul]
    have e3 := Int.mul_le_mul_of_nonneg_right (show (i : Int) ≤ 1000 by omega) (show (0 : Int) ≤ b by omega)
    have e4 := Int.mul_le_mul_of_nonneg_right (show (i : Int) ≤ 1000 by omega) (show (0 : Int) ≤ c by omega)
    have hh := ih (i + 1) (G + x) (H + y) (by omega) (by omega) (by omega) (by rw [e1]; omega) (by rw [e1]; omega) (by omega) (by rw [e2]; omega) (Or.inr ⟨by omega, by omega⟩)
    refine hh.congr (fun k => ?_) rfl
    rw [w64 (x := G + x) (by omega) (by omega), w64 (x := H + y) (by omega) (by omega), w64 (x := (i : Int) + 1) (by omega) (by omega), show (i : Int) + 1 = ((i + 1 : Nat) : Int) by omega, show G * 2 ^ q + H + (x * 2 ^ q + y) = (G + x) * 2 ^ q + (H + y) by rw [Int.add_mul]; omega]
theorem FixencAdds : windbreaklaw07_FixencAdds.Pure := by
  intro n a b c ps hn wn wa wb wc _ wp
  apply Evt.get
  have dn := dig_of_wf wn
  have ia := wf_i64 wa
  have ib := wf_i64 wb
  have ic := wf_i64 wc
  unfold windbreaklaw07_FixencAdds.f
  refine Evt.bind (few7_ev [n] (by simp [maxLen])) ?_
  refine Evt.cond' (fun _ => ?_) (fun _ => Evt.pure _)
  refine Evt.bind awake_ev ?_
  refine Evt.bind (fix_Room_ev n a b c hn dn ia.1 ia.2 ib.1 ib.2 ic.1 ic.2) ?_
  refine Evt.ite_pos rfl ?_
  refine Evt.succ ?_
  simp only [windbreaklaw07_FixencAdds.j0]
  refine Evt.cond' (fun _ => Evt.pure _) (fun hne => ?_)
  unfold roomV at hne ⊢
  by_cases h1 : mayV n = true ∧ 1 ≤ a ∧ 1 ≤ b ∧ 1 ≤ c
  case neg => rw [if_neg h1] at hne; exact absurd rfl hne
  rw [if_pos h1] at hne ⊢
  by_cases h2 : bl (a * c).toNat ≤ 62
  case neg => rw [if_neg h2] at hne; exact absurd rfl hne
  rw [if_pos h2] at hne ⊢
  by_cases h3 : ((a * b + 1) * 2 ^ bl (a * c).toNat - 1).natAbs ≤ halfV n
  case neg => rw [if_neg h3] at hne; exact absurd rfl hne
  rw [if_pos h3]
  obtain ⟨hm, ha, hb, hc⟩ := h1
  have hac : 1 ≤ a * c := by have := Int.mul_le_mul_of_nonneg_right ha (show (0 : Int) ≤ c by omega); omega
  have hlt := bl_lt (a * c).toNat
  have hlow : a * c < 2 ^ bl (a * c).toNat := by
    have h := Int.ofNat_lt.2 hlt
    rw [Int.natCast_pow, Int.toNat_of_nonneg (by omega)] at h
    exact h
  have hp0 : 0 < bl (a * c).toNat := bl_pos (by omega)
  have R : Rm n a b c (bl (a * c).toNat) := ⟨dn, hn, hm, ha, hb, hc, ib.2, ic.2, hp0, h2, hlow, by omega⟩
  have hl := adds_loop R (ps.map pairS) (by
    intro p hp
    obtain ⟨p', hp', rfl⟩ := List.mem_map.1 hp
    exact ⟨wf_i64 (wp p' hp').1, wf_i64 (wp p' hp').2⟩) 1000 0 0 0 rfl (by omega) (by omega) (by simp) (by simp) (by omega) (by simp) (Or.inl rfl)
  refine hl.congr (fun k => ?_) rfl
  have e0 : byN (num n) (0 * 2 ^ bl (a * c).toNat + 0) = 0 := by simp [byN]
  rw [e0, limbs_zero]
  rfl
end Go.Proofs.Ytnaphgnkhhapoab.Pure
end
section
namespace Go.Proofs.YtnaphgnkhhapoabW.PrintWords
open Go.ChangeShapes Go.WideShapes
end Go.Proofs.YtnaphgnkhhapoabW.PrintWords
end
section
namespace Go.Proofs.Ytnaphgnkhhapoab.fixencAdds
open Go.ChangeShapes Go.WideShapes Go.ChangeAt Go.RowKit Go.Proofs.Ytnaphgnkhhapoab.F Go.Proofs.YtnaphgnkhhapoabW.PrintWords
set_option linter.unusedSimpArgs false
open Go.ChangeMaps (open_string shut_string)
set_option linter.unusedVariables false
theorem own : ownKnob Try.prog.godebug = none := by kernel_rfl
theorem laidOut : laidOutB Try.prog = true := by kernel_rfl
theorem okWide_array {P : Program} {w : World} {r : Reach} {base : Nat} {t : TypeId} {v : Value} {n : Nat} {e : TypeId} (ht : P.underlying t = some (.array n e)) (h : Value.okWide P w r base t v) : ∃ cs, v = .agg cs ∧ cs.size = P.cellsOf t := by
  simp only [Value.okWide, ht] at h
  obtain ⟨cs, h1, h2, _⟩ := h
  exact ⟨cs, h1, h2⟩
theorem lifted (os : Os) (started : os.Started) (H : Type) (enc : TypeId × Value → H) :
    ReturnsInHanded {} Try.checked os 4 .any (Rows.fixencAddsSpec.pre6 enc Try.prog Try.f4 Rows.fixencAddsRow.domain false) (Rows.fixencAddsSpec.post enc Try.prog Try.f4 false true false false) := by
  refine returnsInHanded_of_change_sized (C := Try.checked) own started (by kernel_rfl) Try.func4
    (ChangeSpec.witness6 (enc := enc) (C := Try.checked) false ⟨#[], #[.slice none 0 0, .agg #[.int .i64 0, .int .i64 0, .int .i64 0], .slice none 0 0], []⟩ 8 (by kernel_rfl) (by kernel_rfl) (by kernel_rfl) (by kernel_rfl)) ?_
  intro W base args ds gs before hval0 hW hcnd hsz0 _
  have hsz : (DataW.weightsEach Try.prog (Try.f4.params.toList ++ Rows.fixencAddsSpec.plain.varTypes Try.prog) (ds ++ gs)).all (· ≤ reachBytes) = true := hsz0
  have hval : ∀ (j : Nat) t v, Try.f4.params[j]? = some t → args[j]? = some v → Value.okWide Try.prog W .any base t v := hval0
  have hW' := hW
  obtain ⟨p, q, hA0, hV, rfl, hfz, hnd⟩ := hW
  have hA : DataW.TrodAll enc Try.prog W 0 (fun _ => true) true Try.f4.params.toList args.toList ds p := hA0
  rw [Try.params4] at hA hval hsz
  obtain ⟨v0, vs0, d0, ds0, p0, q0, hargs, rfl, rfl, h0, r0⟩ := trodAll_cons hA
  obtain ⟨v1, vs1, d1, ds1, p1, q1, rfl, rfl, rfl, h1, r1⟩ := trodAll_cons r0
  obtain ⟨v2, vs2, d2, ds2, p2, q2, rfl, rfl, rfl, h2, r2⟩ := trodAll_cons r1
  obtain ⟨rfl, rfl, rfl⟩ := trodAll_nil r2
  obtain rfl : args = #[v0, v1, v2] := by cases args; simp_all
  obtain ⟨rfl, rfl⟩ := trodVars_none hV
  obtain ⟨a0, len0, cap0, rfl⟩ := okWide_slice Try.underlying23 (hval 0 23 v0 rfl rfl)
  have k0 := h0
  have lt0 : ∀ x ∈ p0, x.block < W.heap.size := by obtain ⟨m, hm⟩ := k0; exact DataW.trod_lt m _ _ _ hm
  obtain ⟨m0, hm0⟩ := h0
  obtain ⟨x0, hK0, ok0⟩ := (Opens.slice Try.underlying23 (by kernel_rfl) (Opens.int Try.underlying42)) enc W true m0 _ _ hm0
  obtain ⟨cs1, rfl, _⟩ := okWide_array Try.underlying30 (hval 1 30 v1 rfl rfl)
  have k1 := h1
  have lt1 : ∀ x ∈ p1, x.block < W.heap.size := by obtain ⟨m, hm⟩ := k1; exact DataW.trod_lt m _ _ _ hm
  obtain ⟨m1, hm1⟩ := h1
  obtain ⟨x1, hK1, ok1⟩ := (Opens.array3 Try.underlying30 (by kernel_rfl) (by kernel_rfl) rfl (Opens.int Try.underlying2)) enc W true m1 _ _ hm1
  obtain ⟨a2, len2, cap2, rfl⟩ := okWide_slice Try.underlying31 (hval 2 31 v2 rfl rfl)
  have k2 := h2
  have lt2 : ∀ x ∈ p2, x.block < W.heap.size := by obtain ⟨m, hm⟩ := k2; exact DataW.trod_lt m _ _ _ hm
  obtain ⟨m2, hm2⟩ := h2
  obtain ⟨x2, hK2, ok2⟩ := (Opens.slice Try.underlying31 (by kernel_rfl) (Opens.array2 Try.underlying34 (by kernel_rfl) (by kernel_rfl) rfl (Opens.int Try.underlying2))) enc W true m2 _ _ hm2
  clear hA0 hval0 hsz0 hsz
  refine (F.windbreaklaw07_FixencAdds.row Pure.FixencAdds W a0 len0 cap0 x0 hK0 ok0 cs1 x1 hK1 ok1 a2 len2 cap2 x2 hK2 ok2).mono fun e W' ⟨he, bel⟩ => ?_
  subst he
  exact ⟨_, rfl, _, _, _, [], _, [], hW', trodAll_mk1 (shut_bool Try.underlying4 _), (trodAll_cons_mk (Below.trod laidOut (by kernel_rfl) (of_decide_eq_true (by kernel_rfl)) k0 bel lt0) (trodAll_cons_mk (Below.trod laidOut (by kernel_rfl) (of_decide_eq_true (by kernel_rfl)) k1 bel lt1) (trodAll_cons_mk (Below.trod laidOut (by kernel_rfl) (of_decide_eq_true (by kernel_rfl)) k2 bel lt2) trodAll_mk0))), rfl, bel.frame _, fun h => by cases h⟩
theorem over : Rows.fixencAddsRow.holds Try.pinned (OpenSpec.ofChange Rows.fixencAddsSpec) :=
  OpenClaim.holds_of_wide 4 Try.f4 rfl rfl rfl rfl rfl rfl rfl ⟨rfl, rfl, rfl, rfl, rfl⟩ rfl rfl rfl rfl rfl (by kernel_rfl) Try.func4 (by kernel_rfl)
    (of_decide_eq_true (by kernel_rfl)) (by unfold Func.isWrapper; first | (rw [if_pos (by decide +kernel)]; kernel_rfl) | (rw [if_neg (by decide +kernel)]; exact ⟨rfl, rfl⟩))
    (fun os started H enc _ => lifted os started H enc)
theorem proved : Rows.FixencAddsSaid := over
#print axioms proved
end Go.Proofs.Ytnaphgnkhhapoab.fixencAdds
namespace Go.Proofs.Ytnaphgnkhhapoab
theorem fixencAdds_holds : Rows.FixencAddsSaid := fixencAdds.proved
end Go.Proofs.Ytnaphgnkhhapoab
end
