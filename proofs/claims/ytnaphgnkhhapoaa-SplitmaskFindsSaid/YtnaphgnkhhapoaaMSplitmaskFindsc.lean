/- Proved: the law SplitmaskFinds of layer 20: each cut of a node has one number, and it is found by that; for every input, without a condition. -/
import Derived.Test.YtnaphgnkhhapoaaMSplitmaskFindsb
import Derived.SizedLaws
import Derived.ChangeSlices
import Derived.Test.YtnaphgnkhhapoaaRows
import Derived.WalkKit
import Derived.ProofKit
import Derived.OpenShut
import Derived.ShutString
import Derived.ChangeOld
import Derived.Below
set_option maxHeartbeats 8000000
set_option maxRecDepth 100000
section
namespace Go.Proofs.Ytnaphgnkhhapoaa.Z
open Go.RowKit Go.Proofs.Ytnaphgnkhhapoaa.F Go.Proofs.YtnaphgnkhhapoaaW.PrintWords
set_option linter.unusedSimpArgs false
set_option linter.unusedVariables false
theorem mul_lt {x y : Int} (hx : 0 ≤ x ∧ x ≤ 65535) (hy : 0 ≤ y ∧ y ≤ 65535) : 0 ≤ x * y ∧ x * y ≤ 4294836225 := by
  have h1 := Int.mul_nonneg hx.1 hy.1
  have h2 : x * y ≤ 65535 * y := Int.mul_le_mul_of_nonneg_right hx.2 hy.1
  omega
theorem ref_mul_inner (a b : List Int) (da : Dig (b16 : Int) a) (db : Dig (b16 : Int) b) (ha : a.length ≤ 100000) (hb : b.length ≤ 100000) (i n : Nat) (hi : i < a.length) (hn : a.length - (i + 1) = n) {r : List Int}
    (next : ∀ p : List Int, p.length = i + 1 + b.length → Dig (b16 : Int) p → val (b16 : Int) p = val (b16 : Int) (a.take (i + 1)) * val (b16 : Int) b → Evt (fun k => windbreakref01_mul.l0 k a b (p ++ List.replicate n 0) ((i + 1 : Nat) : Int)) r) (m : Nat) :
    ∀ (j : Nat) (p : List Int) (c : Int), b.length - j = m → j ≤ b.length → p.length = i + b.length → Dig (b16 : Int) p → 0 ≤ c ∧ c < (b16 : Int) →
      val (b16 : Int) p + c * (b16 : Int) ^ (i + j) = val (b16 : Int) (a.take i) * val (b16 : Int) b + (b16 : Int) ^ i * a[i] * val (b16 : Int) (b.take j) →
      Evt (fun k => windbreakref01_mul.l1 k a b (p ++ List.replicate (n + 1) 0) (i : Int) c (j : Int)) r := by
  induction m with
  | zero =>
    intro j p c hj hjl hp dp hc hv
    refine Evt.succ ?_
    simp only [windbreakref01_mul.l1]
    refine Evt.ite_neg (by omega) ?_
    rw [w64 (show -9223372036854775808 ≤ (i : Int) + (b.length : Int) by omega) (by omega)]
    refine Evt.ite_pos (by omega) (Evt.ite_pos (by simp; omega) ?_)
    rw [w64 (by omega) (by omega), show ((i : Int) + (b.length : Int)).toNat = p.length from by omega, List.replicate_succ, set_at]
    have hj2 : j = b.length := by omega
    subst hj2
    rw [List.take_length] at hv
    refine (next (p ++ [c]) (by simp; omega) (Dig.append.2 ⟨dp, Dig.cons.2 ⟨hc, Dig.nil⟩⟩) ?_).congr (fun k => by rw [List.append_assoc]; rfl) rfl
    rw [val_append, hp, val_take_step (b16 : Int) a i hi]
    simp only [val, Int.mul_zero, Int.add_zero]
    generalize val (b16 : Int) (a.take i) = va at *
    generalize val (b16 : Int) b = vb at *
    generalize (b16 : Int) ^ (i + b.length) = P at *
    generalize (b16 : Int) ^ i = Q at *
    have : (va + Q * a[i]) * vb = va * vb + Q * a[i] * vb := by grind
    rw [this, ← hv, Int.mul_comm P c]
  | succ m ih =>
    intro j p c hj hjl hp dp hc hv
    have hjlt : j < b.length := by omega
    refine Evt.succ ?_
    simp only [windbreakref01_mul.l1]
    refine Evt.ite_pos (by omega) ?_
    rw [w64 (show -9223372036854775808 ≤ (i : Int) + (j : Int) by omega) (by omega)]
    refine Evt.ite_pos (by omega) (Evt.ite_pos (by simp; omega) (Evt.ite_pos (by omega) (Evt.ite_pos (by omega) (Evt.ite_pos (by omega) ?_))))
    have hx : rd a (i : Int) = a[i] := by simp [rd_nat, hi]
    have hy : rd b (j : Int) = b[j] := by simp [rd_nat, hjlt]
    have hz : rd (p ++ List.replicate (n + 1) 0) ((i : Int) + (j : Int)) = p.getD (i + j) 0 := by
      rw [rd_getD, show ((i : Int) + (j : Int)).toNat = i + j from by omega, getD_append_left (by omega)]
    have rx := da a[i] (List.getElem_mem hi)
    have ry := db b[j] (List.getElem_mem hjlt)
    have rz := dp.getD b16_pos (i + j)
    rw [hx, hy, hz, show ((i : Int) + (j : Int)).toNat = i + j from by omega, set_append_left (by omega)]
    have hB : (b16 : Int) = 65536 := rfl
    rw [hB] at rx ry rz hc
    obtain ⟨m1, m2⟩ := mul_lt (show 0 ≤ a[i] ∧ a[i] ≤ 65535 by omega) (show 0 ≤ b[j] ∧ b[j] ≤ 65535 by omega)
    have hv2 := val_set (b16 : Int) p (i + j) ((p.getD (i + j) 0 + a[i] * b[j] + c) % 65536) (by omega)
    have hvt := val_take_step (b16 : Int) b j hjlt
    generalize hxy : a[i] * b[j] = z at *
    rw [wu64_of m1 (by omega), wu64_of (show 0 ≤ p.getD (i + j) 0 + z by omega) (by omega), wu64_of (show 0 ≤ p.getD (i + j) 0 + z + c by omega) (by omega), Int.tmod_eq_emod_of_nonneg (by omega), Int.tdiv_eq_ediv_of_nonneg (by omega), wu64_of (by omega) (by omega), w64 (by omega) (by omega)]
    refine (ih (j + 1) (p.set (i + j) ((p.getD (i + j) 0 + z + c) % 65536)) ((p.getD (i + j) 0 + z + c) / 65536) (by omega) (by omega) (by simp; omega) (dp.set _ (by rw [hB]; omega)) (by rw [hB]; omega) ?_).congr (fun k => rfl) rfl
    rw [hv2, hvt]
    have hdm := Int.emod_add_mul_ediv (p.getD (i + j) 0 + z + c) 65536
    have hP : (b16 : Int) ^ (i + (j + 1)) = (b16 : Int) ^ (i + j) * 65536 := by rw [← Nat.add_assoc, Int.pow_succ]; rfl
    have hQ : (b16 : Int) ^ (i + j) = (b16 : Int) ^ i * (b16 : Int) ^ j := Int.pow_add ..
    rw [hP]
    generalize (p.getD (i + j) 0 + z + c) % 65536 = u at *
    generalize (p.getD (i + j) 0 + z + c) / 65536 = q at *
    generalize p.getD (i + j) 0 = y0 at *
    generalize val (b16 : Int) (a.take i) = va at *
    generalize val (b16 : Int) (b.take j) = vt at *
    generalize val (b16 : Int) b = vb at *
    generalize val (b16 : Int) p = vp at *
    generalize (b16 : Int) ^ (i + j) = P at *
    generalize (b16 : Int) ^ i = Q at *
    generalize (b16 : Int) ^ j = R at *
    subst hQ
    generalize a[i] = ai at *
    generalize b[j] = bj at *
    subst hxy
    have e1 : u = y0 + ai * bj + c - 65536 * q := by omega
    rw [e1]
    have e2 : vp = va * vb + Q * ai * vt - c * (Q * R) := by omega
    rw [e2]
    grind
theorem ref_mul_loop (a b : List Int) (da : Dig (b16 : Int) a) (db : Dig (b16 : Int) b) (ha : a.length ≤ 100000) (hb : b.length ≤ 100000) (n : Nat) :
    ∀ (i : Nat) (p : List Int), a.length - i = n → i ≤ a.length → p.length = i + b.length → Dig (b16 : Int) p → val (b16 : Int) p = val (b16 : Int) (a.take i) * val (b16 : Int) b →
      Evt (fun k => windbreakref01_mul.l0 k a b (p ++ List.replicate n 0) (i : Int)) (digs (num16 a * num16 b)) := by
  induction n with
  | zero =>
    intro i p hn hi hp dp hv
    refine Evt.succ ?_
    simp only [windbreakref01_mul.l0]
    refine Evt.ite_neg (by omega) ?_
    have h := windbreakref01_cut_ev (p ++ List.replicate 0 0) (by simp [maxLen]; omega)
    rw [List.replicate_zero, List.append_nil, strip_digs dp] at h
    have e : num16 p = num16 a * num16 b := by
      rw [List.take_of_length_le (by omega)] at hv
      have h1 := num16_val dp
      have h2 := num16_val da
      have h3 := num16_val db
      have : ((num16 p : Nat) : Int) = ((num16 a * num16 b : Nat) : Int) := by rw [h1, hv, Int.natCast_mul, h2, h3]
      omega
    rw [e] at h
    refine (Evt.bind h (h := fun t _ => some t) (Evt.pure _)).congr (fun k => by simp) rfl
  | succ n ih =>
    intro i p hn hi hp dp hv
    refine Evt.succ ?_
    simp only [windbreakref01_mul.l0]
    refine Evt.ite_pos (by omega) ?_
    refine ref_mul_inner a b da db ha hb i n (by omega) (by omega) (fun q h1 h2 h3 => ih (i + 1) q (by omega) (by omega) h1 h2 h3) b.length 0 p 0 (by omega) (by omega) hp dp (by decide) ?_
    simp [hv, val]
theorem ref_mul_ev (a b : List Int) (da : Dig (b16 : Int) a) (db : Dig (b16 : Int) b) (ha : a.length ≤ 100000) (hb : b.length ≤ 100000) : Evt (fun k => windbreakref01_mul.f k a b) (digs (num16 a * num16 b)) := by
  unfold windbreakref01_mul.f
  rw [w64 (show -9223372036854775808 ≤ (a.length : Int) + (b.length : Int) by omega) (by omega)]
  refine Evt.ite_pos (by omega) (Evt.ite_pos (by omega) ?_)
  refine (ref_mul_loop a b da db ha hb a.length 0 (List.replicate b.length 0) (by omega) (by omega) (by simp) (Dig.replicate b16_pos _) (by simp [val_replicate, val])).congr (fun k => ?_) rfl
  rw [show ((a.length : Int) + (b.length : Int)).toNat = b.length + a.length from by omega, List.replicate_append_replicate]
  rfl
theorem ref_power_loop (n : Nat) (hn : n ≤ 1000000) (m : Nat) : ∀ j : Nat, j ≤ n % 16 → n % 16 - j = m →
    Evt (fun k => windbreakref01_power.l0 k (n : Int) (List.replicate (n / 16) 0 ++ [2 ^ j]) (j : Int)) (List.replicate (n / 16) 0 ++ [2 ^ (n % 16)]) := by
  have e1 : Int.tmod (n : Int) 16 = ((n % 16 : Nat) : Int) := by rw [Int.tmod_eq_emod_of_nonneg (by omega)]; omega
  have e2 : Int.tdiv (n : Int) 16 = ((n / 16 : Nat) : Int) := by rw [Int.tdiv_eq_ediv_of_nonneg (by omega)]; omega
  induction m with
  | zero =>
    intro j hj hm
    refine Evt.succ ?_
    simp only [windbreakref01_power.l0]
    rw [e1]
    refine Evt.ite_neg (by omega) ?_
    rw [show n % 16 = j from by omega]
    exact Evt.pure _
  | succ m ih =>
    intro j hj hm
    refine Evt.succ ?_
    simp only [windbreakref01_power.l0]
    rw [e1, e2, w64 (show -9223372036854775808 ≤ ((n / 16 : Nat) : Int) by omega) (by omega)]
    refine Evt.ite_pos (by omega) (Evt.ite_pos (by omega) (Evt.ite_pos (by simp; omega) ?_))
    have hr : rd (List.replicate (n / 16) 0 ++ [2 ^ j]) ((n / 16 : Nat) : Int) = 2 ^ j := by
      rw [rd_nat]
      simp [List.getD_eq_getElem?_getD]
    have hb : (2 : Int) ^ j ≤ 2 ^ 16 := pow_mono (by omega) (by omega)
    have hp := pow2_pos j
    rw [hr, wu64_of (by omega) (by omega), w64 (by omega) (by omega)]
    refine (ih (j + 1) (by omega) (by omega)).congr (fun k => ?_) rfl
    have hs : (List.replicate (n / 16) (0 : Int) ++ [2 ^ j]).set ((n / 16 : Nat) : Int).toNat (2 ^ j * 2) = List.replicate (n / 16) 0 ++ [2 ^ (j + 1)] := by
      have := set_at (List.replicate (n / 16) (0 : Int)) (2 ^ j) (2 ^ j * 2) []
      rw [List.length_replicate] at this
      rw [Int.toNat_natCast, this, Int.pow_succ]
    rw [hs]
    rfl
theorem num16_power (n : Nat) : Dig (b16 : Int) (List.replicate (n / 16) 0 ++ [2 ^ (n % 16)]) ∧ Can (List.replicate (n / 16) 0 ++ [2 ^ (n % 16)]) ∧ num16 (List.replicate (n / 16) 0 ++ [2 ^ (n % 16)]) = 2 ^ n := by
  have hb : (2 : Int) ^ (n % 16) ≤ 2 ^ 15 := pow_mono (by omega) (by omega)
  have hp := pow2_pos (n % 16)
  have hd : Dig (b16 : Int) (List.replicate (n / 16) 0 ++ [2 ^ (n % 16)]) := Dig.append.2 ⟨Dig.replicate b16_pos _, Dig.cons.2 ⟨by simp only [b16]; omega, Dig.nil⟩⟩
  refine ⟨hd, ?_, ?_⟩
  · intro _
    simp
    omega
  · have h := num16_val hd
    rw [val_append, val_replicate] at h
    simp only [val, List.length_replicate, Int.mul_zero, Int.add_zero, Int.zero_add] at h
    have h2 : (b16 : Int) ^ (n / 16) * 2 ^ (n % 16) = 2 ^ n := by
      have : (b16 : Int) = 2 ^ 16 := by decide
      rw [this, ← Int.pow_mul, ← Int.pow_add, show 16 * (n / 16) + n % 16 = n from by omega]
    rw [h2] at h
    have h3 : ((2 : Int)) ^ n = ((2 ^ n : Nat) : Int) := by simp
    rw [h3] at h
    omega
theorem ref_power_ev (n : Nat) (hn : n ≤ 1000000) : Evt (fun k => windbreakref01_power.f k (n : Int)) (digs (2 ^ n)) := by
  unfold windbreakref01_power.f
  have e2 : Int.tdiv (n : Int) 16 = ((n / 16 : Nat) : Int) := by rw [Int.tdiv_eq_ediv_of_nonneg (by omega)]; omega
  rw [e2, w64 (show -9223372036854775808 ≤ ((n / 16 : Nat) : Int) by omega) (by omega), w64 (show -9223372036854775808 ≤ ((n / 16 : Nat) : Int) + 1 by omega) (by omega)]
  refine Evt.ite_pos (by omega) (Evt.ite_pos (by omega) ?_)
  rw [show (((n / 16 : Nat) : Int) + 1).toNat = n / 16 + 1 from by omega]
  simp only [Option.bind_some]
  refine Evt.ite_pos (by omega) (Evt.ite_pos (by simp; omega) ?_)
  obtain ⟨h1, h2, h3⟩ := num16_power n
  have h4 := digs_num h1 h2
  rw [h3] at h4
  rw [h4]
  refine (ref_power_loop n hn (n % 16) 0 (Nat.zero_le _) (by omega)).congr (fun k => ?_) rfl
  have hs : (List.replicate (n / 16 + 1) (0 : Int)).set ((n / 16 : Nat) : Int).toNat 1 = List.replicate (n / 16) 0 ++ [2 ^ 0] := by
    have := set_at (List.replicate (n / 16) (0 : Int)) 0 1 []
    rw [List.length_replicate] at this
    rw [Int.toNat_natCast, List.replicate_succ', this]
    rfl
  rw [hs]
  rfl
theorem dig_one16 {x : Int} (h : 0 ≤ x ∧ x < 65536) : Dig (b16 : Int) [x] := Dig.cons.2 ⟨h, Dig.nil⟩
theorem num16_one {x : Int} (h : 0 ≤ x) : num16 [x] = x.toNat := by simp [num16, val]
theorem ref_div_halve (a : List Int) (w X : Nat) (q : List Int) (i : Nat) (hw : 0 < w) (hwl : w * 65536 < lim) (hX : X < lim) {r : List Int × List Int} (hq : q.length = a.length) (hi : i < a.length)
    (next : ∀ d : Nat, d < 65536 → d * w ≤ X → X < (d + 1) * w → Evt (fun k => windbreakref01_div.l0 k a (digs w) (q.set i (d : Int)) (digs (X - d * w)) ((i : Int) - 1)) r) (ha : a.length ≤ 100000) (n : Nat) :
    ∀ lo hi_ : Nat, hi_ - lo = n → lo ≤ hi_ → hi_ ≤ 65535 → lo * w ≤ X → X < (hi_ + 1) * w →
      Evt (fun k => windbreakref01_div.l1 k a (digs w) q (digs X) (i : Int) (lo : Int) (hi_ : Int)) r := by
  have hwlim : w < lim := by omega
  have hwd := digs_len hwlim
  have mulm : ∀ m : Nat, m < 65536 → Evt (fun k => windbreakref01_mul.f k (digs w) [(m : Int)]) (digs (m * w)) := by
    intro m hm
    refine (ref_mul_ev (digs w) [(m : Int)] (toD_dig b16_two w) (dig_one16 (by omega)) (by omega) (by simp)).congr (fun k => rfl) ?_
    rw [num16_digs, num16_one (by omega), Int.toNat_natCast, Nat.mul_comm]
  induction n using Nat.strongRecOn with
  | _ n ih =>
    intro lo hi_ hn hle h5 hlo hhi
    refine Evt.succ ?_
    simp only [windbreakref01_div.l1]
    by_cases hlt : lo < hi_
    · refine Evt.ite_pos (by omega) ?_
      have em : IntKind.u64.wrap (Int.tdiv (IntKind.u64.wrap (IntKind.u64.wrap ((lo : Int) + (hi_ : Int)) + 1)) 2) = (((lo + hi_ + 1) / 2 : Nat) : Int) := by
        rw [wu64_of (show 0 ≤ (lo : Int) + (hi_ : Int) by omega) (by omega), wu64_of (show 0 ≤ (lo : Int) + (hi_ : Int) + 1 by omega) (by omega), Int.tdiv_eq_ediv_of_nonneg (by omega), wu64_of (by omega) (by omega)]
        omega
      rw [em]
      generalize hm : (lo + hi_ + 1) / 2 = m
      have hm1 : lo < m ∧ m ≤ hi_ := by omega
      refine Evt.bind (mulm m (by omega)) ?_
      have hmw : m * w < lim := by
        have : m * w ≤ 65536 * w := Nat.mul_le_mul_right w (by omega)
        rw [Nat.mul_comm] at hwl
        omega
      refine Evt.bind (ref_compare_ev (m * w) X hmw) ?_
      by_cases hc : m * w ≤ X
      · refine Evt.ite_pos ?_ ?_
        · unfold cmpN
          by_cases h1 : m * w < X
          · rw [if_pos h1]; omega
          · rw [if_neg h1, if_pos (by omega)]; omega
        · exact ih (hi_ - m) (by omega) m hi_ rfl (by omega) h5 hc hhi
      · refine Evt.ite_neg ?_ ?_
        · unfold cmpN
          rw [if_neg (by omega), if_neg (by omega)]; omega
        · have e : IntKind.u64.wrap ((m : Int) - 1) = ((m - 1 : Nat) : Int) := by rw [wu64_of (by omega) (by omega)]; omega
          rw [e]
          refine ih (m - 1 - lo) (by omega) lo (m - 1) rfl (by omega) (by omega) hlo ?_
          rw [show m - 1 + 1 = m from by omega]
          omega
    · refine Evt.ite_neg (by omega) (Evt.ite_pos (by omega) (Evt.ite_pos (by omega) ?_))
      have e : lo = hi_ := by omega
      subst e
      refine Evt.bind (mulm lo (by omega)) ?_
      refine Evt.bind (ref_sub_ev X (lo * w) hX hlo) ?_
      rw [w64 (by omega) (by omega)]
      refine (next lo (by omega) hlo hhi).congr (fun k => rfl) rfl
theorem ref_div_loop (a : List Int) (da : Dig (b16 : Int) a) (w : Nat) (hw : 0 < w) (hwl : w * 65536 < lim) (ha : a.length ≤ 100000) (hb : b16 ^ a.length ≤ lim) (n : Nat) :
    ∀ (Q : List Int) (R : Nat), Dig (b16 : Int) Q → Q.length = a.length - n → n ≤ a.length → R < w → num16 (a.drop n) = num16 Q * w + R →
      Evt (fun k => windbreakref01_div.l0 k a (digs w) (List.replicate n 0 ++ Q) (digs R) ((n : Int) - 1)) (digs (num16 a / w), digs (num16 a % w)) := by
  induction n with
  | zero =>
    intro Q R dQ hQ hn hR hv
    refine Evt.succ ?_
    simp only [windbreakref01_div.l0]
    refine Evt.ite_neg (by omega) ?_
    rw [List.replicate_zero, List.nil_append]
    rw [List.drop_zero] at hv
    have h := windbreakref01_cut_ev Q (by simp [maxLen]; omega)
    rw [strip_digs dQ] at h
    have e1 : num16 Q = num16 a / w := by
      rw [hv, Nat.mul_comm, Nat.mul_add_div hw, Nat.div_eq_of_lt hR, Nat.add_zero]
    have e2 : R = num16 a % w := by
      rw [hv, Nat.mul_comm, Nat.mul_add_mod, Nat.mod_eq_of_lt hR]
    rw [← e1, ← e2]
    exact Evt.bind h (h := fun t _ => some (t, digs R)) (Evt.pure _)
  | succ n ih =>
    intro Q R dQ hQ hn hR hv
    have hlt : n < a.length := by omega
    refine Evt.succ ?_
    simp only [windbreakref01_div.l0]
    rw [show ((n + 1 : Nat) : Int) - 1 = (n : Int) from by omega]
    refine Evt.ite_pos (by omega) (Evt.ite_pos (by omega) (Evt.ite_pos (by omega) ?_))
    simp only [Option.bind_some]
    have hx : rd a (n : Int) = a[n] := by simp [rd_nat, hlt]
    rw [hx]
    have rx := da a[n] (List.getElem_mem hlt)
    have hRl : R < lim := by omega
    have hRd := digs_len hRl
    refine Evt.ite_pos (by simp; omega) ?_
    have dX : Dig (b16 : Int) ([a[n]] ++ digs R) := Dig.cons.2 ⟨rx, toD_dig b16_two R⟩
    have hXn : num16 ([a[n]] ++ digs R) = a[n].toNat + 65536 * R := by
      have h1 := num16_val dX
      have h2 : val (b16 : Int) ([a[n]] ++ digs R) = a[n] + (b16 : Int) * val (b16 : Int) (digs R) := rfl
      rw [h2, val_toD b16_two] at h1
      simp only [b16] at h1 rx
      omega
    have h := windbreakref01_cut_ev ([a[n]] ++ digs R) (by simp [maxLen]; omega)
    rw [strip_digs dX, hXn] at h
    refine Evt.bind h ?_
    generalize hX : a[n].toNat + 65536 * R = X
    have hXw : X < 65536 * w := by
      simp only [b16] at rx
      have : 65536 * (R + 1) ≤ 65536 * w := Nat.mul_le_mul_left _ hR
      omega
    have hq1 : List.replicate (n + 1) (0 : Int) ++ Q = List.replicate n 0 ++ (0 :: Q) := by rw [List.replicate_succ', List.append_assoc]; rfl
    rw [hq1]
    refine ref_div_halve a w X _ n hw hwl (by rw [Nat.mul_comm] at hwl; omega) (by simp; omega) hlt ?_ ha 65535 0 65535 rfl (by omega) (by omega) (by omega) (by omega)
    intro d hd h1 h2
    have hs : (List.replicate n (0 : Int) ++ 0 :: Q).set n (d : Int) = List.replicate n 0 ++ ((d : Int) :: Q) := by
      have := set_at (List.replicate n (0 : Int)) 0 (d : Int) Q
      rw [List.length_replicate] at this
      exact this
    rw [hs]
    have dQ2 : Dig (b16 : Int) ((d : Int) :: Q) := Dig.cons.2 ⟨by simp only [b16]; omega, dQ⟩
    refine ih ((d : Int) :: Q) (X - d * w) dQ2 (by simp; omega) (by omega) ?_ ?_
    · rw [Nat.add_mul, Nat.one_mul] at h2
      omega
    · have dA : Dig (b16 : Int) (a.drop n) := da.drop n
      have g1 := num16_val dA
      have g2 := num16_val (da.drop (n + 1))
      have g3 := num16_val dQ2
      have g4 := num16_val dQ
      rw [List.drop_eq_getElem_cons hlt] at g1 ⊢
      simp only [val] at g1 g3
      rw [← g2] at g1
      rw [← g4] at g3
      rw [hv] at g1
      simp only [b16] at g1 g3 rx
      have g5 : num16 ((d : Int) :: Q) = d + 65536 * num16 Q := by omega
      rw [g5]
      generalize num16 Q = Qn at *
      have g6 : (d + 65536 * Qn) * w = d * w + 65536 * (Qn * w) := by rw [Nat.add_mul, Nat.mul_assoc]
      rw [g6]
      generalize Qn * w = z at *
      generalize d * w = y at *
      omega
theorem ref_div_ev (v w : Nat) (hv : v < lim) (hw : 0 < w) (hwl : w * 65536 < lim) : Evt (fun k => windbreakref01_div.f k (digs v) (digs w)) (digs (v / w), digs (v % w)) := by
  have hd := digs_len hv
  unfold windbreakref01_div.f
  refine Evt.ite_pos (by omega) (Evt.ite_pos (by omega) ?_)
  rw [w64 (by omega) (by omega)]
  have hb : b16 ^ (digs v).length ≤ lim := by
    have h : lim = b16 ^ (4 * thousand) := by
      unfold lim
      rw [b64_pow, ← Nat.pow_mul]
    rw [h]
    exact Nat.pow_le_pow_right (by decide) hd
  have h := ref_div_loop (digs v) (toD_dig b16_two v) w hw hwl (by omega) hb (digs v).length [] 0 Dig.nil (by simp) (Nat.le_refl _) hw (by rw [List.drop_length]; simp [num16_nil])
  rw [num16_digs] at h
  refine h.congr (fun k => ?_) rfl
  rw [List.append_nil, Int.toNat_natCast, show digs 0 = [] from toD_zero b16]
def shrW (a : List Int) (n : Int) : List Int × Int :=
  if rightB a = true ∧ 0 ≤ n then (limbs (num a / 2 ^ n.toNat), 0) else ([], 1)
theorem ref_Shr_ev (a : List Int) (n : Int) (ha : a.length ≤ maxLen) (da : Dig (b64 : Int) a) : Evt (fun k => windbreakref01_Shr.f k a n) (shrW a n) := by
  unfold windbreakref01_Shr.f shrW
  rw [windbreakref01_Right_eq ha]
  simp only [Option.bind_some]
  have J : ∀ x : Bool, (x = false → rightB a = true ∧ 0 ≤ n) → Evt (fun k => windbreakref01_Shr.j0 k a n x) (if x = true then ([], 1) else (limbs (num a / 2 ^ n.toNat), 0)) := by
    intro x hx
    refine Evt.succ ?_
    simp only [windbreakref01_Shr.j0]
    refine Evt.cond (fun _ => Evt.pure _) (fun hc => ?_)
    have h := hx (by simpa using hc)
    obtain ⟨h1, c1⟩ := (rightB_iff a).1 h.1
    obtain ⟨m, rfl⟩ := Int.eq_ofNat_of_zero_le h.2
    rw [Int.toNat_natCast]
    have hp := num_lt_p da h1
    by_cases hn : 4096 ≤ m
    · have e : num a / 2 ^ m = 0 := by
        apply Nat.div_eq_of_lt
        exact Nat.lt_of_lt_of_le hp (b64_le_pow2 (by omega))
      rw [e, show limbs 0 = [] from toD_zero b64]
      exact Evt.ite_pos (by omega) (Evt.pure _)
    · refine Evt.ite_neg (by omega) ?_
      have n2 := num_lt_lim da (by omega)
      refine Evt.bind (ref_In_ev a (by omega) da) (Evt.bind (ref_power_ev m (by omega)) ?_)
      refine Evt.bind (ref_div_ev (num a) (2 ^ m) n2 (Nat.pow_pos (by decide)) (pow2_lim (by omega))) ?_
      have h3 : num a / 2 ^ m ≤ num a := Nat.div_le_self _ _
      have h4 := ref_told_ev (num a / 2 ^ m) (Nat.lt_of_le_of_lt h3 n2)
      have e : toldV (num a / 2 ^ m) = (limbs (num a / 2 ^ m), 0) := if_pos (Nat.lt_of_le_of_lt h3 hp)
      rw [e] at h4
      exact Evt.bind h4 (h := fun t _ => some (t.1, t.2)) (Evt.pure _)
  cases hA : rightB a with
  | true =>
    refine Evt.ite_pos rfl ((J _ (fun h => ⟨hA, by simpa using h⟩)).congr (fun k => rfl) ?_)
    by_cases hn : n < 0
    · rw [decide_eq_true hn, if_pos rfl, if_neg (show ¬ (true = true ∧ 0 ≤ n) by omega)]
    · rw [decide_eq_false hn, if_neg (by simp), if_pos (show true = true ∧ 0 ≤ n from ⟨rfl, by omega⟩)]
  | false =>
    refine Evt.ite_neg (by simp) ((J _ (fun h => by simp at h)).congr (fun k => rfl) ?_)
    simp
def shlW (a : List Int) (n : Int) : List Int × Int :=
  if rightB a = true ∧ 0 ≤ n then (if a.length = 0 then ([], 0) else if 4096 < n then ([], 4) else toldV (num a * 2 ^ n.toNat)) else ([], 1)
theorem ref_Shl_ev (a : List Int) (n : Int) (ha : a.length ≤ maxLen) (da : Dig (b64 : Int) a) : Evt (fun k => windbreakref01_Shl.f k a n) (shlW a n) := by
  unfold windbreakref01_Shl.f shlW
  rw [windbreakref01_Right_eq ha]
  simp only [Option.bind_some]
  have J : ∀ x : Bool, (x = false → rightB a = true ∧ 0 ≤ n) → Evt (fun k => windbreakref01_Shl.j0 k a n x) (if x = true then ([], 1) else if a.length = 0 then ([], 0) else if 4096 < n then ([], 4) else toldV (num a * 2 ^ n.toNat)) := by
    intro x hx
    refine Evt.succ ?_
    simp only [windbreakref01_Shl.j0]
    refine Evt.cond (fun _ => Evt.pure _) (fun hc => ?_)
    have h := hx (by simpa using hc)
    obtain ⟨h1, c1⟩ := (rightB_iff a).1 h.1
    by_cases h0 : a.length = 0
    · rw [if_pos h0]; exact Evt.ite_pos (by omega) (Evt.pure _)
    · rw [if_neg h0]
      refine Evt.ite_neg (by omega) ?_
      by_cases hn : 4096 < n
      · rw [if_pos hn]; exact Evt.ite_pos (by omega) (Evt.pure _)
      · rw [if_neg hn]
        refine Evt.ite_neg (by omega) ?_
        obtain ⟨m, rfl⟩ := Int.eq_ofNat_of_zero_le h.2
        have n2 := num_lt_lim da (by omega)
        have l1 := digs_len n2
        have l2 := digs_len (v := 2 ^ m) (by have := pow2_lim (n := m) (by omega); omega)
        refine Evt.bind (ref_In_ev a (by omega) da) (Evt.bind (ref_power_ev m (by omega)) ?_)
        have hm := ref_mul_ev (digs (num a)) (digs (2 ^ m)) (toD_dig b16_two _) (toD_dig b16_two _) (by omega) (by omega)
        rw [num16_digs, num16_digs] at hm
        refine Evt.bind hm ?_
        rw [Int.toNat_natCast]
        exact Evt.bind (ref_told_ev (num a * 2 ^ m) (mul_pow_lim da h1 (by omega))) (h := fun t _ => some (t.1, t.2)) (Evt.pure _)
  cases hA : rightB a with
  | true =>
    refine Evt.ite_pos rfl ((J _ (fun h => ⟨hA, by simpa using h⟩)).congr (fun k => rfl) ?_)
    by_cases hn : n < 0
    · rw [decide_eq_true hn, if_pos rfl, if_neg (show ¬ (true = true ∧ 0 ≤ n) by omega)]
    · rw [decide_eq_false hn, if_neg (by simp), if_pos (show true = true ∧ 0 ≤ n from ⟨rfl, by omega⟩)]
  | false =>
    refine Evt.ite_neg (by simp) ((J _ (fun h => by simp at h)).congr (fun k => rfl) ?_)
    simp
theorem len8 : ∀ n : Fin 256, bt (⟨#[0, 1, 2, 2, 3, 3, 3, 3, 4, 4, 4, 4, 4, 4, 4, 4, 5, 5, 5, 5, 5, 5, 5, 5, 5, 5, 5, 5, 5, 5, 5, 5, 6, 6, 6, 6, 6, 6, 6, 6, 6, 6, 6, 6, 6, 6, 6, 6, 6, 6, 6, 6, 6, 6, 6, 6, 6, 6, 6, 6, 6, 6, 6, 6, 7, 7, 7, 7, 7, 7, 7, 7, 7, 7, 7, 7, 7, 7, 7, 7, 7, 7, 7, 7, 7, 7, 7, 7, 7, 7, 7, 7, 7, 7, 7, 7, 7, 7, 7, 7, 7, 7, 7, 7, 7, 7, 7, 7, 7, 7, 7, 7, 7, 7, 7, 7, 7, 7, 7, 7, 7, 7, 7, 7, 7, 7, 7, 7, 8, 8, 8, 8, 8, 8, 8, 8, 8, 8, 8, 8, 8, 8, 8, 8, 8, 8, 8, 8, 8, 8, 8, 8, 8, 8, 8, 8, 8, 8, 8, 8, 8, 8, 8, 8, 8, 8, 8, 8, 8, 8, 8, 8, 8, 8, 8, 8, 8, 8, 8, 8, 8, 8, 8, 8, 8, 8, 8, 8, 8, 8, 8, 8, 8, 8, 8, 8, 8, 8, 8, 8, 8, 8, 8, 8, 8, 8, 8, 8, 8, 8, 8, 8, 8, 8, 8, 8, 8, 8, 8, 8, 8, 8, 8, 8, 8, 8, 8, 8, 8, 8, 8, 8, 8, 8, 8, 8, 8, 8, 8, 8, 8, 8, 8, 8, 8, 8, 8, 8, 8, 8, 8, 8, 8, 8, 8, 8]⟩ : ByteArray) ((n.val : Nat) : Int) = ((bl n.val : Nat) : Int) := by decide +kernel
theorem len8_at {x : Int} (h0 : 0 ≤ x) (h1 : x < 256) : bt (⟨#[0, 1, 2, 2, 3, 3, 3, 3, 4, 4, 4, 4, 4, 4, 4, 4, 5, 5, 5, 5, 5, 5, 5, 5, 5, 5, 5, 5, 5, 5, 5, 5, 6, 6, 6, 6, 6, 6, 6, 6, 6, 6, 6, 6, 6, 6, 6, 6, 6, 6, 6, 6, 6, 6, 6, 6, 6, 6, 6, 6, 6, 6, 6, 6, 7, 7, 7, 7, 7, 7, 7, 7, 7, 7, 7, 7, 7, 7, 7, 7, 7, 7, 7, 7, 7, 7, 7, 7, 7, 7, 7, 7, 7, 7, 7, 7, 7, 7, 7, 7, 7, 7, 7, 7, 7, 7, 7, 7, 7, 7, 7, 7, 7, 7, 7, 7, 7, 7, 7, 7, 7, 7, 7, 7, 7, 7, 7, 7, 8, 8, 8, 8, 8, 8, 8, 8, 8, 8, 8, 8, 8, 8, 8, 8, 8, 8, 8, 8, 8, 8, 8, 8, 8, 8, 8, 8, 8, 8, 8, 8, 8, 8, 8, 8, 8, 8, 8, 8, 8, 8, 8, 8, 8, 8, 8, 8, 8, 8, 8, 8, 8, 8, 8, 8, 8, 8, 8, 8, 8, 8, 8, 8, 8, 8, 8, 8, 8, 8, 8, 8, 8, 8, 8, 8, 8, 8, 8, 8, 8, 8, 8, 8, 8, 8, 8, 8, 8, 8, 8, 8, 8, 8, 8, 8, 8, 8, 8, 8, 8, 8, 8, 8, 8, 8, 8, 8, 8, 8, 8, 8, 8, 8, 8, 8, 8, 8, 8, 8, 8, 8, 8, 8, 8, 8, 8, 8]⟩ : ByteArray) x = ((bl x.toNat : Nat) : Int) := by
  obtain ⟨n, rfl⟩ := Int.eq_ofNat_of_zero_le h0
  exact len8 ⟨n, by omega⟩
theorem len64_j {x : Int} (h0 : 0 ≤ x) (h1 : x < 4294967296) (c : Int) (hc : 0 ≤ c ∧ c ≤ 1000) : Evt (fun k => bits_Len64.j0 k x c) (c + ((bl x.toNat : Nat) : Int)) := by
  have key : ∀ (s : Nat) (y : Int), 0 ≤ y → y < 256 → (s ≤ 24) → (y = 0 → s = 0) → y = x / 2 ^ s → ((bl x.toNat : Nat) : Int) = (s : Int) + ((bl y.toNat : Nat) : Int) := by
    intro s y hy0 hy1 hs hz he
    have : bl x.toNat = s + bl y.toNat := by
      by_cases h : y = 0
      · have hs0 := hz h
        subst hs0
        simp at he
        rw [he, Nat.zero_add]
      · have e : y.toNat = x.toNat / 2 ^ s := by
          rw [he]
          have h2 : x = ((x.toNat : Nat) : Int) := by omega
          rw [h2]
          have h3 : ((2 : Int) ^ s) = ((2 ^ s : Nat) : Int) := by simp
          rw [h3, ← Int.natCast_ediv, Int.toNat_natCast, Int.toNat_natCast]
        rw [e]
        exact bl_shift x.toNat s (by rw [← e]; omega)
    omega
  refine Evt.succ ?_
  simp only [bits_Len64.j0]
  by_cases c1 : x ≥ 65536
  · refine Evt.ite_pos c1 ?_
    by_cases c2 : x / 65536 ≥ 256
    · refine Evt.ite_pos c2 (Evt.ite_pos (by omega) (Evt.ite_pos (by omega) ?_))
      have e : x / 65536 / 256 % 256 = x / 65536 / 256 := by omega
      rw [e, len8_at (by omega) (by omega)]
      have k1 := key 24 (x / 65536 / 256) (by omega) (by omega) (by omega) (by omega) (by rw [Int.ediv_ediv_of_nonneg (by omega)]; rfl)
      have k2 := bl_le8 (x := (x / 65536 / 256).toNat) (by omega)
      rw [w64 (show -9223372036854775808 ≤ c + 16 by omega) (by omega), w64 (show -9223372036854775808 ≤ c + 16 + 8 by omega) (by omega), w64 (show -9223372036854775808 ≤ ((bl (x / 65536 / 256).toNat : Nat) : Int) by omega) (by omega), w64 (by omega) (by omega), k1]
      refine (Evt.pure _).congr (fun k => rfl) (by omega)
    · refine Evt.ite_neg c2 (Evt.ite_pos (by omega) (Evt.ite_pos (by omega) ?_))
      have e : x / 65536 % 256 = x / 65536 := by omega
      rw [e, len8_at (by omega) (by omega)]
      have k1 := key 16 (x / 65536) (by omega) (by omega) (by omega) (by omega) rfl
      have k2 := bl_le8 (x := (x / 65536).toNat) (by omega)
      rw [w64 (show -9223372036854775808 ≤ c + 16 by omega) (by omega), w64 (show -9223372036854775808 ≤ ((bl (x / 65536).toNat : Nat) : Int) by omega) (by omega), w64 (by omega) (by omega), k1]
      refine (Evt.pure _).congr (fun k => rfl) (by omega)
  · refine Evt.ite_neg c1 ?_
    by_cases c2 : x ≥ 256
    · refine Evt.ite_pos c2 (Evt.ite_pos (by omega) (Evt.ite_pos (by omega) ?_))
      have e : x / 256 % 256 = x / 256 := by omega
      rw [e, len8_at (by omega) (by omega)]
      have k1 := key 8 (x / 256) (by omega) (by omega) (by omega) (by omega) rfl
      have k2 := bl_le8 (x := (x / 256).toNat) (by omega)
      rw [w64 (show -9223372036854775808 ≤ c + 8 by omega) (by omega), w64 (show -9223372036854775808 ≤ ((bl (x / 256).toNat : Nat) : Int) by omega) (by omega), w64 (by omega) (by omega), k1]
      refine (Evt.pure _).congr (fun k => rfl) (by omega)
    · refine Evt.ite_neg c2 (Evt.ite_pos (by omega) (Evt.ite_pos (by omega) ?_))
      have e : x % 256 = x := by omega
      rw [e, len8_at (by omega) (by omega)]
      have k2 := bl_le8 (x := x.toNat) (by omega)
      rw [w64 (show -9223372036854775808 ≤ ((bl x.toNat : Nat) : Int) by omega) (by omega), w64 (by omega) (by omega)]
      exact Evt.pure _
theorem bits_Len64_ev {x : Int} (h0 : 0 ≤ x) (h1 : x < 18446744073709551616) : Evt (fun k => bits_Len64.f k x) ((bl x.toNat : Nat) : Int) := by
  unfold bits_Len64.f
  by_cases c1 : x ≥ 4294967296
  · refine Evt.ite_pos c1 ?_
    refine (len64_j (x := x / 4294967296) (by omega) (by omega) 32 (by omega)).congr (fun k => rfl) ?_
    have e : (x / 4294967296).toNat = x.toNat / 2 ^ 32 := by omega
    have := bl_shift x.toNat 32 (by omega)
    rw [e]
    omega
  · refine Evt.ite_neg c1 ?_
    exact (len64_j (x := x) (by omega) (by omega) 0 (by omega)).congr (fun k => rfl) (by omega)
theorem nat_Bits_ev (a : List Int) (ha : a.length ≤ maxLen) (da : Dig (b64 : Int) a) : Evt (fun k => nat_Bits.f k a) (bitsV a) := by
  unfold nat_Bits.f bitsV
  rw [nat_Right_eq ha]
  simp only [Option.bind_some]
  cases hA : rightB a with
  | true =>
    obtain ⟨h1, c1⟩ := (rightB_iff a).1 hA
    refine Evt.ite_pos rfl ?_
    by_cases h0 : a.length = 0
    · rw [if_neg (fun h => h.2 h0)]
      exact Evt.ite_pos (by omega) (Evt.pure _)
    · rw [if_pos (show true = true ∧ a.length ≠ 0 from ⟨rfl, h0⟩)]
      rw [w64 (show -9223372036854775808 ≤ (a.length : Int) - 1 by omega) (by omega)]
      refine Evt.ite_neg (by omega) (Evt.ite_pos (by omega) (Evt.ite_pos (by omega) ?_))
      rw [rd_getD, show ((a.length : Int) - 1).toNat = a.length - 1 from by omega]
      have hr := da.getD b64_pos (a.length - 1)
      simp only [b64] at hr
      refine Evt.bind (bits_Len64_ev hr.1 hr.2) ?_
      have hb := bl_le (x := (a.getD (a.length - 1) 0).toNat) (m := 64) (by omega)
      rw [w64 (show -9223372036854775808 ≤ 64 * ((a.length : Int) - 1) by omega) (by omega), w64 (by omega) (by omega)]
      exact Evt.pure _
  | false =>
    rw [if_neg (by simp)]
    exact Evt.ite_neg (by simp) (Evt.pure _)
end Go.Proofs.Ytnaphgnkhhapoaa.Z
end
section
namespace Go.Proofs.Ytnaphgnkhhapoaa.Z
open Go.RowKit Go.Proofs.Ytnaphgnkhhapoaa.F Go.Proofs.YtnaphgnkhhapoaaW.PrintWords Go.Proofs.YtnaphgnkhhapoaaW.PrintMore
set_option linter.unusedSimpArgs false
set_option linter.unusedVariables false
theorem lead_ex (b : List Int) : ∃ k : Nat, k ≤ b.length ∧ (∀ j, j < k → b.getD j 0 = 0) ∧ (k < b.length → b.getD k 0 ≠ 0) ∧ val (b8 : Int) (b.drop k).reverse = val (b8 : Int) b.reverse := by
  induction b with
  | nil => exact ⟨0, Nat.le_refl _, fun j hj => absurd hj (Nat.not_lt_zero _), fun h => absurd h (Nat.not_lt_zero _), rfl⟩
  | cons c b ih =>
    by_cases h : c = 0
    · obtain ⟨k, h1, h2, h3, h4⟩ := ih
      refine ⟨k + 1, by simp; omega, fun j hj => ?_, fun hh => by simpa using h3 (by simpa using hh), ?_⟩
      · cases j with
        | zero => simpa using h
        | succ j => simpa using h2 j (by omega)
      · rw [List.drop_succ_cons, h4, List.reverse_cons, val_append, h]
        simp [val]
    · exact ⟨0, Nat.zero_le _, fun j hj => absurd hj (Nat.not_lt_zero _), fun _ => by simpa using h, rfl⟩
def bv (b : List Int) : Nat := (val (b8 : Int) b.reverse).toNat
theorem bv_lt64 {b : List Int} (d : Dig (b8 : Int) b) (h : b.length ≤ 512) : bv b < b64 ^ 64 := val_b8_lt d h
theorem bv_lt {b : List Int} (d : Dig (b8 : Int) b) : bv b < 2 ^ (8 * b.length) := by
  have h1 : Dig (b8 : Int) b.reverse := fun x hx => d x (List.mem_reverse.1 hx)
  have h2 := val_lt b8_pos h1
  rw [pow_cast, List.length_reverse] at h2
  have h3 := val_nonneg b8_pos h1
  rw [← b8_pow2]
  unfold bv
  omega
theorem bv_cons {x : Int} {b : List Int} (d : Dig (b8 : Int) (x :: b)) : bv (x :: b) = bv b + 2 ^ (8 * b.length) * x.toNat := by
  obtain ⟨dx, db⟩ := Dig.cons.1 d
  have h1 : Dig (b8 : Int) b.reverse := fun y hy => db y (List.mem_reverse.1 hy)
  have h3 := val_nonneg b8_pos h1
  unfold bv
  rw [List.reverse_cons, val_append, List.length_reverse, pow_cast, b8_pow2]
  simp only [val, Int.mul_zero, Int.add_zero]
  have h4 : (((2 ^ (8 * b.length) : Nat) : Int) * x) = ((2 ^ (8 * b.length) * x.toNat : Nat) : Int) := by
    rw [Int.natCast_mul, Int.toNat_of_nonneg dx.1]
  rw [h4]
  omega
theorem nat_Read_all {b : List Int} (d : Dig (b8 : Int) b) (h : b.length ≤ 512) : Evt (fun k => nat_Read.f k b) (limbs (bv b), 0) := by
  obtain ⟨k, h1, h2, h3, h4⟩ := lead_ex b
  refine (nat_Read_ev b (by simp only [maxLen]; omega) d k h1 h2 h3).congr (fun k => rfl) ?_
  unfold readV bv
  rw [if_neg (by rw [List.length_drop]; omega), h4]
theorem ref_Read_all {b : List Int} (d : Dig (b8 : Int) b) (h : b.length ≤ 512) : Evt (fun k => windbreakref01_Read.f k b) (limbs (bv b), 0) := by
  obtain ⟨k, h1, h2, h3, h4⟩ := lead_ex b
  refine (ref_Read_ev b (by simp only [maxLen]; omega) d k h1 h2 h3).congr (fun k => rfl) ?_
  unfold readV bv
  rw [if_neg (by rw [List.length_drop]; omega), h4]
theorem wraps_u8 (n : Int) (h0 : 0 ≤ n) (h1 : n < 2 ^ 8) : IntKind.u8.wrap n = n := by
  simp [IntKind.wrap, IntKind.bits, IntKind.signed]
  omega
theorem mask_u8 {x : Int} (h0 : 0 ≤ x) (h1 : x < 256) {o : Nat} (ho : o < 8) : Go.bits .and .u8 x (IntKind.u8.wrap (IntKind.u8.wrap (2 ^ o) - 1)) = ((x.toNat % 2 ^ o : Nat) : Int) := by
  have key : ∀ o : Nat, o < 8 → IntKind.u8.wrap (IntKind.u8.wrap (2 ^ o) - 1) = ((2 : Int) ^ o - 1) := by decide
  rw [key o ho]
  have h := bits_mask .u8 8 (by decide) wraps_u8 o (by omega) x h0 (by omega)
  rw [h]
  obtain ⟨n, rfl⟩ := Int.eq_ofNat_of_zero_le h0
  simp
theorem maskV_dig {b : List Int} (d : Dig (b8 : Int) b) {z : Nat} : Dig (b8 : Int) (maskV ((z : Int) % 8) b) ∧ (maskV ((z : Int) % 8) b).length = b.length := by
  unfold maskV
  split
  · refine ⟨?_, by simp⟩
    have h0 := d.getD b8_pos 0
    have hb : (b8 : Int) = 256 := rfl
    rw [hb] at h0
    rw [show ((z : Int) % 8).toNat = z % 8 from by omega, mask_u8 h0.1 h0.2 (Nat.mod_lt _ (by omega))]
    intro y hy
    rcases List.mem_or_eq_of_mem_set hy with h | h
    · exact d y h
    · subst h
      have h1 := Nat.mod_le (b.getD 0 0).toNat (2 ^ (z % 8))
      rw [hb]
      omega
  · exact ⟨d, rfl⟩
theorem maskV_bv {b : List Int} (d : Dig (b8 : Int) b) {z : Nat} (hz : 0 < z) (hl : b.length = (z + 7) / 8) : bv (maskV ((z : Int) % 8) b) = bv b % 2 ^ z := by
  unfold maskV
  by_cases h : (z : Int) % 8 > 0
  · rw [if_pos h, show ((z : Int) % 8).toNat = z % 8 from by omega]
    cases b with
    | nil => simp at hl; omega
    | cons x t =>
      obtain ⟨dx, dt⟩ := Dig.cons.1 d
      have hb : (b8 : Int) = 256 := rfl
      rw [hb] at dx
      simp only [List.getD_cons_zero, List.set_cons_zero, List.length_cons] at hl ⊢
      rw [mask_u8 dx.1 dx.2 (Nat.mod_lt _ (by omega))]
      have dm : Dig (b8 : Int) (((x.toNat % 2 ^ (z % 8) : Nat) : Int) :: t) := by
        refine Dig.cons.2 ⟨?_, dt⟩
        have h1 := Nat.mod_le x.toNat (2 ^ (z % 8))
        rw [hb]
        omega
      rw [bv_cons dm, bv_cons d, Int.toNat_natCast]
      have hz2 : z = 8 * t.length + z % 8 := by omega
      have hlt := bv_lt dt
      have hpos : 0 < 2 ^ (8 * t.length) := Nat.pow_pos (by omega)
      have e : 2 ^ z = 2 ^ (8 * t.length) * 2 ^ (z % 8) := by rw [← Nat.pow_add, ← hz2]
      rw [e, Nat.mod_mul, Nat.add_mul_mod_self_left, Nat.mod_eq_of_lt hlt, Nat.add_mul_div_left _ _ hpos, Nat.div_eq_of_lt hlt, Nat.zero_add]
  · rw [if_neg h]
    have hz2 : 8 * b.length = z := by omega
    have hlt := bv_lt d
    rw [hz2] at hlt
    exact (Nat.mod_eq_of_lt hlt).symm
def drawU (z N : Nat) (L : List Int) : Nat → Nat → List Int × Int × Nat
  | 0, u => ([], 7, u)
  | f + 1, u => if L.length - u < (z + 7) / 8 then ([], 7, u) else if bv ((L.drop u).take ((z + 7) / 8)) % 2 ^ z < N then (limbs (bv ((L.drop u).take ((z + 7) / 8)) % 2 ^ z), 0, u + (z + 7) / 8) else drawU z N L f (u + (z + 7) / 8)
theorem drawU_facts {z N : Nat} (hN : N ≤ b64 ^ 64) {L : List Int} (f : Nat) : ∀ u, u ≤ L.length → (drawU z N L f u).2.2 ≤ L.length ∧ ∃ v, v < b64 ^ 64 ∧ (drawU z N L f u).1 = limbs v := by
  induction f with
  | zero => exact fun u hu => ⟨hu, 0, Nat.pow_pos (by decide), lz.symm⟩
  | succ f ih =>
    intro u hu
    rw [drawU]
    by_cases h1 : L.length - u < (z + 7) / 8
    · rw [if_pos h1]
      exact ⟨hu, 0, Nat.pow_pos (by decide), lz.symm⟩
    · rw [if_neg h1]
      by_cases h2 : bv ((L.drop u).take ((z + 7) / 8)) % 2 ^ z < N
      · rw [if_pos h2]
        exact ⟨by show u + (z + 7) / 8 ≤ L.length; omega, _, Nat.lt_of_lt_of_le h2 hN, rfl⟩
      · rw [if_neg h2]
        exact ih _ (by omega)
theorem taken_facts {L : List Int} (dL : Dig (b8 : Int) L) {z : Nat} (u : Nat) (h1 : ¬ L.length - u < (z + 7) / 8) : Dig (b8 : Int) ((L.drop u).take ((z + 7) / 8)) ∧ ((L.drop u).take ((z + 7) / 8)).length = (z + 7) / 8 :=
  ⟨fun x hx => dL x (List.mem_of_mem_drop (List.mem_of_mem_take hx)), by rw [List.length_take, List.length_drop]; omega⟩
section
variable {n L : List Int} (hr : rightB n = true) (hn : n.length ≤ maxLen) (dn : Dig (b64 : Int) n) (dL : Dig (b8 : Int) L) {z : Nat} (hz : 0 < z) (hz2 : z ≤ 4096)
include hr hn dn dL hz hz2
theorem tape_draw_ev (f : Nat) : ∀ u, u ≤ L.length → L.length - u < f → Evt (fun k => tape_draw.f (z : Int) n k (L.drop u)) ((drawU z (num n) L f u).1, (drawU z (num n) L f u).2.1, L.drop (drawU z (num n) L f u).2.2) := by
  induction f with
  | zero => exact fun u _ h => absurd h (Nat.not_lt_zero _)
  | succ f ih =>
    intro u hu hf
    refine Evt.succ ?_
    simp only [tape_draw.f]
    rw [show (((z : Int) + 7) / 8).toNat = (z + 7) / 8 from by omega]
    rw [drawU]
    by_cases h1 : L.length - u < (z + 7) / 8
    · rw [if_pos h1]
      refine Evt.ite_pos (by rw [List.length_drop]; omega) ?_
      exact Evt.pure _
    · rw [if_neg h1]
      refine Evt.ite_neg (by rw [List.length_drop]; omega) ?_
      obtain ⟨d1, l1⟩ := taken_facts dL u h1
      generalize (L.drop u).take ((z + 7) / 8) = X at d1 l1
      obtain ⟨d2, l2⟩ := maskV_dig (z := z) d1
      refine Evt.bind (nat_Read_all d2 (by omega)) ?_
      rw [maskV_bv d1 hz l1]
      have hlt : bv X % 2 ^ z < b64 ^ 64 := Nat.lt_of_le_of_lt (Nat.mod_le _ _) (bv_lt64 d1 (by omega))
      have hc := nat_Cmp_ev (limbs (bv X % 2 ^ z)) n (lmax hlt) hn (dig_limbs' _) dn
      unfold cmpV at hc
      rw [if_pos ⟨right_limbs' hlt, hr⟩, num_limbs] at hc
      refine Evt.bind hc ?_
      unfold cmpN
      by_cases h2 : bv X % 2 ^ z < num n
      · rw [if_pos h2, if_pos h2]
        refine Evt.ite_pos (by decide) ?_
        refine (Evt.pure _).congr (fun k => rfl) ?_
        rw [List.drop_drop]
      · rw [if_neg h2, if_neg h2]
        refine Evt.ite_neg (by split <;> decide) ?_
        rw [List.drop_drop]
        exact ih (u + (z + 7) / 8) (by omega) (by omega)
theorem ref4_draw_ev (f : Nat) : ∀ u, u ≤ L.length → L.length - u < f → Evt (fun k => ref4_draw.f (z : Int) n L k u) (drawU z (num n) L f u) := by
  induction f with
  | zero => exact fun u _ h => absurd h (Nat.not_lt_zero _)
  | succ f ih =>
    intro u hu hf
    refine Evt.succ ?_
    simp only [ref4_draw.f]
    rw [show (((z : Int) + 7) / 8).toNat = (z + 7) / 8 from by omega]
    rw [drawU]
    by_cases h1 : L.length - u < (z + 7) / 8
    · rw [if_pos h1]
      exact Evt.ite_pos (by rw [List.length_drop]; omega) (Evt.pure _)
    · rw [if_neg h1]
      refine Evt.ite_neg (by rw [List.length_drop]; omega) ?_
      obtain ⟨d1, l1⟩ := taken_facts dL u h1
      generalize (L.drop u).take ((z + 7) / 8) = X at d1 l1
      refine Evt.bind (ref_Read_all d1 (by omega)) ?_
      have h0 := bv_lt64 d1 (by omega)
      have s1 := ref_Shr_ev (limbs (bv X)) (z : Int) (lmax h0) (dig_limbs' _)
      unfold shrW at s1
      rw [if_pos ⟨right_limbs' h0, by omega⟩, num_limbs, Int.toNat_natCast] at s1
      refine Evt.bind s1 ?_
      have ht : bv X / 2 ^ z < b64 ^ 64 := Nat.lt_of_le_of_lt (Nat.div_le_self _ _) h0
      have hm : bv X / 2 ^ z * 2 ^ z ≤ bv X := Nat.div_mul_le_self _ _
      have hm2 : bv X / 2 ^ z * 2 ^ z < b64 ^ 64 := Nat.lt_of_le_of_lt hm h0
      have s2 := ref_Shl_ev (limbs (bv X / 2 ^ z)) (z : Int) (lmax ht) (dig_limbs' _)
      have e2 : shlW (limbs (bv X / 2 ^ z)) (z : Int) = (limbs (bv X / 2 ^ z * 2 ^ z), 0) := by
        unfold shlW
        rw [if_pos ⟨right_limbs' ht, by omega⟩]
        by_cases h0 : (limbs (bv X / 2 ^ z)).length = 0
        · rw [if_pos h0, (lz_iff _).1 h0, Nat.zero_mul, lz]
        · rw [if_neg h0, if_neg (by omega)]
          unfold toldV
          rw [num_limbs, Int.toNat_natCast, if_pos hm2]
      rw [e2] at s2
      refine Evt.bind s2 ?_
      have s3 := ref_Sub_ev (limbs (bv X)) (limbs (bv X / 2 ^ z * 2 ^ z)) (lmax h0) (lmax hm2) (dig_limbs' _) (dig_limbs' _)
      unfold subW at s3
      rw [if_pos ⟨right_limbs' h0, right_limbs' hm2⟩, num_limbs, num_limbs, if_neg (by omega)] at s3
      refine Evt.bind s3 ?_
      have e3 : bv X - bv X / 2 ^ z * 2 ^ z = bv X % 2 ^ z := by
        have := Nat.div_add_mod (bv X) (2 ^ z)
        rw [Nat.mul_comm] at this
        omega
      rw [e3]
      have hlt : bv X % 2 ^ z < b64 ^ 64 := Nat.lt_of_le_of_lt (Nat.mod_le _ _) h0
      have hc := ref_Cmp_ev (limbs (bv X % 2 ^ z)) n (lmax hlt) hn (dig_limbs' _) dn
      unfold cmpW at hc
      rw [if_pos ⟨right_limbs' hlt, hr⟩, num_limbs] at hc
      refine Evt.bind hc ?_
      unfold cmpN
      by_cases h2 : bv X % 2 ^ z < num n
      · rw [if_pos h2, if_pos h2]
        exact Evt.ite_pos (by decide) (Evt.pure _)
      · rw [if_neg h2, if_neg h2]
        exact Evt.ite_neg (by split <;> decide) (ih (u + (z + 7) / 8) (by omega) (by omega))
end
end Go.Proofs.Ytnaphgnkhhapoaa.Z
end
section
namespace Go.Proofs.Ytnaphgnkhhapoaa.Z
open Go.RowKit Go.Proofs.Ytnaphgnkhhapoaa.F Go.Proofs.YtnaphgnkhhapoaaW.PrintWords Go.Proofs.YtnaphgnkhhapoaaW.PrintMore
set_option linter.unusedSimpArgs false
set_option linter.unusedVariables false
def belowU (n L : List Int) (u : Nat) : List Int × Int × Nat :=
  if rightB n = true ∧ n.length ≠ 0 then (if num n = 1 then ([], 0, u) else drawU (bl (num n - 1)) (num n) L (L.length + 1) u) else ([], 1, u)
theorem num_pos_of {n : List Int} (dn : Dig (b64 : Int) n) (hr : rightB n = true) (h0 : n.length ≠ 0) : 0 < num n := by
  rcases Nat.eq_zero_or_pos (num n) with h | h
  · exact absurd ((num_zero_iff dn ((rightB_iff n).1 hr).2).1 h) h0
  · exact h
theorem one_limbs : limbs 1 = [1] := limbs_one (by decide) (by decide)
theorem bl_pos_t {v : Nat} (h : v ≠ 0) : 0 < bl v := by
  rcases Nat.eq_zero_or_pos (bl v) with h0 | h0
  · have := bl_lt v
    rw [h0] at this
    omega
  · exact h0
theorem bl_64_t {v : Nat} (h : v < b64 ^ 64) : bl v ≤ 4096 := by
  have hb2 : (2 : Nat) ^ 64 = b64 := rfl
  have key : ∀ j : Nat, v < b64 ^ j → bl v ≤ 64 * j := fun j h => bl_le (by rw [Nat.pow_mul, hb2]; exact h)
  exact key 64 h
theorem belowU_facts {n : List Int} (dn : Dig (b64 : Int) n) (L : List Int) (u : Nat) (hu : u ≤ L.length) : (belowU n L u).2.2 ≤ L.length ∧ ∃ v, v < b64 ^ 64 ∧ (belowU n L u).1 = limbs v := by
  unfold belowU
  by_cases hc : rightB n = true ∧ n.length ≠ 0
  · rw [if_pos hc]
    split
    · exact ⟨hu, 0, Nat.pow_pos (by decide), lz.symm⟩
    · exact drawU_facts (Nat.le_of_lt (num_lt_p dn ((rightB_iff n).1 hc.1).1)) _ u hu
  · rw [if_neg hc]
    exact ⟨hu, 0, Nat.pow_pos (by decide), lz.symm⟩
section
variable {n L : List Int} (hn : n.length ≤ maxLen) (dn : Dig (b64 : Int) n) (dL : Dig (b8 : Int) L)
include hn dn dL
theorem tape_Below_ev (u : Nat) (hu : u ≤ L.length) : Evt (fun k => tape_Below.f k n (L.drop u)) ((belowU n L u).1, (belowU n L u).2.1, L.drop (belowU n L u).2.2) := by
  unfold tape_Below.f belowU
  rw [nat_Right_eq hn]
  simp only [Option.bind_some]
  by_cases hc : rightB n = true ∧ n.length ≠ 0
  · rw [if_pos hc]
    refine Evt.ite_pos hc ?_
    have hp := num_pos_of dn hc.1 hc.2
    have hlt : num n < b64 ^ 64 := num_lt_p dn ((rightB_iff n).1 hc.1).1
    have s := nat_Sub_ev n (limbs 1) hn (by rw [one_limbs]; simp [maxLen]) dn (dig_limbs' _)
    unfold subV at s
    rw [if_pos ⟨hc.1, right_limbs' (by omega)⟩, num_limbs, if_neg (by omega), one_limbs] at s
    refine Evt.bind s ?_
    by_cases h1 : num n = 1
    · rw [if_pos h1, h1]
      refine Evt.ite_pos (by rw [Nat.sub_self]; exact (lz_iff 0).2 rfl) ?_
      exact Evt.pure _
    · rw [if_neg h1]
      refine Evt.ite_neg (fun e => h1 (by have := (lz_iff _).1 e; omega)) ?_
      have z := nat_Bits_ev (limbs (num n - 1)) (lmax (by omega)) (dig_limbs' _)
      rw [bitsV_bl (dig_limbs' _) (right_limbs' (by omega)), num_limbs] at z
      refine Evt.bind z ?_
      have hz := bl_pos_t (v := num n - 1) (by omega)
      have hz2 := bl_64_t (v := num n - 1) (by omega)
      refine Evt.ite_pos ⟨by omega, by omega⟩ ?_
      exact tape_draw_ev hc.1 hn dn dL hz hz2 (L.length + 1) u hu (by omega)
  · rw [if_neg hc]
    exact Evt.ite_neg hc (Evt.pure _)
theorem ref4_Below_ev (u : Nat) (hu : u ≤ L.length) : Evt (fun k => ref4_Below.f k n L u) (belowU n L u) := by
  unfold ref4_Below.f belowU
  rw [windbreakref01_Right_eq hn]
  simp only [Option.bind_some]
  by_cases hc : rightB n = true ∧ n.length ≠ 0
  · rw [if_pos hc]
    refine Evt.ite_pos hc ?_
    have hp := num_pos_of dn hc.1 hc.2
    have hlt : num n < b64 ^ 64 := num_lt_p dn ((rightB_iff n).1 hc.1).1
    have o : windbreakref01_Of.f 1 = some (limbs 1) := by
      rw [ref_Of_eq, one_limbs]
      simp [strip]
    rw [o]
    simp only [Option.bind_some]
    have s := ref_Sub_ev n (limbs 1) hn (by rw [one_limbs]; simp [maxLen]) dn (dig_limbs' _)
    unfold subW at s
    rw [if_pos ⟨hc.1, right_limbs' (by omega)⟩, num_limbs, if_neg (by omega)] at s
    refine Evt.bind s ?_
    have z := ref_Bits_ev (limbs (num n - 1)) (lmax (by omega)) (dig_limbs' _)
    rw [bitsV_bl (dig_limbs' _) (right_limbs' (by omega)), num_limbs] at z
    refine Evt.bind z ?_
    by_cases h1 : num n = 1
    · rw [if_pos h1, h1]
      exact Evt.ite_pos (by decide) (Evt.pure _)
    · rw [if_neg h1]
      have hz := bl_pos_t (v := num n - 1) (by omega)
      have hz2 := bl_64_t (v := num n - 1) (by omega)
      refine Evt.ite_neg (by omega) (Evt.ite_pos ⟨by omega, by omega⟩ ?_)
      exact ref4_draw_ev hc.1 hn dn dL hz hz2 (L.length + 1) u hu (by omega)
  · rw [if_neg hc]
    exact Evt.ite_neg hc (Evt.pure _)
end
def smallU (m : Int) (L : List Int) (u : Nat) : Int × Int × Nat :=
  if m < 1 then (0, 1, u) else (wrap64 (smallV (belowU (limbs m.toNat) L u).1).1, (belowU (limbs m.toNat) L u).2.1, (belowU (limbs m.toNat) L u).2.2)
theorem strip_limb {m : Int} (h1 : ¬ m < 1) (h2 : m < 9223372036854775808) : strip [m] = limbs m.toNat ∧ m.toNat < b64 := by
  have hb : b64 = 18446744073709551616 := rfl
  have h3 : m.toNat < b64 := by omega
  refine ⟨?_, h3⟩
  rw [limbs_one (by omega) h3, Int.toNat_of_nonneg (by omega)]
  have : m ≠ 0 := by omega
  simp [strip, this]
section
variable {m : Int} (hm : m < 9223372036854775808) {L : List Int} (dL : Dig (b8 : Int) L)
include hm dL
theorem tape_Small_ev (u : Nat) (hu : u ≤ L.length) : Evt (fun k => tape_Small.f k m (L.drop u)) ((smallU m L u).1, (smallU m L u).2.1, L.drop (smallU m L u).2.2) := by
  unfold tape_Small.f smallU
  by_cases h1 : m < 1
  · rw [if_pos h1]
    exact Evt.ite_pos h1 (Evt.pure _)
  · rw [if_neg h1]
    refine Evt.ite_neg h1 ?_
    obtain ⟨e1, e2⟩ := strip_limb h1 hm
    have o := nat_Of_ev m
    rw [e1] at o
    refine Evt.bind o ?_
    have hlt : m.toNat < b64 ^ 64 := Nat.lt_of_lt_of_le e2 (Nat.le_self_pow (by decide) b64)
    refine Evt.bind (tape_Below_ev (lmax hlt) (dig_limbs' _) dL u hu) ?_
    obtain ⟨_, v, v1, v2⟩ := belowU_facts (n := limbs m.toNat) (dig_limbs' _) L u hu
    exact Evt.bind (nat_Small_ev _ (by rw [v2]; exact lmax v1)) (Evt.pure _)
theorem ref4_Small_ev (u : Nat) (hu : u ≤ L.length) : Evt (fun k => ref4_Small.f k m L u) (smallU m L u) := by
  unfold ref4_Small.f smallU
  by_cases h1 : m < 1
  · rw [if_pos h1]
    exact Evt.ite_pos h1 (Evt.pure _)
  · rw [if_neg h1]
    refine Evt.ite_neg h1 ?_
    obtain ⟨e1, e2⟩ := strip_limb h1 hm
    rw [ref_Of_eq, e1]
    simp only [Option.bind_some]
    have hlt : m.toNat < b64 ^ 64 := Nat.lt_of_lt_of_le e2 (Nat.le_self_pow (by decide) b64)
    refine Evt.bind (ref4_Below_ev (lmax hlt) (dig_limbs' _) dL u hu) ?_
    obtain ⟨_, v, v1, v2⟩ := belowU_facts (n := limbs m.toNat) (dig_limbs' _) L u hu
    exact Evt.bind (windbreakref01_Small_ev _ (by rw [v2]; exact lmax v1)) (Evt.pure _)
end
theorem smallU_le (m : Int) (h2 : m < 9223372036854775808) (L : List Int) (u : Nat) (hu : u ≤ L.length) : (smallU m L u).2.2 ≤ L.length := by
  unfold smallU
  by_cases h1 : m < 1
  · rw [if_pos h1]
    exact hu
  · rw [if_neg h1]
    obtain ⟨e1, e2⟩ := strip_limb h1 h2
    have hlt : m.toNat < b64 ^ 64 := Nat.lt_of_lt_of_le e2 (Nat.le_self_pow (by decide) b64)
    exact (belowU_facts (n := limbs m.toNat) (dig_limbs' _) L u hu).1
end Go.Proofs.Ytnaphgnkhhapoaa.Z
end
section
namespace Go.Proofs.Ytnaphgnkhhapoaa.Z
open Go.RowKit Go.Proofs.Ytnaphgnkhhapoaa.F Go.Proofs.YtnaphgnkhhapoaaW.PrintWords Go.Proofs.YtnaphgnkhhapoaaW.PrintMore
set_option linter.unusedSimpArgs false
set_option linter.unusedVariables false
theorem drawU_ok {z N : Nat} {L : List Int} (f : Nat) : ∀ u, (drawU z N L f u).2.1 = 0 ∧ (∃ v, v < N ∧ (drawU z N L f u).1 = limbs v) ∨ (drawU z N L f u).2.1 = 7 := by
  induction f with
  | zero => exact fun u => .inr rfl
  | succ f ih =>
    intro u
    rw [drawU]
    by_cases c1 : L.length - u < (z + 7) / 8
    · rw [if_pos c1]
      exact .inr rfl
    · rw [if_neg c1]
      by_cases c2 : bv ((L.drop u).take ((z + 7) / 8)) % 2 ^ z < N
      · rw [if_pos c2]
        exact .inl ⟨rfl, _, c2, rfl⟩
      · rw [if_neg c2]
        exact ih _
theorem small_num {v : Nat} (h : v < 9223372036854775808) : wrap64 (smallV (limbs v)).1 = (v : Int) := by
  unfold smallV
  have hb : b64 = 18446744073709551616 := rfl
  by_cases h0 : v = 0
  · subst h0
    rw [lz, if_pos ⟨by decide, by simp⟩]
    exact w64 (by decide) (by decide)
  · rw [limbs_one h0 (by omega), if_pos ⟨right_one (by omega), by simp⟩]
    simp only [List.getD_cons_zero]
    exact w64 (by omega) (by omega)
theorem smallU_ok {m : Int} (h1 : 1 ≤ m) (h2 : m < 9223372036854775808) (L : List Int) (u : Nat) : ((smallU m L u).2.1 = 0 ∧ 0 ≤ (smallU m L u).1 ∧ (smallU m L u).1 < m) ∨ (smallU m L u).2.1 = 7 := by
  obtain ⟨e1, e2⟩ := strip_limb (m := m) (by omega) h2
  have hlt : m.toNat < b64 ^ 64 := Nat.lt_of_lt_of_le e2 (Nat.le_self_pow (by decide) b64)
  have hl : (limbs m.toNat).length ≠ 0 := fun e => by have := (lz_iff m.toNat).1 e; omega
  unfold smallU
  rw [if_neg (by omega)]
  unfold belowU
  rw [if_pos ⟨right_limbs' hlt, hl⟩, num_limbs]
  by_cases hm : m.toNat = 1
  · rw [if_pos hm]
    refine .inl ⟨rfl, ?_⟩
    have := small_num (v := 0) (by omega)
    rw [lz] at this
    show 0 ≤ wrap64 (smallV []).1 ∧ wrap64 (smallV []).1 < m
    rw [this]
    omega
  · rw [if_neg hm]
    rcases drawU_ok (z := bl (m.toNat - 1)) (N := m.toNat) (L := L) (L.length + 1) u with ⟨a, v, v1, v2⟩ | h7
    · refine .inl ⟨a, ?_⟩
      show 0 ≤ wrap64 (smallV (drawU (bl (m.toNat - 1)) m.toNat L (L.length + 1) u).1).1 ∧ _
      rw [v2, small_num (by omega)]
      omega
    · exact .inr h7
def shufU (L : List Int) : Nat → List Int → Nat → List Int × Int × Nat
  | 0, V, u => (V, 0, u)
  | i + 1, V, u => if (smallU ((i : Int) + 2) L u).2.1 = 0 then shufU L i (swapV V (i + 1) (smallU ((i : Int) + 2) L u).1.toNat) (smallU ((i : Int) + 2) L u).2.2 else ([], (smallU ((i : Int) + 2) L u).2.1, (smallU ((i : Int) + 2) L u).2.2)
theorem shufU_le (L : List Int) (i : Nat) (hi : i ≤ 20000) : ∀ V u, u ≤ L.length → (shufU L i V u).2.2 ≤ L.length := by
  induction i with
  | zero => exact fun V u hu => hu
  | succ i ih =>
    intro V u hu
    have h := smallU_le ((i : Int) + 2) (by omega) L u hu
    rw [shufU]
    split
    · exact ih (by omega) _ _ h
    · exact h
section
variable {L : List Int} (dL : Dig (b8 : Int) L)
include dL
theorem shuf_ev (i : Nat) (hi : i ≤ 20000) : ∀ V u, u ≤ L.length → Evt (fun k => shuf.f k i V (L.drop u)) ((shufU L i V u).1, (shufU L i V u).2.1, L.drop (shufU L i V u).2.2) := by
  induction i with
  | zero =>
    intro V u hu
    exact (Evt.pure _).congr (fun k => rfl) rfl
  | succ i ih =>
    intro V u hu
    simp only [shuf.f]
    refine Evt.bind (tape_Small_ev (m := (i : Int) + 2) (by omega) dL u hu) ?_
    rw [shufU]
    have hle := smallU_le ((i : Int) + 2) (by omega) L u hu
    rcases smallU_ok (m := (i : Int) + 2) (by omega) (by omega) L u with ⟨a, b, c⟩ | h7
    · rw [if_pos a]
      refine Evt.ite_pos a (Evt.ite_pos ⟨b, by omega⟩ ?_)
      exact ih (by omega) _ _ hle
    · rw [if_neg (by rw [h7]; decide)]
      exact Evt.ite_neg (by show ¬ (smallU ((i : Int) + 2) L u).2.1 = 0; rw [h7]; decide) (Evt.pure _)
theorem rshuf_ev (i : Nat) (hi : i ≤ 20000) : ∀ V u, u ≤ L.length → Evt (fun k => rshuf.f k L i V u) (shufU L i V u) := by
  induction i with
  | zero =>
    intro V u hu
    exact (Evt.pure _).congr (fun k => rfl) rfl
  | succ i ih =>
    intro V u hu
    simp only [rshuf.f]
    refine Evt.bind (ref4_Small_ev (m := (i : Int) + 2) (by omega) dL u hu) ?_
    rw [shufU]
    have hle := smallU_le ((i : Int) + 2) (by omega) L u hu
    rcases smallU_ok (m := (i : Int) + 2) (by omega) (by omega) L u with ⟨a, b, c⟩ | h7
    · rw [if_pos a]
      refine Evt.ite_pos a (Evt.ite_pos ⟨b, by omega, hle⟩ ?_)
      exact ih (by omega) _ _ hle
    · have hne : ¬ (smallU ((i : Int) + 2) L u).2.1 = 0 := by rw [h7]; decide
      rw [if_neg hne]
      exact Evt.ite_neg hne (Evt.ite_pos hle (Evt.pure _))
end
theorem idV_cnt (n i : Nat) (hi : i ≤ n) : idV n i = cntV i ++ List.replicate (n - i) 0 := by
  induction i with
  | zero => simp [idV, cntV]
  | succ i ih =>
    rw [idV, ih (by omega), cntV]
    have e : List.replicate (n - i) (0 : Int) = 0 :: List.replicate (n - (i + 1)) 0 := by
      rw [show n - i = (n - (i + 1)) + 1 from by omega, List.replicate_succ]
    have hl := cntV_len i
    rw [e, List.set_append, if_neg (by omega), hl, Nat.sub_self]
    simp
theorem idV_all (n : Nat) : idV n n = cntV n := by
  rw [idV_cnt n n (Nat.le_refl _), Nat.sub_self]
  simp
def shuffleU (n : Int) (L : List Int) : List Int × Int × Nat := if n < 0 ∨ 16384 < n then ([], 1, 0) else shufU L (n.toNat - 1) (cntV n.toNat) 0
theorem shuffle_ev (n : Int) {L : List Int} (dL : Dig (b8 : Int) L) : Evt (fun k => shuffle.f k n L) ((shuffleU n L).1, (shuffleU n L).2.1, L.drop (shuffleU n L).2.2) ∧ Evt (fun k => rshuffle.f k n L 0) (shuffleU n L) ∧ (shuffleU n L).2.2 ≤ L.length := by
  unfold shuffle.f rshuffle.f shuffleU
  by_cases h : n < 0 ∨ 16384 < n
  · rw [if_pos h]
    exact ⟨Evt.ite_pos h (Evt.pure _), Evt.ite_pos h (Evt.pure _), Nat.zero_le _⟩
  · rw [if_neg h, idV_all]
    refine ⟨Evt.ite_neg h ?_, Evt.ite_neg h (rshuf_ev dL _ (by omega) _ 0 (Nat.zero_le _)), shufU_le L _ (by omega) _ 0 (Nat.zero_le _)⟩
    have e := shuf_ev dL (n.toNat - 1) (by omega) (cntV n.toNat) 0 (Nat.zero_le _)
    rw [List.drop_zero] at e
    exact e
theorem cntV_at (n : Nat) : ∀ i, i < n → (cntV n).getD i 0 = (i : Int) := by
  induction n with
  | zero => exact fun i hi => absurd hi (Nat.not_lt_zero _)
  | succ n ih =>
    intro i hi
    rw [cntV, List.getD_eq_getElem?_getD]
    have hl := cntV_len n
    by_cases h : i < n
    · rw [List.getElem?_append_left (by omega), ← List.getD_eq_getElem?_getD]
      exact ih i h
    · obtain rfl : i = n := by omega
      rw [List.getElem?_append_right (by omega), hl]
      simp
def OnceV (n : Nat) (V : List Int) : Prop := V.length = n ∧ (∀ a, a < n → 0 ≤ V.getD a 0 ∧ V.getD a 0 < (n : Int)) ∧ ∀ a b, a < n → b < n → V.getD a 0 = V.getD b 0 → a = b
theorem swapV_at {V : List Int} {i j a : Nat} (hi : i < V.length) (hj : j < V.length) : (swapV V i j).getD a 0 = if a = j then V.getD i 0 else if a = i then V.getD j 0 else V.getD a 0 := by
  unfold swapV
  by_cases h1 : a = j
  · subst h1
    rw [if_pos rfl, List.getD_eq_getElem?_getD, List.getElem?_set_self (by simp; omega)]
    rfl
  · rw [if_neg h1, List.getD_eq_getElem?_getD, List.getElem?_set_ne (fun e => h1 e.symm)]
    by_cases h2 : a = i
    · subst h2
      rw [if_pos rfl, List.getElem?_set_self hi]
      rfl
    · rw [if_neg h2, List.getElem?_set_ne (fun e => h2 e.symm), ← List.getD_eq_getElem?_getD]
theorem OnceV.swap {n : Nat} {V : List Int} (h : OnceV n V) {i j : Nat} (hi : i < n) (hj : j < n) : OnceV n (swapV V i j) := by
  obtain ⟨h1, h2, h3⟩ := h
  have key : ∀ a, (swapV V i j).getD a 0 = V.getD (if a = j then i else if a = i then j else a) 0 := by
    intro a
    rw [swapV_at (by omega) (by omega)]
    split
    · rfl
    · split <;> rfl
  refine ⟨by rw [swapV_len, h1], fun a ha => ?_, fun a b ha hb he => ?_⟩
  · rw [key]
    exact h2 _ (by split; exact hi; split; exact hj; exact ha)
  · rw [key, key] at he
    have e := h3 _ _ (by split; exact hi; split; exact hj; exact ha) (by split; exact hi; split; exact hj; exact hb) he
    split at e <;> split at e <;> (try split at e) <;> (try split at e) <;> omega
theorem shufU_once {n : Nat} {L : List Int} (i : Nat) : ∀ V u, i < n ∨ i = 0 → i ≤ 20000 → OnceV n V → ((shufU L i V u).2.1 = 0 ∧ OnceV n (shufU L i V u).1) ∨ (shufU L i V u).2.1 = 7 := by
  induction i with
  | zero => exact fun V u _ _ h => .inl ⟨rfl, h⟩
  | succ i ih =>
    intro V u hi h2 h
    rw [shufU]
    rcases smallU_ok (m := (i : Int) + 2) (by omega) (by omega) L u with ⟨a, b, c⟩ | h7
    · rw [if_pos a]
      exact ih _ _ (by omega) (by omega) (h.swap (by omega) (by omega))
    · rw [if_neg (by rw [h7]; decide)]
      exact .inr h7
theorem shuffleU_once (n : Int) (L : List Int) : (n < 0 ∨ 16384 < n) ∧ (shuffleU n L).2.1 = 1 ∨ 0 ≤ n ∧ n ≤ 16384 ∧ (((shuffleU n L).2.1 = 0 ∧ OnceV n.toNat (shuffleU n L).1) ∨ (shuffleU n L).2.1 = 7) := by
  unfold shuffleU
  by_cases h : n < 0 ∨ 16384 < n
  · rw [if_pos h]
    exact .inl ⟨h, rfl⟩
  · rw [if_neg h]
    refine .inr ⟨by omega, by omega, ?_⟩
    refine shufU_once _ _ _ (by omega) (by omega) ⟨cntV_len _, fun a ha => ?_, fun a b ha hb he => ?_⟩
    · rw [cntV_at _ a ha]
      omega
    · rw [cntV_at _ a ha, cntV_at _ b hb] at he
      omega
theorem small_nought {m : Nat} (h1 : 2 ≤ m) (h2 : m ≤ 16) {L : List Int} {u : Nat} (hu : u < L.length) (h0 : L.getD u 0 = 0) : smallU (m : Int) L u = (0, 0, u + 1) := by
  have hb6 : (256 : Nat) < b64 := by decide
  have hlt : m < b64 ^ 64 := Nat.lt_of_lt_of_le (Nat.lt_of_le_of_lt (show m ≤ 256 by omega) hb6) (Nat.le_self_pow (by decide) b64)
  have hl : (limbs m).length ≠ 0 := fun e => by have := (lz_iff m).1 e; omega
  have hz := bl_pos_t (v := m - 1) (by omega)
  have hz8 : bl (m - 1) ≤ 4 := bl_le (by omega)
  have hq : (bl (m - 1) + 7) / 8 = 1 := by omega
  have ht : (L.drop u).take 1 = [0] := by
    rw [List.drop_eq_getElem_cons hu]
    rw [List.getD_eq_getElem?_getD, List.getElem?_eq_getElem hu] at h0
    simp only [Option.getD_some] at h0
    simp [h0]
  have hd : drawU (bl (m - 1)) m L (L.length + 1) u = (limbs 0, 0, u + 1) := by
    rw [drawU, hq, if_neg (by omega), ht, show bv [0] = 0 from by simp [bv, val], Nat.zero_mod, if_pos (by omega)]
  unfold smallU
  rw [if_neg (by omega), Int.toNat_natCast]
  have hbel : belowU (limbs m) L u = (limbs 0, 0, u + 1) := by
    unfold belowU
    rw [if_pos ⟨right_limbs' hlt, hl⟩, num_limbs, if_neg (by omega), hd]
  rw [hbel]
  have := small_num (v := 0) (by omega)
  simp only [this]
  rfl
theorem shuffle_three : shuffleU 3 [0, 0] = ([1, 2, 0], 0, 2) := by
  have a := small_nought (m := 3) (by omega) (by omega) (L := [0, 0]) (u := 0) (by simp) rfl
  have b := small_nought (m := 2) (by omega) (by omega) (L := [0, 0]) (u := 1) (by simp) rfl
  unfold shuffleU
  rw [if_neg (by omega)]
  show shufU [0, 0] 2 (cntV 3) 0 = _
  rw [shufU, show ((1 : Nat) : Int) + 2 = ((3 : Nat) : Int) from rfl, a, if_pos rfl]
  simp only
  rw [shufU, show ((0 : Nat) : Int) + 2 = ((2 : Nat) : Int) from rfl, b, if_pos rfl]
  simp only
  rw [shufU]
  rfl
end Go.Proofs.Ytnaphgnkhhapoaa.Z
end
section
namespace Go.Proofs.Ytnaphgnkhhapoaa.Pure
open Go.RowKit Go.Proofs.Ytnaphgnkhhapoaa.F Go.Proofs.Ytnaphgnkhhapoaa.Z
set_option linter.unusedSimpArgs false
set_option linter.unusedVariables false
theorem dig8f {L : List Int} (h : ∀ x ∈ L, (Lit.int .u8 x).wf = true) : Dig (b8 : Int) L := by
  intro x hx
  have h := h x hx
  simp [Lit.wf, IntKind.min, IntKind.max, IntKind.bits, IntKind.signed] at h
  exact ⟨by omega, show x < 256 by omega⟩
theorem SplitmaskFinds : windbreaklaw20_SplitmaskFinds.Pure := by
  constructor
  · have d : Dig (b8 : Int) [0, 0] := Dig.cons.2 ⟨by decide, Dig.cons.2 ⟨by decide, Dig.nil⟩⟩
    obtain ⟨k, p⟩ := (shuffle_ev 3 d).1
    have h := p k (Nat.le_refl _)
    rw [shuffle_three] at h
    exact ⟨k, _, h⟩
  · intro L tree node cuts hL hw hm
    unfold issue.f
    by_cases hb : badM tree node false ([] : List (Int × Int × Int × Int)).length cuts.length = true
    · exact ⟨0, L, .inl ⟨1, by rw [if_pos hb], .inl rfl⟩⟩
    · obtain ⟨k, p⟩ := (shuffle_ev (cuts.length : Int) (dig8f hw)).1
      have h : shuffle.f k (cuts.length : Int) L = some ((shuffleU (cuts.length : Int) L).1, (shuffleU (cuts.length : Int) L).2.1, L.drop (shuffleU (cuts.length : Int) L).2.2) := p k (Nat.le_refl _)
      refine ⟨k, L.drop (shuffleU (cuts.length : Int) L).2.2, ?_⟩
      rw [if_neg hb, h]
      simp only [Option.bind_some]
      rcases shuffleU_once (cuts.length : Int) L with ⟨_, e⟩ | ⟨h1, h2, ⟨h3, h4⟩ | e⟩
      · exact .inl ⟨1, by rw [e, if_neg (by decide)], .inl rfl⟩
      · have hmem : ∀ i ∈ (shuffleU (cuts.length : Int) L).1, 0 ≤ i ∧ i < (cuts.length : Int) := by
          intro i hi
          obtain ⟨j, hj, e⟩ := List.getElem_of_mem hi
          have hl : (shuffleU (cuts.length : Int) L).1.length = cuts.length := by have := h4.1; omega
          have hj2 := h4.2.1 j (by omega)
          rw [List.getD_eq_getElem?_getD, List.getElem?_eq_getElem hj, Option.getD_some, e] at hj2
          omega
        have hl : (shuffleU (cuts.length : Int) L).1.length ≤ 16384 := by have := h4.1; omega
        exact .inr ⟨(shuffleU (cuts.length : Int) L).1, (if_pos h3).trans (if_pos ⟨hl, hmem⟩), h4⟩
      · exact .inl ⟨7, by rw [e, if_neg (by decide)], .inr rfl⟩
end Go.Proofs.Ytnaphgnkhhapoaa.Pure
end
section
namespace Go.Proofs.YtnaphgnkhhapoaaW.PrintWords
open Go.ChangeShapes Go.WideShapes
end Go.Proofs.YtnaphgnkhhapoaaW.PrintWords
end
section
namespace Go.Proofs.Ytnaphgnkhhapoaa.splitmaskFinds
open Go.ChangeShapes Go.WideShapes Go.ChangeAt Go.RowKit Go.Proofs.Ytnaphgnkhhapoaa.F Go.Proofs.YtnaphgnkhhapoaaW.PrintWords
set_option linter.unusedSimpArgs false
open Go.ChangeMaps (open_string shut_string)
set_option linter.unusedVariables false
theorem own : ownKnob Try.prog.godebug = none := by kernel_rfl
theorem laidOut : laidOutB Try.prog = true := by kernel_rfl
theorem okWide_array {P : Program} {w : World} {r : Reach} {base : Nat} {t : TypeId} {v : Value} {n : Nat} {e : TypeId} (ht : P.underlying t = some (.array n e)) (h : Value.okWide P w r base t v) : ∃ cs, v = .agg cs ∧ cs.size = P.cellsOf t := by
  simp only [Value.okWide, ht] at h
  obtain ⟨cs, h1, h2, _⟩ := h
  exact ⟨cs, h1, h2⟩
theorem lifted (os : Os) (started : os.Started) (H : Type) (enc : TypeId × Value → H) :
    ReturnsInHanded {} Try.checked os 3 .any (Rows.splitmaskFindsSpec.pre6 enc Try.prog Try.f3 Rows.splitmaskFindsRow.domain false) (Rows.splitmaskFindsSpec.post enc Try.prog Try.f3 false true false false) := by
  refine returnsInHanded_of_change_sized (C := Try.checked) own started (by kernel_rfl) Try.func3
    (ChangeSpec.witness6 (enc := enc) (C := Try.checked) false ⟨#[], #[.slice none 0 0, .agg #[.int .i64 0, .int .i64 0], .slice none 0 0], []⟩ 8 (by kernel_rfl) (by kernel_rfl) (by kernel_rfl) (by kernel_rfl)) ?_
  intro W base args ds gs before hval0 hW hcnd hsz0 _
  have hsz : (DataW.weightsEach Try.prog (Try.f3.params.toList ++ Rows.splitmaskFindsSpec.plain.varTypes Try.prog) (ds ++ gs)).all (· ≤ reachBytes) = true := hsz0
  have hval : ∀ (j : Nat) t v, Try.f3.params[j]? = some t → args[j]? = some v → Value.okWide Try.prog W .any base t v := hval0
  have hW' := hW
  obtain ⟨p, q, hA0, hV, rfl, hfz, hnd⟩ := hW
  have hA : DataW.TrodAll enc Try.prog W 0 (fun _ => true) true Try.f3.params.toList args.toList ds p := hA0
  rw [Try.params3] at hA hval hsz
  obtain ⟨v0, vs0, d0, ds0, p0, q0, hargs, rfl, rfl, h0, r0⟩ := trodAll_cons hA
  obtain ⟨v1, vs1, d1, ds1, p1, q1, rfl, rfl, rfl, h1, r1⟩ := trodAll_cons r0
  obtain ⟨v2, vs2, d2, ds2, p2, q2, rfl, rfl, rfl, h2, r2⟩ := trodAll_cons r1
  obtain ⟨rfl, rfl, rfl⟩ := trodAll_nil r2
  obtain rfl : args = #[v0, v1, v2] := by cases args; simp_all
  obtain ⟨rfl, rfl⟩ := trodVars_none hV
  obtain ⟨a0, len0, cap0, rfl⟩ := okWide_slice Try.underlying22 (hval 0 22 v0 rfl rfl)
  have k0 := h0
  have lt0 : ∀ x ∈ p0, x.block < W.heap.size := by obtain ⟨m, hm⟩ := k0; exact DataW.trod_lt m _ _ _ hm
  obtain ⟨m0, hm0⟩ := h0
  obtain ⟨x0, hK0, ok0⟩ := (Opens.slice Try.underlying22 (by kernel_rfl) (Opens.int Try.underlying5)) enc W true m0 _ _ hm0
  obtain ⟨cs1, rfl, _⟩ := okWide_array Try.underlying23 (hval 1 23 v1 rfl rfl)
  have k1 := h1
  have lt1 : ∀ x ∈ p1, x.block < W.heap.size := by obtain ⟨m, hm⟩ := k1; exact DataW.trod_lt m _ _ _ hm
  obtain ⟨m1, hm1⟩ := h1
  obtain ⟨x1, hK1, ok1⟩ := (Opens.array2 Try.underlying23 (by kernel_rfl) (by kernel_rfl) rfl (Opens.int Try.underlying3)) enc W true m1 _ _ hm1
  obtain ⟨a2, len2, cap2, rfl⟩ := okWide_slice Try.underlying24 (hval 2 24 v2 rfl rfl)
  have k2 := h2
  have lt2 : ∀ x ∈ p2, x.block < W.heap.size := by obtain ⟨m, hm⟩ := k2; exact DataW.trod_lt m _ _ _ hm
  obtain ⟨m2, hm2⟩ := h2
  obtain ⟨x2, hK2, ok2⟩ := (Opens.slice Try.underlying24 (by kernel_rfl) (Opens.struct2 Try.underlying38 (by kernel_rfl) rfl (by kernel_rfl) rfl (by kernel_rfl) (Opens.int Try.underlying3) (Opens.int Try.underlying3))) enc W true m2 _ _ hm2
  clear hA0 hval0 hsz0 hsz
  refine (F.windbreaklaw20_SplitmaskFinds.row Pure.SplitmaskFinds W a0 len0 cap0 x0 hK0 ok0 cs1 x1 hK1 ok1 a2 len2 cap2 x2 hK2 ok2).mono fun e W' ⟨he, bel⟩ => ?_
  subst he
  exact ⟨_, rfl, _, _, _, [], _, [], hW', trodAll_mk1 (shut_bool Try.underlying4 _), (trodAll_cons_mk (Below.trod laidOut (by kernel_rfl) (of_decide_eq_true (by kernel_rfl)) k0 bel lt0) (trodAll_cons_mk (Below.trod laidOut (by kernel_rfl) (of_decide_eq_true (by kernel_rfl)) k1 bel lt1) (trodAll_cons_mk (Below.trod laidOut (by kernel_rfl) (of_decide_eq_true (by kernel_rfl)) k2 bel lt2) trodAll_mk0))), rfl, bel.frame _, fun h => by cases h⟩
theorem over : Rows.splitmaskFindsRow.holds Try.pinned (OpenSpec.ofChange Rows.splitmaskFindsSpec) :=
  OpenClaim.holds_of_wide 3 Try.f3 rfl rfl rfl rfl rfl rfl rfl ⟨rfl, rfl, rfl, rfl, rfl⟩ rfl rfl rfl rfl rfl (by kernel_rfl) Try.func3 (by kernel_rfl)
    (of_decide_eq_true (by kernel_rfl)) (by unfold Func.isWrapper; first | (rw [if_pos (by decide +kernel)]; kernel_rfl) | (rw [if_neg (by decide +kernel)]; exact ⟨rfl, rfl⟩))
    (fun os started H enc _ => lifted os started H enc)
theorem proved : Rows.SplitmaskFindsSaid := over
#print axioms proved
end Go.Proofs.Ytnaphgnkhhapoaa.splitmaskFinds
namespace Go.Proofs.Ytnaphgnkhhapoaa
theorem splitmaskFinds_holds : Rows.SplitmaskFindsSaid := splitmaskFinds.proved
end Go.Proofs.Ytnaphgnkhhapoaa
end
