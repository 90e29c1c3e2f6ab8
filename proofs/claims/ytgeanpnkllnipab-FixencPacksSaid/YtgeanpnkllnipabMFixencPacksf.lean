/- Proved: the law FixencPacks of layer 7: any two whole numbers in one, as the document says; for every input, without a condition. -/
import Derived.Test.YtgeanpnkllnipabMFixencPackse
import Derived.SizedLaws
import Derived.ChangeSlices
import Derived.Test.YtgeanpnkllnipabRows
import Derived.WalkKit
import Derived.ProofKit
import Derived.OpenShut
import Derived.ShutString
import Derived.ChangeOld
import Derived.Below
import Derived.Lib.SmallJoins
import Derived.ChangeArms

section
namespace Go.Proofs.Ytgeanpnkllnipab.Z
open Go.RowKit Go.Proofs.Ytgeanpnkllnipab.F Go.Proofs.YtgeanpnkllnipabW.PrintWords
set_option linter.unusedSimpArgs false
set_option linter.unusedVariables false
theorem dig_one16 {x : Int} (h : 0 ≤ x ∧ x < 65536) : Dig (b16 : Int) [x] := Dig.cons.2 ⟨h, Dig.nil⟩
theorem num16_one {x : Int} (h : 0 ≤ x) : num16 [x] = x.toNat := by simp [num16, val]
theorem ref_div_halve (a : List Int) (w X : Nat) (q : List Int) (i : Nat) (hw : 0 < w) (hwl : w * 65536 < lim) (hX : X < lim) {r : List Int × List Int} (hq : q.length = a.length) (hi : i < a.length)
    (next : ∀ d : Nat, d < 65536 → d * w ≤ X → X < (d + 1) * w → Evt (fun k => windbreakref01_div.l0 k a (digs w) (q.set i (d : Int)) (digs (X - d * w)) ((i : Int) - 1)) r) (ha : a.length ≤ 100000) (n : Nat) :
    ∀ lo hi_ : Nat, hi_ - lo = n → lo ≤ hi_ → hi_ ≤ 65535 → lo * w ≤ X → X < (hi_ + 1) * w →
      Evt (fun k => windbreakref01_div.l1 k a (digs w) q (digs X) (i : Int) (lo : Int) (hi_ : Int)) r := by
  have hwlim : w < lim := by omega
  have hwd := digs_len hwlim
  have mulm : ∀ m : Nat, m < 65536 → Evt (fun k => windbreakref01_mul.f k (digs w) [(m : Int)]) (digs (m * w)) := by
    intro m hm
    refine (ref_mul_ev (digs w) [(m : Int)] (toD_dig b16_two w) (dig_one16 (by omega)) (by omega) (by simp)).congr (fun k => rfl) ?_
    rw [num16_digs, num16_one (by omega), Int.toNat_natCast, Nat.mul_comm]
  induction n using Nat.strongRecOn with
  | _ n ih =>
    intro lo hi_ hn hle h5 hlo hhi
    refine Evt.succ ?_
    simp only [windbreakref01_div.l1]
    by_cases hlt : lo < hi_
    · refine Evt.ite_pos (by omega) ?_
      have em : IntKind.u64.wrap (Int.tdiv (IntKind.u64.wrap (IntKind.u64.wrap ((lo : Int) + (hi_ : Int)) + 1)) 2) = (((lo + hi_ + 1) / 2 : Nat) : Int) := by
        rw [wu64_of (show 0 ≤ (lo : Int) + (hi_ : Int) by omega) (by omega), wu64_of (show 0 ≤ (lo : Int) + (hi_ : Int) + 1 by omega) (by omega), Int.tdiv_eq_ediv_of_nonneg (by omega), wu64_of (by omega) (by omega)]
        omega
      rw [em]
      generalize hm : (lo + hi_ + 1) / 2 = m
      have hm1 : lo < m ∧ m ≤ hi_ := by omega
      refine Evt.bind (mulm m (by omega)) ?_
      have hmw : m * w < lim := by
        have : m * w ≤ 65536 * w := Nat.mul_le_mul_right w (by omega)
        rw [Nat.mul_comm] at hwl
        omega
      refine Evt.bind (ref_compare_ev (m * w) X hmw) ?_
      by_cases hc : m * w ≤ X
      · refine Evt.ite_pos ?_ ?_
        · unfold cmpN
          by_cases h1 : m * w < X
          · rw [if_pos h1]; omega
          · rw [if_neg h1, if_pos (by omega)]; omega
        · exact ih (hi_ - m) (by omega) m hi_ rfl (by omega) h5 hc hhi
      · refine Evt.ite_neg ?_ ?_
        · unfold cmpN
          rw [if_neg (by omega), if_neg (by omega)]; omega
        · have e : IntKind.u64.wrap ((m : Int) - 1) = ((m - 1 : Nat) : Int) := by rw [wu64_of (by omega) (by omega)]; omega
          rw [e]
          refine ih (m - 1 - lo) (by omega) lo (m - 1) rfl (by omega) (by omega) hlo ?_
          rw [show m - 1 + 1 = m from by omega]
          omega
    · refine Evt.ite_neg (by omega) (Evt.ite_pos (by omega) (Evt.ite_pos (by omega) ?_))
      have e : lo = hi_ := by omega
      subst e
      refine Evt.bind (mulm lo (by omega)) ?_
      refine Evt.bind (ref_sub_ev X (lo * w) hX hlo) ?_
      rw [w64 (by omega) (by omega)]
      refine (next lo (by omega) hlo hhi).congr (fun k => rfl) rfl
theorem ref_div_loop (a : List Int) (da : Dig (b16 : Int) a) (w : Nat) (hw : 0 < w) (hwl : w * 65536 < lim) (ha : a.length ≤ 100000) (hb : b16 ^ a.length ≤ lim) (n : Nat) :
    ∀ (Q : List Int) (R : Nat), Dig (b16 : Int) Q → Q.length = a.length - n → n ≤ a.length → R < w → num16 (a.drop n) = num16 Q * w + R →
      Evt (fun k => windbreakref01_div.l0 k a (digs w) (List.replicate n 0 ++ Q) (digs R) ((n : Int) - 1)) (digs (num16 a / w), digs (num16 a % w)) := by
  induction n with
  | zero =>
    intro Q R dQ hQ hn hR hv
    refine Evt.succ ?_
    simp only [windbreakref01_div.l0]
    refine Evt.ite_neg (by omega) ?_
    rw [List.replicate_zero, List.nil_append]
    rw [List.drop_zero] at hv
    have h := windbreakref01_cut_ev Q (by simp [maxLen]; omega)
    rw [strip_digs dQ] at h
    have e1 : num16 Q = num16 a / w := by
      rw [hv, Nat.mul_comm, Nat.mul_add_div hw, Nat.div_eq_of_lt hR, Nat.add_zero]
    have e2 : R = num16 a % w := by
      rw [hv, Nat.mul_comm, Nat.mul_add_mod, Nat.mod_eq_of_lt hR]
    rw [← e1, ← e2]
    exact Evt.bind h (h := fun t _ => some (t, digs R)) (Evt.pure _)
  | succ n ih =>
    intro Q R dQ hQ hn hR hv
    have hlt : n < a.length := by omega
    refine Evt.succ ?_
    simp only [windbreakref01_div.l0]
    rw [show ((n + 1 : Nat) : Int) - 1 = (n : Int) from by omega]
    refine Evt.ite_pos (by omega) (Evt.ite_pos (by omega) (Evt.ite_pos (by omega) ?_))
    simp only [Option.bind_some]
    have hx : rd a (n : Int) = a[n] := by simp [rd_nat, hlt]
    rw [hx]
    have rx := da a[n] (List.getElem_mem hlt)
    have hRl : R < lim := by omega
    have hRd := digs_len hRl
    refine Evt.ite_pos (by simp; omega) ?_
    have dX : Dig (b16 : Int) ([a[n]] ++ digs R) := Dig.cons.2 ⟨rx, toD_dig b16_two R⟩
    have hXn : num16 ([a[n]] ++ digs R) = a[n].toNat + 65536 * R := by
      have h1 := num16_val dX
      have h2 : val (b16 : Int) ([a[n]] ++ digs R) = a[n] + (b16 : Int) * val (b16 : Int) (digs R) := rfl
      rw [h2, val_toD b16_two] at h1
      simp only [b16] at h1 rx
      omega
    have h := windbreakref01_cut_ev ([a[n]] ++ digs R) (by simp [maxLen]; omega)
    rw [strip_digs dX, hXn] at h
    refine Evt.bind h ?_
    generalize hX : a[n].toNat + 65536 * R = X
    have hXw : X < 65536 * w := by
      simp only [b16] at rx
      have : 65536 * (R + 1) ≤ 65536 * w := Nat.mul_le_mul_left _ hR
      omega
    have hq1 : List.replicate (n + 1) (0 : Int) ++ Q = List.replicate n 0 ++ (0 :: Q) := by rw [List.replicate_succ', List.append_assoc]; rfl
    rw [hq1]
    refine ref_div_halve a w X _ n hw hwl (by rw [Nat.mul_comm] at hwl; omega) (by simp; omega) hlt ?_ ha 65535 0 65535 rfl (by omega) (by omega) (by omega) (by omega)
    intro d hd h1 h2
    have hs : (List.replicate n (0 : Int) ++ 0 :: Q).set n (d : Int) = List.replicate n 0 ++ ((d : Int) :: Q) := by
      have := set_at (List.replicate n (0 : Int)) 0 (d : Int) Q
      rw [List.length_replicate] at this
      exact this
    rw [hs]
    have dQ2 : Dig (b16 : Int) ((d : Int) :: Q) := Dig.cons.2 ⟨by simp only [b16]; omega, dQ⟩
    refine ih ((d : Int) :: Q) (X - d * w) dQ2 (by simp; omega) (by omega) ?_ ?_
    · rw [Nat.add_mul, Nat.one_mul] at h2
      omega
    · have dA : Dig (b16 : Int) (a.drop n) := da.drop n
      have g1 := num16_val dA
      have g2 := num16_val (da.drop (n + 1))
      have g3 := num16_val dQ2
      have g4 := num16_val dQ
      rw [List.drop_eq_getElem_cons hlt] at g1 ⊢
      simp only [val] at g1 g3
      rw [← g2] at g1
      rw [← g4] at g3
      rw [hv] at g1
      simp only [b16] at g1 g3 rx
      have g5 : num16 ((d : Int) :: Q) = d + 65536 * num16 Q := by omega
      rw [g5]
      generalize num16 Q = Qn at *
      have g6 : (d + 65536 * Qn) * w = d * w + 65536 * (Qn * w) := by rw [Nat.add_mul, Nat.mul_assoc]
      rw [g6]
      generalize Qn * w = z at *
      generalize d * w = y at *
      omega
theorem ref_div_ev (v w : Nat) (hv : v < lim) (hw : 0 < w) (hwl : w * 65536 < lim) : Evt (fun k => windbreakref01_div.f k (digs v) (digs w)) (digs (v / w), digs (v % w)) := by
  have hd := digs_len hv
  unfold windbreakref01_div.f
  refine Evt.ite_pos (by omega) (Evt.ite_pos (by omega) ?_)
  rw [w64 (by omega) (by omega)]
  have hb : b16 ^ (digs v).length ≤ lim := by
    have h : lim = b16 ^ (4 * thousand) := by
      unfold lim
      rw [b64_pow, ← Nat.pow_mul]
    rw [h]
    exact Nat.pow_le_pow_right (by decide) hd
  have h := ref_div_loop (digs v) (toD_dig b16_two v) w hw hwl (by omega) hb (digs v).length [] 0 Dig.nil (by simp) (Nat.le_refl _) hw (by rw [List.drop_length]; simp [num16_nil])
  rw [num16_digs] at h
  refine h.congr (fun k => ?_) rfl
  rw [List.append_nil, Int.toNat_natCast, show digs 0 = [] from toD_zero b16]
end Go.Proofs.Ytgeanpnkllnipab.Z
end

section
namespace Go.Proofs.Ytgeanpnkllnipab.Z
open Go.RowKit Go.Proofs.Ytgeanpnkllnipab.F Go.Proofs.YtgeanpnkllnipabW.PrintWords
set_option linter.unusedSimpArgs false
set_option linter.unusedVariables false
def shrW (a : List Int) (n : Int) : List Int × Int :=
  if rightB a = true ∧ 0 ≤ n then (limbs (num a / 2 ^ n.toNat), 0) else ([], 1)
theorem ref_Shr_ev (a : List Int) (n : Int) (ha : a.length ≤ maxLen) (da : Dig (b64 : Int) a) : Evt (fun k => windbreakref01_Shr.f k a n) (shrW a n) := by
  unfold windbreakref01_Shr.f shrW
  rw [windbreakref01_Right_eq ha]
  simp only [Option.bind_some]
  have J : ∀ x : Bool, (x = false → rightB a = true ∧ 0 ≤ n) → Evt (fun k => windbreakref01_Shr.j0 k a n x) (if x = true then ([], 1) else (limbs (num a / 2 ^ n.toNat), 0)) := by
    intro x hx
    refine Evt.succ ?_
    simp only [windbreakref01_Shr.j0]
    refine Evt.cond (fun _ => Evt.pure _) (fun hc => ?_)
    have h := hx (by simpa using hc)
    obtain ⟨h1, c1⟩ := (rightB_iff a).1 h.1
    obtain ⟨m, rfl⟩ := Int.eq_ofNat_of_zero_le h.2
    rw [Int.toNat_natCast]
    have hp := num_lt_p da h1
    by_cases hn : 4096 ≤ m
    · have e : num a / 2 ^ m = 0 := by
        apply Nat.div_eq_of_lt
        exact Nat.lt_of_lt_of_le hp (b64_le_pow2 (by omega))
      rw [e, show limbs 0 = [] from toD_zero b64]
      exact Evt.ite_pos (by omega) (Evt.pure _)
    · refine Evt.ite_neg (by omega) ?_
      have n2 := num_lt_lim da (by omega)
      refine Evt.bind (ref_In_ev a (by omega) da) (Evt.bind (ref_power_ev m (by omega)) ?_)
      refine Evt.bind (ref_div_ev (num a) (2 ^ m) n2 (Nat.pow_pos (by decide)) (pow2_lim (by omega))) ?_
      have h3 : num a / 2 ^ m ≤ num a := Nat.div_le_self _ _
      have h4 := ref_told_ev (num a / 2 ^ m) (Nat.lt_of_le_of_lt h3 n2)
      have e : toldV (num a / 2 ^ m) = (limbs (num a / 2 ^ m), 0) := if_pos (Nat.lt_of_le_of_lt h3 hp)
      rw [e] at h4
      exact Evt.bind h4 (h := fun t _ => some (t.1, t.2)) (Evt.pure _)
  cases hA : rightB a with
  | true =>
    refine Evt.ite_pos rfl ((J _ (fun h => ⟨hA, by simpa using h⟩)).congr (fun k => rfl) ?_)
    by_cases hn : n < 0
    · rw [decide_eq_true hn, if_pos rfl, if_neg (show ¬ (true = true ∧ 0 ≤ n) by omega)]
    · rw [decide_eq_false hn, if_neg (by simp), if_pos (show true = true ∧ 0 ≤ n from ⟨rfl, by omega⟩)]
  | false =>
    refine Evt.ite_neg (by simp) ((J _ (fun h => by simp at h)).congr (fun k => rfl) ?_)
    simp
end Go.Proofs.Ytgeanpnkllnipab.Z
end

section
namespace Go.Proofs.Ytgeanpnkllnipab.Z
open Go.RowKit Go.Proofs.Ytgeanpnkllnipab.F Go.Proofs.YtgeanpnkllnipabW.PrintWords
set_option linter.unusedSimpArgs false
set_option linter.unusedVariables false
def subW (a b : List Int) : List Int × Int := if rightB a = true ∧ rightB b = true then (if num a < num b then ([], 2) else (limbs (num a - num b), 0)) else ([], 1)
theorem ref_Sub_ev (a b : List Int) (ha : a.length ≤ maxLen) (hb : b.length ≤ maxLen) (da : Dig (b64 : Int) a) (db : Dig (b64 : Int) b) : Evt (fun k => windbreakref01_Sub.f k a b) (subW a b) := by
  unfold windbreakref01_Sub.f subW
  rw [windbreakref01_Right_eq ha, windbreakref01_Right_eq hb]
  simp only [Option.bind_some]
  have J : ∀ x : Bool, (x = false → rightB a = true ∧ rightB b = true) → Evt (fun k => windbreakref01_Sub.j0 k a b x) (if x = true then ([], 1) else if num a < num b then ([], 2) else (limbs (num a - num b), 0)) := by
    intro x hx
    refine Evt.succ ?_
    simp only [windbreakref01_Sub.j0]
    refine Evt.cond (fun _ => Evt.pure _) (fun hc => ?_)
    have h := hx (by simpa using hc)
    obtain ⟨h1, c1⟩ := (rightB_iff a).1 h.1
    obtain ⟨h2, c2⟩ := (rightB_iff b).1 h.2
    have n1 : num a < b64 ^ 64 := num_lt_p da h1
    have n2 := num_lt_lim da (by omega)
    refine Evt.bind (ref_In_ev a (by omega) da) (Evt.bind (ref_In_ev b (by omega) db) ?_)
    refine Evt.bind (ref_compare_ev (num a) (num b) n2) ?_
    by_cases hlt : num a < num b
    · have e : cmpN (num a) (num b) = -1 := if_pos hlt
      rw [e, if_pos hlt]
      exact Evt.ite_pos (by omega) (Evt.pure _)
    · have e : ¬ cmpN (num a) (num b) < 0 := by
        unfold cmpN
        rw [if_neg hlt]
        by_cases e2 : num a = num b
        · rw [if_pos e2]; omega
        · rw [if_neg e2]; omega
      rw [if_neg hlt]
      refine Evt.ite_neg e ?_
      refine Evt.bind (ref_sub_ev (num a) (num b) n2 (by omega)) ?_
      have h5 := ref_told_ev (num a - num b) (by omega)
      have e3 : toldV (num a - num b) = (limbs (num a - num b), 0) := if_pos (by omega)
      rw [e3] at h5
      exact Evt.bind h5 (h := fun t _ => some (t.1, t.2)) (Evt.pure _)
  cases hA : rightB a with
  | true =>
    refine Evt.ite_pos rfl ((J _ (fun h => ⟨hA, by simpa using h⟩)).congr (fun k => rfl) ?_)
    cases hB : rightB b <;> simp
  | false =>
    refine Evt.ite_neg (by simp) ((J _ (fun h => by simp at h)).congr (fun k => rfl) ?_)
    simp
end Go.Proofs.Ytgeanpnkllnipab.Z
end

section
namespace Go.Proofs.Ytgeanpnkllnipab.Z
open Go.RowKit Go.Proofs.Ytgeanpnkllnipab.F Go.Proofs.YtgeanpnkllnipabW.PrintWords
set_option linter.unusedSimpArgs false
set_option linter.unusedVariables false
def cmpW (a b : List Int) : Int := if rightB a = true ∧ rightB b = true then cmpN (num a) (num b) else 0
theorem ref_Cmp_ev (a b : List Int) (ha : a.length ≤ maxLen) (hb : b.length ≤ maxLen) (da : Dig (b64 : Int) a) (db : Dig (b64 : Int) b) : Evt (fun k => windbreakref01_Cmp.f k a b) (cmpW a b) := by
  unfold windbreakref01_Cmp.f cmpW
  rw [windbreakref01_Right_eq ha, windbreakref01_Right_eq hb]
  simp only [Option.bind_some]
  have J : ∀ x : Bool, (x = false → rightB a = true ∧ rightB b = true) → Evt (fun k => windbreakref01_Cmp.j0 k a b x) (if x = true then 0 else cmpN (num a) (num b)) := by
    intro x hx
    refine Evt.succ ?_
    simp only [windbreakref01_Cmp.j0]
    refine Evt.cond (fun _ => Evt.pure _) (fun hc => ?_)
    have h := hx (by simpa using hc)
    obtain ⟨h1, c1⟩ := (rightB_iff a).1 h.1
    obtain ⟨h2, c2⟩ := (rightB_iff b).1 h.2
    refine Evt.bind (ref_In_ev a (by omega) da) (Evt.bind (ref_In_ev b (by omega) db) ?_)
    exact Evt.bind (ref_compare_ev _ _ (num_lt_lim da (by omega))) (h := fun t _ => some t) (Evt.pure _)
  cases hA : rightB a with
  | true =>
    refine Evt.ite_pos rfl ((J _ (fun h => ⟨hA, by simpa using h⟩)).congr (fun k => rfl) ?_)
    cases hB : rightB b <;> simp
  | false =>
    refine Evt.ite_neg (by simp) ((J _ (fun h => by simp at h)).congr (fun k => rfl) ?_)
    simp
end Go.Proofs.Ytgeanpnkllnipab.Z
end

section
namespace Go.Proofs.Ytgeanpnkllnipab.Z
open Go.RowKit Go.Proofs.Ytgeanpnkllnipab.F Go.Proofs.YtgeanpnkllnipabW.PrintWords
set_option linter.unusedSimpArgs false
set_option linter.unusedVariables false
theorem ref_Of_eq (n : Int) : windbreakref01_Of.f n = some (strip [n]) := by
  unfold windbreakref01_Of.f
  by_cases h : n = 0
  · simp [h, strip]
  · simp [h, strip]
end Go.Proofs.Ytgeanpnkllnipab.Z
end

section
namespace Go.Proofs.Ytgeanpnkllnipab.Z
open Go.RowKit Go.Proofs.Ytgeanpnkllnipab.F Go.Proofs.YtgeanpnkllnipabW.PrintWords
set_option linter.unusedSimpArgs false
set_option linter.unusedVariables false
theorem same_loop (l m : List Int) (h : l.length ≤ maxLen) (hlm : l.length = m.length) (d : Nat) : ∀ i : Nat, i ≤ l.length → l.length - i = d → Evt (fun k => windbreakref01_Same.l0 k l m (i : Int)) (decide (l.drop i = m.drop i)) := by
  unfold maxLen at h
  induction d with
  | zero =>
    intro i hi hd
    refine Evt.succ ?_
    simp only [windbreakref01_Same.l0]
    refine Evt.ite_neg (by omega) ?_
    rw [List.drop_of_length_le (by omega), List.drop_of_length_le (by omega)]
    exact Evt.pure _
  | succ d ih =>
    intro i hi hd
    have hl : i < l.length := by omega
    have hm : i < m.length := by omega
    refine Evt.succ ?_
    simp only [windbreakref01_Same.l0]
    refine Evt.ite_pos (by omega) (Evt.ite_pos (by omega) (Evt.ite_pos (by omega) ?_))
    have e1 : rd l (i : Int) = l[i] := by simp [rd_nat, hl]
    have e2 : rd m (i : Int) = m[i] := by simp [rd_nat, hm]
    rw [e1, e2, w64 (by omega) (by omega), List.drop_eq_getElem_cons hl, List.drop_eq_getElem_cons hm]
    by_cases he : l[i] = m[i]
    · refine Evt.ite_pos he ?_
      refine (ih (i + 1) (by omega) (by omega)).congr (fun k => rfl) ?_
      rw [he]
      simp only [List.cons.injEq, true_and]
    · refine Evt.ite_neg he ?_
      have : decide (l[i] :: l.drop (i + 1) = m[i] :: m.drop (i + 1)) = false := by
        simp only [List.cons.injEq, decide_eq_false_iff_not]
        exact fun hh => he hh.1
      rw [this]
      exact Evt.pure _
theorem same_ev (l m : List Int) (h : l.length ≤ maxLen) : Evt (fun k => windbreakref01_Same.f k l m) (decide (l = m)) := by
  unfold windbreakref01_Same.f
  by_cases hlm : l.length = m.length
  · refine Evt.ite_pos (by omega) ?_
    exact (same_loop l m h hlm l.length 0 (Nat.zero_le _) (by omega)).congr (fun k => rfl) (by simp)
  · refine Evt.ite_neg (by omega) ?_
    have : decide (l = m) = false := by
      simp only [decide_eq_false_iff_not]
      intro e
      exact hlm (by rw [e])
    rw [this]
    exact Evt.pure _
end Go.Proofs.Ytgeanpnkllnipab.Z
end

section
namespace Go.Proofs.Ytgeanpnkllnipab.F
open Go.RowKit Go.Proofs.YtgeanpnkllnipabW.PrintWords Go.Proofs.YtgeanpnkllnipabW.PrintLast Go.Proofs.YtgeanpnkllnipabW.PrintMore
attribute [local go_sem] max2_int min2_int max_two min_two max_three min_three max_four min_four
set_option linter.unusedVariables false
set_option linter.unusedSimpArgs false

def windbreakref07_Decode.j0 : Nat → List Int → List Int → Bool → Option (Bool × List Int × Int)
 | 0, _, _, _ => none
 | k + 1, x0, x1, x24 => if x24 = true then (some (false, ([] : List Int), 10)) else ((windbreakref07_half.f k x0).bind fun t1255 => ((windbreakref01_Cmp.f k x1 t1255).bind fun t1258 => (if t1258 ≤ 0 then ((windbreakref03_From.f false x1).bind fun bt1259 => (some (bt1259.1, bt1259.2, 0))) else ((windbreakref01_Sub.f k x0 x1).bind fun bt1263 => ((windbreakref03_From.f true bt1263.1).bind fun bt1267 => (some (bt1267.1, bt1267.2, 0)))))))
def windbreakref07_Decode.f (k : Nat) (l0 : List Int) (l1 : List Int) : Option (Bool × List Int × Int) := (windbreakref07_May.f k l0).bind fun t1252 => (if t1252 = true then ((windbreakref01_Right.f l1).bind fun t1253 => (if t1253 = true then ((windbreakref01_Cmp.f k l1 l0).bind fun t1254 => (windbreakref07_Decode.j0 k l0 l1 (decide (t1254 ≥ 0)))) else (windbreakref07_Decode.j0 k l0 l1 true))) else (some (false, ([] : List Int), 1)))
end Go.Proofs.Ytgeanpnkllnipab.F
end

section
namespace Go.Proofs.Ytgeanpnkllnipab.F
open Go.RowKit Go.Proofs.YtgeanpnkllnipabW.PrintWords Go.Proofs.YtgeanpnkllnipabW.PrintLast Go.Proofs.YtgeanpnkllnipabW.PrintMore
attribute [local go_sem] max2_int min2_int max_two min_two max_three min_three max_four min_four
set_option linter.unusedVariables false
set_option linter.unusedSimpArgs false

def windbreakref03_Same.f (k : Nat) (a0_0 : Bool) (l0_1 : List Int) (a1_0 : Bool) (l1_1 : List Int) : Option (Bool) := (windbreakref01_Same.f k l0_1 l1_1).bind fun t1360 => (if (a0_0 == a1_0) = true then (some t1360) else (some false))
end Go.Proofs.Ytgeanpnkllnipab.F
end

section
namespace Go.Proofs.Ytgeanpnkllnipab.Z
open Go.RowKit Go.Proofs.Ytgeanpnkllnipab.F Go.Proofs.YtgeanpnkllnipabW.PrintWords
set_option linter.unusedSimpArgs false
set_option linter.unusedVariables false
theorem ref_Of_one (x : Int) (h : x ≠ 0) : windbreakref01_Of.f x = some [x] := by
  rw [ref_Of_eq]
  simp [strip, h]
theorem ref_May_ev (n : List Int) (hn : n.length ≤ maxLen) (dn : Dig (b64 : Int) n) : Evt (fun k => windbreakref07_May.f k n) (mayV n) := by
  unfold windbreakref07_May.f mayV
  rw [windbreakref01_Right_eq hn]
  simp only [Option.bind_some]
  cases hR : rightB n with
  | false => exact Evt.ite_neg (by simp) (Evt.pure _)
  | true =>
    refine Evt.ite_pos rfl ?_
    by_cases h8 : n.length ≤ 8
    · refine Evt.ite_pos (by omega) ?_
      have d3 : Dig (b64 : Int) [3] := dig_one (by omega) (by omega)
      refine Evt.bind (Evt.of (fun _ => ref_Of_one 3 (by omega))) ?_
      refine (Evt.bind (ref_Cmp_ev n [3] hn (by simp [maxLen]) dn d3) (h := fun t _ => some (decide (t ≥ 0))) (Evt.pure _)).congr (fun k => rfl) ?_
      unfold cmpW
      rw [if_pos ⟨hR, right_one (by omega)⟩, cmpN_ge, num_one (by omega)]
      simp [h8]
    · refine Evt.ite_neg (by omega) ((Evt.pure _).congr (fun k => rfl) ?_)
      simp [h8]
theorem ref_half_ev (n : List Int) (dn : Dig (b64 : Int) n) (hm : mayV n = true) : Evt (fun k => windbreakref07_half.f k n) (limbs (halfV n)) := by
  obtain ⟨hR, h8, h3⟩ := (mayV_iff n).1 hm
  have hlt := may_lt dn hm
  unfold windbreakref07_half.f
  have d1 : Dig (b64 : Int) [1] := dig_one (by omega) (by omega)
  refine Evt.bind (Evt.of (fun _ => ref_Of_one 1 (by omega))) ?_
  have hs := ref_Sub_ev n [1] (by simp only [maxLen]; omega) (by simp [maxLen]) dn d1
  unfold subW at hs
  rw [if_pos ⟨hR, right_one (by omega)⟩, num_one (by omega), if_neg (by omega)] at hs
  refine Evt.bind hs ?_
  have hlt2 : num n - (1 : Int).toNat < b64 ^ 64 := by omega
  have hh := ref_Shr_ev (limbs (num n - (1 : Int).toNat)) 1 (by have := limbs_le64 hlt2; simp only [maxLen]; omega) (dig_limbs' _)
  unfold shrW at hh
  rw [if_pos ⟨right_limbs' hlt2, by omega⟩, num_limbs] at hh
  exact Evt.bind hh (h := fun t _ => some t.1) (Evt.pure _)
theorem ref3_Right_eq (a : Bool) (l : List Int) (h : l.length ≤ maxLen) : windbreakref03_Right.f a l = some (intR a l) := by
  unfold windbreakref03_Right.f intR
  rw [windbreakref01_Right_eq h]
  cases hR : rightB l <;> cases a <;> simp
theorem ref3_From_eq (a : Bool) (l : List Int) (h : l.length ≤ 64) : windbreakref03_From.f a l = some (fromV a l) := by
  unfold windbreakref03_From.f fromV
  rw [windbreakref01_Right_eq (by simp only [maxLen]; omega)]
  simp only [Option.bind_some, List.nil_append, List.length_nil]
  rw [if_pos (show 0 + l.length < 17592186044416 by omega)]
  cases hR : rightB l with
  | false => simp
  | true =>
    by_cases h0 : l.length = 0
    · simp [h0]
    · have : ¬ l = [] := fun e => h0 (by rw [e]; rfl)
      simp [this]
theorem ref_Encode_ev (n : List Int) (a : Bool) (x : List Int) (hn : n.length ≤ maxLen) (hx : x.length ≤ maxLen) (dn : Dig (b64 : Int) n) (dx : Dig (b64 : Int) x) : Evt (fun k => windbreakref07_Encode.f k n a x) (encV n a x) := by
  unfold windbreakref07_Encode.f encV
  have J : ∀ b : Bool, (b = false → mayV n = true ∧ intR a x = true) → Evt (fun k => windbreakref07_Encode.j0 k n b a x) (if b = true then ([], 1) else (if num x ≤ halfV n then (if a = true then (limbs (num n - num x), 0) else (x, 0)) else ([], 12))) := by
    intro b hb
    refine Evt.succ ?_
    simp only [windbreakref07_Encode.j0]
    refine Evt.cond (fun _ => Evt.pure _) (fun hc => ?_)
    obtain ⟨hm, hi⟩ := hb (by simpa using hc)
    have hR : rightB x = true := by unfold intR at hi; simp only [Bool.and_eq_true] at hi; exact hi.1
    obtain ⟨hx1, cx⟩ := (rightB_iff x).1 hR
    obtain ⟨hRn, h8, h3⟩ := (mayV_iff n).1 hm
    have hlt := may_lt dn hm
    have hh : halfV n < b64 ^ 64 := by unfold halfV; omega
    refine Evt.bind (ref_half_ev n dn hm) ?_
    refine Evt.bind (ref_Cmp_ev x (limbs (halfV n)) hx (by have := limbs_le64 hh; simp only [maxLen]; omega) dx (dig_limbs' _)) ?_
    have hc2 : cmpW x (limbs (halfV n)) > 0 ↔ ¬ num x ≤ halfV n := by
      unfold cmpW
      rw [if_pos ⟨hR, right_limbs' hh⟩, num_limbs]
      have := cmpN_le (num x) (halfV n)
      simp only [decide_eq_decide] at this
      rw [← this]
      omega
    by_cases hf : num x ≤ halfV n
    · rw [if_pos hf]
      refine Evt.ite_neg (fun h => (hc2.1 h) hf) ?_
      have hxn : num x < num n := by unfold halfV at hf; omega
      cases a with
      | true =>
        refine Evt.ite_pos rfl ?_
        have hs := ref_Sub_ev n x hn hx dn dx
        unfold subW at hs
        rw [if_pos ⟨hRn, hR⟩, if_neg (by omega)] at hs
        exact Evt.bind hs (h := fun t _ => some (t.1, t.2)) (Evt.pure _)
      | false =>
        refine Evt.ite_neg (by simp) ?_
        refine Evt.bind (Evt.pure _) ?_
        exact Evt.ite_pos (by simp; omega) (Evt.pure _)
    · rw [if_neg hf]
      exact Evt.ite_pos (hc2.2 hf) (Evt.pure _)
  refine Evt.bind (ref_May_ev n hn dn) ?_
  refine Evt.bind (Evt.of (fun _ => ref3_Right_eq a x hx)) ?_
  cases hm : mayV n with
  | false =>
    refine Evt.ite_neg (by simp) ((J true (by simp)).congr (fun k => rfl) ?_)
    simp
  | true =>
    refine Evt.ite_pos rfl ?_
    refine (J (!intR a x) (fun h => ⟨hm, by simpa using h⟩)).congr (fun k => rfl) ?_
    cases hi : intR a x <;> simp
end Go.Proofs.Ytgeanpnkllnipab.Z
end

section
namespace Go.Proofs.Ytgeanpnkllnipab.Z
open Go.RowKit Go.Proofs.Ytgeanpnkllnipab.F Go.Proofs.YtgeanpnkllnipabW.PrintWords
set_option linter.unusedSimpArgs false
set_option linter.unusedVariables false
def mulW (a b : List Int) : List Int × Int := if rightB a = true ∧ rightB b = true then toldV (num a * num b) else ([], 1)
theorem ref_Mul_ev (a b : List Int) (ha : a.length ≤ maxLen) (hb : b.length ≤ maxLen) (da : Dig (b64 : Int) a) (db : Dig (b64 : Int) b) : Evt (fun k => windbreakref01_Mul.f k a b) (mulW a b) := by
  unfold windbreakref01_Mul.f mulW
  rw [windbreakref01_Right_eq ha, windbreakref01_Right_eq hb]
  simp only [Option.bind_some]
  have J : ∀ x : Bool, (x = false → rightB a = true ∧ rightB b = true) → Evt (fun k => windbreakref01_Mul.j0 k a b x) (if x = true then ([], 1) else toldV (num a * num b)) := by
    intro x hx
    refine Evt.succ ?_
    simp only [windbreakref01_Mul.j0]
    refine Evt.cond (fun _ => Evt.pure _) (fun hc => ?_)
    have h := hx (by simpa using hc)
    obtain ⟨h1, c1⟩ := (rightB_iff a).1 h.1
    obtain ⟨h2, c2⟩ := (rightB_iff b).1 h.2
    have n1 := num_lt_p da h1
    have n2 := num_lt_p db h2
    have n3 := pow_lt_lim (n := 64) (by omega)
    have n4 : num a * num b < lim := by
      have g3 := Nat.mul_lt_mul'' n1 n2
      rw [← Nat.pow_add] at g3
      exact Nat.lt_of_lt_of_le g3 (lim_pow (by omega))
    refine Evt.bind (ref_In_ev a (by omega) da) (Evt.bind (ref_In_ev b (by omega) db) ?_)
    have hm := ref_mul_ev (digs (num a)) (digs (num b)) (toD_dig b16_two _) (toD_dig b16_two _) (by have := digs_len (v := num a) (by omega); omega) (by have := digs_len (v := num b) (by omega); omega)
    rw [num16_digs, num16_digs] at hm
    refine Evt.bind hm ?_
    exact Evt.bind (ref_told_ev (num a * num b) n4) (h := fun t _ => some (t.1, t.2)) (Evt.pure _)
  cases hA : rightB a with
  | true =>
    refine Evt.ite_pos rfl ((J _ (fun h => ⟨hA, by simpa using h⟩)).congr (fun k => rfl) ?_)
    cases hB : rightB b <;> simp
  | false =>
    refine Evt.ite_neg (by simp) ((J _ (fun h => by simp at h)).congr (fun k => rfl) ?_)
    simp
end Go.Proofs.Ytgeanpnkllnipab.Z
end

section
namespace Go.Proofs.Ytgeanpnkllnipab.Z
open Go.RowKit Go.Proofs.Ytgeanpnkllnipab.F Go.Proofs.YtgeanpnkllnipabW.PrintWords
set_option linter.unusedSimpArgs false
set_option linter.unusedVariables false
def addL : Nat → List Int → List Int → Int → List Int
  | 0, _, _, c => [c]
  | n + 1, a, b, c => (a.getD 0 0 + b.getD 0 0 + c) % 65536 :: addL n (a.drop 1) (b.drop 1) ((a.getD 0 0 + b.getD 0 0 + c) / 65536)
theorem val_head (B : Int) (b : List Int) : val B b = b.getD 0 0 + B * val B (b.drop 1) := by
  cases b with
  | nil => simp [val]
  | cons y b => simp [val]
theorem addL_facts (n : Nat) : ∀ (a b : List Int) (c : Int), Dig (b16 : Int) a → Dig (b16 : Int) b → a.length ≤ n → b.length ≤ n → (c = 0 ∨ c = 1) →
    Dig (b16 : Int) (addL n a b c) ∧ val (b16 : Int) (addL n a b c) = val (b16 : Int) a + val (b16 : Int) b + c ∧ (addL n a b c).length = n + 1 := by
  induction n with
  | zero =>
    intro a b c _ _ ha hb hc
    have e1 : a = [] := List.length_eq_zero_iff.1 (by omega)
    have e2 : b = [] := List.length_eq_zero_iff.1 (by omega)
    subst e1 e2
    refine ⟨?_, by simp [addL, val], rfl⟩
    intro x hx
    simp [addL] at hx
    subst hx
    simp only [b16]; omega
  | succ n ih =>
    intro a b c da db ha hb hc
    have h1 := da.getD b16_pos 0
    have h2 := db.getD b16_pos 0
    simp only [b16] at h1 h2
    obtain ⟨i1, i2, i3⟩ := ih (a.drop 1) (b.drop 1) ((a.getD 0 0 + b.getD 0 0 + c) / 65536) (da.drop 1) (db.drop 1) (by simp; omega) (by simp; omega) (by omega)
    refine ⟨Dig.cons.2 ⟨by simp only [b16]; omega, i1⟩, ?_, by simp only [addL, List.length_cons, i3]⟩
    rw [val_head (b16 : Int) a, val_head (b16 : Int) b]
    simp only [addL, val]
    rw [i2]
    simp only [b16]
    omega
theorem ref_add_loop (a b : List Int) (da : Dig (b16 : Int) a) (db : Dig (b16 : Int) b) (ha : a.length ≤ 1000000) (hb : b.length ≤ 1000000) (n : Nat) : ∀ (i : Nat) (p : List Int) (c : Int), p.length = i → i ≤ max a.length b.length → max a.length b.length - i = n → (c = 0 ∨ c = 1) →
    Evt (fun k => windbreakref01_add.l0 k a b p c (i : Int)) (strip (p ++ addL n (a.drop i) (b.drop i) c)) := by
  induction n with
  | zero =>
    intro i p c hp hi hn hc
    have hJ : Evt (fun k => windbreakref01_add.j1 k a b p c (i : Int) false) (strip (p ++ addL 0 (a.drop i) (b.drop i) c)) := by
      refine Evt.succ ?_
      simp only [windbreakref01_add.j1]
      refine Evt.ite_neg (by simp) (Evt.ite_pos (by omega) ?_)
      exact Evt.bind (windbreakref01_cut_ev (p ++ [c]) (by simp [maxLen]; omega)) (h := fun t _ => some t) (Evt.pure _)
    refine Evt.succ ?_
    simp only [windbreakref01_add.l0]
    refine Evt.ite_neg (by omega) ?_
    have : decide ((i : Int) < (b.length : Int)) = false := by simp; omega
    rw [this]
    exact hJ
  | succ n ih =>
    intro i p c hp hi hn hc
    have hJ : Evt (fun k => windbreakref01_add.j1 k a b p c (i : Int) true) (strip (p ++ addL (n + 1) (a.drop i) (b.drop i) c)) := by
      refine Evt.succ ?_
      simp only [windbreakref01_add.j1]
      refine Evt.ite_pos trivial ?_
      rw [ref_digit_eq, ref_digit_eq]
      simp only [Option.bind_some]
      refine Evt.ite_pos (by omega) ?_
      have h1 := da.getD b16_pos i
      have h2 := db.getD b16_pos i
      simp only [b16] at h1 h2
      rw [wu64_of (show 0 ≤ a.getD i 0 + b.getD i 0 by omega) (by omega), wu64_of (show 0 ≤ a.getD i 0 + b.getD i 0 + c by omega) (by omega)]
      rw [Int.tmod_eq_emod_of_nonneg (by omega), Int.tdiv_eq_ediv_of_nonneg (by omega), wu64_of (by omega) (by omega), w64 (by omega) (by omega)]
      have e1 : (a.drop i).getD 0 0 = a.getD i 0 := by simp [List.getD_eq_getElem?_getD]
      have e2 : (b.drop i).getD 0 0 = b.getD i 0 := by simp [List.getD_eq_getElem?_getD]
      refine (ih (i + 1) (p ++ [(a.getD i 0 + b.getD i 0 + c) % 65536]) ((a.getD i 0 + b.getD i 0 + c) / 65536) (by simp [hp]) (by omega) (by omega) (by omega)).congr (fun k => rfl) ?_
      simp only [addL, e1, e2, List.drop_drop, List.append_assoc, List.singleton_append]
    refine Evt.succ ?_
    simp only [windbreakref01_add.l0]
    by_cases h : i < a.length
    · exact Evt.ite_pos (by omega) hJ
    · refine Evt.ite_neg (by omega) ?_
      have : decide ((i : Int) < (b.length : Int)) = true := by simp; omega
      rw [this]
      exact hJ
theorem ref_add_ev (v w : Nat) (hv : v < lim) (hw : w < lim) : Evt (fun k => windbreakref01_add.f k (digs v) (digs w)) (digs (v + w)) := by
  have h1 := digs_len hv
  have h2 := digs_len hw
  have d1 := toD_dig b16_two v
  have d2 := toD_dig b16_two w
  have h := ref_add_loop (digs v) (digs w) d1 d2 (by omega) (by omega) (max (digs v).length (digs w).length) 0 [] 0 rfl (Nat.zero_le _) (by omega) (Or.inl rfl)
  refine h.congr (fun k => rfl) ?_
  obtain ⟨f1, f2, f3⟩ := addL_facts (max (digs v).length (digs w).length) (digs v) (digs w) 0 d1 d2 (by omega) (by omega) (Or.inl rfl)
  rw [List.nil_append, List.drop_zero, List.drop_zero, strip_digs f1]
  unfold num16
  rw [f2, val_toD b16_two, val_toD b16_two]
  congr 1
end Go.Proofs.Ytgeanpnkllnipab.Z
end

section
namespace Go.Proofs.Ytgeanpnkllnipab.Z
open Go.RowKit Go.Proofs.Ytgeanpnkllnipab.F Go.Proofs.YtgeanpnkllnipabW.PrintWords
set_option linter.unusedSimpArgs false
set_option linter.unusedVariables false
def addW (a b : List Int) : List Int × Int := if rightB a = true ∧ rightB b = true then toldV (num a + num b) else ([], 1)
theorem num_lt_64 {a : List Int} (da : Dig (b64 : Int) a) (ha : a.length ≤ 64) : num a < b64 ^ 64 :=
  Nat.lt_of_lt_of_le (num_lt da) (Nat.pow_le_pow_right (by decide) ha)
theorem ref_Add_ev (a b : List Int) (ha : a.length ≤ maxLen) (hb : b.length ≤ maxLen) (da : Dig (b64 : Int) a) (db : Dig (b64 : Int) b) : Evt (fun k => windbreakref01_Add.f k a b) (addW a b) := by
  unfold windbreakref01_Add.f addW
  rw [windbreakref01_Right_eq ha, windbreakref01_Right_eq hb]
  simp only [Option.bind_some]
  have J : ∀ x : Bool, (x = false → rightB a = true ∧ rightB b = true) → Evt (fun k => windbreakref01_Add.j0 k a b x) (if x = true then ([], 1) else toldV (num a + num b)) := by
    intro x hx
    refine Evt.succ ?_
    simp only [windbreakref01_Add.j0]
    refine Evt.cond (fun _ => Evt.pure _) (fun hc => ?_)
    have h := hx (by simpa using hc)
    obtain ⟨h1, c1⟩ := (rightB_iff a).1 h.1
    obtain ⟨h2, c2⟩ := (rightB_iff b).1 h.2
    have n1 := num_lt_64 da h1
    have n2 := num_lt_64 db h2
    have n3 := pow_lt_lim (n := 64) (by omega)
    refine Evt.bind (ref_In_ev a (by omega) da) (Evt.bind (ref_In_ev b (by omega) db) ?_)
    refine Evt.bind (ref_add_ev (num a) (num b) (by omega) (by omega)) ?_
    exact Evt.bind (ref_told_ev (num a + num b) (by omega)) (h := fun t _ => some (t.1, t.2)) (Evt.pure _)
  cases hA : rightB a with
  | true =>
    refine Evt.ite_pos rfl ((J _ (fun h => ⟨hA, by simpa using h⟩)).congr (fun k => rfl) ?_)
    cases hB : rightB b <;> simp
  | false =>
    refine Evt.ite_neg (by simp) ((J _ (fun h => by simp at h)).congr (fun k => rfl) ?_)
    simp
end Go.Proofs.Ytgeanpnkllnipab.Z
end

section
namespace Go.Proofs.Ytgeanpnkllnipab.Z
open Go.RowKit Go.Proofs.Ytgeanpnkllnipab.F Go.Proofs.YtgeanpnkllnipabW.PrintWords
set_option linter.unusedSimpArgs false
set_option linter.unusedVariables false
def shlW (a : List Int) (n : Int) : List Int × Int :=
  if rightB a = true ∧ 0 ≤ n then (if a.length = 0 then ([], 0) else if 4096 < n then ([], 4) else toldV (num a * 2 ^ n.toNat)) else ([], 1)
theorem ref_Shl_ev (a : List Int) (n : Int) (ha : a.length ≤ maxLen) (da : Dig (b64 : Int) a) : Evt (fun k => windbreakref01_Shl.f k a n) (shlW a n) := by
  unfold windbreakref01_Shl.f shlW
  rw [windbreakref01_Right_eq ha]
  simp only [Option.bind_some]
  have J : ∀ x : Bool, (x = false → rightB a = true ∧ 0 ≤ n) → Evt (fun k => windbreakref01_Shl.j0 k a n x) (if x = true then ([], 1) else if a.length = 0 then ([], 0) else if 4096 < n then ([], 4) else toldV (num a * 2 ^ n.toNat)) := by
    intro x hx
    refine Evt.succ ?_
    simp only [windbreakref01_Shl.j0]
    refine Evt.cond (fun _ => Evt.pure _) (fun hc => ?_)
    have h := hx (by simpa using hc)
    obtain ⟨h1, c1⟩ := (rightB_iff a).1 h.1
    by_cases h0 : a.length = 0
    · rw [if_pos h0]; exact Evt.ite_pos (by omega) (Evt.pure _)
    · rw [if_neg h0]
      refine Evt.ite_neg (by omega) ?_
      by_cases hn : 4096 < n
      · rw [if_pos hn]; exact Evt.ite_pos (by omega) (Evt.pure _)
      · rw [if_neg hn]
        refine Evt.ite_neg (by omega) ?_
        obtain ⟨m, rfl⟩ := Int.eq_ofNat_of_zero_le h.2
        have n2 := num_lt_lim da (by omega)
        have l1 := digs_len n2
        have l2 := digs_len (v := 2 ^ m) (by have := pow2_lim (n := m) (by omega); omega)
        refine Evt.bind (ref_In_ev a (by omega) da) (Evt.bind (ref_power_ev m (by omega)) ?_)
        have hm := ref_mul_ev (digs (num a)) (digs (2 ^ m)) (toD_dig b16_two _) (toD_dig b16_two _) (by omega) (by omega)
        rw [num16_digs, num16_digs] at hm
        refine Evt.bind hm ?_
        rw [Int.toNat_natCast]
        exact Evt.bind (ref_told_ev (num a * 2 ^ m) (mul_pow_lim da h1 (by omega))) (h := fun t _ => some (t.1, t.2)) (Evt.pure _)
  cases hA : rightB a with
  | true =>
    refine Evt.ite_pos rfl ((J _ (fun h => ⟨hA, by simpa using h⟩)).congr (fun k => rfl) ?_)
    by_cases hn : n < 0
    · rw [decide_eq_true hn, if_pos rfl, if_neg (show ¬ (true = true ∧ 0 ≤ n) by omega)]
    · rw [decide_eq_false hn, if_neg (by simp), if_pos (show true = true ∧ 0 ≤ n from ⟨rfl, by omega⟩)]
  | false =>
    refine Evt.ite_neg (by simp) ((J _ (fun h => by simp at h)).congr (fun k => rfl) ?_)
    simp
end Go.Proofs.Ytgeanpnkllnipab.Z
end

section
namespace Go.Proofs.Ytgeanpnkllnipab.Z
open Go.RowKit Go.Proofs.Ytgeanpnkllnipab.F Go.Proofs.YtgeanpnkllnipabW.PrintWords
set_option linter.unusedSimpArgs false
set_option linter.unusedVariables false
theorem r3_Right_s {a : Bool} {m : Nat} (hm : m < b64 ^ 64) (ha : a = true → m ≠ 0) : windbreakref03_Right.f a (limbs m) = some true := by
  rw [ref3_Right_eq _ _ (limbs_max hm), intR_s hm ha]
theorem r3_From {a : Bool} {m : Nat} (h : m < b64 ^ 64) : windbreakref03_From.f a (limbs m) = some (ofI (sI a m)) := by
  rw [ref3_From_eq a _ (limbs_le64 h), fromV_s h]
theorem strip_one_r {x : Int} (h0 : 0 ≤ x) (h1 : x < 18446744073709551616) : strip [x] = limbs x.toNat := by
  rw [strip_limbs (dig_one h0 h1), num_one h0]
theorem b64_lt_pow_r {m : Nat} (h : m < b64) : m < b64 ^ 64 := Nat.lt_of_lt_of_le h (Nat.le_self_pow (by decide) b64)
theorem toldV_of_r {m : Nat} (h : m < b64 ^ 64) : toldV m = (limbs m, 0) := by
  unfold toldV
  rw [if_pos h]
theorem r3_Of_eq {x : Int} (h0 : -9223372036854775808 ≤ x) (h1 : x < 9223372036854775808) : windbreakref03_Of.f x = some (ofI x) := by
  have hb : b64 = 18446744073709551616 := rfl
  unfold windbreakref03_Of.f
  by_cases h : x < 0
  · rw [if_pos h]
    have e : IntKind.u64.wrap ((IntKind.u64.wrap (wrap64 (-(wrap64 (x + 1))))) + 1) = ((x.natAbs : Nat) : Int) := by
      rw [w64 (x := x + 1) (by omega) (by omega), w64 (x := -(x + 1)) (by omega) (by omega), wu64, wu64]
      omega
    rw [e, ref_Of_eq, strip_one_r (by omega) (by omega), Int.toNat_natCast]
    simp only [Option.bind_some]
    rw [r3_From (b64_lt_pow_r (by omega))]
    simp only [Option.bind_some, sI, if_true]
    rw [show -((x.natAbs : Nat) : Int) = x by omega]
  · rw [if_neg h]
    have e : IntKind.u64.wrap x = ((x.natAbs : Nat) : Int) := by rw [wu64]; omega
    rw [e, ref_Of_eq, strip_one_r (by omega) (by omega), Int.toNat_natCast]
    simp only [Option.bind_some]
    rw [r3_From (b64_lt_pow_r (by omega))]
    simp only [Option.bind_some, sI]
    rw [if_neg (by simp), show ((x.natAbs : Nat) : Int) = x by omega]
theorem r3_Add_s {a b : Bool} {m n : Nat} (hx : m < b64 ^ 30) (hy : n < b64 ^ 30) (ha : a = true → m ≠ 0) (hb : b = true → n ≠ 0) : Evt (fun k => windbreakref03_Add.f k a (limbs m) b (limbs n)) ((ofI (sI a m + sI b n)).1, (ofI (sI a m + sI b n)).2, 0) := by
  have hs := SmI.sum hx hy
  have hm : m < b64 ^ 64 := by omega
  have hn : n < b64 ^ 64 := by omega
  have rm := right_limbs' hm
  have rn := right_limbs' hn
  unfold windbreakref03_Add.f
  rw [r3_Right_s hm ha, r3_Right_s hn hb]
  simp only [Option.bind_some, if_true]
  refine Evt.succ ?_
  simp only [windbreakref03_Add.j0]
  refine Evt.ite_neg (by simp) ?_
  by_cases hab : a = b
  · subst hab
    refine Evt.ite_pos (by simp) ?_
    have h1 := ref_Add_ev (limbs m) (limbs n) (limbs_max hm) (limbs_max hn) (dig_limbs' _) (dig_limbs' _)
    unfold addW at h1
    rw [if_pos ⟨rm, rn⟩, num_limbs, num_limbs, toldV_of_r hs] at h1
    refine Evt.bind h1 (Evt.of (fun _ => ?_))
    rw [r3_From hs, sI_add]
    rfl
  · refine Evt.ite_neg (by simpa using hab) ?_
    have h1 := ref_Cmp_ev (limbs m) (limbs n) (limbs_max hm) (limbs_max hn) (dig_limbs' _) (dig_limbs' _)
    unfold cmpW at h1
    rw [if_pos ⟨rm, rn⟩, num_limbs, num_limbs] at h1
    refine Evt.bind h1 ?_
    by_cases hlt : m < n
    · refine Evt.ite_neg (by unfold cmpN; rw [if_pos hlt]; omega) ?_
      have h2 := ref_Sub_ev (limbs n) (limbs m) (limbs_max hn) (limbs_max hm) (dig_limbs' _) (dig_limbs' _)
      unfold subW at h2
      rw [if_pos ⟨rn, rm⟩, num_limbs, num_limbs, if_neg (by omega)] at h2
      refine Evt.bind h2 (Evt.of (fun _ => ?_))
      rw [r3_From (Nat.lt_of_le_of_lt (Nat.sub_le _ _) hn), sI_sub (b := a) (fun e => hab e.symm) (by omega), Int.add_comm]
      rfl
    · refine Evt.ite_pos (by unfold cmpN; rw [if_neg hlt]; split <;> omega) ?_
      have h2 := ref_Sub_ev (limbs m) (limbs n) (limbs_max hm) (limbs_max hn) (dig_limbs' _) (dig_limbs' _)
      unfold subW at h2
      rw [if_pos ⟨rm, rn⟩, num_limbs, num_limbs, if_neg (by omega)] at h2
      refine Evt.bind h2 (Evt.of (fun _ => ?_))
      rw [r3_From (Nat.lt_of_le_of_lt (Nat.sub_le _ _) hm), sI_sub (b := b) hab (by omega)]
      rfl
theorem r3_Add_ev {x y : Int} (hx : SmI x) (hy : SmI y) : Evt (fun k => windbreakref03_Add.f k (ofI x).1 (ofI x).2 (ofI y).1 (ofI y).2) ((ofI (x + y)).1, (ofI (x + y)).2, 0) := by
  have h := r3_Add_s (a := decide (x < 0)) (b := decide (y < 0)) hx hy neg_abs neg_abs
  rw [sI_of, sI_of] at h
  exact h
theorem r3_Right_of {x : Int} (hx : x.natAbs < b64 ^ 64) : windbreakref03_Right.f (ofI x).1 (ofI x).2 = some true := r3_Right_s hx neg_abs
theorem r3_Mul_ev {x y : Int} (hx : SmI x) (hy : SmI y) : Evt (fun k => windbreakref03_Mul.f k (ofI x).1 (ofI x).2 (ofI y).1 (ofI y).2) ((ofI (x * y)).1, (ofI (x * y)).2, 0) := by
  unfold windbreakref03_Mul.f
  rw [r3_Right_of hx.lt, r3_Right_of hy.lt]
  simp only [Option.bind_some, if_true]
  refine Evt.succ ?_
  simp only [windbreakref03_Mul.j0]
  refine Evt.ite_neg (by simp) ?_
  have hs := SmI.prod hx hy
  have h1 := ref_Mul_ev (limbs x.natAbs) (limbs y.natAbs) (limbs_max hx.lt) (limbs_max hy.lt) (dig_limbs' _) (dig_limbs' _)
  unfold mulW at h1
  rw [if_pos ⟨right_limbs' hx.lt, right_limbs' hy.lt⟩, num_limbs, num_limbs, toldV_of_r hs] at h1
  refine Evt.bind h1 (Evt.of (fun _ => ?_))
  rw [r3_From hs]
  have e : sI ((ofI x).1 != (ofI y).1) (x.natAbs * y.natAbs) = x * y := by
    rw [sI_mul]
    show sI (decide (x < 0)) x.natAbs * sI (decide (y < 0)) y.natAbs = _
    rw [sI_of, sI_of]
  rw [e]
  rfl
def cmpI (x y : Int) : Int := if x < y then -1 else if x = y then 0 else 1
theorem r3_Cmp_ev {x y : Int} (hx : SmI x) (hy : SmI y) : Evt (fun k => windbreakref03_Cmp.f k (ofI x).1 (ofI x).2 (ofI y).1 (ofI y).2) (cmpI x y) := by
  unfold windbreakref03_Cmp.f
  rw [r3_Right_of hx.lt, r3_Right_of hy.lt]
  simp only [Option.bind_some, if_true]
  refine Evt.succ ?_
  simp only [windbreakref03_Cmp.j0]
  refine Evt.ite_neg (by simp) ?_
  have rx := right_limbs' hx.lt
  have ry := right_limbs' hy.lt
  have h1 := ref_Cmp_ev (limbs x.natAbs) (limbs y.natAbs) (limbs_max hx.lt) (limbs_max hy.lt) (dig_limbs' _) (dig_limbs' _)
  have h2 := ref_Cmp_ev (limbs y.natAbs) (limbs x.natAbs) (limbs_max hy.lt) (limbs_max hx.lt) (dig_limbs' _) (dig_limbs' _)
  unfold cmpW at h1 h2
  rw [if_pos ⟨rx, ry⟩, num_limbs, num_limbs] at h1
  rw [if_pos ⟨ry, rx⟩, num_limbs, num_limbs] at h2
  have ex : (ofI x).1 = decide (x < 0) := rfl
  have ey : (ofI y).1 = decide (y < 0) := rfl
  rw [ex, ey]
  by_cases a : x < 0 <;> by_cases b : y < 0
  · rw [decide_eq_true a, decide_eq_true b]
    refine Evt.ite_neg (by simp) (Evt.ite_pos rfl ?_)
    refine (Evt.bind h2 (h := fun t _ => some t) (Evt.pure _)).congr (fun k => rfl) ?_
    unfold cmpN cmpI
    repeat' split <;> omega
  · rw [decide_eq_true a, decide_eq_false b]
    refine Evt.ite_pos (by simp) (Evt.ite_pos rfl ((Evt.pure _).congr (fun k => rfl) ?_))
    unfold cmpI
    rw [if_pos (by omega)]
  · rw [decide_eq_false a, decide_eq_true b]
    refine Evt.ite_pos (by simp) (Evt.ite_neg (by simp) ((Evt.pure _).congr (fun k => rfl) ?_))
    unfold cmpI
    rw [if_neg (by omega), if_neg (by omega)]
  · rw [decide_eq_false a, decide_eq_false b]
    refine Evt.ite_neg (by simp) (Evt.ite_neg (by simp) ?_)
    refine (Evt.bind h1 (h := fun t _ => some t) (Evt.pure _)).congr (fun k => rfl) ?_
    unfold cmpN cmpI
    repeat' split <;> omega
theorem r7_power_ev {s : Nat} (hs : s ≤ 64) : Evt (fun k => windbreakref07_power.f k (s : Int)) (ofI (2 ^ s)) := by
  unfold windbreakref07_power.f
  rw [ref_Of_eq, strip_one_r (by omega) (by omega)]
  simp only [Option.bind_some]
  have h2 : 2 ^ s ≤ b64 ^ 1 := pow2_le_b64 (by omega)
  have h3 : 2 ^ s < b64 ^ 64 := Nat.lt_of_le_of_lt h2 ((Nat.pow_lt_pow_iff_right (by decide)).2 (by decide))
  have h1 := ref_Shl_ev (limbs (1 : Int).toNat) (s : Int) (limbs_max (m := 1) (by decide)) (dig_limbs' _)
  unfold shlW at h1
  rw [if_pos ⟨right_limbs' (v := 1) (by decide), by omega⟩, num_limbs, Int.toNat_natCast, if_neg (fun e => by have := (limbs_nil_iff _).1 e; simp at this), if_neg (by omega)] at h1
  rw [show (1 : Int).toNat * 2 ^ s = 2 ^ s from Nat.one_mul _, toldV_of_r h3] at h1
  refine Evt.bind h1 (Evt.of (fun _ => ?_))
  rw [r3_From h3]
  have e : sI false (2 ^ s) = 2 ^ s := by simp [sI]
  rw [e]
  rfl
end Go.Proofs.Ytgeanpnkllnipab.Z
end

section
namespace Go.Proofs.Ytgeanpnkllnipab.Z
open Go.RowKit Go.Proofs.Ytgeanpnkllnipab.F Go.Proofs.YtgeanpnkllnipabW.PrintWords Go.Proofs.YtgeanpnkllnipabW.PrintMore
set_option linter.unusedSimpArgs false
set_option linter.unusedVariables false
theorem cmpI_ge (x y : Int) : decide (cmpI x y ≥ 0) = decide (y ≤ x) := by
  unfold cmpI
  by_cases h : x < y
  · rw [if_pos h]; simp; omega
  · rw [if_neg h]; split <;> simp <;> omega
theorem ref_Pack_ev (n : List Int) (s g h : Int) (hn : n.length ≤ maxLen) (dn : Dig (b64 : Int) n) (hg0 : -9223372036854775808 ≤ g) (hg1 : g < 9223372036854775808) (hh0 : -9223372036854775808 ≤ h) (hh1 : h < 9223372036854775808) : Evt (fun k => windbreakref07_Pack.f k n s g h) (packV n s g h) := by
  unfold windbreakref07_Pack.f packV
  refine Evt.bind (ref_May_ev n hn dn) ?_
  have J1 : ∀ b : Bool, ∀ q : Nat, q ≤ 62 → Evt (fun k => windbreakref07_Pack.j1 k n (q : Int) g h b) (if b = true then ([], 12) else encV n (ofI (g * 2 ^ q + h)).1 (ofI (g * 2 ^ q + h)).2) := by
    intro b q hq
    refine Evt.succ ?_
    simp only [windbreakref07_Pack.j1]
    refine Evt.cond (fun _ => Evt.pure _) (fun hc => ?_)
    have z1 := Sz.mul (Sz.i64 hg0 hg1) (Sz.pow (s := q) (by omega))
    have z2 := Sz.mono (Sz.i64 hh0 hh1) (show 1 ≤ 3 by omega)
    have z3 := Sz.add z1 z2
    refine Evt.bind (Evt.of (fun _ => r3_Of_eq hg0 hg1)) ?_
    refine Evt.bind (r7_power_ev (by omega)) ?_
    refine Evt.bind (r3_Mul_ev ((Sz.i64 hg0 hg1).smI (by omega)) ((Sz.pow (s := q) (by omega)).smI (by omega))) ?_
    refine Evt.bind (Evt.of (fun _ => r3_Of_eq hh0 hh1)) ?_
    refine Evt.bind (r3_Add_ev (z1.smI (by omega)) (z2.smI (by omega))) ?_
    exact Evt.bind (ref_Encode_ev n (ofI (g * 2 ^ q + h)).1 (ofI (g * 2 ^ q + h)).2 hn (limbs_max (z3.smI (by omega)).lt) dn (dig_limbs' _)) (h := fun t _ => some (t.1, t.2)) (Evt.pure _)
  have J : ∀ b : Bool, (b = false → mayV n = true ∧ 1 ≤ s ∧ s ≤ 62) → Evt (fun k => windbreakref07_Pack.j0 k n s g h b) (if b = true then ([], 1) else (if h < 0 ∨ 2 ^ s.toNat ≤ h then ([], 12) else encV n (ofI (g * 2 ^ s.toNat + h)).1 (ofI (g * 2 ^ s.toNat + h)).2)) := by
    intro b hb
    refine Evt.succ ?_
    simp only [windbreakref07_Pack.j0]
    refine Evt.cond (fun _ => Evt.pure _) (fun hc => ?_)
    obtain ⟨hm, h1, h2⟩ := hb (by simpa using hc)
    obtain ⟨q, rfl⟩ : ∃ q : Nat, s = (q : Int) := ⟨s.toNat, by omega⟩
    rw [Int.toNat_natCast]
    by_cases h0 : h < 0
    · rw [if_pos (Or.inl h0)]
      exact Evt.ite_pos h0 ((J1 true q (by omega)).congr (fun k => rfl) (if_pos rfl))
    · refine Evt.ite_neg h0 ?_
      refine Evt.bind (Evt.of (fun _ => r3_Of_eq hh0 hh1)) ?_
      refine Evt.bind (r7_power_ev (by omega)) ?_
      refine Evt.bind (r3_Cmp_ev ((Sz.i64 hh0 hh1).smI (by omega)) ((Sz.pow (s := q) (by omega)).smI (by omega))) ?_
      rw [cmpI_ge]
      refine (J1 _ q (by omega)).congr (fun k => rfl) ?_
      by_cases h3 : 2 ^ q ≤ h
      · rw [if_pos (by simpa using h3), if_pos (Or.inr h3)]
      · rw [if_neg (by simpa using h3), if_neg (by omega)]
  cases hm : mayV n with
  | false =>
    refine Evt.ite_neg (by simp) ((J true (by simp)).congr (fun k => rfl) ?_)
    simp
  | true =>
    refine Evt.ite_pos rfl ?_
    by_cases h1 : s < 1
    · refine Evt.ite_pos h1 ((J true (by simp)).congr (fun k => rfl) ?_)
      rw [if_pos rfl, if_neg (fun e => absurd e.2.1 (by omega))]
    · refine Evt.ite_neg h1 ((J _ (fun e => ⟨hm, by omega, by simpa using e⟩)).congr (fun k => rfl) ?_)
      have h1' : 1 ≤ s := by omega
      by_cases h2 : s ≤ 62
      · have h3 : ¬ s > 62 := by omega
        simp [h1', h2, h3]
      · have h3 : s > 62 := by omega
        simp [h2, h3]
end Go.Proofs.Ytgeanpnkllnipab.Z
end

section
namespace Go.Proofs.Ytgeanpnkllnipab.Pure
open Go.RowKit Go.Proofs.Ytgeanpnkllnipab.F Go.Proofs.Ytgeanpnkllnipab.Z
set_option linter.unusedSimpArgs false
set_option linter.unusedVariables false
theorem packV_len {n : List Int} (dn : Dig (b64 : Int) n) (s g h : Int) : (packV n s g h).1.length ≤ 64 := by
  unfold packV
  split
  · split
    · simp
    · exact encV_len dn
  · simp
theorem FixencPacks : windbreaklaw07_FixencPacks.Pure := by
  intro n s g h hn _ wn ws wg wh
  apply Evt.get
  have dn := dig_of_wf wn
  obtain ⟨g0, g1⟩ := wf_i64 wg
  obtain ⟨h0, h1⟩ := wf_i64 wh
  unfold windbreaklaw07_FixencPacks.f
  refine Evt.bind (few7_ev [n] (by simp [maxLen])) ?_
  refine Evt.cond' (fun _ => ?_) (fun _ => Evt.pure _)
  refine Evt.bind awake_ev ?_
  refine Evt.bind (fix_Pack_ev n s g h hn dn g0 g1 h0 h1) ?_
  refine Evt.bind (ref_Pack_ev n s g h hn dn g0 g1 h0 h1) ?_
  refine Evt.bind (same_ev _ _ (by have := packV_len dn s g h; simp only [maxLen]; omega)) ?_
  refine Evt.ite_pos rfl (Evt.ite_pos (by simp) ((Evt.pure _).congr (fun k => rfl) (by simp)))
end Go.Proofs.Ytgeanpnkllnipab.Pure
end

section
namespace Go.Proofs.YtgeanpnkllnipabW.PrintWords
open Go.ChangeShapes Go.WideShapes
theorem sized_ints {H : Type} {enc : TypeId × Value → H} {P : Program} {W : World} {base : Nat} {spare : Nat → Bool} {held : Bool} {t e : TypeId} {k : IntKind} {a : Option Addr} {len cap : Nat} {d : DataW H} {ps : List MemPlace} {ts : List TypeId} {ds : List (DataW H)} {j : Nat}
    (hsz : (DataW.weightsEach P ts ds).all (· ≤ reachBytes) = true) (ht : ts[j]? = some t) (hd : ds[j]? = some d) (hu : P.underlying t = some (.slice e)) (he : P.underlying e = some (.int k)) (hc : P.cellsOf e = 1) {B : Nat} (hB : P.bytesOf e = B)
    (h : DataW.Trod enc P W base spare held t (.slice a len cap) d ps) : len * B ≤ 140737488351232 := by
  obtain ⟨fuel, hf⟩ := h
  rcases open_ints hu he hc hf with ⟨hcs, _⟩ | ⟨x, l, c, zs, hcs, _, hl, _, hz, hx, _, _⟩
  · simp [Value.cells] at hcs
    obtain ⟨rfl, rfl, rfl⟩ := hcs
    simp
  · simp [Value.cells] at hcs
    obtain ⟨rfl, rfl, rfl⟩ := hcs
    obtain ⟨hx, _⟩ := Prod.mk.inj hx
    subst hx
    have z := sized_slice hsz ht hd hu
    rw [hB] at z
    have hl2 : len ≤ zs.length := by
      rw [hz]
      split
      · exact hl
      · exact Nat.le_refl _
    have h1 : (lits (H := H) k (zs.take len)).length + (lits (H := H) k (zs.drop len)).length = zs.length := by
      simp [lits]
      omega
    rw [h1] at z
    exact Nat.le_trans (Nat.mul_le_mul_right _ hl2) z
end Go.Proofs.YtgeanpnkllnipabW.PrintWords
end

section
namespace Go.Proofs.Ytgeanpnkllnipab.fixencPacks
open Go.ChangeShapes Go.WideShapes Go.ChangeAt Go.RowKit
open Go.ChangeMaps (open_string shut_string)
set_option linter.unusedVariables false
theorem own : ownKnob Try.prog.godebug = none := by kernel_rfl
theorem laidOut : laidOutB Try.prog = true := by kernel_rfl
def IsRow (k : IntKind) (w : World) (a : Option Addr) (len cap : Nat) (zs : List Int) : Prop :=
  (a = none ∧ len = 0 ∧ cap = 0 ∧ zs = []) ∨
  ∃ x, a = some x ∧ len ≤ cap ∧ cap ≤ maxLen ∧ zs.length = cap ∧ (∀ i, i < zs.length → w.cell? (x.add i) = some (.int k (zs.getD i 0))) ∧ ∀ n ∈ zs, (Lit.int k n).wf = true
set_option maxRecDepth 100000 in
theorem lifted (os : Os) (started : os.Started) (H : Type) (enc : TypeId × Value → H) :
    ReturnsInHanded {} Try.checked os 10 .any (Rows.fixencPacksSpec.pre6 enc Try.prog Try.f10 Rows.fixencPacksRow.domain false) (Rows.fixencPacksSpec.post enc Try.prog Try.f10 false true false false) := by
  refine returnsInHanded_of_change_sized (C := Try.checked) own started (by kernel_rfl) Try.func10
    (ChangeSpec.witness6 (enc := enc) (C := Try.checked) false ⟨#[], #[.slice none 0 0, .int .i64 0, .agg #[.int .i64 0, .int .i64 0]], []⟩ 8 (by kernel_rfl) (by kernel_rfl) (by kernel_rfl) (by kernel_rfl)) ?_
  intro W base args ds gs before hval0 hW hcnd hsz0 _
  have hsz : (DataW.weightsEach Try.prog (Try.f10.params.toList ++ Rows.fixencPacksSpec.plain.varTypes Try.prog) (ds ++ gs)).all (· ≤ reachBytes) = true := hsz0
  have hval : ∀ (j : Nat) t v, Try.f10.params[j]? = some t → args[j]? = some v → Value.okWide Try.prog W .any base t v := hval0
  have hW' := hW
  obtain ⟨p, q, hA0, hV, rfl, hfz, hnd⟩ := hW
  have hA : DataW.TrodAll enc Try.prog W 0 (fun _ => true) true Try.f10.params.toList args.toList ds p := hA0
  rw [Try.params10] at hA hval hsz
  obtain ⟨v0, vs0, d0, ds0, p0, q0, hargs, rfl, rfl, h0, r0⟩ := trodAll_cons hA
  obtain ⟨v1, vs1, d1, ds1, p1, q1, rfl, rfl, rfl, h1, r1⟩ := trodAll_cons r0
  obtain ⟨v2, vs2, d2, ds2, p2, q2, rfl, rfl, rfl, h2, r2⟩ := trodAll_cons r1
  obtain ⟨rfl, rfl, rfl⟩ := trodAll_nil r2
  obtain rfl : args = #[v0, v1, v2] := by cases args; simp_all
  obtain ⟨rfl, rfl⟩ := trodVars_none hV
  obtain ⟨a0, len0, cap0, rfl⟩ := okWide_slice Try.underlying23 (hval 0 23 v0 rfl rfl)
  have k0 := h0
  have lt0 : ∀ x ∈ p0, x.block < W.heap.size := by obtain ⟨m, hm⟩ := k0; exact DataW.trod_lt m _ _ _ hm
  obtain ⟨z0, w0⟩ : ∃ zs, IsRow .u64 W a0 len0 cap0 zs := by
    obtain ⟨fuel, hf⟩ := h0
    rcases open_ints Try.underlying23 Try.underlying27 (by kernel_rfl) hf with ⟨hcs, _⟩ | ⟨x, l, c, zs, hcs, _, hl, hm, hz, _, hcell, hwz⟩
    · simp [Value.cells] at hcs
      obtain ⟨rfl, rfl, rfl⟩ := hcs
      exact ⟨[], .inl ⟨rfl, rfl, rfl, rfl⟩⟩
    · simp [Value.cells] at hcs
      obtain ⟨rfl, rfl, rfl⟩ := hcs
      exact ⟨zs, .inr ⟨_, rfl, hl, hm, by simpa using hz, hcell, hwz⟩⟩
  have y0 : len0 * 8 ≤ 140737488351232 := Go.Proofs.YtgeanpnkllnipabW.PrintWords.sized_ints hsz (j := 0) (t := 23) rfl rfl Try.underlying23 Try.underlying27 (by kernel_rfl) (by kernel_rfl) h0
  obtain ⟨a1, rfl, rfl, rfl, w1⟩ := open_int Try.underlying3 (hval 1 3 v1 rfl rfl) h1
  have k2 := h2
  have lt2 : ∀ x ∈ p2, x.block < W.heap.size := by obtain ⟨m, hm⟩ := k2; exact DataW.trod_lt m _ _ _ hm
  obtain ⟨v2_0, v2_1, e2_0, e2_1, n2, rfl, rfl, rfl, h2_0, h2_1⟩ := F.open_arr2 Try.underlying39 (by kernel_rfl) (by kernel_rfl) (hval 2 39 v2 rfl rfl) h2
  obtain ⟨a2_0, hv_, rfl, w2_0⟩ := DataW.trod_int Try.underlying2 h2_0
  obtain rfl := (List.cons.inj hv_).1
  clear hv_
  obtain ⟨a2_1, hv_, rfl, w2_1⟩ := DataW.trod_int Try.underlying2 h2_1
  obtain rfl := (List.cons.inj hv_).1
  clear hv_
  clear hA0 hval0 hsz0 hsz
  refine (F.windbreaklaw07_FixencPacks.walk Pure.FixencPacks a0 len0 cap0 z0 a1 a2_0 a2_1 W w0 y0 w1 w2_0 w2_1).mono fun e W' ⟨he, bel⟩ => ?_
  subst he
  exact ⟨_, rfl, _, _, _, [], _, [], hW', trodAll_mk1 (shut_bool Try.underlying4 _), (trodAll_cons_mk (Below.trod laidOut (by kernel_rfl) (of_decide_eq_true (by kernel_rfl)) k0 bel lt0) (trodAll_cons_mk (shut_int Try.underlying3 w1) (trodAll_cons_mk (Below.trod laidOut (by kernel_rfl) (of_decide_eq_true (by kernel_rfl)) k2 bel lt2) trodAll_mk0))), rfl, bel.frame _, fun h => by cases h⟩
theorem over : Rows.fixencPacksRow.holds Try.pinned (OpenSpec.ofChange Rows.fixencPacksSpec) :=
  OpenClaim.holds_of_wide 10 Try.f10 rfl rfl rfl rfl rfl rfl rfl ⟨rfl, rfl, rfl, rfl, rfl⟩ rfl rfl rfl rfl rfl (by kernel_rfl) Try.func10 (by kernel_rfl)
    (of_decide_eq_true (by kernel_rfl)) (by unfold Func.isWrapper; first | (rw [if_pos (by decide +kernel)]; kernel_rfl) | (rw [if_neg (by decide +kernel)]; exact ⟨rfl, rfl⟩))
    (fun os started H enc _ => lifted os started H enc)
theorem proved : Rows.FixencPacksSaid := over
#print axioms proved
end Go.Proofs.Ytgeanpnkllnipab.fixencPacks
namespace Go.Proofs.Ytgeanpnkllnipab
theorem fixencPacks_holds : Rows.FixencPacksSaid := fixencPacks.proved
end Go.Proofs.Ytgeanpnkllnipab
end
