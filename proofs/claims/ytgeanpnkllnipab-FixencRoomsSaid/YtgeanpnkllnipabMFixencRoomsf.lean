/- Proved: the law FixencRooms of layer 7: how far the first one is moved so that any sums fit is the document's; for every input, without a condition. -/
import Derived.Test.YtgeanpnkllnipabMFixencRoomse
import Derived.SizedLaws
import Derived.ChangeSlices
import Derived.Test.YtgeanpnkllnipabRows
import Derived.WalkKit
import Derived.ProofKit
import Derived.OpenShut
import Derived.ShutString
import Derived.ChangeOld
import Derived.Below
import Derived.Lib.SmallJoins
import Derived.ChangeArms
section
namespace Go.Proofs.Ytgeanpnkllnipab.Z
open Go.RowKit Go.Proofs.Ytgeanpnkllnipab.F Go.Proofs.YtgeanpnkllnipabW.PrintWords
set_option linter.unusedSimpArgs false
set_option linter.unusedVariables false
theorem awake_ev : Evt (fun k => windbreaklaw07_awake.f k) true := by
  have d101 : Dig (b64 : Int) [101] := dig_one (by omega) (by omega)
  have d1 : Dig (b64 : Int) [1] := dig_one (by omega) (by omega)
  have d100 : Dig (b64 : Int) [100] := dig_one (by omega) (by omega)
  have e1 : encV [101] true [1] = ([100], 0) := by
    have n1 : num [101] = 101 := num_one (by omega)
    have n2 : num [1] = 1 := num_one (by omega)
    have n3 : num [100] = 100 := num_one (by omega)
    unfold encV mayV intR halfV
    rw [n1, n2]
    have := limbs_num d100 (Can.one (by omega))
    rw [n3] at this
    rw [if_pos ⟨by decide, by decide⟩, if_pos (by decide), if_pos rfl, this]
  unfold windbreaklaw07_awake.f
  have h := fix_Encode_ev [101] true [1] (by simp [maxLen]) (by simp [maxLen]) d101 d1
  rw [e1] at h
  refine Evt.bind h ?_
  exact Evt.ite_pos rfl (Evt.ite_pos rfl (Evt.ite_pos (by decide) (Evt.pure _)))
def mulV (a b : List Int) : List Int × Int := if rightB a = true ∧ rightB b = true then toldV (num a * num b) else ([], 1)
theorem nat_Mul_ev (a b : List Int) (ha : a.length ≤ maxLen) (hb : b.length ≤ maxLen) (da : Dig (b64 : Int) a) (db : Dig (b64 : Int) b) : Evt (fun k => nat_Mul.f k a b) (mulV a b) := by
  unfold nat_Mul.f mulV
  rw [nat_right_eq _ (by intro l hl; simp at hl; rcases hl with rfl | rfl <;> assumption)]
  simp only [Option.bind_some, List.all_cons, List.all_nil, Bool.and_true, Bool.and_eq_true]
  by_cases h : rightB a = true ∧ rightB b = true
  · rw [if_pos h]
    refine Evt.ite_pos h ?_
    obtain ⟨h1, c1⟩ := (rightB_iff a).1 h.1
    obtain ⟨h2, c2⟩ := (rightB_iff b).1 h.2
    have e : nat_product.f a b = some (limbs (num a * num b)) := by
      unfold nat_product.f
      rw [if_pos (by simp only [dig_limbB da, dig_limbB db, Bool.and_true, Bool.and_eq_true, decide_eq_true_eq]; omega)]
    refine Evt.bind (Evt.of fun _ => e) ?_
    have hl : (limbs (num a * num b)).length ≤ 128 := by
      refine toD_len_le b64_two ?_
      have g1 := num_lt_p da h1
      have g2 := num_lt_p db h2
      have g3 := Nat.mul_lt_mul'' g1 g2
      rw [← Nat.pow_add] at g3
      exact g3
    have ht := nat_told_ev (limbs (num a * num b)) (by omega) (toD_dig b64_two _)
    rw [num_limbs] at ht
    exact Evt.bind ht (h := fun t _ => some (t.1, t.2)) (Evt.pure _)
  · rw [if_neg h]
    exact Evt.ite_neg h (Evt.pure _)
theorem mi_right_eq (a : Bool) (l : List Int) (b : Bool) (m : List Int) (hl : l.length ≤ maxLen) (hm : m.length ≤ maxLen) : modint_right.f [⟨a, l⟩, ⟨b, m⟩] = some (intR a l && intR b m) := by
  simp only [modint_right.f, modint_Right_eq a l hl, modint_Right_eq b m hm, Option.bind_some]
  cases intR a l <;> cases intR b m <;> simp
theorem mi_right_s {a b : Bool} {m n : Nat} (hm : m < b64 ^ 64) (hn : n < b64 ^ 64) (ha : a = true → m ≠ 0) (hb : b = true → n ≠ 0) : modint_right.f [⟨a, limbs m⟩, ⟨b, limbs n⟩] = some true := by
  rw [mi_right_eq _ _ _ _ (limbs_max hm) (limbs_max hn), intR_s hm ha, intR_s hn hb]
  rfl
theorem mi_From {a : Bool} {m : Nat} (h : m < b64 ^ 64) : modint_From.f a (limbs m) = some (ofI (sI a m)) := by
  rw [modint_From_eq a _ (limbs_le64 h), fromV_s h]
theorem strip_one {x : Int} (h0 : 0 ≤ x) (h1 : x < 18446744073709551616) : strip [x] = limbs x.toNat := by
  rw [strip_limbs (dig_one h0 h1), num_one h0]
theorem b64_lt_pow {m : Nat} (h : m < b64) : m < b64 ^ 64 := Nat.lt_of_lt_of_le h (Nat.le_self_pow (by decide) b64)
theorem mi_Of_ev {x : Int} (h0 : -9223372036854775808 ≤ x) (h1 : x < 9223372036854775808) : Evt (fun k => modint_Of.f k x) (ofI x) := by
  have hb : b64 = 18446744073709551616 := rfl
  unfold modint_Of.f
  by_cases h : x < 0
  · refine Evt.ite_pos h ?_
    have e : IntKind.u64.wrap (-(IntKind.u64.wrap x)) = ((x.natAbs : Nat) : Int) := by rw [wu64, wu64]; omega
    rw [e]
    refine Evt.bind (nat_Of_ev _) ?_
    rw [strip_one (by omega) (by omega), Int.toNat_natCast]
    refine (Evt.of (fun _ => ?_))
    rw [mi_From (b64_lt_pow (by omega))]
    simp only [Option.bind_some, sI, if_true]
    rw [show -((x.natAbs : Nat) : Int) = x by omega]
  · refine Evt.ite_neg h ?_
    have e : IntKind.u64.wrap x = ((x.natAbs : Nat) : Int) := by rw [wu64]; omega
    rw [e]
    refine Evt.bind (nat_Of_ev _) ?_
    rw [strip_one (by omega) (by omega), Int.toNat_natCast]
    refine (Evt.of (fun _ => ?_))
    rw [mi_From (b64_lt_pow (by omega))]
    simp only [Option.bind_some, sI]
    rw [if_neg (by simp), show ((x.natAbs : Nat) : Int) = x by omega]
theorem toldV_of {m : Nat} (h : m < b64 ^ 64) : toldV m = (limbs m, 0) := by
  unfold toldV
  rw [if_pos h]
theorem mi_Add_s {a b : Bool} {m n : Nat} (hx : m < b64 ^ 30) (hy : n < b64 ^ 30) (ha : a = true → m ≠ 0) (hb : b = true → n ≠ 0) : Evt (fun k => modint_Add.f k a (limbs m) b (limbs n)) ((ofI (sI a m + sI b n)).1, (ofI (sI a m + sI b n)).2, 0) := by
  unfold modint_Add.f
  have hs := SmI.sum hx hy
  have hm : m < b64 ^ 64 := by omega
  have hn : n < b64 ^ 64 := by omega
  have rm := right_limbs' hm
  have rn := right_limbs' hn
  refine Evt.bind (Evt.of (fun _ => mi_right_s hm hn ha hb)) (Evt.ite_pos rfl ?_)
  by_cases hab : a = b
  · subst hab
    refine Evt.ite_pos (by simp) ?_
    have h1 := nat_Add_ev (limbs m) (limbs n) (limbs_max hm) (limbs_max hn) (dig_limbs' _) (dig_limbs' _)
    unfold addV at h1
    rw [if_pos ⟨rm, rn⟩, num_limbs, num_limbs, toldV_of hs] at h1
    refine Evt.bind h1 (Evt.of (fun _ => ?_))
    rw [mi_From hs, sI_add]
    rfl
  · refine Evt.ite_neg (by simpa using hab) ?_
    have h1 := nat_Cmp_ev (limbs m) (limbs n) (limbs_max hm) (limbs_max hn) (dig_limbs' _) (dig_limbs' _)
    unfold cmpV at h1
    rw [if_pos ⟨rm, rn⟩, num_limbs, num_limbs] at h1
    refine Evt.bind h1 ?_
    by_cases hlt : m < n
    · refine Evt.ite_pos (by unfold cmpN; rw [if_pos hlt]; omega) ?_
      have h2 := nat_Sub_ev (limbs n) (limbs m) (limbs_max hn) (limbs_max hm) (dig_limbs' _) (dig_limbs' _)
      unfold subV at h2
      rw [if_pos ⟨rn, rm⟩, num_limbs, num_limbs, if_neg (by omega)] at h2
      refine Evt.bind h2 (Evt.of (fun _ => ?_))
      rw [mi_From (Nat.lt_of_le_of_lt (Nat.sub_le _ _) hn), sI_sub (b := a) (fun e => hab e.symm) (by omega), Int.add_comm]
      rfl
    · refine Evt.ite_neg (by unfold cmpN; rw [if_neg hlt]; split <;> omega) ?_
      have h2 := nat_Sub_ev (limbs m) (limbs n) (limbs_max hm) (limbs_max hn) (dig_limbs' _) (dig_limbs' _)
      unfold subV at h2
      rw [if_pos ⟨rm, rn⟩, num_limbs, num_limbs, if_neg (by omega)] at h2
      refine Evt.bind h2 (Evt.of (fun _ => ?_))
      rw [mi_From (Nat.lt_of_le_of_lt (Nat.sub_le _ _) hm), sI_sub (b := b) hab (by omega)]
      rfl
theorem mi_Add_ev {x y : Int} (hx : SmI x) (hy : SmI y) : Evt (fun k => modint_Add.f k (ofI x).1 (ofI x).2 (ofI y).1 (ofI y).2) ((ofI (x + y)).1, (ofI (x + y)).2, 0) := by
  have h := mi_Add_s (a := decide (x < 0)) (b := decide (y < 0)) hx hy neg_abs neg_abs
  rw [sI_of, sI_of] at h
  exact h
theorem mi_Neg_eq {x : Int} (hx : SmI x) : modint_Neg.f (ofI x).1 (ofI x).2 = some (ofI (-x)) := by
  unfold modint_Neg.f
  rw [modint_Right_eq (ofI x).1 (ofI x).2 (limbs_max hx.lt), intR_of hx.lt]
  simp only [Option.bind_some, if_true]
  have e : sI (!(ofI x).1) x.natAbs = -x := by
    have h := sI_of x
    unfold sI at h ⊢
    show (if (!decide (x < 0)) = true then _ else _) = _
    cases hd : decide (x < 0) <;> rw [hd] at h <;> simp at h ⊢ <;> omega
  have h : modint_From.f (!(ofI x).1) (ofI x).2 = some (ofI (sI (!(ofI x).1) x.natAbs)) := mi_From hx.lt
  rw [h, e]
  rfl
theorem SmI.neg {x : Int} (h : SmI x) : SmI (-x) := by
  unfold SmI at h ⊢
  rwa [Int.natAbs_neg]
theorem mi_Sub_ev {x y : Int} (hx : SmI x) (hy : SmI y) : Evt (fun k => modint_Sub.f k (ofI x).1 (ofI x).2 (ofI y).1 (ofI y).2) ((ofI (x - y)).1, (ofI (x - y)).2, 0) := by
  unfold modint_Sub.f
  refine Evt.bind (Evt.of (fun _ => mi_right_s (a := decide (x < 0)) (b := decide (y < 0)) hx.lt hy.lt neg_abs neg_abs)) (Evt.ite_pos rfl ?_)
  refine Evt.bind (Evt.of (fun _ => mi_Neg_eq hy)) ?_
  exact Evt.bind (mi_Add_ev hx hy.neg) (h := fun t _ => some (t.1, t.2.1, t.2.2)) (Evt.pure _)
theorem mi_Mul_ev {x y : Int} (hx : SmI x) (hy : SmI y) : Evt (fun k => modint_Mul.f k (ofI x).1 (ofI x).2 (ofI y).1 (ofI y).2) ((ofI (x * y)).1, (ofI (x * y)).2, 0) := by
  unfold modint_Mul.f
  refine Evt.bind (Evt.of (fun _ => mi_right_s (a := decide (x < 0)) (b := decide (y < 0)) hx.lt hy.lt neg_abs neg_abs)) (Evt.ite_pos rfl ?_)
  have hs := SmI.prod hx hy
  have h1 := nat_Mul_ev (limbs x.natAbs) (limbs y.natAbs) (limbs_max hx.lt) (limbs_max hy.lt) (dig_limbs' _) (dig_limbs' _)
  unfold mulV at h1
  rw [if_pos ⟨right_limbs' hx.lt, right_limbs' hy.lt⟩, num_limbs, num_limbs, toldV_of hs] at h1
  refine Evt.bind h1 (Evt.of (fun _ => ?_))
  rw [mi_From hs]
  have e : sI ((ofI x).1 != (ofI y).1) (x.natAbs * y.natAbs) = x * y := by
    rw [sI_mul]
    show sI (decide (x < 0)) x.natAbs * sI (decide (y < 0)) y.natAbs = _
    rw [sI_of, sI_of]
  rw [e]
  rfl
theorem times2_ev {x : Int} {s : Nat} (hx : SmI x) (hs : s ≤ 64) : Evt (fun k => fixenc_times2.f k (ofI x).1 (ofI x).2 (s : Int)) (ofI (x * 2 ^ s)) := by
  unfold fixenc_times2.f
  have h2 : 2 ^ s ≤ b64 ^ 1 := pow2_le_b64 (by omega)
  have h3 : 2 ^ s < b64 ^ 30 := Nat.lt_of_le_of_lt h2 ((Nat.pow_lt_pow_iff_right (by decide)).2 (by decide))
  have hp := SmI.prod hx h3
  have h1 := nat_Shl_ev (limbs x.natAbs) (s : Int) (limbs_max hx.lt) (dig_limbs' _)
  unfold shlV at h1
  rw [if_pos ⟨right_limbs' hx.lt, by omega⟩, num_limbs, Int.toNat_natCast] at h1
  have h4 : (if (limbs x.natAbs).length = 0 then (([] : List Int), (0 : Int)) else if 4096 < (s : Int) then ([], 4) else toldV (x.natAbs * 2 ^ s)) = (limbs (x.natAbs * 2 ^ s), 0) := by
    by_cases h0 : x.natAbs = 0
    · rw [if_pos ((limbs_nil_iff _).2 h0), h0, Nat.zero_mul, limbs_zero]
    · rw [if_neg (fun e => h0 ((limbs_nil_iff _).1 e)), if_neg (by omega), toldV_of hp]
  rw [h4] at h1
  refine Evt.bind h1 (Evt.of (fun _ => ?_))
  rw [mi_From hp, sI_pow]
  have e : sI (ofI x).1 x.natAbs = x := sI_of x
  rw [e]
  rfl
theorem bl_big {m j : Nat} (h : 2 ^ j ≤ m) : j < bl m := (Nat.pow_lt_pow_iff_right (a := 2) (by decide)).1 (Nat.lt_of_le_of_lt h (bl_lt m))
theorem fix_Room_ev (n : List Int) (r m w : Int) (hn : n.length ≤ maxLen) (dn : Dig (b64 : Int) n) (hr0 : -9223372036854775808 ≤ r) (hr1 : r < 9223372036854775808) (hm0 : -9223372036854775808 ≤ m) (hm1 : m < 9223372036854775808) (hw0 : -9223372036854775808 ≤ w) (hw1 : w < 9223372036854775808) : Evt (fun k => fixenc_Room.f k n r m w) (roomV n r m w) := by
  unfold fixenc_Room.f roomV
  refine Evt.bind (may_ev n hn dn) ?_
  have J1 : ∀ (q : Nat) (b : Bool), mayV n = true → (b = false → q ≤ 62) → Evt (fun k => fixenc_Room.j1 k n r m (q : Int) b) (if b = true then (0, 12) else (if ((r * m + 1) * 2 ^ q - 1).natAbs ≤ halfV n then ((q : Int), 0) else (0, 12))) := by
    intro q b hm hb
    refine Evt.succ ?_
    simp only [fixenc_Room.j1]
    refine Evt.cond (fun _ => Evt.pure _) (fun hc => ?_)
    have hq := hb (by simpa using hc)
    have zr := Sz.i64 hr0 hr1
    have zm := Sz.i64 hm0 hm1
    have z1 := Sz.i64 (x := 1) (by omega) (by omega)
    have zp := Sz.mul zr zm
    have zs := Sz.add zp (z1.mono (show 1 ≤ 1 + 1 by omega))
    have zt := Sz.mul zs (Sz.pow (s := q) (by omega))
    have zu := Sz.sub zt (z1.mono (show 1 ≤ 1 + 1 + 1 + 2 by omega))
    refine Evt.bind (mi_Of_ev hr0 hr1) ?_
    refine Evt.bind (mi_Of_ev hm0 hm1) ?_
    refine Evt.bind (mi_Mul_ev (zr.smI (by omega)) (zm.smI (by omega))) ?_
    refine Evt.bind (mi_Of_ev (x := 1) (by omega) (by omega)) ?_
    refine Evt.bind (mi_Add_ev (zp.smI (by omega)) (z1.smI (by omega))) ?_
    refine Evt.bind (times2_ev (zs.smI (by omega)) (by omega)) ?_
    refine Evt.bind (mi_Of_ev (x := 1) (by omega) (by omega)) ?_
    refine Evt.bind (mi_Sub_ev (zt.smI (by omega)) (z1.smI (by omega))) ?_
    have hf := fits_ev n (ofI ((r * m + 1) * 2 ^ q - 1)).2 dn (dig_limbs' _) hm (right_limbs' (zu.smI (by omega)).lt)
    have en : num (ofI ((r * m + 1) * 2 ^ q - 1)).2 = ((r * m + 1) * 2 ^ q - 1).natAbs := num_limbs _
    rw [en] at hf
    refine Evt.bind hf ?_
    exact Evt.cond' (fun h => by rw [if_pos (of_decide_eq_true h)]; exact Evt.pure _) (fun h => by rw [if_neg (by simpa using h)]; exact Evt.pure _)
  have J : ∀ b : Bool, (b = false → mayV n = true ∧ 1 ≤ r ∧ 1 ≤ m ∧ 1 ≤ w) → Evt (fun k => fixenc_Room.j0 k n r m w b) (if b = true then (0, 1) else (if bl (r * w).toNat ≤ 62 then (if ((r * m + 1) * 2 ^ bl (r * w).toNat - 1).natAbs ≤ halfV n then ((bl (r * w).toNat : Int), 0) else (0, 12)) else (0, 12))) := by
    intro b hb
    refine Evt.succ ?_
    simp only [fixenc_Room.j0]
    refine Evt.cond (fun _ => Evt.pure _) (fun hc => ?_)
    obtain ⟨hm, h1, h2, h3⟩ := hb (by simpa using hc)
    rw [wu64_of (x := r) (by omega) (by omega), wu64_of (x := w) (by omega) (by omega)]
    obtain ⟨hi, lo, e1, e2, e3, e4⟩ := bits_Mul64_eq (x := r) (y := w) ⟨by omega, by omega⟩ ⟨by omega, by omega⟩
    refine Evt.bind (Evt.of (fun _ => e1)) ?_
    refine Evt.bind (bits_Len64_ev e4.1 e4.2) ?_
    by_cases hh : hi > 0
    · refine Evt.ite_pos hh ((J1 _ true hm (by simp)).congr (fun k => rfl) ?_)
      have h64 : 64 < bl (r * w).toNat := bl_big (by omega)
      rw [if_pos rfl, if_neg (by omega)]
    · have hi0 : hi = 0 := by omega
      have elo : lo = r * w := by rw [hi0] at e2; omega
      rw [elo]
      refine Evt.ite_neg hh ((J1 _ _ hm (fun e => by have h' := of_decide_eq_false e; omega)).congr (fun k => rfl) ?_)
      by_cases hq : bl (r * w).toNat ≤ 62
      · rw [if_neg (by simp; omega), if_pos hq]
      · rw [if_pos (by simp; omega), if_neg hq]
  cases hm : mayV n with
  | false =>
    refine Evt.ite_neg (by simp) ((J true (by simp)).congr (fun k => rfl) ?_)
    simp
  | true =>
    refine Evt.ite_pos rfl ?_
    by_cases h1 : r < 1
    · refine Evt.ite_pos h1 ((J true (by simp)).congr (fun k => rfl) ?_)
      rw [if_pos rfl, if_neg (fun e => absurd e.2.1 (by omega))]
    · refine Evt.ite_neg h1 ?_
      by_cases h2 : m < 1
      · refine Evt.ite_pos h2 ((J true (by simp)).congr (fun k => rfl) ?_)
        rw [if_pos rfl, if_neg (fun e => absurd e.2.2.1 (by omega))]
      · refine Evt.ite_neg h2 ((J _ (fun e => ⟨hm, by omega, by omega, by have : ¬ w < 1 := by simpa using e
                                                                          omega⟩)).congr (fun k => rfl) ?_)
        by_cases h3 : w < 1
        · rw [if_pos (by simpa using h3), if_neg (fun e => absurd e.2.2.2 (by omega))]
        · rw [if_neg (by simpa using h3), if_pos (show true = true ∧ 1 ≤ r ∧ 1 ≤ m ∧ 1 ≤ w from ⟨rfl, by omega, by omega, by omega⟩)]
def dg (x : Int) : List Int := [x % 65536, x / 65536 % 65536, x / 65536 / 65536 % 65536, x / 65536 / 65536 / 65536 % 65536]
theorem wdiv {x : Int} (h0 : 0 ≤ x) (h1 : x < 18446744073709551616) (c : Int) (hc : 0 < c) : IntKind.u64.wrap (Int.tdiv x c) = x / c := by
  rw [Int.tdiv_eq_ediv_of_nonneg h0]
  have h2 := Int.ediv_nonneg h0 (Int.le_of_lt hc)
  have h3 := Int.ediv_le_self c h0
  exact wu64_of h2 (by omega)
theorem in_step (a d : List Int) (i : Nat) (x : Int) (hx : 0 ≤ x ∧ x < 18446744073709551616) (hd : d.length ≤ 1000000) (hi : i ≤ 1000000) {r : List Int}
    (h : Evt (fun k => windbreakref01_In.l0 k a (d ++ dg x) ((i + 1 : Nat) : Int)) r) : Evt (fun k => windbreakref01_In.l1 k a d (i : Int) x 0) r := by
  refine Evt.succ ?_
  simp only [windbreakref01_In.l1]
  refine Evt.ite_pos (by omega) (Evt.ite_pos (by omega) ?_)
  rw [Int.tmod_eq_emod_of_nonneg hx.1, wdiv hx.1 hx.2 65536 (by omega), w64 (by omega) (by omega)]
  refine Evt.succ ?_
  simp only [windbreakref01_In.l1]
  refine Evt.ite_pos (by omega) (Evt.ite_pos (by simp; omega) ?_)
  rw [Int.tmod_eq_emod_of_nonneg (show 0 ≤ x / 65536 by omega), wdiv (show 0 ≤ x / 65536 by omega) (by omega) 65536 (by omega), w64 (by omega) (by omega)]
  refine Evt.succ ?_
  simp only [windbreakref01_In.l1]
  refine Evt.ite_pos (by omega) (Evt.ite_pos (by simp; omega) ?_)
  rw [Int.tmod_eq_emod_of_nonneg (show 0 ≤ x / 65536 / 65536 by omega), wdiv (show 0 ≤ x / 65536 / 65536 by omega) (by omega) 65536 (by omega), w64 (by omega) (by omega)]
  refine Evt.succ ?_
  simp only [windbreakref01_In.l1]
  refine Evt.ite_pos (by omega) (Evt.ite_pos (by simp; omega) ?_)
  rw [Int.tmod_eq_emod_of_nonneg (show 0 ≤ x / 65536 / 65536 / 65536 by omega), wdiv (show 0 ≤ x / 65536 / 65536 / 65536 by omega) (by omega) 65536 (by omega), w64 (by omega) (by omega)]
  refine Evt.succ ?_
  simp only [windbreakref01_In.l1]
  refine Evt.ite_neg (by omega) ?_
  rw [w64 (by omega) (by omega)]
  refine h.congr (fun k => ?_) rfl
  simp [dg]
theorem in_loop (a : List Int) (ha : a.length ≤ 1000) (hd : Dig (b64 : Int) a) (n : Nat) : ∀ i : Nat, i ≤ a.length → a.length - i = n → Evt (fun k => windbreakref01_In.l0 k a ((a.take i).flatMap dg) (i : Int)) (strip (a.flatMap dg)) := by
  have hlen : ∀ l : List Int, (l.flatMap dg).length = 4 * l.length := by
    intro l
    induction l with
    | nil => rfl
    | cons x l ih => simp only [List.flatMap_cons, List.length_append, ih, dg, List.length_cons, List.length_nil]; omega
  induction n with
  | zero =>
    intro i hi hn
    refine Evt.succ ?_
    simp only [windbreakref01_In.l0]
    refine Evt.ite_neg (by omega) ?_
    rw [List.take_of_length_le (by omega)]
    refine Evt.bind (windbreakref01_cut_ev _ (by rw [hlen]; simp [maxLen]; omega)) (h := fun t _ => some t) (Evt.pure _)
  | succ n ih =>
    intro i hi hn
    have hlt : i < a.length := by omega
    refine Evt.succ ?_
    simp only [windbreakref01_In.l0]
    refine Evt.ite_pos (by omega) (Evt.ite_pos (by omega) ?_)
    have hx : rd a (i : Int) = a[i] := by simp [rd_nat, hlt]
    have hr := hd a[i] (List.getElem_mem hlt)
    rw [hx]
    refine in_step a _ i _ hr (by rw [hlen, List.length_take]; omega) (by omega) ?_
    have := ih (i + 1) (by omega) (by omega)
    rw [List.take_succ_eq_append_getElem hlt, List.flatMap_append] at this
    refine this.congr (fun k => ?_) rfl
    simp
theorem ref_In_ev (a : List Int) (ha : a.length ≤ 1000) (hd : Dig (b64 : Int) a) : Evt (fun k => windbreakref01_In.f k a) (digs (num a)) := by
  have h := in_loop a ha hd a.length 0 (Nat.zero_le _) (by omega)
  obtain ⟨m, hm, _, hv, he⟩ := val_base a hd
  refine h.congr (fun k => rfl) ?_
  have e2 : a.flatMap dg = m := he.symm
  rw [e2, strip_digs hm]
  unfold num16 num
  rw [hv]
theorem mul_lt {x y : Int} (hx : 0 ≤ x ∧ x ≤ 65535) (hy : 0 ≤ y ∧ y ≤ 65535) : 0 ≤ x * y ∧ x * y ≤ 4294836225 := by
  have h1 := Int.mul_nonneg hx.1 hy.1
  have h2 : x * y ≤ 65535 * y := Int.mul_le_mul_of_nonneg_right hx.2 hy.1
  omega
theorem ref_mul_inner (a b : List Int) (da : Dig (b16 : Int) a) (db : Dig (b16 : Int) b) (ha : a.length ≤ 100000) (hb : b.length ≤ 100000) (i n : Nat) (hi : i < a.length) (hn : a.length - (i + 1) = n) {r : List Int}
    (next : ∀ p : List Int, p.length = i + 1 + b.length → Dig (b16 : Int) p → val (b16 : Int) p = val (b16 : Int) (a.take (i + 1)) * val (b16 : Int) b → Evt (fun k => windbreakref01_mul.l0 k a b (p ++ List.replicate n 0) ((i + 1 : Nat) : Int)) r) (m : Nat) :
    ∀ (j : Nat) (p : List Int) (c : Int), b.length - j = m → j ≤ b.length → p.length = i + b.length → Dig (b16 : Int) p → 0 ≤ c ∧ c < (b16 : Int) →
      val (b16 : Int) p + c * (b16 : Int) ^ (i + j) = val (b16 : Int) (a.take i) * val (b16 : Int) b + (b16 : Int) ^ i * a[i] * val (b16 : Int) (b.take j) →
      Evt (fun k => windbreakref01_mul.l1 k a b (p ++ List.replicate (n + 1) 0) (i : Int) c (j : Int)) r := by
  induction m with
  | zero =>
    intro j p c hj hjl hp dp hc hv
    refine Evt.succ ?_
    simp only [windbreakref01_mul.l1]
    refine Evt.ite_neg (by omega) ?_
    rw [w64 (show -9223372036854775808 ≤ (i : Int) + (b.length : Int) by omega) (by omega)]
    refine Evt.ite_pos (by omega) (Evt.ite_pos (by simp; omega) ?_)
    rw [w64 (by omega) (by omega), show ((i : Int) + (b.length : Int)).toNat = p.length from by omega, List.replicate_succ, set_at]
    have hj2 : j = b.length := by omega
    subst hj2
    rw [List.take_length] at hv
    refine (next (p ++ [c]) (by simp; omega) (Dig.append.2 ⟨dp, Dig.cons.2 ⟨hc, Dig.nil⟩⟩) ?_).congr (fun k => by rw [List.append_assoc]; rfl) rfl
    rw [val_append, hp, val_take_step (b16 : Int) a i hi]
    simp only [val, Int.mul_zero, Int.add_zero]
    generalize val (b16 : Int) (a.take i) = va at *
    generalize val (b16 : Int) b = vb at *
    generalize (b16 : Int) ^ (i + b.length) = P at *
    generalize (b16 : Int) ^ i = Q at *
    have : (va + Q * a[i]) * vb = va * vb + Q * a[i] * vb := by grind
    rw [this, ← hv, Int.mul_comm P c]
  | succ m ih =>
    intro j p c hj hjl hp dp hc hv
    have hjlt : j < b.length := by omega
    refine Evt.succ ?_
    simp only [windbreakref01_mul.l1]
    refine Evt.ite_pos (by omega) ?_
    rw [w64 (show -9223372036854775808 ≤ (i : Int) + (j : Int) by omega) (by omega)]
    refine Evt.ite_pos (by omega) (Evt.ite_pos (by simp; omega) (Evt.ite_pos (by omega) (Evt.ite_pos (by omega) (Evt.ite_pos (by omega) ?_))))
    have hx : rd a (i : Int) = a[i] := by simp [rd_nat, hi]
    have hy : rd b (j : Int) = b[j] := by simp [rd_nat, hjlt]
    have hz : rd (p ++ List.replicate (n + 1) 0) ((i : Int) + (j : Int)) = p.getD (i + j) 0 := by
      rw [rd_getD, show ((i : Int) + (j : Int)).toNat = i + j from by omega, getD_append_left (by omega)]
    have rx := da a[i] (List.getElem_mem hi)
    have ry := db b[j] (List.getElem_mem hjlt)
    have rz := dp.getD b16_pos (i + j)
    rw [hx, hy, hz, show ((i : Int) + (j : Int)).toNat = i + j from by omega, set_append_left (by omega)]
    have hB : (b16 : Int) = 65536 := rfl
    rw [hB] at rx ry rz hc
    obtain ⟨m1, m2⟩ := mul_lt (show 0 ≤ a[i] ∧ a[i] ≤ 65535 by omega) (show 0 ≤ b[j] ∧ b[j] ≤ 65535 by omega)
    have hv2 := val_set (b16 : Int) p (i + j) ((p.getD (i + j) 0 + a[i] * b[j] + c) % 65536) (by omega)
    have hvt := val_take_step (b16 : Int) b j hjlt
    generalize hxy : a[i] * b[j] = z at *
    rw [wu64_of m1 (by omega), wu64_of (show 0 ≤ p.getD (i + j) 0 + z by omega) (by omega), wu64_of (show 0 ≤ p.getD (i + j) 0 + z + c by omega) (by omega), Int.tmod_eq_emod_of_nonneg (by omega), Int.tdiv_eq_ediv_of_nonneg (by omega), wu64_of (by omega) (by omega), w64 (by omega) (by omega)]
    refine (ih (j + 1) (p.set (i + j) ((p.getD (i + j) 0 + z + c) % 65536)) ((p.getD (i + j) 0 + z + c) / 65536) (by omega) (by omega) (by simp; omega) (dp.set _ (by rw [hB]; omega)) (by rw [hB]; omega) ?_).congr (fun k => rfl) rfl
    rw [hv2, hvt]
    have hdm := Int.emod_add_mul_ediv (p.getD (i + j) 0 + z + c) 65536
    have hP : (b16 : Int) ^ (i + (j + 1)) = (b16 : Int) ^ (i + j) * 65536 := by rw [← Nat.add_assoc, Int.pow_succ]; rfl
    have hQ : (b16 : Int) ^ (i + j) = (b16 : Int) ^ i * (b16 : Int) ^ j := Int.pow_add ..
    rw [hP]
    generalize (p.getD (i + j) 0 + z + c) % 65536 = u at *
    generalize (p.getD (i + j) 0 + z + c) / 65536 = q at *
    generalize p.getD (i + j) 0 = y0 at *
    generalize val (b16 : Int) (a.take i) = va at *
    generalize val (b16 : Int) (b.take j) = vt at *
    generalize val (b16 : Int) b = vb at *
    generalize val (b16 : Int) p = vp at *
    generalize (b16 : Int) ^ (i + j) = P at *
    generalize (b16 : Int) ^ i = Q at *
    generalize (b16 : Int) ^ j = R at *
    subst hQ
    generalize a[i] = ai at *
    generalize b[j] = bj at *
    subst hxy
    have e1 : u = y0 + ai * bj + c - 65536 * q := by omega
    rw [e1]
    have e2 : vp = va * vb + Q * ai * vt - c * (Q * R) := by omega
    rw [e2]
    grind
theorem ref_mul_loop (a b : List Int) (da : Dig (b16 : Int) a) (db : Dig (b16 : Int) b) (ha : a.length ≤ 100000) (hb : b.length ≤ 100000) (n : Nat) :
    ∀ (i : Nat) (p : List Int), a.length - i = n → i ≤ a.length → p.length = i + b.length → Dig (b16 : Int) p → val (b16 : Int) p = val (b16 : Int) (a.take i) * val (b16 : Int) b →
      Evt (fun k => windbreakref01_mul.l0 k a b (p ++ List.replicate n 0) (i : Int)) (digs (num16 a * num16 b)) := by
  induction n with
  | zero =>
    intro i p hn hi hp dp hv
    refine Evt.succ ?_
    simp only [windbreakref01_mul.l0]
    refine Evt.ite_neg (by omega) ?_
    have h := windbreakref01_cut_ev (p ++ List.replicate 0 0) (by simp [maxLen]; omega)
    rw [List.replicate_zero, List.append_nil, strip_digs dp] at h
    have e : num16 p = num16 a * num16 b := by
      rw [List.take_of_length_le (by omega)] at hv
      have h1 := num16_val dp
      have h2 := num16_val da
      have h3 := num16_val db
      have : ((num16 p : Nat) : Int) = ((num16 a * num16 b : Nat) : Int) := by rw [h1, hv, Int.natCast_mul, h2, h3]
      omega
    rw [e] at h
    refine (Evt.bind h (h := fun t _ => some t) (Evt.pure _)).congr (fun k => by simp) rfl
  | succ n ih =>
    intro i p hn hi hp dp hv
    refine Evt.succ ?_
    simp only [windbreakref01_mul.l0]
    refine Evt.ite_pos (by omega) ?_
    refine ref_mul_inner a b da db ha hb i n (by omega) (by omega) (fun q h1 h2 h3 => ih (i + 1) q (by omega) (by omega) h1 h2 h3) b.length 0 p 0 (by omega) (by omega) hp dp (by decide) ?_
    simp [hv, val]
theorem ref_mul_ev (a b : List Int) (da : Dig (b16 : Int) a) (db : Dig (b16 : Int) b) (ha : a.length ≤ 100000) (hb : b.length ≤ 100000) : Evt (fun k => windbreakref01_mul.f k a b) (digs (num16 a * num16 b)) := by
  unfold windbreakref01_mul.f
  rw [w64 (show -9223372036854775808 ≤ (a.length : Int) + (b.length : Int) by omega) (by omega)]
  refine Evt.ite_pos (by omega) (Evt.ite_pos (by omega) ?_)
  refine (ref_mul_loop a b da db ha hb a.length 0 (List.replicate b.length 0) (by omega) (by omega) (by simp) (Dig.replicate b16_pos _) (by simp [val_replicate, val])).congr (fun k => ?_) rfl
  rw [show ((a.length : Int) + (b.length : Int)).toNat = b.length + a.length from by omega, List.replicate_append_replicate]
  rfl
theorem strip_split (l : List Int) : ∃ n, l = strip l ++ List.replicate n 0 := by
  induction l with
  | nil => exact ⟨0, rfl⟩
  | cons d l ih =>
    obtain ⟨n, hn⟩ := ih
    simp only [strip]
    by_cases h : strip l = []
    · rw [if_pos h]
      rw [h, List.nil_append] at hn
      by_cases h0 : d = 0
      · rw [if_pos h0]
        refine ⟨n + 1, ?_⟩
        rw [h0, List.replicate_succ, List.nil_append, ← hn]
      · rw [if_neg h0]
        refine ⟨n, ?_⟩
        rw [List.singleton_append, ← hn]
    · rw [if_neg h]
      refine ⟨n, ?_⟩
      rw [List.cons_append, ← hn]
theorem can_of_val {B : Nat} (hB : 2 ≤ B) {l : List Int} (h : Dig (B : Int) l) (hv : l ≠ [] → (B : Int) ^ (l.length - 1) ≤ val (B : Int) l) : Can l := by
  by_cases e : l = []
  · subst e; exact Can.nil
  · have h1 := hv e
    obtain ⟨n, hn⟩ := strip_split l
    have h2 := val_lt (show (0 : Int) < (B : Int) by omega) (strip_dig h)
    rw [strip_val] at h2
    have h3 : l.length = (strip l).length + n := by
      have := congrArg List.length hn
      simpa using this
    have h4 : n = 0 := by
      by_cases hn0 : n = 0
      · exact hn0
      · have := pow_mono (show (0 : Int) < (B : Int) by omega) (show (strip l).length ≤ l.length - 1 by omega)
        omega
    subst h4
    rw [List.replicate_zero, List.append_nil] at hn
    rw [hn]
    exact strip_can l
def grp (d : List Int) : Int := d.getD 0 0 + 65536 * (d.getD 1 0 + 65536 * (d.getD 2 0 + 65536 * d.getD 3 0))
def outN : Nat → List Int → List Int
  | 0, _ => []
  | n + 1, d => grp d :: outN n (d.drop 4)
theorem grp_range {d : List Int} (h : Dig (b16 : Int) d) : 0 ≤ grp d ∧ grp d < (b64 : Int) := by
  have h0 := h.getD b16_pos 0
  have h1 := h.getD b16_pos 1
  have h2 := h.getD b16_pos 2
  have h3 := h.getD b16_pos 3
  unfold grp
  simp only [b16, b64] at *
  omega
theorem val_four (d : List Int) : val (b16 : Int) d = grp d + (b64 : Int) * val (b16 : Int) (d.drop 4) := by
  unfold grp
  simp only [b16, b64]
  match d with
  | [] => simp [val]
  | [a] => simp [val]
  | [a, b] => simp [val]
  | [a, b, c] => simp [val]
  | a :: b :: c :: e :: d => simp [val]; omega
theorem outN_facts (n : Nat) : ∀ d : List Int, Dig (b16 : Int) d → d.length ≤ 4 * n → Dig (b64 : Int) (outN n d) ∧ val (b64 : Int) (outN n d) = val (b16 : Int) d ∧ (outN n d).length = n := by
  induction n with
  | zero =>
    intro d _ h
    have : d = [] := List.length_eq_zero_iff.1 (by omega)
    subst this
    exact ⟨Dig.nil, rfl, rfl⟩
  | succ n ih =>
    intro d hd h
    obtain ⟨i1, i2, i3⟩ := ih (d.drop 4) (hd.drop 4) (by simp; omega)
    refine ⟨Dig.cons.2 ⟨grp_range hd, i1⟩, ?_, by simp [outN, i3]⟩
    rw [val_four d]
    simp only [outN, val, i2]
theorem out_limbs (v : Nat) : outN (((digs v).length + 3) / 4) (digs v) = limbs v := by
  obtain ⟨f1, f2, f3⟩ := outN_facts (((digs v).length + 3) / 4) (digs v) (toD_dig b16_two v) (by omega)
  rw [val_toD b16_two] at f2
  have hc : Can (outN (((digs v).length + 3) / 4) (digs v)) := by
    refine can_of_val b64_two f1 (fun hne => ?_)
    rw [f2, f3, b64_pow, pow_cast, ← Nat.pow_mul]
    have hl : 0 < ((digs v).length + 3) / 4 := by rw [← f3]; exact List.length_pos_iff.2 hne
    have hd : digs v ≠ [] := by intro e; rw [e] at hl; simp at hl
    have h1 := val_pos b16_pos (toD_dig b16_two v) (toD_can b16_two v) hd
    rw [val_toD b16_two, pow_cast] at h1
    have h2 : b16 ^ (4 * (((digs v).length + 3) / 4 - 1)) ≤ b16 ^ ((digs v).length - 1) := Nat.pow_le_pow_right (by decide) (by omega)
    exact Int.le_trans (Int.ofNat_le.2 h2) h1
  have := limbs_num f1 hc
  rw [← this]
  unfold num
  rw [f2]
  rfl
theorem out_inner (d acc : List Int) (i : Nat) (hd : Dig (b16 : Int) d) (hacc : acc.length ≤ 1000000) (hi : i ≤ 4000000) {r : List Int × Bool}
    (h : Evt (fun k => windbreakref01_Out.l0 k d (acc ++ [grp (d.drop i)]) ((i + 4 : Nat) : Int)) r) : Evt (fun k => windbreakref01_Out.l1 k d acc (i : Int) 0 3) r := by
  have step : ∀ (x : Int) (j : Nat), j ≤ 3 → 0 ≤ x → x * 65536 + 65535 < 18446744073709551616 →
      Evt (fun k => windbreakref01_Out.l1 k d acc (i : Int) (x * 65536 + (d.drop i).getD j 0) ((j : Int) - 1)) r →
      Evt (fun k => windbreakref01_Out.l1 k d acc (i : Int) x (j : Int)) r := by
    intro x j hj hx hx2 hs
    have hdig := (hd.drop i).getD b16_pos j
    simp only [b16] at hdig
    refine Evt.succ ?_
    simp only [windbreakref01_Out.l1]
    refine Evt.ite_pos (by omega) ?_
    rw [w64 (show -9223372036854775808 ≤ (i : Int) + (j : Int) by omega) (by omega), w64 (show -9223372036854775808 ≤ (j : Int) - 1 by omega) (by omega), wu64_of (show 0 ≤ x * 65536 by omega) (by omega)]
    by_cases hlt : i + j < d.length
    · refine Evt.ite_pos (by omega) (Evt.ite_pos (by omega) ?_)
      have e : rd d ((i : Int) + (j : Int)) = (d.drop i).getD j 0 := by
        rw [rd_getD, show ((i : Int) + (j : Int)).toNat = i + j from by omega]
        simp [List.getD_eq_getElem?_getD]
      rw [e, wu64_of (by omega) (by omega)]
      exact hs
    · refine Evt.ite_neg (by omega) ?_
      have e : (d.drop i).getD j 0 = 0 := by
        simp [List.getD_eq_getElem?_getD, List.getElem?_eq_none (by omega : d.length ≤ i + j)]
      rw [e, Int.add_zero] at hs
      exact hs
  have h0 := (hd.drop i).getD b16_pos 0
  have h1 := (hd.drop i).getD b16_pos 1
  have h2 := (hd.drop i).getD b16_pos 2
  have h3 := (hd.drop i).getD b16_pos 3
  simp only [b16] at h0 h1 h2 h3
  refine step 0 3 (by omega) (by omega) (by omega) ?_
  refine (step (0 * 65536 + (d.drop i).getD 3 0) 2 (by omega) (by omega) (by omega) ?_).congr (fun k => rfl) rfl
  refine (step ((0 * 65536 + (d.drop i).getD 3 0) * 65536 + (d.drop i).getD 2 0) 1 (by omega) (by omega) (by omega) ?_).congr (fun k => rfl) rfl
  refine (step (((0 * 65536 + (d.drop i).getD 3 0) * 65536 + (d.drop i).getD 2 0) * 65536 + (d.drop i).getD 1 0) 0 (by omega) (by omega) (by omega) ?_).congr (fun k => rfl) rfl
  refine Evt.succ ?_
  simp only [windbreakref01_Out.l1]
  refine Evt.ite_neg (by omega) (Evt.ite_pos (by omega) ?_)
  rw [w64 (by omega) (by omega)]
  refine h.congr (fun k => ?_) rfl
  have e : (((0 * 65536 + (d.drop i).getD 3 0) * 65536 + (d.drop i).getD 2 0) * 65536 + (d.drop i).getD 1 0) * 65536 + (d.drop i).getD 0 0 = grp (d.drop i) := by
    unfold grp; omega
  rw [e, show (i : Int) + 4 = ((i + 4 : Nat) : Int) from by omega]
theorem out_loop (d : List Int) (hd : Dig (b16 : Int) d) (hlen : d.length ≤ 1000000) (n : Nat) : ∀ (i : Nat) (acc : List Int), acc.length ≤ i → i ≤ d.length + 3 → (d.length - i + 3) / 4 = n →
    Evt (fun k => windbreakref01_Out.l0 k d acc (i : Int)) (acc ++ outN n (d.drop i), decide ((acc ++ outN n (d.drop i)).length ≤ 64)) := by
  induction n with
  | zero =>
    intro i acc hacc hi hn
    refine Evt.succ ?_
    simp only [windbreakref01_Out.l0]
    refine Evt.ite_neg (by omega) ?_
    simp only [outN, List.append_nil]
    refine (Evt.pure _).congr (fun k => rfl) ?_
    congr 1
    simp only [decide_eq_decide]
    omega
  | succ n ih =>
    intro i acc hacc hi hn
    refine Evt.succ ?_
    simp only [windbreakref01_Out.l0]
    refine Evt.ite_pos (by omega) ?_
    refine out_inner d acc i hd (by omega) (by omega) ?_
    refine (ih (i + 4) (acc ++ [grp (d.drop i)]) (by simp; omega) (by omega) (by omega)).congr (fun k => rfl) ?_
    simp [outN, List.drop_drop]
theorem ref_Out_ev (v : Nat) (hv : v < lim) : Evt (fun k => windbreakref01_Out.f k (digs v)) (limbs v, decide (v < b64 ^ 64)) := by
  have hlen : (digs v).length ≤ 1000000 := Nat.le_trans (digs_len hv) (by omega)
  have h := out_loop (digs v) (toD_dig b16_two v) hlen (((digs v).length + 3) / 4) 0 [] (Nat.le_refl _) (by omega) (by omega)
  refine h.congr (fun k => rfl) ?_
  rw [List.nil_append, List.drop_zero, out_limbs]
  have := limbs_long v
  simp only [this]
theorem ref_told_ev (v : Nat) (hv : v < lim) : Evt (fun k => windbreakref01_told.f k (digs v)) (toldV v) := by
  unfold windbreakref01_told.f toldV
  refine Evt.bind (ref_Out_ev v hv) ?_
  by_cases h : v < b64 ^ 64
  · simp only [h, decide_true, if_true]
    exact Evt.pure _
  · simp only [h, decide_false, if_false]
    exact Evt.ite_neg (by simp) (Evt.pure _)
theorem dig_one16 {x : Int} (h : 0 ≤ x ∧ x < 65536) : Dig (b16 : Int) [x] := Dig.cons.2 ⟨h, Dig.nil⟩
theorem num16_one {x : Int} (h : 0 ≤ x) : num16 [x] = x.toNat := by simp [num16, val]
theorem ref_div_halve (a : List Int) (w X : Nat) (q : List Int) (i : Nat) (hw : 0 < w) (hwl : w * 65536 < lim) (hX : X < lim) {r : List Int × List Int} (hq : q.length = a.length) (hi : i < a.length)
    (next : ∀ d : Nat, d < 65536 → d * w ≤ X → X < (d + 1) * w → Evt (fun k => windbreakref01_div.l0 k a (digs w) (q.set i (d : Int)) (digs (X - d * w)) ((i : Int) - 1)) r) (ha : a.length ≤ 100000) (n : Nat) :
    ∀ lo hi_ : Nat, hi_ - lo = n → lo ≤ hi_ → hi_ ≤ 65535 → lo * w ≤ X → X < (hi_ + 1) * w →
      Evt (fun k => windbreakref01_div.l1 k a (digs w) q (digs X) (i : Int) (lo : Int) (hi_ : Int)) r := by
  have hwlim : w < lim := by omega
  have hwd := digs_len hwlim
  have mulm : ∀ m : Nat, m < 65536 → Evt (fun k => windbreakref01_mul.f k (digs w) [(m : Int)]) (digs (m * w)) := by
    intro m hm
    refine (ref_mul_ev (digs w) [(m : Int)] (toD_dig b16_two w) (dig_one16 (by omega)) (by omega) (by simp)).congr (fun k => rfl) ?_
    rw [num16_digs, num16_one (by omega), Int.toNat_natCast, Nat.mul_comm]
  induction n using Nat.strongRecOn with
  | _ n ih =>
    intro lo hi_ hn hle h5 hlo hhi
    refine Evt.succ ?_
    simp only [windbreakref01_div.l1]
    by_cases hlt : lo < hi_
    · refine Evt.ite_pos (by omega) ?_
      have em : IntKind.u64.wrap (Int.tdiv (IntKind.u64.wrap (IntKind.u64.wrap ((lo : Int) + (hi_ : Int)) + 1)) 2) = (((lo + hi_ + 1) / 2 : Nat) : Int) := by
        rw [wu64_of (show 0 ≤ (lo : Int) + (hi_ : Int) by omega) (by omega), wu64_of (show 0 ≤ (lo : Int) + (hi_ : Int) + 1 by omega) (by omega), Int.tdiv_eq_ediv_of_nonneg (by omega), wu64_of (by omega) (by omega)]
        omega
      rw [em]
      generalize hm : (lo + hi_ + 1) / 2 = m
      have hm1 : lo < m ∧ m ≤ hi_ := by omega
      refine Evt.bind (mulm m (by omega)) ?_
      have hmw : m * w < lim := by
        have : m * w ≤ 65536 * w := Nat.mul_le_mul_right w (by omega)
        rw [Nat.mul_comm] at hwl
        omega
      refine Evt.bind (ref_compare_ev (m * w) X hmw) ?_
      by_cases hc : m * w ≤ X
      · refine Evt.ite_pos ?_ ?_
        · unfold cmpN
          by_cases h1 : m * w < X
          · rw [if_pos h1]; omega
          · rw [if_neg h1, if_pos (by omega)]; omega
        · exact ih (hi_ - m) (by omega) m hi_ rfl (by omega) h5 hc hhi
      · refine Evt.ite_neg ?_ ?_
        · unfold cmpN
          rw [if_neg (by omega), if_neg (by omega)]; omega
        · have e : IntKind.u64.wrap ((m : Int) - 1) = ((m - 1 : Nat) : Int) := by rw [wu64_of (by omega) (by omega)]; omega
          rw [e]
          refine ih (m - 1 - lo) (by omega) lo (m - 1) rfl (by omega) (by omega) hlo ?_
          rw [show m - 1 + 1 = m from by omega]
          omega
    · refine Evt.ite_neg (by omega) (Evt.ite_pos (by omega) (Evt.ite_pos (by omega) ?_))
      have e : lo = hi_ := by omega
      subst e
      refine Evt.bind (mulm lo (by omega)) ?_
      refine Evt.bind (ref_sub_ev X (lo * w) hX hlo) ?_
      rw [w64 (by omega) (by omega)]
      refine (next lo (by omega) hlo hhi).congr (fun k => rfl) rfl
theorem ref_div_loop (a : List Int) (da : Dig (b16 : Int) a) (w : Nat) (hw : 0 < w) (hwl : w * 65536 < lim) (ha : a.length ≤ 100000) (hb : b16 ^ a.length ≤ lim) (n : Nat) :
    ∀ (Q : List Int) (R : Nat), Dig (b16 : Int) Q → Q.length = a.length - n → n ≤ a.length → R < w → num16 (a.drop n) = num16 Q * w + R →
      Evt (fun k => windbreakref01_div.l0 k a (digs w) (List.replicate n 0 ++ Q) (digs R) ((n : Int) - 1)) (digs (num16 a / w), digs (num16 a % w)) := by
  induction n with
  | zero =>
    intro Q R dQ hQ hn hR hv
    refine Evt.succ ?_
    simp only [windbreakref01_div.l0]
    refine Evt.ite_neg (by omega) ?_
    rw [List.replicate_zero, List.nil_append]
    rw [List.drop_zero] at hv
    have h := windbreakref01_cut_ev Q (by simp [maxLen]; omega)
    rw [strip_digs dQ] at h
    have e1 : num16 Q = num16 a / w := by
      rw [hv, Nat.mul_comm, Nat.mul_add_div hw, Nat.div_eq_of_lt hR, Nat.add_zero]
    have e2 : R = num16 a % w := by
      rw [hv, Nat.mul_comm, Nat.mul_add_mod, Nat.mod_eq_of_lt hR]
    rw [← e1, ← e2]
    exact Evt.bind h (h := fun t _ => some (t, digs R)) (Evt.pure _)
  | succ n ih =>
    intro Q R dQ hQ hn hR hv
    have hlt : n < a.length := by omega
    refine Evt.succ ?_
    simp only [windbreakref01_div.l0]
    rw [show ((n + 1 : Nat) : Int) - 1 = (n : Int) from by omega]
    refine Evt.ite_pos (by omega) (Evt.ite_pos (by omega) (Evt.ite_pos (by omega) ?_))
    simp only [Option.bind_some]
    have hx : rd a (n : Int) = a[n] := by simp [rd_nat, hlt]
    rw [hx]
    have rx := da a[n] (List.getElem_mem hlt)
    have hRl : R < lim := by omega
    have hRd := digs_len hRl
    refine Evt.ite_pos (by simp; omega) ?_
    have dX : Dig (b16 : Int) ([a[n]] ++ digs R) := Dig.cons.2 ⟨rx, toD_dig b16_two R⟩
    have hXn : num16 ([a[n]] ++ digs R) = a[n].toNat + 65536 * R := by
      have h1 := num16_val dX
      have h2 : val (b16 : Int) ([a[n]] ++ digs R) = a[n] + (b16 : Int) * val (b16 : Int) (digs R) := rfl
      rw [h2, val_toD b16_two] at h1
      simp only [b16] at h1 rx
      omega
    have h := windbreakref01_cut_ev ([a[n]] ++ digs R) (by simp [maxLen]; omega)
    rw [strip_digs dX, hXn] at h
    refine Evt.bind h ?_
    generalize hX : a[n].toNat + 65536 * R = X
    have hXw : X < 65536 * w := by
      simp only [b16] at rx
      have : 65536 * (R + 1) ≤ 65536 * w := Nat.mul_le_mul_left _ hR
      omega
    have hq1 : List.replicate (n + 1) (0 : Int) ++ Q = List.replicate n 0 ++ (0 :: Q) := by rw [List.replicate_succ', List.append_assoc]; rfl
    rw [hq1]
    refine ref_div_halve a w X _ n hw hwl (by rw [Nat.mul_comm] at hwl; omega) (by simp; omega) hlt ?_ ha 65535 0 65535 rfl (by omega) (by omega) (by omega) (by omega)
    intro d hd h1 h2
    have hs : (List.replicate n (0 : Int) ++ 0 :: Q).set n (d : Int) = List.replicate n 0 ++ ((d : Int) :: Q) := by
      have := set_at (List.replicate n (0 : Int)) 0 (d : Int) Q
      rw [List.length_replicate] at this
      exact this
    rw [hs]
    have dQ2 : Dig (b16 : Int) ((d : Int) :: Q) := Dig.cons.2 ⟨by simp only [b16]; omega, dQ⟩
    refine ih ((d : Int) :: Q) (X - d * w) dQ2 (by simp; omega) (by omega) ?_ ?_
    · rw [Nat.add_mul, Nat.one_mul] at h2
      omega
    · have dA : Dig (b16 : Int) (a.drop n) := da.drop n
      have g1 := num16_val dA
      have g2 := num16_val (da.drop (n + 1))
      have g3 := num16_val dQ2
      have g4 := num16_val dQ
      rw [List.drop_eq_getElem_cons hlt] at g1 ⊢
      simp only [val] at g1 g3
      rw [← g2] at g1
      rw [← g4] at g3
      rw [hv] at g1
      simp only [b16] at g1 g3 rx
      have g5 : num16 ((d : Int) :: Q) = d + 65536 * num16 Q := by omega
      rw [g5]
      generalize num16 Q = Qn at *
      have g6 : (d + 65536 * Qn) * w = d * w + 65536 * (Qn * w) := by rw [Nat.add_mul, Nat.mul_assoc]
      rw [g6]
      generalize Qn * w = z at *
      generalize d * w = y at *
      omega
theorem ref_div_ev (v w : Nat) (hv : v < lim) (hw : 0 < w) (hwl : w * 65536 < lim) : Evt (fun k => windbreakref01_div.f k (digs v) (digs w)) (digs (v / w), digs (v % w)) := by
  have hd := digs_len hv
  unfold windbreakref01_div.f
  refine Evt.ite_pos (by omega) (Evt.ite_pos (by omega) ?_)
  rw [w64 (by omega) (by omega)]
  have hb : b16 ^ (digs v).length ≤ lim := by
    have h : lim = b16 ^ (4 * thousand) := by
      unfold lim
      rw [b64_pow, ← Nat.pow_mul]
    rw [h]
    exact Nat.pow_le_pow_right (by decide) hd
  have h := ref_div_loop (digs v) (toD_dig b16_two v) w hw hwl (by omega) hb (digs v).length [] 0 Dig.nil (by simp) (Nat.le_refl _) hw (by rw [List.drop_length]; simp [num16_nil])
  rw [num16_digs] at h
  refine h.congr (fun k => ?_) rfl
  rw [List.append_nil, Int.toNat_natCast, show digs 0 = [] from toD_zero b16]
def shrW (a : List Int) (n : Int) : List Int × Int :=
  if rightB a = true ∧ 0 ≤ n then (limbs (num a / 2 ^ n.toNat), 0) else ([], 1)
theorem ref_Shr_ev (a : List Int) (n : Int) (ha : a.length ≤ maxLen) (da : Dig (b64 : Int) a) : Evt (fun k => windbreakref01_Shr.f k a n) (shrW a n) := by
  unfold windbreakref01_Shr.f shrW
  rw [windbreakref01_Right_eq ha]
  simp only [Option.bind_some]
  have J : ∀ x : Bool, (x = false → rightB a = true ∧ 0 ≤ n) → Evt (fun k => windbreakref01_Shr.j0 k a n x) (if x = true then ([], 1) else (limbs (num a / 2 ^ n.toNat), 0)) := by
    intro x hx
    refine Evt.succ ?_
    simp only [windbreakref01_Shr.j0]
    refine Evt.cond (fun _ => Evt.pure _) (fun hc => ?_)
    have h := hx (by simpa using hc)
    obtain ⟨h1, c1⟩ := (rightB_iff a).1 h.1
    obtain ⟨m, rfl⟩ := Int.eq_ofNat_of_zero_le h.2
    rw [Int.toNat_natCast]
    have hp := num_lt_p da h1
    by_cases hn : 4096 ≤ m
    · have e : num a / 2 ^ m = 0 := by
        apply Nat.div_eq_of_lt
        exact Nat.lt_of_lt_of_le hp (b64_le_pow2 (by omega))
      rw [e, show limbs 0 = [] from toD_zero b64]
      exact Evt.ite_pos (by omega) (Evt.pure _)
    · refine Evt.ite_neg (by omega) ?_
      have n2 := num_lt_lim da (by omega)
      refine Evt.bind (ref_In_ev a (by omega) da) (Evt.bind (ref_power_ev m (by omega)) ?_)
      refine Evt.bind (ref_div_ev (num a) (2 ^ m) n2 (Nat.pow_pos (by decide)) (pow2_lim (by omega))) ?_
      have h3 : num a / 2 ^ m ≤ num a := Nat.div_le_self _ _
      have h4 := ref_told_ev (num a / 2 ^ m) (Nat.lt_of_le_of_lt h3 n2)
      have e : toldV (num a / 2 ^ m) = (limbs (num a / 2 ^ m), 0) := if_pos (Nat.lt_of_le_of_lt h3 hp)
      rw [e] at h4
      exact Evt.bind h4 (h := fun t _ => some (t.1, t.2)) (Evt.pure _)
  cases hA : rightB a with
  | true =>
    refine Evt.ite_pos rfl ((J _ (fun h => ⟨hA, by simpa using h⟩)).congr (fun k => rfl) ?_)
    by_cases hn : n < 0
    · rw [decide_eq_true hn, if_pos rfl, if_neg (show ¬ (true = true ∧ 0 ≤ n) by omega)]
    · rw [decide_eq_false hn, if_neg (by simp), if_pos (show true = true ∧ 0 ≤ n from ⟨rfl, by omega⟩)]
  | false =>
    refine Evt.ite_neg (by simp) ((J _ (fun h => by simp at h)).congr (fun k => rfl) ?_)
    simp
def subW (a b : List Int) : List Int × Int := if rightB a = true ∧ rightB b = true then (if num a < num b then ([], 2) else (limbs (num a - num b), 0)) else ([], 1)
theorem ref_Sub_ev (a b : List Int) (ha : a.length ≤ maxLen) (hb : b.length ≤ maxLen) (da : Dig (b64 : Int) a) (db : Dig (b64 : Int) b) : Evt (fun k => windbreakref01_Sub.f k a b) (subW a b) := by
  unfold windbreakref01_Sub.f subW
  rw [windbreakref01_Right_eq ha, windbreakref01_Right_eq hb]
  simp only [Option.bind_some]
  have J : ∀ x : Bool, (x = false → rightB a = true ∧ rightB b = true) → Evt (fun k => windbreakref01_Sub.j0 k a b x) (if x = true then ([], 1) else if num a < num b then ([], 2) else (limbs (num a - num b), 0)) := by
    intro x hx
    refine Evt.succ ?_
    simp only [windbreakref01_Sub.j0]
    refine Evt.cond (fun _ => Evt.pure _) (fun hc => ?_)
    have h := hx (by simpa using hc)
    obtain ⟨h1, c1⟩ := (rightB_iff a).1 h.1
    obtain ⟨h2, c2⟩ := (rightB_iff b).1 h.2
    have n1 : num a < b64 ^ 64 := num_lt_p da h1
    have n2 := num_lt_lim da (by omega)
    refine Evt.bind (ref_In_ev a (by omega) da) (Evt.bind (ref_In_ev b (by omega) db) ?_)
    refine Evt.bind (ref_compare_ev (num a) (num b) n2) ?_
    by_cases hlt : num a < num b
    · have e : cmpN (num a) (num b) = -1 := if_pos hlt
      rw [e, if_pos hlt]
      exact Evt.ite_pos (by omega) (Evt.pure _)
    · have e : ¬ cmpN (num a) (num b) < 0 := by
        unfold cmpN
        rw [if_neg hlt]
        by_cases e2 : num a = num b
        · rw [if_pos e2]; omega
        · rw [if_neg e2]; omega
      rw [if_neg hlt]
      refine Evt.ite_neg e ?_
      refine Evt.bind (ref_sub_ev (num a) (num b) n2 (by omega)) ?_
      have h5 := ref_told_ev (num a - num b) (by omega)
      have e3 : toldV (num a - num b) = (limbs (num a - num b), 0) := if_pos (by omega)
      rw [e3] at h5
      exact Evt.bind h5 (h := fun t _ => some (t.1, t.2)) (Evt.pure _)
  cases hA : rightB a with
  | true =>
    refine Evt.ite_pos rfl ((J _ (fun h => ⟨hA, by simpa using h⟩)).congr (fun k => rfl) ?_)
    cases hB : rightB b <;> simp
  | false =>
    refine Evt.ite_neg (by simp) ((J _ (fun h => by simp at h)).congr (fun k => rfl) ?_)
    simp
def cmpW (a b : List Int) : Int := if rightB a = true ∧ rightB b = true then cmpN (num a) (num b) else 0
theorem ref_Cmp_ev (a b : List Int) (ha : a.length ≤ maxLen) (hb : b.length ≤ maxLen) (da : Dig (b64 : Int) a) (db : Dig (b64 : Int) b) : Evt (fun k => windbreakref01_Cmp.f k a b) (cmpW a b) := by
  unfold windbreakref01_Cmp.f cmpW
  rw [windbreakref01_Right_eq ha, windbreakref01_Right_eq hb]
  simp only [Option.bind_some]
  have J : ∀ x : Bool, (x = false → rightB a = true ∧ rightB b = true) → Evt (fun k => windbreakref01_Cmp.j0 k a b x) (if x = true then 0 else cmpN (num a) (num b)) := by
    intro x hx
    refine Evt.succ ?_
    simp only [windbreakref01_Cmp.j0]
    refine Evt.cond (fun _ => Evt.pure _) (fun hc => ?_)
    have h := hx (by simpa using hc)
    obtain ⟨h1, c1⟩ := (rightB_iff a).1 h.1
    obtain ⟨h2, c2⟩ := (rightB_iff b).1 h.2
    refine Evt.bind (ref_In_ev a (by omega) da) (Evt.bind (ref_In_ev b (by omega) db) ?_)
    exact Evt.bind (ref_compare_ev _ _ (num_lt_lim da (by omega))) (h := fun t _ => some t) (Evt.pure _)
  cases hA : rightB a with
  | true =>
    refine Evt.ite_pos rfl ((J _ (fun h => ⟨hA, by simpa using h⟩)).congr (fun k => rfl) ?_)
    cases hB : rightB b <;> simp
  | false =>
    refine Evt.ite_neg (by simp) ((J _ (fun h => by simp at h)).congr (fun k => rfl) ?_)
    simp
theorem ref_Of_one (x : Int) (h : x ≠ 0) : windbreakref01_Of.f x = some [x] := by
  rw [ref_Of_eq]
  simp [strip, h]
theorem ref_May_ev (n : List Int) (hn : n.length ≤ maxLen) (dn : Dig (b64 : Int) n) : Evt (fun k => windbreakref07_May.f k n) (mayV n) := by
  unfold windbreakref07_May.f mayV
  rw [windbreakref01_Right_eq hn]
  simp only [Option.bind_some]
  cases hR : rightB n with
  | false => exact Evt.ite_neg (by simp) (Evt.pure _)
  | true =>
    refine Evt.ite_pos rfl ?_
    by_cases h8 : n.length ≤ 8
    · refine Evt.ite_pos (by omega) ?_
      have d3 : Dig (b64 : Int) [3] := dig_one (by omega) (by omega)
      refine Evt.bind (Evt.of (fun _ => ref_Of_one 3 (by omega))) ?_
      refine (Evt.bind (ref_Cmp_ev n [3] hn (by simp [maxLen]) dn d3) (h := fun t _ => some (decide (t ≥ 0))) (Evt.pure _)).congr (fun k => rfl) ?_
      unfold cmpW
      rw [if_pos ⟨hR, right_one (by omega)⟩, cmpN_ge, num_one (by omega)]
      simp [h8]
    · refine Evt.ite_neg (by omega) ((Evt.pure _).congr (fun k => rfl) ?_)
      simp [h8]
theorem ref_half_ev (n : List Int) (dn : Dig (b64 : Int) n) (hm : mayV n = true) : Evt (fun k => windbreakref07_half.f k n) (limbs (halfV n)) := by
  obtain ⟨hR, h8, h3⟩ := (mayV_iff n).1 hm
  have hlt := may_lt dn hm
  unfold windbreakref07_half.f
  have d1 : Dig (b64 : Int) [1] := dig_one (by omega) (by omega)
  refine Evt.bind (Evt.of (fun _ => ref_Of_one 1 (by omega))) ?_
  have hs := ref_Sub_ev n [1] (by simp only [maxLen]; omega) (by simp [maxLen]) dn d1
  unfold subW at hs
  rw [if_pos ⟨hR, right_one (by omega)⟩, num_one (by omega), if_neg (by omega)] at hs
  refine Evt.bind hs ?_
  have hlt2 : num n - (1 : Int).toNat < b64 ^ 64 := by omega
  have hh := ref_Shr_ev (limbs (num n - (1 : Int).toNat)) 1 (by have := limbs_le64 hlt2; simp only [maxLen]; omega) (dig_limbs' _)
  unfold shrW at hh
  rw [if_pos ⟨right_limbs' hlt2, by omega⟩, num_limbs] at hh
  exact Evt.bind hh (h := fun t _ => some t.1) (Evt.pure _)
theorem ref3_Right_eq (a : Bool) (l : List Int) (h : l.length ≤ maxLen) : windbreakref03_Right.f a l = some (intR a l) := by
  unfold windbreakref03_Right.f intR
  rw [windbreakref01_Right_eq h]
  cases hR : rightB l <;> cases a <;> simp
theorem ref3_From_eq (a : Bool) (l : List Int) (h : l.length ≤ 64) : windbreakref03_From.f a l = some (fromV a l) := by
  unfold windbreakref03_From.f fromV
  rw [windbreakref01_Right_eq (by simp only [maxLen]; omega)]
  simp only [Option.bind_some, List.nil_append, List.length_nil]
  rw [if_pos (show 0 + l.length < 17592186044416 by omega)]
  cases hR : rightB l with
  | false => simp
  | true =>
    by_cases h0 : l.length = 0
    · simp [h0]
    · have : ¬ l = [] := fun e => h0 (by rw [e]; rfl)
      simp [this]
def mulW (a b : List Int) : List Int × Int := if rightB a = true ∧ rightB b = true then toldV (num a * num b) else ([], 1)
theorem ref_Mul_ev (a b : List Int) (ha : a.length ≤ maxLen) (hb : b.length ≤ maxLen) (da : Dig (b64 : Int) a) (db : Dig (b64 : Int) b) : Evt (fun k => windbreakref01_Mul.f k a b) (mulW a b) := by
  unfold windbreakref01_Mul.f mulW
  rw [windbreakref01_Right_eq ha, windbreakref01_Right_eq hb]
  simp only [Option.bind_some]
  have J : ∀ x : Bool, (x = false → rightB a = true ∧ rightB b = true) → Evt (fun k => windbreakref01_Mul.j0 k a b x) (if x = true then ([], 1) else toldV (num a * num b)) := by
    intro x hx
    refine Evt.succ ?_
    simp only [windbreakref01_Mul.j0]
    refine Evt.cond (fun _ => Evt.pure _) (fun hc => ?_)
    have h := hx (by simpa using hc)
    obtain ⟨h1, c1⟩ := (rightB_iff a).1 h.1
    obtain ⟨h2, c2⟩ := (rightB_iff b).1 h.2
    have n1 := num_lt_p da h1
    have n2 := num_lt_p db h2
    have n3 := pow_lt_lim (n := 64) (by omega)
    have n4 : num a * num b < lim := by
      have g3 := Nat.mul_lt_mul'' n1 n2
      rw [← Nat.pow_add] at g3
      exact Nat.lt_of_lt_of_le g3 (lim_pow (by omega))
    refine Evt.bind (ref_In_ev a (by omega) da) (Evt.bind (ref_In_ev b (by omega) db) ?_)
    have hm := ref_mul_ev (digs (num a)) (digs (num b)) (toD_dig b16_two _) (toD_dig b16_two _) (by have := digs_len (v := num a) (by omega); omega) (by have := digs_len (v := num b) (by omega); omega)
    rw [num16_digs, num16_digs] at hm
    refine Evt.bind hm ?_
    exact Evt.bind (ref_told_ev (num a * num b) n4) (h := fun t _ => some (t.1, t.2)) (Evt.pure _)
  cases hA : rightB a with
  | true =>
    refine Evt.ite_pos rfl ((J _ (fun h => ⟨hA, by simpa using h⟩)).congr (fun k => rfl) ?_)
    cases hB : rightB b <;> simp
  | false =>
    refine Evt.ite_neg (by simp) ((J _ (fun h => by simp at h)).congr (fun k => rfl) ?_)
    simp
def addL : Nat → List Int → List Int → Int → List Int
  | 0, _, _, c => [c]
  | n + 1, a, b, c => (a.getD 0 0 + b.getD 0 0 + c) % 65536 :: addL n (a.drop 1) (b.drop 1) ((a.getD 0 0 + b.getD 0 0 + c) / 65536)
theorem val_head (B : Int) (b : List Int) : val B b = b.getD 0 0 + B * val B (b.drop 1) := by
  cases b with
  | nil => simp [val]
  | cons y b => simp [val]
theorem addL_facts (n : Nat) : ∀ (a b : List Int) (c : Int), Dig (b16 : Int) a → Dig (b16 : Int) b → a.length ≤ n → b.length ≤ n → (c = 0 ∨ c = 1) →
    Dig (b16 : Int) (addL n a b c) ∧ val (b16 : Int) (addL n a b c) = val (b16 : Int) a + val (b16 : Int) b + c ∧ (addL n a b c).length = n + 1 := by
  induction n with
  | zero =>
    intro a b c _ _ ha hb hc
    have e1 : a = [] := List.length_eq_zero_iff.1 (by omega)
    have e2 : b = [] := List.length_eq_zero_iff.1 (by omega)
    subst e1 e2
    refine ⟨?_, by simp [addL, val], rfl⟩
    intro x hx
    simp [addL] at hx
    subst hx
    simp only [b16]; omega
  | succ n ih =>
    intro a b c da db ha hb hc
    have h1 := da.getD b16_pos 0
    have h2 := db.getD b16_pos 0
    simp only [b16] at h1 h2
    obtain ⟨i1, i2, i3⟩ := ih (a.drop 1) (b.drop 1) ((a.getD 0 0 + b.getD 0 0 + c) / 65536) (da.drop 1) (db.drop 1) (by simp; omega) (by simp; omega) (by omega)
    refine ⟨Dig.cons.2 ⟨by simp only [b16]; omega, i1⟩, ?_, by simp only [addL, List.length_cons, i3]⟩
    rw [val_head (b16 : Int) a, val_head (b16 : Int) b]
    simp only [addL, val]
    rw [i2]
    simp only [b16]
    omega
theorem ref_add_loop (a b : List Int) (da : Dig (b16 : Int) a) (db : Dig (b16 : Int) b) (ha : a.length ≤ 1000000) (hb : b.length ≤ 1000000) (n : Nat) : ∀ (i : Nat) (p : List Int) (c : Int), p.length = i → i ≤ max a.length b.length → max a.length b.length - i = n → (c = 0 ∨ c = 1) →
    Evt (fun k => windbreakref01_add.l0 k a b p c (i : Int)) (strip (p ++ addL n (a.drop i) (b.drop i) c)) := by
  induction n with
  | zero =>
    intro i p c hp hi hn hc
    have hJ : Evt (fun k => windbreakref01_add.j1 k a b p c (i : Int) false) (strip (p ++ addL 0 (a.drop i) (b.drop i) c)) := by
      refine Evt.succ ?_
      simp only [windbreakref01_add.j1]
      refine Evt.ite_neg (by simp) (Evt.ite_pos (by omega) ?_)
      exact Evt.bind (windbreakref01_cut_ev (p ++ [c]) (by simp [maxLen]; omega)) (h := fun t _ => some t) (Evt.pure _)
    refine Evt.succ ?_
    simp only [windbreakref01_add.l0]
    refine Evt.ite_neg (by omega) ?_
    have : decide ((i : Int) < (b.length : Int)) = false := by simp; omega
    rw [this]
    exact hJ
  | succ n ih =>
    intro i p c hp hi hn hc
    have hJ : Evt (fun k => windbreakref01_add.j1 k a b p c (i : Int) true) (strip (p ++ addL (n + 1) (a.drop i) (b.drop i) c)) := by
      refine Evt.succ ?_
      simp only [windbreakref01_add.j1]
      refine Evt.ite_pos trivial ?_
      rw [ref_digit_eq, ref_digit_eq]
      simp only [Option.bind_some]
      refine Evt.ite_pos (by omega) ?_
      have h1 := da.getD b16_pos i
      have h2 := db.getD b16_pos i
      simp only [b16] at h1 h2
      rw [wu64_of (show 0 ≤ a.getD i 0 + b.getD i 0 by omega) (by omega), wu64_of (show 0 ≤ a.getD i 0 + b.getD i 0 + c by omega) (by omega)]
      rw [Int.tmod_eq_emod_of_nonneg (by omega), Int.tdiv_eq_ediv_of_nonneg (by omega), wu64_of (by omega) (by omega), w64 (by omega) (by omega)]
      have e1 : (a.drop i).getD 0 0 = a.getD i 0 := by simp [List.getD_eq_getElem?_getD]
      have e2 : (b.drop i).getD 0 0 = b.getD i 0 := by simp [List.getD_eq_getElem?_getD]
      refine (ih (i + 1) (p ++ [(a.getD i 0 + b.getD i 0 + c) % 65536]) ((a.getD i 0 + b.getD i 0 + c) / 65536) (by simp [hp]) (by omega) (by omega) (by omega)).congr (fun k => rfl) ?_
      simp only [addL, e1, e2, List.drop_drop, List.append_assoc, List.singleton_append]
    refine Evt.succ ?_
    simp only [windbreakref01_add.l0]
    by_cases h : i < a.length
    · exact Evt.ite_pos (by omega) hJ
    · refine Evt.ite_neg (by omega) ?_
      have : decide ((i : Int) < (b.length : Int)) = true := by simp; omega
      rw [this]
      exact hJ
theorem ref_add_ev (v w : Nat) (hv : v < lim) (hw : w < lim) : Evt (fun k => windbreakref01_add.f k (digs v) (digs w)) (digs (v + w)) := by
  have h1 := digs_len hv
  have h2 := digs_len hw
  have d1 := toD_dig b16_two v
  have d2 := toD_dig b16_two w
  have h := ref_add_loop (digs v) (digs w) d1 d2 (by omega) (by omega) (max (digs v).length (digs w).length) 0 [] 0 rfl (Nat.zero_le _) (by omega) (Or.inl rfl)
  refine h.congr (fun k => rfl) ?_
  obtain ⟨f1, f2, f3⟩ := addL_facts (max (digs v).length (digs w).length) (digs v) (digs w) 0 d1 d2 (by omega) (by omega) (Or.inl rfl)
  rw [List.nil_append, List.drop_zero, List.drop_zero, strip_digs f1]
  unfold num16
  rw [f2, val_toD b16_two, val_toD b16_two]
  congr 1
def addW (a b : List Int) : List Int × Int := if rightB a = true ∧ rightB b = true then toldV (num a + num b) else ([], 1)
theorem num_lt_64 {a : List Int} (da : Dig (b64 : Int) a) (ha : a.length ≤ 64) : num a < b64 ^ 64 :=
  Nat.lt_of_lt_of_le (num_lt da) (Nat.pow_le_pow_right (by decide) ha)
theorem ref_Add_ev (a b : List Int) (ha : a.length ≤ maxLen) (hb : b.length ≤ maxLen) (da : Dig (b64 : Int) a) (db : Dig (b64 : Int) b) : Evt (fun k => windbreakref01_Add.f k a b) (addW a b) := by
  unfold windbreakref01_Add.f addW
  rw [windbreakref01_Right_eq ha, windbreakref01_Right_eq hb]
  simp only [Option.bind_some]
  have J : ∀ x : Bool, (x = false → rightB a = true ∧ rightB b = true) → Evt (fun k => windbreakref01_Add.j0 k a b x) (if x = true then ([], 1) else toldV (num a + num b)) := by
    intro x hx
    refine Evt.succ ?_
    simp only [windbreakref01_Add.j0]
    refine Evt.cond (fun _ => Evt.pure _) (fun hc => ?_)
    have h := hx (by simpa using hc)
    obtain ⟨h1, c1⟩ := (rightB_iff a).1 h.1
    obtain ⟨h2, c2⟩ := (rightB_iff b).1 h.2
    have n1 := num_lt_64 da h1
    have n2 := num_lt_64 db h2
    have n3 := pow_lt_lim (n := 64) (by omega)
    refine Evt.bind (ref_In_ev a (by omega) da) (Evt.bind (ref_In_ev b (by omega) db) ?_)
    refine Evt.bind (ref_add_ev (num a) (num b) (by omega) (by omega)) ?_
    exact Evt.bind (ref_told_ev (num a + num b) (by omega)) (h := fun t _ => some (t.1, t.2)) (Evt.pure _)
  cases hA : rightB a with
  | true =>
    refine Evt.ite_pos rfl ((J _ (fun h => ⟨hA, by simpa using h⟩)).congr (fun k => rfl) ?_)
    cases hB : rightB b <;> simp
  | false =>
    refine Evt.ite_neg (by simp) ((J _ (fun h => by simp at h)).congr (fun k => rfl) ?_)
    simp
def shlW (a : List Int) (n : Int) : List Int × Int :=
  if rightB a = true ∧ 0 ≤ n then (if a.length = 0 then ([], 0) else if 4096 < n then ([], 4) else toldV (num a * 2 ^ n.toNat)) else ([], 1)
theorem ref_Shl_ev (a : List Int) (n : Int) (ha : a.length ≤ maxLen) (da : Dig (b64 : Int) a) : Evt (fun k => windbreakref01_Shl.f k a n) (shlW a n) := by
  unfold windbreakref01_Shl.f shlW
  rw [windbreakref01_Right_eq ha]
  simp only [Option.bind_some]
  have J : ∀ x : Bool, (x = false → rightB a = true ∧ 0 ≤ n) → Evt (fun k => windbreakref01_Shl.j0 k a n x) (if x = true then ([], 1) else if a.length = 0 then ([], 0) else if 4096 < n then ([], 4) else toldV (num a * 2 ^ n.toNat)) := by
    intro x hx
    refine Evt.succ ?_
    simp only [windbreakref01_Shl.j0]
    refine Evt.cond (fun _ => Evt.pure _) (fun hc => ?_)
    have h := hx (by simpa using hc)
    obtain ⟨h1, c1⟩ := (rightB_iff a).1 h.1
    by_cases h0 : a.length = 0
    · rw [if_pos h0]; exact Evt.ite_pos (by omega) (Evt.pure _)
    · rw [if_neg h0]
      refine Evt.ite_neg (by omega) ?_
      by_cases hn : 4096 < n
      · rw [if_pos hn]; exact Evt.ite_pos (by omega) (Evt.pure _)
      · rw [if_neg hn]
        refine Evt.ite_neg (by omega) ?_
        obtain ⟨m, rfl⟩ := Int.eq_ofNat_of_zero_le h.2
        have n2 := num_lt_lim da (by omega)
        have l1 := digs_len n2
        have l2 := digs_len (v := 2 ^ m) (by have := pow2_lim (n := m) (by omega); omega)
        refine Evt.bind (ref_In_ev a (by omega) da) (Evt.bind (ref_power_ev m (by omega)) ?_)
        have hm := ref_mul_ev (digs (num a)) (digs (2 ^ m)) (toD_dig b16_two _) (toD_dig b16_two _) (by omega) (by omega)
        rw [num16_digs, num16_digs] at hm
        refine Evt.bind hm ?_
        rw [Int.toNat_natCast]
        exact Evt.bind (ref_told_ev (num a * 2 ^ m) (mul_pow_lim da h1 (by omega))) (h := fun t _ => some (t.1, t.2)) (Evt.pure _)
  cases hA : rightB a with
  | true =>
    refine Evt.ite_pos rfl ((J _ (fun h => ⟨hA, by simpa using h⟩)).congr (fun k => rfl) ?_)
    by_cases hn : n < 0
    · rw [decide_eq_true hn, if_pos rfl, if_neg (show ¬ (true = true ∧ 0 ≤ n) by omega)]
    · rw [decide_eq_false hn, if_neg (by simp), if_pos (show true = true ∧ 0 ≤ n from ⟨rfl, by omega⟩)]
  | false =>
    refine Evt.ite_neg (by simp) ((J _ (fun h => by simp at h)).congr (fun k => rfl) ?_)
    simp
theorem r3_Right_s {a : Bool} {m : Nat} (hm : m < b64 ^ 64) (ha : a = true → m ≠ 0) : windbreakref03_Right.f a (limbs m) = some true := by
  rw [ref3_Right_eq _ _ (limbs_max hm), intR_s hm ha]
theorem r3_From {a : Bool} {m : Nat} (h : m < b64 ^ 64) : windbreakref03_From.f a (limbs m) = some (ofI (sI a m)) := by
  rw [ref3_From_eq a _ (limbs_le64 h), fromV_s h]
theorem strip_one_r {x : Int} (h0 : 0 ≤ x) (h1 : x < 18446744073709551616) : strip [x] = limbs x.toNat := by
  rw [strip_limbs (dig_one h0 h1), num_one h0]
theorem b64_lt_pow_r {m : Nat} (h : m < b64) : m < b64 ^ 64 := Nat.lt_of_lt_of_le h (Nat.le_self_pow (by decide) b64)
theorem toldV_of_r {m : Nat} (h : m < b64 ^ 64) : toldV m = (limbs m, 0) := by
  unfold toldV
  rw [if_pos h]
theorem r3_Of_eq {x : Int} (h0 : -9223372036854775808 ≤ x) (h1 : x < 9223372036854775808) : windbreakref03_Of.f x = some (ofI x) := by
  have hb : b64 = 18446744073709551616 := rfl
  unfold windbreakref03_Of.f
  by_cases h : x < 0
  · rw [if_pos h]
    have e : IntKind.u64.wrap ((IntKind.u64.wrap (wrap64 (-(wrap64 (x + 1))))) + 1) = ((x.natAbs : Nat) : Int) := by
      rw [w64 (x := x + 1) (by omega) (by omega), w64 (x := -(x + 1)) (by omega) (by omega), wu64, wu64]
      omega
    rw [e, ref_Of_eq, strip_one_r (by omega) (by omega), Int.toNat_natCast]
    simp only [Option.bind_some]
    rw [r3_From (b64_lt_pow_r (by omega))]
    simp only [Option.bind_some, sI, if_true]
    rw [show -((x.natAbs : Nat) : Int) = x by omega]
  · rw [if_neg h]
    have e : IntKind.u64.wrap x = ((x.natAbs : Nat) : Int) := by rw [wu64]; omega
    rw [e, ref_Of_eq, strip_one_r (by omega) (by omega), Int.toNat_natCast]
    simp only [Option.bind_some]
    rw [r3_From (b64_lt_pow_r (by omega))]
    simp only [Option.bind_some, sI]
    rw [if_neg (by simp), show ((x.natAbs : Nat) : Int) = x by omega]
theorem r3_Add_s {a b : Bool} {m n : Nat} (hx : m < b64 ^ 30) (hy : n < b64 ^ 30) (ha : a = true → m ≠ 0) (hb : b = true → n ≠ 0) : Evt (fun k => windbreakref03_Add.f k a (limbs m) b (limbs n)) ((ofI (sI a m + sI b n)).1, (ofI (sI a m + sI b n)).2, 0) := by
  have hs := SmI.sum hx hy
  have hm : m < b64 ^ 64 := by omega
  have hn : n < b64 ^ 64 := by omega
  have rm := right_limbs' hm
  have rn := right_limbs' hn
  unfold windbreakref03_Add.f
  rw [r3_Right_s hm ha, r3_Right_s hn hb]
  simp only [Option.bind_some, if_true]
  refine Evt.succ ?_
  simp only [windbreakref03_Add.j0]
  refine Evt.ite_neg (by simp) ?_
  by_cases hab : a = b
  · subst hab
    refine Evt.ite_pos (by simp) ?_
    have h1 := ref_Add_ev (limbs m) (limbs n) (limbs_max hm) (limbs_max hn) (dig_limbs' _) (dig_limbs' _)
    unfold addW at h1
    rw [if_pos ⟨rm, rn⟩, num_limbs, num_limbs, toldV_of_r hs] at h1
    refine Evt.bind h1 (Evt.of (fun _ => ?_))
    rw [r3_From hs, sI_add]
    rfl
  · refine Evt.ite_neg (by simpa using hab) ?_
    have h1 := ref_Cmp_ev (limbs m) (limbs n) (limbs_max hm) (limbs_max hn) (dig_limbs' _) (dig_limbs' _)
    unfold cmpW at h1
    rw [if_pos ⟨rm, rn⟩, num_limbs, num_limbs] at h1
    refine Evt.bind h1 ?_
    by_cases hlt : m < n
    · refine Evt.ite_neg (by unfold cmpN; rw [if_pos hlt]; omega) ?_
      have h2 := ref_Sub_ev (limbs n) (limbs m) (limbs_max hn) (limbs_max hm) (dig_limbs' _) (dig_limbs' _)
      unfold subW at h2
      rw [if_pos ⟨rn, rm⟩, num_limbs, num_limbs, if_neg (by omega)] at h2
      refine Evt.bind h2 (Evt.of (fun _ => ?_))
      rw [r3_From (Nat.lt_of_le_of_lt (Nat.sub_le _ _) hn), sI_sub (b := a) (fun e => hab e.symm) (by omega), Int.add_comm]
      rfl
    · refine Evt.ite_pos (by unfold cmpN; rw [if_neg hlt]; split <;> omega) ?_
      have h2 := ref_Sub_ev (limbs m) (limbs n) (limbs_max hm) (limbs_max hn) (dig_limbs' _) (dig_limbs' _)
      unfold subW at h2
      rw [if_pos ⟨rm, rn⟩, num_limbs, num_limbs, if_neg (by omega)] at h2
      refine Evt.bind h2 (Evt.of (fun _ => ?_))
      rw [r3_From (Nat.lt_of_le_of_lt (Nat.sub_le _ _) hm), sI_sub (b := b) hab (by omega)]
      rfl
theorem r3_Add_ev {x y : Int} (hx : SmI x) (hy : SmI y) : Evt (fun k => windbreakref03_Add.f k (ofI x).1 (ofI x).2 (ofI y).1 (ofI y).2) ((ofI (x + y)).1, (ofI (x + y)).2, 0) := by
  have h := r3_Add_s (a := decide (x < 0)) (b := decide (y < 0)) hx hy neg_abs neg_abs
  rw [sI_of, sI_of] at h
  exact h
theorem r3_Right_of {x : Int} (hx : x.natAbs < b64 ^ 64) : windbreakref03_Right.f (ofI x).1 (ofI x).2 = some true := r3_Right_s hx neg_abs
theorem r3_Mul_ev {x y : Int} (hx : SmI x) (hy : SmI y) : Evt (fun k => windbreakref03_Mul.f k (ofI x).1 (ofI x).2 (ofI y).1 (ofI y).2) ((ofI (x * y)).1, (ofI (x * y)).2, 0) := by
  unfold windbreakref03_Mul.f
  rw [r3_Right_of hx.lt, r3_Right_of hy.lt]
  simp only [Option.bind_some, if_true]
  refine Evt.succ ?_
  simp only [windbreakref03_Mul.j0]
  refine Evt.ite_neg (by simp) ?_
  have hs := SmI.prod hx hy
  have h1 := ref_Mul_ev (limbs x.natAbs) (limbs y.natAbs) (limbs_max hx.lt) (limbs_max hy.lt) (dig_limbs' _) (dig_limbs' _)
  unfold mulW at h1
  rw [if_pos ⟨right_limbs' hx.lt, right_limbs' hy.lt⟩, num_limbs, num_limbs, toldV_of_r hs] at h1
  refine Evt.bind h1 (Evt.of (fun _ => ?_))
  rw [r3_From hs]
  have e : sI ((ofI x).1 != (ofI y).1) (x.natAbs * y.natAbs) = x * y := by
    rw [sI_mul]
    show sI (decide (x < 0)) x.natAbs * sI (decide (y < 0)) y.natAbs = _
    rw [sI_of, sI_of]
  rw [e]
  rfl
def cmpI (x y : Int) : Int := if x < y then -1 else if x = y then 0 else 1
theorem r3_Cmp_ev {x y : Int} (hx : SmI x) (hy : SmI y) : Evt (fun k => windbreakref03_Cmp.f k (ofI x).1 (ofI x).2 (ofI y).1 (ofI y).2) (cmpI x y) := by
  unfold windbreakref03_Cmp.f
  rw [r3_Right_of hx.lt, r3_Right_of hy.lt]
  simp only [Option.bind_some, if_true]
  refine Evt.succ ?_
  simp only [windbreakref03_Cmp.j0]
  refine Evt.ite_neg (by simp) ?_
  have rx := right_limbs' hx.lt
  have ry := right_limbs' hy.lt
  have h1 := ref_Cmp_ev (limbs x.natAbs) (limbs y.natAbs) (limbs_max hx.lt) (limbs_max hy.lt) (dig_limbs' _) (dig_limbs' _)
  have h2 := ref_Cmp_ev (limbs y.natAbs) (limbs x.natAbs) (limbs_max hy.lt) (limbs_max hx.lt) (dig_limbs' _) (dig_limbs' _)
  unfold cmpW at h1 h2
  rw [if_pos ⟨rx, ry⟩, num_limbs, num_limbs] at h1
  rw [if_pos ⟨ry, rx⟩, num_limbs, num_limbs] at h2
  have ex : (ofI x).1 = decide (x < 0) := rfl
  have ey : (ofI y).1 = decide (y < 0) := rfl
  rw [ex, ey]
  by_cases a : x < 0 <;> by_cases b : y < 0
  · rw [decide_eq_true a, decide_eq_true b]
    refine Evt.ite_neg (by simp) (Evt.ite_pos rfl ?_)
    refine (Evt.bind h2 (h := fun t _ => some t) (Evt.pure _)).congr (fun k => rfl) ?_
    unfold cmpN cmpI
    repeat' split <;> omega
  · rw [decide_eq_true a, decide_eq_false b]
    refine Evt.ite_pos (by simp) (Evt.ite_pos rfl ((Evt.pure _).congr (fun k => rfl) ?_))
    unfold cmpI
    rw [if_pos (by omega)]
  · rw [decide_eq_false a, decide_eq_true b]
    refine Evt.ite_pos (by simp) (Evt.ite_neg (by simp) ((Evt.pure _).congr (fun k => rfl) ?_))
    unfold cmpI
    rw [if_neg (by omega), if_neg (by omega)]
  · rw [decide_eq_false a, decide_eq_false b]
    refine Evt.ite_neg (by simp) (Evt.ite_neg (by simp) ?_)
    refine (Evt.bind h1 (h := fun t _ => some t) (Evt.pure _)).congr (fun k => rfl) ?_
    unfold cmpN cmpI
    repeat' split <;> omega
theorem r7_power_ev {s : Nat} (hs : s ≤ 64) : Evt (fun k => windbreakref07_power.f k (s : Int)) (ofI (2 ^ s)) := by
  unfold windbreakref07_power.f
  rw [ref_Of_eq, strip_one_r (by omega) (by omega)]
  simp only [Option.bind_some]
  have h2 : 2 ^ s ≤ b64 ^ 1 := pow2_le_b64 (by omega)
  have h3 : 2 ^ s < b64 ^ 64 := Nat.lt_of_le_of_lt h2 ((Nat.pow_lt_pow_iff_right (by decide)).2 (by decide))
  have h1 := ref_Shl_ev (limbs (1 : Int).toNat) (s : Int) (limbs_max (m := 1) (by decide)) (dig_limbs' _)
  unfold shlW at h1
  rw [if_pos ⟨right_limbs' (v := 1) (by decide), by omega⟩, num_limbs, Int.toNat_natCast, if_neg (fun e => by have := (limbs_nil_iff _).1 e; simp at this), if_neg (by omega)] at h1
  rw [show (1 : Int).toNat * 2 ^ s = 2 ^ s from Nat.one_mul _, toldV_of_r h3] at h1
  refine Evt.bind h1 (Evt.of (fun _ => ?_))
  rw [r3_From h3]
  have e : sI false (2 ^ s) = 2 ^ s := by simp [sI]
  rw [e]
  rfl
theorem r3_Neg_eq {x : Int} (hx : SmI x) : windbreakref03_Neg.f (ofI x).1 (ofI x).2 = some (ofI (-x)) := by
  unfold windbreakref03_Neg.f
  rw [r3_Right_of hx.lt]
  simp only [Option.bind_some, if_true]
  have e : sI (!(ofI x).1) x.natAbs = -x := by
    have h := sI_of x
    unfold sI at h ⊢
    show (if (!decide (x < 0)) = true then _ else _) = _
    cases hd : decide (x < 0) <;> rw [hd] at h <;> simp at h ⊢ <;> omega
  have h : windbreakref03_From.f (!(ofI x).1) (ofI x).2 = some (ofI (sI (!(ofI x).1) x.natAbs)) := r3_From hx.lt
  rw [h, e]
  rfl
theorem SmI.neg_r {x : Int} (h : SmI x) : SmI (-x) := by
  unfold SmI at h ⊢
  rwa [Int.natAbs_neg]
theorem r3_Sub_ev {x y : Int} (hx : SmI x) (hy : SmI y) : Evt (fun k => windbreakref03_Sub.f k (ofI x).1 (ofI x).2 (ofI y).1 (ofI y).2) ((ofI (x - y)).1, (ofI (x - y)).2, 0) := by
  unfold windbreakref03_Sub.f
  rw [r3_Right_of hx.lt, r3_Right_of hy.lt]
  simp only [Option.bind_some, if_true]
  refine Evt.succ ?_
  simp only [windbreakref03_Sub.j0]
  refine Evt.ite_neg (by simp) ?_
  refine Evt.bind (Evt.of (fun _ => r3_Neg_eq hy)) ?_
  exact Evt.bind (r3_Add_ev hx hy.neg_r) (h := fun t _ => some (t.1, t.2.1, t.2.2)) (Evt.pure _)
theorem cmpI_ge' (x y : Int) : (cmpI x y ≥ 0) = (y ≤ x) := by
  unfold cmpI
  apply propext
  by_cases h : x < y
  · rw [if_pos h]; omega
  · rw [if_neg h]; split <;> omega
theorem bl_gt_iff {m j : Nat} : 2 ^ j ≤ m ↔ j < bl m := by
  constructor
  · intro h
    exact (Nat.pow_lt_pow_iff_right (a := 2) (by decide)).1 (Nat.lt_of_le_of_lt h (bl_lt m))
  · intro h
    have h0 : m ≠ 0 := fun e => by subst e; rw [bl_zero] at h; omega
    exact Nat.le_trans (Nat.pow_le_pow_right (by decide) (by omega)) (bl_ge h0)
theorem room_loop (n : List Int) (hn : n.length ≤ maxLen) (dn : Dig (b64 : Int) n) (hm : mayV n = true) (h g : Int) (hh0 : 1 ≤ h) (zh : Sz 2 h) (zg : Sz 2 g) : ∀ (d q : Nat), q + d = 63 → 1 ≤ q → q ≤ bl h.toNat →
    Evt (fun k => windbreakref07_Room.l0 k n (q : Int) (ofI h).1 (ofI h).2 (ofI g).1 (ofI g).2) (if bl h.toNat ≤ 62 then (if ((g + 1) * 2 ^ bl h.toNat - 1).natAbs ≤ halfV n then ((bl h.toNat : Int), 0) else (0, 12)) else (0, 12)) := by
  intro d
  induction d with
  | zero =>
    intro q hq h1 hle
    refine Evt.succ ?_
    simp only [windbreakref07_Room.l0]
    rw [if_neg (show ¬ bl h.toNat ≤ 62 by omega)]
    exact Evt.ite_neg (by omega) (Evt.pure _)
  | succ d ih =>
    intro q hq h1 hle
    have zp := Sz.pow (s := q) (by omega)
    refine Evt.succ ?_
    simp only [windbreakref07_Room.l0]
    refine Evt.ite_pos (by omega) ?_
    refine Evt.bind (r7_power_ev (by omega)) ?_
    refine Evt.bind (r3_Cmp_ev (zh.smI (by omega)) (zp.smI (by omega))) ?_
    have hge := cmpI_ge' h (2 ^ q)
    have hcast : (2 : Int) ^ q = ((2 ^ q : Nat) : Int) := by simp
    by_cases hb : q < bl h.toNat
    · have := bl_gt_iff.2 hb
      refine Evt.ite_pos (by rw [hge]; omega) ?_
      rw [w64 (x := (q : Int) + 1) (by omega) (by omega)]
      exact ih (q + 1) (by omega) (by omega) (by omega)
    · have e : q = bl h.toNat := by omega
      have hlt := bl_lt h.toNat
      rw [← e] at hlt
      refine Evt.ite_neg (by rw [hge]; omega) ?_
      refine Evt.bind (r7_power_ev (by omega)) ?_
      refine Evt.bind (r3_Mul_ev (zg.smI (by omega)) (zp.smI (by omega))) ?_
      refine Evt.bind (r7_power_ev (by omega)) ?_
      have z1 := Sz.mul zg zp
      have z2 := Sz.add z1 (zp.mono (show 2 ≤ 2 + 2 by omega))
      have zo := Sz.i64 (x := 1) (by omega) (by omega)
      refine Evt.bind (r3_Add_ev (z1.smI (by omega)) (zp.smI (by omega))) ?_
      refine Evt.bind (Evt.of (fun _ => r3_Of_eq (x := 1) (by omega) (by omega))) ?_
      refine Evt.bind (r3_Sub_ev (z2.smI (by omega)) (zo.smI (by omega))) ?_
      have z3 := Sz.sub z2 (zo.mono (show 1 ≤ 2 + 2 + 1 by omega))
      refine Evt.bind (ref_half_ev n dn hm) ?_
      have hlt := may_lt dn hm
      have hh : halfV n < b64 ^ 64 := by unfold halfV; omega
      have hc := ref_Cmp_ev (ofI (g * 2 ^ q + 2 ^ q - 1)).2 (limbs (halfV n)) (limbs_max (z3.smI (by omega)).lt) (limbs_max hh) (dig_limbs' _) (dig_limbs' _)
      unfold cmpW at hc
      rw [if_pos ⟨right_limbs' (z3.smI (by omega)).lt, right_limbs' hh⟩, num_limbs] at hc
      have en : num (ofI (g * 2 ^ q + 2 ^ q - 1)).2 = (g * 2 ^ q + 2 ^ q - 1).natAbs := num_limbs _
      rw [en] at hc
      refine Evt.bind hc ?_
      rw [if_pos (show bl h.toNat ≤ 62 by omega), ← e]
      have ee : (g + 1) * 2 ^ q = g * 2 ^ q + 2 ^ q := by rw [Int.add_mul, Int.one_mul]
      rw [ee]
      by_cases hx : (g * 2 ^ q + 2 ^ q - 1).natAbs ≤ halfV n
      · rw [if_pos hx]
        exact Evt.ite_neg (by unfold cmpN; split <;> (try split) <;> omega) (Evt.pure _)
      · rw [if_neg hx]
        exact Evt.ite_pos (by unfold cmpN; rw [if_neg (by omega), if_neg (by omega)]; omega) (Evt.pure _)
theorem ref_Room_ev (n : List Int) (r m w : Int) (hn : n.length ≤ maxLen) (dn : Dig (b64 : Int) n) (hr0 : -9223372036854775808 ≤ r) (hr1 : r < 9223372036854775808) (hm0 : -9223372036854775808 ≤ m) (hm1 : m < 9223372036854775808) (hw0 : -9223372036854775808 ≤ w) (hw1 : w < 9223372036854775808) : Evt (fun k => windbreakref07_Room.f k n r m w) (roomV n r m w) := by
  unfold windbreakref07_Room.f roomV
  refine Evt.bind (ref_May_ev n hn dn) ?_
  have J : ∀ b : Bool, (b = false → mayV n = true ∧ 1 ≤ r ∧ 1 ≤ m ∧ 1 ≤ w) → Evt (fun k => windbreakref07_Room.j0 k n r m w b) (if b = true then (0, 1) else (if bl (r * w).toNat ≤ 62 then (if ((r * m + 1) * 2 ^ bl (r * w).toNat - 1).natAbs ≤ halfV n then ((bl (r * w).toNat : Int), 0) else (0, 12)) else (0, 12))) := by
    intro b hb
    refine Evt.succ ?_
    simp only [windbreakref07_Room.j0]
    refine Evt.cond (fun _ => Evt.pure _) (fun hc => ?_)
    obtain ⟨hm, h1, h2, h3⟩ := hb (by simpa using hc)
    have zr := Sz.i64 hr0 hr1
    have zm := Sz.i64 hm0 hm1
    have zw := Sz.i64 hw0 hw1
    refine Evt.bind (Evt.of (fun _ => r3_Of_eq hr0 hr1)) ?_
    refine Evt.bind (Evt.of (fun _ => r3_Of_eq hw0 hw1)) ?_
    refine Evt.bind (r3_Mul_ev (zr.smI (by omega)) (zw.smI (by omega))) ?_
    refine Evt.bind (Evt.of (fun _ => r3_Of_eq hr0 hr1)) ?_
    refine Evt.bind (Evt.of (fun _ => r3_Of_eq hm0 hm1)) ?_
    refine Evt.bind (r3_Mul_ev (zr.smI (by omega)) (zm.smI (by omega))) ?_
    have hp : 1 ≤ r * w := by
      have := Int.mul_le_mul h1 h3 (by omega) (by omega)
      omega
    exact room_loop n hn dn hm (r * w) (r * m) hp (Sz.mul zr zw) (Sz.mul zr zm) 62 1 (by omega) (by omega) (bl_pos (by omega))
  cases hm : mayV n with
  | false =>
    refine Evt.ite_neg (by simp) ((J true (by simp)).congr (fun k => rfl) ?_)
    simp
  | true =>
    refine Evt.ite_pos rfl ?_
    by_cases h1 : r < 1
    · refine Evt.ite_pos h1 ((J true (by simp)).congr (fun k => rfl) ?_)
      rw [if_pos rfl, if_neg (fun e => absurd e.2.1 (by omega))]
    · refine Evt.ite_neg h1 ?_
      by_cases h2 : m < 1
      · refine Evt.ite_pos h2 ((J true (by simp)).congr (fun k => rfl) ?_)
        rw [if_pos rfl, if_neg (fun e => absurd e.2.2.1 (by omega))]
      · refine Evt.ite_neg h2 ((J _ (fun e => ⟨hm, by omega, by omega, by have : ¬ w < 1 := by simpa using e
                                                                          omega⟩)).congr (fun k => rfl) ?_)
        by_cases h3 : w < 1
        · rw [if_pos (by simpa using h3), if_neg (fun e => absurd e.2.2.2 (by omega))]
        · rw [if_neg (by simpa using h3), if_pos (show true = true ∧ 1 ≤ r ∧ 1 ≤ m ∧ 1 ≤ w from ⟨rfl, by omega, by omega, by omega⟩)]
end Go.Proofs.Ytgeanpnkllnipab.Z
end
section
namespace Go.Proofs.Ytgeanpnkllnipab.Pure
open Go.RowKit Go.Proofs.Ytgeanpnkllnipab.F Go.Proofs.Ytgeanpnkllnipab.Z
set_option linter.unusedSimpArgs false
set_option linter.unusedVariables false
theorem FixencRooms : windbreaklaw07_FixencRooms.Pure := by
  intro n r m w hn _ wn wr wm ww
  apply Evt.get
  have dn := dig_of_wf wn
  obtain ⟨r0, r1⟩ := wf_i64 wr
  obtain ⟨m0, m1⟩ := wf_i64 wm
  obtain ⟨w0, w1⟩ := wf_i64 ww
  unfold windbreaklaw07_FixencRooms.f
  refine Evt.bind (few7_ev [n] (by simp [maxLen])) ?_
  refine Evt.cond' (fun _ => ?_) (fun _ => Evt.pure _)
  refine Evt.bind awake_ev ?_
  refine Evt.bind (fix_Room_ev n r m w hn dn r0 r1 m0 m1 w0 w1) ?_
  refine Evt.bind (ref_Room_ev n r m w hn dn r0 r1 m0 m1 w0 w1) ?_
  refine Evt.ite_pos rfl (Evt.ite_pos rfl ((Evt.pure _).congr (fun k => rfl) (by simp)))
end Go.Proofs.Ytgeanpnkllnipab.Pure
end
section
namespace Go.Proofs.YtgeanpnkllnipabW.PrintWords
open Go.ChangeShapes Go.WideShapes
theorem sized_ints {H : Type} {enc : TypeId × Value → H} {P : Program} {W : World} {base : Nat} {spare : Nat → Bool} {held : Bool} {t e : TypeId} {k : IntKind} {a : Option Addr} {len cap : Nat} {d : DataW H} {ps : List MemPlace} {ts : List TypeId} {ds : List (DataW H)} {j : Nat}
    (hsz : (DataW.weightsEach P ts ds).all (· ≤ reachBytes) = true) (ht : ts[j]? = some t) (hd : ds[j]? = some d) (hu : P.underlying t = some (.slice e)) (he : P.underlying e = some (.int k)) (hc : P.cellsOf e = 1) {B : Nat} (hB : P.bytesOf e = B)
    (h : DataW.Trod enc P W base spare held t (.slice a len cap) d ps) : len * B ≤ 140737488351232 := by
  obtain ⟨fuel, hf⟩ := h
  rcases open_ints hu he hc hf with ⟨hcs, _⟩ | ⟨x, l, c, zs, hcs, _, hl, _, hz, hx, _, _⟩
  · simp [Value.cells] at hcs
    obtain ⟨rfl, rfl, rfl⟩ := hcs
    simp
  · simp [Value.cells] at hcs
    obtain ⟨rfl, rfl, rfl⟩ := hcs
    obtain ⟨hx, _⟩ := Prod.mk.inj hx
    subst hx
    have z := sized_slice hsz ht hd hu
    rw [hB] at z
    have hl2 : len ≤ zs.length := by
      rw [hz]
      split
      · exact hl
      · exact Nat.le_refl _
    have h1 : (lits (H := H) k (zs.take len)).length + (lits (H := H) k (zs.drop len)).length = zs.length := by
      simp [lits]
      omega
    rw [h1] at z
    exact Nat.le_trans (Nat.mul_le_mul_right _ hl2) z
end Go.Proofs.YtgeanpnkllnipabW.PrintWords
end
section
namespace Go.Proofs.Ytgeanpnkllnipab.fixencRooms
open Go.ChangeShapes Go.WideShapes Go.ChangeAt Go.RowKit
open Go.ChangeMaps (open_string shut_string)
set_option linter.unusedVariables false
theorem own : ownKnob Try.prog.godebug = none := by kernel_rfl
theorem laidOut : laidOutB Try.prog = true := by kernel_rfl
def IsRow (k : IntKind) (w : World) (a : Option Addr) (len cap : Nat) (zs : List Int) : Prop :=
  (a = none ∧ len = 0 ∧ cap = 0 ∧ zs = []) ∨
  ∃ x, a = some x ∧ len ≤ cap ∧ cap ≤ maxLen ∧ zs.length = cap ∧ (∀ i, i < zs.length → w.cell? (x.add i) = some (.int k (zs.getD i 0))) ∧ ∀ n ∈ zs, (Lit.int k n).wf = true
set_option maxRecDepth 100000 in
theorem lifted (os : Os) (started : os.Started) (H : Type) (enc : TypeId × Value → H) :
    ReturnsInHanded {} Try.checked os 11 .any (Rows.fixencRoomsSpec.pre6 enc Try.prog Try.f11 Rows.fixencRoomsRow.domain false) (Rows.fixencRoomsSpec.post enc Try.prog Try.f11 false true false false) := by
  refine returnsInHanded_of_change_sized (C := Try.checked) own started (by kernel_rfl) Try.func11
    (ChangeSpec.witness6 (enc := enc) (C := Try.checked) false ⟨#[], #[.slice none 0 0, .agg #[.int .i64 0, .int .i64 0, .int .i64 0]], []⟩ 8 (by kernel_rfl) (by kernel_rfl) (by kernel_rfl) (by kernel_rfl)) ?_
  intro W base args ds gs before hval0 hW hcnd hsz0 _
  have hsz : (DataW.weightsEach Try.prog (Try.f11.params.toList ++ Rows.fixencRoomsSpec.plain.varTypes Try.prog) (ds ++ gs)).all (· ≤ reachBytes) = true := hsz0
  have hval : ∀ (j : Nat) t v, Try.f11.params[j]? = some t → args[j]? = some v → Value.okWide Try.prog W .any base t v := hval0
  have hW' := hW
  obtain ⟨p, q, hA0, hV, rfl, hfz, hnd⟩ := hW
  have hA : DataW.TrodAll enc Try.prog W 0 (fun _ => true) true Try.f11.params.toList args.toList ds p := hA0
  rw [Try.params11] at hA hval hsz
  obtain ⟨v0, vs0, d0, ds0, p0, q0, hargs, rfl, rfl, h0, r0⟩ := trodAll_cons hA
  obtain ⟨v1, vs1, d1, ds1, p1, q1, rfl, rfl, rfl, h1, r1⟩ := trodAll_cons r0
  obtain ⟨rfl, rfl, rfl⟩ := trodAll_nil r1
  obtain rfl : args = #[v0, v1] := by cases args; simp_all
  obtain ⟨rfl, rfl⟩ := trodVars_none hV
  obtain ⟨a0, len0, cap0, rfl⟩ := okWide_slice Try.underlying23 (hval 0 23 v0 rfl rfl)
  have k0 := h0
  have lt0 : ∀ x ∈ p0, x.block < W.heap.size := by obtain ⟨m, hm⟩ := k0; exact DataW.trod_lt m _ _ _ hm
  obtain ⟨z0, w0⟩ : ∃ zs, IsRow .u64 W a0 len0 cap0 zs := by
    obtain ⟨fuel, hf⟩ := h0
    rcases open_ints Try.underlying23 Try.underlying27 (by kernel_rfl) hf with ⟨hcs, _⟩ | ⟨x, l, c, zs, hcs, _, hl, hm, hz, _, hcell, hwz⟩
    · simp [Value.cells] at hcs
      obtain ⟨rfl, rfl, rfl⟩ := hcs
      exact ⟨[], .inl ⟨rfl, rfl, rfl, rfl⟩⟩
    · simp [Value.cells] at hcs
      obtain ⟨rfl, rfl, rfl⟩ := hcs
      exact ⟨zs, .inr ⟨_, rfl, hl, hm, by simpa using hz, hcell, hwz⟩⟩
  have y0 : len0 * 8 ≤ 140737488351232 := Go.Proofs.YtgeanpnkllnipabW.PrintWords.sized_ints hsz (j := 0) (t := 23) rfl rfl Try.underlying23 Try.underlying27 (by kernel_rfl) (by kernel_rfl) h0
  have k1 := h1
  have lt1 : ∀ x ∈ p1, x.block < W.heap.size := by obtain ⟨m, hm⟩ := k1; exact DataW.trod_lt m _ _ _ hm
  obtain ⟨v1_0, v1_1, v1_2, e1_0, e1_1, e1_2, n1, rfl, rfl, rfl, h1_0, h1_1, h1_2⟩ := F.open_arr3 Try.underlying44 (by kernel_rfl) (by kernel_rfl) (hval 1 44 v1 rfl rfl) h1
  obtain ⟨a1_0, hv_, rfl, w1_0⟩ := DataW.trod_int Try.underlying2 h1_0
  obtain rfl := (List.cons.inj hv_).1
  clear hv_
  obtain ⟨a1_1, hv_, rfl, w1_1⟩ := DataW.trod_int Try.underlying2 h1_1
  obtain rfl := (List.cons.inj hv_).1
  clear hv_
  obtain ⟨a1_2, hv_, rfl, w1_2⟩ := DataW.trod_int Try.underlying2 h1_2
  obtain rfl := (List.cons.inj hv_).1
  clear hv_
  clear hA0 hval0 hsz0 hsz
  refine (F.windbreaklaw07_FixencRooms.walk Pure.FixencRooms a0 len0 cap0 z0 a1_0 a1_1 a1_2 W w0 y0 w1_0 w1_1 w1_2).mono fun e W' ⟨he, bel⟩ => ?_
  subst he
  exact ⟨_, rfl, _, _, _, [], _, [], hW', trodAll_mk1 (shut_bool Try.underlying4 _), (trodAll_cons_mk (Below.trod laidOut (by kernel_rfl) (of_decide_eq_true (by kernel_rfl)) k0 bel lt0) (trodAll_cons_mk (Below.trod laidOut (by kernel_rfl) (of_decide_eq_true (by kernel_rfl)) k1 bel lt1) trodAll_mk0)), rfl, bel.frame _, fun h => by cases h⟩
theorem over : Rows.fixencRoomsRow.holds Try.pinned (OpenSpec.ofChange Rows.fixencRoomsSpec) :=
  OpenClaim.holds_of_wide 11 Try.f11 rfl rfl rfl rfl rfl rfl rfl ⟨rfl, rfl, rfl, rfl, rfl⟩ rfl rfl rfl rfl rfl (by kernel_rfl) Try.func11 (by kernel_rfl)
    (of_decide_eq_true (by kernel_rfl)) (by unfold Func.isWrapper; first | (rw [if_pos (by decide +kernel)]; kernel_rfl) | (rw [if_neg (by decide +kernel)]; exact ⟨rfl, rfl⟩))
    (fun os started H enc _ => lifted os started H enc)
theorem proved : Rows.FixencRoomsSaid := over
#print axioms proved
end Go.Proofs.Ytgeanpnkllnipab.fixencRooms
namespace Go.Proofs.Ytgeanpnkllnipab
theorem fixencRooms_holds : Rows.FixencRoomsSaid := fixencRooms.proved
end Go.Proofs.Ytgeanpnkllnipab
end
