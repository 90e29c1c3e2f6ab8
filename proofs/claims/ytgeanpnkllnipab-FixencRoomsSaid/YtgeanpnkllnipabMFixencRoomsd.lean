/- Proved: the law FixencRooms of layer 7: how far the first one is moved so that any sums fit is the document's; for every input, without a condition. -/
import Derived.Test.YtgeanpnkllnipabMFixencRoomsc
import Derived.Deep.RegionHeld3
section
namespace Go.Proofs.Ytgeanpnkllnipab.Z
open Go.RowKit Go.Proofs.Ytgeanpnkllnipab.F Go.Proofs.YtgeanpnkllnipabW.PrintWords
set_option linter.unusedSimpArgs false
set_option linter.unusedVariables false
theorem add0_of {x y : Int} (hx : 0 ≤ x ∧ x < 18446744073709551616) (hy : 0 ≤ y ∧ y < 18446744073709551616) :
    add64_s x y 0 + 18446744073709551616 * add64_c x y 0 = x + y ∧ (0 ≤ add64_s x y 0 ∧ add64_s x y 0 < 18446744073709551616) ∧ (add64_c x y 0 = 0 ∨ add64_c x y 0 = 1) := by
  unfold add64_s add64_c
  omega
theorem getD_set_ne {l : List Int} {i j : Nat} {v : Int} (h : i ≠ j) : (l.set i v).getD j 0 = l.getD j 0 := by
  rw [List.getD_eq_getElem?_getD, List.getElem?_set_ne h, ← List.getD_eq_getElem?_getD]
theorem school_key {W p t B x y c o s Q : Int} (h : s + B * Q = x * y + o + c) : p + W * (s - o) + W * B * (x * t + Q) = p + W * (x * (y + B * t) + c) := by
  have e9 : W * (x * (y + B * t) + c) = W * (x * y + o + c) - W * o + W * (B * (x * t)) := by grind
  rw [e9, ← h]
  grind
theorem school_digit {x y hi lo o c s1 q1 s2 q2 : Int} (hx : 0 ≤ x ∧ x < 18446744073709551616) (hy : 0 ≤ y ∧ y < 18446744073709551616) (h3 : 0 ≤ hi ∧ hi < 18446744073709551616) (e2 : hi * 18446744073709551616 + lo = x * y) (ho : 0 ≤ o ∧ o < 18446744073709551616) (hc : 0 ≤ c ∧ c < 18446744073709551616)
    (a1 : s1 + 18446744073709551616 * q1 = lo + o) (a3 : q1 = 0 ∨ q1 = 1) (b1 : s2 + 18446744073709551616 * q2 = s1 + c) (b2 : 0 ≤ s2) (b3 : q2 = 0 ∨ q2 = 1) :
    0 ≤ hi + q1 ∧ hi + q1 < 18446744073709551616 ∧ 0 ≤ hi + q1 + q2 ∧ hi + q1 + q2 < 18446744073709551616 ∧ s2 + 18446744073709551616 * (hi + q1 + q2) = x * y + o + c := by
  have hxy : x * y ≤ 18446744073709551615 * 18446744073709551615 := Int.mul_le_mul (by omega) (by omega) hy.1 (by omega)
  have h0 : (18446744073709551615 : Int) * 18446744073709551615 = 340282366920938463426481119284349108225 := by decide
  rw [h0] at hxy
  generalize x * y = z at *
  omega
theorem school_l1 (l0 l1 : List Int) (i : Nat) (x m : Int) (hx : 0 ≤ x ∧ x < 18446744073709551616) (d1 : Dig (b64 : Int) l1) {res : List Int} : ∀ (S P out : List Int) (c : Int), l1 = P ++ S → out.length ≤ 1000000 → i + l1.length < out.length → Dig (b64 : Int) out → 0 ≤ c ∧ c < 18446744073709551616 → out.getD (i + l1.length) 0 = 0 →
    (∀ out' : List Int, out'.length = out.length → Dig (b64 : Int) out' → (∀ j, i + l1.length < j → out'.getD j 0 = out.getD j 0) → val (b64 : Int) out' = val (b64 : Int) out + (b64 : Int) ^ (i + P.length) * (x * val (b64 : Int) S + c) →
      Evt (fun k => nat_school.l0 k l1 out' l0 m (wrap64 ((i : Int) + 1))) res) →
    Evt (fun k => nat_school.l1 k l1 out (i : Int) x c l0 m (i : Int) l1 (l1.length : Int) (P.length : Int)) res := by
  intro S
  induction S with
  | nil =>
    intro P out c hl hlen hfit dO hc h0 cont
    obtain rfl : l1 = P := by simpa using hl
    refine Evt.succ ?_
    simp only [nat_school.l1]
    rw [w64 (x := (i : Int) + (l1.length : Int)) (by omega) (by omega)]
    refine Evt.ite_neg (by omega) (Evt.ite_pos (by omega) (Evt.ite_pos (by omega) ?_))
    have e : ((i : Int) + (l1.length : Int)).toNat = i + l1.length := by omega
    rw [e]
    have hB : (b64 : Int) = 18446744073709551616 := rfl
    refine cont _ (by simp) (dO.set _ (by rw [hB]; exact hc)) (fun j hj => getD_set_ne (by omega)) ?_
    rw [val_set _ _ _ _ hfit, h0]
    simp [val]
  | cons y S ih =>
    intro P out c hl hlen hfit dO hc h0 cont
    have hB : (b64 : Int) = 18446744073709551616 := rfl
    have hll : l1.length = P.length + (S.length + 1) := by rw [hl]; simp
    have hy : 0 ≤ y ∧ y < 18446744073709551616 := by
      have := d1 y (by rw [hl]; simp)
      rwa [hB] at this
    refine Evt.succ ?_
    simp only [nat_school.l1]
    refine Evt.ite_pos (by omega) (Evt.ite_pos (by omega) (Evt.ite_pos (by omega) ?_))
    have er : rd l1 (P.length : Int) = y := by rw [rd_nat, hl]; simp
    rw [er]
    obtain ⟨hi, lo, e1, e2, h3, h4⟩ := bits_Mul64_eq hx hy
    refine Evt.bind (Evt.of fun _ => e1) ?_
    rw [w64 (x := (i : Int) + (P.length : Int)) (by omega) (by omega)]
    refine Evt.ite_pos (by omega) (Evt.ite_pos (by omega) (Evt.ite_pos (carry_of (Or.inl rfl)) ?_))
    rw [show (i : Int) + (P.length : Int) = ((i + P.length : Nat) : Int) from by omega, rd_nat, Int.toNat_natCast]
    have ho := dO.getD b64_pos (i + P.length)
    rw [hB] at ho
    generalize hO : out.getD (i + P.length) 0 = o at *
    obtain ⟨a1, a2, a3⟩ := add0_of h4 ho
    generalize add64_s lo o 0 = s1 at *
    generalize add64_c lo o 0 = q1 at *
    obtain ⟨b1, b2, b3⟩ := add0_of a2 hc
    generalize add64_s s1 c 0 = s2 at *
    generalize add64_c s1 c 0 = q2 at *
    obtain ⟨k0, hq1, k1, hq2, k2⟩ := school_digit hx hy h3 e2 ho hc a1 a3 b1 b2.1 b3
    rw [wu64_of (x := hi + q1) k0 hq1, wu64_of (x := hi + q1 + q2) k1 hq2, w64 (x := (P.length : Int) + 1) (by omega) (by omega)]
    have h := ih (P ++ [y]) (out.set (i + P.length) s2) (hi + q1 + q2) (by rw [hl]; simp) (by simpa using hlen) (by simpa using hfit) (dO.set _ (by rw [hB]; exact b2)) ⟨k1, hq2⟩ (by rw [getD_set_ne (by omega)]; exact h0) ?_
    · rw [show ((P ++ [y]).length : Int) = (P.length : Int) + 1 from by simp] at h
      exact h
    · intro out' hl' d' hj' hv
      refine cont out' (by rw [hl']; simp) d' (fun j hj => by rw [hj' j hj, getD_set_ne (by omega)]) ?_
      rw [hv, val_set _ _ _ _ (by omega), hO, List.length_append, List.length_singleton, ← Nat.add_assoc, Int.pow_succ]
      simp only [val]
      exact school_key (by rw [hB]; exact k2)
theorem school_l0 (l0 l1 : List Int) (h0 : l0.length ≤ 100000) (h1 : l1.length ≤ 100000) (d0 : Dig (b64 : Int) l0) (d1 : Dig (b64 : Int) l1) (n : Nat) : ∀ (i : Nat) (out : List Int), i + n = l0.length → out.length = l0.length + l1.length → Dig (b64 : Int) out → (∀ j, i + l1.length ≤ j → out.getD j 0 = 0) → val (b64 : Int) out = val (b64 : Int) (l0.take i) * val (b64 : Int) l1 →
    Evt (fun k => nat_school.l0 k l1 out l0 (l0.length : Int) (i : Int)) (limbs (num l0 * num l1)) := by
  induction n with
  | zero =>
    intro i out hi hl dO _ hv
    refine Evt.succ ?_
    simp only [nat_school.l0]
    refine Evt.ite_neg (by omega) ?_
    refine Evt.bind (nat_trim_ev out (by simp [maxLen]; omega)) ?_
    rw [strip_limbs dO]
    have e : num out = num l0 * num l1 := by
      have e1 := num_val dO
      rw [hv, List.take_of_length_le (by omega), ← num_val d0, ← num_val d1, ← Int.natCast_mul] at e1
      omega
    rw [e]
    exact Evt.pure _
  | succ n ih =>
    intro i out hi hl dO hz hv
    have hil : i < l0.length := by omega
    refine Evt.succ ?_
    simp only [nat_school.l0]
    refine Evt.ite_pos (by omega) (Evt.ite_pos (by omega) (Evt.ite_pos (by omega) ?_))
    rw [rd_nat]
    have hx := d0.getD b64_pos i
    have hx' : 0 ≤ l0.getD i 0 ∧ l0.getD i 0 < 18446744073709551616 := hx
    have hg : l0.getD i 0 = l0[i] := by simp [hil]
    refine school_l1 l0 l1 i (l0.getD i 0) (l0.length : Int) hx' d1 l1 [] out 0 rfl (by omega) (by omega) dO (by omega) (hz _ (Nat.le_refl _)) ?_
    intro out' hl' d' hj' hv'
    rw [w64 (by omega) (by omega)]
    refine ih (i + 1) out' (by omega) (by omega) d' (fun j hj => by rw [hj' j (by omega), hz j (by omega)]) ?_
    rw [hv', hv, val_take_step _ _ _ hil, ← hg]
    simp only [List.length_nil, Nat.add_zero, Int.add_zero]
    grind
theorem nat_school_ev (l0 l1 : List Int) (h0 : l0.length ≤ 100000) (h1 : l1.length ≤ 100000) (d0 : Dig (b64 : Int) l0) (d1 : Dig (b64 : Int) l1) : Evt (fun k => nat_school.f k l0 l1) (limbs (num l0 * num l1)) := by
  unfold nat_school.f
  rw [w64 (by omega) (by omega), show ((l0.length : Int) + (l1.length : Int)).toNat = l0.length + l1.length from by omega]
  refine Evt.ite_pos (by omega) (Evt.ite_pos (by omega) ?_)
  refine school_l0 l0 l1 h0 h1 d0 d1 l0.length 0 _ (by omega) (by simp) (Dig.replicate b64_pos _) (fun j _ => ?_) ?_
  · rw [List.getD_eq_getElem?_getD, List.getElem?_replicate]
    split <;> rfl
  · rw [val_replicate]
    simp [val]
end Go.Proofs.Ytgeanpnkllnipab.Z
end
section
namespace Go.Proofs.Ytgeanpnkllnipab.F
open Go.RowKit Go.Proofs.YtgeanpnkllnipabW.PrintWords Go.Proofs.YtgeanpnkllnipabW.PrintLast Go.Proofs.YtgeanpnkllnipabW.PrintMore
attribute [local go_sem] max2_int min2_int max_two min_two max_three min_three max_four min_four
set_option linter.unusedVariables false
set_option linter.unusedSimpArgs false
attribute [local go_sem] add64_run
mutual
def nat_into.l0 : Nat → List Int → List Int → Int → Int → Int → Option (List Int)
 | 0, _, _, _, _, _ => none
 | k + 1, x0, x1, x2, x6, x7 => if x7 < (x0.length : Int) then (if (wrap64 (x7 - x2)) < (x1.length : Int) then (nat_into.j1 k x0 x1 x2 x6 x7 true) else (nat_into.j1 k x0 x1 x2 x6 x7 (decide (x6 > 0)))) else (nat_into.j1 k x0 x1 x2 x6 x7 false)
def nat_into.j1 : Nat → List Int → List Int → Int → Int → Int → Bool → Option (List Int)
 | 0, _, _, _, _, _, _ => none
 | k + 1, x0, x1, x2, x6, x7, x25 => if x25 = true then (if (wrap64 (x7 - x2)) < (x1.length : Int) then (if 0 ≤ (wrap64 (x7 - x2)) then (if 0 ≤ x7 then (if x7 < (x0.length : Int) then (if carry01 x6 = true then (nat_into.l0 k (x0.set (x7 : Int).toNat (add64_s (rd x0 x7) (rd x1 (wrap64 (x7 - x2))) x6)) x1 x2 (add64_c (rd x0 x7) (rd x1 (wrap64 (x7 - x2))) x6) (wrap64 (x7 + 1))) else (none)) else (none)) else (none)) else (none)) else (if 0 ≤ x7 then (if x7 < (x0.length : Int) then (if carry01 x6 = true then (nat_into.l0 k (x0.set (x7 : Int).toNat (add64_s (rd x0 x7) 0 x6)) x1 x2 (add64_c (rd x0 x7) 0 x6) (wrap64 (x7 + 1))) else (none)) else (none)) else (none))) else (some x0)
end
def nat_into.f (k : Nat) (l0 : List Int) (l1 : List Int) (a2 : Int) : Option (List Int) := nat_into.l0 k l0 l1 a2 0 a2
set_option maxHeartbeats 8000000 in
set_option maxRecDepth 100000 in
theorem nat_into.calls (k : Nat) (P0_ : Nat → Prop) (u9000_ : Value) (l0 : List Int) (A1 : Option Addr) (c1 : Nat) (l1 : List Int) (a2 : Int) (r : List Int) (w0 w : World) (hB : Below w0.heap.size w0 w) (ho0 : Kd.R (Kd.int .u64) 27 w w0.heap.size P0_ u9000_ l0) (hr1 : ∀ W_, Kept w W_ (fun k_ => P0_ k_) → Kd.C (Kd.int .u64) W_ A1 l1.length l1) (hc1 : l1.length ≤ c1) (h : nat_into.f k l0 l1 a2 = some r) :
  Calls Try.prog 138 #[u9000_, .slice A1 l1.length c1, .int .i64 a2] w fun e w' => e = .returned (.tuple #[]) ∧ Kd.R (Kd.int .u64) 27 w' w0.heap.size (fun k_ => (P0_ k_ ∨ w.heap.size ≤ k_)) u9000_ r ∧ Below w0.heap.size w0 w' ∧ Kept w w' (fun k_ => P0_ k_) := by
 have HO0 := Aside0.mk (show Kd.R (Kd.int .u64) 27 w w0.heap.size (fun k_ => (P0_ k_ ∨ w.heap.size ≤ k_)) u9000_ l0 from Kd.R_mono ho0 (fun k_ hk => (.inl hk)))
 have HR1 := Aside0.mk hr1; have HC1 := Aside0.mk hc1; clear hr1 hc1
 have HK := Aside0.mk (Kept.refl w (fun k_ => P0_ k_))
 have HW0 := Aside0.mk hB.size
 have HB := Aside0.mk hB; clear hB
 have H : (nat_into.l0 k l0 l1 a2 0 a2) = some r := h
 clear h
 have H' := Aside0.mk H
 clear H
 go_enter Try.func138, Try.ntmps138
 go_wp2
 go_loopg [6, 7] k (fun kq v6 v7 w' => ∃ (x0_1 : List Int) (x6_1 : Int) (x7_1 : Int), v6 = .int .u64 x6_1 ∧ v7 = .int .i64 x7_1 ∧ Aside0 (nat_into.l0 kq x0_1 l1 a2 x6_1 x7_1 = some r) ∧ Aside0 (kq ≤ k) ∧ Aside0 (Kd.R (Kd.int .u64) 27 w' w0.heap.size (fun k_ => (P0_ k_ ∨ w.heap.size ≤ k_)) u9000_ x0_1) ∧ Aside0 (Kept w w' (fun k_ => P0_ k_)) ∧ Aside0 (Below w0.heap.size w0 w'))
 case atStart => exact ⟨(l0), (0), (a2), uG, uG, H', ⟨Nat.le_refl _⟩, ⟨uR HO0.out⟩, ⟨by repeat (first | (with_reducible first | exact HK.out | apply Kept.alloc | apply Kept.drewN | apply Kept.drew) | exact HK.out)⟩, ⟨uB⟩⟩
 case round =>
  clear H'
  (try clear c1); (try clear p2)
  obtain ⟨x0_1, x6_1, x7_1, rfl, rfl, HA, HK1, HO_0, HK, HB⟩ := hrel
  cases gk with
  | zero => exact absurd HA.out (by simp [nat_into.l0])
  | succ k1 =>
   have H := HA.out
   clear HA
   simp only [nat_into.l0] at H
   have HC4 := Aside0.mk H; clear H
   go_upto_region 2 with (fail)
   go_cut [25] (fun v25 wc => ∃ (kq : Nat) (x25_3 : Bool), v25 = .bool x25_3 ∧ Aside0 (nat_into.j1 kq x0_1 l1 a2 x6_1 x7_1 x25_3 = some r) ∧ Aside0 (kq ≤ k1) ∧ Aside0 (Kd.R (Kd.int .u64) 27 wc w0.heap.size (fun k_ => (P0_ k_ ∨ w.heap.size ≤ k_)) u9000_ x0_1) ∧ Aside0 (Kept w wc (fun k_ => P0_ k_)) ∧ Aside0 (Below w0.heap.size w0 wc))
   case first =>
    have H := HC4.out
    clear HC4
    by_cases c5 : x7_1 < (x0_1.length : Int)
    ·
     rw [if_pos c5] at H
     have c5b0 : decide (x7_1 < (x0_1.length : Int)) = true := decide_eq_true c5
     clear c5
     (first | rw [c5b0] | (simp only [i64_w, i32_w]; rw [c5b0]) | skip)
     by_cases c6 : (wrap64 (x7_1 - a2)) < (l1.length : Int)
     ·
      rw [if_pos c6] at H
      have c6b0 : decide ((wrap64 (x7_1 - a2)) < (l1.length : Int)) = true := decide_eq_true c6
      clear c6
      have H' := Aside0.mk H
      clear H
      obtain ⟨Ao7, co7, eo7⟩ := Kd.R_slice HO_0.out
      subst eo7
      go_wp2
      go_meet
      case rel => exact ⟨_, (true), uG, H', ⟨by have := HK1.out; first | omega | exact Nat.le_refl _⟩, ⟨uR HO_0.out⟩, ⟨by repeat (first | (with_reducible first | exact HK.out | apply Kept.alloc | apply Kept.drewN | apply Kept.drew) | exact HK.out)⟩, ⟨uB⟩⟩
     rw [if_neg c6] at H
     have c6b0 : decide ((wrap64 (x7_1 - a2)) < (l1.length : Int)) = false := decide_eq_false c6
     clear c6
     have H' := Aside0.mk H
     clear H
     obtain ⟨Ao8, co8, eo8⟩ := Kd.R_slice HO_0.out
     subst eo8
     go_wp2
     go_meet
     case rel => exact ⟨_, (decide (x6_1 > 0)), uG, H', ⟨by have := HK1.out; first | omega | exact Nat.le_refl _⟩, ⟨uR HO_0.out⟩, ⟨by repeat (first | (with_reducible first | exact HK.out | apply Kept.alloc | apply Kept.drewN | apply Kept.drew) | exact HK.out)⟩, ⟨uB⟩⟩
    rw [if_neg c5] at H
    have c5b0 : decide (x7_1 < (x0_1.length : Int)) = false := decide_eq_false c5
    clear c5
    (first | rw [c5b0] | (simp only [i64_w, i32_w]; rw [c5b0]) | skip)
    have H' := Aside0.mk H
    clear H
    obtain ⟨Ao9, co9, eo9⟩ := Kd.R_slice HO_0.out
    subst eo9
    go_wp2
    go_meet
    case rel => exact ⟨_, (false), uG, H', ⟨by have := HK1.out; first | omega | exact Nat.le_refl _⟩, ⟨uR HO_0.out⟩, ⟨by repeat (first | (with_reducible first | exact HK.out | apply Kept.alloc | apply Kept.drewN | apply Kept.drew) | exact HK.out)⟩, ⟨uB⟩⟩
   case rest =>
    clear HC4; (try clear c1); (try clear p2); (try clear c5); (try clear c5b0); (try clear c6); (try clear c6b0); (try clear p6); (try clear p2)
    obtain ⟨kq, x25_3, rfl, HA, HJ3, HO_0, HK, HB⟩ := hcut
    cases kq with
    | zero => exact absurd HA.out (by simp [nat_into.j1])
    | succ kj3 =>
     have H := HA.out
     clear HA
     simp only [nat_into.j1] at H
     by_cases c10 : x25_3 = true
     ·
      subst c10
      have H1 : (if (wrap64 (x7_1 - a2)) < (l1.length : Int) then (if 0 ≤ (wrap64 (x7_1 - a2)) then (if 0 ≤ x7_1 then (if x7_1 < (x0_1.length : Int) then (if carry01 x6_1 = true then (nat_into.l0 kj3 (x0_1.set (x7_1 : Int).toNat (add64_s (rd x0_1 x7_1) (rd l1 (wrap64 (x7_1 - a2))) x6_1)) l1 a2 (add64_c (rd x0_1 x7_1) (rd l1 (wrap64 (x7_1 - a2))) x6_1) (wrap64 (x7_1 + 1))) else (none)) else (none)) else (none)) else (none)) else (if 0 ≤ x7_1 then (if x7_1 < (x0_1.length : Int) then (if carry01 x6_1 = true then (nat_into.l0 kj3 (x0_1.set (x7_1 : Int).toNat (add64_s (rd x0_1 x7_1) 0 x6_1)) l1 a2 (add64_c (rd x0_1 x7_1) 0 x6_1) (wrap64 (x7_1 + 1))) else (none)) else (none)) else (none))) = some r := by rw [if_pos rfl] at H; exact H
      clear H; have H := H1; clear H1
      by_cases c11 : (wrap64 (x7_1 - a2)) < (l1.length : Int)
      ·
       rw [if_pos c11] at H
       have c11b0 : decide ((wrap64 (x7_1 - a2)) < (l1.length : Int)) = true := decide_eq_true c11
       clear c11
       obtain ⟨ji12, hji12⟩ : ∃ j_ : Int, (wrap64 (x7_1 - a2)) = j_ := ⟨_, rfl⟩
       first | rw [hji12] at H | simp only [hji12] at H
       (try rw [hji12] at c11b0)
       have hji12w : (IntKind.i64.wrap (x7_1 - a2)) = ji12 := (i64_w _).trans hji12
       replace H := uT H; obtain ⟨c13, H⟩ := H
       have c13b0 : decide (0 ≤ (ji12)) = true := decide_eq_true c13
       clear c13
       replace H := uT H; obtain ⟨c14, H⟩ := H
       have c14b0 : decide (0 ≤ x7_1) = true := decide_eq_true c14
       clear c14
       replace H := uT H; obtain ⟨c15, H⟩ := H
       have c15b0 : decide (x7_1 < (x0_1.length : Int)) = true := decide_eq_true c15
       clear c15
       replace H := uT H; obtain ⟨c16, H⟩ := H
       have c16b0 : carry01 x6_1 = true := c16
       clear c16
       obtain ⟨y965, hy965⟩ : ∃ y_ : List Int, y_ = (x0_1.set (x7_1 : Int).toNat (add64_s (rd x0_1 x7_1) (rd l1 (ji12)) x6_1)) := ⟨_, rfl⟩
       replace H : (nat_into.l0 kj3 y965 l1 a2 (add64_c (rd x0_1 x7_1) (rd l1 (ji12)) x6_1) (wrap64 (x7_1 + 1))) = some r := by first | (rw [hy965]; with_reducible exact H) | (have H2_ := (Option.bind_some _ _).symm.trans H; rw [hy965]; with_reducible exact H2_) | (have H2_ := (Option.bind_some _ _).symm.trans H; with_reducible exact H2_) | with_reducible exact H | (rw [hy965]; exact H) | exact H
       have Ny965 := Aside0.mk hy965; clear hy965
       have H' := Aside0.mk H
       clear H
       have p963 : 0 ≤ ((ji12) : Int) := uO
       have q963 : (ji12) < (l1.length : Int) := uO
       obtain ⟨ad963, e963, hx963_0⟩ := Kd.at_int (Kd.C_kept_now HR1.out HK.out) (ji12) p963 q963
       cases e963
       replace p963 := eq_true p963
       replace q963 := eq_true q963
       obtain ⟨Ao18, co18, eo18⟩ := Kd.R_slice HO_0.out
       subst eo18
       have p964 : 0 ≤ (x7_1 : Int) := uO
       have q964 : x7_1 < (x0_1.length : Int) := uO
       obtain ⟨ad964, e964, hx964_0⟩ := Kd.at_int (Kd.R_reads' HO_0.out).2.2 x7_1 p964 q964
       cases e964
       replace p964 := eq_true p964
       replace q964 := eq_true q964
       have p17 : 0 ≤ (x7_1 : Int) := uO
       have q17 : (x7_1 : Int) < ((x0_1.length : Int) : Int) := uO
       obtain ⟨go17, co17, eo17, gb17, gl17, cl17, HG17⟩ := Kd.R_form HO_0.out (by omega)
       (first | cases eo17 | (injection eo17 with ea_ en_ ec_; (first | subst ea_ | (injection ea_ with ea_; subst ea_)); subst ec_; clear en_))
       have GB17 := Aside0.mk gb17; have GG17 := Aside0.mk HG17; clear gb17 gl17 HG17
       have HMgo17 := Aside0.mk (show (P0_ go17 ∨ w.heap.size ≤ go17) from (HO_0.out.1 _ rfl))
       (first | simp only [add_plain] at hx964_0 | skip)
       obtain ⟨hx17_0, hf17_0⟩ := Kd.R_celln 0 HO_0.out (x7_1 : Int) p17 q17
       replace p17 := eq_true p17
       replace q17 := eq_true q17
       have HP19 := Kd.R_putg HO_0.out (x7_1 : Int) (add64_s (rd x0_1 x7_1) (rd l1 (ji12)) x6_1)
       go_wp2_with (first | ((with_reducible refine gate_store (t := 27) (p := 52) rfl ?_); refine store_event (t := 27) (p := 52) (v := ?vo_w20) (w1 := (wc.setCell ⟨go17, (x7_1 : Int).toNat, none⟩ (.int .u64 (add64_s (rd x0_1 x7_1) (rd l1 (ji12)) x6_1)))) ?hg ?ho ?hn ?hr ?_; (case ho => rfl); (case hg => rfl); (case hn => rfl); (case hr => first | (go_simp; done) | (go_simp; rfl) | (obtain ⟨hy_, hz_⟩ := Kd.R_celln 0 HO_0.out (x7_1 : Int) uO uO; (try simp only [Go.IntWalk.toNatUp] at hy_ hz_); (try simp only [Int.reduceToNat, Int.toNat_zero, Int.toNat_ofNat] at hy_ hz_); first | (go_simp; done) | (go_simp; rfl))); intro w20 hw; have hg : wc.grownBy w20 (some go17) := (by rw [hw]; exact HP19.2); have hp_ : Kd.R (Kd.int .u64) 27 w20 w0.heap.size (fun k_ => (P0_ k_ ∨ w.heap.size ≤ k_)) (.slice (some ⟨go17, 0, none⟩) x0_1.length co18) y965 := (by rw [hw, Ny965.out]; exact HP19.1); clear HP19; replace HB := Aside0.mk ((by rw [hw]; exact below_set (HB.out) GB17.out : Below w0.heap.size w0 w20)); replace HK := Aside0.mk (Kept.of_grown (S := (fun k_ => P0_ k_)) hg (by repeat (first | (with_reducible first | exact HK.out | apply Kept.alloc | apply Kept.drewN | apply Kept.drew) | exact HK.out)) (fun k_ e_ => (HO_0.out.1 k_ e_))); replace HO_0 := Aside0.mk (hp_); clear hg hw hp_))
       first | go_roundg kj3 | ((try simp only [← hji12] at H'); simp only [← hji12]; go_roundg kj3)
       case measure => have := HK1.out; have := HJ3.out; omega
       case rel => first | exact ⟨(y965), (add64_c (rd x0_1 x7_1) (rd l1 (ji12)) x6_1), (wrap64 (x7_1 + 1)), (by first | rfl | (simp; done) | (simp only [← hji12] <;> (first | rfl | simp)) | (simp [*]; done)), uG, H', ⟨by have := HK1.out; have := HJ3.out; omega⟩, ⟨uR HO_0.out⟩, ⟨by repeat (first | (with_reducible first | exact HK.out | apply Kept.alloc | apply Kept.drewN | apply Kept.drew) | exact HK.out)⟩, ⟨uB⟩⟩ | (simp only [← hji12] at H'; exact ⟨(y965), (add64_c (rd x0_1 x7_1) (rd l1 (ji12)) x6_1), (wrap64 (x7_1 + 1)), (by first | rfl | (simp; done) | (simp only [← hji12] <;> (first | rfl | simp)) | (simp [*]; done)), uG, H', ⟨by have := HK1.out; have := HJ3.out; omega⟩, ⟨uR HO_0.out⟩, ⟨by repeat (first | (with_reducible first | exact HK.out | apply Kept.alloc | apply Kept.drewN | apply Kept.drew) | exact HK.out)⟩, ⟨uB⟩⟩)
      rw [if_neg c11] at H
      have c11b0 : decide ((wrap64 (x7_1 - a2)) < (l1.length : Int)) = false := decide_eq_false c11
      clear c11
      replace H := uT H; obtain ⟨c21, H⟩ := H
      have c21b0 : decide (0 ≤ x7_1) = true := decide_eq_true c21
      clear c21
      replace H := uT H; obtain ⟨c22, H⟩ := H
      have c22b0 : decide (x7_1 < (x0_1.length : Int)) = true := decide_eq_true c22
      clear c22
      replace H := uT H; obtain ⟨c23, H⟩ := H
      have c23b0 : carry01 x6_1 = true := c23
      clear c23
      obtain ⟨y967, hy967⟩ : ∃ y_ : List Int, y_ = (x0_1.set (x7_1 : Int).toNat (add64_s (rd x0_1 x7_1) 0 x6_1)) := ⟨_, rfl⟩
      replace H : (nat_into.l0 kj3 y967 l1 a2 (add64_c (rd x0_1 x7_1) 0 x6_1) (wrap64 (x7_1 + 1))) = some r := by first | (rw [hy967]; with_reducible exact H) | (have H2_ := (Option.bind_some _ _).symm.trans H; rw [hy967]; with_reducible exact H2_) | (have H2_ := (Option.bind_some _ _).symm.trans H; with_reducible exact H2_) | with_reducible exact H | (rw [hy967]; exact H) | exact H
      have Ny967 := Aside0.mk hy967; clear hy967
      have H' := Aside0.mk H
      clear H
      obtain ⟨Ao25, co25, eo25⟩ := Kd.R_slice HO_0.out
      subst eo25
      have p966 : 0 ≤ (x7_1 : Int) := uO
      have q966 : x7_1 < (x0_1.length : Int) := uO
      obtain ⟨ad966, e966, hx966_0⟩ := Kd.at_int (Kd.R_reads' HO_0.out).2.2 x7_1 p966 q966
      cases e966
      replace p966 := eq_true p966
      replace q966 := eq_true q966
      have p24 : 0 ≤ (x7_1 : Int) := uO
      have q24 : (x7_1 : Int) < ((x0_1.length : Int) : Int) := uO
      obtain ⟨go24, co24, eo24, gb24, gl24, cl24, HG24⟩ := Kd.R_form HO_0.out (by omega)
      (first | cases eo24 | (injection eo24 with ea_ en_ ec_; (first | subst ea_ | (injection ea_ with ea_; subst ea_)); subst ec_; clear en_))
      have GB24 := Aside0.mk gb24; have GG24 := Aside0.mk HG24; clear gb24 gl24 HG24
      have HMgo24 := Aside0.mk (show (P0_ go24 ∨ w.heap.size ≤ go24) from (HO_0.out.1 _ rfl))
      (first | simp only [add_plain] at hx966_0 | skip)
      obtain ⟨hx24_0, hf24_0⟩ := Kd.R_celln 0 HO_0.out (x7_1 : Int) p24 q24
      replace p24 := eq_true p24
      replace q24 := eq_true q24
      have HP26 := Kd.R_putg HO_0.out (x7_1 : Int) (add64_s (rd x0_1 x7_1) 0 x6_1)
      go_wp2_with (first | ((with_reducible refine gate_store (t := 27) (p := 52) rfl ?_); refine store_event (t := 27) (p := 52) (v := ?vo_w27) (w1 := (wc.setCell ⟨go24, (x7_1 : Int).toNat, none⟩ (.int .u64 (add64_s (rd x0_1 x7_1) 0 x6_1)))) ?hg ?ho ?hn ?hr ?_; (case ho => rfl); (case hg => rfl); (case hn => rfl); (case hr => first | (go_simp; done) | (go_simp; rfl) | (obtain ⟨hy_, hz_⟩ := Kd.R_celln 0 HO_0.out (x7_1 : Int) uO uO; (try simp only [Go.IntWalk.toNatUp] at hy_ hz_); (try simp only [Int.reduceToNat, Int.toNat_zero, Int.toNat_ofNat] at hy_ hz_); first | (go_simp; done) | (go_simp; rfl))); intro w27 hw; have hg : wc.grownBy w27 (some go24) := (by rw [hw]; exact HP26.2); have hp_ : Kd.R (Kd.int .u64) 27 w27 w0.heap.size (fun k_ => (P0_ k_ ∨ w.heap.size ≤ k_)) (.slice (some ⟨go24, 0, none⟩) x0_1.length co25) y967 := (by rw [hw, Ny967.out]; exact HP26.1); clear HP26; replace HB := Aside0.mk ((by rw [hw]; exact below_set (HB.out) GB24.out : Below w0.heap.size w0 w27)); replace HK := Aside0.mk (Kept.of_grown (S := (fun k_ => P0_ k_)) hg (by repeat (first | (with_reducible first | exact HK.out | apply Kept.alloc | apply Kept.drewN | apply Kept.drew) | exact HK.out)) (fun k_ e_ => (HO_0.out.1 k_ e_))); replace HO_0 := Aside0.mk (hp_); clear hg hw hp_))
      first | go_roundg kj3 | ((try simp only [← hji12] at H'); simp only [← hji12]; go_roundg kj3)
      case measure => have := HK1.out; have := HJ3.out; omega
      case rel => first | exact ⟨(y967), (add64_c (rd x0_1 x7_1) 0 x6_1), (wrap64 (x7_1 + 1)), uG, uG, H', ⟨by have := HK1.out; have := HJ3.out; omega⟩, ⟨uR HO_0.out⟩, ⟨by repeat (first | (with_reducible first | exact HK.out | apply Kept.alloc | apply Kept.drewN | apply Kept.drew) | exact HK.out)⟩, ⟨uB⟩⟩ | (simp only [← hji12] at H'; exact ⟨(y967), (add64_c (rd x0_1 x7_1) 0 x6_1), (wrap64 (x7_1 + 1)), uG, uG, H', ⟨by have := HK1.out; have := HJ3.out; omega⟩, ⟨uR HO_0.out⟩, ⟨by repeat (first | (with_reducible first | exact HK.out | apply Kept.alloc | apply Kept.drewN | apply Kept.drew) | exact HK.out)⟩, ⟨uB⟩⟩)
     replace c10 := Bool.eq_false_iff.mpr c10
     subst c10
     have H1 : (some x0_1) = some r := by rw [if_neg (show ¬ (false = true) by decide)] at H; exact H
     clear H; have H := H1; clear H1
     obtain rfl := Option.some.inj H
     go_wp2
     first | go_end0 | ((try simp only [Exit.inBlock, Exit.then]); refine bodyPost_ret (results_none rfl _ _ _) rfl ?_)
     exact ⟨uF, uR HO_0.out, uB, by repeat (first | (with_reducible first | exact HK.out | apply Kept.alloc | apply Kept.drewN | apply Kept.drew) | exact HK.out)⟩
end Go.Proofs.Ytgeanpnkllnipab.F
end
section
namespace Go.Proofs.Ytgeanpnkllnipab.Z
open Go.RowKit Go.Proofs.Ytgeanpnkllnipab.F Go.Proofs.YtgeanpnkllnipabW.PrintWords
set_option linter.unusedSimpArgs false
set_option linter.unusedVariables false
theorem add64_of {x y c : Int} (hx : 0 ≤ x ∧ x < 18446744073709551616) (hy : 0 ≤ y ∧ y < 18446744073709551616) (hc : c = 0 ∨ c = 1) :
    add64_s x y c + 18446744073709551616 * add64_c x y c = x + y + c ∧ (0 ≤ add64_s x y c ∧ add64_s x y c < 18446744073709551616) ∧ (add64_c x y c = 0 ∨ add64_c x y c = 1) := by
  unfold add64_s add64_c
  omega
theorem val_drop_step (B : Int) (a : List Int) (j : Nat) : val B (a.drop j) = a.getD j 0 + B * val B (a.drop (j + 1)) := by
  by_cases h : j < a.length
  · rw [List.drop_eq_getElem_cons h, val, List.getD_eq_getElem?_getD, List.getElem?_eq_getElem h]
    rfl
  · rw [List.drop_of_length_le (by omega), List.drop_of_length_le (by omega), List.getD_eq_getElem?_getD, List.getElem?_eq_none (by omega)]
    simp [val]
theorem nat_into_loop (a : List Int) (at_ : Nat) (da : Dig (b64 : Int) a) (n : Nat) : ∀ (i : Nat) (out : List Int) (c : Int), n + i = max out.length i → at_ ≤ i → i ≤ 1000000 → out.length ≤ 1000000 → Dig (b64 : Int) out → (c = 0 ∨ c = 1) →
    val (b64 : Int) out + (b64 : Int) ^ i * (val (b64 : Int) (a.drop (i - at_)) + c) < (b64 : Int) ^ out.length →
    ∃ r : List Int, Evt (fun k => nat_into.l0 k out a (at_ : Int) c (i : Int)) r ∧ Dig (b64 : Int) r ∧ r.length = out.length ∧ val (b64 : Int) r = val (b64 : Int) out + (b64 : Int) ^ i * (val (b64 : Int) (a.drop (i - at_)) + c) := by
  have hB : (b64 : Int) = 18446744073709551616 := rfl
  induction n with
  | zero =>
    intro i out c hn ha hi ho dO hc hf
    have hv0 := val_nonneg b64_pos dO
    have hd0 := val_nonneg b64_pos (da.drop (i - at_))
    have hpi : (0 : Int) < (b64 : Int) ^ i := Int.pow_pos (by rw [hB]; omega)
    have hpm : (b64 : Int) ^ out.length ≤ (b64 : Int) ^ i := pow_mono b64_pos (by omega)
    have hz : val (b64 : Int) (a.drop (i - at_)) + c = 0 := by
      by_cases h : val (b64 : Int) (a.drop (i - at_)) + c = 0
      · exact h
      · exfalso
        have h2 : (b64 : Int) ^ i * 1 ≤ (b64 : Int) ^ i * (val (b64 : Int) (a.drop (i - at_)) + c) := Int.mul_le_mul_of_nonneg_left (by omega) (by omega)
        omega
    refine ⟨out, ?_, dO, rfl, by rw [hz]; simp⟩
    refine Evt.succ ?_
    simp only [nat_into.l0]
    refine Evt.ite_neg (by omega) (Evt.succ ?_)
    simp only [nat_into.j1]
    refine Evt.ite_neg (by simp) (Evt.pure _)
  | succ n ih =>
    intro i out c hn ha hi ho dO hc hf
    have hio : i < out.length := by omega
    have hd0 := val_nonneg b64_pos (da.drop (i - at_))
    have hj : wrap64 ((i : Int) - (at_ : Int)) = ((i - at_ : Nat) : Int) := by rw [w64 (by omega) (by omega)]; omega
    have hO := dO.getD b64_pos i
    rw [hB] at hO
    have step : ∀ y : Int, y = a.getD (i - at_) 0 → ∃ r : List Int, Evt (fun k => nat_into.l0 k (out.set i (add64_s (out.getD i 0) y c)) a (at_ : Int) (add64_c (out.getD i 0) y c) (wrap64 ((i : Int) + 1))) r ∧ Dig (b64 : Int) r ∧ r.length = out.length ∧ val (b64 : Int) r = val (b64 : Int) out + (b64 : Int) ^ i * (val (b64 : Int) (a.drop (i - at_)) + c) := by
      intro y hy
      have hY := da.getD b64_pos (i - at_)
      rw [hB, ← hy] at hY
      obtain ⟨a1, a2, a3⟩ := add64_of hO hY hc
      have hvs := val_set (b64 : Int) out i (add64_s (out.getD i 0) y c) hio
      have hds := val_drop_step (b64 : Int) a (i - at_)
      rw [← hy] at hds
      generalize add64_s (out.getD i 0) y c = s at *
      generalize add64_c (out.getD i 0) y c = q at *
      have key : val (b64 : Int) (out.set i s) + (b64 : Int) ^ (i + 1) * (val (b64 : Int) (a.drop (i + 1 - at_)) + q) = val (b64 : Int) out + (b64 : Int) ^ i * (val (b64 : Int) (a.drop (i - at_)) + c) := by
        rw [hvs, hds, show i + 1 - at_ = i - at_ + 1 from by omega, Int.pow_succ]
        have e8 : s + (b64 : Int) * q = out.getD i 0 + y + c := by rw [hB]; omega
        generalize (b64 : Int) ^ i = W at *
        generalize val (b64 : Int) out = p at *
        generalize val (b64 : Int) (a.drop (i - at_ + 1)) = t at *
        generalize out.getD i 0 = o at *
        generalize (b64 : Int) = B at *
        have e9 : W * (y + B * t + c) = W * (o + y + c) - W * o + W * (B * t) := by grind
        rw [e9, ← e8]
        grind
      rw [w64 (by omega) (by omega)]
      have h := ih (i + 1) (out.set i s) q (by simp; omega) (by omega) (by omega) (by simpa using ho) (dO.set _ (by rw [hB]; exact a2)) a3 (by rw [key, List.length_set]; exact hf)
      obtain ⟨r, r1, r2, r3, r4⟩ := h
      exact ⟨r, r1, r2, by rw [r3, List.length_set], by rw [r4, key]⟩
    by_cases h1 : i - at_ < a.length
    · obtain ⟨r, r1, r2⟩ := step (a.getD (i - at_) 0) rfl
      refine ⟨r, ?_, r2⟩
      refine Evt.succ ?_
      simp only [nat_into.l0]
      rw [hj]
      refine Evt.ite_pos (by omega) (Evt.ite_pos (by omega) (Evt.succ ?_))
      simp only [nat_into.j1]
      rw [hj, rd_nat, rd_nat, Int.toNat_natCast]
      exact Evt.ite_pos trivial (Evt.ite_pos (by omega) (Evt.ite_pos (by omega) (Evt.ite_pos (by omega) (Evt.ite_pos (by omega) (Evt.ite_pos (carry_of hc) r1)))))
    · have hy0 : a.getD (i - at_) 0 = 0 := by
        rw [List.getD_eq_getElem?_getD, List.getElem?_eq_none (by omega)]
        rfl
      rcases hc with rfl | rfl
      · refine ⟨out, ?_, dO, rfl, ?_⟩
        · refine Evt.succ ?_
          simp only [nat_into.l0]
          rw [hj]
          refine Evt.ite_pos (by omega) (Evt.ite_neg (by omega) (Evt.succ ?_))
          simp only [nat_into.j1]
          exact Evt.ite_neg (by simp) (Evt.pure _)
        · rw [List.drop_of_length_le (by omega)]
          simp [val]
      · obtain ⟨r, r1, r2⟩ := step 0 hy0.symm
        refine ⟨r, ?_, r2⟩
        refine Evt.succ ?_
        simp only [nat_into.l0]
        rw [hj]
        refine Evt.ite_pos (by omega) (Evt.ite_neg (by omega) (Evt.succ ?_))
        simp only [nat_into.j1]
        rw [hj, rd_nat, Int.toNat_natCast]
        exact Evt.ite_pos (by simp) (Evt.ite_neg (by omega) (Evt.ite_pos (by omega) (Evt.ite_pos (by omega) (Evt.ite_pos (carry_of (Or.inr rfl)) r1))))
theorem nat_into_ev (out a : List Int) (at_ : Nat) (ha : at_ ≤ 1000000) (ho : out.length ≤ 1000000) (dO : Dig (b64 : Int) out) (da : Dig (b64 : Int) a) (hf : val (b64 : Int) out + (b64 : Int) ^ at_ * val (b64 : Int) a < (b64 : Int) ^ out.length) :
    ∃ r : List Int, Evt (fun k => nat_into.f k out a (at_ : Int)) r ∧ Dig (b64 : Int) r ∧ r.length = out.length ∧ val (b64 : Int) r = val (b64 : Int) out + (b64 : Int) ^ at_ * val (b64 : Int) a := by
  have h := nat_into_loop a at_ da (max out.length at_ - at_) at_ out 0 (by omega) (Nat.le_refl _) ha ho dO (Or.inl rfl) (by simpa using hf)
  obtain ⟨r, r1, r2, r3, r4⟩ := h
  refine ⟨r, ?_, r2, r3, by simpa using r4⟩
  unfold nat_into.f
  exact r1
theorem num_strip {l : List Int} (d : Dig (b64 : Int) l) : num (strip l) = num l := by rw [strip_limbs d, num_limbs]
theorem num_split {l : List Int} (d : Dig (b64 : Int) l) (n : Nat) : num l = num (strip (l.take n)) + b64 ^ n * num (l.drop n) := by
  rw [num_strip (d.take n)]
  have h1 := num_val d
  have h2 := num_val (d.take n)
  have h3 := num_val (d.drop n)
  have h4 := val_append (b64 : Int) (l.take n) (l.drop n)
  rw [List.take_append_drop] at h4
  rcases Nat.le_total n l.length with h | h
  · have h5 : (l.take n).length = n := by rw [List.length_take]; omega
    rw [h5, ← h1, ← h2, ← h3, pow_cast, ← Int.natCast_mul] at h4
    omega
  · have h5 : num (l.drop n) = 0 := by rw [List.drop_of_length_le h]; rfl
    rw [h5, Nat.mul_zero, List.take_of_length_le h]
    rfl
theorem limbs_len {v n : Nat} (h : v < b64 ^ n) : (limbs v).length ≤ n := toD_len_le b64_two h
theorem limbs_dig (v : Nat) : Dig (b64 : Int) (limbs v) := toD_dig b64_two v
theorem limbs_mono {v w : Nat} (h : v ≤ w) : (limbs v).length ≤ (limbs w).length := by
  have h1 : w < b64 ^ (limbs w).length := toD_lt_pow b64_two w
  exact limbs_len (by omega)
theorem mul_lt_pow {x y a b : Nat} (hx : x < b64 ^ a) (hy : y < b64 ^ b) : x * y < b64 ^ (a + b) := by
  rw [Nat.pow_add]
  exact Nat.mul_lt_mul'' hx hy
theorem kara_num {A B X a1 a0 b1 b0 : Nat} (hA : A = a0 + X * a1) (hB : B = b0 + X * b1) :
    a0 * b0 ≤ (a0 + a1) * (b0 + b1) ∧ a1 * b1 ≤ (a0 + a1) * (b0 + b1) - a0 * b0 ∧ A * B = a0 * b0 + X * ((a0 + a1) * (b0 + b1) - a0 * b0 - a1 * b1) + X * X * (a1 * b1) := by
  have e : (a0 + a1) * (b0 + b1) = a0 * b0 + (a0 * b1 + a1 * b0) + a1 * b1 := by grind
  rw [e]
  refine ⟨by omega, by omega, ?_⟩
  have e2 : a0 * b0 + (a0 * b1 + a1 * b0) + a1 * b1 - a0 * b0 - a1 * b1 = a0 * b1 + a1 * b0 := by omega
  rw [e2, hA, hB]
  grind
theorem kara_ev (l0 l1 : List Int) (h0 : l0.length ≤ 400) (h1 : l1.length ≤ 400) (h2 : 24 ≤ l0.length) (h3 : 24 ≤ l1.length) (d0 : Dig (b64 : Int) l0) (d1 : Dig (b64 : Int) l1) (n : Nat) (hn : n = (max l0.length l1.length + 1) / 2)
    (LA LB HA HB P Q O1 : List Int) (eLA : LA = strip (l0.take n)) (eLB : LB = strip (l1.take n)) (eHA : HA = l0.drop n) (eHB : HB = l1.drop n) (eP : P = limbs (num LA * num LB)) (eQ : Q = limbs (num HA * num HB))
    (eO : O1 = P.take (min P.length (l0.length + l1.length + 1)) ++ (List.replicate (l0.length + l1.length + 1) (0 : Int)).drop (min P.length (l0.length + l1.length + 1))) :
    (LA.length + LB.length < l0.length + l1.length ∧ LA.length ≤ 400 ∧ LB.length ≤ 400 ∧ Dig (b64 : Int) LA ∧ Dig (b64 : Int) LB) ∧
    (HA.length + HB.length < l0.length + l1.length ∧ HA.length ≤ 400 ∧ HB.length ≤ 400 ∧ Dig (b64 : Int) HA ∧ Dig (b64 : Int) HB) ∧
    ∃ S1 S2 T1 T2 M U U1 V V1 O2 O3 : List Int, (∃ k, nat_sum.f k LA HA = some S1) ∧ (∃ k, nat_sum.f k LB HB = some S2) ∧ T1 = strip S1 ∧ T2 = strip S2 ∧
      (T1.length + T2.length < l0.length + l1.length ∧ T1.length ≤ 400 ∧ T2.length ≤ 400 ∧ Dig (b64 : Int) T1 ∧ Dig (b64 : Int) T2) ∧ M = limbs (num T1 * num T2) ∧
      (∃ k, nat_less.f k M P = some U) ∧ U1 = strip U ∧ (∃ k, nat_less.f k U1 Q = some V) ∧ V1 = strip V ∧
      (∃ k, nat_into.f k O1 V1 (n : Int) = some O2) ∧ (∃ k, nat_into.f k O2 Q ((2 * n : Nat) : Int) = some O3) ∧ (∃ k, nat_trim.f k O3 = some (limbs (num l0 * num l1))) := by
  have lLA : LA.length ≤ n := by
    have := strip_length (l0.take n)
    rw [List.length_take] at this
    rw [eLA]; omega
  have lLB : LB.length ≤ n := by
    have := strip_length (l1.take n)
    rw [List.length_take] at this
    rw [eLB]; omega
  have lHA : HA.length ≤ n := by rw [eHA, List.length_drop]; omega
  have lHB : HB.length ≤ n := by rw [eHB, List.length_drop]; omega
  have lHA' : HA.length ≤ l0.length - n := by rw [eHA, List.length_drop]; omega
  have lHB' : HB.length ≤ l1.length - n := by rw [eHB, List.length_drop]; omega
  have dLA : Dig (b64 : Int) LA := by rw [eLA]; exact strip_dig (d0.take n)
  have dLB : Dig (b64 : Int) LB := by rw [eLB]; exact strip_dig (d1.take n)
  have dHA : Dig (b64 : Int) HA := by rw [eHA]; exact d0.drop n
  have dHB : Dig (b64 : Int) HB := by rw [eHB]; exact d1.drop n
  have sA : num l0 = num LA + b64 ^ n * num HA := by rw [eLA, eHA]; exact num_split d0 n
  have sB : num l1 = num LB + b64 ^ n * num HB := by rw [eLB, eHB]; exact num_split d1 n
  obtain ⟨k1, k2, k3⟩ := kara_num sA sB
  have pn : ∀ {l : List Int} {m : Nat}, Dig (b64 : Int) l → l.length ≤ m → num l < b64 ^ m := fun d h => Nat.lt_of_lt_of_le (num_lt d) (Nat.pow_le_pow_right (by decide) h)
  have vLA := pn dLA lLA
  have vLB := pn dLB lLB
  have vHA := pn dHA lHA
  have vHB := pn dHB lHB
  have hpn : b64 ^ n + b64 ^ n ≤ b64 ^ (n + 1) := by
    have hb2 := Nat.mul_le_mul_left (b64 ^ n) b64_two
    rw [Nat.pow_succ]
    omega
  obtain ⟨S1, e1, dS1, nS1, lS1⟩ := nat_sum_ev LA HA (by omega) (by omega) dLA dHA
  obtain ⟨S2, e2, dS2, nS2, lS2⟩ := nat_sum_ev LB HB (by omega) (by omega) dLB dHB
  have nT1 : num (strip S1) = num LA + num HA := by rw [num_strip dS1, nS1]
  have nT2 : num (strip S2) = num LB + num HB := by rw [num_strip dS2, nS2]
  have lT1 : (strip S1).length ≤ n + 1 := by rw [strip_limbs dS1]; exact limbs_len (by omega)
  have lT2 : (strip S2).length ≤ n + 1 := by rw [strip_limbs dS2]; exact limbs_len (by omega)
  obtain ⟨M, eM⟩ : ∃ M, M = limbs (num (strip S1) * num (strip S2)) := ⟨_, rfl⟩
  have nM : num M = (num LA + num HA) * (num LB + num HB) := by rw [eM, num_limbs, nT1, nT2]
  have nP : num P = num LA * num LB := by rw [eP, num_limbs]
  have nQ : num Q = num HA * num HB := by rw [eQ, num_limbs]
  have dM : Dig (b64 : Int) M := by rw [eM]; exact limbs_dig _
  have dP : Dig (b64 : Int) P := by rw [eP]; exact limbs_dig _
  have dQ : Dig (b64 : Int) Q := by rw [eQ]; exact limbs_dig _
  have lM : M.length ≤ (n + 1) + (n + 1) := by
    rw [eM]
    refine limbs_len (mul_lt_pow ?_ ?_)
    · rw [nT1]; omega
    · rw [nT2]; omega
  have lPM : P.length ≤ M.length := by
    rw [eP, eM]
    exact limbs_mono (by rw [nT1, nT2]; exact k1)
  obtain ⟨U, e3, dU, nU, lU⟩ := nat_less_ev M P (by omega) lPM dM dP (by rw [nP, nM]; exact k1)
  have nU1 : num (strip U) = (num LA + num HA) * (num LB + num HB) - num LA * num LB := by rw [num_strip dU, nU, nM, nP]
  have dU1 : Dig (b64 : Int) (strip U) := strip_dig dU
  have lU1 : (strip U).length ≤ M.length := by have := strip_length U; omega
  have lQU : Q.length ≤ (strip U).length := by
    rw [eQ, strip_limbs dU]
    refine limbs_mono ?_
    rw [← num_strip dU, nU1]
    exact k2
  obtain ⟨V, e4, dV, nV, lV⟩ := nat_less_ev (strip U) Q (by omega) lQU dU1 dQ (by rw [nQ, nU1]; exact k2)
  have nV1 : num (strip V) = (num LA + num HA) * (num LB + num HB) - num LA * num LB - num HA * num HB := by rw [num_strip dV, nV, nU1, nQ]
  have dV1 : Dig (b64 : Int) (strip V) := strip_dig dV
  obtain ⟨N, eN⟩ : ∃ N, N = l0.length + l1.length + 1 := ⟨_, rfl⟩
  rw [← eN] at eO
  have tot : num l0 * num l1 < b64 ^ N := by
    have h := mul_lt_pow (num_lt d0) (num_lt d1)
    exact Nat.lt_of_lt_of_le h (Nat.pow_le_pow_right (by decide) (by omega))
  have lP : P.length ≤ N := by
    rw [eP]
    refine limbs_len ?_
    rw [k3] at tot
    omega
  have eO' : O1 = P ++ List.replicate (N - P.length) 0 := by
    rw [eO, show min P.length N = P.length from by omega, List.take_length]
    congr 1
    exact List.drop_replicate
  have lO1 : O1.length = N := by rw [eO']; simp; omega
  have dO1 : Dig (b64 : Int) O1 := by rw [eO']; exact Dig.append.2 ⟨dP, Dig.replicate b64_pos _⟩
  have vO1 : val (b64 : Int) O1 = ((num LA * num LB : Nat) : Int) := by
    rw [eO', val_append, val_replicate, Int.mul_zero, Int.add_zero, ← num_val dP, nP]
  have c1 : ((b64 ^ n : Nat) : Int) = (b64 : Int) ^ n := (pow_cast b64 n).symm
  have cN : ((b64 ^ N : Nat) : Int) = (b64 : Int) ^ N := (pow_cast b64 N).symm
  have vV1 : val (b64 : Int) (strip V) = (((num LA + num HA) * (num LB + num HB) - num LA * num LB - num HA * num HB : Nat) : Int) := by rw [← num_val dV1, nV1]
  have vQ : val (b64 : Int) Q = ((num HA * num HB : Nat) : Int) := by rw [← num_val dQ, nQ]
  obtain ⟨O2, e5, dO2, lO2, vO2⟩ := nat_into_ev O1 (strip V) n (by omega) (by omega) dO1 dV1 (by
    rw [vO1, vV1, lO1, ← c1, ← cN, ← Int.natCast_mul, ← Int.natCast_add]
    apply Int.ofNat_lt.2
    rw [k3] at tot
    omega)
  have cc : ((b64 ^ n * b64 ^ n : Nat) : Int) = (b64 : Int) ^ (2 * n) := by
    rw [← Nat.pow_add, show n + n = 2 * n from by omega]
    exact (pow_cast b64 (2 * n)).symm
  have vO2' : val (b64 : Int) O2 = ((num LA * num LB + b64 ^ n * ((num LA + num HA) * (num LB + num HB) - num LA * num LB - num HA * num HB) : Nat) : Int) := by
    rw [vO2, vO1, vV1, ← c1, ← Int.natCast_mul, ← Int.natCast_add]
  obtain ⟨O3, e6, dO3, lO3, vO3⟩ := nat_into_ev O2 Q (2 * n) (by omega) (by omega) dO2 dQ (by
    rw [vO2', vQ, lO2, lO1, ← cc, ← cN, ← Int.natCast_mul, ← Int.natCast_add]
    apply Int.ofNat_lt.2
    rw [k3] at tot
    exact tot)
  have nO3 : num O3 = num l0 * num l1 := by
    have h := num_val dO3
    rw [vO3, vO2', vQ, ← cc, ← Int.natCast_mul, ← Int.natCast_add] at h
    rw [k3]
    exact Int.ofNat.inj h
  have e7 := nat_trim_ev O3 (by simp [maxLen]; omega)
  rw [strip_limbs dO3, nO3] at e7
  refine ⟨⟨by omega, by omega, by omega, dLA, dLB⟩, ⟨by omega, by omega, by omega, dHA, dHB⟩, S1, S2, strip S1, strip S2, M, U, strip U, V, strip V, O2, O3, e1.get, e2.get, rfl, rfl, ⟨by omega, by omega, by omega, strip_dig dS1, strip_dig dS2⟩, eM, e3.get, rfl, e4.get, rfl, e5.get, e6.get, e7.get⟩
end Go.Proofs.Ytgeanpnkllnipab.Z
end
section
namespace Go.Proofs.Ytgeanpnkllnipab.F
open Go.RowKit Go.Proofs.YtgeanpnkllnipabW.PrintWords Go.Proofs.YtgeanpnkllnipabW.PrintLast Go.Proofs.YtgeanpnkllnipabW.PrintMore
theorem max2_mx (k k' : IntKind) (x y : Int) : Builtin.max2 (.int k x) (.int k' y) = pure (.int k (max x y)) := by
  rw [max2_int]
  congr 2
  by_cases h : x < y
  · rw [if_pos h]; omega
  · rw [if_neg h]; omega
attribute [local go_sem] max2_mx max_two
set_option linter.unusedVariables false
set_option linter.unusedSimpArgs false
open Go.Proofs.Ytgeanpnkllnipab.Z (strip Dig b64 num limbs)
def hval (gh : Nat) : Value := .func (.func 134) #[] #[.pointer (some ⟨gh, 0, none⟩)]
def hobj (gh : Nat) : Obj := .cells #[hval gh] 59 (0, 0)
def Halved (gh : Nat) (A0 : Option Addr) (c0 : Nat) (l0 : List Int) (A1 : Option Addr) (c1 : Nat) (l1 : List Int) (w : World) : Prop :=
  Calls Try.prog 134 #[.slice A0 l0.length c0, .slice A1 l1.length c1, .pointer (some ⟨gh, 0, none⟩)] w fun e w' => ∃ v : Value, e = .returned v ∧ Kd.R (Kd.int .u64) 27 w' w.heap.size (fun _ => True) v (limbs (num l0 * num l1)) ∧ Below w.heap.size w w'
theorem C_low {W : World} {A : Option Addr} {l : List Int} (n : Nat) (h : Kd.C (Kd.int .u64) W A l.length l) : Kd.C (Kd.int .u64) W A (strip (l.take n)).length (strip (l.take n)) := by
  obtain ⟨k, hk, hs, _⟩ := strip_take (l.take n)
  rw [hs, List.take_take]
  exact Kd.C_take h (by rw [List.length_take] at hk; omega)
theorem strip_len (l : List Int) : (strip l).length ≤ l.length := Go.Proofs.Ytgeanpnkllnipab.Z.strip_length l
set_option maxHeartbeats 8000000 in
set_option maxRecDepth 100000 in
theorem halves_short (gh : Nat) (A0 : Option Addr) (c0 : Nat) (l0 : List Int) (A1 : Option Addr) (c1 : Nat) (l1 : List Int) (w : World) (hl0 : l0.length ≤ 400) (hl1 : l1.length ≤ 400) (d0 : Dig (b64 : Int) l0) (d1 : Dig (b64 : Int) l1)
    (hr0 : Kd.C (Kd.int .u64) w A0 l0.length l0) (hc0 : l0.length ≤ c0) (hr1 : Kd.C (Kd.int .u64) w A1 l1.length l1) (hc1 : l1.length ≤ c1) (h24 : l0.length < 24 ∨ l1.length < 24) : Halved gh A0 c0 l0 A1 c1 l1 w := by
  unfold Halved
  obtain ⟨k, hk⟩ := Go.Proofs.Ytgeanpnkllnipab.Z.Evt.get (Go.Proofs.Ytgeanpnkllnipab.Z.nat_school_ev l0 l1 (by omega) (by omega) d0 d1)
  have HS := Aside0.mk (nat_school.calls k A0 c0 l0 A1 c1 l1 _ w hr0 hc0 hr1 hc1 hk)
  clear hr0 hc0 hr1 hc1 hk d0 d1
  by_cases h1 : l0.length < 24
  · have h1b : decide ((l0.length : Int) < 24) = true := decide_eq_true (by omega)
    clear h24
    go_enter Try.func134, Try.ntmps134
    go_wp2_with (go_at_call 135; (with_reducible refine HS.out.mono ?_); rintro e w' ⟨v, rfl, hR, hb⟩; have HR := Aside0.mk hR; have HB := Aside0.mk hb; clear hR hb)
    go_ret
    exact ⟨_, rfl, HR.out, HB.out⟩
  · have h1b : decide ((l0.length : Int) < 24) = false := decide_eq_false (by omega)
    have h2b : decide ((l1.length : Int) < 24) = true := decide_eq_true (by omega)
    clear h24
    go_enter Try.func134, Try.ntmps134
    go_wp2_with (go_at_call 135; (with_reducible refine HS.out.mono ?_); rintro e w' ⟨v, rfl, hR, hb⟩; have HR := Aside0.mk hR; have HB := Aside0.mk hb; clear hR hb)
    go_ret
    exact ⟨_, rfl, HR.out, HB.out⟩
set_option maxHeartbeats 8000000 in
set_option maxRecDepth 100000 in
theorem halves_long (gh : Nat) (A0 : Option Addr) (c0 : Nat) (l0 : List Int) (A1 : Option Addr) (c1 : Nat) (l1 : List Int) (w : World) (hl0 : l0.length ≤ 400) (hl1 : l1.length ≤ 400) (d0 : Dig (b64 : Int) l0) (d1 : Dig (b64 : Int) l1)
    (hr0 : Kd.C (Kd.int .u64) w A0 l0.length l0) (hc0 : l0.length ≤ c0) (hr1 : Kd.C (Kd.int .u64) w A1 l1.length l1) (hc1 : l1.length ≤ c1) (h24a : 24 ≤ l0.length) (h24b : 24 ≤ l1.length) (hgh : w.heap[gh]? = some (hobj gh))
    (IH : ∀ (A2 : Option Addr) (c2 : Nat) (l2 : List Int) (A3 : Option Addr) (c3 : Nat) (l3 : List Int) (W : World), l2.length + l3.length < l0.length + l1.length → l2.length ≤ 400 → l3.length ≤ 400 → Dig (b64 : Int) l2 → Dig (b64 : Int) l3 →
      Kd.C (Kd.int .u64) W A2 l2.length l2 → l2.length ≤ c2 → Kd.C (Kd.int .u64) W A3 l3.length l3 → l3.length ≤ c3 → W.heap[gh]? = some (hobj gh) → Halved gh A2 c2 l2 A3 c3 l3 W) : Halved gh A0 c0 l0 A1 c1 l1 w := by
  unfold Halved
  have h1b : decide ((l0.length : Int) < 24) = false := decide_eq_false (by omega)
  have h2b : decide ((l1.length : Int) < 24) = false := decide_eq_false (by omega)
  obtain ⟨M, hM⟩ : ∃ M : Nat, M = max l0.length l1.length := ⟨_, rfl⟩
  obtain ⟨n, hn⟩ : ∃ n : Nat, n = (M + 1) / 2 := ⟨_, rfl⟩
  have HR0 := Aside0.mk hr0
  have HC0 := Aside0.mk hc0
  have HR1 := Aside0.mk hr1
  have HC1 := Aside0.mk hc1
  have HGH := Aside0.mk hgh
  have HL := Aside0.mk (show l0.length ≤ 400 ∧ l1.length ≤ 400 ∧ 24 ≤ l0.length ∧ 24 ≤ l1.length ∧ M = max l0.length l1.length ∧ n = (M + 1) / 2 from ⟨hl0, hl1, h24a, h24b, hM, hn⟩)
  have HI := Aside0.mk IH
  have HD0 := Aside0.mk d0
  have HD1 := Aside0.mk d1
  clear hr0 hc0 hr1 hc1 hgh hl0 hl1 h24a h24b hM hn IH d0 d1
  go_enter Try.func134, Try.ntmps134
  have e1 : wrap64 (max (l0.length : Int) (l1.length : Int) + 1) = ((M + 1 : Nat) : Int) := by
    have := HL.out
    unfold wrap64
    omega
  have e2 : wrap64 (((M : Int) + 1).tdiv 2) = (n : Int) := by
    have := HL.out
    rw [Int.tdiv_eq_ediv_of_nonneg (by omega)]
    unfold wrap64
    omega
  go_wp2
  clear e1 e2
  have hN := blk_new w (.cells #[.int .i64 (n : Int)] 3)
  have hB := below_alloc (Below.refl w.heap.size w) (.cells #[.int .i64 (n : Int)] 3)
  have hs1 : w.heap.size < (w.alloc (.cells #[.int .i64 (n : Int)] 3)).heap.size := by simp
  generalize w.alloc (.cells #[.int .i64 (n : Int)] 3) = W1 at *
  obtain ⟨LA, hLA⟩ : ∃ X, X = strip (l0.take n) := ⟨_, rfl⟩
  obtain ⟨LB, hLB⟩ : ∃ X, X = strip (l1.take n) := ⟨_, rfl⟩
  obtain ⟨HA, hHA⟩ : ∃ X, X = l0.drop n := ⟨_, rfl⟩
  obtain ⟨HB_, hHB⟩ : ∃ X, X = l1.drop n := ⟨_, rfl⟩
  obtain ⟨P, hP⟩ : ∃ X, X = limbs (num LA * num LB) := ⟨_, rfl⟩
  obtain ⟨Q, hQ⟩ : ∃ X, X = limbs (num HA * num HB_) := ⟨_, rfl⟩
  obtain ⟨O1, hO1⟩ : ∃ X, X = P.take (min P.length (l0.length + l1.length + 1)) ++ (List.replicate (l0.length + l1.length + 1) (0 : Int)).drop (min P.length (l0.length + l1.length + 1)) := ⟨_, rfl⟩
  obtain ⟨pl1, pl2, S1, S2, T1, T2, Mm, U, U1, V, V1, O2, O3, ⟨k1, hk1⟩, ⟨k2, hk2⟩, hT1, hT2, pl3, hMm, ⟨k3, hk3⟩, hU1, ⟨k4, hk4⟩, hV1, ⟨k5, hk5⟩, ⟨k6, hk6⟩, ⟨k7, hk7⟩⟩ :=
    Go.Proofs.Ytgeanpnkllnipab.Z.kara_ev l0 l1 HL.out.1 HL.out.2.1 HL.out.2.2.1 HL.out.2.2.2.1 HD0.out HD1.out n (by have := HL.out; omega) LA LB HA HB_ P Q O1 hLA hLB hHA hHB hP hQ hO1
  obtain ⟨RES, hRES⟩ : ∃ X, X = limbs (num l0 * num l1) := ⟨_, rfl⟩
  rw [← hRES] at hk7
  have NLA := Aside0.mk hLA
  have NLB := Aside0.mk hLB
  have NHA := Aside0.mk hHA
  have NHB := Aside0.mk hHB
  have NP := Aside0.mk hP
  have NQ := Aside0.mk hQ
  have NO1 := Aside0.mk hO1
  have NT1 := Aside0.mk hT1
  have NT2 := Aside0.mk hT2
  have NM := Aside0.mk hMm
  have NU1 := Aside0.mk hU1
  have NV1 := Aside0.mk hV1
  have NRES := Aside0.mk hRES
  have PL1 := Aside0.mk pl1
  have PL2 := Aside0.mk pl2
  have PL3 := Aside0.mk pl3
  have K1 := Aside0.mk hk1
  have K2 := Aside0.mk hk2
  have K3 := Aside0.mk hk3
  have K4 := Aside0.mk hk4
  have K5 := Aside0.mk hk5
  have K6 := Aside0.mk hk6
  have K7 := Aside0.mk hk7
  have FLA := Aside0.mk (show ∀ W, Below w.heap.size w W → Kd.C (Kd.int .u64) W A0 LA.length LA from fun W h => by rw [NLA.out]; exact C_low n (Kd.C_below HR0.out h))
  have FLB := Aside0.mk (show ∀ W, Below w.heap.size w W → Kd.C (Kd.int .u64) W A1 LB.length LB from fun W h => by rw [NLB.out]; exact C_low n (Kd.C_below HR1.out h))
  have CLA := Aside0.mk (show LA.length ≤ c0 from by
    have h1 := strip_len (l0.take n)
    rw [← hLA, List.length_take] at h1
    have := HC0.out
    omega)
  have CLB := Aside0.mk (show LB.length ≤ c1 from by
    have h1 := strip_len (l1.take n)
    rw [← hLB, List.length_take] at h1
    have := HC1.out
    omega)
  have HS1 := Aside0.mk hs1
  have HB1 := Aside0.mk (Below.refl W1.heap.size W1)
  clear hLA hLB hHA hHB hP hQ hO1 hT1 hT2 hMm hU1 hV1 hRES pl1 pl2 pl3 hk1 hk2 hk3 hk4 hk5 hk6 hk7 hs1
  have hgc : ∀ W : World, Below w.heap.size w W → W.cell? ⟨gh, 0, none⟩ = some (.func (.func 134) #[] #[.pointer (some ⟨gh, 0, none⟩)]) := fun W h => pw_cell_below h ((blk_cell HGH.out 0).trans rfl)
  have HGC := Aside0.mk hgc
  have HB := Aside0.mk hB
  have HN := Aside0.mk hN
  clear hB hN hgc
  have hgn : ∀ W : World, Below W1.heap.size W1 W → W.heap[w.heap.size]? = some (.cells #[.int .i64 (n : Int)] 3 (0, 0)) := fun W h => (h.block w.heap.size HS1.out).trans HN.out
  have hgg : ∀ W : World, Below w.heap.size w W → W.heap[gh]? = some (hobj gh) := fun W h => (h.block gh (blk_lt HGH.out)).trans HGH.out
  have LOWA := Aside0.mk (show ∀ W, Below w.heap.size w W → Below W1.heap.size W1 W → Calls Try.prog 136 #[.slice A0 l0.length c0, .pointer (some ⟨w.heap.size, 0, none⟩)] W fun e w' => e = .returned (.slice A0 LA.length c0) ∧ Below W.heap.size W w' from fun W h h1 => by
    have tk_ := nat_low.calls A0 c0 l0 w.heap.size n W (Kd.C_below HR0.out h) HC0.out (hgn W h1)
    rw [← NLA.out] at tk_
    exact tk_.mono (fun e w' hh => ⟨hh.1, hh.2.below⟩))
  have LOWB := Aside0.mk (show ∀ W, Below w.heap.size w W → Below W1.heap.size W1 W → Calls Try.prog 136 #[.slice A1 l1.length c1, .pointer (some ⟨w.heap.size, 0, none⟩)] W fun e w' => e = .returned (.slice A1 LB.length c1) ∧ Below W.heap.size W w' from fun W h h1 => by
    have tk_ := nat_low.calls A1 c1 l1 w.heap.size n W (Kd.C_below HR1.out h) HC1.out (hgn W h1)
    rw [← NLB.out] at tk_
    exact tk_.mono (fun e w' hh => ⟨hh.1, hh.2.below⟩))
  have HIGHA := Aside0.mk (show ∀ W, Below w.heap.size w W → Below W1.heap.size W1 W → Calls Try.prog 137 #[.slice A0 l0.length c0, .pointer (some ⟨w.heap.size, 0, none⟩)] W fun e w' => ∃ (A : Option Addr) (c : Nat), e = .returned (.slice A HA.length c) ∧ HA.length ≤ c ∧ Kd.C (Kd.int .u64) w' A HA.length HA ∧ Below W.heap.size W w' from fun W h h1 => by
    have tk_ := nat_high.calls A0 c0 l0 w.heap.size n W HC0.out (hgn W h1)
    rw [← NHA.out] at tk_
    exact tk_.mono (fun e w' hh => by
      obtain ⟨A, c, q1, q2, q3, q4⟩ := hh
      exact ⟨A, c, q1, q2, q3 w' (Kd.C_below HR0.out (below_step h q4.below)), q4.below⟩))
  have HIGHB := Aside0.mk (show ∀ W, Below w.heap.size w W → Below W1.heap.size W1 W → Calls Try.prog 137 #[.slice A1 l1.length c1, .pointer (some ⟨w.heap.size, 0, none⟩)] W fun e w' => ∃ (A : Option Addr) (c : Nat), e = .returned (.slice A HB_.length c) ∧ HB_.length ≤ c ∧ Kd.C (Kd.int .u64) w' A HB_.length HB_ ∧ Below W.heap.size W w' from fun W h h1 => by
    have tk_ := nat_high.calls A1 c1 l1 w.heap.size n W HC1.out (hgn W h1)
    rw [← NHB.out] at tk_
    exact tk_.mono (fun e w' hh => by
      obtain ⟨A, c, q1, q2, q3, q4⟩ := hh
      exact ⟨A, c, q1, q2, q3 w' (Kd.C_below HR1.out (below_step h q4.below)), q4.below⟩))
  have told : ∀ {l2 l3 R : List Int} (hR : R = limbs (num l2 * num l3)) (h : l2.length + l3.length < l0.length + l1.length ∧ l2.length ≤ 400 ∧ l3.length ≤ 400 ∧ Dig (b64 : Int) l2 ∧ Dig (b64 : Int) l3) (W : World) (A2 : Option Addr) (c2 : Nat) (A3 : Option Addr) (c3 : Nat), Below w.heap.size w W → Kd.C (Kd.int .u64) W A2 l2.length l2 → l2.length ≤ c2 → Kd.C (Kd.int .u64) W A3 l3.length l3 → l3.length ≤ c3 →
      Calls Try.prog 134 #[.slice A2 l2.length c2, .slice A3 l3.length c3, .pointer (some ⟨gh, 0, none⟩)] W fun e w' => ∃ (A : Option Addr) (c : Nat), e = .returned (.slice A R.length c) ∧ R.length ≤ c ∧ Kd.C (Kd.int .u64) w' A R.length R ∧ Below W.heap.size W w' := by
    intro l2 l3 R hR h W A2 c2 A3 c3 hw h2 h2c h3 h3c
    have tk_ := HI.out A2 c2 l2 A3 c3 l3 W h.1 h.2.1 h.2.2.1 h.2.2.2.1 h.2.2.2.2 h2 h2c h3 h3c (hgg W hw)
    unfold Halved at tk_
    rw [← hR] at tk_
    refine tk_.mono (fun e w' hh => ?_)
    obtain ⟨v, q1, q2, q3⟩ := hh
    obtain ⟨A, c, rfl⟩ := Kd.R_slice q2
    exact ⟨A, c, q1, (Kd.R_reads' q2).2.1, (Kd.R_reads' q2).2.2, q3⟩
  have HALP := Aside0.mk (told NP.out PL1.out)
  have HALQ := Aside0.mk (told NQ.out PL2.out)
  have HALM := Aside0.mk (told NM.out PL3.out)
  have SUM1 := Aside0.mk (show ∀ (W : World) (A2 : Option Addr) (c2 : Nat) (A3 : Option Addr) (c3 : Nat), Kd.C (Kd.int .u64) W A2 LA.length LA → LA.length ≤ c2 → Kd.C (Kd.int .u64) W A3 HA.length HA → HA.length ≤ c3 → Calls Try.prog 118 #[.slice A2 LA.length c2, .slice A3 HA.length c3] W fun e w' => ∃ (A : Option Addr) (c : Nat), e = .returned (.slice A S1.length c) ∧ S1.length ≤ c ∧ Kd.C (Kd.int .u64) w' A S1.length S1 ∧ Below W.heap.size W w' from fun W A2 c2 A3 c3 h2 h2c h3 h3c => (nat_sum.calls k1 A2 c2 LA A3 c3 HA S1 W h2 h2c h3 h3c K1.out).mono (fun e w' hh => by
    obtain ⟨v, q1, q2, q3⟩ := hh
    obtain ⟨A, c, rfl⟩ := Kd.R_slice q2
    exact ⟨A, c, q1, (Kd.R_reads' q2).2.1, (Kd.R_reads' q2).2.2, q3⟩))
  have SUM2 := Aside0.mk (show ∀ (W : World) (A2 : Option Addr) (c2 : Nat) (A3 : Option Addr) (c3 : Nat), Kd.C (Kd.int .u64) W A2 LB.length LB → LB.length ≤ c2 → Kd.C (Kd.int .u64) W A3 HB_.length HB_ → HB_.length ≤ c3 → Calls Try.prog 118 #[.slice A2 LB.length c2, .slice A3 HB_.length c3] W fun e w' => ∃ (A : Option Addr) (c : Nat), e = .returned (.slice A S2.length c) ∧ S2.length ≤ c ∧ Kd.C (Kd.int .u64) w' A S2.length S2 ∧ Below W.heap.size W w' from fun W A2 c2 A3 c3 h2 h2c h3 h3c => (nat_sum.calls k2 A2 c2 LB A3 c3 HB_ S2 W h2 h2c h3 h3c K2.out).mono (fun e w' hh => by
    obtain ⟨v, q1, q2, q3⟩ := hh
    obtain ⟨A, c, rfl⟩ := Kd.R_slice q2
    exact ⟨A, c, q1, (Kd.R_reads' q2).2.1, (Kd.R_reads' q2).2.2, q3⟩))
  have trimmed : ∀ {l R : List Int} (hR : R = strip l) (W : World) (A2 : Option Addr) (c2 : Nat), Kd.C (Kd.int .u64) W A2 l.length l → l.length ≤ c2 → Calls Try.prog 125 #[.slice A2 l.length c2] W fun e w' => e = .returned (.slice A2 R.length c2) ∧ R.length ≤ c2 ∧ Kd.C (Kd.int .u64) w' A2 R.length R ∧ Below W.heap.size W w' := by
    intro l R hR W A2 c2 h2 h2c
    refine (nat_trimC.calls A2 c2 l W h2 h2c).mono (fun e w' hh => ?_)
    have q := C_low l.length (Kd.C_below h2 hh.2.below)
    rw [List.take_length, ← hR] at q
    have q2 := strip_len l
    rw [← hR] at q2
    exact ⟨by rw [hh.1, hR], by omega, q, hh.2.below⟩
  have TRIM1 := Aside0.mk (trimmed NT1.out)
  have TRIM2 := Aside0.mk (trimmed NT2.out)
  have TRIM3 := Aside0.mk (trimmed NU1.out)
  have TRIM4 := Aside0.mk (trimmed NV1.out)
  have LESS1 := Aside0.mk (show ∀ (W : World) (A2 : Option Addr) (c2 : Nat) (A3 : Option Addr) (c3 : Nat), Kd.C (Kd.int .u64) W A2 Mm.length Mm → Mm.length ≤ c2 → Kd.C (Kd.int .u64) W A3 P.length P → P.length ≤ c3 → Calls Try.prog 117 #[.slice A2 Mm.length c2, .slice A3 P.length c3] W fun e w' => ∃ (A : Option Addr) (c : Nat), e = .returned (.slice A U.length c) ∧ U.length ≤ c ∧ Kd.C (Kd.int .u64) w' A U.length U ∧ Below W.heap.size W w' from fun W A2 c2 A3 c3 h2 h2c h3 h3c => (nat_less.calls k3 A2 c2 Mm A3 c3 P U W h2 h2c h3 h3c K3.out).mono (fun e w' hh => by
    obtain ⟨v, q1, q2, q3⟩ := hh
    obtain ⟨A, c, rfl⟩ := Kd.R_slice q2
    exact ⟨A, c, q1, (Kd.R_reads' q2).2.1, (Kd.R_reads' q2).2.2, q3⟩))
  have LESS2 := Aside0.mk (show ∀ (W : World) (A2 : Option Addr) (c2 : Nat) (A3 : Option Addr) (c3 : Nat), Kd.C (Kd.int .u64) W A2 U1.length U1 → U1.length ≤ c2 → Kd.C (Kd.int .u64) W A3 Q.length Q → Q.length ≤ c3 → Calls Try.prog 117 #[.slice A2 U1.length c2, .slice A3 Q.length c3] W fun e w' => ∃ (A : Option Addr) (c : Nat), e = .returned (.slice A V.length c) ∧ V.length ≤ c ∧ Kd.C (Kd.int .u64) w' A V.length V ∧ Below W.heap.size W w' from fun W A2 c2 A3 c3 h2 h2c h3 h3c => (nat_less.calls k4 A2 c2 U1 A3 c3 Q V W h2 h2c h3 h3c K4.out).mono (fun e w' hh => by
    obtain ⟨v, q1, q2, q3⟩ := hh
    obtain ⟨A, c, rfl⟩ := Kd.R_slice q2
    exact ⟨A, c, q1, (Kd.R_reads' q2).2.1, (Kd.R_reads' q2).2.2, q3⟩))
  clear told hgn hgg trimmed
  go_region_held3 (fun W' => W'.cell? ⟨gh, 0, none⟩ = some (.func (.func 134) #[] #[.pointer (some ⟨gh, 0, none⟩)])) (exact HGC.out _ (by repeat (first | exact HB.out | apply below_drew | apply pw_below_drewN))) (first | (go_at_call 136; (with_reducible refine (LOWA.out _ ?sB ?s1).mono ?_); (case sB => exact (by repeat (first | exact HB.out | apply below_drew | apply pw_below_drewN))); (case s1 => exact (by repeat (first | exact HB1.out | apply below_drew | apply pw_below_drewN))); rintro e w2 ⟨rfl, hb⟩; have n1_ := Aside0.mk (below_step (by repeat (first | exact HB.out | apply below_drew | apply pw_below_drewN)) hb); have n2_ := Aside0.mk (below_step (by repeat (first | exact HB1.out | apply below_drew | apply pw_below_drewN)) hb); clear HB HB1; have HB := n1_; have HB1 := n2_; clear n1_ n2_; (try (have n_ := Aside0.mk (Kd.C_below (by first | exact FP.out | exact Kd.C_drew FP.out) hb); clear FP; have FP := n_; clear n_)); clear hb) | (go_at_call 136; (with_reducible refine (LOWB.out _ ?sB ?s1).mono ?_); (case sB => exact (by repeat (first | exact HB.out | apply below_drew | apply pw_below_drewN))); (case s1 => exact (by repeat (first | exact HB1.out | apply below_drew | apply pw_below_drewN))); rintro e w2 ⟨rfl, hb⟩; have n1_ := Aside0.mk (below_step (by repeat (first | exact HB.out | apply below_drew | apply pw_below_drewN)) hb); have n2_ := Aside0.mk (below_step (by repeat (first | exact HB1.out | apply below_drew | apply pw_below_drewN)) hb); clear HB HB1; have HB := n1_; have HB1 := n2_; clear n1_ n2_; (try (have n_ := Aside0.mk (Kd.C_below (by first | exact FP.out | exact Kd.C_drew FP.out) hb); clear FP; have FP := n_; clear n_)); clear hb) | (go_at_call 134; (with_reducible refine (HALP.out _ _ _ _ _ ?sB ?s1 ?s2 ?s3 ?s4).mono ?_); (case sB => exact (by repeat (first | exact HB.out | apply below_drew | apply pw_below_drewN))); (case s1 => exact (FLA.out _ (by repeat (first | exact HB.out | apply below_drew | apply pw_below_drewN)))); (case s2 => exact CLA.out); (case s3 => exact (FLB.out _ (by repeat (first | exact HB.out | apply below_drew | apply pw_below_drewN)))); (case s4 => exact CLB.out); rintro e w2 ⟨AP, cP, rfl, hc_, hC_, hb⟩; have n1_ := Aside0.mk (below_step (by repeat (first | exact HB.out | apply below_drew | apply pw_below_drewN)) hb); have n2_ := Aside0.mk (below_step (by repeat (first | exact HB1.out | apply below_drew | apply pw_below_drewN)) hb); clear HB HB1; have HB := n1_; have HB1 := n2_; clear n1_ n2_; clear hb; have CP := Aside0.mk hc_; have FP := Aside0.mk hC_; clear hc_ hC_) | (go_at_call 137; (with_reducible refine (HIGHA.out _ ?sB ?s1).mono ?_); (case sB => exact (by repeat (first | exact HB.out | apply below_drew | apply pw_below_drewN))); (case s1 => exact (by repeat (first | exact HB1.out | apply below_drew | apply pw_below_drewN))); rintro e w2 ⟨AHA, cHA, rfl, hc_, hC_, hb⟩; have n1_ := Aside0.mk (below_step (by repeat (first | exact HB.out | apply below_drew | apply pw_below_drewN)) hb); have n2_ := Aside0.mk (below_step (by repeat (first | exact HB1.out | apply below_drew | apply pw_below_drewN)) hb); clear HB HB1; have HB := n1_; have HB1 := n2_; clear n1_ n2_; (try (have n_ := Aside0.mk (Kd.C_below (by first | exact FP.out | exact Kd.C_drew FP.out) hb); clear FP; have FP := n_; clear n_)); clear hb; have CHA := Aside0.mk hc_; have FHA := Aside0.mk hC_; clear hc_ hC_) | (go_at_call 137; (with_reducible refine (HIGHB.out _ ?sB ?s1).mono ?_); (case sB => exact (by repeat (first | exact HB.out | apply below_drew | apply pw_below_drewN))); (case s1 => exact (by repeat (first | exact HB1.out | apply below_drew | apply pw_below_drewN))); rintro e w2 ⟨AHB, cHB, rfl, hc_, hC_, hb⟩; have n1_ := Aside0.mk (below_step (by repeat (first | exact HB.out | apply below_drew | apply pw_below_drewN)) hb); have n2_ := Aside0.mk (below_step (by repeat (first | exact HB1.out | apply below_drew | apply pw_below_drewN)) hb); clear HB HB1; have HB := n1_; have HB1 := n2_; clear n1_ n2_; (try (have n_ := Aside0.mk (Kd.C_below (by first | exact FP.out | exact Kd.C_drew FP.out) hb); clear FP; have FP := n_; clear n_)); (try (have n_ := Aside0.mk (Kd.C_below (by first | exact FHA.out | exact Kd.C_drew FHA.out) hb); clear FHA; have FHA := n_; clear n_)); clear hb; have CHB := Aside0.mk hc_; have FHB := Aside0.mk hC_; clear hc_ hC_) | (go_at_call 134; (with_reducible refine (HALQ.out _ _ _ _ _ ?sB ?s1 ?s2 ?s3 ?s4).mono ?_); (case sB => exact (by repeat (first | exact HB.out | apply below_drew | apply pw_below_drewN))); (case s1 => exact (by first | exact FHA.out | exact Kd.C_drew FHA.out)); (case s2 => exact CHA.out); (case s3 => exact (by first | exact FHB.out | exact Kd.C_drew FHB.out)); (case s4 => exact CHB.out); rintro e w2 ⟨AQ, cQ, rfl, hc_, hC_, hb⟩; have n1_ := Aside0.mk (below_step (by repeat (first | exact HB.out | apply below_drew | apply pw_below_drewN)) hb); have n2_ := Aside0.mk (below_step (by repeat (first | exact HB1.out | apply below_drew | apply pw_below_drewN)) hb); clear HB HB1; have HB := n1_; have HB1 := n2_; clear n1_ n2_; (try (have n_ := Aside0.mk (Kd.C_below (by first | exact FP.out | exact Kd.C_drew FP.out) hb); clear FP; have FP := n_; clear n_)); clear hb; have CQ := Aside0.mk hc_; have FQ := Aside0.mk hC_; clear hc_ hC_))
  clear FHA FHB CHA CHB
  go_wp2
  go_region_held3 (fun W' => W'.cell? ⟨gh, 0, none⟩ = some (.func (.func 134) #[] #[.pointer (some ⟨gh, 0, none⟩)])) (exact HGC.out _ (by repeat (first | exact HB.out | apply below_drew | apply pw_below_drewN))) (first | (go_at_call 136; (with_reducible refine (LOWA.out _ ?sB ?s1).mono ?_); (case sB => exact (by repeat (first | exact HB.out | apply below_drew | apply pw_below_drewN))); (case s1 => exact (by repeat (first | exact HB1.out | apply below_drew | apply pw_below_drewN))); rintro e w2 ⟨rfl, hb⟩; have n1_ := Aside0.mk (below_step (by repeat (first | exact HB.out | apply below_drew | apply pw_below_drewN)) hb); have n2_ := Aside0.mk (below_step (by repeat (first | exact HB1.out | apply below_drew | apply pw_below_drewN)) hb); clear HB HB1; have HB := n1_; have HB1 := n2_; clear n1_ n2_; (try (have n_ := Aside0.mk (Kd.C_below (by first | exact FP.out | exact Kd.C_drew FP.out) hb); clear FP; have FP := n_; clear n_)); (try (have n_ := Aside0.mk (Kd.C_below (by first | exact FQ.out | exact Kd.C_drew FQ.out) hb); clear FQ; have FQ := n_; clear n_)); (try (have n_ := Aside0.mk (Kd.C_below (by first | exact FHC.out | exact Kd.C_drew FHC.out) hb); clear FHC; have FHC := n_; clear n_)); (try (have n_ := Aside0.mk (Kd.C_below (by first | exact FHD.out | exact Kd.C_drew FHD.out) hb); clear FHD; have FHD := n_; clear n_)); (try (have n_ := Aside0.mk (Kd.C_below (by first | exact FS1.out | exact Kd.C_drew FS1.out) hb); clear FS1; have FS1 := n_; clear n_)); (try (have n_ := Aside0.mk (Kd.C_below (by first | exact FT1.out | exact Kd.C_drew FT1.out) hb); clear FT1; have FT1 := n_; clear n_)); (try (have n_ := Aside0.mk (Kd.C_below (by first | exact FS2.out | exact Kd.C_drew FS2.out) hb); clear FS2; have FS2 := n_; clear n_)); (try (have n_ := Aside0.mk (Kd.C_below (by first | exact FT2.out | exact Kd.C_drew FT2.out) hb); clear FT2; have FT2 := n_; clear n_)); clear hb) | (go_at_call 136; (with_reducible refine (LOWB.out _ ?sB ?s1).mono ?_); (case sB => exact (by repeat (first | exact HB.out | apply below_drew | apply pw_below_drewN))); (case s1 => exact (by repeat (first | exact HB1.out | apply below_drew | apply pw_below_drewN))); rintro e w2 ⟨rfl, hb⟩; have n1_ := Aside0.mk (below_step (by repeat (first | exact HB.out | apply below_drew | apply pw_below_drewN)) hb); have n2_ := Aside0.mk (below_step (by repeat (first | exact HB1.out | apply below_drew | apply pw_below_drewN)) hb); clear HB HB1; have HB := n1_; have HB1 := n2_; clear n1_ n2_; (try (have n_ := Aside0.mk (Kd.C_below (by first | exact FP.out | exact Kd.C_drew FP.out) hb); clear FP; have FP := n_; clear n_)); (try (have n_ := Aside0.mk (Kd.C_below (by first | exact FQ.out | exact Kd.C_drew FQ.out) hb); clear FQ; have FQ := n_; clear n_)); (try (have n_ := Aside0.mk (Kd.C_below (by first | exact FHC.out | exact Kd.C_drew FHC.out) hb); clear FHC; have FHC := n_; clear n_)); (try (have n_ := Aside0.mk (Kd.C_below (by first | exact FHD.out | exact Kd.C_drew FHD.out) hb); clear FHD; have FHD := n_; clear n_)); (try (have n_ := Aside0.mk (Kd.C_below (by first | exact FS1.out | exact Kd.C_drew FS1.out) hb); clear FS1; have FS1 := n_; clear n_)); (try (have n_ := Aside0.mk (Kd.C_below (by first | exact FT1.out | exact Kd.C_drew FT1.out) hb); clear FT1; have FT1 := n_; clear n_)); (try (have n_ := Aside0.mk (Kd.C_below (by first | exact FS2.out | exact Kd.C_drew FS2.out) hb); clear FS2; have FS2 := n_; clear n_)); (try (have n_ := Aside0.mk (Kd.C_below (by first | exact FT2.out | exact Kd.C_drew FT2.out) hb); clear FT2; have FT2 := n_; clear n_)); clear hb) | (go_at_call 137; (with_reducible refine (HIGHA.out _ ?sB ?s1).mono ?_); (case sB => exact (by repeat (first | exact HB.out | apply below_drew | apply pw_below_drewN))); (case s1 => exact (by repeat (first | exact HB1.out | apply below_drew | apply pw_below_drewN))); rintro e w2 ⟨AHC, cHC, rfl, hc_, hC_, hb⟩; have n1_ := Aside0.mk (below_step (by repeat (first | exact HB.out | apply below_drew | apply pw_below_drewN)) hb); have n2_ := Aside0.mk (below_step (by repeat (first | exact HB1.out | apply below_drew | apply pw_below_drewN)) hb); clear HB HB1; have HB := n1_; have HB1 := n2_; clear n1_ n2_; (try (have n_ := Aside0.mk (Kd.C_below (by first | exact FP.out | exact Kd.C_drew FP.out) hb); clear FP; have FP := n_; clear n_)); (try (have n_ := Aside0.mk (Kd.C_below (by first | exact FQ.out | exact Kd.C_drew FQ.out) hb); clear FQ; have FQ := n_; clear n_)); (try (have n_ := Aside0.mk (Kd.C_below (by first | exact FHC.out | exact Kd.C_drew FHC.out) hb); clear FHC; have FHC := n_; clear n_)); (try (have n_ := Aside0.mk (Kd.C_below (by first | exact FHD.out | exact Kd.C_drew FHD.out) hb); clear FHD; have FHD := n_; clear n_)); (try (have n_ := Aside0.mk (Kd.C_below (by first | exact FS1.out | exact Kd.C_drew FS1.out) hb); clear FS1; have FS1 := n_; clear n_)); (try (have n_ := Aside0.mk (Kd.C_below (by first | exact FT1.out | exact Kd.C_drew FT1.out) hb); clear FT1; have FT1 := n_; clear n_)); (try (have n_ := Aside0.mk (Kd.C_below (by first | exact FS2.out | exact Kd.C_drew FS2.out) hb); clear FS2; have FS2 := n_; clear n_)); (try (have n_ := Aside0.mk (Kd.C_below (by first | exact FT2.out | exact Kd.C_drew FT2.out) hb); clear FT2; have FT2 := n_; clear n_)); clear hb; have CHC := Aside0.mk hc_; have FHC := Aside0.mk hC_; clear hc_ hC_) | (go_at_call 137; (with_reducible refine (HIGHB.out _ ?sB ?s1).mono ?_); (case sB => exact (by repeat (first | exact HB.out | apply below_drew | apply pw_below_drewN))); (case s1 => exact (by repeat (first | exact HB1.out | apply below_drew | apply pw_below_drewN))); rintro e w2 ⟨AHD, cHD, rfl, hc_, hC_, hb⟩; have n1_ := Aside0.mk (below_step (by repeat (first | exact HB.out | apply below_drew | apply pw_below_drewN)) hb); have n2_ := Aside0.mk (below_step (by repeat (first | exact HB1.out | apply below_drew | apply pw_below_drewN)) hb); clear HB HB1; have HB := n1_; have HB1 := n2_; clear n1_ n2_; (try (have n_ := Aside0.mk (Kd.C_below (by first | exact FP.out | exact Kd.C_drew FP.out) hb); clear FP; have FP := n_; clear n_)); (try (have n_ := Aside0.mk (Kd.C_below (by first | exact FQ.out | exact Kd.C_drew FQ.out) hb); clear FQ; have FQ := n_; clear n_)); (try (have n_ := Aside0.mk (Kd.C_below (by first | exact FHC.out | exact Kd.C_drew FHC.out) hb); clear FHC; have FHC := n_; clear n_)); (try (have n_ := Aside0.mk (Kd.C_below (by first | exact FHD.out | exact Kd.C_drew FHD.out) hb); clear FHD; have FHD := n_; clear n_)); (try (have n_ := Aside0.mk (Kd.C_below (by first | exact FS1.out | exact Kd.C_drew FS1.out) hb); clear FS1; have FS1 := n_; clear n_)); (try (have n_ := Aside0.mk (Kd.C_below (by first | exact FT1.out | exact Kd.C_drew FT1.out) hb); clear FT1; have FT1 := n_; clear n_)); (try (have n_ := Aside0.mk (Kd.C_below (by first | exact FS2.out | exact Kd.C_drew FS2.out) hb); clear FS2; have FS2 := n_; clear n_)); (try (have n_ := Aside0.mk (Kd.C_below (by first | exact FT2.out | exact Kd.C_drew FT2.out) hb); clear FT2; have FT2 := n_; clear n_)); clear hb; have CHD := Aside0.mk hc_; have FHD := Aside0.mk hC_; clear hc_ hC_) | (go_at_call 118; (with_reducible refine (SUM1.out _ _ _ _ _ ?s1 ?s2 ?s3 ?s4).mono ?_); (case s1 => exact (FLA.out _ (by repeat (first | exact HB.out | apply below_drew | apply pw_below_drewN)))); (case s2 => exact CLA.out); (case s3 => exact (by first | exact FHC.out | exact Kd.C_drew FHC.out)); (case s4 => exact CHC.out); rintro e w2 ⟨AS1, cS1, rfl, hc_, hC_, hb⟩; have n1_ := Aside0.mk (below_step (by repeat (first | exact HB.out | apply below_drew | apply pw_below_drewN)) hb); have n2_ := Aside0.mk (below_step (by repeat (first | exact HB1.out | apply below_drew | apply pw_below_drewN)) hb); clear HB HB1; have HB := n1_; have HB1 := n2_; clear n1_ n2_; (try (have n_ := Aside0.mk (Kd.C_below (by first | exact FP.out | exact Kd.C_drew FP.out) hb); clear FP; have FP := n_; clear n_)); (try (have n_ := Aside0.mk (Kd.C_below (by first | exact FQ.out | exact Kd.C_drew FQ.out) hb); clear FQ; have FQ := n_; clear n_)); (try (have n_ := Aside0.mk (Kd.C_below (by first | exact FHC.out | exact Kd.C_drew FHC.out) hb); clear FHC; have FHC := n_; clear n_)); (try (have n_ := Aside0.mk (Kd.C_below (by first | exact FHD.out | exact Kd.C_drew FHD.out) hb); clear FHD; have FHD := n_; clear n_)); (try (have n_ := Aside0.mk (Kd.C_below (by first | exact FS1.out | exact Kd.C_drew FS1.out) hb); clear FS1; have FS1 := n_; clear n_)); (try (have n_ := Aside0.mk (Kd.C_below (by first | exact FT1.out | exact Kd.C_drew FT1.out) hb); clear FT1; have FT1 := n_; clear n_)); (try (have n_ := Aside0.mk (Kd.C_below (by first | exact FS2.out | exact Kd.C_drew FS2.out) hb); clear FS2; have FS2 := n_; clear n_)); (try (have n_ := Aside0.mk (Kd.C_below (by first | exact FT2.out | exact Kd.C_drew FT2.out) hb); clear FT2; have FT2 := n_; clear n_)); clear hb; have CS1 := Aside0.mk hc_; have FS1 := Aside0.mk hC_; clear hc_ hC_) | (go_at_call 118; (with_reducible refine (SUM2.out _ _ _ _ _ ?s1 ?s2 ?s3 ?s4).mono ?_); (case s1 => exact (FLB.out _ (by repeat (first | exact HB.out | apply below_drew | apply pw_below_drewN)))); (case s2 => exact CLB.out); (case s3 => exact (by first | exact FHD.out | exact Kd.C_drew FHD.out)); (case s4 => exact CHD.out); rintro e w2 ⟨AS2, cS2, rfl, hc_, hC_, hb⟩; have n1_ := Aside0.mk (below_step (by repeat (first | exact HB.out | apply below_drew | apply pw_below_drewN)) hb); have n2_ := Aside0.mk (below_step (by repeat (first | exact HB1.out | apply below_drew | apply pw_below_drewN)) hb); clear HB HB1; have HB := n1_; have HB1 := n2_; clear n1_ n2_; (try (have n_ := Aside0.mk (Kd.C_below (by first | exact FP.out | exact Kd.C_drew FP.out) hb); clear FP; have FP := n_; clear n_)); (try (have n_ := Aside0.mk (Kd.C_below (by first | exact FQ.out | exact Kd.C_drew FQ.out) hb); clear FQ; have FQ := n_; clear n_)); (try (have n_ := Aside0.mk (Kd.C_below (by first | exact FHC.out | exact Kd.C_drew FHC.out) hb); clear FHC; have FHC := n_; clear n_)); (try (have n_ := Aside0.mk (Kd.C_below (by first | exact FHD.out | exact Kd.C_drew FHD.out) hb); clear FHD; have FHD := n_; clear n_)); (try (have n_ := Aside0.mk (Kd.C_below (by first | exact FS1.out | exact Kd.C_drew FS1.out) hb); clear FS1; have FS1 := n_; clear n_)); (try (have n_ := Aside0.mk (Kd.C_below (by first | exact FT1.out | exact Kd.C_drew FT1.out) hb); clear FT1; have FT1 := n_; clear n_)); (try (have n_ := Aside0.mk (Kd.C_below (by first | exact FS2.out | exact Kd.C_drew FS2.out) hb); clear FS2; have FS2 := n_; clear n_)); (try (have n_ := Aside0.mk (Kd.C_below (by first | exact FT2.out | exact Kd.C_drew FT2.out) hb); clear FT2; have FT2 := n_; clear n_)); clear hb; have CS2 := Aside0.mk hc_; have FS2 := Aside0.mk hC_; clear hc_ hC_) | (go_at_call 125; (with_reducible refine (TRIM1.out _ _ _ ?s1 ?s2).mono ?_); (case s1 => exact (by first | exact FS1.out | exact Kd.C_drew FS1.out)); (case s2 => exact CS1.out); rintro e w2 ⟨rfl, hc_, hC_, hb⟩; have n1_ := Aside0.mk (below_step (by repeat (first | exact HB.out | apply below_drew | apply pw_below_drewN)) hb); have n2_ := Aside0.mk (below_step (by repeat (first | exact HB1.out | apply below_drew | apply pw_below_drewN)) hb); clear HB HB1; have HB := n1_; have HB1 := n2_; clear n1_ n2_; (try (have n_ := Aside0.mk (Kd.C_below (by first | exact FP.out | exact Kd.C_drew FP.out) hb); clear FP; have FP := n_; clear n_)); (try (have n_ := Aside0.mk (Kd.C_below (by first | exact FQ.out | exact Kd.C_drew FQ.out) hb); clear FQ; have FQ := n_; clear n_)); (try (have n_ := Aside0.mk (Kd.C_below (by first | exact FHC.out | exact Kd.C_drew FHC.out) hb); clear FHC; have FHC := n_; clear n_)); (try (have n_ := Aside0.mk (Kd.C_below (by first | exact FHD.out | exact Kd.C_drew FHD.out) hb); clear FHD; have FHD := n_; clear n_)); (try (have n_ := Aside0.mk (Kd.C_below (by first | exact FS1.out | exact Kd.C_drew FS1.out) hb); clear FS1; have FS1 := n_; clear n_)); (try (have n_ := Aside0.mk (Kd.C_below (by first | exact FT1.out | exact Kd.C_drew FT1.out) hb); clear FT1; have FT1 := n_; clear n_)); (try (have n_ := Aside0.mk (Kd.C_below (by first | exact FS2.out | exact Kd.C_drew FS2.out) hb); clear FS2; have FS2 := n_; clear n_)); (try (have n_ := Aside0.mk (Kd.C_below (by first | exact FT2.out | exact Kd.C_drew FT2.out) hb); clear FT2; have FT2 := n_; clear n_)); clear hb; have CT1 := Aside0.mk hc_; have FT1 := Aside0.mk hC_; clear hc_ hC_) | (go_at_call 125; (with_reducible refine (TRIM2.out _ _ _ ?s1 ?s2).mono ?_); (case s1 => exact (by first | exact FS2.out | exact Kd.C_drew FS2.out)); (case s2 => exact CS2.out); rintro e w2 ⟨rfl, hc_, hC_, hb⟩; have n1_ := Aside0.mk (below_step (by repeat (first | exact HB.out | apply below_drew | apply pw_below_drewN)) hb); have n2_ := Aside0.mk (below_step (by repeat (first | exact HB1.out | apply below_drew | apply pw_below_drewN)) hb); clear HB HB1; have HB := n1_; have HB1 := n2_; clear n1_ n2_; (try (have n_ := Aside0.mk (Kd.C_below (by first | exact FP.out | exact Kd.C_drew FP.out) hb); clear FP; have FP := n_; clear n_)); (try (have n_ := Aside0.mk (Kd.C_below (by first | exact FQ.out | exact Kd.C_drew FQ.out) hb); clear FQ; have FQ := n_; clear n_)); (try (have n_ := Aside0.mk (Kd.C_below (by first | exact FHC.out | exact Kd.C_drew FHC.out) hb); clear FHC; have FHC := n_; clear n_)); (try (have n_ := Aside0.mk (Kd.C_below (by first | exact FHD.out | exact Kd.C_drew FHD.out) hb); clear FHD; have FHD := n_; clear n_)); (try (have n_ := Aside0.mk (Kd.C_below (by first | exact FS1.out | exact Kd.C_drew FS1.out) hb); clear FS1; have FS1 := n_; clear n_)); (try (have n_ := Aside0.mk (Kd.C_below (by first | exact FT1.out | exact Kd.C_drew FT1.out) hb); clear FT1; have FT1 := n_; clear n_)); (try (have n_ := Aside0.mk (Kd.C_below (by first | exact FS2.out | exact Kd.C_drew FS2.out) hb); clear FS2; have FS2 := n_; clear n_)); (try (have n_ := Aside0.mk (Kd.C_below (by first | exact FT2.out | exact Kd.C_drew FT2.out) hb); clear FT2; have FT2 := n_; clear n_)); clear hb; have CT2 := Aside0.mk hc_; have FT2 := Aside0.mk hC_; clear hc_ hC_) | (go_at_call 134; (with_reducible refine (HALM.out _ _ _ _ _ ?sB ?s1 ?s2 ?s3 ?s4).mono ?_); (case sB => exact (by repeat (first | exact HB.out | apply below_drew | apply pw_below_drewN))); (case s1 => exact (by first | exact FT1.out | exact Kd.C_drew FT1.out)); (case s2 => exact CT1.out); (case s3 => exact (by first | exact FT2.out | exact Kd.C_drew FT2.out)); (case s4 => exact CT2.out); rintro e w2 ⟨AM, cM, rfl, hc_, hC_, hb⟩; have n1_ := Aside0.mk (below_step (by repeat (first | exact HB.out | apply below_drew | apply pw_below_drewN)) hb); have n2_ := Aside0.mk (below_step (by repeat (first | exact HB1.out | apply below_drew | apply pw_below_drewN)) hb); clear HB HB1; have HB := n1_; have HB1 := n2_; clear n1_ n2_; (try (have n_ := Aside0.mk (Kd.C_below (by first | exact FP.out | exact Kd.C_drew FP.out) hb); clear FP; have FP := n_; clear n_)); (try (have n_ := Aside0.mk (Kd.C_below (by first | exact FQ.out | exact Kd.C_drew FQ.out) hb); clear FQ; have FQ := n_; clear n_)); clear hb; have CM := Aside0.mk hc_; have FM := Aside0.mk hC_; clear hc_ hC_))
  clear FHC FHD CHC CHD FS1 FS2 FT1 FT2
  obtain ⟨N, hN⟩ : ∃ N : Nat, N = l0.length + l1.length + 1 := ⟨_, rfl⟩
  obtain ⟨O0, hO0⟩ : ∃ X : List Int, X = List.replicate N 0 := ⟨_, rfl⟩
  have HNL := Aside0.mk (show N ≤ 1000 from by have := HL.out; omega)
  have NO0 := Aside0.mk hO0
  have NO1b := Aside0.mk (show O1 = P.take (min P.length O0.length) ++ O0.drop (min P.length O0.length) from by
    have h := NO1.out
    rw [← hN, ← hO0] at h
    rw [hO0, List.length_replicate, ← hO0]
    exact h)
  have K6b := Aside0.mk (show nat_into.f k6 O2 Q (2 * (n : Int)) = some O3 from by
    have h := K6.out
    rw [Int.natCast_mul] at h
    exact h)
  have eN : wrap64 (wrap64 ((l0.length : Int) + (l1.length : Int)) + 1) = (N : Int) := by
    have := HL.out
    unfold wrap64
    omega
  have eNi : IntKind.i64.wrap (IntKind.i64.wrap ((l0.length : Int) + (l1.length : Int)) + 1) = (N : Int) := by rw [i64_w, i64_w]; exact eN
  have e2n : wrap64 (2 * (n : Int)) = 2 * (n : Int) := by
    have := HL.out
    unfold wrap64
    omega
  clear hN hO0
  go_wp2_with (first | (go_at_call 117; (with_reducible refine (LESS1.out _ _ _ _ _ ?s1 ?s2 ?s3 ?s4).mono ?_); (case s1 => exact (by first | exact FM.out | exact Kd.C_drew FM.out)); (case s2 => exact CM.out); (case s3 => exact (by first | exact FP.out | exact Kd.C_drew FP.out)); (case s4 => exact CP.out); rintro e w2 ⟨AU, cU, rfl, hc_, hC_, hb⟩; have n1_ := Aside0.mk (below_step (by repeat (first | exact HB.out | apply below_drew | apply pw_below_drewN)) hb); have n2_ := Aside0.mk (below_step (by repeat (first | exact HB1.out | apply below_drew | apply pw_below_drewN)) hb); clear HB HB1; have HB := n1_; have HB1 := n2_; clear n1_ n2_; (try (have n_ := Aside0.mk (Kd.C_below (by first | exact FP.out | exact Kd.C_drew FP.out) hb); clear FP; have FP := n_; clear n_)); (try (have n_ := Aside0.mk (Kd.C_below (by first | exact FQ.out | exact Kd.C_drew FQ.out) hb); clear FQ; have FQ := n_; clear n_)); (try (have n_ := Aside0.mk (Kd.C_below (by first | exact FM.out | exact Kd.C_drew FM.out) hb); clear FM; have FM := n_; clear n_)); (try (have n_ := Aside0.mk (Kd.C_below (by first | exact FU.out | exact Kd.C_drew FU.out) hb); clear FU; have FU := n_; clear n_)); (try (have n_ := Aside0.mk (Kd.C_below (by first | exact FU1.out | exact Kd.C_drew FU1.out) hb); clear FU1; have FU1 := n_; clear n_)); (try (have n_ := Aside0.mk (Kd.C_below (by first | exact FV.out | exact Kd.C_drew FV.out) hb); clear FV; have FV := n_; clear n_)); clear hb; have CU := Aside0.mk hc_; have FU := Aside0.mk hC_; clear hc_ hC_) | (go_at_call 117; (with_reducible refine (LESS2.out _ _ _ _ _ ?s1 ?s2 ?s3 ?s4).mono ?_); (case s1 => exact (by first | exact FU1.out | exact Kd.C_drew FU1.out)); (case s2 => exact CU1.out); (case s3 => exact (by first | exact FQ.out | exact Kd.C_drew FQ.out)); (case s4 => exact CQ.out); rintro e w2 ⟨AV, cV, rfl, hc_, hC_, hb⟩; have n1_ := Aside0.mk (below_step (by repeat (first | exact HB.out | apply below_drew | apply pw_below_drewN)) hb); have n2_ := Aside0.mk (below_step (by repeat (first | exact HB1.out | apply below_drew | apply pw_below_drewN)) hb); clear HB HB1; have HB := n1_; have HB1 := n2_; clear n1_ n2_; (try (have n_ := Aside0.mk (Kd.C_below (by first | exact FP.out | exact Kd.C_drew FP.out) hb); clear FP; have FP := n_; clear n_)); (try (have n_ := Aside0.mk (Kd.C_below (by first | exact FQ.out | exact Kd.C_drew FQ.out) hb); clear FQ; have FQ := n_; clear n_)); (try (have n_ := Aside0.mk (Kd.C_below (by first | exact FM.out | exact Kd.C_drew FM.out) hb); clear FM; have FM := n_; clear n_)); (try (have n_ := Aside0.mk (Kd.C_below (by first | exact FU.out | exact Kd.C_drew FU.out) hb); clear FU; have FU := n_; clear n_)); (try (have n_ := Aside0.mk (Kd.C_below (by first | exact FU1.out | exact Kd.C_drew FU1.out) hb); clear FU1; have FU1 := n_; clear n_)); (try (have n_ := Aside0.mk (Kd.C_below (by first | exact FV.out | exact Kd.C_drew FV.out) hb); clear FV; have FV := n_; clear n_)); clear hb; have CV := Aside0.mk hc_; have FV := Aside0.mk hC_; clear hc_ hC_) | (go_at_call 125; (with_reducible refine (TRIM3.out _ _ _ ?s1 ?s2).mono ?_); (case s1 => exact (by first | exact FU.out | exact Kd.C_drew FU.out)); (case s2 => exact CU.out); rintro e w2 ⟨rfl, hc_, hC_, hb⟩; have n1_ := Aside0.mk (below_step (by repeat (first | exact HB.out | apply below_drew | apply pw_below_drewN)) hb); have n2_ := Aside0.mk (below_step (by repeat (first | exact HB1.out | apply below_drew | apply pw_below_drewN)) hb); clear HB HB1; have HB := n1_; have HB1 := n2_; clear n1_ n2_; (try (have n_ := Aside0.mk (Kd.C_below (by first | exact FP.out | exact Kd.C_drew FP.out) hb); clear FP; have FP := n_; clear n_)); (try (have n_ := Aside0.mk (Kd.C_below (by first | exact FQ.out | exact Kd.C_drew FQ.out) hb); clear FQ; have FQ := n_; clear n_)); (try (have n_ := Aside0.mk (Kd.C_below (by first | exact FM.out | exact Kd.C_drew FM.out) hb); clear FM; have FM := n_; clear n_)); (try (have n_ := Aside0.mk (Kd.C_below (by first | exact FU.out | exact Kd.C_drew FU.out) hb); clear FU; have FU := n_; clear n_)); (try (have n_ := Aside0.mk (Kd.C_below (by first | exact FU1.out | exact Kd.C_drew FU1.out) hb); clear FU1; have FU1 := n_; clear n_)); (try (have n_ := Aside0.mk (Kd.C_below (by first | exact FV.out | exact Kd.C_drew FV.out) hb); clear FV; have FV := n_; clear n_)); clear hb; have CU1 := Aside0.mk hc_; have FU1 := Aside0.mk hC_; clear hc_ hC_) | (go_at_call 125; (with_reducible refine (TRIM4.out _ _ _ ?s1 ?s2).mono ?_); (case s1 => exact (by first | exact FV.out | exact Kd.C_drew FV.out)); (case s2 => exact CV.out); rintro e w2 ⟨rfl, hc_, hC_, hb⟩; have n1_ := Aside0.mk (below_step (by repeat (first | exact HB.out | apply below_drew | apply pw_below_drewN)) hb); have n2_ := Aside0.mk (below_step (by repeat (first | exact HB1.out | apply below_drew | apply pw_below_drewN)) hb); clear HB HB1; have HB := n1_; have HB1 := n2_; clear n1_ n2_; (try (have n_ := Aside0.mk (Kd.C_below (by first | exact FP.out | exact Kd.C_drew FP.out) hb); clear FP; have FP := n_; clear n_)); (try (have n_ := Aside0.mk (Kd.C_below (by first | exact FQ.out | exact Kd.C_drew FQ.out) hb); clear FQ; have FQ := n_; clear n_)); (try (have n_ := Aside0.mk (Kd.C_below (by first | exact FM.out | exact Kd.C_drew FM.out) hb); clear FM; have FM := n_; clear n_)); (try (have n_ := Aside0.mk (Kd.C_below (by first | exact FU.out | exact Kd.C_drew FU.out) hb); clear FU; have FU := n_; clear n_)); (try (have n_ := Aside0.mk (Kd.C_below (by first | exact FU1.out | exact Kd.C_drew FU1.out) hb); clear FU1; have FU1 := n_; clear n_)); (try (have n_ := Aside0.mk (Kd.C_below (by first | exact FV.out | exact Kd.C_drew FV.out) hb); clear FV; have FV := n_; clear n_)); clear hb; have CV1 := Aside0.mk hc_; have FV1 := Aside0.mk hC_; clear hc_ hC_) | ((with_reducible refine gate_dst (N := 80) rfl ?_); refine Kd.R_make (Kd.int .u64) _ 27 rfl (N := 80) rfl 23 _ _ rfl (N : Int) ?hx ?hy Try.underlying23 (.int .u64 0) 8 info27 rfl (by decide) (by omega) 0 (ok := fun _ => True) (okp := fun _ => True) rfl (fun _ hk => hk) trivial (by omega) (by have := HNL.out; omega) (Below.refl _ _) (Nat.le_refl _) ?_; (case hx => first | rfl | exact congrArg (Value.int IntKind.i64) eN | exact congrArg (Value.int IntKind.i64) eNi); (case hy => first | rfl | exact congrArg (Value.int IntKind.i64) eN | exact congrArg (Value.int IntKind.i64) eNi); intro v wm ho hb hg_ hnew_; rw [Int.toNat_natCast, ← NO0.out] at ho; have OWN0 := Aside0.mk hnew_; obtain ⟨Ao, co, rfl⟩ := Kd.R_slice ho; have OWN := Aside0.mk (show ∀ k, some k = (Value.slice Ao O0.length co).ownBlock → w2.heap.size ≤ k from fun k hk => by obtain ⟨b, h1, h2⟩ := OWN0.out; rw [h1] at hk; cases hk; exact h2); have GP := Aside0.mk (Kd.F_below (Kd.C_F (Kd.heap_int .u64) FP.out) hb); have GV := Aside0.mk (Kd.F_below (Kd.C_F (Kd.heap_int .u64) FV1.out) hb); have GQ := Aside0.mk (Kd.F_below (Kd.C_F (Kd.heap_int .u64) FQ.out) hb); have WL := Aside0.mk (Nat.lt_of_lt_of_le HS1.out HB1.out.size); have HNW := Aside0.mk ((below_step HB1.out hb).block w.heap.size HS1.out |>.trans HN.out); have HB2 := HB; have HBM := Aside0.mk hb; have HO := Aside0.mk ho; clear FP FV1 FQ FM FU FU1 FV HB HB1 OWN0 ho hb hg_ hnew_) | ((with_reducible refine gate_builtin (b := .copy) (xs := #[.tmp 81, .tmp 82]) rfl ?_); refine Kd.R_copy (0 : Int) (w0 := w2) w2.heap.size rfl (.tmp 81) (.tmp 82) 23 23 27 rfl Try.underlying23 (by obtain ⟨i0, hi0, _, hsz, _⟩ := info_parts info27; rw [hi0]; simp [hsz]) (.slice Ao O0.length co) O0 P AP P.length cP (fun _ => True) rfl rfl HO.out (Kd.F_now GP.out) HBM.out HBM.out.size ?_; intro w5 ho hb hg; rw [← NO1b.out] at ho; have n1_ := Aside0.mk (Kd.F_grown GV.out hg (fun k hk e_ => absurd (OWN.out k e_) (by have : k < w2.heap.size := hk; omega))); have n2_ := Aside0.mk (Kd.F_grown GQ.out hg (fun k hk e_ => absurd (OWN.out k e_) (by have : k < w2.heap.size := hk; omega))); have n3_ := Aside0.mk ((hg.block w.heap.size (blk_lt HNW.out) (fun e_ => absurd (OWN.out _ e_) (by have := WL.out; omega))).trans HNW.out); clear GP GV GQ HNW HBM HO; have GV := n1_; have GQ := n2_; have HNW := n3_; have HBM := Aside0.mk hb; have HO := Aside0.mk (show Kd.R (Kd.int .u64) 27 w5 w2.heap.size (fun _ => True) (.slice Ao O0.length co) O1 from ho); have hcn := (blk_cell HNW.out 0).trans rfl; clear n1_ n2_ n3_ ho hb hg) | (go_at_call 138; (with_reducible refine (nat_into.calls k5 (fun k => some k = (Value.slice Ao O0.length co).ownBlock) _ O1 AV cV V1 (n : Int) O2 w2 _ HBM.out (Kd.R_tight rfl HO.out) ?s1 CV1.out ?s2).mono ?_); (case s1 => intro W_ hk; exact Kd.F_now (Kd.F_kept GV.out hk (fun k hk2 hs => absurd (OWN.out k hs) (by have : k < w2.heap.size := hk2; omega)))); (case s2 => exact K5.out); rintro e w6 ⟨rfl, hR, hb, hkp⟩; have n2_ := Aside0.mk (Kd.F_kept GQ.out hkp (fun k hk2 hs => absurd (OWN.out k hs) (by have : k < w2.heap.size := hk2; omega))); clear GQ; have GQ := n2_; clear n2_; have n3_ := Aside0.mk ((hkp.2 w.heap.size (blk_lt HNW.out) (fun e_ => absurd (OWN.out _ e_) (by have := WL.out; omega))).trans HNW.out); clear HNW HBM HO hcn; have HNW := n3_; have HBM := Aside0.mk hb; have HO := Aside0.mk (Kd.R_mono hR (ok' := fun _ => True) (fun _ _ => trivial)); have hcn := (blk_cell HNW.out 0).trans rfl; clear n3_ hR hb hkp) | (go_at_call 138; (with_reducible refine (nat_into.calls k6 (fun k => some k = (Value.slice Ao O0.length co).ownBlock) _ O2 AQ cQ Q (2 * (n : Int)) O3 w2 _ HBM.out (Kd.R_tight rfl HO.out) ?s1 CQ.out ?s2).mono ?_); (case s1 => intro W_ hk; exact Kd.F_now (Kd.F_kept GQ.out hk (fun k hk2 hs => absurd (OWN.out k hs) (by have : k < w2.heap.size := hk2; omega)))); (case s2 => exact K6b.out); rintro e w6 ⟨rfl, hR, hb, hkp⟩; have n3_ := Aside0.mk ((hkp.2 w.heap.size (blk_lt HNW.out) (fun e_ => absurd (OWN.out _ e_) (by have := WL.out; omega))).trans HNW.out); clear HNW HBM HO hcn; have HNW := n3_; have HBM := Aside0.mk hb; have HO := Aside0.mk (Kd.R_mono hR (ok' := fun _ => True) (fun _ _ => trivial)); have hcn := (blk_cell HNW.out 0).trans rfl; clear n3_ hR hb hkp) | (go_at_call 125; (with_reducible refine (nat_trim.calls k7 (fun k => some k = (Value.slice Ao O0.length co).ownBlock) _ O3 RES w _ (below_step HB2.out HBM.out) (Kd.R_lower (Kd.R_tight rfl HO.out) (below_size HB2.out)) K7.out).mono ?_); rintro e w8 ⟨v8, rfl, hR, hb, hkp⟩; have HF := Aside0.mk hR; have HFB := Aside0.mk hb; clear hR hb hkp))
  go_ret
  exact ⟨_, rfl, by rw [← NRES.out]; exact Kd.R_mono HF.out (fun _ _ => trivial), HFB.out⟩
theorem halves_all (gh : Nat) (s : Nat) : ∀ (A0 : Option Addr) (c0 : Nat) (l0 : List Int) (A1 : Option Addr) (c1 : Nat) (l1 : List Int) (w : World), l0.length + l1.length ≤ s → l0.length ≤ 400 → l1.length ≤ 400 → Dig (b64 : Int) l0 → Dig (b64 : Int) l1 →
    Kd.C (Kd.int .u64) w A0 l0.length l0 → l0.length ≤ c0 → Kd.C (Kd.int .u64) w A1 l1.length l1 → l1.length ≤ c1 → w.heap[gh]? = some (hobj gh) → Halved gh A0 c0 l0 A1 c1 l1 w := by
  induction s with
  | zero =>
    intro A0 c0 l0 A1 c1 l1 w hs h0 h1 d0 d1 hr0 hc0 hr1 hc1 hg
    exact halves_short gh A0 c0 l0 A1 c1 l1 w h0 h1 d0 d1 hr0 hc0 hr1 hc1 (by omega)
  | succ s ih =>
    intro A0 c0 l0 A1 c1 l1 w hs h0 h1 d0 d1 hr0 hc0 hr1 hc1 hg
    by_cases h : l0.length < 24 ∨ l1.length < 24
    · exact halves_short gh A0 c0 l0 A1 c1 l1 w h0 h1 d0 d1 hr0 hc0 hr1 hc1 h
    · exact halves_long gh A0 c0 l0 A1 c1 l1 w h0 h1 d0 d1 hr0 hc0 hr1 hc1 (by omega) (by omega) hg (fun A2 c2 l2 A3 c3 l3 W a1 a2 a3 a4 a5 a6 a7 a8 a9 a10 => ih A2 c2 l2 A3 c3 l3 W (by omega) a2 a3 a4 a5 a6 a7 a8 a9 a10)
end Go.Proofs.Ytgeanpnkllnipab.F
end
section
namespace Go.Proofs.Ytgeanpnkllnipab.F
open Go.RowKit Go.Proofs.YtgeanpnkllnipabW.PrintWords Go.Proofs.YtgeanpnkllnipabW.PrintLast Go.Proofs.YtgeanpnkllnipabW.PrintMore
set_option linter.unusedVariables false
set_option linter.unusedSimpArgs false
open Go.Proofs.Ytgeanpnkllnipab.Z (Dig b64 num limbs)
theorem run_store_func {P : Program} {w : World} {a : Addr} (f : Fn) (x y : Array Value) {m : Mode} : (store a (.func f x y) m).run P w = stored P w a (.func f x y) m := run_store P w a _ m rfl
attribute [local go_sem] run_store_func
def limbB (l : List Int) : Bool := l.all fun x => decide (0 ≤ x ∧ x < 18446744073709551616)
theorem limbB_dig {l : List Int} (h : limbB l = true) : Dig (b64 : Int) l := fun x hx => of_decide_eq_true (List.all_eq_true.1 h x hx)
theorem dig_limbB {l : List Int} (h : Dig (b64 : Int) l) : limbB l = true := List.all_eq_true.2 (fun x hx => decide_eq_true (h x hx))
def nat_product.f (l0 l1 : List Int) : Option (List Int) := if (decide (l0.length ≤ 400) && decide (l1.length ≤ 400) && limbB l0 && limbB l1) = true then some (limbs (num l0 * num l1)) else none
set_option maxHeartbeats 8000000 in
set_option maxRecDepth 100000 in
theorem nat_product.calls (A0 : Option Addr) (c0 : Nat) (l0 : List Int) (A1 : Option Addr) (c1 : Nat) (l1 : List Int) (r : List Int) (w : World) (hr0 : Kd.C (Kd.int .u64) w A0 l0.length l0) (hc0 : l0.length ≤ c0) (hr1 : Kd.C (Kd.int .u64) w A1 l1.length l1) (hc1 : l1.length ≤ c1) (h : nat_product.f l0 l1 = some r) :
    Calls Try.prog 127 #[.slice A0 l0.length c0, .slice A1 l1.length c1] w fun e w' => ∃ v0_ : Value, e = .returned (v0_) ∧ Kd.R (Kd.int .u64) 27 w' w.heap.size (fun _ => True) v0_ r ∧ Below w.heap.size w w' := by
  unfold nat_product.f at h
  by_cases hh : (decide (l0.length ≤ 400) && decide (l1.length ≤ 400) && limbB l0 && limbB l1) = true
  · rw [if_pos hh] at h
    obtain rfl := Option.some.inj h
    simp only [Bool.and_eq_true, decide_eq_true_eq] at hh
    obtain ⟨⟨⟨h0, h1⟩, d0⟩, d1⟩ := hh
    clear h
    have HH := Aside0.mk (show ∀ W : World, Below w.heap.size w W → W.heap[w.heap.size]? = some (hobj w.heap.size) → Halved w.heap.size A0 c0 l0 A1 c1 l1 W from fun W hb hg =>
      halves_all w.heap.size (l0.length + l1.length) A0 c0 l0 A1 c1 l1 W (Nat.le_refl _) h0 h1 (limbB_dig d0) (limbB_dig d1) (Kd.C_below hr0 hb) hc0 (Kd.C_below hr1 hb) hc1 hg)
    clear hr0 hc0 hr1 hc1 h0 h1 d0 d1
    unfold Halved at HH
    have hnew := blk_new w (hobj w.heap.size)
    have HB := Aside0.mk (below_alloc (Below.refl w.heap.size w) (hobj w.heap.size))
    have HNEW := Aside0.mk hnew
    have hcell := (blk_cell hnew 0).trans rfl
    clear hnew
    unfold hobj hval at HB HNEW hcell
    go_enter Try.func127, Try.ntmps127
    go_wp2_with (go_at_call 134; (refine (HH.out _ HB.out HNEW.out).mono ?_); rintro e w2 ⟨v, rfl, hR, hb⟩; have HR := Aside0.mk hR; have HB2 := Aside0.mk hb; clear hR hb)
    go_ret
    exact ⟨_, rfl, Kd.R_lower HR.out HB.out.size, below_step HB.out HB2.out⟩
  · rw [if_neg hh] at h
    cases h
end Go.Proofs.Ytgeanpnkllnipab.F
end
section
namespace Go.Proofs.Ytgeanpnkllnipab.F
open Go.RowKit Go.Proofs.YtgeanpnkllnipabW.PrintWords Go.Proofs.YtgeanpnkllnipabW.PrintLast Go.Proofs.YtgeanpnkllnipabW.PrintMore
attribute [local go_sem] max2_int min2_int max_two min_two max_three min_three max_four min_four
set_option linter.unusedVariables false
set_option linter.unusedSimpArgs false
def nat_Mul.f (k : Nat) (l0 : List Int) (l1 : List Int) : Option (List Int × Int) := (nat_right.f (([l0, l1] : List (List Int)))).bind fun t971 => (if t971 = true then ((nat_product.f l0 l1).bind fun t972 => ((nat_told.f k t972).bind fun bt975 => (some (bt975.1, bt975.2)))) else (some (([] : List Int), 1)))
set_option maxHeartbeats 8000000 in
set_option maxRecDepth 100000 in
theorem nat_Mul.calls (k : Nat) (P0_ : Nat → Prop) (A0 : Option Addr) (c0 : Nat) (l0 : List Int) (P1_ : Nat → Prop) (A1 : Option Addr) (c1 : Nat) (l1 : List Int) (r1 : List Int) (r2 : Int) (w : World) (hs0 : Kd.V (Kd.int .u64) 27 w w.heap.size (fun k_ => P0_ k_) (.slice A0 l0.length c0) l0) (hs1 : Kd.V (Kd.int .u64) 27 w w.heap.size (fun k_ => P1_ k_) (.slice A1 l1.length c1) l1) (h : nat_Mul.f k l0 l1 = some (r1, r2)) :
  Calls Try.prog 106 #[.slice A0 l0.length c0, .slice A1 l1.length c1] w fun e w' => ∃ v0_ : Value, e = .returned (.tuple #[v0_, .int .i64 r2]) ∧ Kd.R (Kd.int .u64) 27 w' w.heap.size (fun k_ => (w.heap.size ≤ k_)) v0_ r1 ∧ Below w.heap.size w w' := by
 have HO0 := Aside0.mk (show Kd.V (Kd.int .u64) 27 w w.heap.size (fun k_ => ((P0_ k_ ∨ P1_ k_) ∨ w.heap.size ≤ k_)) (.slice A0 l0.length c0) l0 from Kd.V_mono hs0 (fun k_ hk => .inl (.inl hk)))
 have HO1 := Aside0.mk (show Kd.V (Kd.int .u64) 27 w w.heap.size (fun k_ => ((P0_ k_ ∨ P1_ k_) ∨ w.heap.size ≤ k_)) (.slice A1 l1.length c1) l1 from Kd.V_mono hs1 (fun k_ hk => .inl (.inr hk)))
 have HB := Aside0.mk (Below.refl w.heap.size w)
 have H : ((nat_right.f (([l0, l1] : List (List Int)))).bind fun t971 => (if t971 = true then ((nat_product.f l0 l1).bind fun t972 => ((nat_told.f k t972).bind fun bt975 => (some (bt975.1, bt975.2)))) else (some (([] : List Int), 1)))) = some (r1, r2) := h
 clear h
 obtain ⟨y968, hy968⟩ : ∃ y_ : List (List Int), y_ = (([l0, l1] : List (List Int))) := ⟨_, rfl⟩
 replace H : ((nat_right.f y968).bind fun t971 => (if t971 = true then ((nat_product.f l0 l1).bind fun t972 => ((nat_told.f k t972).bind fun bt975 => (some (bt975.1, bt975.2)))) else (some (([] : List Int), 1)))) = some (r1, r2) := by first | (rw [hy968]; with_reducible exact H) | (have H2_ := (Option.bind_some _ _).symm.trans H; rw [hy968]; with_reducible exact H2_) | (have H2_ := (Option.bind_some _ _).symm.trans H; with_reducible exact H2_) | with_reducible exact H | (rw [hy968]; exact H) | exact H
 have Ny968 := Aside0.mk hy968; clear hy968
 replace H := ub H; obtain ⟨t971, A3, H⟩ := H
 by_cases c4 : t971 = true
 ·
  subst c4
  have H1 : ((nat_product.f l0 l1).bind fun t972 => ((nat_told.f k t972).bind fun bt975 => (some (bt975.1, bt975.2)))) = some (r1, r2) := by rw [if_pos rfl] at H; exact H
  clear H; have H := H1; clear H1
  replace H := ub H; obtain ⟨t972, A5, H⟩ := H
  replace H := ub H; obtain ⟨⟨t975, t978⟩, A6, H⟩ := H
  (try dsimp only at H)
  simp only [Option.some.injEq, Prod.mk.injEq] at H
  obtain ⟨rfl, rfl⟩ := H
  go_enter Try.func106, Try.ntmps106
  go_wp2_with (first | ((with_reducible refine gate_dst (N := 8) rfl ?_); refine Kd.N_lit (Kd.slice 27 (Kd.int .u64)) _ 23 ?hg (N' := 8) ?hd (xs := ([l0, l1] : List (List Int))) (inner := [.slice A0 l0.length c0, .slice A1 l1.length c1]) (ok := (fun k_ => ((P0_ k_ ∨ P1_ k_) ∨ w.heap.size ≤ k_))) (okp := (fun k_ => ((P0_ k_ ∨ P1_ k_) ∨ w.heap.size ≤ k_))) ?hr ?hp (fun _ hk => hk) ((show ∀ k_, w.heap.size ≤ k_ → (fun k_ => ((P0_ k_ ∨ P1_ k_) ∨ w.heap.size ≤ k_)) k_ from fun k_ hk => (.inr (Nat.le_trans (below_size uB) hk))) _ (Nat.le_refl _)) (Below.refl _ _) (Nat.le_refl _) (by simp) ?_; (case hd => rfl); (case hg => rfl); (case hr => first | (go_simp; done) | (go_simp; rfl) | (go_simp; simp only [u64_u8]; done) | (go_simp; simp only [u64_u8]; rfl)); (case hp => exact (Reps.one (show Kd.FK (Kd.slice 27 (Kd.int .u64)) _ _ l0 [.slice A0 l0.length c0] from (Kd.FK_slice_mk (Kd.V_reads' (Kd.V_mono (ok' := (fun k_ => ((P0_ k_ ∨ P1_ k_) ∨ w.heap.size ≤ k_))) (HO0.out) (fun k_ hk => hk))).2.1 (Kd.V_F (Kd.V_mono (ok' := (fun k_ => ((P0_ k_ ∨ P1_ k_) ∨ w.heap.size ≤ k_))) (HO0.out) (fun k_ hk => hk))))) (Reps.one (show Kd.FK (Kd.slice 27 (Kd.int .u64)) _ _ l1 [.slice A1 l1.length c1] from (Kd.FK_slice_mk (Kd.V_reads' (Kd.V_mono (ok' := (fun k_ => ((P0_ k_ ∨ P1_ k_) ∨ w.heap.size ≤ k_))) (HO1.out) (fun k_ hk => hk))).2.1 (Kd.V_F (Kd.V_mono (ok' := (fun k_ => ((P0_ k_ ∨ P1_ k_) ∨ w.heap.size ≤ k_))) (HO1.out) (fun k_ hk => hk))))) (Reps.none _ _)))); intro v969 w7 ho8 hb hg_ hnew_; clear hg_ hnew_; (first | rw [← Ny968.out] at ho8 | (simp only [Int.reduceToNat] at ho8; rw [← Ny968.out] at ho8)); replace HO0 := Aside0.mk (Kd.V_elder' (uV HO0.out) (Kd.N_base ho8) hb); replace HO1 := Aside0.mk (Kd.V_elder' (uV HO1.out) (Kd.N_base ho8) hb); have HO970 := Aside0.mk (Kd.N_lower ho8 (below_size uB)); replace HB := uy hb; clear hb ho8; obtain ⟨Ao9, co9, eo9⟩ := Kd.N_slice HO970.out; subst eo9) | ((with_reducible refine gate_callee (f := 114) rfl ?_); refine goesL_ (some 9) rfl rfl Try.func114 (by kernel_rfl) rfl #[.slice Ao9 y968.length co9] rfl uM ?_; (with_reducible refine (nat_right.calls _ _ y968 true _ ?side1 ?side2 A3.out).mono ?_); (case side1 => exact uC (Kd.N_reads' HO970.out).2.2); (case side2 => exact (Kd.N_reads' HO970.out).2.1); rintro e w' ⟨rfl, ⟨nd, rfl⟩⟩; refine ⟨_, rfl, ?_⟩) | ((with_reducible refine gate_callee (f := 127) rfl ?_); refine goesL_ (some 13) rfl rfl Try.func127 (by kernel_rfl) rfl #[.slice A0 l0.length c0, .slice A1 l1.length c1] rfl uM ?_; (with_reducible refine (nat_product.calls _ _ l0 _ _ l1 t972 _ ?side1 ?side2 ?side3 ?side4 A5.out).mono ?_); (case side1 => exact uC (Kd.V_reads' HO0.out).2.2); (case side2 => exact (Kd.V_reads' HO0.out).2.1); (case side3 => exact uC (Kd.V_reads' HO1.out).2.2); (case side4 => exact (Kd.V_reads' HO1.out).2.1); rintro e w10 ⟨v973, rfl, ho0, hb⟩; refine ⟨_, rfl, ?_⟩; replace HO0 := ueV HO0 ho0 hb; replace HO1 := ueV HO1 ho0 hb; replace HO970 := ueN HO970 ho0 hb; have HO974 := Aside0.mk (Kd.R_lower (Kd.R_newM (M := fun k_ => (w.heap.size ≤ k_)) ho0 (below_size uB) (fun k_ h_ => h_)) (below_size uB)); replace HB := uy hb; (try clear hb ho0); obtain ⟨Ao11, co11, eo11⟩ := Kd.R_slice HO974.out; subst eo11) | ((with_reducible refine gate_callee (f := 116) rfl ?_); refine goesL_ (some 14) rfl rfl Try.func116 (by kernel_rfl) rfl #[.slice Ao11 t972.length co11] rfl uM ?_; (with_reducible refine (nat_told.calls k (fun k_ => some k_ = (.slice Ao11 t972.length co11 : Value).ownBlock) (.slice Ao11 t972.length co11) t972 t975 t978 w _ ?side1 ?side2 A6.out).mono ?_); (case side1 => repeat (first | (with_reducible first | exact HB.out | apply below_alloc | apply pw_below_drewN | apply below_drew1) | exact HB.out)); (case side2 => exact Kd.R_tight rfl HO974.out); rintro e w12 ⟨v976, rfl, ho0, hb, hkp⟩; refine ⟨_, rfl, ?_⟩; replace HO0 := Aside0.mk (Kd.V_mono (ok' := fun k_ => ((P0_ k_ ∨ P1_ k_) ∨ w.heap.size ≤ k_) ∧ some k_ ≠ (.slice Ao9 y968.length co9 : Value).ownBlock ∧ some k_ ≠ (v976 : Value).ownBlock) (Kd.V_keptB (HO0.out) hkp (fun k_ hk_ hs_ => (hk_.2) hs_)) (fun k_ hk_ => ⟨hk_.1.1.1, hk_.1.1.2, fun e_ => Or.elim (ho0.1 k_ e_.symm) (fun hs_ => hk_.2.1 hs_) (fun hn_ => Nat.not_le.2 hk_.2.2 hn_)⟩)); replace HO1 := Aside0.mk (Kd.V_mono (ok' := fun k_ => ((P0_ k_ ∨ P1_ k_) ∨ w.heap.size ≤ k_) ∧ some k_ ≠ (.slice Ao9 y968.length co9 : Value).ownBlock ∧ some k_ ≠ (v976 : Value).ownBlock) (Kd.V_keptB (HO1.out) hkp (fun k_ hk_ hs_ => (hk_.2) hs_)) (fun k_ hk_ => ⟨hk_.1.1.1, hk_.1.1.2, fun e_ => Or.elim (ho0.1 k_ e_.symm) (fun hs_ => hk_.2.1 hs_) (fun hn_ => Nat.not_le.2 hk_.2.2 hn_)⟩)); replace HO970 := Aside0.mk (Kd.N_mono (ok' := fun k_ => ((P0_ k_ ∨ P1_ k_) ∨ w.heap.size ≤ k_) ∧ some k_ ≠ (v976 : Value).ownBlock) (Kd.N_keptB (HO970.out) hkp (fun k_ hk_ hs_ => (hk_.2) hs_)) (fun k_ hk_ => ⟨hk_.1.1, fun e_ => Or.elim (ho0.1 k_ e_.symm) (fun hs_ => hk_.2.1 hs_) (fun hn_ => Nat.not_le.2 hk_.2.2 hn_)⟩)); have HO977 := Aside0.mk (Kd.R_mono (ok' := fun k_ => (w.heap.size ≤ k_)) ho0 (fun k_ hk_ => Or.elim hk_ (fun hs_ => (HO974.out.1 k_ (hs_).symm).1) (fun hn_ => (Nat.le_trans (below_size uB) hn_)))); replace HB := Aside0.mk (hb); clear HO974; (try clear hb); (try clear hkp); (try clear ho0)))
  go_ret2
  exact ⟨_, uF, uR HO977.out, uB⟩
 replace c4 := Bool.eq_false_iff.mpr c4
 subst c4
 have H1 : (some (([] : List Int), 1)) = some (r1, r2) := by rw [if_neg (show ¬ (false = true) by decide)] at H; exact H
 clear H; have H := H1; clear H1
 simp only [Option.some.injEq, Prod.mk.injEq] at H
 obtain ⟨rfl, rfl⟩ := H
 go_enter Try.func106, Try.ntmps106
 go_wp2_with (first | ((with_reducible refine gate_dst (N := 8) rfl ?_); refine Kd.N_lit (Kd.slice 27 (Kd.int .u64)) _ 23 ?hg (N' := 8) ?hd (xs := ([l0, l1] : List (List Int))) (inner := [.slice A0 l0.length c0, .slice A1 l1.length c1]) (ok := (fun k_ => ((P0_ k_ ∨ P1_ k_) ∨ w.heap.size ≤ k_))) (okp := (fun k_ => ((P0_ k_ ∨ P1_ k_) ∨ w.heap.size ≤ k_))) ?hr ?hp (fun _ hk => hk) ((show ∀ k_, w.heap.size ≤ k_ → (fun k_ => ((P0_ k_ ∨ P1_ k_) ∨ w.heap.size ≤ k_)) k_ from fun k_ hk => (.inr (Nat.le_trans (below_size uB) hk))) _ (Nat.le_refl _)) (Below.refl _ _) (Nat.le_refl _) (by simp) ?_; (case hd => rfl); (case hg => rfl); (case hr => first | (go_simp; done) | (go_simp; rfl) | (go_simp; simp only [u64_u8]; done) | (go_simp; simp only [u64_u8]; rfl)); (case hp => exact (Reps.one (show Kd.FK (Kd.slice 27 (Kd.int .u64)) _ _ l0 [.slice A0 l0.length c0] from (Kd.FK_slice_mk (Kd.V_reads' (Kd.V_mono (ok' := (fun k_ => ((P0_ k_ ∨ P1_ k_) ∨ w.heap.size ≤ k_))) (HO0.out) (fun k_ hk => hk))).2.1 (Kd.V_F (Kd.V_mono (ok' := (fun k_ => ((P0_ k_ ∨ P1_ k_) ∨ w.heap.size ≤ k_))) (HO0.out) (fun k_ hk => hk))))) (Reps.one (show Kd.FK (Kd.slice 27 (Kd.int .u64)) _ _ l1 [.slice A1 l1.length c1] from (Kd.FK_slice_mk (Kd.V_reads' (Kd.V_mono (ok' := (fun k_ => ((P0_ k_ ∨ P1_ k_) ∨ w.heap.size ≤ k_))) (HO1.out) (fun k_ hk => hk))).2.1 (Kd.V_F (Kd.V_mono (ok' := (fun k_ => ((P0_ k_ ∨ P1_ k_) ∨ w.heap.size ≤ k_))) (HO1.out) (fun k_ hk => hk))))) (Reps.none _ _)))); intro v969 w13 ho14 hb hg_ hnew_; clear hg_ hnew_; (first | rw [← Ny968.out] at ho14 | (simp only [Int.reduceToNat] at ho14; rw [← Ny968.out] at ho14)); replace HO0 := Aside0.mk (Kd.V_elder' (uV HO0.out) (Kd.N_base ho14) hb); replace HO1 := Aside0.mk (Kd.V_elder' (uV HO1.out) (Kd.N_base ho14) hb); have HO970 := Aside0.mk (Kd.N_lower ho14 (below_size uB)); replace HB := uy hb; clear hb ho14; obtain ⟨Ao15, co15, eo15⟩ := Kd.N_slice HO970.out; subst eo15) | ((with_reducible refine gate_callee (f := 114) rfl ?_); refine goesL_ (some 9) rfl rfl Try.func114 (by kernel_rfl) rfl #[.slice Ao15 y968.length co15] rfl uM ?_; (with_reducible refine (nat_right.calls _ _ y968 false _ ?side1 ?side2 A3.out).mono ?_); (case side1 => exact uC (Kd.N_reads' HO970.out).2.2); (case side2 => exact (Kd.N_reads' HO970.out).2.1); rintro e w' ⟨rfl, ⟨nd, rfl⟩⟩; refine ⟨_, rfl, ?_⟩))
 go_ret2
 exact ⟨_, uF, uI, uB⟩
def modint_Mul.f (k : Nat) (a0_0 : Bool) (l0_1 : List Int) (a1_0 : Bool) (l1_1 : List Int) : Option (Bool × List Int × Int) := (modint_right.f (([(⟨a0_0, l0_1⟩ : S52), (⟨a1_0, l1_1⟩ : S52)] : List (S52)))).bind fun t985 => (if t985 = true then ((nat_Mul.f k l0_1 l1_1).bind fun bt986 => ((modint_From.f (a0_0 != a1_0) bt986.1).bind fun bt990 => (some (bt990.1, bt990.2, bt986.2)))) else (some (false, ([] : List Int), 1)))
set_option maxHeartbeats 8000000 in
set_option maxRecDepth 100000 in
theorem modint_Mul.calls (k : Nat) (a0_0 : Bool) (P0_1_ : Nat → Prop) (A0_1 : Option Addr) (c0_1 : Nat) (l0_1 : List Int) (a1_0 : Bool) (P1_1_ : Nat → Prop) (A1_1 : Option Addr) (c1_1 : Nat) (l1_1 : List Int) (r1 : Bool) (r2 : List Int) (r3 : Int) (w : World) (hs0_1 : Kd.V (Kd.int .u64) 27 w w.heap.size (fun k_ => P0_1_ k_) (.slice A0_1 l0_1.length c0_1) l0_1) (hs1_1 : Kd.V (Kd.int .u64) 27 w w.heap.size (fun k_ => P1_1_ k_) (.slice A1_1 l1_1.length c1_1) l1_1) (h : modint_Mul.f k a0_0 l0_1 a1_0 l1_1 = some (r1, r2, r3)) :
  Calls Try.prog 68 #[.agg #[.bool a0_0, .slice A0_1 l0_1.length c0_1], .agg #[.bool a1_0, .slice A1_1 l1_1.length c1_1]] w fun e w' => ∃ v1_ : Value, e = .returned (.tuple #[.agg #[.bool r1, v1_], .int .i64 r3]) ∧ Kd.R (Kd.int .u64) 27 w' w.heap.size (fun k_ => (w.heap.size ≤ k_)) v1_ r2 ∧ Below w.heap.size w w' := by
 have hu52 := Try.underlying52
 have HO0_1 := Aside0.mk (show Kd.V (Kd.int .u64) 27 w w.heap.size (fun k_ => ((P0_1_ k_ ∨ P1_1_ k_) ∨ w.heap.size ≤ k_)) (.slice A0_1 l0_1.length c0_1) l0_1 from Kd.V_mono hs0_1 (fun k_ hk => .inl (.inl hk)))
 have HO1_1 := Aside0.mk (show Kd.V (Kd.int .u64) 27 w w.heap.size (fun k_ => ((P0_1_ k_ ∨ P1_1_ k_) ∨ w.heap.size ≤ k_)) (.slice A1_1 l1_1.length c1_1) l1_1 from Kd.V_mono hs1_1 (fun k_ hk => .inl (.inr hk)))
 have HB := Aside0.mk (Below.refl w.heap.size w)
 have H : ((modint_right.f (([(⟨a0_0, l0_1⟩ : S52), (⟨a1_0, l1_1⟩ : S52)] : List (S52)))).bind fun t985 => (if t985 = true then ((nat_Mul.f k l0_1 l1_1).bind fun bt986 => ((modint_From.f (a0_0 != a1_0) bt986.1).bind fun bt990 => (some (bt990.1, bt990.2, bt986.2)))) else (some (false, ([] : List Int), 1)))) = some (r1, r2, r3) := h
 clear h
 obtain ⟨y982, hy982⟩ : ∃ y_ : List (S52), y_ = (([(⟨a0_0, l0_1⟩ : S52), (⟨a1_0, l1_1⟩ : S52)] : List (S52))) := ⟨_, rfl⟩
 replace H : ((modint_right.f y982).bind fun t985 => (if t985 = true then ((nat_Mul.f k l0_1 l1_1).bind fun bt986 => ((modint_From.f (a0_0 != a1_0) bt986.1).bind fun bt990 => (some (bt990.1, bt990.2, bt986.2)))) else (some (false, ([] : List Int), 1)))) = some (r1, r2, r3) := by first | (rw [hy982]; with_reducible exact H) | (have H2_ := (Option.bind_some _ _).symm.trans H; rw [hy982]; with_reducible exact H2_) | (have H2_ := (Option.bind_some _ _).symm.trans H; with_reducible exact H2_) | with_reducible exact H | (rw [hy982]; exact H) | exact H
 have Ny982 := Aside0.mk hy982; clear hy982
 replace H := ub H; obtain ⟨t985, A3, H⟩ := H
 by_cases c4 : t985 = true
 ·
  subst c4
  have H1 : ((nat_Mul.f k l0_1 l1_1).bind fun bt986 => ((modint_From.f (a0_0 != a1_0) bt986.1).bind fun bt990 => (some (bt990.1, bt990.2, bt986.2)))) = some (r1, r2, r3) := by rw [if_pos rfl] at H; exact H
  clear H; have H := H1; clear H1
  replace H := ub H; obtain ⟨⟨t986, t989⟩, A5, H⟩ := H
  (try dsimp only at H)
  replace H := ub H; obtain ⟨⟨t990, t991⟩, A6, H⟩ := H
  (try dsimp only at H)
  simp only [Option.some.injEq, Prod.mk.injEq] at H
  obtain ⟨rfl, rfl, rfl⟩ := H
  go_enter Try.func68, Try.ntmps68
  go_wp2_with (first | ((with_reducible refine gate_dst (N := 2) rfl ?_); refine box_event ?hg (N := 2) ?hd (cs := #[.bool a0_0, .slice A0_1 l0_1.length c0_1]) (t := 52) ?hr ?_; (case hd => rfl); (case hg => rfl); (case hr => first | (go_simp; done) | (go_simp; rfl)); intro gb979 hg w7 hbox hb; replace HO0_1 := Aside0.mk (Kd.V_below (Kd.V_elderB (uV HO0_1.out) gb979 (Nat.le_of_eq hg.symm)) hb); replace HO1_1 := Aside0.mk (Kd.V_below (Kd.V_elderB (uV HO1_1.out) gb979 (Nat.le_of_eq hg.symm)) hb); have BK979 := Aside0.mk (hbox); have GW979 := us hg; have GE979 := us hg; replace HB := uy hb; clear hb hbox hg) | ((with_reducible refine gate_dst (N := 3) rfl ?_); refine box_event ?hg (N := 3) ?hd (cs := #[.bool a1_0, .slice A1_1 l1_1.length c1_1]) (t := 52) ?hr ?_; (case hd => rfl); (case hg => rfl); (case hr => first | (go_simp; done) | (go_simp; rfl)); intro gb980 hg w8 hbox hb; replace HO0_1 := Aside0.mk (Kd.V_below (Kd.V_elderB (uV HO0_1.out) gb980 (Nat.le_of_eq hg.symm)) hb); replace HO1_1 := Aside0.mk (Kd.V_below (Kd.V_elderB (uV HO1_1.out) gb980 (Nat.le_of_eq hg.symm)) hb); have BK980 := Aside0.mk (hbox); have GW980 := us hg; have GE980 := us hg; replace HB := uy hb; have NB979_980 := Aside0.mk ((by rw [hg]; exact Nat.ne_of_lt (blk_lt (uK BK979.out)) : gb979 ≠ gb980)); have NB980_979 := Aside0.mk ((by rw [hg]; exact Nat.ne_of_gt (blk_lt (uK BK979.out)) : gb980 ≠ gb979)); replace BK979 := ux BK979 hb; clear hb hbox hg) | ((with_reducible refine gate_dst (N := 4) rfl ?_); refine box_event ?hg (N := 4) ?hd (cs := #[.bool false, .slice none 0 0]) (t := 52) ?hr ?_; (case hd => rfl); (case hg => rfl); (case hr => first | (go_simp; done) | (go_simp; rfl)); intro gb981 hg w9 hbox hb; replace HO0_1 := Aside0.mk (Kd.V_below (Kd.V_elderB (uV HO0_1.out) gb981 (Nat.le_of_eq hg.symm)) hb); replace HO1_1 := Aside0.mk (Kd.V_below (Kd.V_elderB (uV HO1_1.out) gb981 (Nat.le_of_eq hg.symm)) hb); have BK981 := Aside0.mk (hbox); have GW981 := us hg; have GE981 := us hg; replace HB := uy hb; have NB979_981 := Aside0.mk ((by rw [hg]; exact Nat.ne_of_lt (blk_lt (uK BK979.out)) : gb979 ≠ gb981)); have NB981_979 := Aside0.mk ((by rw [hg]; exact Nat.ne_of_gt (blk_lt (uK BK979.out)) : gb981 ≠ gb979)); replace BK979 := ux BK979 hb; have NB980_981 := Aside0.mk ((by rw [hg]; exact Nat.ne_of_lt (blk_lt (uK BK980.out)) : gb980 ≠ gb981)); have NB981_980 := Aside0.mk ((by rw [hg]; exact Nat.ne_of_gt (blk_lt (uK BK980.out)) : gb981 ≠ gb980)); replace BK980 := ux BK980 hb; clear hb hbox hg; have hnb10 := NB979_980.out; have hnc10 := NB980_979.out; have hnb11 := NB979_981.out; have hnc11 := NB981_979.out; have hcz12_0 : w9.cell? ⟨gb979, 0, none⟩ = some (.bool a0_0) := (blk_cell BK979.out 0).trans rfl; have hcz12_1 : w9.cell? ⟨gb979, 1, none⟩ = some (.slice A0_1 l0_1.length c0_1) := (blk_cell BK979.out 1).trans rfl; have hfz12_0 := blk_frozen BK979.out 0; have hfz12_1 := blk_frozen BK979.out 1; have hnb13 := NB980_981.out; have hnc13 := NB981_980.out; have hcz14_0 : w9.cell? ⟨gb980, 0, none⟩ = some (.bool a1_0) := (blk_cell BK980.out 0).trans rfl; have hcz14_1 : w9.cell? ⟨gb980, 1, none⟩ = some (.slice A1_1 l1_1.length c1_1) := (blk_cell BK980.out 1).trans rfl; have hfz14_0 := blk_frozen BK980.out 0; have hfz14_1 := blk_frozen BK980.out 1) | ((with_reducible refine gate_dst (N := 10) rfl ?_); refine Kd.N_lit k52 _ 52 ?hg (N' := 10) ?hd (xs := ([(⟨a0_0, l0_1⟩ : S52), (⟨a1_0, l1_1⟩ : S52)] : List (S52))) (inner := [.bool a0_0, .slice A0_1 l0_1.length c0_1, .bool a1_0, .slice A1_1 l1_1.length c1_1]) (ok := (fun k_ => ((P0_1_ k_ ∨ P1_1_ k_) ∨ w.heap.size ≤ k_) ∧ k_ ≠ gb979 ∧ k_ ≠ gb980 ∧ k_ ≠ gb981)) (okp := (fun k_ => ((P0_1_ k_ ∨ P1_1_ k_) ∨ w.heap.size ≤ k_) ∧ k_ ≠ gb979 ∧ k_ ≠ gb980 ∧ k_ ≠ gb981)) ?hr ?hp (fun _ hk => hk) ((show ∀ k_, w9.heap.size ≤ k_ → (fun k_ => ((P0_1_ k_ ∨ P1_1_ k_) ∨ w.heap.size ≤ k_) ∧ k_ ≠ gb979 ∧ k_ ≠ gb980 ∧ k_ ≠ gb981) k_ from fun k_ hk => ⟨(.inr (Nat.le_trans (below_size uB) hk)), Kd.freshB (g := gb979) (o := .cells #[.bool a0_0, .slice A0_1 l0_1.length c0_1] 52 (0, 0)) (uK BK979.out) k_ hk, Kd.freshB (g := gb980) (o := .cells #[.bool a1_0, .slice A1_1 l1_1.length c1_1] 52 (0, 0)) (uK BK980.out) k_ hk, Kd.freshB (g := gb981) (o := .cells #[.bool false, .slice none 0 0] 52 (0, 0)) (uK BK981.out) k_ hk⟩) _ (Nat.le_refl _)) (Below.refl _ _) (Nat.le_refl _) (by simp) ?_; (case hd => rfl); (case hg => rfl); (case hr => first | (go_simp; done) | (go_simp; rfl) | (go_simp; simp only [u64_u8]; done) | (go_simp; simp only [u64_u8]; rfl)); (case hp => exact (Reps.c2 (show Kd.FK k52 _ _ (⟨a0_0, l0_1⟩ : S52) [.bool a0_0, .slice A0_1 l0_1.length c0_1] from (k52_mkF _ _ (⟨a0_0, l0_1⟩ : S52) (Kd.V_reads' (Kd.V_mono (ok' := (fun k_ => ((P0_1_ k_ ∨ P1_1_ k_) ∨ w.heap.size ≤ k_) ∧ k_ ≠ gb979 ∧ k_ ≠ gb980 ∧ k_ ≠ gb981)) (HO0_1.out) (fun k_ hk => ⟨hk.1.1.1, ⟨hk.1.1.2, ⟨hk.1.2, hk.2⟩⟩⟩))).2.1 (Kd.V_F (Kd.V_mono (ok' := (fun k_ => ((P0_1_ k_ ∨ P1_1_ k_) ∨ w.heap.size ≤ k_) ∧ k_ ≠ gb979 ∧ k_ ≠ gb980 ∧ k_ ≠ gb981)) (HO0_1.out) (fun k_ hk => ⟨hk.1.1.1, ⟨hk.1.1.2, ⟨hk.1.2, hk.2⟩⟩⟩))))) (Reps.c2 (show Kd.FK k52 _ _ (⟨a1_0, l1_1⟩ : S52) [.bool a1_0, .slice A1_1 l1_1.length c1_1] from (k52_mkF _ _ (⟨a1_0, l1_1⟩ : S52) (Kd.V_reads' (Kd.V_mono (ok' := (fun k_ => ((P0_1_ k_ ∨ P1_1_ k_) ∨ w.heap.size ≤ k_) ∧ k_ ≠ gb979 ∧ k_ ≠ gb980 ∧ k_ ≠ gb981)) (HO1_1.out) (fun k_ hk => ⟨hk.1.1.1, ⟨hk.1.1.2, ⟨hk.1.2, hk.2⟩⟩⟩))).2.1 (Kd.V_F (Kd.V_mono (ok' := (fun k_ => ((P0_1_ k_ ∨ P1_1_ k_) ∨ w.heap.size ≤ k_) ∧ k_ ≠ gb979 ∧ k_ ≠ gb980 ∧ k_ ≠ gb981)) (HO1_1.out) (fun k_ hk => ⟨hk.1.1.1, ⟨hk.1.1.2, ⟨hk.1.2, hk.2⟩⟩⟩))))) (Reps.none _ _)))); intro v983 w15 ho16 hb hg_ hnew_; clear hg_ hnew_; (first | rw [← Ny982.out] at ho16 | (simp only [Int.reduceToNat] at ho16; rw [← Ny982.out] at ho16)); replace HO0_1 := Aside0.mk (Kd.V_elder' (uV HO0_1.out) (Kd.N_base ho16) hb); replace HO1_1 := Aside0.mk (Kd.V_elder' (uV HO1_1.out) (Kd.N_base ho16) hb); have HO984 := Aside0.mk (Kd.N_lower ho16 (below_size uB)); replace BK979 := ux BK979 hb; replace BK980 := ux BK980 hb; replace BK981 := ux BK981 hb; replace HB := uy hb; clear hb ho16; obtain ⟨Ao17, co17, eo17⟩ := Kd.N_slice HO984.out; subst eo17) | ((with_reducible refine gate_callee (f := 100) rfl ?_); refine goesL_ (some 11) rfl rfl Try.func100 (by kernel_rfl) rfl #[.slice Ao17 y982.length co17] rfl uM ?_; (with_reducible refine (modint_right.calls _ _ y982 true _ ?side1 ?side2 A3.out).mono ?_); (case side1 => exact uC (Kd.N_reads' HO984.out).2.2); (case side2 => exact (Kd.N_reads' HO984.out).2.1); rintro e w18 ⟨rfl, hb⟩; refine ⟨_, rfl, ?_⟩; replace HO0_1 := Aside0.mk (Kd.V_below (uV HO0_1.out) hb); replace HO1_1 := Aside0.mk (Kd.V_below (uV HO1_1.out) hb); replace HO984 := Aside0.mk (Kd.N_below (uN HO984.out) hb); replace BK979 := ux BK979 hb; replace BK980 := ux BK980 hb; replace BK981 := ux BK981 hb; replace HB := uy hb; (try clear hb); have hcz19_0 : w18.cell? ⟨gb979, 0, none⟩ = some (.bool a0_0) := (blk_cell BK979.out 0).trans rfl; have hcz19_1 : w18.cell? ⟨gb979, 1, none⟩ = some (.slice A0_1 l0_1.length c0_1) := (blk_cell BK979.out 1).trans rfl; have hfz19_0 := blk_frozen BK979.out 0; have hfz19_1 := blk_frozen BK979.out 1; have hcz20_0 : w18.cell? ⟨gb980, 0, none⟩ = some (.bool a1_0) := (blk_cell BK980.out 0).trans rfl; have hcz20_1 : w18.cell? ⟨gb980, 1, none⟩ = some (.slice A1_1 l1_1.length c1_1) := (blk_cell BK980.out 1).trans rfl; have hfz20_0 := blk_frozen BK980.out 0; have hfz20_1 := blk_frozen BK980.out 1) | ((with_reducible refine gate_callee (f := 106) rfl ?_); refine goesL_ (some 19) rfl rfl Try.func106 (by kernel_rfl) rfl #[.slice A0_1 l0_1.length c0_1, .slice A1_1 l1_1.length c1_1] rfl uM ?_; (with_reducible refine (nat_Mul.calls k (fun k_ => ((((((P0_1_ k_ ∨ P1_1_ k_) ∨ w.heap.size ≤ k_) ∧ k_ ≠ gb979) ∧ k_ ≠ gb980) ∧ k_ ≠ gb981) ∧ some k_ ≠ (.slice Ao17 y982.length co17 : Value).ownBlock)) _ _ l0_1 (fun k_ => ((((((P0_1_ k_ ∨ P1_1_ k_) ∨ w.heap.size ≤ k_) ∧ k_ ≠ gb979) ∧ k_ ≠ gb980) ∧ k_ ≠ gb981) ∧ some k_ ≠ (.slice Ao17 y982.length co17 : Value).ownBlock)) _ _ l1_1 t986 t989 _ ?side1 ?side2 A5.out).mono ?_); (case side1 => exact HO0_1.out); (case side2 => exact HO1_1.out); rintro e w21 ⟨v987, rfl, ho0, hb⟩; refine ⟨_, rfl, ?_⟩; replace HO0_1 := ueV HO0_1 ho0 hb; replace HO1_1 := ueV HO1_1 ho0 hb; replace HO984 := ueN HO984 ho0 hb; have HO988 := Aside0.mk (Kd.R_lower (Kd.R_newM (M := fun k_ => (w.heap.size ≤ k_)) (Kd.R_mono (ok' := fun k_ => True) ho0 (fun _ hk_ => trivial)) (below_size uB) (fun k_ h_ => h_)) (below_size uB)); replace BK979 := ux BK979 hb; replace BK980 := ux BK980 hb; replace BK981 := ux BK981 hb; replace HB := uy hb; (try clear hb ho0); have hcz22_0 : w21.cell? ⟨gb979, 0, none⟩ = some (.bool a0_0) := (blk_cell BK979.out 0).trans rfl; have hcz22_1 : w21.cell? ⟨gb979, 1, none⟩ = some (.slice A0_1 l0_1.length c0_1) := (blk_cell BK979.out 1).trans rfl; have hfz22_0 := blk_frozen BK979.out 0; have hfz22_1 := blk_frozen BK979.out 1; have hcz23_0 : w21.cell? ⟨gb980, 0, none⟩ = some (.bool a1_0) := (blk_cell BK980.out 0).trans rfl; have hcz23_1 : w21.cell? ⟨gb980, 1, none⟩ = some (.slice A1_1 l1_1.length c1_1) := (blk_cell BK980.out 1).trans rfl; have hfz23_0 := blk_frozen BK980.out 0; have hfz23_1 := blk_frozen BK980.out 1; obtain ⟨Ao24, co24, eo24⟩ := Kd.R_slice HO988.out; subst eo24) | ((with_reducible refine gate_callee (f := 83) rfl ?_); refine goesL_ (some 28) rfl rfl Try.func83 (by kernel_rfl) rfl #[.bool (a0_0 != a1_0), .slice Ao24 t986.length co24] rfl uM ?_; (with_reducible refine (modint_From.calls (a0_0 != a1_0) _ _ t986 t990 t991 _ ?side1 ?side2 A6.out).mono ?_); (case side1 => exact uC (Kd.R_reads' HO988.out).2.2); (case side2 => exact (Kd.R_reads' HO988.out).2.1); rintro e w25 ⟨v992, rfl, ho0, hb⟩; refine ⟨_, rfl, ?_⟩; replace HO0_1 := ueV HO0_1 ho0 hb; replace HO1_1 := ueV HO1_1 ho0 hb; replace HO984 := ueN HO984 ho0 hb; have HO993 := Aside0.mk (Kd.R_lower (Kd.R_new' (Kd.R_newM (M := fun k_ => (w.heap.size ≤ k_)) ho0 (below_size uB) (fun k_ h_ => h_)) (Kd.R_lt (uR HO988.out))) (below_size uB)); replace HO988 := ueR HO988 ho0 hb; replace BK979 := ux BK979 hb; replace BK980 := ux BK980 hb; replace BK981 := ux BK981 hb; replace HB := uy hb; (try clear hb ho0); have hcz26_0 : w25.cell? ⟨gb981, 0, none⟩ = some (.bool false) := (blk_cell BK981.out 0).trans rfl; have hcz26_1 : w25.cell? ⟨gb981, 1, none⟩ = some (.slice none 0 0) := (blk_cell BK981.out 1).trans rfl; have hfz26_0 := blk_frozen BK981.out 0; have hfz26_1 := blk_frozen BK981.out 1; obtain ⟨Ao27, co27, eo27⟩ := Kd.R_slice HO993.out; subst eo27))
  refine bodyPost_ret (results_ct rfl _ _ gb981 52 #[.bool t990, .slice Ao27 t991.length co27] (0, 0) _ rfl (by (with_reducible repeat (first | refine blk_drewN ?_ _ | refine blk_drew ?_ | refine blk_alloc ?_ _)); refine blk_put (cs := #[.bool t990, .slice none 0 0]) ?_ 1 _ rfl; (with_reducible repeat (first | refine blk_drewN ?_ _ | refine blk_drew ?_ | refine blk_alloc ?_ _)); refine blk_put (cs := #[.bool false, .slice none 0 0]) ?_ 0 _ rfl; (with_reducible repeat (first | refine blk_drewN ?_ _ | refine blk_drew ?_ | refine blk_alloc ?_ _)); exact BK981.out) Try.underlying52 rfl (by kernel_rfl)) rfl ?_
  exact ⟨_, uF, by (with_reducible repeat (first | apply Kd.R_alloc | apply Kd.R_drewN | apply Kd.R_drew)); exact Kd.R_mono (Kd.R_far (p := ⟨gb981, 1, none⟩) (Kd.R_far (p := ⟨gb981, 0, none⟩) (Kd.R_types HO993.out BK981.out (by decide)) (fun _ hk => hk.2) (.bool t990)) (fun _ hk => hk.2) (.slice Ao27 t991.length co27)) (fun _ hk => hk.1.1.1), uB⟩
 replace c4 := Bool.eq_false_iff.mpr c4
 subst c4
 have H1 : (some (false, ([] : List Int), 1)) = some (r1, r2, r3) := by rw [if_neg (show ¬ (false = true) by decide)] at H; exact H
 clear H; have H := H1; clear H1
 simp only [Option.some.injEq, Prod.mk.injEq] at H
 obtain ⟨rfl, rfl, rfl⟩ := H
 go_enter Try.func68, Try.ntmps68
 go_wp2_with (first | ((with_reducible refine gate_dst (N := 2) rfl ?_); refine box_event ?hg (N := 2) ?hd (cs := #[.bool a0_0, .slice A0_1 l0_1.length c0_1]) (t := 52) ?hr ?_; (case hd => rfl); (case hg => rfl); (case hr => first | (go_simp; done) | (go_simp; rfl)); intro gb979 hg w28 hbox hb; replace HO0_1 := Aside0.mk (Kd.V_below (Kd.V_elderB (uV HO0_1.out) gb979 (Nat.le_of_eq hg.symm)) hb); replace HO1_1 := Aside0.mk (Kd.V_below (Kd.V_elderB (uV HO1_1.out) gb979 (Nat.le_of_eq hg.symm)) hb); have BK979 := Aside0.mk (hbox); have GW979 := us hg; have GE979 := us hg; replace HB := uy hb; clear hb hbox hg) | ((with_reducible refine gate_dst (N := 3) rfl ?_); refine box_event ?hg (N := 3) ?hd (cs := #[.bool a1_0, .slice A1_1 l1_1.length c1_1]) (t := 52) ?hr ?_; (case hd => rfl); (case hg => rfl); (case hr => first | (go_simp; done) | (go_simp; rfl)); intro gb980 hg w29 hbox hb; replace HO0_1 := Aside0.mk (Kd.V_below (Kd.V_elderB (uV HO0_1.out) gb980 (Nat.le_of_eq hg.symm)) hb); replace HO1_1 := Aside0.mk (Kd.V_below (Kd.V_elderB (uV HO1_1.out) gb980 (Nat.le_of_eq hg.symm)) hb); have BK980 := Aside0.mk (hbox); have GW980 := us hg; have GE980 := us hg; replace HB := uy hb; have NB979_980 := Aside0.mk ((by rw [hg]; exact Nat.ne_of_lt (blk_lt (uK BK979.out)) : gb979 ≠ gb980)); have NB980_979 := Aside0.mk ((by rw [hg]; exact Nat.ne_of_gt (blk_lt (uK BK979.out)) : gb980 ≠ gb979)); replace BK979 := ux BK979 hb; clear hb hbox hg) | ((with_reducible refine gate_dst (N := 4) rfl ?_); refine box_event ?hg (N := 4) ?hd (cs := #[.bool false, .slice none 0 0]) (t := 52) ?hr ?_; (case hd => rfl); (case hg => rfl); (case hr => first | (go_simp; done) | (go_simp; rfl)); intro gb981 hg w30 hbox hb; replace HO0_1 := Aside0.mk (Kd.V_below (Kd.V_elderB (uV HO0_1.out) gb981 (Nat.le_of_eq hg.symm)) hb); replace HO1_1 := Aside0.mk (Kd.V_below (Kd.V_elderB (uV HO1_1.out) gb981 (Nat.le_of_eq hg.symm)) hb); have BK981 := Aside0.mk (hbox); have GW981 := us hg; have GE981 := us hg; replace HB := uy hb; have NB979_981 := Aside0.mk ((by rw [hg]; exact Nat.ne_of_lt (blk_lt (uK BK979.out)) : gb979 ≠ gb981)); have NB981_979 := Aside0.mk ((by rw [hg]; exact Nat.ne_of_gt (blk_lt (uK BK979.out)) : gb981 ≠ gb979)); replace BK979 := ux BK979 hb; have NB980_981 := Aside0.mk ((by rw [hg]; exact Nat.ne_of_lt (blk_lt (uK BK980.out)) : gb980 ≠ gb981)); have NB981_980 := Aside0.mk ((by rw [hg]; exact Nat.ne_of_gt (blk_lt (uK BK980.out)) : gb981 ≠ gb980)); replace BK980 := ux BK980 hb; clear hb hbox hg; have hnb31 := NB979_980.out; have hnc31 := NB980_979.out; have hnb32 := NB979_981.out; have hnc32 := NB981_979.out; have hcz33_0 : w30.cell? ⟨gb979, 0, none⟩ = some (.bool a0_0) := (blk_cell BK979.out 0).trans rfl; have hcz33_1 : w30.cell? ⟨gb979, 1, none⟩ = some (.slice A0_1 l0_1.length c0_1) := (blk_cell BK979.out 1).trans rfl; have hfz33_0 := blk_frozen BK979.out 0; have hfz33_1 := blk_frozen BK979.out 1; have hnb34 := NB980_981.out; have hnc34 := NB981_980.out; have hcz35_0 : w30.cell? ⟨gb980, 0, none⟩ = some (.bool a1_0) := (blk_cell BK980.out 0).trans rfl; have hcz35_1 : w30.cell? ⟨gb980, 1, none⟩ = some (.slice A1_1 l1_1.length c1_1) := (blk_cell BK980.out 1).trans rfl; have hfz35_0 := blk_frozen BK980.out 0; have hfz35_1 := blk_frozen BK980.out 1) | ((with_reducible refine gate_dst (N := 10) rfl ?_); refine Kd.N_lit k52 _ 52 ?hg (N' := 10) ?hd (xs := ([(⟨a0_0, l0_1⟩ : S52), (⟨a1_0, l1_1⟩ : S52)] : List (S52))) (inner := [.bool a0_0, .slice A0_1 l0_1.length c0_1, .bool a1_0, .slice A1_1 l1_1.length c1_1]) (ok := (fun k_ => ((P0_1_ k_ ∨ P1_1_ k_) ∨ w.heap.size ≤ k_) ∧ k_ ≠ gb979 ∧ k_ ≠ gb980 ∧ k_ ≠ gb981)) (okp := (fun k_ => ((P0_1_ k_ ∨ P1_1_ k_) ∨ w.heap.size ≤ k_) ∧ k_ ≠ gb979 ∧ k_ ≠ gb980 ∧ k_ ≠ gb981)) ?hr ?hp (fun _ hk => hk) ((show ∀ k_, w30.heap.size ≤ k_ → (fun k_ => ((P0_1_ k_ ∨ P1_1_ k_) ∨ w.heap.size ≤ k_) ∧ k_ ≠ gb979 ∧ k_ ≠ gb980 ∧ k_ ≠ gb981) k_ from fun k_ hk => ⟨(.inr (Nat.le_trans (below_size uB) hk)), Kd.freshB (g := gb979) (o := .cells #[.bool a0_0, .slice A0_1 l0_1.length c0_1] 52 (0, 0)) (uK BK979.out) k_ hk, Kd.freshB (g := gb980) (o := .cells #[.bool a1_0, .slice A1_1 l1_1.length c1_1] 52 (0, 0)) (uK BK980.out) k_ hk, Kd.freshB (g := gb981) (o := .cells #[.bool false, .slice none 0 0] 52 (0, 0)) (uK BK981.out) k_ hk⟩) _ (Nat.le_refl _)) (Below.refl _ _) (Nat.le_refl _) (by simp) ?_; (case hd => rfl); (case hg => rfl); (case hr => first | (go_simp; done) | (go_simp; rfl) | (go_simp; simp only [u64_u8]; done) | (go_simp; simp only [u64_u8]; rfl)); (case hp => exact (Reps.c2 (show Kd.FK k52 _ _ (⟨a0_0, l0_1⟩ : S52) [.bool a0_0, .slice A0_1 l0_1.length c0_1] from (k52_mkF _ _ (⟨a0_0, l0_1⟩ : S52) (Kd.V_reads' (Kd.V_mono (ok' := (fun k_ => ((P0_1_ k_ ∨ P1_1_ k_) ∨ w.heap.size ≤ k_) ∧ k_ ≠ gb979 ∧ k_ ≠ gb980 ∧ k_ ≠ gb981)) (HO0_1.out) (fun k_ hk => ⟨hk.1.1.1, ⟨hk.1.1.2, ⟨hk.1.2, hk.2⟩⟩⟩))).2.1 (Kd.V_F (Kd.V_mono (ok' := (fun k_ => ((P0_1_ k_ ∨ P1_1_ k_) ∨ w.heap.size ≤ k_) ∧ k_ ≠ gb979 ∧ k_ ≠ gb980 ∧ k_ ≠ gb981)) (HO0_1.out) (fun k_ hk => ⟨hk.1.1.1, ⟨hk.1.1.2, ⟨hk.1.2, hk.2⟩⟩⟩))))) (Reps.c2 (show Kd.FK k52 _ _ (⟨a1_0, l1_1⟩ : S52) [.bool a1_0, .slice A1_1 l1_1.length c1_1] from (k52_mkF _ _ (⟨a1_0, l1_1⟩ : S52) (Kd.V_reads' (Kd.V_mono (ok' := (fun k_ => ((P0_1_ k_ ∨ P1_1_ k_) ∨ w.heap.size ≤ k_) ∧ k_ ≠ gb979 ∧ k_ ≠ gb980 ∧ k_ ≠ gb981)) (HO1_1.out) (fun k_ hk => ⟨hk.1.1.1, ⟨hk.1.1.2, ⟨hk.1.2, hk.2⟩⟩⟩))).2.1 (Kd.V_F (Kd.V_mono (ok' := (fun k_ => ((P0_1_ k_ ∨ P1_1_ k_) ∨ w.heap.size ≤ k_) ∧ k_ ≠ gb979 ∧ k_ ≠ gb980 ∧ k_ ≠ gb981)) (HO1_1.out) (fun k_ hk => ⟨hk.1.1.1, ⟨hk.1.1.2, ⟨hk.1.2, hk.2⟩⟩⟩))))) (Reps.none _ _)))); intro v983 w36 ho37 hb hg_ hnew_; clear hg_ hnew_; (first | rw [← Ny982.out] at ho37 | (simp only [Int.reduceToNat] at ho37; rw [← Ny982.out] at ho37)); replace HO0_1 := Aside0.mk (Kd.V_elder' (uV HO0_1.out) (Kd.N_base ho37) hb); replace HO1_1 := Aside0.mk (Kd.V_elder' (uV HO1_1.out) (Kd.N_base ho37) hb); have HO984 := Aside0.mk (Kd.N_lower ho37 (below_size uB)); replace BK979 := ux BK979 hb; replace BK980 := ux BK980 hb; replace BK981 := ux BK981 hb; replace HB := uy hb; clear hb ho37; obtain ⟨Ao38, co38, eo38⟩ := Kd.N_slice HO984.out; subst eo38) | ((with_reducible refine gate_callee (f := 100) rfl ?_); refine goesL_ (some 11) rfl rfl Try.func100 (by kernel_rfl) rfl #[.slice Ao38 y982.length co38] rfl uM ?_; (with_reducible refine (modint_right.calls _ _ y982 false _ ?side1 ?side2 A3.out).mono ?_); (case side1 => exact uC (Kd.N_reads' HO984.out).2.2); (case side2 => exact (Kd.N_reads' HO984.out).2.1); rintro e w39 ⟨rfl, hb⟩; refine ⟨_, rfl, ?_⟩; replace HO0_1 := Aside0.mk (Kd.V_below (uV HO0_1.out) hb); replace HO1_1 := Aside0.mk (Kd.V_below (uV HO1_1.out) hb); replace HO984 := Aside0.mk (Kd.N_below (uN HO984.out) hb); replace BK979 := ux BK979 hb; replace BK980 := ux BK980 hb; replace BK981 := ux BK981 hb; replace HB := uy hb; (try clear hb); have hcz40_0 : w39.cell? ⟨gb981, 0, none⟩ = some (.bool false) := (blk_cell BK981.out 0).trans rfl; have hcz40_1 : w39.cell? ⟨gb981, 1, none⟩ = some (.slice none 0 0) := (blk_cell BK981.out 1).trans rfl; have hfz40_0 := blk_frozen BK981.out 0; have hfz40_1 := blk_frozen BK981.out 1))
 refine bodyPost_ret (results_ct rfl _ _ gb981 52 #[.bool false, .slice none 0 0] (0, 0) _ rfl (by (with_reducible repeat (first | refine blk_drewN ?_ _ | refine blk_drew ?_ | refine blk_alloc ?_ _)); refine blk_put (cs := #[.bool false, .slice none 0 0]) ?_ 1 _ rfl; (with_reducible repeat (first | refine blk_drewN ?_ _ | refine blk_drew ?_ | refine blk_alloc ?_ _)); refine blk_put (cs := #[.bool false, .slice none 0 0]) ?_ 0 _ rfl; (with_reducible repeat (first | refine blk_drewN ?_ _ | refine blk_drew ?_ | refine blk_alloc ?_ _)); exact BK981.out) Try.underlying52 rfl (by kernel_rfl)) rfl ?_
 exact ⟨_, uF, uI, uB⟩
end Go.Proofs.Ytgeanpnkllnipab.F
end
section
namespace Go.Proofs.Ytgeanpnkllnipab.F
open Go.RowKit Go.Proofs.YtgeanpnkllnipabW.PrintWords Go.Proofs.YtgeanpnkllnipabW.PrintLast Go.Proofs.YtgeanpnkllnipabW.PrintMore
attribute [local go_sem] max2_int min2_int max_two min_two max_three min_three max_four min_four
set_option linter.unusedVariables false
set_option linter.unusedSimpArgs false
mutual
def fixenc_Room.j0 : Nat → List Int → Int → Int → Int → Bool → Option (Int × Int)
 | 0, _, _, _, _, _ => none
 | k + 1, x0, x1, x2, x3, x31 => if x31 = true then (some (0, 1)) else ((bits_Mul64.f (IntKind.u64.wrap (x1)) (IntKind.u64.wrap (x3))).bind fun bt1018 => ((bits_Len64.f k bt1018.2).bind fun t1020 => (if bt1018.1 > 0 then (fixenc_Room.j1 k x0 x1 x2 t1020 true) else (fixenc_Room.j1 k x0 x1 x2 t1020 (decide (t1020 > 62))))))
def fixenc_Room.j1 : Nat → List Int → Int → Int → Int → Bool → Option (Int × Int)
 | 0, _, _, _, _, _ => none
 | k + 1, x0, x1, x2, x12, x47 => if x47 = true then (some (0, 12)) else ((modint_Of.f k x1).bind fun bt1021 => ((modint_Of.f k x2).bind fun bt1025 => ((modint_Mul.f k bt1021.1 bt1021.2 bt1025.1 bt1025.2).bind fun bt1029 => ((modint_Of.f k 1).bind fun bt1035 => ((modint_Add.f k bt1029.1 bt1029.2.1 bt1035.1 bt1035.2).bind fun bt1039 => ((fixenc_times2.f k bt1039.1 bt1039.2.1 x12).bind fun bt1044 => ((modint_Of.f k 1).bind fun bt1048 => ((modint_Sub.f k bt1044.1 bt1044.2 bt1048.1 bt1048.2).bind fun bt1052 => ((fixenc_fits.f k x0 bt1052.2.1).bind fun t1058 => (if t1058 = true then (some (x12, 0)) else (some (0, 12))))))))))))
end
def fixenc_Room.f (k : Nat) (l0 : List Int) (a1 : Int) (a2 : Int) (a3 : Int) : Option (Int × Int) := (fixenc_modulus_may.f k l0).bind fun t1017 => (if t1017 = true then (if a1 < 1 then (fixenc_Room.j0 k l0 a1 a2 a3 true) else (if a2 < 1 then (fixenc_Room.j0 k l0 a1 a2 a3 true) else (fixenc_Room.j0 k l0 a1 a2 a3 (decide (a3 < 1))))) else (fixenc_Room.j0 k l0 a1 a2 a3 true))
set_option maxHeartbeats 8000000 in
set_option maxRecDepth 100000 in
theorem fixenc_Room.calls (k : Nat) (A0 : Option Addr) (c0 : Nat) (l0 : List Int) (a1 : Int) (a2 : Int) (a3 : Int) (r1 : Int) (r2 : Int) (w : World) (hr0 : Kd.C (Kd.int .u64) w A0 l0.length l0) (hc0 : l0.length ≤ c0) (h : fixenc_Room.f k l0 a1 a2 a3 = some (r1, r2)) :
  Calls Try.prog 31 #[.slice A0 l0.length c0, .int .i64 a1, .int .i64 a2, .int .i64 a3] w fun e w' => e = .returned (.tuple #[.int .i64 r1, .int .i64 r2]) ∧ Below w.heap.size w w' := by
 have hu52 := Try.underlying52
 have HR0 := Aside0.mk hr0; have HC0 := Aside0.mk hc0; clear hr0 hc0
 have HB := Aside0.mk (Below.refl w.heap.size w)
 have H : ((fixenc_modulus_may.f k l0).bind fun t1017 => (if t1017 = true then (if a1 < 1 then (fixenc_Room.j0 k l0 a1 a2 a3 true) else (if a2 < 1 then (fixenc_Room.j0 k l0 a1 a2 a3 true) else (fixenc_Room.j0 k l0 a1 a2 a3 (decide (a3 < 1))))) else (fixenc_Room.j0 k l0 a1 a2 a3 true))) = some (r1, r2) := h
 clear h; have HC5 := Aside0.mk H; clear H
 go_enter Try.func31, Try.ntmps31
 go_upto_region 1 with (fail)
 go_cut [31] (fun v31 wc => ∃ (kq : Nat) (x31_4 : Bool), v31 = .bool x31_4 ∧ Aside0 (fixenc_Room.j0 kq l0 a1 a2 a3 x31_4 = some (r1, r2)) ∧ Aside0 (kq ≤ k) ∧ Aside0 (Below w.heap.size w wc))
 case first =>
  have H := HC5.out
  clear HC5
  replace H := ub H; obtain ⟨t1017, A6, H⟩ := H
  by_cases c7 : t1017 = true
  ·
   subst c7
   have H1 : (if a1 < 1 then (fixenc_Room.j0 k l0 a1 a2 a3 true) else (if a2 < 1 then (fixenc_Room.j0 k l0 a1 a2 a3 true) else (fixenc_Room.j0 k l0 a1 a2 a3 (decide (a3 < 1))))) = some (r1, r2) := by rw [if_pos rfl] at H; exact H
   clear H; have H := H1; clear H1
   by_cases c8 : a1 < 1
   ·
    rw [if_pos c8] at H
    have c8b0 : decide (a1 < 1) = true := decide_eq_true c8
    clear c8
    (first | rw [c8b0] | (simp only [i64_w, i32_w]; rw [c8b0]) | skip)
    have H' := Aside0.mk H
    clear H
    go_wp2_with (first | ((with_reducible refine gate_callee (f := 55) rfl ?_); refine goesL_ (some 18) rfl rfl Try.func55 (by kernel_rfl) rfl #[.slice A0 l0.length c0] rfl uM ?_; (with_reducible refine (fixenc_modulus_may.calls k _ _ l0 true _ ?side1 ?side2 A6.out).mono ?_); (case side1 => exact uC (Kd.C_below HR0.out HB.out)); (case side2 => exact HC0.out); rintro e w9 ⟨rfl, hb⟩; refine ⟨_, rfl, ?_⟩; replace HB := uy hb; (try clear hb)))
    go_meet
    case rel => exact ⟨_, (true), uG, H', ⟨uW⟩, ⟨uB⟩⟩
   rw [if_neg c8] at H
   have c8b0 : decide (a1 < 1) = false := decide_eq_false c8
   clear c8
   (first | rw [c8b0] | (simp only [i64_w, i32_w]; rw [c8b0]) | skip)
   by_cases c10 : a2 < 1
   ·
    rw [if_pos c10] at H
    have c10b0 : decide (a2 < 1) = true := decide_eq_true c10
    clear c10
    have H' := Aside0.mk H
    clear H
    go_wp2_with (first | ((with_reducible refine gate_callee (f := 55) rfl ?_); refine goesL_ (some 18) rfl rfl Try.func55 (by kernel_rfl) rfl #[.slice A0 l0.length c0] rfl uM ?_; (with_reducible refine (fixenc_modulus_may.calls k _ _ l0 true _ ?side1 ?side2 A6.out).mono ?_); (case side1 => exact uC (Kd.C_below HR0.out HB.out)); (case side2 => exact HC0.out); rintro e w11 ⟨rfl, hb⟩; refine ⟨_, rfl, ?_⟩; replace HB := uy hb; (try clear hb)))
    go_meet
    case rel => exact ⟨_, (true), uG, H', ⟨uW⟩, ⟨uB⟩⟩
   rw [if_neg c10] at H
   have c10b0 : decide (a2 < 1) = false := decide_eq_false c10
   clear c10
   have H' := Aside0.mk H
   clear H
   go_wp2_with (first | ((with_reducible refine gate_callee (f := 55) rfl ?_); refine goesL_ (some 18) rfl rfl Try.func55 (by kernel_rfl) rfl #[.slice A0 l0.length c0] rfl uM ?_; (with_reducible refine (fixenc_modulus_may.calls k _ _ l0 true _ ?side1 ?side2 A6.out).mono ?_); (case side1 => exact uC (Kd.C_below HR0.out HB.out)); (case side2 => exact HC0.out); rintro e w12 ⟨rfl, hb⟩; refine ⟨_, rfl, ?_⟩; replace HB := uy hb; (try clear hb)))
   go_meet
   case rel => exact ⟨_, (decide (a3 < 1)), uG, H', ⟨uW⟩, ⟨uB⟩⟩
  replace c7 := Bool.eq_false_iff.mpr c7
  subst c7
  have H1 : (fixenc_Room.j0 k l0 a1 a2 a3 true) = some (r1, r2) := by rw [if_neg (show ¬ (false = true) by decide)] at H; exact H
  clear H; have H := H1; clear H1
  have H' := Aside0.mk H
  clear H
  go_wp2_with (first | ((with_reducible refine gate_callee (f := 55) rfl ?_); refine goesL_ (some 18) rfl rfl Try.func55 (by kernel_rfl) rfl #[.slice A0 l0.length c0] rfl uM ?_; (with_reducible refine (fixenc_modulus_may.calls k _ _ l0 false _ ?side1 ?side2 A6.out).mono ?_); (case side1 => exact uC (Kd.C_below HR0.out HB.out)); (case side2 => exact HC0.out); rintro e w13 ⟨rfl, hb⟩; refine ⟨_, rfl, ?_⟩; replace HB := uy hb; (try clear hb)))
  go_meet
  case rel => exact ⟨_, (true), uG, H', ⟨uW⟩, ⟨uB⟩⟩
 case rest =>
  clear HC5; (try clear c1); (try clear p2); (try clear c3); (try clear c5); (try clear c7); (try clear c8); (try clear c8b0); (try clear c10); (try clear c10b0)
  obtain ⟨kq, x31_4, rfl, HA, HJ4, HB⟩ := hcut
  cases kq with
  | zero => exact absurd HA.out (by simp [fixenc_Room.j0])
  | succ kj4 =>
   have H := HA.out
   clear HA
   simp only [fixenc_Room.j0] at H
   by_cases c14 : x31_4 = true
   ·
    subst c14
    have H1 : (some (0, 1)) = some (r1, r2) := by rw [if_pos rfl] at H; exact H
    clear H; have H := H1; clear H1
    simp only [Option.some.injEq, Prod.mk.injEq] at H
    obtain ⟨rfl, rfl⟩ := H
    go_wp2
    go_ret2
    exact ⟨uF, uB⟩
   replace c14 := Bool.eq_false_iff.mpr c14
   subst c14
   have H1 : ((bits_Mul64.f (IntKind.u64.wrap (a1)) (IntKind.u64.wrap (a3))).bind fun bt1018 => ((bits_Len64.f kj4 bt1018.2).bind fun t1020 => (if bt1018.1 > 0 then (fixenc_Room.j1 kj4 l0 a1 a2 t1020 true) else (fixenc_Room.j1 kj4 l0 a1 a2 t1020 (decide (t1020 > 62)))))) = some (r1, r2) := by rw [if_neg (show ¬ (false = true) by decide)] at H; exact H
   clear H; have H := H1; clear H1
   replace H := ub H; obtain ⟨⟨t1018, t1019⟩, A15, H⟩ := H
   (try dsimp only at H)
   replace H := ub H; obtain ⟨t1020, A16, H⟩ := H
   have HC17 := Aside0.mk H; clear H
   go_upto_region 5 with (first | ((with_reducible refine gate_callee (f := 66) rfl ?_); refine goesL_ (some 37) rfl rfl Try.func66 (by kernel_rfl) rfl #[.int .u64 (IntKind.u64.wrap (a1)), .int .u64 (IntKind.u64.wrap (a3))] rfl uM ?_; (with_reducible refine (bits_Mul64.calls (IntKind.u64.wrap (a1)) (IntKind.u64.wrap (a3)) t1018 t1019 _ A15.out).mono ?_); rintro e w' ⟨rfl, ⟨nd, rfl⟩⟩; refine ⟨_, rfl, ?_⟩) | ((with_reducible refine gate_callee (f := 67) rfl ?_); refine goesL_ (some 41) rfl rfl Try.func67 (by kernel_rfl) rfl #[.int .u64 t1019] rfl uM ?_; (with_reducible refine (bits_Len64.calls kj4 t1019 t1020 _ A16.out).mono ?_); rintro e w' ⟨rfl, ⟨nd, rfl⟩⟩; refine ⟨_, rfl, ?_⟩))
   (try simp only [Act.put, List.setIfInBounds_toArray, List.set_cons_zero, List.set_cons_succ])
   go_cut [47] (fun v47 wc => ∃ (kq : Nat) (x47_16 : Bool), v47 = .bool x47_16 ∧ Aside0 (fixenc_Room.j1 kq l0 a1 a2 t1020 x47_16 = some (r1, r2)) ∧ Aside0 (kq ≤ kj4) ∧ Aside0 (Below w.heap.size w wc))
   case first =>
    have H := HC17.out
    clear HC17
    by_cases c18 : t1018 > 0
    ·
     rw [if_pos c18] at H
     have c18b0 : decide (0 < t1018) = true := decide_eq_true c18
     clear c18
     (first | rw [c18b0] | (simp only [i64_w, i32_w]; rw [c18b0]) | skip)
     have H' := Aside0.mk H
     clear H
     go_wp2
     go_meet
     case rel => exact ⟨_, (true), uG, H', ⟨by have := HJ4.out; first | omega | exact Nat.le_refl _⟩, ⟨uB⟩⟩
    rw [if_neg c18] at H
    have c18b0 : decide (0 < t1018) = false := decide_eq_false c18
    clear c18
    (first | rw [c18b0] | (simp only [i64_w, i32_w]; rw [c18b0]) | skip)
    have H' := Aside0.mk H
    clear H
    go_wp2
    go_meet
    case rel => exact ⟨_, (decide (t1020 > 62)), uG, H', ⟨by have := HJ4.out; first | omega | exact Nat.le_refl _⟩, ⟨uB⟩⟩
   case rest =>
    clear HC17; (try clear c1); (try clear p2); (try clear c3); (try clear c5); (try clear c6); (try clear c7); (try clear c8); (try clear c8b0); (try clear c10); (try clear c10b0); (try clear c14); (try clear c18); (try clear c18b0); (try clear p2)
    obtain ⟨kq, x47_16, rfl, HA, HJ16, HB⟩ := hcut
    cases kq with
    | zero => exact absurd HA.out (by simp [fixenc_Room.j1])
    | succ kj16 =>
     have H := HA.out
     clear HA
     simp only [fixenc_Room.j1] at H
     by_cases c19 : x47_16 = true
     ·
      subst c19
      have H1 : (some (0, 12)) = some (r1, r2) := by rw [if_pos rfl] at H; exact H
      clear H; have H := H1; clear H1
      simp only [Option.some.injEq, Prod.mk.injEq] at H
      obtain ⟨rfl, rfl⟩ := H
      go_wp2
      go_ret2
      exact ⟨uF, uB⟩
     replace c19 := Bool.eq_false_iff.mpr c19
     subst c19
     have H1 : ((modint_Of.f kj16 a1).bind fun bt1021 => ((modint_Of.f kj16 a2).bind fun bt1025 => ((modint_Mul.f kj16 bt1021.1 bt1021.2 bt1025.1 bt1025.2).bind fun bt1029 => ((modint_Of.f kj16 1).bind fun bt1035 => ((modint_Add.f kj16 bt1029.1 bt1029.2.1 bt1035.1 bt1035.2).bind fun bt1039 => ((fixenc_times2.f kj16 bt1039.1 bt1039.2.1 t1020).bind fun bt1044 => ((modint_Of.f kj16 1).bind fun bt1048 => ((modint_Sub.f kj16 bt1044.1 bt1044.2 bt1048.1 bt1048.2).bind fun bt1052 => ((fixenc_fits.f kj16 l0 bt1052.2.1).bind fun t1058 => (if t1058 = true then (some (t1020, 0)) else (some (0, 12)))))))))))) = some (r1, r2) := by rw [if_neg (show ¬ (false = true) by decide)] at H; exact H
     clear H; have H := H1; clear H1
     replace H := ub H; obtain ⟨⟨t1021, t1022⟩, A20, H⟩ := H
     (try dsimp only at H)
     replace H := ub H; obtain ⟨⟨t1025, t1026⟩, A21, H⟩ := H
     (try dsimp only at H)
     replace H := ub H; obtain ⟨⟨t1029, t1030, t1033⟩, A22, H⟩ := H
     (try dsimp only at H)
     replace H := ub H; obtain ⟨⟨t1035, t1036⟩, A23, H⟩ := H
     (try dsimp only at H)
     replace H := ub H; obtain ⟨⟨t1039, t1040, t1043⟩, A24, H⟩ := H
     (try dsimp only at H)
     replace H := ub H; obtain ⟨⟨t1044, t1045⟩, A25, H⟩ := H
     (try dsimp only at H)
     replace H := ub H; obtain ⟨⟨t1048, t1049⟩, A26, H⟩ := H
     (try dsimp only at H)
     replace H := ub H; obtain ⟨⟨t1052, t1053, t1056⟩, A27, H⟩ := H
     (try dsimp only at H)
     replace H := ub H; obtain ⟨t1058, A28, H⟩ := H
     have HS_ := Aside0.mk H; clear H
     try go_wp2_with (first | ((with_reducible refine gate_callee (f := 58) rfl ?_); refine goesL_ (some 50) rfl rfl Try.func58 (by kernel_rfl) rfl #[.int .i64 a1] rfl uM ?_; (with_reducible refine (modint_Of.calls kj16 a1 t1021 t1022 _ A20.out).mono ?_); rintro e w30 ⟨v1023, rfl, ho0, hb⟩; refine ⟨_, rfl, ?_⟩; have HO1024 := Aside0.mk (Kd.R_lower ho0 (below_size uB)); replace HB := uy hb; (try clear hb ho0)) | ((with_reducible refine gate_callee (f := 58) rfl ?_); refine goesL_ (some 52) rfl rfl Try.func58 (by kernel_rfl) rfl #[.int .i64 a2] rfl uM ?_; (with_reducible refine (modint_Of.calls kj16 a2 t1025 t1026 _ A21.out).mono ?_); rintro e w31 ⟨v1027, rfl, ho0, hb⟩; refine ⟨_, rfl, ?_⟩; have HO1028 := Aside0.mk (Kd.R_lower (Kd.R_new' ho0 (Kd.R_lt (uR HO1024.out))) (below_size uB)); replace HO1024 := ueR HO1024 ho0 hb; replace HB := uy hb; (try clear hb ho0); obtain ⟨Ao32, co32, eo32⟩ := Kd.R_slice HO1024.out; subst eo32; obtain ⟨Ao33, co33, eo33⟩ := Kd.R_slice HO1028.out; subst eo33) | ((with_reducible refine gate_callee (f := 68) rfl ?_); refine goesL_ (some 53) rfl rfl Try.func68 (by kernel_rfl) rfl #[.agg #[.bool t1021, .slice Ao32 t1022.length co32], .agg #[.bool t1025, .slice Ao33 t1026.length co33]] rfl uM ?_; (with_reducible refine (modint_Mul.calls kj16 t1021 (fun k_ => some k_ = (.slice Ao32 t1022.length co32 : Value).ownBlock) _ _ t1022 t1025 (fun k_ => some k_ = (.slice Ao33 t1026.length co33 : Value).ownBlock) _ _ t1026 t1029 t1030 t1033 _ ?side1 ?side2 A22.out).mono ?_); (case side1 => exact Kd.R_V (Kd.R_tight rfl (HO1024.out))); (case side2 => exact Kd.R_V (Kd.R_tight rfl (HO1028.out))); rintro e w34 ⟨v1031, rfl, ho0, hb⟩; refine ⟨_, rfl, ?_⟩; have HO1032 := Aside0.mk (Kd.R_lower (Kd.R_new' (Kd.R_new' (Kd.R_mono (ok' := fun k_ => True) ho0 (fun _ hk_ => trivial)) (Kd.R_lt (uR HO1024.out))) (Kd.R_lt (uR HO1028.out))) (below_size uB)); replace HO1024 := ueR HO1024 ho0 hb; replace HO1028 := ueR HO1028 ho0 hb; replace HB := uy hb; (try clear hb ho0)) | ((with_reducible refine gate_dst (N := 13) rfl ?_); refine box_event ?hg (N := 13) ?hd (cs := #[.bool false, .slice none 0 0]) (t := 52) ?hr ?_; (case hd => rfl); (case hg => rfl); (case hr => first | (go_simp; done) | (go_simp; rfl)); intro gb1034 hg w35 hbox hb; replace HO1024 := Aside0.mk (Kd.R_below (uR HO1024.out) hb); replace HO1028 := Aside0.mk (Kd.R_below (uR HO1028.out) hb); replace HO1032 := Aside0.mk (Kd.R_below (uR HO1032.out) hb); have BK1034 := Aside0.mk (hbox); have GW1034 := us hg; have GE1034 := us hg; replace HB := uy hb; clear hb hbox hg; have hcz36_0 : w35.cell? ⟨gb1034, 0, none⟩ = some (.bool false) := (blk_cell BK1034.out 0).trans rfl; have hcz36_1 : w35.cell? ⟨gb1034, 1, none⟩ = some (.slice none 0 0) := (blk_cell BK1034.out 1).trans rfl; have hfz36_0 := blk_frozen BK1034.out 0; have hfz36_1 := blk_frozen BK1034.out 1; obtain ⟨Ao37, co37, eo37⟩ := Kd.R_slice HO1032.out; subst eo37))
     have n0_ : Aside0 (Kd.R (Kd.int .u64) 27 ((w35.setCell ⟨gb1034, 0, none⟩ (.bool t1029)).setCell ⟨gb1034, 1, none⟩ (.slice Ao37 t1030.length co37)) w.heap.size (fun k_ => some k_ ≠ (.slice Ao33 t1026.length co33 : Value).ownBlock ∧ some k_ ≠ (.slice Ao37 t1030.length co37 : Value).ownBlock) (.slice Ao32 t1022.length co32) t1022) := ⟨by (with_reducible repeat (first | apply Kd.R_alloc | apply Kd.R_drewN | apply Kd.R_drew)); exact Kd.R_mono (Kd.R_far (p := ⟨gb1034, 1, none⟩) (Kd.R_far (p := ⟨gb1034, 0, none⟩) (Kd.R_types HO1024.out BK1034.out (by decide)) (fun _ hk => hk.2) (.bool t1029)) (fun _ hk => hk.2) (.slice Ao37 t1030.length co37)) (fun _ hk => ⟨hk.1.1.2, hk.1.2⟩)⟩
     have n1_ : Aside0 (Kd.R (Kd.int .u64) 27 ((w35.setCell ⟨gb1034, 0, none⟩ (.bool t1029)).setCell ⟨gb1034, 1, none⟩ (.slice Ao37 t1030.length co37)) w.heap.size (fun k_ => some k_ ≠ (.slice Ao32 t1022.length co32 : Value).ownBlock ∧ some k_ ≠ (.slice Ao37 t1030.length co37 : Value).ownBlock) (.slice Ao33 t1026.length co33) t1026) := ⟨by (with_reducible repeat (first | apply Kd.R_alloc | apply Kd.R_drewN | apply Kd.R_drew)); exact Kd.R_mono (Kd.R_far (p := ⟨gb1034, 1, none⟩) (Kd.R_far (p := ⟨gb1034, 0, none⟩) (Kd.R_types HO1028.out BK1034.out (by decide)) (fun _ hk => hk.2) (.bool t1029)) (fun _ hk => hk.2) (.slice Ao37 t1030.length co37)) (fun _ hk => ⟨hk.1.1.2, hk.1.2⟩)⟩
     have n2_ : Aside0 (Kd.R (Kd.int .u64) 27 ((w35.setCell ⟨gb1034, 0, none⟩ (.bool t1029)).setCell ⟨gb1034, 1, none⟩ (.slice Ao37 t1030.length co37)) w.heap.size (fun k_ => some k_ ≠ (.slice Ao32 t1022.length co32 : Value).ownBlock ∧ some k_ ≠ (.slice Ao33 t1026.length co33 : Value).ownBlock) (.slice Ao37 t1030.length co37) t1030) := ⟨by (with_reducible repeat (first | apply Kd.R_alloc | apply Kd.R_drewN | apply Kd.R_drew)); exact Kd.R_mono (Kd.R_far (p := ⟨gb1034, 1, none⟩) (Kd.R_far (p := ⟨gb1034, 0, none⟩) (Kd.R_types HO1032.out BK1034.out (by decide)) (fun _ hk => hk.2) (.bool t1029)) (fun _ hk => hk.2) (.slice Ao37 t1030.length co37)) (fun _ hk => ⟨hk.1.1.2, hk.1.2⟩)⟩
     have n3_ : Aside0 (((w35.setCell ⟨gb1034, 0, none⟩ (.bool t1029)).setCell ⟨gb1034, 1, none⟩ (.slice Ao37 t1030.length co37)).heap[gb1034]? = some (.cells #[.bool t1029, .slice Ao37 t1030.length co37] 52 (0, 0))) := ⟨by (with_reducible repeat (first | refine blk_drewN ?_ _ | refine blk_drew ?_ | refine blk_alloc ?_ _)); refine blk_put (cs := #[.bool t1029, .slice none 0 0]) ?_ 1 _ rfl; (with_reducible repeat (first | refine blk_drewN ?_ _ | refine blk_drew ?_ | refine blk_alloc ?_ _)); refine blk_put (cs := #[.bool false, .slice none 0 0]) ?_ 0 _ rfl; (with_reducible repeat (first | refine blk_drewN ?_ _ | refine blk_drew ?_ | refine blk_alloc ?_ _)); exact BK1034.out⟩
     have n4_ : Aside0 (Below w.heap.size w ((w35.setCell ⟨gb1034, 0, none⟩ (.bool t1029)).setCell ⟨gb1034, 1, none⟩ (.slice Ao37 t1030.length co37))) := ⟨uB⟩
     (try clear HO1024); (try clear HO1028); (try clear HO1032); (try clear BK1034); (try clear HB)
     generalize ((w35.setCell ⟨gb1034, 0, none⟩ (.bool t1029)).setCell ⟨gb1034, 1, none⟩ (.slice Ao37 t1030.length co37)) = w38 at n0_ n1_ n2_ n3_ n4_ ⊢
     have HO1024 := n0_; have HO1028 := n1_; have HO1032 := n2_; have BK1034 := n3_; have HB := n4_; clear n0_ n1_ n2_ n3_ n4_; replace HO1024 := Aside0.mk (Kd.R_drew HO1024.out); replace HO1028 := Aside0.mk (Kd.R_drew HO1028.out); replace HO1032 := Aside0.mk (Kd.R_drew HO1032.out); replace BK1034 := Aside0.mk (blk_drew BK1034.out); replace HB := Aside0.mk (below_drew1 HB.out)
     refine start_ (n := 7) (S := fun w' => w'.cell? ⟨gb1034, 0, none⟩ = some (.bool t1029) ∧ w'.cell? ⟨gb1034, 1, none⟩ = some (.slice Ao37 t1030.length co37)) (ds := [6]) #[false,false,false,false,false,false,false] (by kernel_rfl) rfl rfl ⟨(blk_cell BK1034.out 0).trans rfl, (blk_cell BK1034.out 1).trans rfl⟩ (fun hHeld => ?_)
     generalize w38.drew = w39 at HO1024 HO1028 HO1032 BK1034 HB hHeld ⊢
     refine take_ (i := 0) (N := some 57) (v := ?_) (a' := ?_) #[true,false,false,false,false,false,false] rfl rfl (by kernel_rfl) (fun _ _ _ h => h) (Or.inl ⟨by rfl, ?_⟩) hHeld ?_ ?_
     rotate_left
     ·
      rintro w' ⟨s0, s1⟩
      go_simp
      with_reducible rfl
     rotate_left
     · exact uQ
     refine one_ (i := 1) (N := some 58) #[true,true,false,false,false,false,false] rfl rfl (by kernel_rfl) (by decide) (fun K hK => ?_)
     refine goes_ Try.func58 (by kernel_rfl) rfl #[.int .i64 1] (by rfl) rfl rfl uM ?_
     with_reducible refine (modint_Of.calls kj16 1 t1035 t1036 _ A23.out).mono ?_
     rintro e w40 ⟨v1037, rfl, ho0, hb⟩
     refine ⟨_, rfl, ?_⟩; have HO1038 := Aside0.mk (Kd.R_lower (Kd.R_new' (Kd.R_new' (Kd.R_new' ho0 (Kd.R_lt (uR HO1024.out))) (Kd.R_lt (uR HO1028.out))) (Kd.R_lt (uR HO1032.out))) (below_size uB)); replace HO1024 := ueR HO1024 ho0 hb; replace HO1028 := ueR HO1028 ho0 hb; replace HO1032 := ueR HO1032 ho0 hb; replace BK1034 := ux BK1034 hb; replace HB := uy hb; (try clear hb ho0)
     obtain ⟨Ao41, co41, eo41⟩ := Kd.R_slice HO1038.out
     (first | subst eo41 | (injection eo41 with f1_ f2_ f3_; have f4_ := f1_.symm; have f5_ := f3_.symm; clear f1_ f2_ f3_; subst f4_; subst f5_))
     refine hK.out _ _ ⟨(blk_cell BK1034.out 0).trans rfl, (blk_cell BK1034.out 1).trans rfl⟩ (fun hHeld => ?_); clear hK K; refine norm_ (a' := ?_) ?_ ?_; rotate_left
     · exact (show Act.put _ (some 58) _ = _ from uQ)
     refine one_ (i := 2) (N := some 59) #[true,true,true,false,false,false,false] rfl rfl (by kernel_rfl) (by decide) (fun K hK => ?_)
     refine goes_ Try.func56 (by kernel_rfl) rfl #[.agg #[.bool t1029, .slice Ao37 t1030.length co37], .agg #[.bool t1035, .slice Ao41 t1036.length co41]] (by rfl) rfl rfl uM ?_
     with_reducible refine (modint_Add.calls kj16 t1029 (fun k_ => some k_ = (.slice Ao37 t1030.length co37 : Value).ownBlock) _ _ t1030 t1035 (fun k_ => some k_ = (.slice Ao41 t1036.length co41 : Value).ownBlock) _ _ t1036 t1039 t1040 t1043 _ ?side1 ?side2 A24.out).mono ?_
     (case side1 => exact Kd.R_V (Kd.R_tight rfl (Kd.R_types (HO1032.out) BK1034.out (by decide))))
     (case side2 => exact Kd.R_V (Kd.R_tight rfl (Kd.R_types (HO1038.out) BK1034.out (by decide))))
     rintro e w42 ⟨v1041, rfl, ho0, hb⟩
     refine ⟨_, rfl, ?_⟩; have HO1042 := Aside0.mk (Kd.R_lower (Kd.R_new' (Kd.R_new' (Kd.R_new' (Kd.R_new' (Kd.R_mono (ok' := fun k_ => True) ho0 (fun _ hk_ => trivial)) (Kd.R_lt (uR HO1024.out))) (Kd.R_lt (uR HO1028.out))) (Kd.R_lt (uR HO1032.out))) (Kd.R_lt (uR HO1038.out))) (below_size uB)); replace HO1024 := ueR HO1024 ho0 hb; replace HO1028 := ueR HO1028 ho0 hb; replace HO1032 := ueR HO1032 ho0 hb; replace HO1038 := ueR HO1038 ho0 hb; replace BK1034 := ux BK1034 hb; replace HB := uy hb; (try clear hb ho0)
     obtain ⟨Ao44, co44, eo44⟩ := Kd.R_slice HO1042.out
     (first | subst eo44 | (injection eo44 with f1_ f2_ f3_; have f4_ := f1_.symm; have f5_ := f3_.symm; clear f1_ f2_ f3_; subst f4_; subst f5_))
     refine hK.out _ _ ⟨(blk_cell BK1034.out 0).trans rfl, (blk_cell BK1034.out 1).trans rfl⟩ (fun hHeld => ?_); clear hK K; refine norm_ (a' := ?_) ?_ ?_; rotate_left
     · exact (show Act.put _ (some 59) _ = _ from uQ)
     refine pure_ (i := 3) (N := some 56) (v := ?_) (a' := ?_) #[true,true,true,true,false,false,false] rfl rfl (by kernel_rfl) (fun _ _ _ h => h) (Or.inl ⟨by rfl, ?_⟩) ?_ ?_
     rotate_left
     ·
      intro w'
      go_simp
      with_reducible rfl
     rotate_left
     · exact uQ
     refine pure_ (i := 4) (N := some 60) (v := ?_) (a' := ?_) #[true,true,true,true,true,false,false] rfl rfl (by kernel_rfl) (fun _ _ _ h => h) (Or.inl ⟨by rfl, ?_⟩) ?_ ?_
     rotate_left
     ·
      intro w'
      go_simp
      with_reducible rfl
     rotate_left
     · exact uQ
     refine pure_ (i := 5) (N := some 61) (v := ?_) (a' := ?_) #[true,true,true,true,true,true,false] rfl rfl (by kernel_rfl) (fun _ _ _ h => h) (Or.inl ⟨by rfl, ?_⟩) ?_ ?_
     rotate_left
     ·
      intro w'
      go_simp
      with_reducible rfl
     rotate_left
     · exact uQ
     refine last_ (i := 6) (N := none) #[true,true,true,true,true,true,true] rfl rfl (by kernel_rfl) (by decide) (fun K hK => ?_)
     have hs43 : w42.cell? ⟨gb1034, 0, none⟩ = some (.bool t1029) := (blk_cell BK1034.out 0).trans rfl
     have hfs43 := blk_frozen BK1034.out 0
     have hs45 : w42.cell? ⟨gb1034, 1, none⟩ = some (.slice Ao37 t1030.length co37) := (blk_cell BK1034.out 1).trans rfl
     have hfs45 := blk_frozen BK1034.out 1
     refine skip_ (w1 := ?_) (by rfl) rfl ?_ ?_
     rotate_left
     ·
      go_simp
      rfl
     refine hK.out _ _ ?_; clear hK K
     refine done_ (by kernel_rfl) ?_
     have H := HS_.out; clear HS_
     by_cases c29 : t1058 = true
     ·
      subst c29
      have H1 : (some (t1020, 0)) = some (r1, r2) := by rw [if_pos rfl] at H; exact H
      clear H; have H := H1; clear H1
      simp only [Option.some.injEq, Prod.mk.injEq] at H
      obtain ⟨rfl, rfl⟩ := H
      have hcz46_0 : w42.cell? ⟨gb1034, 0, none⟩ = some (.bool t1029) := (blk_cell BK1034.out 0).trans rfl; have hcz46_1 : w42.cell? ⟨gb1034, 1, none⟩ = some (.slice Ao37 t1030.length co37) := (blk_cell BK1034.out 1).trans rfl; have hfz46_0 := blk_frozen BK1034.out 0; have hfz46_1 := blk_frozen BK1034.out 1
      try go_wp2_with (first | ((with_reducible refine gate_callee (f := 57) rfl ?_); refine goesL_ (some 65) rfl rfl Try.func57 (by kernel_rfl) rfl #[.agg #[.bool t1039, .slice Ao44 t1040.length co44], .int .i64 t1020] rfl uM ?_; (with_reducible refine (fixenc_times2.calls kj16 t1039 _ _ t1040 t1020 t1044 t1045 _ ?side1 ?side2 A25.out).mono ?_); (case side1 => refine (Kd.R_reads' (e := 27) (base := w.heap.size) (ok := fun k_ => ((((True ∧ some k_ ≠ (.slice Ao32 t1022.length co32 : Value).ownBlock) ∧ some k_ ≠ (.slice Ao33 t1026.length co33 : Value).ownBlock) ∧ some k_ ≠ (.slice Ao37 t1030.length co37 : Value).ownBlock) ∧ some k_ ≠ (.slice Ao41 t1036.length co41 : Value).ownBlock)) (n := t1040.length) (c := co44) ?_).2.2; exact (uR ((Kd.R_mono (Kd.R_far (p := ⟨gb1034, 1, none⟩) (Kd.R_far (p := ⟨gb1034, 0, none⟩) (Kd.R_types HO1042.out BK1034.out (by decide)) (fun _ hk => hk.2) (.bool t1039)) (fun _ hk => hk.2) (.slice Ao44 t1040.length co44)) (fun _ h_ => h_.1))))); (case side2 => exact (Kd.R_reads' HO1042.out).2.1); rintro e w47 ⟨v1046, rfl, ho0, hb⟩; refine ⟨_, rfl, ?_⟩; have HO1047 := Aside0.mk (Kd.R_lower (Kd.R_new' (Kd.R_new' (Kd.R_new' (Kd.R_new' (Kd.R_new' ho0 (Kd.R_lt (uR ((Kd.R_mono (Kd.R_far (p := ⟨gb1034, 1, none⟩) (Kd.R_far (p := ⟨gb1034, 0, none⟩) (Kd.R_types HO1024.out BK1034.out (by decide)) (fun _ hk => hk.2) (.bool t1039)) (fun _ hk => hk.2) (.slice Ao44 t1040.length co44)) (fun _ h_ => h_.1)))))) (Kd.R_lt (uR ((Kd.R_mono (Kd.R_far (p := ⟨gb1034, 1, none⟩) (Kd.R_far (p := ⟨gb1034, 0, none⟩) (Kd.R_types HO1028.out BK1034.out (by decide)) (fun _ hk => hk.2) (.bool t1039)) (fun _ hk => hk.2) (.slice Ao44 t1040.length co44)) (fun _ h_ => h_.1)))))) (Kd.R_lt (uR ((Kd.R_mono (Kd.R_far (p := ⟨gb1034, 1, none⟩) (Kd.R_far (p := ⟨gb1034, 0, none⟩) (Kd.R_types HO1032.out BK1034.out (by decide)) (fun _ hk => hk.2) (.bool t1039)) (fun _ hk => hk.2) (.slice Ao44 t1040.length co44)) (fun _ h_ => h_.1)))))) (Kd.R_lt (uR ((Kd.R_mono (Kd.R_far (p := ⟨gb1034, 1, none⟩) (Kd.R_far (p := ⟨gb1034, 0, none⟩) (Kd.R_types HO1038.out BK1034.out (by decide)) (fun _ hk => hk.2) (.bool t1039)) (fun _ hk => hk.2) (.slice Ao44 t1040.length co44)) (fun _ h_ => h_.1)))))) (Kd.R_lt (uR ((Kd.R_mono (Kd.R_far (p := ⟨gb1034, 1, none⟩) (Kd.R_far (p := ⟨gb1034, 0, none⟩) (Kd.R_types HO1042.out BK1034.out (by decide)) (fun _ hk => hk.2) (.bool t1039)) (fun _ hk => hk.2) (.slice Ao44 t1040.length co44)) (fun _ h_ => h_.1)))))) (below_size uB)); replace HO1024 := Aside0.mk (Kd.R_elder' (uR ((Kd.R_mono (Kd.R_far (p := ⟨gb1034, 1, none⟩) (Kd.R_far (p := ⟨gb1034, 0, none⟩) (Kd.R_types HO1024.out BK1034.out (by decide)) (fun _ hk => hk.2) (.bool t1039)) (fun _ hk => hk.2) (.slice Ao44 t1040.length co44)) (fun _ h_ => h_.1)))) (Kd.R_base ho0) hb); replace HO1028 := Aside0.mk (Kd.R_elder' (uR ((Kd.R_mono (Kd.R_far (p := ⟨gb1034, 1, none⟩) (Kd.R_far (p := ⟨gb1034, 0, none⟩) (Kd.R_types HO1028.out BK1034.out (by decide)) (fun _ hk => hk.2) (.bool t1039)) (fun _ hk => hk.2) (.slice Ao44 t1040.length co44)) (fun _ h_ => h_.1)))) (Kd.R_base ho0) hb); replace HO1032 := Aside0.mk (Kd.R_elder' (uR ((Kd.R_mono (Kd.R_far (p := ⟨gb1034, 1, none⟩) (Kd.R_far (p := ⟨gb1034, 0, none⟩) (Kd.R_types HO1032.out BK1034.out (by decide)) (fun _ hk => hk.2) (.bool t1039)) (fun _ hk => hk.2) (.slice Ao44 t1040.length co44)) (fun _ h_ => h_.1)))) (Kd.R_base ho0) hb); replace HO1038 := Aside0.mk (Kd.R_elder' (uR ((Kd.R_mono (Kd.R_far (p := ⟨gb1034, 1, none⟩) (Kd.R_far (p := ⟨gb1034, 0, none⟩) (Kd.R_types HO1038.out BK1034.out (by decide)) (fun _ hk => hk.2) (.bool t1039)) (fun _ hk => hk.2) (.slice Ao44 t1040.length co44)) (fun _ h_ => h_.1)))) (Kd.R_base ho0) hb); replace HO1042 := Aside0.mk (Kd.R_elder' (uR ((Kd.R_mono (Kd.R_far (p := ⟨gb1034, 1, none⟩) (Kd.R_far (p := ⟨gb1034, 0, none⟩) (Kd.R_types HO1042.out BK1034.out (by decide)) (fun _ hk => hk.2) (.bool t1039)) (fun _ hk => hk.2) (.slice Ao44 t1040.length co44)) (fun _ h_ => h_.1)))) (Kd.R_base ho0) hb); replace BK1034 := Aside0.mk (blk_below (g := gb1034) (o := .cells #[.bool t1039, .slice Ao44 t1040.length co44] 52 (0, 0)) (by (with_reducible repeat (first | refine blk_drewN ?_ _ | refine blk_drew ?_ | refine blk_alloc ?_ _)); refine blk_put (cs := #[.bool t1039, .slice Ao37 t1030.length co37]) ?_ 1 _ rfl; (with_reducible repeat (first | refine blk_drewN ?_ _ | refine blk_drew ?_ | refine blk_alloc ?_ _)); refine blk_put (cs := #[.bool t1029, .slice Ao37 t1030.length co37]) ?_ 0 _ rfl; (with_reducible repeat (first | refine blk_drewN ?_ _ | refine blk_drew ?_ | refine blk_alloc ?_ _)); exact BK1034.out) hb); replace HB := uy hb; (try clear hb); (try clear hb2); (try clear hk); (try clear hi); (try clear ho0)) | ((with_reducible refine gate_callee (f := 58) rfl ?_); refine goesL_ (some 66) rfl rfl Try.func58 (by kernel_rfl) rfl #[.int .i64 1] rfl uM ?_; (with_reducible refine (modint_Of.calls kj16 1 t1048 t1049 _ A26.out).mono ?_); rintro e w48 ⟨v1050, rfl, ho0, hb⟩; refine ⟨_, rfl, ?_⟩; have HO1051 := Aside0.mk (Kd.R_lower (Kd.R_new' (Kd.R_new' (Kd.R_new' (Kd.R_new' (Kd.R_new' (Kd.R_new' ho0 (Kd.R_lt (uR HO1024.out))) (Kd.R_lt (uR HO1028.out))) (Kd.R_lt (uR HO1032.out))) (Kd.R_lt (uR HO1038.out))) (Kd.R_lt (uR HO1042.out))) (Kd.R_lt (uR HO1047.out))) (below_size uB)); replace HO1024 := ueR HO1024 ho0 hb; replace HO1028 := ueR HO1028 ho0 hb; replace HO1032 := ueR HO1032 ho0 hb; replace HO1038 := ueR HO1038 ho0 hb; replace HO1042 := ueR HO1042 ho0 hb; replace HO1047 := ueR HO1047 ho0 hb; replace BK1034 := ux BK1034 hb; replace HB := uy hb; (try clear hb ho0); obtain ⟨Ao49, co49, eo49⟩ := Kd.R_slice HO1047.out; subst eo49; obtain ⟨Ao50, co50, eo50⟩ := Kd.R_slice HO1051.out; subst eo50) | ((with_reducible refine gate_callee (f := 69) rfl ?_); refine goesL_ (some 67) rfl rfl Try.func69 (by kernel_rfl) rfl #[.agg #[.bool t1044, .slice Ao49 t1045.length co49], .agg #[.bool t1048, .slice Ao50 t1049.length co50]] rfl uM ?_; (with_reducible refine (modint_Sub.calls kj16 t1044 (fun k_ => some k_ = (.slice Ao49 t1045.length co49 : Value).ownBlock) _ _ t1045 t1048 (fun k_ => some k_ = (.slice Ao50 t1049.length co50 : Value).ownBlock) _ _ t1049 t1052 t1053 t1056 _ ?side1 ?side2 A27.out).mono ?_); (case side1 => exact Kd.R_V (Kd.R_tight rfl (Kd.R_types (HO1047.out) BK1034.out (by decide)))); (case side2 => exact Kd.R_V (Kd.R_tight rfl (Kd.R_types (HO1051.out) BK1034.out (by decide)))); rintro e w51 ⟨v1054, rfl, ho0, hb⟩; refine ⟨_, rfl, ?_⟩; have HO1055 := Aside0.mk (Kd.R_lower (Kd.R_new' (Kd.R_new' (Kd.R_new' (Kd.R_new' (Kd.R_new' (Kd.R_new' (Kd.R_new' (Kd.R_mono (ok' := fun k_ => True) ho0 (fun _ hk_ => trivial)) (Kd.R_lt (uR HO1024.out))) (Kd.R_lt (uR HO1028.out))) (Kd.R_lt (uR HO1032.out))) (Kd.R_lt (uR HO1038.out))) (Kd.R_lt (uR HO1042.out))) (Kd.R_lt (uR HO1047.out))) (Kd.R_lt (uR HO1051.out))) (below_size uB)); replace HO1024 := ueR HO1024 ho0 hb; replace HO1028 := ueR HO1028 ho0 hb; replace HO1032 := ueR HO1032 ho0 hb; replace HO1038 := ueR HO1038 ho0 hb; replace HO1042 := ueR HO1042 ho0 hb; replace HO1047 := ueR HO1047 ho0 hb; replace HO1051 := ueR HO1051 ho0 hb; replace BK1034 := ux BK1034 hb; replace HB := uy hb; (try clear hb ho0)) | ((with_reducible refine gate_dst (N := 15) rfl ?_); refine box_event ?hg (N := 15) ?hd (cs := #[.bool false, .slice none 0 0]) (t := 52) ?hr ?_; (case hd => rfl); (case hg => rfl); (case hr => first | (go_simp; done) | (go_simp; rfl)); intro gb1057 hg w52 hbox hb; replace HO1024 := Aside0.mk (Kd.R_below (uR HO1024.out) hb); replace HO1028 := Aside0.mk (Kd.R_below (uR HO1028.out) hb); replace HO1032 := Aside0.mk (Kd.R_below (uR HO1032.out) hb); replace HO1038 := Aside0.mk (Kd.R_below (uR HO1038.out) hb); replace HO1042 := Aside0.mk (Kd.R_below (uR HO1042.out) hb); replace HO1047 := Aside0.mk (Kd.R_below (uR HO1047.out) hb); replace HO1051 := Aside0.mk (Kd.R_below (uR HO1051.out) hb); replace HO1055 := Aside0.mk (Kd.R_below (uR HO1055.out) hb); have BK1057 := Aside0.mk (hbox); have GW1057 := us hg; have GE1057 := us hg; replace HB := uy hb; have NB1034_1057 := Aside0.mk ((by rw [hg]; exact Nat.ne_of_lt (blk_lt (uK BK1034.out)) : gb1034 ≠ gb1057)); have NB1057_1034 := Aside0.mk ((by rw [hg]; exact Nat.ne_of_gt (blk_lt (uK BK1034.out)) : gb1057 ≠ gb1034)); replace BK1034 := ux BK1034 hb; clear hb hbox hg; have hnb53 := NB1057_1034.out; have hnc53 := NB1034_1057.out; have hcz54_0 : w52.cell? ⟨gb1057, 0, none⟩ = some (.bool false) := (blk_cell BK1057.out 0).trans rfl; have hcz54_1 : w52.cell? ⟨gb1057, 1, none⟩ = some (.slice none 0 0) := (blk_cell BK1057.out 1).trans rfl; have hfz54_0 := blk_frozen BK1057.out 0; have hfz54_1 := blk_frozen BK1057.out 1; obtain ⟨Ao55, co55, eo55⟩ := Kd.R_slice HO1055.out; subst eo55) | ((with_reducible refine gate_callee (f := 70) rfl ?_); refine goesL_ (some 73) rfl rfl Try.func70 (by kernel_rfl) rfl #[.slice A0 l0.length c0, .slice Ao55 t1053.length co55] rfl uM ?_; (with_reducible refine (fixenc_fits.calls kj16 _ _ l0 _ _ t1053 true _ ?side1 ?side2 ?side3 ?side4 A28.out).mono ?_); (case side1 => exact Kd.C_below HR0.out uB); (case side2 => exact HC0.out); (case side3 => refine (Kd.R_reads' (e := 27) (base := w.heap.size) (ok := fun k_ => (((((((True ∧ some k_ ≠ (.slice Ao32 t1022.length co32 : Value).ownBlock) ∧ some k_ ≠ (.slice Ao33 t1026.length co33 : Value).ownBlock) ∧ some k_ ≠ (.slice Ao37 t1030.length co37 : Value).ownBlock) ∧ some k_ ≠ (.slice Ao41 t1036.length co41 : Value).ownBlock) ∧ some k_ ≠ (.slice Ao44 t1040.length co44 : Value).ownBlock) ∧ some k_ ≠ (.slice Ao49 t1045.length co49 : Value).ownBlock) ∧ some k_ ≠ (.slice Ao50 t1049.length co50 : Value).ownBlock)) (n := t1053.length) (c := co55) ?_).2.2; exact (uR ((Kd.R_mono (Kd.R_far (p := ⟨gb1057, 1, none⟩) (Kd.R_far (p := ⟨gb1057, 0, none⟩) (Kd.R_types HO1055.out BK1057.out (by decide)) (fun _ hk => hk.2) (.bool t1052)) (fun _ hk => hk.2) (.slice Ao55 t1053.length co55)) (fun _ h_ => h_.1))))); (case side4 => exact (Kd.R_reads' HO1055.out).2.1); rintro e w56 ⟨rfl, hb⟩; refine ⟨_, rfl, ?_⟩; replace HO1024 := Aside0.mk (Kd.R_below (uR ((Kd.R_mono (Kd.R_far (p := ⟨gb1057, 1, none⟩) (Kd.R_far (p := ⟨gb1057, 0, none⟩) (Kd.R_types HO1024.out BK1057.out (by decide)) (fun _ hk => hk.2) (.bool t1052)) (fun _ hk => hk.2) (.slice Ao55 t1053.length co55)) (fun _ h_ => h_.1)))) hb); replace HO1028 := Aside0.mk (Kd.R_below (uR ((Kd.R_mono (Kd.R_far (p := ⟨gb1057, 1, none⟩) (Kd.R_far (p := ⟨gb1057, 0, none⟩) (Kd.R_types HO1028.out BK1057.out (by decide)) (fun _ hk => hk.2) (.bool t1052)) (fun _ hk => hk.2) (.slice Ao55 t1053.length co55)) (fun _ h_ => h_.1)))) hb); replace HO1032 := Aside0.mk (Kd.R_below (uR ((Kd.R_mono (Kd.R_far (p := ⟨gb1057, 1, none⟩) (Kd.R_far (p := ⟨gb1057, 0, none⟩) (Kd.R_types HO1032.out BK1057.out (by decide)) (fun _ hk => hk.2) (.bool t1052)) (fun _ hk => hk.2) (.slice Ao55 t1053.length co55)) (fun _ h_ => h_.1)))) hb); replace HO1038 := Aside0.mk (Kd.R_below (uR ((Kd.R_mono (Kd.R_far (p := ⟨gb1057, 1, none⟩) (Kd.R_far (p := ⟨gb1057, 0, none⟩) (Kd.R_types HO1038.out BK1057.out (by decide)) (fun _ hk => hk.2) (.bool t1052)) (fun _ hk => hk.2) (.slice Ao55 t1053.length co55)) (fun _ h_ => h_.1)))) hb); replace HO1042 := Aside0.mk (Kd.R_below (uR ((Kd.R_mono (Kd.R_far (p := ⟨gb1057, 1, none⟩) (Kd.R_far (p := ⟨gb1057, 0, none⟩) (Kd.R_types HO1042.out BK1057.out (by decide)) (fun _ hk => hk.2) (.bool t1052)) (fun _ hk => hk.2) (.slice Ao55 t1053.length co55)) (fun _ h_ => h_.1)))) hb); replace HO1047 := Aside0.mk (Kd.R_below (uR ((Kd.R_mono (Kd.R_far (p := ⟨gb1057, 1, none⟩) (Kd.R_far (p := ⟨gb1057, 0, none⟩) (Kd.R_types HO1047.out BK1057.out (by decide)) (fun _ hk => hk.2) (.bool t1052)) (fun _ hk => hk.2) (.slice Ao55 t1053.length co55)) (fun _ h_ => h_.1)))) hb); replace HO1051 := Aside0.mk (Kd.R_below (uR ((Kd.R_mono (Kd.R_far (p := ⟨gb1057, 1, none⟩) (Kd.R_far (p := ⟨gb1057, 0, none⟩) (Kd.R_types HO1051.out BK1057.out (by decide)) (fun _ hk => hk.2) (.bool t1052)) (fun _ hk => hk.2) (.slice Ao55 t1053.length co55)) (fun _ h_ => h_.1)))) hb); replace HO1055 := Aside0.mk (Kd.R_below (uR ((Kd.R_mono (Kd.R_far (p := ⟨gb1057, 1, none⟩) (Kd.R_far (p := ⟨gb1057, 0, none⟩) (Kd.R_types HO1055.out BK1057.out (by decide)) (fun _ hk => hk.2) (.bool t1052)) (fun _ hk => hk.2) (.slice Ao55 t1053.length co55)) (fun _ h_ => h_.1)))) hb); replace BK1034 := Aside0.mk (blk_below (g := gb1034) (o := .cells #[.bool t1039, .slice Ao44 t1040.length co44] 52 (0, 0)) (by (with_reducible repeat (first | refine blk_drewN ?_ _ | refine blk_drew ?_ | refine blk_alloc ?_ _)); refine blk_far ?_ NB1034_1057.out _; (with_reducible repeat (first | refine blk_drewN ?_ _ | refine blk_drew ?_ | refine blk_alloc ?_ _)); refine blk_far ?_ NB1034_1057.out _; (with_reducible repeat (first | refine blk_drewN ?_ _ | refine blk_drew ?_ | refine blk_alloc ?_ _)); exact BK1034.out) hb); replace BK1057 := Aside0.mk (blk_below (g := gb1057) (o := .cells #[.bool t1052, .slice Ao55 t1053.length co55] 52 (0, 0)) (by (with_reducible repeat (first | refine blk_drewN ?_ _ | refine blk_drew ?_ | refine blk_alloc ?_ _)); refine blk_put (cs := #[.bool t1052, .slice none 0 0]) ?_ 1 _ rfl; (with_reducible repeat (first | refine blk_drewN ?_ _ | refine blk_drew ?_ | refine blk_alloc ?_ _)); refine blk_put (cs := #[.bool false, .slice none 0 0]) ?_ 0 _ rfl; (with_reducible repeat (first | refine blk_drewN ?_ _ | refine blk_drew ?_ | refine blk_alloc ?_ _)); exact BK1057.out) hb); replace HB := uy hb; (try clear hb); (try clear hb2); (try clear hk); (try clear hi)))
      go_ret2
      exact ⟨uF, uB⟩
     replace c29 := Bool.eq_false_iff.mpr c29
     subst c29
     have H1 : (some (0, 12)) = some (r1, r2) := by rw [if_neg (show ¬ (false = true) by decide)] at H; exact H
     clear H; have H := H1; clear H1
     simp only [Option.some.injEq, Prod.mk.injEq] at H
     obtain ⟨rfl, rfl⟩ := H
     have hcz73_0 : w42.cell? ⟨gb1034, 0, none⟩ = some (.bool t1029) := (blk_cell BK1034.out 0).trans rfl; have hcz73_1 : w42.cell? ⟨gb1034, 1, none⟩ = some (.slice Ao37 t1030.length co37) := (blk_cell BK1034.out 1).trans rfl; have hfz73_0 := blk_frozen BK1034.out 0; have hfz73_1 := blk_frozen BK1034.out 1
     try go_wp2_with (first | ((with_reducible refine gate_callee (f := 57) rfl ?_); refine goesL_ (some 65) rfl rfl Try.func57 (by kernel_rfl) rfl #[.agg #[.bool t1039, .slice Ao44 t1040.length co44], .int .i64 t1020] rfl uM ?_; (with_reducible refine (fixenc_times2.calls kj16 t1039 _ _ t1040 t1020 t1044 t1045 _ ?side1 ?side2 A25.out).mono ?_); (case side1 => refine (Kd.R_reads' (e := 27) (base := w.heap.size) (ok := fun k_ => ((((True ∧ some k_ ≠ (.slice Ao32 t1022.length co32 : Value).ownBlock) ∧ some k_ ≠ (.slice Ao33 t1026.length co33 : Value).ownBlock) ∧ some k_ ≠ (.slice Ao37 t1030.length co37 : Value).ownBlock) ∧ some k_ ≠ (.slice Ao41 t1036.length co41 : Value).ownBlock)) (n := t1040.length) (c := co44) ?_).2.2; exact (uR ((Kd.R_mono (Kd.R_far (p := ⟨gb1034, 1, none⟩) (Kd.R_far (p := ⟨gb1034, 0, none⟩) (Kd.R_types HO1042.out BK1034.out (by decide)) (fun _ hk => hk.2) (.bool t1039)) (fun _ hk => hk.2) (.slice Ao44 t1040.length co44)) (fun _ h_ => h_.1))))); (case side2 => exact (Kd.R_reads' HO1042.out).2.1); rintro e w74 ⟨v1046, rfl, ho0, hb⟩; refine ⟨_, rfl, ?_⟩; have HO1047 := Aside0.mk (Kd.R_lower (Kd.R_new' (Kd.R_new' (Kd.R_new' (Kd.R_new' (Kd.R_new' ho0 (Kd.R_lt (uR ((Kd.R_mono (Kd.R_far (p := ⟨gb1034, 1, none⟩) (Kd.R_far (p := ⟨gb1034, 0, none⟩) (Kd.R_types HO1024.out BK1034.out (by decide)) (fun _ hk => hk.2) (.bool t1039)) (fun _ hk => hk.2) (.slice Ao44 t1040.length co44)) (fun _ h_ => h_.1)))))) (Kd.R_lt (uR ((Kd.R_mono (Kd.R_far (p := ⟨gb1034, 1, none⟩) (Kd.R_far (p := ⟨gb1034, 0, none⟩) (Kd.R_types HO1028.out BK1034.out (by decide)) (fun _ hk => hk.2) (.bool t1039)) (fun _ hk => hk.2) (.slice Ao44 t1040.length co44)) (fun _ h_ => h_.1)))))) (Kd.R_lt (uR ((Kd.R_mono (Kd.R_far (p := ⟨gb1034, 1, none⟩) (Kd.R_far (p := ⟨gb1034, 0, none⟩) (Kd.R_types HO1032.out BK1034.out (by decide)) (fun _ hk => hk.2) (.bool t1039)) (fun _ hk => hk.2) (.slice Ao44 t1040.length co44)) (fun _ h_ => h_.1)))))) (Kd.R_lt (uR ((Kd.R_mono (Kd.R_far (p := ⟨gb1034, 1, none⟩) (Kd.R_far (p := ⟨gb1034, 0, none⟩) (Kd.R_types HO1038.out BK1034.out (by decide)) (fun _ hk => hk.2) (.bool t1039)) (fun _ hk => hk.2) (.slice Ao44 t1040.length co44)) (fun _ h_ => h_.1)))))) (Kd.R_lt (uR ((Kd.R_mono (Kd.R_far (p := ⟨gb1034, 1, none⟩) (Kd.R_far (p := ⟨gb1034, 0, none⟩) (Kd.R_types HO1042.out BK1034.out (by decide)) (fun _ hk => hk.2) (.bool t1039)) (fun _ hk => hk.2) (.slice Ao44 t1040.length co44)) (fun _ h_ => h_.1)))))) (below_size uB)); replace HO1024 := Aside0.mk (Kd.R_elder' (uR ((Kd.R_mono (Kd.R_far (p := ⟨gb1034, 1, none⟩) (Kd.R_far (p := ⟨gb1034, 0, none⟩) (Kd.R_types HO1024.out BK1034.out (by decide)) (fun _ hk => hk.2) (.bool t1039)) (fun _ hk => hk.2) (.slice Ao44 t1040.length co44)) (fun _ h_ => h_.1)))) (Kd.R_base ho0) hb); replace HO1028 := Aside0.mk (Kd.R_elder' (uR ((Kd.R_mono (Kd.R_far (p := ⟨gb1034, 1, none⟩) (Kd.R_far (p := ⟨gb1034, 0, none⟩) (Kd.R_types HO1028.out BK1034.out (by decide)) (fun _ hk => hk.2) (.bool t1039)) (fun _ hk => hk.2) (.slice Ao44 t1040.length co44)) (fun _ h_ => h_.1)))) (Kd.R_base ho0) hb); replace HO1032 := Aside0.mk (Kd.R_elder' (uR ((Kd.R_mono (Kd.R_far (p := ⟨gb1034, 1, none⟩) (Kd.R_far (p := ⟨gb1034, 0, none⟩) (Kd.R_types HO1032.out BK1034.out (by decide)) (fun _ hk => hk.2) (.bool t1039)) (fun _ hk => hk.2) (.slice Ao44 t1040.length co44)) (fun _ h_ => h_.1)))) (Kd.R_base ho0) hb); replace HO1038 := Aside0.mk (Kd.R_elder' (uR ((Kd.R_mono (Kd.R_far (p := ⟨gb1034, 1, none⟩) (Kd.R_far (p := ⟨gb1034, 0, none⟩) (Kd.R_types HO1038.out BK1034.out (by decide)) (fun _ hk => hk.2) (.bool t1039)) (fun _ hk => hk.2) (.slice Ao44 t1040.length co44)) (fun _ h_ => h_.1)))) (Kd.R_base ho0) hb); replace HO1042 := Aside0.mk (Kd.R_elder' (uR ((Kd.R_mono (Kd.R_far (p := ⟨gb1034, 1, none⟩) (Kd.R_far (p := ⟨gb1034, 0, none⟩) (Kd.R_types HO1042.out BK1034.out (by decide)) (fun _ hk => hk.2) (.bool t1039)) (fun _ hk => hk.2) (.slice Ao44 t1040.length co44)) (fun _ h_ => h_.1)))) (Kd.R_base ho0) hb); replace BK1034 := Aside0.mk (blk_below (g := gb1034) (o := .cells #[.bool t1039, .slice Ao44 t1040.length co44] 52 (0, 0)) (by (with_reducible repeat (first | refine blk_drewN ?_ _ | refine blk_drew ?_ | refine blk_alloc ?_ _)); refine blk_put (cs := #[.bool t1039, .slice Ao37 t1030.length co37]) ?_ 1 _ rfl; (with_reducible repeat (first | refine blk_drewN ?_ _ | refine blk_drew ?_ | refine blk_alloc ?_ _)); refine blk_put (cs := #[.bool t1029, .slice Ao37 t1030.length co37]) ?_ 0 _ rfl; (with_reducible repeat (first | refine blk_drewN ?_ _ | refine blk_drew ?_ | refine blk_alloc ?_ _)); exact BK1034.out) hb); replace HB := uy hb; (try clear hb); (try clear hb2); (try clear hk); (try clear hi); (try clear ho0)) | ((with_reducible refine gate_callee (f := 58) rfl ?_); refine goesL_ (some 66) rfl rfl Try.func58 (by kernel_rfl) rfl #[.int .i64 1] rfl uM ?_; (with_reducible refine (modint_Of.calls kj16 1 t1048 t1049 _ A26.out).mono ?_); rintro e w75 ⟨v1050, rfl, ho0, hb⟩; refine ⟨_, rfl, ?_⟩; have HO1051 := Aside0.mk (Kd.R_lower (Kd.R_new' (Kd.R_new' (Kd.R_new' (Kd.R_new' (Kd.R_new' (Kd.R_new' ho0 (Kd.R_lt (uR HO1024.out))) (Kd.R_lt (uR HO1028.out))) (Kd.R_lt (uR HO1032.out))) (Kd.R_lt (uR HO1038.out))) (Kd.R_lt (uR HO1042.out))) (Kd.R_lt (uR HO1047.out))) (below_size uB)); replace HO1024 := ueR HO1024 ho0 hb; replace HO1028 := ueR HO1028 ho0 hb; replace HO1032 := ueR HO1032 ho0 hb; replace HO1038 := ueR HO1038 ho0 hb; replace HO1042 := ueR HO1042 ho0 hb; replace HO1047 := ueR HO1047 ho0 hb; replace BK1034 := ux BK1034 hb; replace HB := uy hb; (try clear hb ho0); obtain ⟨Ao76, co76, eo76⟩ := Kd.R_slice HO1047.out; subst eo76; obtain ⟨Ao77, co77, eo77⟩ := Kd.R_slice HO1051.out; subst eo77) | ((with_reducible refine gate_callee (f := 69) rfl ?_); refine goesL_ (some 67) rfl rfl Try.func69 (by kernel_rfl) rfl #[.agg #[.bool t1044, .slice Ao76 t1045.length co76], .agg #[.bool t1048, .slice Ao77 t1049.length co77]] rfl uM ?_; (with_reducible refine (modint_Sub.calls kj16 t1044 (fun k_ => some k_ = (.slice Ao76 t1045.length co76 : Value).ownBlock) _ _ t1045 t1048 (fun k_ => some k_ = (.slice Ao77 t1049.length co77 : Value).ownBlock) _ _ t1049 t1052 t1053 t1056 _ ?side1 ?side2 A27.out).mono ?_); (case side1 => exact Kd.R_V (Kd.R_tight rfl (Kd.R_types (HO1047.out) BK1034.out (by decide)))); (case side2 => exact Kd.R_V (Kd.R_tight rfl (Kd.R_types (HO1051.out) BK1034.out (by decide)))); rintro e w78 ⟨v1054, rfl, ho0, hb⟩; refine ⟨_, rfl, ?_⟩; have HO1055 := Aside0.mk (Kd.R_lower (Kd.R_new' (Kd.R_new' (Kd.R_new' (Kd.R_new' (Kd.R_new' (Kd.R_new' (Kd.R_new' (Kd.R_mono (ok' := fun k_ => True) ho0 (fun _ hk_ => trivial)) (Kd.R_lt (uR HO1024.out))) (Kd.R_lt (uR HO1028.out))) (Kd.R_lt (uR HO1032.out))) (Kd.R_lt (uR HO1038.out))) (Kd.R_lt (uR HO1042.out))) (Kd.R_lt (uR HO1047.out))) (Kd.R_lt (uR HO1051.out))) (below_size uB)); replace HO1024 := ueR HO1024 ho0 hb; replace HO1028 := ueR HO1028 ho0 hb; replace HO1032 := ueR HO1032 ho0 hb; replace HO1038 := ueR HO1038 ho0 hb; replace HO1042 := ueR HO1042 ho0 hb; replace HO1047 := ueR HO1047 ho0 hb; replace HO1051 := ueR HO1051 ho0 hb; replace BK1034 := ux BK1034 hb; replace HB := uy hb; (try clear hb ho0)) | ((with_reducible refine gate_dst (N := 15) rfl ?_); refine box_event ?hg (N := 15) ?hd (cs := #[.bool false, .slice none 0 0]) (t := 52) ?hr ?_; (case hd => rfl); (case hg => rfl); (case hr => first | (go_simp; done) | (go_simp; rfl)); intro gb1057 hg w79 hbox hb; replace HO1024 := Aside0.mk (Kd.R_below (uR HO1024.out) hb); replace HO1028 := Aside0.mk (Kd.R_below (uR HO1028.out) hb); replace HO1032 := Aside0.mk (Kd.R_below (uR HO1032.out) hb); replace HO1038 := Aside0.mk (Kd.R_below (uR HO1038.out) hb); replace HO1042 := Aside0.mk (Kd.R_below (uR HO1042.out) hb); replace HO1047 := Aside0.mk (Kd.R_below (uR HO1047.out) hb); replace HO1051 := Aside0.mk (Kd.R_below (uR HO1051.out) hb); replace HO1055 := Aside0.mk (Kd.R_below (uR HO1055.out) hb); have BK1057 := Aside0.mk (hbox); have GW1057 := us hg; have GE1057 := us hg; replace HB := uy hb; have NB1034_1057 := Aside0.mk ((by rw [hg]; exact Nat.ne_of_lt (blk_lt (uK BK1034.out)) : gb1034 ≠ gb1057)); have NB1057_1034 := Aside0.mk ((by rw [hg]; exact Nat.ne_of_gt (blk_lt (uK BK1034.out)) : gb1057 ≠ gb1034)); replace BK1034 := ux BK1034 hb; clear hb hbox hg; have hnb80 := NB1057_1034.out; have hnc80 := NB1034_1057.out; have hcz81_0 : w79.cell? ⟨gb1057, 0, none⟩ = some (.bool false) := (blk_cell BK1057.out 0).trans rfl; have hcz81_1 : w79.cell? ⟨gb1057, 1, none⟩ = some (.slice none 0 0) := (blk_cell BK1057.out 1).trans rfl; have hfz81_0 := blk_frozen BK1057.out 0; have hfz81_1 := blk_frozen BK1057.out 1; obtain ⟨Ao82, co82, eo82⟩ := Kd.R_slice HO1055.out; subst eo82) | ((with_reducible refine gate_callee (f := 70) rfl ?_); refine goesL_ (some 73) rfl rfl Try.func70 (by kernel_rfl) rfl #[.slice A0 l0.length c0, .slice Ao82 t1053.length co82] rfl uM ?_; (with_reducible refine (fixenc_fits.calls kj16 _ _ l0 _ _ t1053 false _ ?side1 ?side2 ?side3 ?side4 A28.out).mono ?_); (case side1 => exact Kd.C_below HR0.out uB); (case side2 => exact HC0.out); (case side3 => refine (Kd.R_reads' (e := 27) (base := w.heap.size) (ok := fun k_ => (((((((True ∧ some k_ ≠ (.slice Ao32 t1022.length co32 : Value).ownBlock) ∧ some k_ ≠ (.slice Ao33 t1026.length co33 : Value).ownBlock) ∧ some k_ ≠ (.slice Ao37 t1030.length co37 : Value).ownBlock) ∧ some k_ ≠ (.slice Ao41 t1036.length co41 : Value).ownBlock) ∧ some k_ ≠ (.slice Ao44 t1040.length co44 : Value).ownBlock) ∧ some k_ ≠ (.slice Ao76 t1045.length co76 : Value).ownBlock) ∧ some k_ ≠ (.slice Ao77 t1049.length co77 : Value).ownBlock)) (n := t1053.length) (c := co82) ?_).2.2; exact (uR ((Kd.R_mono (Kd.R_far (p := ⟨gb1057, 1, none⟩) (Kd.R_far (p := ⟨gb1057, 0, none⟩) (Kd.R_types HO1055.out BK1057.out (by decide)) (fun _ hk => hk.2) (.bool t1052)) (fun _ hk => hk.2) (.slice Ao82 t1053.length co82)) (fun _ h_ => h_.1))))); (case side4 => exact (Kd.R_reads' HO1055.out).2.1); rintro e w83 ⟨rfl, hb⟩; refine ⟨_, rfl, ?_⟩; replace HO1024 := Aside0.mk (Kd.R_below (uR ((Kd.R_mono (Kd.R_far (p := ⟨gb1057, 1, none⟩) (Kd.R_far (p := ⟨gb1057, 0, none⟩) (Kd.R_types HO1024.out BK1057.out (by decide)) (fun _ hk => hk.2) (.bool t1052)) (fun _ hk => hk.2) (.slice Ao82 t1053.length co82)) (fun _ h_ => h_.1)))) hb); replace HO1028 := Aside0.mk (Kd.R_below (uR ((Kd.R_mono (Kd.R_far (p := ⟨gb1057, 1, none⟩) (Kd.R_far (p := ⟨gb1057, 0, none⟩) (Kd.R_types HO1028.out BK1057.out (by decide)) (fun _ hk => hk.2) (.bool t1052)) (fun _ hk => hk.2) (.slice Ao82 t1053.length co82)) (fun _ h_ => h_.1)))) hb); replace HO1032 := Aside0.mk (Kd.R_below (uR ((Kd.R_mono (Kd.R_far (p := ⟨gb1057, 1, none⟩) (Kd.R_far (p := ⟨gb1057, 0, none⟩) (Kd.R_types HO1032.out BK1057.out (by decide)) (fun _ hk => hk.2) (.bool t1052)) (fun _ hk => hk.2) (.slice Ao82 t1053.length co82)) (fun _ h_ => h_.1)))) hb); replace HO1038 := Aside0.mk (Kd.R_below (uR ((Kd.R_mono (Kd.R_far (p := ⟨gb1057, 1, none⟩) (Kd.R_far (p := ⟨gb1057, 0, none⟩) (Kd.R_types HO1038.out BK1057.out (by decide)) (fun _ hk => hk.2) (.bool t1052)) (fun _ hk => hk.2) (.slice Ao82 t1053.length co82)) (fun _ h_ => h_.1)))) hb); replace HO1042 := Aside0.mk (Kd.R_below (uR ((Kd.R_mono (Kd.R_far (p := ⟨gb1057, 1, none⟩) (Kd.R_far (p := ⟨gb1057, 0, none⟩) (Kd.R_types HO1042.out BK1057.out (by decide)) (fun _ hk => hk.2) (.bool t1052)) (fun _ hk => hk.2) (.slice Ao82 t1053.length co82)) (fun _ h_ => h_.1)))) hb); replace HO1047 := Aside0.mk (Kd.R_below (uR ((Kd.R_mono (Kd.R_far (p := ⟨gb1057, 1, none⟩) (Kd.R_far (p := ⟨gb1057, 0, none⟩) (Kd.R_types HO1047.out BK1057.out (by decide)) (fun _ hk => hk.2) (.bool t1052)) (fun _ hk => hk.2) (.slice Ao82 t1053.length co82)) (fun _ h_ => h_.1)))) hb); replace HO1051 := Aside0.mk (Kd.R_below (uR ((Kd.R_mono (Kd.R_far (p := ⟨gb1057, 1, none⟩) (Kd.R_far (p := ⟨gb1057, 0, none⟩) (Kd.R_types HO1051.out BK1057.out (by decide)) (fun _ hk => hk.2) (.bool t1052)) (fun _ hk => hk.2) (.slice Ao82 t1053.length co82)) (fun _ h_ => h_.1)))) hb); replace HO1055 := Aside0.mk (Kd.R_below (uR ((Kd.R_mono (Kd.R_far (p := ⟨gb1057, 1, none⟩) (Kd.R_far (p := ⟨gb1057, 0, none⟩) (Kd.R_types HO1055.out BK1057.out (by decide)) (fun _ hk => hk.2) (.bool t1052)) (fun _ hk => hk.2) (.slice Ao82 t1053.length co82)) (fun _ h_ => h_.1)))) hb); replace BK1034 := Aside0.mk (blk_below (g := gb1034) (o := .cells #[.bool t1039, .slice Ao44 t1040.length co44] 52 (0, 0)) (by (with_reducible repeat (first | refine blk_drewN ?_ _ | refine blk_drew ?_ | refine blk_alloc ?_ _)); refine blk_far ?_ NB1034_1057.out _; (with_reducible repeat (first | refine blk_drewN ?_ _ | refine blk_drew ?_ | refine blk_alloc ?_ _)); refine blk_far ?_ NB1034_1057.out _; (with_reducible repeat (first | refine blk_drewN ?_ _ | refine blk_drew ?_ | refine blk_alloc ?_ _)); exact BK1034.out) hb); replace BK1057 := Aside0.mk (blk_below (g := gb1057) (o := .cells #[.bool t1052, .slice Ao82 t1053.length co82] 52 (0, 0)) (by (with_reducible repeat (first | refine blk_drewN ?_ _ | refine blk_drew ?_ | refine blk_alloc ?_ _)); refine blk_put (cs := #[.bool t1052, .slice none 0 0]) ?_ 1 _ rfl; (with_reducible repeat (first | refine blk_drewN ?_ _ | refine blk_drew ?_ | refine blk_alloc ?_ _)); refine blk_put (cs := #[.bool false, .slice none 0 0]) ?_ 0 _ rfl; (with_reducible repeat (first | refine blk_drewN ?_ _ | refine blk_drew ?_ | refine blk_alloc ?_ _)); exact BK1057.out) hb); replace HB := uy hb; (try clear hb); (try clear hb2); (try clear hk); (try clear hi)))
     go_ret2
     exact ⟨uF, uB⟩
end Go.Proofs.Ytgeanpnkllnipab.F
end
section
namespace Go.Proofs.Ytgeanpnkllnipab.F
open Go.RowKit Go.Proofs.YtgeanpnkllnipabW.PrintWords Go.Proofs.YtgeanpnkllnipabW.PrintLast Go.Proofs.YtgeanpnkllnipabW.PrintMore
attribute [local go_sem] max2_int min2_int max_two min_two max_three min_three max_four min_four
set_option linter.unusedVariables false
set_option linter.unusedSimpArgs false
mutual
def windbreakref01_In.l0 : Nat → List Int → List Int → Int → Option (List Int)
 | 0, _, _, _ => none
 | k + 1, x0, x3, x4 => if x4 < (x0.length : Int) then (if 0 ≤ x4 then (windbreakref01_In.l1 k x0 x3 x4 (rd x0 x4) 0) else (none)) else ((windbreakref01_cut.f k x3).bind fun t323 => (some t323))
def windbreakref01_In.l1 : Nat → List Int → List Int → Int → Int → Int → Option (List Int)
 | 0, _, _, _, _, _ => none
 | k + 1, x0, x3, x4, x5, x6 => if x6 < 4 then (if x3.length < 17592186044416 then (windbreakref01_In.l1 k x0 (x3 ++ [Int.tmod x5 65536]) x4 (IntKind.u64.wrap (Int.tdiv x5 65536)) (wrap64 (x6 + 1))) else (none)) else (windbreakref01_In.l0 k x0 x3 (wrap64 (x4 + 1)))
end
def windbreakref01_In.f (k : Nat) (l0 : List Int) : Option (List Int) := windbreakref01_In.l0 k l0 ([] : List Int) 0
set_option maxHeartbeats 8000000 in
set_option maxRecDepth 100000 in
theorem windbreakref01_In.calls (k : Nat) (A0 : Option Addr) (c0 : Nat) (l0 : List Int) (r : List Int) (w : World) (hr0 : Kd.C (Kd.int .u64) w A0 l0.length l0) (hc0 : l0.length ≤ c0) (h : windbreakref01_In.f k l0 = some r) :
  Calls Try.prog 54 #[.slice A0 l0.length c0] w fun e w' => ∃ v0_ : Value, e = .returned (v0_) ∧ Kd.R (Kd.int .u64) 27 w' w.heap.size (fun _ => True) v0_ r ∧ Below w.heap.size w w' := by
 have HR0 := Aside0.mk hr0; have HC0 := Aside0.mk hc0; clear hr0 hc0
 have HB := Aside0.mk (Below.refl w.heap.size w)
 have H : (windbreakref01_In.l0 k l0 ([] : List Int) 0) = some r := h
 clear h
 have H' := Aside0.mk H
 clear H
 go_enter Try.func54, Try.ntmps54
 go_wp2
 go_loopg [3, 4] k (fun kq v3 v4 w' => ∃ (x3_1 : List Int) (x4_1 : Int), v4 = .int .i64 x4_1 ∧ Aside0 (windbreakref01_In.l0 kq l0 x3_1 x4_1 = some r) ∧ Aside0 (kq ≤ k) ∧ Aside0 (Kd.R (Kd.int .u64) 27 w' w.heap.size (fun _ => True) v3 x3_1) ∧ Aside0 (Below w.heap.size w w'))
 case atStart => exact ⟨(([] : List Int)), (0), uG, H', ⟨Nat.le_refl _⟩, ⟨uI⟩, ⟨uB⟩⟩
 case round =>
  clear H'
  obtain ⟨x3_1, x4_1, rfl, HA, HK1, HO_3, HB⟩ := hrel
  cases gk with
  | zero => exact absurd HA.out (by simp [windbreakref01_In.l0])
  | succ k1 =>
   have H := HA.out
   clear HA
   simp only [windbreakref01_In.l0] at H
   by_cases c2 : x4_1 < (l0.length : Int)
   ·
    rw [if_pos c2] at H
    have c2b0 : decide (x4_1 < (l0.length : Int)) = true := decide_eq_true c2
    clear c2
    replace H := uT H; obtain ⟨c3, H⟩ := H
    have c3b0 : decide (0 ≤ x4_1) = true := decide_eq_true c3
    clear c3
    have H' := Aside0.mk H
    clear H
    have p326 : 0 ≤ (x4_1 : Int) := uO
    have q326 : x4_1 < (l0.length : Int) := uO
    obtain ⟨ad326, e326, hx326_0⟩ := Kd.at_int HR0.out x4_1 p326 q326
    cases e326
    replace hx326_0 := (HB.out.cell (World.block_lt_of_cell? w _ hx326_0)).trans hx326_0
    replace p326 := eq_true p326
    replace q326 := eq_true q326
    go_wp2
    go_loopg [3, 5, 6] k1 (fun kq v3 v5 v6 w' => ∃ (x3_2 : List Int) (x5_2 : Int) (x6_2 : Int), v5 = .int .u64 x5_2 ∧ v6 = .int .i64 x6_2 ∧ Aside0 (windbreakref01_In.l1 kq l0 x3_2 x4_1 x5_2 x6_2 = some r) ∧ Aside0 (kq ≤ k1) ∧ Aside0 (Kd.R (Kd.int .u64) 27 w' w.heap.size (fun _ => True) v3 x3_2) ∧ Aside0 (Below w.heap.size w w'))
    case atStart => exact ⟨(x3_1), (rd l0 x4_1), (0), uG, uG, H', ⟨Nat.le_refl _⟩, ⟨uR HO_3.out⟩, ⟨uB⟩⟩
    case round =>
     clear H'
     (try clear c2); (try clear c2b0); (try clear p2); (try clear c3); (try clear c3b0); (try clear p3); (try clear q3); (try clear hx3); (try clear hx326_0); (try clear p326); (try clear q326)
     obtain ⟨x3_2, x5_2, x6_2, rfl, rfl, HA, HK2, HO_3, HB⟩ := hrel
     cases gk with
     | zero => exact absurd HA.out (by simp [windbreakref01_In.l1])
     | succ k2 =>
      have H := HA.out
      clear HA
      simp only [windbreakref01_In.l1] at H
      by_cases c4 : x6_2 < 4
      ·
       rw [if_pos c4] at H
       have c4b0 : decide (x6_2 < 4) = true := decide_eq_true c4
       clear c4
       replace H := uT H; obtain ⟨c5, H⟩ := H
       have LMc5 := Aside0.mk c5; clear c5
       obtain ⟨y327, hy327⟩ : ∃ y_ : List Int, y_ = (x3_2 ++ [Int.tmod x5_2 65536]) := ⟨_, rfl⟩
       replace H : (windbreakref01_In.l1 k2 l0 y327 x4_1 (IntKind.u64.wrap (Int.tdiv x5_2 65536)) (wrap64 (x6_2 + 1))) = some r := by first | (rw [hy327]; with_reducible exact H) | (have H2_ := (Option.bind_some _ _).symm.trans H; rw [hy327]; with_reducible exact H2_) | (have H2_ := (Option.bind_some _ _).symm.trans H; with_reducible exact H2_) | with_reducible exact H | (rw [hy327]; exact H) | exact H
       have Ny327 := Aside0.mk hy327; clear hy327
       have H' := Aside0.mk H
       clear H
       go_wp2_with (first | ((with_reducible refine gate_builtin (b := .append) (xs := #[.tmp 21, .tmp 24]) rfl ?_); at_builtin; refine Kd.R_append (Kd.int .u64) (w0 := w) w.heap.size rfl (.tmp 21) (.tmp 24) 70 27 (.int .u64 0) 8 rfl Try.underlying70 info27 rfl (by decide) (by omega) u3 x3_2 (Int.tmod x5_2 65536) [.int .u64 (Int.tmod x5_2 65536)] (fun _ => True) (fun _ => False) rfl rfl ?aP (fun _ hk => hk.elim) ?aF ?aO ?aB ?aS ?aL ?_; (case aP => exact rfl); (case aB => exact uB); (case aF => exact (fun _ _ => trivial)); (case aO => exact (uR HO_3.out)); (case aS => exact (below_size uB)); (case aL => have := LMc5.out; omega); intro v328 w6 ho hb hg hat; rw [← Ny327.out] at ho; replace HB := Aside0.mk (hb); have HO329 := Aside0.mk (ho); clear HO_3; clear ho hb hg hat))
       go_roundg k2
       case measure => have := HK1.out; have := HK2.out; omega
       case rel => exact ⟨(y327), (IntKind.u64.wrap (Int.tdiv x5_2 65536)), (wrap64 (x6_2 + 1)), uG, uG, H', ⟨by have := HK1.out; have := HK2.out; omega⟩, ⟨uR HO329.out⟩, ⟨uB⟩⟩
      rw [if_neg c4] at H
      have c4b0 : decide (x6_2 < 4) = false := decide_eq_false c4
      clear c4
      have H' := Aside0.mk H
      clear H
      go_wp2
      go_roundg k2
      case measure => have := HK1.out; have := HK2.out; omega
      case rel => exact ⟨(x3_2), (wrap64 (x4_1 + 1)), uG, H', ⟨by have := HK1.out; have := HK2.out; omega⟩, ⟨uR HO_3.out⟩, ⟨uB⟩⟩
   rw [if_neg c2] at H
   have c2b0 : decide (x4_1 < (l0.length : Int)) = false := decide_eq_false c2
   clear c2
   replace H := ub H; obtain ⟨t323, A7, H⟩ := H
   obtain rfl := Option.some.inj H
   obtain ⟨Ao8, co8, eo8⟩ := Kd.R_slice HO_3.out
   subst eo8
   go_wp2_with (first | ((with_reducible refine gate_callee (f := 99) rfl ?_); refine goesL_ (some 29) rfl rfl Try.func99 (by kernel_rfl) rfl #[.slice Ao8 x3_1.length co8] rfl uM ?_; (with_reducible refine (windbreakref01_cut.calls k1 (fun k_ => some k_ = (.slice Ao8 x3_1.length co8 : Value).ownBlock) (.slice Ao8 x3_1.length co8) x3_1 t323 w _ ?side1 ?side2 A7.out).mono ?_); (case side1 => repeat (first | (with_reducible first | exact HB.out | apply below_alloc | apply pw_below_drewN | apply below_drew1) | exact HB.out)); (case side2 => exact Kd.R_tight rfl HO_3.out); rintro e w9 ⟨v324, rfl, ho0, hb, hkp⟩; refine ⟨_, rfl, ?_⟩; have HO325 := Aside0.mk (Kd.R_mono (ok' := fun k_ => True) ho0 (fun k_ hk_ => trivial)); replace HB := Aside0.mk (hb); clear HO_3; (try clear hb); (try clear hkp); (try clear ho0)))
   go_ret
   exact ⟨_, uF, uR HO325.out, uB⟩
end Go.Proofs.Ytgeanpnkllnipab.F
end
section
namespace Go.Proofs.Ytgeanpnkllnipab.F
open Go.RowKit Go.Proofs.YtgeanpnkllnipabW.PrintWords Go.Proofs.YtgeanpnkllnipabW.PrintLast Go.Proofs.YtgeanpnkllnipabW.PrintMore
attribute [local go_sem] max2_int min2_int max_two min_two max_three min_three max_four min_four
set_option linter.unusedVariables false
set_option linter.unusedSimpArgs false
def windbreakref01_Cmp.j0 : Nat → List Int → List Int → Bool → Option (Int)
 | 0, _, _, _ => none
 | k + 1, x0, x1, x16 => if x16 = true then (some 0) else ((windbreakref01_In.f k x0).bind fun t336 => ((windbreakref01_In.f k x1).bind fun t339 => ((windbreakref01_compare.f k t336 t339).bind fun t342 => (some t342))))
def windbreakref01_Cmp.f (k : Nat) (l0 : List Int) (l1 : List Int) : Option (Int) := (windbreakref01_Right.f l0).bind fun t334 => ((windbreakref01_Right.f l1).bind fun t335 => (if t334 = true then (windbreakref01_Cmp.j0 k l0 l1 (!t335)) else (windbreakref01_Cmp.j0 k l0 l1 true)))
set_option maxHeartbeats 8000000 in
set_option maxRecDepth 100000 in
theorem windbreakref01_Cmp.calls (k : Nat) (A0 : Option Addr) (c0 : Nat) (l0 : List Int) (A1 : Option Addr) (c1 : Nat) (l1 : List Int) (r : Int) (w : World) (hr0 : Kd.C (Kd.int .u64) w A0 l0.length l0) (hc0 : l0.length ≤ c0) (hr1 : Kd.C (Kd.int .u64) w A1 l1.length l1) (hc1 : l1.length ≤ c1) (h : windbreakref01_Cmp.f k l0 l1 = some r) :
  Calls Try.prog 72 #[.slice A0 l0.length c0, .slice A1 l1.length c1] w fun e w' => e = .returned (.int .i64 r) ∧ Below w.heap.size w w' := by
 have HR0 := Aside0.mk hr0; have HC0 := Aside0.mk hc0; clear hr0 hc0; have HR1 := Aside0.mk hr1; have HC1 := Aside0.mk hc1; clear hr1 hc1
 have HB := Aside0.mk (Below.refl w.heap.size w)
 have H : ((windbreakref01_Right.f l0).bind fun t334 => ((windbreakref01_Right.f l1).bind fun t335 => (if t334 = true then (windbreakref01_Cmp.j0 k l0 l1 (!t335)) else (windbreakref01_Cmp.j0 k l0 l1 true)))) = some r := h
 clear h
 replace H := ub H; obtain ⟨t334, A3, H⟩ := H
 replace H := ub H; obtain ⟨t335, A4, H⟩ := H
 have HC5 := Aside0.mk H; clear H
 go_enter Try.func72, Try.ntmps72
 go_upto_region 3 with (first | ((with_reducible refine gate_callee (f := 50) rfl ?_); refine goesL_ (some 8) rfl rfl Try.func50 (by kernel_rfl) rfl #[.slice A0 l0.length c0] rfl uM ?_; (with_reducible refine (windbreakref01_Right.calls _ _ l0 t334 _ ?side1 ?side2 A3.out).mono ?_); (case side1 => exact uC HR0.out); (case side2 => exact HC0.out); rintro e w' ⟨rfl, ⟨nd, rfl⟩⟩; refine ⟨_, rfl, ?_⟩) | ((with_reducible refine gate_callee (f := 50) rfl ?_); refine goesL_ (some 10) rfl rfl Try.func50 (by kernel_rfl) rfl #[.slice A1 l1.length c1] rfl uM ?_; (with_reducible refine (windbreakref01_Right.calls _ _ l1 t335 _ ?side1 ?side2 A4.out).mono ?_); (case side1 => exact uC HR1.out); (case side2 => exact HC1.out); rintro e w' ⟨rfl, ⟨nd, rfl⟩⟩; refine ⟨_, rfl, ?_⟩))
 (try simp only [Act.put, List.setIfInBounds_toArray, List.set_cons_zero, List.set_cons_succ])
 go_cut [16] (fun v16 wc => ∃ (kq : Nat) (x16_4 : Bool), v16 = .bool x16_4 ∧ Aside0 (windbreakref01_Cmp.j0 kq l0 l1 x16_4 = some r) ∧ Aside0 (kq ≤ k) ∧ Aside0 (Below w.heap.size w wc))
 case first =>
  have H := HC5.out
  clear HC5
  by_cases c6 : t334 = true
  ·
   subst c6
   have H1 : (windbreakref01_Cmp.j0 k l0 l1 (!t335)) = some r := by rw [if_pos rfl] at H; exact H
   clear H; have H := H1; clear H1
   have H' := Aside0.mk H
   clear H
   go_wp2
   go_meet
   case rel => exact ⟨_, (!t335), uG, H', ⟨uW⟩, ⟨uB⟩⟩
  replace c6 := Bool.eq_false_iff.mpr c6
  subst c6
  have H1 : (windbreakref01_Cmp.j0 k l0 l1 true) = some r := by rw [if_neg (show ¬ (false = true) by decide)] at H; exact H
  clear H; have H := H1; clear H1
  have H' := Aside0.mk H
  clear H
  go_wp2
  go_meet
  case rel => exact ⟨_, (true), uG, H', ⟨uW⟩, ⟨uB⟩⟩
 case rest =>
  clear HC5; (try clear c1); (try clear p2); (try clear c5); (try clear c6)
  obtain ⟨kq, x16_4, rfl, HA, HJ4, HB⟩ := hcut
  cases kq with
  | zero => exact absurd HA.out (by simp [windbreakref01_Cmp.j0])
  | succ kj4 =>
   have H := HA.out
   clear HA
   simp only [windbreakref01_Cmp.j0] at H
   by_cases c7 : x16_4 = true
   ·
    subst c7
    have H1 : (some 0) = some r := by rw [if_pos rfl] at H; exact H
    clear H; have H := H1; clear H1
    obtain rfl := Option.some.inj H
    go_wp2
    go_ret
    exact ⟨uF, uB⟩
   replace c7 := Bool.eq_false_iff.mpr c7
   subst c7
   have H1 : ((windbreakref01_In.f kj4 l0).bind fun t336 => ((windbreakref01_In.f kj4 l1).bind fun t339 => ((windbreakref01_compare.f kj4 t336 t339).bind fun t342 => (some t342)))) = some r := by rw [if_neg (show ¬ (false = true) by decide)] at H; exact H
   clear H; have H := H1; clear H1
   replace H := ub H; obtain ⟨t336, A8, H⟩ := H
   replace H := ub H; obtain ⟨t339, A9, H⟩ := H
   replace H := ub H; obtain ⟨t342, A10, H⟩ := H
   obtain rfl := Option.some.inj H
   go_wp2_with (first | ((with_reducible refine gate_callee (f := 54) rfl ?_); refine goesL_ (some 18) rfl rfl Try.func54 (by kernel_rfl) rfl #[.slice A0 l0.length c0] rfl uM ?_; (with_reducible refine (windbreakref01_In.calls kj4 _ _ l0 t336 _ ?side1 ?side2 A8.out).mono ?_); (case side1 => exact uC (Kd.C_below HR0.out HB.out)); (case side2 => exact HC0.out); rintro e w11 ⟨v337, rfl, ho0, hb⟩; refine ⟨_, rfl, ?_⟩; have HO338 := Aside0.mk (Kd.R_lower ho0 (below_size uB)); replace HB := uy hb; (try clear hb ho0)) | ((with_reducible refine gate_callee (f := 54) rfl ?_); refine goesL_ (some 20) rfl rfl Try.func54 (by kernel_rfl) rfl #[.slice A1 l1.length c1] rfl uM ?_; (with_reducible refine (windbreakref01_In.calls kj4 _ _ l1 t339 _ ?side1 ?side2 A9.out).mono ?_); (case side1 => exact uC (Kd.C_below HR1.out HB.out)); (case side2 => exact HC1.out); rintro e w12 ⟨v340, rfl, ho0, hb⟩; refine ⟨_, rfl, ?_⟩; have HO341 := Aside0.mk (Kd.R_lower (Kd.R_new' ho0 (Kd.R_lt (uR HO338.out))) (below_size uB)); replace HO338 := ueR HO338 ho0 hb; replace HB := uy hb; (try clear hb ho0); obtain ⟨Ao13, co13, eo13⟩ := Kd.R_slice HO338.out; subst eo13; obtain ⟨Ao14, co14, eo14⟩ := Kd.R_slice HO341.out; subst eo14) | ((with_reducible refine gate_callee (f := 110) rfl ?_); refine goesL_ (some 21) rfl rfl Try.func110 (by kernel_rfl) rfl #[.slice Ao13 t336.length co13, .slice Ao14 t339.length co14] rfl uM ?_; (with_reducible refine (windbreakref01_compare.calls kj4 _ _ t336 _ _ t339 t342 _ ?side1 ?side2 ?side3 ?side4 A10.out).mono ?_); (case side1 => exact uC (Kd.R_reads' HO338.out).2.2); (case side2 => exact (Kd.R_reads' HO338.out).2.1); (case side3 => exact uC (Kd.R_reads' HO341.out).2.2); (case side4 => exact (Kd.R_reads' HO341.out).2.1); rintro e w' ⟨rfl, ⟨nd, rfl⟩⟩; refine ⟨_, rfl, ?_⟩))
   go_ret
   exact ⟨uF, uB⟩
def windbreakref07_May.f (k : Nat) (l0 : List Int) : Option (Bool) := (windbreakref01_Right.f l0).bind fun t776 => (if t776 = true then (if (l0.length : Int) ≤ 8 then ((windbreakref01_Of.f 3).bind fun t777 => ((windbreakref01_Cmp.f k l0 t777).bind fun t780 => (some (decide (t780 ≥ 0))))) else (some false)) else (some false))
set_option maxHeartbeats 8000000 in
set_option maxRecDepth 100000 in
theorem windbreakref07_May.calls (k : Nat) (A0 : Option Addr) (c0 : Nat) (l0 : List Int) (r : Bool) (w : World) (hr0 : Kd.C (Kd.int .u64) w A0 l0.length l0) (hc0 : l0.length ≤ c0) (h : windbreakref07_May.f k l0 = some r) :
  Calls Try.prog 59 #[.slice A0 l0.length c0] w fun e w' => e = .returned (.bool r) ∧ Below w.heap.size w w' := by
 have HR0 := Aside0.mk hr0; have HC0 := Aside0.mk hc0; clear hr0 hc0
 have HB := Aside0.mk (Below.refl w.heap.size w)
 have H : ((windbreakref01_Right.f l0).bind fun t776 => (if t776 = true then (if (l0.length : Int) ≤ 8 then ((windbreakref01_Of.f 3).bind fun t777 => ((windbreakref01_Cmp.f k l0 t777).bind fun t780 => (some (decide (t780 ≥ 0))))) else (some false)) else (some false))) = some r := h
 clear h
 replace H := ub H; obtain ⟨t776, A2, H⟩ := H
 by_cases c3 : t776 = true
 ·
  subst c3
  have H1 : (if (l0.length : Int) ≤ 8 then ((windbreakref01_Of.f 3).bind fun t777 => ((windbreakref01_Cmp.f k l0 t777).bind fun t780 => (some (decide (t780 ≥ 0))))) else (some false)) = some r := by rw [if_pos rfl] at H; exact H
  clear H; have H := H1; clear H1
  by_cases c4 : (l0.length : Int) ≤ 8
  ·
   rw [if_pos c4] at H
   have c4b0 : decide ((l0.length : Int) ≤ 8) = true := decide_eq_true c4
   have c4b1 : decide (l0.length ≤ 8) = true := decide_eq_true (by omega)
   clear c4
   replace H := ub H; obtain ⟨t777, A5, H⟩ := H
   replace H := ub H; obtain ⟨t780, A6, H⟩ := H
   obtain rfl := Option.some.inj H
   go_enter Try.func59, Try.ntmps59
   go_wp2_with (first | ((with_reducible refine gate_callee (f := 50) rfl ?_); refine goesL_ (some 5) rfl rfl Try.func50 (by kernel_rfl) rfl #[.slice A0 l0.length c0] rfl uM ?_; (with_reducible refine (windbreakref01_Right.calls _ _ l0 true _ ?side1 ?side2 A2.out).mono ?_); (case side1 => exact uC HR0.out); (case side2 => exact HC0.out); rintro e w' ⟨rfl, ⟨nd, rfl⟩⟩; refine ⟨_, rfl, ?_⟩) | (go_at_call 94; (with_reducible refine (windbreakref01_Of.calls 3 t777 _ A5.out).mono ?_); rintro e w7 ⟨v778, rfl, ho0, hb⟩; have HO779 := Aside0.mk (Kd.R_lower ho0 (below_size uB)); replace HB := uy hb; (try clear hb ho0); obtain ⟨Ao8, co8, eo8⟩ := Kd.R_slice HO779.out; subst eo8) | (go_at_call 72; (with_reducible refine (windbreakref01_Cmp.calls k _ _ l0 _ _ t777 t780 _ ?side1 ?side2 ?side3 ?side4 A6.out).mono ?_); (case side1 => exact uC (Kd.C_below HR0.out HB.out)); (case side2 => exact HC0.out); (case side3 => exact uC (Kd.R_reads' HO779.out).2.2); (case side4 => exact (Kd.R_reads' HO779.out).2.1); rintro e w9 ⟨rfl, hb⟩; replace HO779 := Aside0.mk (Kd.R_below (uR HO779.out) hb); replace HB := uy hb; (try clear hb)))
   go_ret
   exact ⟨uF, uB⟩
  rw [if_neg c4] at H
  have c4b0 : decide ((l0.length : Int) ≤ 8) = false := decide_eq_false c4
  have c4b1 : decide (l0.length ≤ 8) = false := decide_eq_false (by omega)
  clear c4
  obtain rfl := Option.some.inj H
  go_enter Try.func59, Try.ntmps59
  go_wp2_with (first | ((with_reducible refine gate_callee (f := 50) rfl ?_); refine goesL_ (some 5) rfl rfl Try.func50 (by kernel_rfl) rfl #[.slice A0 l0.length c0] rfl uM ?_; (with_reducible refine (windbreakref01_Right.calls _ _ l0 true _ ?side1 ?side2 A2.out).mono ?_); (case side1 => exact uC HR0.out); (case side2 => exact HC0.out); rintro e w' ⟨rfl, ⟨nd, rfl⟩⟩; refine ⟨_, rfl, ?_⟩))
  go_ret
  exact ⟨uF, uB⟩
 replace c3 := Bool.eq_false_iff.mpr c3
 subst c3
 have H1 : (some false) = some r := by rw [if_neg (show ¬ (false = true) by decide)] at H; exact H
 clear H; have H := H1; clear H1
 obtain rfl := Option.some.inj H
 go_enter Try.func59, Try.ntmps59
 go_wp2_with (first | ((with_reducible refine gate_callee (f := 50) rfl ?_); refine goesL_ (some 5) rfl rfl Try.func50 (by kernel_rfl) rfl #[.slice A0 l0.length c0] rfl uM ?_; (with_reducible refine (windbreakref01_Right.calls _ _ l0 false _ ?side1 ?side2 A2.out).mono ?_); (case side1 => exact uC HR0.out); (case side2 => exact HC0.out); rintro e w' ⟨rfl, ⟨nd, rfl⟩⟩; refine ⟨_, rfl, ?_⟩))
 go_ret
 exact ⟨uF, uB⟩
def windbreakref03_Cmp.j0 : Nat → Bool → Bool → List Int → Bool → List Int → Option (Int)
 | 0, _, _, _, _, _ => none
 | k + 1, x16, x784000, x784001, x785000, x785001 => if x16 = true then (some 0) else (if (x784000 != x785000) = true then (if x784000 = true then (some (-1)) else (some 1)) else (if x784000 = true then ((windbreakref01_Cmp.f k x785001 x784001).bind fun t787 => (some t787)) else ((windbreakref01_Cmp.f k x784001 x785001).bind fun t788 => (some t788))))
def windbreakref03_Cmp.f (k : Nat) (a0_0 : Bool) (l0_1 : List Int) (a1_0 : Bool) (l1_1 : List Int) : Option (Int) := (windbreakref03_Right.f a0_0 l0_1).bind fun t785 => ((windbreakref03_Right.f a1_0 l1_1).bind fun t786 => (if t785 = true then (windbreakref03_Cmp.j0 k (!t786) a0_0 l0_1 a1_0 l1_1) else (windbreakref03_Cmp.j0 k true a0_0 l0_1 a1_0 l1_1)))
set_option maxHeartbeats 8000000 in
set_option maxRecDepth 100000 in
theorem windbreakref03_Cmp.calls (k : Nat) (a0_0 : Bool) (A0_1 : Option Addr) (c0_1 : Nat) (l0_1 : List Int) (a1_0 : Bool) (A1_1 : Option Addr) (c1_1 : Nat) (l1_1 : List Int) (r : Int) (w : World) (hr0_1 : Kd.C (Kd.int .u64) w A0_1 l0_1.length l0_1) (hc0_1 : l0_1.length ≤ c0_1) (hr1_1 : Kd.C (Kd.int .u64) w A1_1 l1_1.length l1_1) (hc1_1 : l1_1.length ≤ c1_1) (h : windbreakref03_Cmp.f k a0_0 l0_1 a1_0 l1_1 = some r) :
  Calls Try.prog 60 #[.agg #[.bool a0_0, .slice A0_1 l0_1.length c0_1], .agg #[.bool a1_0, .slice A1_1 l1_1.length c1_1]] w fun e w' => e = .returned (.int .i64 r) ∧ Below w.heap.size w w' := by
 have hu52 := Try.underlying52
 have HR0_1 := Aside0.mk hr0_1; have HC0_1 := Aside0.mk hc0_1; clear hr0_1 hc0_1; have HR1_1 := Aside0.mk hr1_1; have HC1_1 := Aside0.mk hc1_1; clear hr1_1 hc1_1
 have HB := Aside0.mk (Below.refl w.heap.size w)
 have H : ((windbreakref03_Right.f a0_0 l0_1).bind fun t785 => ((windbreakref03_Right.f a1_0 l1_1).bind fun t786 => (if t785 = true then (windbreakref03_Cmp.j0 k (!t786) a0_0 l0_1 a1_0 l1_1) else (windbreakref03_Cmp.j0 k true a0_0 l0_1 a1_0 l1_1)))) = some r := h
 clear h
 replace H := ub H; obtain ⟨t785, A3, H⟩ := H
 replace H := ub H; obtain ⟨t786, A4, H⟩ := H
 have HC5 := Aside0.mk H; clear H
 go_enter Try.func60, Try.ntmps60
 go_upto_region 3 with (first | ((with_reducible refine gate_dst (N := 2) rfl ?_); refine box_event ?hg (N := 2) ?hd (cs := #[.bool a0_0, .slice A0_1 l0_1.length c0_1]) (t := 52) ?hr ?_; (case hd => rfl); (case hg => rfl); (case hr => first | (go_simp; done) | (go_simp; rfl)); intro gb783 hg w6 hbox hb; have BK783 := Aside0.mk (hbox); have GW783 := us hg; have GE783 := us hg; replace HB := uy hb; clear hb hbox hg) | ((with_reducible refine gate_dst (N := 3) rfl ?_); refine box_event ?hg (N := 3) ?hd (cs := #[.bool a1_0, .slice A1_1 l1_1.length c1_1]) (t := 52) ?hr ?_; (case hd => rfl); (case hg => rfl); (case hr => first | (go_simp; done) | (go_simp; rfl)); intro gb784 hg w7 hbox hb; have BK784 := Aside0.mk (hbox); have GW784 := us hg; have GE784 := us hg; replace HB := uy hb; have NB783_784 := Aside0.mk ((by rw [hg]; exact Nat.ne_of_lt (blk_lt (uK BK783.out)) : gb783 ≠ gb784)); have NB784_783 := Aside0.mk ((by rw [hg]; exact Nat.ne_of_gt (blk_lt (uK BK783.out)) : gb784 ≠ gb783)); replace BK783 := ux BK783 hb; clear hb hbox hg; have hnb8 := NB783_784.out; have hnc8 := NB784_783.out; have hcz9_0 : w7.cell? ⟨gb783, 0, none⟩ = some (.bool a0_0) := (blk_cell BK783.out 0).trans rfl; have hcz9_1 : w7.cell? ⟨gb783, 1, none⟩ = some (.slice A0_1 l0_1.length c0_1) := (blk_cell BK783.out 1).trans rfl; have hfz9_0 := blk_frozen BK783.out 0; have hfz9_1 := blk_frozen BK783.out 1) | ((with_reducible refine gate_callee (f := 103) rfl ?_); refine goesL_ (some 8) rfl rfl Try.func103 (by kernel_rfl) rfl #[.agg #[.bool a0_0, .slice A0_1 l0_1.length c0_1]] rfl uM ?_; (with_reducible refine (windbreakref03_Right.calls a0_0 _ _ l0_1 t785 _ ?side1 ?side2 A3.out).mono ?_); (case side1 => exact uC (Kd.C_below HR0_1.out HB.out)); (case side2 => exact HC0_1.out); rintro e w10 ⟨rfl, hb⟩; refine ⟨_, rfl, ?_⟩; replace BK783 := ux BK783 hb; replace BK784 := ux BK784 hb; replace HB := uy hb; (try clear hb); have hcz11_0 : w10.cell? ⟨gb784, 0, none⟩ = some (.bool a1_0) := (blk_cell BK784.out 0).trans rfl; have hcz11_1 : w10.cell? ⟨gb784, 1, none⟩ = some (.slice A1_1 l1_1.length c1_1) := (blk_cell BK784.out 1).trans rfl; have hfz11_0 := blk_frozen BK784.out 0; have hfz11_1 := blk_frozen BK784.out 1) | ((with_reducible refine gate_callee (f := 103) rfl ?_); refine goesL_ (some 10) rfl rfl Try.func103 (by kernel_rfl) rfl #[.agg #[.bool a1_0, .slice A1_1 l1_1.length c1_1]] rfl uM ?_; (with_reducible refine (windbreakref03_Right.calls a1_0 _ _ l1_1 t786 _ ?side1 ?side2 A4.out).mono ?_); (case side1 => exact uC (Kd.C_below HR1_1.out HB.out)); (case side2 => exact HC1_1.out); rintro e w12 ⟨rfl, hb⟩; refine ⟨_, rfl, ?_⟩; replace BK783 := ux BK783 hb; replace BK784 := ux BK784 hb; replace HB := uy hb; (try clear hb)))
 (try simp only [Act.put, List.setIfInBounds_toArray, List.set_cons_zero, List.set_cons_succ])
 go_cut [16] (fun v16 wc => ∃ (kq : Nat) (x16_4 : Bool), v16 = .bool x16_4 ∧ Aside0 (windbreakref03_Cmp.j0 kq x16_4 a0_0 l0_1 a1_0 l1_1 = some r) ∧ Aside0 (kq ≤ k) ∧ Aside0 (wc.heap[gb783]? = some (.cells #[.bool a0_0, (.slice A0_1 l0_1.length c0_1)] 52 (0, 0))) ∧ Aside0 (wc.heap[gb784]? = some (.cells #[.bool a1_0, (.slice A1_1 l1_1.length c1_1)] 52 (0, 0))) ∧ Aside0 (Below w.heap.size w wc))
 case first =>
  have H := HC5.out
  clear HC5
  by_cases c13 : t785 = true
  ·
   subst c13
   have H1 : (windbreakref03_Cmp.j0 k (!t786) a0_0 l0_1 a1_0 l1_1) = some r := by rw [if_pos rfl] at H; exact H
   clear H; have H := H1; clear H1
   have H' := Aside0.mk H
   clear H
   go_wp2
   go_meet
   case rel => exact ⟨_, (!t786), uG, H', ⟨uW⟩, ⟨uK BK783.out⟩, ⟨uK BK784.out⟩, ⟨uB⟩⟩
  replace c13 := Bool.eq_false_iff.mpr c13
  subst c13
  have H1 : (windbreakref03_Cmp.j0 k true a0_0 l0_1 a1_0 l1_1) = some r := by rw [if_neg (show ¬ (false = true) by decide)] at H; exact H
  clear H; have H := H1; clear H1
  have H' := Aside0.mk H
  clear H
  go_wp2
  go_meet
  case rel => exact ⟨_, (true), uG, H', ⟨uW⟩, ⟨uK BK783.out⟩, ⟨uK BK784.out⟩, ⟨uB⟩⟩
 case rest =>
  clear HC5; (try clear c1); (try clear p2); (try clear c6); (try clear c8); (try clear c10); (try clear c13); (try clear hcz11_0 hcz11_1); (try clear hcz9_0 hcz9_1); (try clear hfz11_0 hfz11_1); (try clear hfz9_0 hfz9_1)
  obtain ⟨kq, x16_4, rfl, HA, HJ4, BK783, BK784, HB⟩ := hcut
  cases kq with
  | zero => exact absurd HA.out (by simp [windbreakref03_Cmp.j0])
  | succ kj4 =>
   have H := HA.out
   clear HA
   simp only [windbreakref03_Cmp.j0] at H
   by_cases c14 : x16_4 = true
   ·
    subst c14
    have H1 : (some 0) = some r := by rw [if_pos rfl] at H; exact H
    clear H; have H := H1; clear H1
    obtain rfl := Option.some.inj H
    go_wp2
    go_ret
    exact ⟨uF, uB⟩
   replace c14 := Bool.eq_false_iff.mpr c14
   subst c14
   have H1 : (if (a0_0 != a1_0) = true then (if a0_0 = true then (some (-1)) else (some 1)) else (if a0_0 = true then ((windbreakref01_Cmp.f kj4 l1_1 l0_1).bind fun t787 => (some t787)) else ((windbreakref01_Cmp.f kj4 l0_1 l1_1).bind fun t788 => (some t788)))) = some r := by rw [if_neg (show ¬ (false = true) by decide)] at H; exact H
   clear H; have H := H1; clear H1
   by_cases c15 : (a0_0 != a1_0) = true
   ·
    rw [if_pos c15] at H
    have c15b0 : (a0_0 != a1_0) = true := c15
    (try (have c15b1 : decide (a0_0 = a1_0) = false := by simpa using c15))
    (try (have c15b2 : (a0_0 == a1_0) = false := by simpa using c15))
    (try (have c15b3 : ¬ (a0_0 = a1_0) := by simpa using c15))
    clear c15
    by_cases c16 : a0_0 = true
    ·
     subst c16
     have H1 : (some (-1)) = some r := by rw [if_pos rfl] at H; exact H
     clear H; have H := H1; clear H1
     obtain rfl := Option.some.inj H
     have hnb17 := NB783_784.out
     have hnc17 := NB784_783.out
     have hcz18_0 : wc.cell? ⟨gb783, 0, none⟩ = some (.bool true) := (blk_cell BK783.out 0).trans rfl; have hcz18_1 : wc.cell? ⟨gb783, 1, none⟩ = some (.slice A0_1 l0_1.length c0_1) := (blk_cell BK783.out 1).trans rfl; have hfz18_0 := blk_frozen BK783.out 0; have hfz18_1 := blk_frozen BK783.out 1; have hcz19_0 : wc.cell? ⟨gb784, 0, none⟩ = some (.bool a1_0) := (blk_cell BK784.out 0).trans rfl; have hcz19_1 : wc.cell? ⟨gb784, 1, none⟩ = some (.slice A1_1 l1_1.length c1_1) := (blk_cell BK784.out 1).trans rfl; have hfz19_0 := blk_frozen BK784.out 0; have hfz19_1 := blk_frozen BK784.out 1
     go_wp2
     go_ret
     exact ⟨uF, uB⟩
    replace c16 := Bool.eq_false_iff.mpr c16
    subst c16
    have H1 : (some 1) = some r := by rw [if_neg (show ¬ (false = true) by decide)] at H; exact H
    clear H; have H := H1; clear H1
    obtain rfl := Option.some.inj H
    have hnb20 := NB783_784.out
    have hnc20 := NB784_783.out
    have hcz21_0 : wc.cell? ⟨gb783, 0, none⟩ = some (.bool false) := (blk_cell BK783.out 0).trans rfl; have hcz21_1 : wc.cell? ⟨gb783, 1, none⟩ = some (.slice A0_1 l0_1.length c0_1) := (blk_cell BK783.out 1).trans rfl; have hfz21_0 := blk_frozen BK783.out 0; have hfz21_1 := blk_frozen BK783.out 1; have hcz22_0 : wc.cell? ⟨gb784, 0, none⟩ = some (.bool a1_0) := (blk_cell BK784.out 0).trans rfl; have hcz22_1 : wc.cell? ⟨gb784, 1, none⟩ = some (.slice A1_1 l1_1.length c1_1) := (blk_cell BK784.out 1).trans rfl; have hfz22_0 := blk_frozen BK784.out 0; have hfz22_1 := blk_frozen BK784.out 1
    go_wp2
    go_ret
    exact ⟨uF, uB⟩
   rw [if_neg c15] at H
   have c15b0 : (a0_0 != a1_0) = false := by simpa using c15
   (try (have c15b1 : decide (a0_0 = a1_0) = true := by simpa using c15))
   (try (have c15b2 : (a0_0 == a1_0) = true := by simpa using c15))
   clear c15
   by_cases c23 : a0_0 = true
   ·
    subst c23
    have H1 : ((windbreakref01_Cmp.f kj4 l1_1 l0_1).bind fun t787 => (some t787)) = some r := by rw [if_pos rfl] at H; exact H
    clear H; have H := H1; clear H1
    replace H := ub H; obtain ⟨t787, A24, H⟩ := H
    obtain rfl := Option.some.inj H
    have hnb25 := NB783_784.out
    have hnc25 := NB784_783.out
    have hcz26_0 : wc.cell? ⟨gb783, 0, none⟩ = some (.bool true) := (blk_cell BK783.out 0).trans rfl; have hcz26_1 : wc.cell? ⟨gb783, 1, none⟩ = some (.slice A0_1 l0_1.length c0_1) := (blk_cell BK783.out 1).trans rfl; have hfz26_0 := blk_frozen BK783.out 0; have hfz26_1 := blk_frozen BK783.out 1; have hcz27_0 : wc.cell? ⟨gb784, 0, none⟩ = some (.bool a1_0) := (blk_cell BK784.out 0).trans rfl; have hcz27_1 : wc.cell? ⟨gb784, 1, none⟩ = some (.slice A1_1 l1_1.length c1_1) := (blk_cell BK784.out 1).trans rfl; have hfz27_0 := blk_frozen BK784.out 0; have hfz27_1 := blk_frozen BK784.out 1
    go_wp2_with (first | ((with_reducible refine gate_callee (f := 72) rfl ?_); refine goesL_ (some 30) rfl rfl Try.func72 (by kernel_rfl) rfl #[.slice A1_1 l1_1.length c1_1, .slice A0_1 l0_1.length c0_1] rfl uM ?_; (with_reducible refine (windbreakref01_Cmp.calls kj4 _ _ l1_1 _ _ l0_1 t787 _ ?side1 ?side2 ?side3 ?side4 A24.out).mono ?_); (case side1 => exact uC (Kd.C_below HR1_1.out HB.out)); (case side2 => exact HC1_1.out); (case side3 => exact uC (Kd.C_below HR0_1.out HB.out)); (case side4 => exact HC0_1.out); rintro e w28 ⟨rfl, hb⟩; refine ⟨_, rfl, ?_⟩; replace BK783 := ux BK783 hb; replace BK784 := ux BK784 hb; replace HB := uy hb; (try clear hb)))
    go_ret
    exact ⟨uF, uB⟩
   replace c23 := Bool.eq_false_iff.mpr c23
   subst c23
   have H1 : ((windbreakref01_Cmp.f kj4 l0_1 l1_1).bind fun t788 => (some t788)) = some r := by rw [if_neg (show ¬ (false = true) by decide)] at H; exact H
   clear H; have H := H1; clear H1
   replace H := ub H; obtain ⟨t788, A29, H⟩ := H
   obtain rfl := Option.some.inj H
   have hnb30 := NB783_784.out
   have hnc30 := NB784_783.out
   have hcz31_0 : wc.cell? ⟨gb783, 0, none⟩ = some (.bool false) := (blk_cell BK783.out 0).trans rfl; have hcz31_1 : wc.cell? ⟨gb783, 1, none⟩ = some (.slice A0_1 l0_1.length c0_1) := (blk_cell BK783.out 1).trans rfl; have hfz31_0 := blk_frozen BK783.out 0; have hfz31_1 := blk_frozen BK783.out 1; have hcz32_0 : wc.cell? ⟨gb784, 0, none⟩ = some (.bool a1_0) := (blk_cell BK784.out 0).trans rfl; have hcz32_1 : wc.cell? ⟨gb784, 1, none⟩ = some (.slice A1_1 l1_1.length c1_1) := (blk_cell BK784.out 1).trans rfl; have hfz32_0 := blk_frozen BK784.out 0; have hfz32_1 := blk_frozen BK784.out 1
   go_wp2_with (first | ((with_reducible refine gate_callee (f := 72) rfl ?_); refine goesL_ (some 35) rfl rfl Try.func72 (by kernel_rfl) rfl #[.slice A0_1 l0_1.length c0_1, .slice A1_1 l1_1.length c1_1] rfl uM ?_; (with_reducible refine (windbreakref01_Cmp.calls kj4 _ _ l0_1 _ _ l1_1 t788 _ ?side1 ?side2 ?side3 ?side4 A29.out).mono ?_); (case side1 => exact uC (Kd.C_below HR0_1.out HB.out)); (case side2 => exact HC0_1.out); (case side3 => exact uC (Kd.C_below HR1_1.out HB.out)); (case side4 => exact HC1_1.out); rintro e w33 ⟨rfl, hb⟩; refine ⟨_, rfl, ?_⟩; replace BK783 := ux BK783 hb; replace BK784 := ux BK784 hb; replace HB := uy hb; (try clear hb)))
   go_ret
   exact ⟨uF, uB⟩
end Go.Proofs.Ytgeanpnkllnipab.F
end
section
namespace Go.Proofs.Ytgeanpnkllnipab.F
open Go.RowKit Go.Proofs.YtgeanpnkllnipabW.PrintWords Go.Proofs.YtgeanpnkllnipabW.PrintLast Go.Proofs.YtgeanpnkllnipabW.PrintMore
attribute [local go_sem] max2_int min2_int max_two min_two max_three min_three max_four min_four
set_option linter.unusedVariables false
set_option linter.unusedSimpArgs false
mutual
def windbreakref01_Out.l0 : Nat → List Int → List Int → Int → Option (List Int × Bool)
 | 0, _, _, _ => none
 | k + 1, x0, x4, x5 => if x5 < (x0.length : Int) then (windbreakref01_Out.l1 k x0 x4 x5 0 3) else (some (x4, decide ((x4.length : Int) ≤ 64)))
def windbreakref01_Out.l1 : Nat → List Int → List Int → Int → Int → Int → Option (List Int × Bool)
 | 0, _, _, _, _, _ => none
 | k + 1, x0, x4, x5, x6, x7 => if x7 ≥ 0 then (if (wrap64 (x5 + x7)) < (x0.length : Int) then (if 0 ≤ (wrap64 (x5 + x7)) then (windbreakref01_Out.l1 k x0 x4 x5 (IntKind.u64.wrap ((IntKind.u64.wrap (x6 * 65536)) + (rd x0 (wrap64 (x5 + x7))))) (wrap64 (x7 - 1))) else (none)) else (windbreakref01_Out.l1 k x0 x4 x5 (IntKind.u64.wrap (x6 * 65536)) (wrap64 (x7 - 1)))) else (if x4.length < 17592186044416 then (windbreakref01_Out.l0 k x0 (x4 ++ [x6]) (wrap64 (x5 + 4))) else (none))
end
def windbreakref01_Out.f (k : Nat) (l0 : List Int) : Option (List Int × Bool) := windbreakref01_Out.l0 k l0 ([] : List Int) 0
set_option maxHeartbeats 8000000 in
set_option maxRecDepth 100000 in
theorem windbreakref01_Out.calls (k : Nat) (A0 : Option Addr) (c0 : Nat) (l0 : List Int) (r1 : List Int) (r2 : Bool) (w : World) (hr0 : Kd.C (Kd.int .u64) w A0 l0.length l0) (hc0 : l0.length ≤ c0) (h : windbreakref01_Out.f k l0 = some (r1, r2)) :
  Calls Try.prog 97 #[.slice A0 l0.length c0] w fun e w' => ∃ v0_ : Value, e = .returned (.tuple #[v0_, .bool r2]) ∧ Kd.R (Kd.int .u64) 27 w' w.heap.size (fun _ => True) v0_ r1 ∧ Below w.heap.size w w' := by
 have HR0 := Aside0.mk hr0; have HC0 := Aside0.mk hc0; clear hr0 hc0
 have HB := Aside0.mk (Below.refl w.heap.size w)
 have H : (windbreakref01_Out.l0 k l0 ([] : List Int) 0) = some (r1, r2) := h
 clear h
 have H' := Aside0.mk H
 clear H
 go_enter Try.func97, Try.ntmps97
 go_wp2
 go_loopg [4, 5] k (fun kq v4 v5 w' => ∃ (x4_1 : List Int) (x5_1 : Int), v5 = .int .i64 x5_1 ∧ Aside0 (windbreakref01_Out.l0 kq l0 x4_1 x5_1 = some (r1, r2)) ∧ Aside0 (kq ≤ k) ∧ Aside0 (Kd.R (Kd.int .u64) 27 w' w.heap.size (fun _ => True) v4 x4_1) ∧ Aside0 (Below w.heap.size w w'))
 case atStart => exact ⟨(([] : List Int)), (0), uG, H', ⟨Nat.le_refl _⟩, ⟨uI⟩, ⟨uB⟩⟩
 case round =>
  clear H'
  obtain ⟨x4_1, x5_1, rfl, HA, HK1, HO_4, HB⟩ := hrel
  cases gk with
  | zero => exact absurd HA.out (by simp [windbreakref01_Out.l0])
  | succ k1 =>
   have H := HA.out
   clear HA
   simp only [windbreakref01_Out.l0] at H
   by_cases c2 : x5_1 < (l0.length : Int)
   ·
    rw [if_pos c2] at H
    have c2b0 : decide (x5_1 < (l0.length : Int)) = true := decide_eq_true c2
    clear c2
    have H' := Aside0.mk H
    clear H
    go_wp2
    go_loopg [6, 7] k1 (fun kq v6 v7 w' => ∃ (x6_2 : Int) (x7_2 : Int), v6 = .int .u64 x6_2 ∧ v7 = .int .i64 x7_2 ∧ Aside0 (windbreakref01_Out.l1 kq l0 x4_1 x5_1 x6_2 x7_2 = some (r1, r2)) ∧ Aside0 (kq ≤ k1) ∧ Aside0 (Kd.R (Kd.int .u64) 27 w' w.heap.size (fun _ => True) u4 x4_1) ∧ Aside0 (Below w.heap.size w w'))
    case atStart => exact ⟨(0), (3), uG, uG, H', ⟨Nat.le_refl _⟩, ⟨uR HO_4.out⟩, ⟨uB⟩⟩
    case round =>
     clear H'
     (try clear c2); (try clear c2b0); (try clear p2)
     obtain ⟨x6_2, x7_2, rfl, rfl, HA, HK2, HO_4, HB⟩ := hrel
     cases gk with
     | zero => exact absurd HA.out (by simp [windbreakref01_Out.l1])
     | succ k2 =>
      have H := HA.out
      clear HA
      simp only [windbreakref01_Out.l1] at H
      by_cases c3 : x7_2 ≥ 0
      ·
       rw [if_pos c3] at H
       have c3b0 : decide (0 ≤ x7_2) = true := decide_eq_true c3
       clear c3
       by_cases c4 : (wrap64 (x5_1 + x7_2)) < (l0.length : Int)
       ·
        rw [if_pos c4] at H
        have c4b0 : decide ((wrap64 (x5_1 + x7_2)) < (l0.length : Int)) = true := decide_eq_true c4
        clear c4
        obtain ⟨ji5, hji5⟩ : ∃ j_ : Int, (wrap64 (x5_1 + x7_2)) = j_ := ⟨_, rfl⟩
        first | rw [hji5] at H | simp only [hji5] at H
        (try rw [hji5] at c4b0)
        have hji5w : (IntKind.i64.wrap (x5_1 + x7_2)) = ji5 := (i64_w _).trans hji5
        replace H := uT H; obtain ⟨c6, H⟩ := H
        have c6b0 : decide (0 ≤ (ji5)) = true := decide_eq_true c6
        clear c6
        have H' := Aside0.mk H
        clear H
        have p345 : 0 ≤ ((ji5) : Int) := uO
        have q345 : (ji5) < (l0.length : Int) := uO
        obtain ⟨ad345, e345, hx345_0⟩ := Kd.at_int HR0.out (ji5) p345 q345
        cases e345
        replace hx345_0 := (HB.out.cell (World.block_lt_of_cell? w _ hx345_0)).trans hx345_0
        replace p345 := eq_true p345
        replace q345 := eq_true q345
        go_wp2
        first | go_roundg k2 | ((try simp only [← hji5] at H'); simp only [← hji5]; go_roundg k2)
        case measure => have := HK1.out; have := HK2.out; omega
        case rel => first | exact ⟨(IntKind.u64.wrap ((IntKind.u64.wrap (x6_2 * 65536)) + (rd l0 (ji5)))), (wrap64 (x7_2 - 1)), (by first | rfl | (simp; done) | (simp only [← hji5] <;> (first | rfl | simp)) | (simp [*]; done)), uG, H', ⟨by have := HK1.out; have := HK2.out; omega⟩, ⟨uR HO_4.out⟩, ⟨uB⟩⟩ | (simp only [← hji5] at H'; exact ⟨(IntKind.u64.wrap ((IntKind.u64.wrap (x6_2 * 65536)) + (rd l0 (ji5)))), (wrap64 (x7_2 - 1)), (by first | rfl | (simp; done) | (simp only [← hji5] <;> (first | rfl | simp)) | (simp [*]; done)), uG, H', ⟨by have := HK1.out; have := HK2.out; omega⟩, ⟨uR HO_4.out⟩, ⟨uB⟩⟩)
       rw [if_neg c4] at H
       have c4b0 : decide ((wrap64 (x5_1 + x7_2)) < (l0.length : Int)) = false := decide_eq_false c4
       clear c4
       have H' := Aside0.mk H
       clear H
       go_wp2
       first | go_roundg k2 | ((try simp only [← hji5] at H'); simp only [← hji5]; go_roundg k2)
       case measure => have := HK1.out; have := HK2.out; omega
       case rel => first | exact ⟨(IntKind.u64.wrap (x6_2 * 65536)), (wrap64 (x7_2 - 1)), uG, uG, H', ⟨by have := HK1.out; have := HK2.out; omega⟩, ⟨uR HO_4.out⟩, ⟨uB⟩⟩ | (simp only [← hji5] at H'; exact ⟨(IntKind.u64.wrap (x6_2 * 65536)), (wrap64 (x7_2 - 1)), uG, uG, H', ⟨by have := HK1.out; have := HK2.out; omega⟩, ⟨uR HO_4.out⟩, ⟨uB⟩⟩)
      rw [if_neg c3] at H
      have c3b0 : decide (0 ≤ x7_2) = false := decide_eq_false c3
      clear c3
      replace H := uT H; obtain ⟨c7, H⟩ := H
      have LMc7 := Aside0.mk c7; clear c7
      obtain ⟨y346, hy346⟩ : ∃ y_ : List Int, y_ = (x4_1 ++ [x6_2]) := ⟨_, rfl⟩
      replace H : (windbreakref01_Out.l0 k2 l0 y346 (wrap64 (x5_1 + 4))) = some (r1, r2) := by first | (rw [hy346]; with_reducible exact H) | (have H2_ := (Option.bind_some _ _).symm.trans H; rw [hy346]; with_reducible exact H2_) | (have H2_ := (Option.bind_some _ _).symm.trans H; with_reducible exact H2_) | with_reducible exact H | (rw [hy346]; exact H) | exact H
      have Ny346 := Aside0.mk hy346; clear hy346
      have H' := Aside0.mk H
      clear H
      go_wp2_with (first | ((with_reducible refine gate_builtin (b := .append) (xs := #[.tmp 34, .tmp 36]) rfl ?_); at_builtin; refine Kd.R_append (Kd.int .u64) (w0 := w) w.heap.size rfl (.tmp 34) (.tmp 36) 23 27 (.int .u64 0) 8 rfl Try.underlying23 info27 rfl (by decide) (by omega) u4 x4_1 x6_2 [.int .u64 x6_2] (fun _ => True) (fun _ => False) rfl rfl ?aP (fun _ hk => hk.elim) ?aF ?aO ?aB ?aS ?aL ?_; (case aP => exact rfl); (case aB => exact uB); (case aF => exact (fun _ _ => trivial)); (case aO => exact (uR HO_4.out)); (case aS => exact (below_size uB)); (case aL => have := LMc7.out; omega); intro v347 w8 ho hb hg hat; rw [← Ny346.out] at ho; replace HB := Aside0.mk (hb); have HO348 := Aside0.mk (ho); clear HO_4; clear ho hb hg hat))
      first | go_roundg k2 | ((try simp only [← hji5] at H'); simp only [← hji5]; go_roundg k2)
      case measure => have := HK1.out; have := HK2.out; omega
      case rel => first | exact ⟨(y346), (wrap64 (x5_1 + 4)), uG, H', ⟨by have := HK1.out; have := HK2.out; omega⟩, ⟨uR HO348.out⟩, ⟨uB⟩⟩ | (simp only [← hji5] at H'; exact ⟨(y346), (wrap64 (x5_1 + 4)), uG, H', ⟨by have := HK1.out; have := HK2.out; omega⟩, ⟨uR HO348.out⟩, ⟨uB⟩⟩)
   rw [if_neg c2] at H
   have c2b0 : decide (x5_1 < (l0.length : Int)) = false := decide_eq_false c2
   clear c2
   simp only [Option.some.injEq, Prod.mk.injEq] at H
   obtain ⟨rfl, rfl⟩ := H
   obtain ⟨Ao9, co9, eo9⟩ := Kd.R_slice HO_4.out
   subst eo9
   go_wp2
   go_ret2
   exact ⟨_, uF, uR HO_4.out, uB⟩
end Go.Proofs.Ytgeanpnkllnipab.F
end
section
namespace Go.Proofs.Ytgeanpnkllnipab.F
open Go.RowKit Go.Proofs.YtgeanpnkllnipabW.PrintWords Go.Proofs.YtgeanpnkllnipabW.PrintLast Go.Proofs.YtgeanpnkllnipabW.PrintMore
attribute [local go_sem] max2_int min2_int max_two min_two max_three min_three max_four min_four
set_option linter.unusedVariables false
set_option linter.unusedSimpArgs false
def windbreakref01_told.f (k : Nat) (l0 : List Int) : Option (List Int × Int) := (windbreakref01_Out.f k l0).bind fun bt349 => (if bt349.2 = true then (some (bt349.1, 0)) else (some (([] : List Int), 4)))
set_option maxHeartbeats 8000000 in
set_option maxRecDepth 100000 in
theorem windbreakref01_told.calls (k : Nat) (A0 : Option Addr) (c0 : Nat) (l0 : List Int) (r1 : List Int) (r2 : Int) (w : World) (hr0 : Kd.C (Kd.int .u64) w A0 l0.length l0) (hc0 : l0.length ≤ c0) (h : windbreakref01_told.f k l0 = some (r1, r2)) :
  Calls Try.prog 52 #[.slice A0 l0.length c0] w fun e w' => ∃ v0_ : Value, e = .returned (.tuple #[v0_, .int .i64 r2]) ∧ Kd.R (Kd.int .u64) 27 w' w.heap.size (fun _ => True) v0_ r1 ∧ Below w.heap.size w w' := by
 have HR0 := Aside0.mk hr0; have HC0 := Aside0.mk hc0; clear hr0 hc0
 have HB := Aside0.mk (Below.refl w.heap.size w)
 have H : ((windbreakref01_Out.f k l0).bind fun bt349 => (if bt349.2 = true then (some (bt349.1, 0)) else (some (([] : List Int), 4)))) = some (r1, r2) := h
 clear h
 replace H := ub H; obtain ⟨⟨t349, t350⟩, A2, H⟩ := H
 (try dsimp only at H)
 by_cases c3 : t350 = true
 ·
  subst c3
  have H1 : (some (t349, 0)) = some (r1, r2) := by rw [if_pos rfl] at H; exact H
  clear H; have H := H1; clear H1
  simp only [Option.some.injEq, Prod.mk.injEq] at H
  obtain ⟨rfl, rfl⟩ := H
  go_enter Try.func52, Try.ntmps52
  go_wp2_with (first | ((with_reducible refine gate_callee (f := 97) rfl ?_); refine goesL_ (some 8) rfl rfl Try.func97 (by kernel_rfl) rfl #[.slice A0 l0.length c0] rfl uM ?_; (with_reducible refine (windbreakref01_Out.calls k _ _ l0 t349 true _ ?side1 ?side2 A2.out).mono ?_); (case side1 => exact uC HR0.out); (case side2 => exact HC0.out); rintro e w4 ⟨v351, rfl, ho0, hb⟩; refine ⟨_, rfl, ?_⟩; have HO352 := Aside0.mk (Kd.R_lower ho0 (below_size uB)); replace HB := uy hb; (try clear hb ho0)))
  go_ret2
  exact ⟨_, uF, uR HO352.out, uB⟩
 replace c3 := Bool.eq_false_iff.mpr c3
 subst c3
 have H1 : (some (([] : List Int), 4)) = some (r1, r2) := by rw [if_neg (show ¬ (false = true) by decide)] at H; exact H
 clear H; have H := H1; clear H1
 simp only [Option.some.injEq, Prod.mk.injEq] at H
 obtain ⟨rfl, rfl⟩ := H
 go_enter Try.func52, Try.ntmps52
 go_wp2_with (first | ((with_reducible refine gate_callee (f := 97) rfl ?_); refine goesL_ (some 8) rfl rfl Try.func97 (by kernel_rfl) rfl #[.slice A0 l0.length c0] rfl uM ?_; (with_reducible refine (windbreakref01_Out.calls k _ _ l0 t349 false _ ?side1 ?side2 A2.out).mono ?_); (case side1 => exact uC HR0.out); (case side2 => exact HC0.out); rintro e w5 ⟨v351, rfl, ho0, hb⟩; refine ⟨_, rfl, ?_⟩; have HO352 := Aside0.mk (Kd.R_lower ho0 (below_size uB)); replace HB := uy hb; (try clear hb ho0)))
 go_ret2
 exact ⟨_, uF, uI, uB⟩
def windbreakref01_Sub.j0 : Nat → List Int → List Int → Bool → Option (List Int × Int)
 | 0, _, _, _ => none
 | k + 1, x0, x1, x19 => if x19 = true then (some (([] : List Int), 1)) else ((windbreakref01_In.f k x0).bind fun t839 => ((windbreakref01_In.f k x1).bind fun t842 => ((windbreakref01_compare.f k t839 t842).bind fun t845 => (if t845 < 0 then (some (([] : List Int), 2)) else ((windbreakref01_sub.f k t839 t842).bind fun t846 => ((windbreakref01_told.f k t846).bind fun bt849 => (some (bt849.1, bt849.2))))))))
def windbreakref01_Sub.f (k : Nat) (l0 : List Int) (l1 : List Int) : Option (List Int × Int) := (windbreakref01_Right.f l0).bind fun t837 => ((windbreakref01_Right.f l1).bind fun t838 => (if t837 = true then (windbreakref01_Sub.j0 k l0 l1 (!t838)) else (windbreakref01_Sub.j0 k l0 l1 true)))
set_option maxHeartbeats 8000000 in
set_option maxRecDepth 100000 in
theorem windbreakref01_Sub.calls (k : Nat) (A0 : Option Addr) (c0 : Nat) (l0 : List Int) (A1 : Option Addr) (c1 : Nat) (l1 : List Int) (r1 : List Int) (r2 : Int) (w : World) (hr0 : Kd.C (Kd.int .u64) w A0 l0.length l0) (hc0 : l0.length ≤ c0) (hr1 : Kd.C (Kd.int .u64) w A1 l1.length l1) (hc1 : l1.length ≤ c1) (h : windbreakref01_Sub.f k l0 l1 = some (r1, r2)) :
  Calls Try.prog 105 #[.slice A0 l0.length c0, .slice A1 l1.length c1] w fun e w' => ∃ v0_ : Value, e = .returned (.tuple #[v0_, .int .i64 r2]) ∧ Kd.R (Kd.int .u64) 27 w' w.heap.size (fun _ => True) v0_ r1 ∧ Below w.heap.size w w' := by
 have HR0 := Aside0.mk hr0; have HC0 := Aside0.mk hc0; clear hr0 hc0; have HR1 := Aside0.mk hr1; have HC1 := Aside0.mk hc1; clear hr1 hc1
 have HB := Aside0.mk (Below.refl w.heap.size w)
 have H : ((windbreakref01_Right.f l0).bind fun t837 => ((windbreakref01_Right.f l1).bind fun t838 => (if t837 = true then (windbreakref01_Sub.j0 k l0 l1 (!t838)) else (windbreakref01_Sub.j0 k l0 l1 true)))) = some (r1, r2) := h
 clear h
 replace H := ub H; obtain ⟨t837, A3, H⟩ := H
 replace H := ub H; obtain ⟨t838, A4, H⟩ := H
 have HC5 := Aside0.mk H; clear H
 go_enter Try.func105, Try.ntmps105
 go_upto_region 3 with (first | ((with_reducible refine gate_callee (f := 50) rfl ?_); refine goesL_ (some 11) rfl rfl Try.func50 (by kernel_rfl) rfl #[.slice A0 l0.length c0] rfl uM ?_; (with_reducible refine (windbreakref01_Right.calls _ _ l0 t837 _ ?side1 ?side2 A3.out).mono ?_); (case side1 => exact uC HR0.out); (case side2 => exact HC0.out); rintro e w' ⟨rfl, ⟨nd, rfl⟩⟩; refine ⟨_, rfl, ?_⟩) | ((with_reducible refine gate_callee (f := 50) rfl ?_); refine goesL_ (some 13) rfl rfl Try.func50 (by kernel_rfl) rfl #[.slice A1 l1.length c1] rfl uM ?_; (with_reducible refine (windbreakref01_Right.calls _ _ l1 t838 _ ?side1 ?side2 A4.out).mono ?_); (case side1 => exact uC HR1.out); (case side2 => exact HC1.out); rintro e w' ⟨rfl, ⟨nd, rfl⟩⟩; refine ⟨_, rfl, ?_⟩))
 (try simp only [Act.put, List.setIfInBounds_toArray, List.set_cons_zero, List.set_cons_succ])
 go_cut [19] (fun v19 wc => ∃ (kq : Nat) (x19_4 : Bool), v19 = .bool x19_4 ∧ Aside0 (windbreakref01_Sub.j0 kq l0 l1 x19_4 = some (r1, r2)) ∧ Aside0 (kq ≤ k) ∧ Aside0 (Below w.heap.size w wc))
 case first =>
  have H := HC5.out
  clear HC5
  by_cases c6 : t837 = true
  ·
   subst c6
   have H1 : (windbreakref01_Sub.j0 k l0 l1 (!t838)) = some (r1, r2) := by rw [if_pos rfl] at H; exact H
   clear H; have H := H1; clear H1
   have H' := Aside0.mk H
   clear H
   go_wp2
   go_meet
   case rel => exact ⟨_, (!t838), uG, H', ⟨uW⟩, ⟨uB⟩⟩
  replace c6 := Bool.eq_false_iff.mpr c6
  subst c6
  have H1 : (windbreakref01_Sub.j0 k l0 l1 true) = some (r1, r2) := by rw [if_neg (show ¬ (false = true) by decide)] at H; exact H
  clear H; have H := H1; clear H1
  have H' := Aside0.mk H
  clear H
  go_wp2
  go_meet
  case rel => exact ⟨_, (true), uG, H', ⟨uW⟩, ⟨uB⟩⟩
 case rest =>
  clear HC5; (try clear c1); (try clear p2); (try clear c5); (try clear c6)
  obtain ⟨kq, x19_4, rfl, HA, HJ4, HB⟩ := hcut
  cases kq with
  | zero => exact absurd HA.out (by simp [windbreakref01_Sub.j0])
  | succ kj4 =>
   have H := HA.out
   clear HA
   simp only [windbreakref01_Sub.j0] at H
   by_cases c7 : x19_4 = true
   ·
    subst c7
    have H1 : (some (([] : List Int), 1)) = some (r1, r2) := by rw [if_pos rfl] at H; exact H
    clear H; have H := H1; clear H1
    simp only [Option.some.injEq, Prod.mk.injEq] at H
    obtain ⟨rfl, rfl⟩ := H
    go_wp2
    go_ret2
    exact ⟨_, uF, uI, uB⟩
   replace c7 := Bool.eq_false_iff.mpr c7
   subst c7
   have H1 : ((windbreakref01_In.f kj4 l0).bind fun t839 => ((windbreakref01_In.f kj4 l1).bind fun t842 => ((windbreakref01_compare.f kj4 t839 t842).bind fun t845 => (if t845 < 0 then (some (([] : List Int), 2)) else ((windbreakref01_sub.f kj4 t839 t842).bind fun t846 => ((windbreakref01_told.f kj4 t846).bind fun bt849 => (some (bt849.1, bt849.2)))))))) = some (r1, r2) := by rw [if_neg (show ¬ (false = true) by decide)] at H; exact H
   clear H; have H := H1; clear H1
   replace H := ub H; obtain ⟨t839, A8, H⟩ := H
   replace H := ub H; obtain ⟨t842, A9, H⟩ := H
   replace H := ub H; obtain ⟨t845, A10, H⟩ := H
   by_cases c11 : t845 < 0
   ·
    rw [if_pos c11] at H
    have c11b0 : decide (t845 < 0) = true := decide_eq_true c11
    clear c11
    simp only [Option.some.injEq, Prod.mk.injEq] at H
    obtain ⟨rfl, rfl⟩ := H
    go_wp2_with (first | ((with_reducible refine gate_callee (f := 54) rfl ?_); refine goesL_ (some 21) rfl rfl Try.func54 (by kernel_rfl) rfl #[.slice A0 l0.length c0] rfl uM ?_; (with_reducible refine (windbreakref01_In.calls kj4 _ _ l0 t839 _ ?side1 ?side2 A8.out).mono ?_); (case side1 => exact uC (Kd.C_below HR0.out HB.out)); (case side2 => exact HC0.out); rintro e w12 ⟨v840, rfl, ho0, hb⟩; refine ⟨_, rfl, ?_⟩; have HO841 := Aside0.mk (Kd.R_lower ho0 (below_size uB)); replace HB := uy hb; (try clear hb ho0)) | ((with_reducible refine gate_callee (f := 54) rfl ?_); refine goesL_ (some 23) rfl rfl Try.func54 (by kernel_rfl) rfl #[.slice A1 l1.length c1] rfl uM ?_; (with_reducible refine (windbreakref01_In.calls kj4 _ _ l1 t842 _ ?side1 ?side2 A9.out).mono ?_); (case side1 => exact uC (Kd.C_below HR1.out HB.out)); (case side2 => exact HC1.out); rintro e w13 ⟨v843, rfl, ho0, hb⟩; refine ⟨_, rfl, ?_⟩; have HO844 := Aside0.mk (Kd.R_lower (Kd.R_new' ho0 (Kd.R_lt (uR HO841.out))) (below_size uB)); replace HO841 := ueR HO841 ho0 hb; replace HB := uy hb; (try clear hb ho0); obtain ⟨Ao14, co14, eo14⟩ := Kd.R_slice HO841.out; subst eo14; obtain ⟨Ao15, co15, eo15⟩ := Kd.R_slice HO844.out; subst eo15) | ((with_reducible refine gate_callee (f := 110) rfl ?_); refine goesL_ (some 26) rfl rfl Try.func110 (by kernel_rfl) rfl #[.slice Ao14 t839.length co14, .slice Ao15 t842.length co15] rfl uM ?_; (with_reducible refine (windbreakref01_compare.calls kj4 _ _ t839 _ _ t842 t845 _ ?side1 ?side2 ?side3 ?side4 A10.out).mono ?_); (case side1 => exact uC (Kd.R_reads' HO841.out).2.2); (case side2 => exact (Kd.R_reads' HO841.out).2.1); (case side3 => exact uC (Kd.R_reads' HO844.out).2.2); (case side4 => exact (Kd.R_reads' HO844.out).2.1); rintro e w' ⟨rfl, ⟨nd, rfl⟩⟩; refine ⟨_, rfl, ?_⟩))
    go_ret2
    exact ⟨_, uF, uI, uB⟩
   rw [if_neg c11] at H
   have c11b0 : decide (t845 < 0) = false := decide_eq_false c11
   clear c11
   replace H := ub H; obtain ⟨t846, A16, H⟩ := H
   replace H := ub H; obtain ⟨⟨t849, t850⟩, A17, H⟩ := H
   (try dsimp only at H)
   simp only [Option.some.injEq, Prod.mk.injEq] at H
   obtain ⟨rfl, rfl⟩ := H
   go_wp2_with (first | ((with_reducible refine gate_callee (f := 54) rfl ?_); refine goesL_ (some 21) rfl rfl Try.func54 (by kernel_rfl) rfl #[.slice A0 l0.length c0] rfl uM ?_; (with_reducible refine (windbreakref01_In.calls kj4 _ _ l0 t839 _ ?side1 ?side2 A8.out).mono ?_); (case side1 => exact uC (Kd.C_below HR0.out HB.out)); (case side2 => exact HC0.out); rintro e w18 ⟨v840, rfl, ho0, hb⟩; refine ⟨_, rfl, ?_⟩; have HO841 := Aside0.mk (Kd.R_lower ho0 (below_size uB)); replace HB := uy hb; (try clear hb ho0)) | ((with_reducible refine gate_callee (f := 54) rfl ?_); refine goesL_ (some 23) rfl rfl Try.func54 (by kernel_rfl) rfl #[.slice A1 l1.length c1] rfl uM ?_; (with_reducible refine (windbreakref01_In.calls kj4 _ _ l1 t842 _ ?side1 ?side2 A9.out).mono ?_); (case side1 => exact uC (Kd.C_below HR1.out HB.out)); (case side2 => exact HC1.out); rintro e w19 ⟨v843, rfl, ho0, hb⟩; refine ⟨_, rfl, ?_⟩; have HO844 := Aside0.mk (Kd.R_lower (Kd.R_new' ho0 (Kd.R_lt (uR HO841.out))) (below_size uB)); replace HO841 := ueR HO841 ho0 hb; replace HB := uy hb; (try clear hb ho0); obtain ⟨Ao20, co20, eo20⟩ := Kd.R_slice HO841.out; subst eo20; obtain ⟨Ao21, co21, eo21⟩ := Kd.R_slice HO844.out; subst eo21) | ((with_reducible refine gate_callee (f := 110) rfl ?_); refine goesL_ (some 26) rfl rfl Try.func110 (by kernel_rfl) rfl #[.slice Ao20 t839.length co20, .slice Ao21 t842.length co21] rfl uM ?_; (with_reducible refine (windbreakref01_compare.calls kj4 _ _ t839 _ _ t842 t845 _ ?side1 ?side2 ?side3 ?side4 A10.out).mono ?_); (case side1 => exact uC (Kd.R_reads' HO841.out).2.2); (case side2 => exact (Kd.R_reads' HO841.out).2.1); (case side3 => exact uC (Kd.R_reads' HO844.out).2.2); (case side4 => exact (Kd.R_reads' HO844.out).2.1); rintro e w' ⟨rfl, ⟨nd, rfl⟩⟩; refine ⟨_, rfl, ?_⟩) | ((with_reducible refine gate_callee (f := 126) rfl ?_); refine goesL_ (some 30) rfl rfl Try.func126 (by kernel_rfl) rfl #[.slice Ao20 t839.length co20, .slice Ao21 t842.length co21] rfl uM ?_; (with_reducible refine (windbreakref01_sub.calls kj4 _ _ t839 _ _ t842 t846 _ ?side1 ?side2 ?side3 ?side4 A16.out).mono ?_); (case side1 => exact uC (Kd.R_reads' HO841.out).2.2); (case side2 => exact (Kd.R_reads' HO841.out).2.1); (case side3 => exact uC (Kd.R_reads' HO844.out).2.2); (case side4 => exact (Kd.R_reads' HO844.out).2.1); rintro e w22 ⟨v847, rfl, ho0, hb⟩; refine ⟨_, rfl, ?_⟩; have HO848 := Aside0.mk (Kd.R_lower (Kd.R_new' (Kd.R_new' ho0 (Kd.R_lt (uR HO841.out))) (Kd.R_lt (uR HO844.out))) (below_size uB)); replace HO841 := ueR HO841 ho0 hb; replace HO844 := ueR HO844 ho0 hb; replace HB := uy hb; (try clear hb ho0); obtain ⟨Ao23, co23, eo23⟩ := Kd.R_slice HO848.out; subst eo23) | ((with_reducible refine gate_callee (f := 52) rfl ?_); refine goesL_ (some 31) rfl rfl Try.func52 (by kernel_rfl) rfl #[.slice Ao23 t846.length co23] rfl uM ?_; (with_reducible refine (windbreakref01_told.calls kj4 _ _ t846 t849 t850 _ ?side1 ?side2 A17.out).mono ?_); (case side1 => exact uC (Kd.R_reads' HO848.out).2.2); (case side2 => exact (Kd.R_reads' HO848.out).2.1); rintro e w24 ⟨v851, rfl, ho0, hb⟩; refine ⟨_, rfl, ?_⟩; have HO852 := Aside0.mk (Kd.R_lower (Kd.R_new' (Kd.R_new' (Kd.R_new' ho0 (Kd.R_lt (uR HO841.out))) (Kd.R_lt (uR HO844.out))) (Kd.R_lt (uR HO848.out))) (below_size uB)); replace HO841 := ueR HO841 ho0 hb; replace HO844 := ueR HO844 ho0 hb; replace HO848 := ueR HO848 ho0 hb; replace HB := uy hb; (try clear hb ho0)))
   go_ret2
   exact ⟨_, uF, by (with_reducible repeat (first | apply Kd.R_alloc | apply Kd.R_drewN | apply Kd.R_drew)); exact Kd.R_mono HO852.out (fun _ hk => trivial), uB⟩
end Go.Proofs.Ytgeanpnkllnipab.F
end
section
namespace Go.Proofs.Ytgeanpnkllnipab.F
open Go.RowKit Go.Proofs.YtgeanpnkllnipabW.PrintWords Go.Proofs.YtgeanpnkllnipabW.PrintLast Go.Proofs.YtgeanpnkllnipabW.PrintMore
attribute [local go_sem] max2_int min2_int max_two min_two max_three min_three max_four min_four
set_option linter.unusedVariables false
set_option linter.unusedSimpArgs false
mutual
def windbreakref01_mul.l0 : Nat → List Int → List Int → List Int → Int → Option (List Int)
 | 0, _, _, _, _ => none
 | k + 1, x0, x1, x5, x6 => if x6 < (x0.length : Int) then (windbreakref01_mul.l1 k x0 x1 x5 x6 0 0) else ((windbreakref01_cut.f k x5).bind fun t389 => (some t389))
def windbreakref01_mul.l1 : Nat → List Int → List Int → List Int → Int → Int → Int → Option (List Int)
 | 0, _, _, _, _, _, _ => none
 | k + 1, x0, x1, x5, x6, x7, x8 => if x8 < (x1.length : Int) then (if 0 ≤ (wrap64 (x6 + x8)) then (if (wrap64 (x6 + x8)) < (x5.length : Int) then (if 0 ≤ x6 then (if x6 < (x0.length : Int) then (if 0 ≤ x8 then (windbreakref01_mul.l1 k x0 x1 (x5.set ((wrap64 (x6 + x8)) : Int).toNat (Int.tmod (IntKind.u64.wrap ((IntKind.u64.wrap ((rd x5 (wrap64 (x6 + x8))) + (IntKind.u64.wrap ((rd x0 x6) * (rd x1 x8))))) + x7)) 65536)) x6 (IntKind.u64.wrap (Int.tdiv (IntKind.u64.wrap ((IntKind.u64.wrap ((rd x5 (wrap64 (x6 + x8))) + (IntKind.u64.wrap ((rd x0 x6) * (rd x1 x8))))) + x7)) 65536)) (wrap64 (x8 + 1))) else (none)) else (none)) else (none)) else (none)) else (none)) else (if 0 ≤ (wrap64 (x6 + (x1.length : Int))) then (if (wrap64 (x6 + (x1.length : Int))) < (x5.length : Int) then (windbreakref01_mul.l0 k x0 x1 (x5.set ((wrap64 (x6 + (x1.length : Int))) : Int).toNat x7) (wrap64 (x6 + 1))) else (none)) else (none))
end
def windbreakref01_mul.f (k : Nat) (l0 : List Int) (l1 : List Int) : Option (List Int) := if 0 ≤ (wrap64 ((l0.length : Int) + (l1.length : Int))) then (if (wrap64 ((l0.length : Int) + (l1.length : Int)) : Int).toNat ≤ 35184372088832 then (windbreakref01_mul.l0 k l0 l1 (List.replicate (wrap64 ((l0.length : Int) + (l1.length : Int)) : Int).toNat 0) 0) else (none)) else (none)
set_option maxHeartbeats 8000000 in
set_option maxRecDepth 100000 in
theorem windbreakref01_mul.calls (k : Nat) (A0 : Option Addr) (c0 : Nat) (l0 : List Int) (A1 : Option Addr) (c1 : Nat) (l1 : List Int) (r : List Int) (w : World) (hr0 : Kd.C (Kd.int .u64) w A0 l0.length l0) (hc0 : l0.length ≤ c0) (hr1 : Kd.C (Kd.int .u64) w A1 l1.length l1) (hc1 : l1.length ≤ c1) (h : windbreakref01_mul.f k l0 l1 = some r) :
  Calls Try.prog 91 #[.slice A0 l0.length c0, .slice A1 l1.length c1] w fun e w' => ∃ v0_ : Value, e = .returned (v0_) ∧ Kd.R (Kd.int .u64) 27 w' w.heap.size (fun _ => True) v0_ r ∧ Below w.heap.size w w' := by
 have HR0 := Aside0.mk hr0; have HC0 := Aside0.mk hc0; clear hr0 hc0; have HR1 := Aside0.mk hr1; have HC1 := Aside0.mk hc1; clear hr1 hc1
 have HB := Aside0.mk (Below.refl w.heap.size w)
 have H : (if 0 ≤ (wrap64 ((l0.length : Int) + (l1.length : Int))) then (if (wrap64 ((l0.length : Int) + (l1.length : Int)) : Int).toNat ≤ 35184372088832 then (windbreakref01_mul.l0 k l0 l1 (List.replicate (wrap64 ((l0.length : Int) + (l1.length : Int)) : Int).toNat 0) 0) else (none)) else (none)) = some r := h
 clear h
 obtain ⟨ji3, hji3⟩ : ∃ j_ : Int, (wrap64 ((l0.length : Int) + (l1.length : Int))) = j_ := ⟨_, rfl⟩
 first | rw [hji3] at H | simp only [hji3] at H
 have hji3w : (IntKind.i64.wrap ((l0.length : Int) + (l1.length : Int))) = ji3 := (i64_w _).trans hji3
 replace H := uT H; obtain ⟨c4, H⟩ := H
 have c4b0 := eq_true c4
 have c4b1 : decide (0 ≤ (ji3)) = true := decide_eq_true c4
 clear c4
 replace H := uT H; obtain ⟨c5, H⟩ := H
 have c5b0 := eq_true c5
 have c5b1 : decide ((ji3 : Int).toNat ≤ 35184372088832) = true := decide_eq_true c5
 clear c5
 obtain ⟨y386, hy386⟩ : ∃ y_ : List Int, y_ = (List.replicate (ji3 : Int).toNat 0) := ⟨_, rfl⟩
 replace H : (windbreakref01_mul.l0 k l0 l1 y386 0) = some r := by first | (rw [hy386]; with_reducible exact H) | (have H2_ := (Option.bind_some _ _).symm.trans H; rw [hy386]; with_reducible exact H2_) | (have H2_ := (Option.bind_some _ _).symm.trans H; with_reducible exact H2_) | with_reducible exact H | (rw [hy386]; exact H) | exact H
 have Ny386 := Aside0.mk hy386; clear hy386
 have H' := Aside0.mk H
 clear H
 go_enter Try.func91, Try.ntmps91
 go_wp2_with (first | ((with_reducible refine gate_dst (N := 15) rfl ?_); refine Kd.R_make (Kd.int .u64) _ 27 rfl (N := 15) rfl 70 _ _ rfl ji3 rfl rfl Try.underlying70 (.int .u64 0) 8 info27 rfl (by decide) (by omega) 0 (ok := fun _ => True) (okp := fun _ => True) rfl (fun _ hk => hk) trivial uO (Nat.le_trans (Nat.mul_le_mul_right _ (uO : ji3.toNat ≤ 35184372088832)) (by omega)) (Below.refl _ _) (Nat.le_refl _) ?_; intro v387 w6 ho7 hb hg_ hnew_; clear hg_ hnew_; (first | rw [← Ny386.out] at ho7 | (simp only [Int.reduceToNat] at ho7; rw [← Ny386.out] at ho7)); have HO388 := Aside0.mk (Kd.R_lower ho7 (below_size uB)); replace HB := uy hb; clear hb ho7))
 repeat (go_quiet (first | ((with_reducible refine gate_dst (N := 15) rfl ?_); refine Kd.R_make (Kd.int .u64) _ 27 rfl (N := 15) rfl 70 _ _ rfl ji3 rfl rfl Try.underlying70 (.int .u64 0) 8 info27 rfl (by decide) (by omega) 0 (ok := fun _ => True) (okp := fun _ => True) rfl (fun _ hk => hk) trivial uO (Nat.le_trans (Nat.mul_le_mul_right _ (uO : ji3.toNat ≤ 35184372088832)) (by omega)) (Below.refl _ _) (Nat.le_refl _) ?_; intro v387 w6 ho7 hb hg_ hnew_; clear hg_ hnew_; (first | rw [← Ny386.out] at ho7 | (simp only [Int.reduceToNat] at ho7; rw [← Ny386.out] at ho7)); have HO388 := Aside0.mk (Kd.R_lower ho7 (below_size uB)); replace HB := uy hb; clear hb ho7)); try go_wp2_with (first | ((with_reducible refine gate_dst (N := 15) rfl ?_); refine Kd.R_make (Kd.int .u64) _ 27 rfl (N := 15) rfl 70 _ _ rfl ji3 rfl rfl Try.underlying70 (.int .u64 0) 8 info27 rfl (by decide) (by omega) 0 (ok := fun _ => True) (okp := fun _ => True) rfl (fun _ hk => hk) trivial uO (Nat.le_trans (Nat.mul_le_mul_right _ (uO : ji3.toNat ≤ 35184372088832)) (by omega)) (Below.refl _ _) (Nat.le_refl _) ?_; intro v387 w6 ho7 hb hg_ hnew_; clear hg_ hnew_; (first | rw [← Ny386.out] at ho7 | (simp only [Int.reduceToNat] at ho7; rw [← Ny386.out] at ho7)); have HO388 := Aside0.mk (Kd.R_lower ho7 (below_size uB)); replace HB := uy hb; clear hb ho7)))
 go_loopg [6] k (fun kq v6 w' => ∃ (x5_1 : List Int) (x6_1 : Int), v6 = .int .i64 x6_1 ∧ Aside0 (windbreakref01_mul.l0 kq l0 l1 x5_1 x6_1 = some r) ∧ Aside0 (kq ≤ k) ∧ Aside0 (Kd.R (Kd.int .u64) 27 w' w.heap.size (fun _ => True) v387 x5_1) ∧ Aside0 (Below w.heap.size w w'))
 case atStart => exact ⟨(y386), (0), uG, H', ⟨Nat.le_refl _⟩, ⟨uR HO388.out⟩, ⟨uB⟩⟩
 case round =>
  clear H'
  (try clear c1); (try clear p2); (try clear c4); (try clear c4b0); (try clear c4b1); (try clear c5); (try clear c5b0); (try clear c5b1); (try clear p6)
  obtain ⟨x5_1, x6_1, rfl, HA, HK1, HO_5, HB⟩ := hrel
  cases gk with
  | zero => exact absurd HA.out (by simp [windbreakref01_mul.l0])
  | succ k1 =>
   have H := HA.out
   clear HA
   simp only [windbreakref01_mul.l0] at H
   by_cases c8 : x6_1 < (l0.length : Int)
   ·
    rw [if_pos c8] at H
    have c8b0 : decide (x6_1 < (l0.length : Int)) = true := decide_eq_true c8
    clear c8
    have H' := Aside0.mk H
    clear H
    go_wp2
    repeat (go_quiet (fail); try go_wp2)
    go_loopg [7, 8] k1 (fun kq v7 v8 w' => ∃ (x5_2 : List Int) (x7_2 : Int) (x8_2 : Int), v7 = .int .u64 x7_2 ∧ v8 = .int .i64 x8_2 ∧ Aside0 (windbreakref01_mul.l1 kq l0 l1 x5_2 x6_1 x7_2 x8_2 = some r) ∧ Aside0 (kq ≤ k1) ∧ Aside0 (Kd.R (Kd.int .u64) 27 w' w.heap.size (fun _ => True) v387 x5_2) ∧ Aside0 (Below w.heap.size w w'))
    case atStart => exact ⟨(x5_1), (0), (0), uG, uG, H', ⟨Nat.le_refl _⟩, ⟨uR HO_5.out⟩, ⟨uB⟩⟩
    case round =>
     clear H'
     (try clear c1); (try clear p2); (try clear c4); (try clear c4b0); (try clear c4b1); (try clear c5); (try clear c5b0); (try clear c5b1); (try clear p6); (try clear c8); (try clear c8b0); (try clear p2); (try clear p6)
     obtain ⟨x5_2, x7_2, x8_2, rfl, rfl, HA, HK2, HO_5, HB⟩ := hrel
     cases gk with
     | zero => exact absurd HA.out (by simp [windbreakref01_mul.l1])
     | succ k2 =>
      have H := HA.out
      clear HA
      simp only [windbreakref01_mul.l1] at H
      by_cases c9 : x8_2 < (l1.length : Int)
      ·
       rw [if_pos c9] at H
       have c9b0 : decide (x8_2 < (l1.length : Int)) = true := decide_eq_true c9
       clear c9
       obtain ⟨ji10, hji10⟩ : ∃ j_ : Int, (wrap64 (x6_1 + x8_2)) = j_ := ⟨_, rfl⟩
       first | rw [hji10] at H | simp only [hji10] at H
       have hji10w : (IntKind.i64.wrap (x6_1 + x8_2)) = ji10 := (i64_w _).trans hji10
       replace H := uT H; obtain ⟨c11, H⟩ := H
       have c11b0 : decide (0 ≤ (ji10)) = true := decide_eq_true c11
       clear c11
       replace H := uT H; obtain ⟨c12, H⟩ := H
       have c12b0 : decide ((ji10) < (x5_2.length : Int)) = true := decide_eq_true c12
       clear c12
       replace H := uT H; obtain ⟨c13, H⟩ := H
       have c13b0 : decide (0 ≤ x6_1) = true := decide_eq_true c13
       clear c13
       replace H := uT H; obtain ⟨c14, H⟩ := H
       have c14b0 : decide (x6_1 < (l0.length : Int)) = true := decide_eq_true c14
       clear c14
       replace H := uT H; obtain ⟨c15, H⟩ := H
       have c15b0 : decide (0 ≤ x8_2) = true := decide_eq_true c15
       clear c15
       obtain ⟨y395, hy395⟩ : ∃ y_ : List Int, y_ = (x5_2.set ((ji10) : Int).toNat (Int.tmod (IntKind.u64.wrap ((IntKind.u64.wrap ((rd x5_2 (ji10)) + (IntKind.u64.wrap ((rd l0 x6_1) * (rd l1 x8_2))))) + x7_2)) 65536)) := ⟨_, rfl⟩
       replace H : (windbreakref01_mul.l1 k2 l0 l1 y395 x6_1 (IntKind.u64.wrap (Int.tdiv (IntKind.u64.wrap ((IntKind.u64.wrap ((rd x5_2 (ji10)) + (IntKind.u64.wrap ((rd l0 x6_1) * (rd l1 x8_2))))) + x7_2)) 65536)) (wrap64 (x8_2 + 1))) = some r := by first | (rw [hy395]; with_reducible exact H) | (have H2_ := (Option.bind_some _ _).symm.trans H; rw [hy395]; with_reducible exact H2_) | (have H2_ := (Option.bind_some _ _).symm.trans H; with_reducible exact H2_) | with_reducible exact H | (rw [hy395]; exact H) | exact H
       have Ny395 := Aside0.mk hy395; clear hy395
       have H' := Aside0.mk H
       clear H
       obtain ⟨Ao17, co17, eo17⟩ := Kd.R_slice HO_5.out
       subst eo17
       have p392 : 0 ≤ ((ji10) : Int) := uO
       have q392 : (ji10) < (x5_2.length : Int) := uO
       obtain ⟨ad392, e392, hx392_0⟩ := Kd.at_int (Kd.R_reads' HO_5.out).2.2 (ji10) p392 q392
       cases e392
       replace p392 := eq_true p392
       replace q392 := eq_true q392
       have p393 : 0 ≤ (x6_1 : Int) := uO
       have q393 : x6_1 < (l0.length : Int) := uO
       obtain ⟨ad393, e393, hx393_0⟩ := Kd.at_int HR0.out x6_1 p393 q393
       cases e393
       replace hx393_0 := (HB.out.cell (World.block_lt_of_cell? w _ hx393_0)).trans hx393_0
       replace p393 := eq_true p393
       replace q393 := eq_true q393
       have p394 : 0 ≤ (x8_2 : Int) := uO
       have q394 : x8_2 < (l1.length : Int) := uO
       obtain ⟨ad394, e394, hx394_0⟩ := Kd.at_int HR1.out x8_2 p394 q394
       cases e394
       replace hx394_0 := (HB.out.cell (World.block_lt_of_cell? w _ hx394_0)).trans hx394_0
       replace p394 := eq_true p394
       replace q394 := eq_true q394
       have p16 : 0 ≤ ((ji10) : Int) := uO
       have q16 : ((ji10) : Int) < ((x5_2.length : Int) : Int) := uO
       obtain ⟨go16, co16, eo16, gb16, gl16, cl16, HG16⟩ := Kd.R_form HO_5.out (by omega)
       (first | cases eo16 | (injection eo16 with ea_ en_ ec_; (first | subst ea_ | (injection ea_ with ea_; subst ea_)); subst ec_; clear en_))
       have GB16 := Aside0.mk gb16; have GG16 := Aside0.mk HG16; clear gb16 gl16 HG16
       (first | simp only [add_plain] at hx392_0 | skip)
       obtain ⟨hx16_0, hf16_0⟩ := Kd.R_celln 0 HO_5.out ((ji10) : Int) p16 q16
       replace p16 := eq_true p16
       replace q16 := eq_true q16
       have HP18 := Kd.R_putg HO_5.out ((ji10) : Int) (Int.tmod (IntKind.u64.wrap ((IntKind.u64.wrap ((rd x5_2 (ji10)) + (IntKind.u64.wrap ((rd l0 x6_1) * (rd l1 x8_2))))) + x7_2)) 65536)
       go_wp2_with (first | ((with_reducible refine gate_store (t := 27) (p := 52) rfl ?_); (try (rw [drewN_self wr]; generalize hq_ : World.drewN wr _ = wr; replace HO_5 := Aside0.mk (Kd.R_at hq_ HO_5.out); replace HB := Aside0.mk (below_at hq_ HB.out); clear hq_; (try (have HP18 := Kd.R_putg HO_5.out ((ji10) : Int) (Int.tmod (IntKind.u64.wrap ((IntKind.u64.wrap ((rd x5_2 (ji10)) + (IntKind.u64.wrap ((rd l0 x6_1) * (rd l1 x8_2))))) + x7_2)) 65536))))); refine store_event (t := 27) (p := 52) (v := ?vo_w19) (w1 := (wr.setCell ⟨go16, ((ji10) : Int).toNat, none⟩ (.int .u64 (Int.tmod (IntKind.u64.wrap ((IntKind.u64.wrap ((rd x5_2 (ji10)) + (IntKind.u64.wrap ((rd l0 x6_1) * (rd l1 x8_2))))) + x7_2)) 65536)))) ?hg ?ho ?hn ?hr ?_; (case ho => rfl); (case hg => rfl); (case hn => rfl); (case hr => first | (go_simp; done) | (go_simp; rfl) | (obtain ⟨hy_, hz_⟩ := Kd.R_celln 0 HO_5.out ((ji10) : Int) uO uO; (try simp only [Go.IntWalk.toNatUp] at hy_ hz_); (try simp only [Int.reduceToNat, Int.toNat_zero, Int.toNat_ofNat] at hy_ hz_); first | (go_simp; done) | (go_simp; rfl))); intro w19 hw; have hg : wr.grownBy w19 (some go16) := (by rw [hw]; exact HP18.2); have hp_ : Kd.R (Kd.int .u64) 27 w19 w.heap.size (fun _ => True) (.slice (some ⟨go16, 0, none⟩) x5_2.length co17) y395 := (by rw [hw, Ny395.out]; exact HP18.1); clear HP18; replace HO_5 := Aside0.mk (hp_); replace HB := Aside0.mk ((by rw [hw]; exact below_set (HB.out) GB16.out : Below w.heap.size w w19)); clear hg hw hp_))
       repeat (go_quiet (first | ((with_reducible refine gate_store (t := 27) (p := 52) rfl ?_); (try (rw [drewN_self wr]; generalize hq_ : World.drewN wr _ = wr; replace HO_5 := Aside0.mk (Kd.R_at hq_ HO_5.out); replace HB := Aside0.mk (below_at hq_ HB.out); clear hq_; (try (have HP18 := Kd.R_putg HO_5.out ((ji10) : Int) (Int.tmod (IntKind.u64.wrap ((IntKind.u64.wrap ((rd x5_2 (ji10)) + (IntKind.u64.wrap ((rd l0 x6_1) * (rd l1 x8_2))))) + x7_2)) 65536))))); refine store_event (t := 27) (p := 52) (v := ?vo_w19) (w1 := (wr.setCell ⟨go16, ((ji10) : Int).toNat, none⟩ (.int .u64 (Int.tmod (IntKind.u64.wrap ((IntKind.u64.wrap ((rd x5_2 (ji10)) + (IntKind.u64.wrap ((rd l0 x6_1) * (rd l1 x8_2))))) + x7_2)) 65536)))) ?hg ?ho ?hn ?hr ?_; (case ho => rfl); (case hg => rfl); (case hn => rfl); (case hr => first | (go_simp; done) | (go_simp; rfl) | (obtain ⟨hy_, hz_⟩ := Kd.R_celln 0 HO_5.out ((ji10) : Int) uO uO; (try simp only [Go.IntWalk.toNatUp] at hy_ hz_); (try simp only [Int.reduceToNat, Int.toNat_zero, Int.toNat_ofNat] at hy_ hz_); first | (go_simp; done) | (go_simp; rfl))); intro w19 hw; have hg : wr.grownBy w19 (some go16) := (by rw [hw]; exact HP18.2); have hp_ : Kd.R (Kd.int .u64) 27 w19 w.heap.size (fun _ => True) (.slice (some ⟨go16, 0, none⟩) x5_2.length co17) y395 := (by rw [hw, Ny395.out]; exact HP18.1); clear HP18; replace HO_5 := Aside0.mk (hp_); replace HB := Aside0.mk ((by rw [hw]; exact below_set (HB.out) GB16.out : Below w.heap.size w w19)); clear hg hw hp_)); try go_wp2_with (first | ((with_reducible refine gate_store (t := 27) (p := 52) rfl ?_); (try (rw [drewN_self wr]; generalize hq_ : World.drewN wr _ = wr; replace HO_5 := Aside0.mk (Kd.R_at hq_ HO_5.out); replace HB := Aside0.mk (below_at hq_ HB.out); clear hq_; (try (have HP18 := Kd.R_putg HO_5.out ((ji10) : Int) (Int.tmod (IntKind.u64.wrap ((IntKind.u64.wrap ((rd x5_2 (ji10)) + (IntKind.u64.wrap ((rd l0 x6_1) * (rd l1 x8_2))))) + x7_2)) 65536))))); refine store_event (t := 27) (p := 52) (v := ?vo_w19) (w1 := (wr.setCell ⟨go16, ((ji10) : Int).toNat, none⟩ (.int .u64 (Int.tmod (IntKind.u64.wrap ((IntKind.u64.wrap ((rd x5_2 (ji10)) + (IntKind.u64.wrap ((rd l0 x6_1) * (rd l1 x8_2))))) + x7_2)) 65536)))) ?hg ?ho ?hn ?hr ?_; (case ho => rfl); (case hg => rfl); (case hn => rfl); (case hr => first | (go_simp; done) | (go_simp; rfl) | (obtain ⟨hy_, hz_⟩ := Kd.R_celln 0 HO_5.out ((ji10) : Int) uO uO; (try simp only [Go.IntWalk.toNatUp] at hy_ hz_); (try simp only [Int.reduceToNat, Int.toNat_zero, Int.toNat_ofNat] at hy_ hz_); first | (go_simp; done) | (go_simp; rfl))); intro w19 hw; have hg : wr.grownBy w19 (some go16) := (by rw [hw]; exact HP18.2); have hp_ : Kd.R (Kd.int .u64) 27 w19 w.heap.size (fun _ => True) (.slice (some ⟨go16, 0, none⟩) x5_2.length co17) y395 := (by rw [hw, Ny395.out]; exact HP18.1); clear HP18; replace HO_5 := Aside0.mk (hp_); replace HB := Aside0.mk ((by rw [hw]; exact below_set (HB.out) GB16.out : Below w.heap.size w w19)); clear hg hw hp_)))
       first | go_roundg k2 | ((try simp only [← hji10] at H'); simp only [← hji10]; go_roundg k2) | ((try simp only [← hji3] at H'); simp only [← hji3]; go_roundg k2)
       case measure => have := HK1.out; have := HK2.out; omega
       case rel => first | exact ⟨(y395), (IntKind.u64.wrap (Int.tdiv (IntKind.u64.wrap ((IntKind.u64.wrap ((rd x5_2 (ji10)) + (IntKind.u64.wrap ((rd l0 x6_1) * (rd l1 x8_2))))) + x7_2)) 65536)), (wrap64 (x8_2 + 1)), (by first | rfl | (simp; done) | (simp only [← hji10] <;> (first | rfl | simp)) | (simp [*]; done)), uG, H', ⟨by have := HK1.out; have := HK2.out; omega⟩, ⟨uR HO_5.out⟩, ⟨uB⟩⟩ | (simp only [← hji10] at H'; exact ⟨(y395), (IntKind.u64.wrap (Int.tdiv (IntKind.u64.wrap ((IntKind.u64.wrap ((rd x5_2 (ji10)) + (IntKind.u64.wrap ((rd l0 x6_1) * (rd l1 x8_2))))) + x7_2)) 65536)), (wrap64 (x8_2 + 1)), (by first | rfl | (simp; done) | (simp only [← hji10] <;> (first | rfl | simp)) | (simp [*]; done)), uG, H', ⟨by have := HK1.out; have := HK2.out; omega⟩, ⟨uR HO_5.out⟩, ⟨uB⟩⟩) | (simp only [← hji3] at H'; exact ⟨(y395), (IntKind.u64.wrap (Int.tdiv (IntKind.u64.wrap ((IntKind.u64.wrap ((rd x5_2 (ji10)) + (IntKind.u64.wrap ((rd l0 x6_1) * (rd l1 x8_2))))) + x7_2)) 65536)), (wrap64 (x8_2 + 1)), (by first | rfl | (simp; done) | (simp only [← hji10] <;> (first | rfl | simp)) | (simp [*]; done)), uG, H', ⟨by have := HK1.out; have := HK2.out; omega⟩, ⟨uR HO_5.out⟩, ⟨uB⟩⟩)
      rw [if_neg c9] at H
      have c9b0 : decide (x8_2 < (l1.length : Int)) = false := decide_eq_false c9
      clear c9
      obtain ⟨ji20, hji20⟩ : ∃ j_ : Int, (wrap64 (x6_1 + (l1.length : Int))) = j_ := ⟨_, rfl⟩
      first | rw [hji20] at H | simp only [hji20] at H
      have hji20w : (IntKind.i64.wrap (x6_1 + (l1.length : Int))) = ji20 := (i64_w _).trans hji20
      replace H := uT H; obtain ⟨c21, H⟩ := H
      have c21b0 : decide (0 ≤ (ji20)) = true := decide_eq_true c21
      clear c21
      replace H := uT H; obtain ⟨c22, H⟩ := H
      have c22b0 : decide ((ji20) < (x5_2.length : Int)) = true := decide_eq_true c22
      clear c22
      obtain ⟨y396, hy396⟩ : ∃ y_ : List Int, y_ = (x5_2.set ((ji20) : Int).toNat x7_2) := ⟨_, rfl⟩
      replace H : (windbreakref01_mul.l0 k2 l0 l1 y396 (wrap64 (x6_1 + 1))) = some r := by first | (rw [hy396]; with_reducible exact H) | (have H2_ := (Option.bind_some _ _).symm.trans H; rw [hy396]; with_reducible exact H2_) | (have H2_ := (Option.bind_some _ _).symm.trans H; with_reducible exact H2_) | with_reducible exact H | (rw [hy396]; exact H) | exact H
      have Ny396 := Aside0.mk hy396; clear hy396
      have H' := Aside0.mk H
      clear H
      have p23 : 0 ≤ ((ji20) : Int) := uO
      have q23 : ((ji20) : Int) < ((x5_2.length : Int) : Int) := uO
      obtain ⟨go23, co23, eo23, gb23, gl23, cl23, HG23⟩ := Kd.R_form HO_5.out (by omega)
      (first | cases eo23 | (injection eo23 with ea_ en_ ec_; (first | subst ea_ | (injection ea_ with ea_; subst ea_)); subst ec_; clear en_))
      have GB23 := Aside0.mk gb23; have GG23 := Aside0.mk HG23; clear gb23 gl23 HG23
      obtain ⟨hx23_0, hf23_0⟩ := Kd.R_celln 0 HO_5.out ((ji20) : Int) p23 q23
      replace p23 := eq_true p23
      replace q23 := eq_true q23
      have HP24 := Kd.R_putg HO_5.out ((ji20) : Int) x7_2
      go_wp2_with (first | ((with_reducible refine gate_store (t := 27) (p := 61) rfl ?_); (try (rw [drewN_self wr]; generalize hq_ : World.drewN wr _ = wr; replace HO_5 := Aside0.mk (Kd.R_at hq_ HO_5.out); replace HB := Aside0.mk (below_at hq_ HB.out); clear hq_; (try (have HP24 := Kd.R_putg HO_5.out ((ji20) : Int) x7_2)))); refine store_event (t := 27) (p := 61) (v := ?vo_w25) (w1 := (wr.setCell ⟨go23, ((ji20) : Int).toNat, none⟩ (.int .u64 x7_2))) ?hg ?ho ?hn ?hr ?_; (case ho => rfl); (case hg => rfl); (case hn => rfl); (case hr => first | (go_simp; done) | (go_simp; rfl) | (obtain ⟨hy_, hz_⟩ := Kd.R_celln 0 HO_5.out ((ji20) : Int) uO uO; (try simp only [Go.IntWalk.toNatUp] at hy_ hz_); (try simp only [Int.reduceToNat, Int.toNat_zero, Int.toNat_ofNat] at hy_ hz_); first | (go_simp; done) | (go_simp; rfl))); intro w25 hw; have hg : wr.grownBy w25 (some go23) := (by rw [hw]; exact HP24.2); have hp_ : Kd.R (Kd.int .u64) 27 w25 w.heap.size (fun _ => True) (.slice (some ⟨go23, 0, none⟩) x5_2.length co23) y396 := (by rw [hw, Ny396.out]; exact HP24.1); clear HP24; replace HO_5 := Aside0.mk (hp_); replace HB := Aside0.mk ((by rw [hw]; exact below_set (HB.out) GB23.out : Below w.heap.size w w25)); clear hg hw hp_))
      repeat (go_quiet (first | ((with_reducible refine gate_store (t := 27) (p := 61) rfl ?_); (try (rw [drewN_self wr]; generalize hq_ : World.drewN wr _ = wr; replace HO_5 := Aside0.mk (Kd.R_at hq_ HO_5.out); replace HB := Aside0.mk (below_at hq_ HB.out); clear hq_; (try (have HP24 := Kd.R_putg HO_5.out ((ji20) : Int) x7_2)))); refine store_event (t := 27) (p := 61) (v := ?vo_w25) (w1 := (wr.setCell ⟨go23, ((ji20) : Int).toNat, none⟩ (.int .u64 x7_2))) ?hg ?ho ?hn ?hr ?_; (case ho => rfl); (case hg => rfl); (case hn => rfl); (case hr => first | (go_simp; done) | (go_simp; rfl) | (obtain ⟨hy_, hz_⟩ := Kd.R_celln 0 HO_5.out ((ji20) : Int) uO uO; (try simp only [Go.IntWalk.toNatUp] at hy_ hz_); (try simp only [Int.reduceToNat, Int.toNat_zero, Int.toNat_ofNat] at hy_ hz_); first | (go_simp; done) | (go_simp; rfl))); intro w25 hw; have hg : wr.grownBy w25 (some go23) := (by rw [hw]; exact HP24.2); have hp_ : Kd.R (Kd.int .u64) 27 w25 w.heap.size (fun _ => True) (.slice (some ⟨go23, 0, none⟩) x5_2.length co23) y396 := (by rw [hw, Ny396.out]; exact HP24.1); clear HP24; replace HO_5 := Aside0.mk (hp_); replace HB := Aside0.mk ((by rw [hw]; exact below_set (HB.out) GB23.out : Below w.heap.size w w25)); clear hg hw hp_)); try go_wp2_with (first | ((with_reducible refine gate_store (t := 27) (p := 61) rfl ?_); (try (rw [drewN_self wr]; generalize hq_ : World.drewN wr _ = wr; replace HO_5 := Aside0.mk (Kd.R_at hq_ HO_5.out); replace HB := Aside0.mk (below_at hq_ HB.out); clear hq_; (try (have HP24 := Kd.R_putg HO_5.out ((ji20) : Int) x7_2)))); refine store_event (t := 27) (p := 61) (v := ?vo_w25) (w1 := (wr.setCell ⟨go23, ((ji20) : Int).toNat, none⟩ (.int .u64 x7_2))) ?hg ?ho ?hn ?hr ?_; (case ho => rfl); (case hg => rfl); (case hn => rfl); (case hr => first | (go_simp; done) | (go_simp; rfl) | (obtain ⟨hy_, hz_⟩ := Kd.R_celln 0 HO_5.out ((ji20) : Int) uO uO; (try simp only [Go.IntWalk.toNatUp] at hy_ hz_); (try simp only [Int.reduceToNat, Int.toNat_zero, Int.toNat_ofNat] at hy_ hz_); first | (go_simp; done) | (go_simp; rfl))); intro w25 hw; have hg : wr.grownBy w25 (some go23) := (by rw [hw]; exact HP24.2); have hp_ : Kd.R (Kd.int .u64) 27 w25 w.heap.size (fun _ => True) (.slice (some ⟨go23, 0, none⟩) x5_2.length co23) y396 := (by rw [hw, Ny396.out]; exact HP24.1); clear HP24; replace HO_5 := Aside0.mk (hp_); replace HB := Aside0.mk ((by rw [hw]; exact below_set (HB.out) GB23.out : Below w.heap.size w w25)); clear hg hw hp_)))
      first | go_roundg k2 | ((try simp only [← hji20] at H'); simp only [← hji20]; go_roundg k2) | ((try simp only [← hji10] at H'); simp only [← hji10]; go_roundg k2) | ((try simp only [← hji3] at H'); simp only [← hji3]; go_roundg k2)
      case measure => have := HK1.out; have := HK2.out; omega
      case rel => first | exact ⟨(y396), (wrap64 (x6_1 + 1)), uG, H', ⟨by have := HK1.out; have := HK2.out; omega⟩, ⟨uR HO_5.out⟩, ⟨uB⟩⟩ | (simp only [← hji20] at H'; exact ⟨(y396), (wrap64 (x6_1 + 1)), uG, H', ⟨by have := HK1.out; have := HK2.out; omega⟩, ⟨uR HO_5.out⟩, ⟨uB⟩⟩) | (simp only [← hji10] at H'; exact ⟨(y396), (wrap64 (x6_1 + 1)), uG, H', ⟨by have := HK1.out; have := HK2.out; omega⟩, ⟨uR HO_5.out⟩, ⟨uB⟩⟩) | (simp only [← hji3] at H'; exact ⟨(y396), (wrap64 (x6_1 + 1)), uG, H', ⟨by have := HK1.out; have := HK2.out; omega⟩, ⟨uR HO_5.out⟩, ⟨uB⟩⟩)
   rw [if_neg c8] at H
   have c8b0 : decide (x6_1 < (l0.length : Int)) = false := decide_eq_false c8
   clear c8
   replace H := ub H; obtain ⟨t389, A26, H⟩ := H
   obtain rfl := Option.some.inj H
   obtain ⟨Ao27, co27, eo27⟩ := Kd.R_slice HO_5.out
   subst eo27
   go_wp2_with (first | (go_at_call 99; (with_reducible refine (windbreakref01_cut.calls k1 (fun k_ => some k_ = (.slice Ao27 x5_1.length co27 : Value).ownBlock) (.slice Ao27 x5_1.length co27) x5_1 t389 w _ ?side1 ?side2 A26.out).mono ?_); (case side1 => repeat (first | (with_reducible first | exact HB.out | apply below_alloc | apply pw_below_drewN | apply below_drew1) | exact HB.out)); (case side2 => exact Kd.R_tight rfl HO_5.out); rintro e w28 ⟨v390, rfl, ho0, hb, hkp⟩; have HO391 := Aside0.mk (Kd.R_mono (ok' := fun k_ => True) ho0 (fun k_ hk_ => trivial)); replace HB := Aside0.mk (hb); clear HO_5; (try clear hb); (try clear hkp); (try clear ho0)))
   repeat (go_quiet (first | (go_at_call 99; (with_reducible refine (windbreakref01_cut.calls k1 (fun k_ => some k_ = (.slice Ao27 x5_1.length co27 : Value).ownBlock) (.slice Ao27 x5_1.length co27) x5_1 t389 w _ ?side1 ?side2 A26.out).mono ?_); (case side1 => repeat (first | (with_reducible first | exact HB.out | apply below_alloc | apply pw_below_drewN | apply below_drew1) | exact HB.out)); (case side2 => exact Kd.R_tight rfl HO_5.out); rintro e w28 ⟨v390, rfl, ho0, hb, hkp⟩; have HO391 := Aside0.mk (Kd.R_mono (ok' := fun k_ => True) ho0 (fun k_ hk_ => trivial)); replace HB := Aside0.mk (hb); clear HO_5; (try clear hb); (try clear hkp); (try clear ho0))); try go_wp2_with (first | (go_at_call 99; (with_reducible refine (windbreakref01_cut.calls k1 (fun k_ => some k_ = (.slice Ao27 x5_1.length co27 : Value).ownBlock) (.slice Ao27 x5_1.length co27) x5_1 t389 w _ ?side1 ?side2 A26.out).mono ?_); (case side1 => repeat (first | (with_reducible first | exact HB.out | apply below_alloc | apply pw_below_drewN | apply below_drew1) | exact HB.out)); (case side2 => exact Kd.R_tight rfl HO_5.out); rintro e w28 ⟨v390, rfl, ho0, hb, hkp⟩; have HO391 := Aside0.mk (Kd.R_mono (ok' := fun k_ => True) ho0 (fun k_ hk_ => trivial)); replace HB := Aside0.mk (hb); clear HO_5; (try clear hb); (try clear hkp); (try clear ho0))))
   go_ret
   exact ⟨_, by first | rfl | (simp [errW_none, errW_some] <;> rfl) | (simp only [← hji3]; first | rfl | (simp [errW_none, errW_some] <;> rfl)) | (simp [*, errW_none, errW_some] <;> rfl), uR HO391.out, uB⟩
end Go.Proofs.Ytgeanpnkllnipab.F
end
section
namespace Go.Proofs.Ytgeanpnkllnipab.F
open Go.RowKit Go.Proofs.YtgeanpnkllnipabW.PrintWords Go.Proofs.YtgeanpnkllnipabW.PrintLast Go.Proofs.YtgeanpnkllnipabW.PrintMore
attribute [local go_sem] max2_int min2_int max_two min_two max_three min_three max_four min_four
set_option linter.unusedVariables false
set_option linter.unusedSimpArgs false
def windbreakref01_Shl.j0 : Nat → List Int → Int → Bool → Option (List Int × Int)
 | 0, _, _, _ => none
 | k + 1, x0, x1, x14 => if x14 = true then (some (([] : List Int), 1)) else (if (x0.length : Int) = 0 then (some (([] : List Int), 0)) else (if x1 > 4096 then (some (([] : List Int), 4)) else ((windbreakref01_In.f k x0).bind fun t535 => ((windbreakref01_power.f k x1).bind fun t538 => ((windbreakref01_mul.f k t535 t538).bind fun t541 => ((windbreakref01_told.f k t541).bind fun bt544 => (some (bt544.1, bt544.2))))))))
def windbreakref01_Shl.f (k : Nat) (l0 : List Int) (a1 : Int) : Option (List Int × Int) := (windbreakref01_Right.f l0).bind fun t534 => (if t534 = true then (windbreakref01_Shl.j0 k l0 a1 (decide (a1 < 0))) else (windbreakref01_Shl.j0 k l0 a1 true))
set_option maxHeartbeats 8000000 in
set_option maxRecDepth 100000 in
theorem windbreakref01_Shl.calls (k : Nat) (A0 : Option Addr) (c0 : Nat) (l0 : List Int) (a1 : Int) (r1 : List Int) (r2 : Int) (w : World) (hr0 : Kd.C (Kd.int .u64) w A0 l0.length l0) (hc0 : l0.length ≤ c0) (h : windbreakref01_Shl.f k l0 a1 = some (r1, r2)) :
  Calls Try.prog 44 #[.slice A0 l0.length c0, .int .i64 a1] w fun e w' => ∃ v0_ : Value, e = .returned (.tuple #[v0_, .int .i64 r2]) ∧ Kd.R (Kd.int .u64) 27 w' w.heap.size (fun _ => True) v0_ r1 ∧ Below w.heap.size w w' := by
 have HR0 := Aside0.mk hr0; have HC0 := Aside0.mk hc0; clear hr0 hc0
 have HB := Aside0.mk (Below.refl w.heap.size w)
 have H : ((windbreakref01_Right.f l0).bind fun t534 => (if t534 = true then (windbreakref01_Shl.j0 k l0 a1 (decide (a1 < 0))) else (windbreakref01_Shl.j0 k l0 a1 true))) = some (r1, r2) := h
 clear h
 replace H := ub H; obtain ⟨t534, A3, H⟩ := H
 have HC4 := Aside0.mk H; clear H
 go_enter Try.func44, Try.ntmps44
 go_upto_region 2 with (first | ((with_reducible refine gate_callee (f := 50) rfl ?_); refine goesL_ (some 8) rfl rfl Try.func50 (by kernel_rfl) rfl #[.slice A0 l0.length c0] rfl uM ?_; (with_reducible refine (windbreakref01_Right.calls _ _ l0 t534 _ ?side1 ?side2 A3.out).mono ?_); (case side1 => exact uC HR0.out); (case side2 => exact HC0.out); rintro e w' ⟨rfl, ⟨nd, rfl⟩⟩; refine ⟨_, rfl, ?_⟩))
 (try simp only [Act.put, List.setIfInBounds_toArray, List.set_cons_zero, List.set_cons_succ])
 go_cut [14] (fun v14 wc => ∃ (kq : Nat) (x14_3 : Bool), v14 = .bool x14_3 ∧ Aside0 (windbreakref01_Shl.j0 kq l0 a1 x14_3 = some (r1, r2)) ∧ Aside0 (kq ≤ k) ∧ Aside0 (Below w.heap.size w wc))
 case first =>
  have H := HC4.out
  clear HC4
  by_cases c5 : t534 = true
  ·
   subst c5
   have H1 : (windbreakref01_Shl.j0 k l0 a1 (decide (a1 < 0))) = some (r1, r2) := by rw [if_pos rfl] at H; exact H
   clear H; have H := H1; clear H1
   have H' := Aside0.mk H
   clear H
   go_wp2
   go_meet
   case rel => exact ⟨_, (decide (a1 < 0)), uG, H', ⟨uW⟩, ⟨uB⟩⟩
  replace c5 := Bool.eq_false_iff.mpr c5
  subst c5
  have H1 : (windbreakref01_Shl.j0 k l0 a1 true) = some (r1, r2) := by rw [if_neg (show ¬ (false = true) by decide)] at H; exact H
  clear H; have H := H1; clear H1
  have H' := Aside0.mk H
  clear H
  go_wp2
  go_meet
  case rel => exact ⟨_, (true), uG, H', ⟨uW⟩, ⟨uB⟩⟩
 case rest =>
  clear HC4; (try clear p2); (try clear c4); (try clear c5)
  obtain ⟨kq, x14_3, rfl, HA, HJ3, HB⟩ := hcut
  cases kq with
  | zero => exact absurd HA.out (by simp [windbreakref01_Shl.j0])
  | succ kj3 =>
   have H := HA.out
   clear HA
   simp only [windbreakref01_Shl.j0] at H
   by_cases c6 : x14_3 = true
   ·
    subst c6
    have H1 : (some (([] : List Int), 1)) = some (r1, r2) := by rw [if_pos rfl] at H; exact H
    clear H; have H := H1; clear H1
    simp only [Option.some.injEq, Prod.mk.injEq] at H
    obtain ⟨rfl, rfl⟩ := H
    go_wp2
    go_ret2
    exact ⟨_, uF, uI, uB⟩
   replace c6 := Bool.eq_false_iff.mpr c6
   subst c6
   have H1 : (if (l0.length : Int) = 0 then (some (([] : List Int), 0)) else (if a1 > 4096 then (some (([] : List Int), 4)) else ((windbreakref01_In.f kj3 l0).bind fun t535 => ((windbreakref01_power.f kj3 a1).bind fun t538 => ((windbreakref01_mul.f kj3 t535 t538).bind fun t541 => ((windbreakref01_told.f kj3 t541).bind fun bt544 => (some (bt544.1, bt544.2)))))))) = some (r1, r2) := by rw [if_neg (show ¬ (false = true) by decide)] at H; exact H
   clear H; have H := H1; clear H1
   by_cases c7 : (l0.length : Int) = 0
   ·
    rw [if_pos c7] at H
    have c7b0 : ((l0.length : Int) == 0) = true := beq_iff_eq.mpr c7
    have c7b1 : ((l0.length : Int) != 0) = false := bne_eq_false_iff_eq.mpr c7
    clear c7
    simp only [Option.some.injEq, Prod.mk.injEq] at H
    obtain ⟨rfl, rfl⟩ := H
    go_wp2
    go_ret2
    exact ⟨_, uF, uI, uB⟩
   rw [if_neg c7] at H
   have c7b0 : ((l0.length : Int) == 0) = false := beq_eq_false_iff_ne.mpr c7
   have c7b1 : ((l0.length : Int) != 0) = true := bne_iff_ne.mpr c7
   have c7b2 : ¬ (l0 = []) := fun h_ => c7 (by rw [h_]; rfl)
   by_cases c8 : a1 > 4096
   ·
    rw [if_pos c8] at H
    have c8b0 : decide (4096 < a1) = true := decide_eq_true c8
    clear c8
    simp only [Option.some.injEq, Prod.mk.injEq] at H
    obtain ⟨rfl, rfl⟩ := H
    go_wp2
    go_ret2
    exact ⟨_, uF, uI, uB⟩
   rw [if_neg c8] at H
   have c8b0 : decide (4096 < a1) = false := decide_eq_false c8
   clear c8
   replace H := ub H; obtain ⟨t535, A9, H⟩ := H
   replace H := ub H; obtain ⟨t538, A10, H⟩ := H
   replace H := ub H; obtain ⟨t541, A11, H⟩ := H
   replace H := ub H; obtain ⟨⟨t544, t545⟩, A12, H⟩ := H
   (try dsimp only at H)
   simp only [Option.some.injEq, Prod.mk.injEq] at H
   obtain ⟨rfl, rfl⟩ := H
   go_wp2_with (first | ((with_reducible refine gate_callee (f := 54) rfl ?_); refine goesL_ (some 21) rfl rfl Try.func54 (by kernel_rfl) rfl #[.slice A0 l0.length c0] rfl uM ?_; (with_reducible refine (windbreakref01_In.calls kj3 _ _ l0 t535 _ ?side1 ?side2 A9.out).mono ?_); (case side1 => exact uC (Kd.C_below HR0.out HB.out)); (case side2 => exact HC0.out); rintro e w13 ⟨v536, rfl, ho0, hb⟩; refine ⟨_, rfl, ?_⟩; have HO537 := Aside0.mk (Kd.R_lower ho0 (below_size uB)); replace HB := uy hb; (try clear hb ho0)) | ((with_reducible refine gate_callee (f := 92) rfl ?_); refine goesL_ (some 23) rfl rfl Try.func92 (by kernel_rfl) rfl #[.int .i64 a1] rfl uM ?_; (with_reducible refine (windbreakref01_power.calls kj3 a1 t538 _ A10.out).mono ?_); rintro e w14 ⟨v539, rfl, ho0, hb⟩; refine ⟨_, rfl, ?_⟩; have HO540 := Aside0.mk (Kd.R_lower (Kd.R_new' ho0 (Kd.R_lt (uR HO537.out))) (below_size uB)); replace HO537 := ueR HO537 ho0 hb; replace HB := uy hb; (try clear hb ho0); obtain ⟨Ao15, co15, eo15⟩ := Kd.R_slice HO537.out; subst eo15; obtain ⟨Ao16, co16, eo16⟩ := Kd.R_slice HO540.out; subst eo16) | ((with_reducible refine gate_callee (f := 91) rfl ?_); refine goesL_ (some 24) rfl rfl Try.func91 (by kernel_rfl) rfl #[.slice Ao15 t535.length co15, .slice Ao16 t538.length co16] rfl uM ?_; (with_reducible refine (windbreakref01_mul.calls kj3 _ _ t535 _ _ t538 t541 _ ?side1 ?side2 ?side3 ?side4 A11.out).mono ?_); (case side1 => exact uC (Kd.R_reads' HO537.out).2.2); (case side2 => exact (Kd.R_reads' HO537.out).2.1); (case side3 => exact uC (Kd.R_reads' HO540.out).2.2); (case side4 => exact (Kd.R_reads' HO540.out).2.1); rintro e w17 ⟨v542, rfl, ho0, hb⟩; refine ⟨_, rfl, ?_⟩; have HO543 := Aside0.mk (Kd.R_lower (Kd.R_new' (Kd.R_new' ho0 (Kd.R_lt (uR HO537.out))) (Kd.R_lt (uR HO540.out))) (below_size uB)); replace HO537 := ueR HO537 ho0 hb; replace HO540 := ueR HO540 ho0 hb; replace HB := uy hb; (try clear hb ho0); obtain ⟨Ao18, co18, eo18⟩ := Kd.R_slice HO543.out; subst eo18) | ((with_reducible refine gate_callee (f := 52) rfl ?_); refine goesL_ (some 25) rfl rfl Try.func52 (by kernel_rfl) rfl #[.slice Ao18 t541.length co18] rfl uM ?_; (with_reducible refine (windbreakref01_told.calls kj3 _ _ t541 t544 t545 _ ?side1 ?side2 A12.out).mono ?_); (case side1 => exact uC (Kd.R_reads' HO543.out).2.2); (case side2 => exact (Kd.R_reads' HO543.out).2.1); rintro e w19 ⟨v546, rfl, ho0, hb⟩; refine ⟨_, rfl, ?_⟩; have HO547 := Aside0.mk (Kd.R_lower (Kd.R_new' (Kd.R_new' (Kd.R_new' ho0 (Kd.R_lt (uR HO537.out))) (Kd.R_lt (uR HO540.out))) (Kd.R_lt (uR HO543.out))) (below_size uB)); replace HO537 := ueR HO537 ho0 hb; replace HO540 := ueR HO540 ho0 hb; replace HO543 := ueR HO543 ho0 hb; replace HB := uy hb; (try clear hb ho0)))
   go_ret2
   exact ⟨_, uF, by (with_reducible repeat (first | apply Kd.R_alloc | apply Kd.R_drewN | apply Kd.R_drew)); exact Kd.R_mono HO547.out (fun _ hk => trivial), uB⟩
def windbreakref07_power.f (k : Nat) (a0 : Int) : Option (Bool × List Int) := (windbreakref01_Of.f 1).bind fun t813 => ((windbreakref01_Shl.f k t813 a0).bind fun bt816 => ((windbreakref03_From.f false bt816.1).bind fun bt820 => (some (bt820.1, bt820.2))))
set_option maxHeartbeats 8000000 in
set_option maxRecDepth 100000 in
theorem windbreakref07_power.calls (k : Nat) (a0 : Int) (r1 : Bool) (r2 : List Int) (w : World) (h : windbreakref07_power.f k a0 = some (r1, r2)) :
  Calls Try.prog 62 #[.int .i64 a0] w fun e w' => ∃ v1_ : Value, e = .returned (.agg #[.bool r1, v1_]) ∧ Kd.R (Kd.int .u64) 27 w' w.heap.size (fun _ => True) v1_ r2 ∧ Below w.heap.size w w' := by
 have hu52 := Try.underlying52
 have HB := Aside0.mk (Below.refl w.heap.size w)
 have H : ((windbreakref01_Of.f 1).bind fun t813 => ((windbreakref01_Shl.f k t813 a0).bind fun bt816 => ((windbreakref03_From.f false bt816.1).bind fun bt820 => (some (bt820.1, bt820.2))))) = some (r1, r2) := h
 clear h
 replace H := ub H; obtain ⟨t813, A2, H⟩ := H
 replace H := ub H; obtain ⟨⟨t816, t817⟩, A3, H⟩ := H
 (try dsimp only at H)
 replace H := ub H; obtain ⟨⟨t820, t821⟩, A4, H⟩ := H
 (try dsimp only at H)
 simp only [Option.some.injEq, Prod.mk.injEq] at H
 obtain ⟨rfl, rfl⟩ := H
 go_enter Try.func62, Try.ntmps62
 go_wp2_with (first | ((with_reducible refine gate_dst (N := 2) rfl ?_); refine box_event ?hg (N := 2) ?hd (cs := #[.bool false, .slice none 0 0]) (t := 52) ?hr ?_; (case hd => rfl); (case hg => rfl); (case hr => first | (go_simp; done) | (go_simp; rfl)); intro gb812 hg w5 hbox hb; have BK812 := Aside0.mk (hbox); have GW812 := us hg; have GE812 := us hg; replace HB := uy hb; clear hb hbox hg) | ((with_reducible refine gate_callee (f := 94) rfl ?_); refine goesL_ (some 6) rfl rfl Try.func94 (by kernel_rfl) rfl #[.int .u64 1] rfl uM ?_; (with_reducible refine (windbreakref01_Of.calls 1 t813 _ A2.out).mono ?_); rintro e w6 ⟨v814, rfl, ho0, hb⟩; refine ⟨_, rfl, ?_⟩; have HO815 := Aside0.mk (Kd.R_lower ho0 (below_size uB)); replace BK812 := ux BK812 hb; replace HB := uy hb; (try clear hb ho0); obtain ⟨Ao7, co7, eo7⟩ := Kd.R_slice HO815.out; subst eo7) | ((with_reducible refine gate_callee (f := 44) rfl ?_); refine goesL_ (some 8) rfl rfl Try.func44 (by kernel_rfl) rfl #[.slice Ao7 t813.length co7, .int .i64 a0] rfl uM ?_; (with_reducible refine (windbreakref01_Shl.calls k _ _ t813 a0 t816 t817 _ ?side1 ?side2 A3.out).mono ?_); (case side1 => exact uC (Kd.R_reads' HO815.out).2.2); (case side2 => exact (Kd.R_reads' HO815.out).2.1); rintro e w8 ⟨v818, rfl, ho0, hb⟩; refine ⟨_, rfl, ?_⟩; have HO819 := Aside0.mk (Kd.R_lower (Kd.R_new' ho0 (Kd.R_lt (uR HO815.out))) (below_size uB)); replace HO815 := ueR HO815 ho0 hb; replace BK812 := ux BK812 hb; replace HB := uy hb; (try clear hb ho0); obtain ⟨Ao9, co9, eo9⟩ := Kd.R_slice HO819.out; subst eo9) | ((with_reducible refine gate_callee (f := 104) rfl ?_); refine goesL_ (some 12) rfl rfl Try.func104 (by kernel_rfl) rfl #[.bool false, .slice Ao9 t816.length co9] rfl uM ?_; (with_reducible refine (windbreakref03_From.calls false _ _ t816 t820 t821 _ ?side1 ?side2 A4.out).mono ?_); (case side1 => exact uC (Kd.R_reads' HO819.out).2.2); (case side2 => exact (Kd.R_reads' HO819.out).2.1); rintro e w10 ⟨v822, rfl, ho0, hb⟩; refine ⟨_, rfl, ?_⟩; have HO823 := Aside0.mk (Kd.R_lower (Kd.R_new' (Kd.R_new' ho0 (Kd.R_lt (uR HO815.out))) (Kd.R_lt (uR HO819.out))) (below_size uB)); replace HO815 := ueR HO815 ho0 hb; replace HO819 := ueR HO819 ho0 hb; replace BK812 := ux BK812 hb; replace HB := uy hb; (try clear hb ho0); have hcz11_0 : w10.cell? ⟨gb812, 0, none⟩ = some (.bool false) := (blk_cell BK812.out 0).trans rfl; have hcz11_1 : w10.cell? ⟨gb812, 1, none⟩ = some (.slice none 0 0) := (blk_cell BK812.out 1).trans rfl; have hfz11_0 := blk_frozen BK812.out 0; have hfz11_1 := blk_frozen BK812.out 1; obtain ⟨Ao12, co12, eo12⟩ := Kd.R_slice HO823.out; subst eo12))
 refine bodyPost_ret (results_cell_row rfl _ _ gb812 52 #[.bool t820, .slice Ao12 t821.length co12] (0, 0) _ rfl (by (with_reducible repeat (first | refine blk_drewN ?_ _ | refine blk_drew ?_ | refine blk_alloc ?_ _)); refine blk_put (cs := #[.bool t820, .slice none 0 0]) ?_ 1 _ rfl; (with_reducible repeat (first | refine blk_drewN ?_ _ | refine blk_drew ?_ | refine blk_alloc ?_ _)); refine blk_put (cs := #[.bool false, .slice none 0 0]) ?_ 0 _ rfl; (with_reducible repeat (first | refine blk_drewN ?_ _ | refine blk_drew ?_ | refine blk_alloc ?_ _)); exact BK812.out) Try.underlying52 rfl (by kernel_rfl)) rfl ?_
 exact ⟨_, uF, by (with_reducible repeat (first | apply Kd.R_alloc | apply Kd.R_drewN | apply Kd.R_drew)); exact Kd.R_mono (Kd.R_far (p := ⟨gb812, 1, none⟩) (Kd.R_far (p := ⟨gb812, 0, none⟩) (Kd.R_types HO823.out BK812.out (by decide)) (fun _ hk => hk.2) (.bool t820)) (fun _ hk => hk.2) (.slice Ao12 t821.length co12)) (fun _ hk => trivial), uB⟩
def windbreakref01_Mul.j0 : Nat → List Int → List Int → Bool → Option (List Int × Int)
 | 0, _, _, _ => none
 | k + 1, x0, x1, x17 => if x17 = true then (some (([] : List Int), 1)) else ((windbreakref01_In.f k x0).bind fun t503 => ((windbreakref01_In.f k x1).bind fun t506 => ((windbreakref01_mul.f k t503 t506).bind fun t509 => ((windbreakref01_told.f k t509).bind fun bt512 => (some (bt512.1, bt512.2))))))
def windbreakref01_Mul.f (k : Nat) (l0 : List Int) (l1 : List Int) : Option (List Int × Int) := (windbreakref01_Right.f l0).bind fun t501 => ((windbreakref01_Right.f l1).bind fun t502 => (if t501 = true then (windbreakref01_Mul.j0 k l0 l1 (!t502)) else (windbreakref01_Mul.j0 k l0 l1 true)))
set_option maxHeartbeats 8000000 in
set_option maxRecDepth 100000 in
theorem windbreakref01_Mul.calls (k : Nat) (A0 : Option Addr) (c0 : Nat) (l0 : List Int) (A1 : Option Addr) (c1 : Nat) (l1 : List Int) (r1 : List Int) (r2 : Int) (w : World) (hr0 : Kd.C (Kd.int .u64) w A0 l0.length l0) (hc0 : l0.length ≤ c0) (hr1 : Kd.C (Kd.int .u64) w A1 l1.length l1) (hc1 : l1.length ≤ c1) (h : windbreakref01_Mul.f k l0 l1 = some (r1, r2)) :
  Calls Try.prog 46 #[.slice A0 l0.length c0, .slice A1 l1.length c1] w fun e w' => ∃ v0_ : Value, e = .returned (.tuple #[v0_, .int .i64 r2]) ∧ Kd.R (Kd.int .u64) 27 w' w.heap.size (fun _ => True) v0_ r1 ∧ Below w.heap.size w w' := by
 have HR0 := Aside0.mk hr0; have HC0 := Aside0.mk hc0; clear hr0 hc0; have HR1 := Aside0.mk hr1; have HC1 := Aside0.mk hc1; clear hr1 hc1
 have HB := Aside0.mk (Below.refl w.heap.size w)
 have H : ((windbreakref01_Right.f l0).bind fun t501 => ((windbreakref01_Right.f l1).bind fun t502 => (if t501 = true then (windbreakref01_Mul.j0 k l0 l1 (!t502)) else (windbreakref01_Mul.j0 k l0 l1 true)))) = some (r1, r2) := h
 clear h
 replace H := ub H; obtain ⟨t501, A3, H⟩ := H
 replace H := ub H; obtain ⟨t502, A4, H⟩ := H
 have HC5 := Aside0.mk H; clear H
 go_enter Try.func46, Try.ntmps46
 go_upto_region 3 with (first | ((with_reducible refine gate_callee (f := 50) rfl ?_); refine goesL_ (some 9) rfl rfl Try.func50 (by kernel_rfl) rfl #[.slice A0 l0.length c0] rfl uM ?_; (with_reducible refine (windbreakref01_Right.calls _ _ l0 t501 _ ?side1 ?side2 A3.out).mono ?_); (case side1 => exact uC HR0.out); (case side2 => exact HC0.out); rintro e w' ⟨rfl, ⟨nd, rfl⟩⟩; refine ⟨_, rfl, ?_⟩) | ((with_reducible refine gate_callee (f := 50) rfl ?_); refine goesL_ (some 11) rfl rfl Try.func50 (by kernel_rfl) rfl #[.slice A1 l1.length c1] rfl uM ?_; (with_reducible refine (windbreakref01_Right.calls _ _ l1 t502 _ ?side1 ?side2 A4.out).mono ?_); (case side1 => exact uC HR1.out); (case side2 => exact HC1.out); rintro e w' ⟨rfl, ⟨nd, rfl⟩⟩; refine ⟨_, rfl, ?_⟩))
 (try simp only [Act.put, List.setIfInBounds_toArray, List.set_cons_zero, List.set_cons_succ])
 go_cut [17] (fun v17 wc => ∃ (kq : Nat) (x17_4 : Bool), v17 = .bool x17_4 ∧ Aside0 (windbreakref01_Mul.j0 kq l0 l1 x17_4 = some (r1, r2)) ∧ Aside0 (kq ≤ k) ∧ Aside0 (Below w.heap.size w wc))
 case first =>
  have H := HC5.out
  clear HC5
  by_cases c6 : t501 = true
  ·
   subst c6
   have H1 : (windbreakref01_Mul.j0 k l0 l1 (!t502)) = some (r1, r2) := by rw [if_pos rfl] at H; exact H
   clear H; have H := H1; clear H1
   have H' := Aside0.mk H
   clear H
   go_wp2
   go_meet
   case rel => exact ⟨_, (!t502), uG, H', ⟨uW⟩, ⟨uB⟩⟩
  replace c6 := Bool.eq_false_iff.mpr c6
  subst c6
  have H1 : (windbreakref01_Mul.j0 k l0 l1 true) = some (r1, r2) := by rw [if_neg (show ¬ (false = true) by decide)] at H; exact H
  clear H; have H := H1; clear H1
  have H' := Aside0.mk H
  clear H
  go_wp2
  go_meet
  case rel => exact ⟨_, (true), uG, H', ⟨uW⟩, ⟨uB⟩⟩
 case rest =>
  clear HC5; (try clear c1); (try clear p2); (try clear c4); (try clear c5); (try clear c6)
  obtain ⟨kq, x17_4, rfl, HA, HJ4, HB⟩ := hcut
  cases kq with
  | zero => exact absurd HA.out (by simp [windbreakref01_Mul.j0])
  | succ kj4 =>
   have H := HA.out
   clear HA
   simp only [windbreakref01_Mul.j0] at H
   by_cases c7 : x17_4 = true
   ·
    subst c7
    have H1 : (some (([] : List Int), 1)) = some (r1, r2) := by rw [if_pos rfl] at H; exact H
    clear H; have H := H1; clear H1
    simp only [Option.some.injEq, Prod.mk.injEq] at H
    obtain ⟨rfl, rfl⟩ := H
    go_wp2
    go_ret2
    exact ⟨_, uF, uI, uB⟩
   replace c7 := Bool.eq_false_iff.mpr c7
   subst c7
   have H1 : ((windbreakref01_In.f kj4 l0).bind fun t503 => ((windbreakref01_In.f kj4 l1).bind fun t506 => ((windbreakref01_mul.f kj4 t503 t506).bind fun t509 => ((windbreakref01_told.f kj4 t509).bind fun bt512 => (some (bt512.1, bt512.2)))))) = some (r1, r2) := by rw [if_neg (show ¬ (false = true) by decide)] at H; exact H
   clear H; have H := H1; clear H1
   replace H := ub H; obtain ⟨t503, A8, H⟩ := H
   replace H := ub H; obtain ⟨t506, A9, H⟩ := H
   replace H := ub H; obtain ⟨t509, A10, H⟩ := H
   replace H := ub H; obtain ⟨⟨t512, t513⟩, A11, H⟩ := H
   (try dsimp only at H)
   simp only [Option.some.injEq, Prod.mk.injEq] at H
   obtain ⟨rfl, rfl⟩ := H
   go_wp2_with (first | ((with_reducible refine gate_callee (f := 54) rfl ?_); refine goesL_ (some 19) rfl rfl Try.func54 (by kernel_rfl) rfl #[.slice A0 l0.length c0] rfl uM ?_; (with_reducible refine (windbreakref01_In.calls kj4 _ _ l0 t503 _ ?side1 ?side2 A8.out).mono ?_); (case side1 => exact uC (Kd.C_below HR0.out HB.out)); (case side2 => exact HC0.out); rintro e w12 ⟨v504, rfl, ho0, hb⟩; refine ⟨_, rfl, ?_⟩; have HO505 := Aside0.mk (Kd.R_lower ho0 (below_size uB)); replace HB := uy hb; (try clear hb ho0)) | ((with_reducible refine gate_callee (f := 54) rfl ?_); refine goesL_ (some 21) rfl rfl Try.func54 (by kernel_rfl) rfl #[.slice A1 l1.length c1] rfl uM ?_; (with_reducible refine (windbreakref01_In.calls kj4 _ _ l1 t506 _ ?side1 ?side2 A9.out).mono ?_); (case side1 => exact uC (Kd.C_below HR1.out HB.out)); (case side2 => exact HC1.out); rintro e w13 ⟨v507, rfl, ho0, hb⟩; refine ⟨_, rfl, ?_⟩; have HO508 := Aside0.mk (Kd.R_lower (Kd.R_new' ho0 (Kd.R_lt (uR HO505.out))) (below_size uB)); replace HO505 := ueR HO505 ho0 hb; replace HB := uy hb; (try clear hb ho0); obtain ⟨Ao14, co14, eo14⟩ := Kd.R_slice HO505.out; subst eo14; obtain ⟨Ao15, co15, eo15⟩ := Kd.R_slice HO508.out; subst eo15) | ((with_reducible refine gate_callee (f := 91) rfl ?_); refine goesL_ (some 22) rfl rfl Try.func91 (by kernel_rfl) rfl #[.slice Ao14 t503.length co14, .slice Ao15 t506.length co15] rfl uM ?_; (with_reducible refine (windbreakref01_mul.calls kj4 _ _ t503 _ _ t506 t509 _ ?side1 ?side2 ?side3 ?side4 A10.out).mono ?_); (case side1 => exact uC (Kd.R_reads' HO505.out).2.2); (case side2 => exact (Kd.R_reads' HO505.out).2.1); (case side3 => exact uC (Kd.R_reads' HO508.out).2.2); (case side4 => exact (Kd.R_reads' HO508.out).2.1); rintro e w16 ⟨v510, rfl, ho0, hb⟩; refine ⟨_, rfl, ?_⟩; have HO511 := Aside0.mk (Kd.R_lower (Kd.R_new' (Kd.R_new' ho0 (Kd.R_lt (uR HO505.out))) (Kd.R_lt (uR HO508.out))) (below_size uB)); replace HO505 := ueR HO505 ho0 hb; replace HO508 := ueR HO508 ho0 hb; replace HB := uy hb; (try clear hb ho0); obtain ⟨Ao17, co17, eo17⟩ := Kd.R_slice HO511.out; subst eo17) | ((with_reducible refine gate_callee (f := 52) rfl ?_); refine goesL_ (some 23) rfl rfl Try.func52 (by kernel_rfl) rfl #[.slice Ao17 t509.length co17] rfl uM ?_; (with_reducible refine (windbreakref01_told.calls kj4 _ _ t509 t512 t513 _ ?side1 ?side2 A11.out).mono ?_); (case side1 => exact uC (Kd.R_reads' HO511.out).2.2); (case side2 => exact (Kd.R_reads' HO511.out).2.1); rintro e w18 ⟨v514, rfl, ho0, hb⟩; refine ⟨_, rfl, ?_⟩; have HO515 := Aside0.mk (Kd.R_lower (Kd.R_new' (Kd.R_new' (Kd.R_new' ho0 (Kd.R_lt (uR HO505.out))) (Kd.R_lt (uR HO508.out))) (Kd.R_lt (uR HO511.out))) (below_size uB)); replace HO505 := ueR HO505 ho0 hb; replace HO508 := ueR HO508 ho0 hb; replace HO511 := ueR HO511 ho0 hb; replace HB := uy hb; (try clear hb ho0)))
   go_ret2
   exact ⟨_, uF, by (with_reducible repeat (first | apply Kd.R_alloc | apply Kd.R_drewN | apply Kd.R_drew)); exact Kd.R_mono HO515.out (fun _ hk => trivial), uB⟩
end Go.Proofs.Ytgeanpnkllnipab.F
end
