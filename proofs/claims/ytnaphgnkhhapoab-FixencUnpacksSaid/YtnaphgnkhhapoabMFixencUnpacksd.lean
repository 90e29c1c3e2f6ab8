/- Proved: the law FixencUnpacks of layer 7: the two that any number tells are the document's; for every input, without a condition. -/
import Derived.Test.YtnaphgnkhhapoabMFixencUnpacksc
set_option maxHeartbeats 8000000
set_option maxRecDepth 100000
section
namespace Go.Proofs.Ytnaphgnkhhapoab.F
open Go.RowKit Go.Proofs.YtnaphgnkhhapoabW.PrintWords Go.Proofs.YtnaphgnkhhapoabW.PrintLast Go.Proofs.YtnaphgnkhhapoabW.PrintMore
attribute [local go_sem] max2_int min2_int max_two min_two max_three min_three max_four min_four
set_option linter.unusedVariables false
set_option linter.unusedSimpArgs false
mutual
def nat_long.l0 : Nat → Int → List Int → List Int → Int → List Int → Int → Option (List Int × List Int)
 | 0, _, _, _, _, _, _ => none
 | k + 1, x6, x7, x8, x9, x10, x11 => if x11 ≥ 0 then (if 0 ≤ (wrap64 (x11 + x9)) then (if (wrap64 (x11 + x9)) < (x7.length : Int) then (if 0 ≤ (wrap64 ((wrap64 (x11 + x9)) - 1)) then (if (wrap64 ((wrap64 (x11 + x9)) - 1)) < (x7.length : Int) then (if 0 ≤ (wrap64 ((wrap64 (x11 + x9)) - 2)) then (if (wrap64 ((wrap64 (x11 + x9)) - 2)) < (x7.length : Int) then (if 0 ≤ (wrap64 (x9 - 1)) then (if (wrap64 (x9 - 1)) < (x8.length : Int) then (if 0 ≤ (wrap64 (x9 - 2)) then (if (wrap64 (x9 - 2)) < (x8.length : Int) then ((nat_guess.f k (rd x7 (wrap64 (x11 + x9))) (rd x7 (wrap64 ((wrap64 (x11 + x9)) - 1))) (rd x7 (wrap64 ((wrap64 (x11 + x9)) - 2))) (rd x8 (wrap64 (x9 - 1))) (rd x8 (wrap64 (x9 - 2)))).bind fun t318 => (if 0 ≤ x11 then (if x11 ≤ (wrap64 ((wrap64 (x11 + x9)) + 1)) then (if (wrap64 ((wrap64 (x11 + x9)) + 1)) ≤ (x7.length : Int) then (nat_long.l1 k x6 x7 x8 x9 x10 x11 t318 ((x7.take ((wrap64 ((wrap64 (x11 + x9)) + 1)) : Int).toNat).drop (x11 : Int).toNat)) else (none)) else (none)) else (none))) else (none)) else (none)) else (none)) else (none)) else (none)) else (none)) else (none)) else (none)) else (none)) else (none)) else ((nat_trim.f k x7).bind fun t341 => (if 0 ≤ (t341.length : Int) then (if ((t341.length : Int) : Int).toNat ≤ 35184372088832 then (nat_long.l2 k x6 x10 t341 (List.replicate ((t341.length : Int) : Int).toNat 0) (t341.length : Int) 0) else (none)) else (none)))
def nat_long.l1 : Nat → Int → List Int → List Int → Int → List Int → Int → Int → List Int → Option (List Int × List Int)
 | 0, _, _, _, _, _, _, _, _ => none
 | k + 1, x6, x7, x8, x9, x10, x11, x12, x13 => (nat_Of.f k x12).bind fun t323 => ((nat_school.f k x8 t323).bind fun t326 => ((api_Nat_uint64.f x13).bind fun t329 => ((nat_trim.f k t329).bind fun t332 => ((nat_compare.f k t332 t326).bind fun t335 => (if t335 ≥ 0 then ((nat_less.f k x13 t326).bind fun t336 => (if t336.length = x13.length then (if 0 ≤ x11 then (if x11 < (x10.length : Int) then (nat_long.l0 k x6 (x7.take (x11 : Int).toNat ++ (t336 ++ x7.drop ((x11 : Int).toNat + x13.length))) x8 x9 (x10.set (x11 : Int).toNat x12) (wrap64 (x11 - 1))) else (none)) else (none)) else (none))) else (nat_long.l1 k x6 x7 x8 x9 x10 x11 (IntKind.u64.wrap (x12 - 1)) x13))))))
def nat_long.l2 : Nat → Int → List Int → List Int → List Int → Int → Int → Option (List Int × List Int)
 | 0, _, _, _, _, _, _ => none
 | k + 1, x6, x10, x15, x16, x112, x113 => if x113 < x112 then (if 0 ≤ x113 then (if x113 < (x15.length : Int) then (if 0 ≤ x6 then (if x113 < (x16.length : Int) then ((some (x16.set (x113 : Int).toNat (shr .u64 (rd x15 x113) x6) : List Int)).bind fun y348 => (if x6 > 0 then (if (wrap64 (x113 + 1)) < (x15.length : Int) then (if 0 ≤ (wrap64 (x113 + 1)) then (if 0 ≤ (IntKind.u64.wrap (64 - x6)) then (nat_long.l2 k x6 x10 x15 (y348.set (x113 : Int).toNat (Go.bits .or .u64 (rd y348 x113) (shl .u64 (rd x15 (wrap64 (x113 + 1))) (IntKind.u64.wrap (64 - x6))))) x112 (wrap64 (x113 + 1))) else (none)) else (none)) else (nat_long.l2 k x6 x10 x15 y348 x112 (wrap64 (x113 + 1)))) else (nat_long.l2 k x6 x10 x15 y348 x112 (wrap64 (x113 + 1))))) else (none)) else (none)) else (none)) else (none)) else ((nat_trim.f k x10).bind fun t352 => ((nat_trim.f k x16).bind fun t355 => (some (t352, t355))))
end
def nat_long.f (k : Nat) (l0 : List Int) (l1 : List Int) : Option (List Int × List Int) := if 0 ≤ (wrap64 ((l1.length : Int) - 1)) then (if (wrap64 ((l1.length : Int) - 1)) < (l1.length : Int) then ((bits_LeadingZeros64.f k (rd l1 (wrap64 ((l1.length : Int) - 1)))).bind fun t300 => ((nat_up.f k l0 (IntKind.u64.wrap (t300))).bind fun t301 => ((nat_up.f k l1 (IntKind.u64.wrap (t300))).bind fun t304 => ((nat_trim.f k t304).bind fun t307 => (if 0 ≤ (wrap64 ((t301.length : Int) - (t307.length : Int))) then (if (wrap64 ((t301.length : Int) - (t307.length : Int)) : Int).toNat ≤ 35184372088832 then ((some (List.replicate (wrap64 ((t301.length : Int) - (t307.length : Int)) : Int).toNat 0 : List Int)).bind fun y310 => (nat_long.l0 k (IntKind.u64.wrap (t300)) t301 t307 (t307.length : Int) y310 (wrap64 ((y310.length : Int) - 1)))) else (none)) else (none)))))) else (none)) else (none)
def nat_long.T8 : Bool × List (List Nat × List Nat) := (true, [([], []), ([], []), ([], []), ([1, 2], [1, 2]), ([0, 3], [0, 3]), ([4], [4]), ([], []), ([], []), ([], []), ([7, 8], [7, 8]), ([9], [9]), ([6, 10], [6, 10]), ([11], [11]), ([], []), ([], []), ([], []), ([14, 15], [14, 15]), ([16], [16]), ([13, 17], [13, 17]), ([18], [18]), ([], []), ([], []), ([21], [21]), ([20, 22], [20, 22]), ([23], [23]), ([], []), ([], []), ([26], [26]), ([25, 27], [25, 27]), ([28], [28]), ([5, 12, 19, 24, 29], [5, 12, 19, 24, 29]), ([30, 30, 0, 1, 2, 3, 4, 5, 6, 7, 8, 9, 10, 11, 12, 13, 14, 15, 16, 17, 18, 19, 20, 21, 22, 23, 24, 25, 26, 27, 28, 29, 30], [30])])
def nat_long.B8 : List Nat := [0, 0, 0, 6, 15, 31, 0, 0, 0, 384, 896, 1984, 4032, 0, 0, 0, 49152, 114688, 253952, 516096, 0, 0, 2097152, 7340032, 15728640, 0, 0, 67108864, 234881024, 503316480, 1073741823, 2147483647]
theorem nat_long.tab8 : rtab .any (opsOf Try.f71 8) = nat_long.T8 := by kernel_rfl
theorem nat_long.bits8 : waitsOk nat_long.T8.2 nat_long.B8 = true := by kernel_rfl
def nat_long.T22 : Bool × List (List Nat × List Nat) := (true, [([], []), ([], []), ([0, 1], [0, 1]), ([2], [2]), ([], []), ([], []), ([5], [5]), ([4, 6], [4, 6]), ([7], [7]), ([], []), ([9], [9]), ([8, 10], [8, 10]), ([3, 11], [3, 11]), ([0, 1, 0, 1, 2, 3, 4, 5, 6, 7, 8, 9, 10, 11, 12], [0, 1]), ([13, 12, 0, 1, 2, 3, 4, 5, 6, 7, 8, 9, 10, 11, 12], [12, 13])])
def nat_long.B22 : List Nat := [0, 0, 3, 7, 0, 0, 32, 112, 240, 0, 512, 2032, 4095, 8191, 16383]
theorem nat_long.tab22 : rtab .any (opsOf Try.f71 22) = nat_long.T22 := by kernel_rfl
theorem nat_long.bits22 : waitsOk nat_long.T22.2 nat_long.B22 = true := by kernel_rfl
theorem nat_long.calls (k : Nat) (A0 : Option Addr) (c0 : Nat) (l0 : List Int) (A1 : Option Addr) (c1 : Nat) (l1 : List Int) (r1 : List Int) (r2 : List Int) (w : World) (hr0 : Kd.C (Kd.int .u64) w A0 l0.length l0) (hc0 : l0.length ≤ c0) (hr1 : Kd.C (Kd.int .u64) w A1 l1.length l1) (hc1 : l1.length ≤ c1) (h : nat_long.f k l0 l1 = some (r1, r2)) :
  Calls Try.prog 71 #[.slice A0 l0.length c0, .slice A1 l1.length c1] w fun e w' => ∃ v0_ v1_ : Value, e = .returned (.tuple #[v0_, v1_]) ∧ Kd.R (Kd.int .u64) 42 w' w.heap.size (fun k_ => some k_ ≠ (v1_ : Value).ownBlock) v0_ r1 ∧ Kd.R (Kd.int .u64) 42 w' w.heap.size (fun k_ => some k_ ≠ (v0_ : Value).ownBlock) v1_ r2 ∧ Below w.heap.size w w' := by
 have HR0 := Aside0.mk hr0; have HC0 := Aside0.mk hc0; clear hr0 hc0; have HR1 := Aside0.mk hr1; have HC1 := Aside0.mk hc1; clear hr1 hc1
 have HB := Aside0.mk (Below.refl w.heap.size w)
 have H : (if 0 ≤ (wrap64 ((l1.length : Int) - 1)) then (if (wrap64 ((l1.length : Int) - 1)) < (l1.length : Int) then ((bits_LeadingZeros64.f k (rd l1 (wrap64 ((l1.length : Int) - 1)))).bind fun t300 => ((nat_up.f k l0 (IntKind.u64.wrap (t300))).bind fun t301 => ((nat_up.f k l1 (IntKind.u64.wrap (t300))).bind fun t304 => ((nat_trim.f k t304).bind fun t307 => (if 0 ≤ (wrap64 ((t301.length : Int) - (t307.length : Int))) then (if (wrap64 ((t301.length : Int) - (t307.length : Int)) : Int).toNat ≤ 35184372088832 then ((some (List.replicate (wrap64 ((t301.length : Int) - (t307.length : Int)) : Int).toNat 0 : List Int)).bind fun y310 => (nat_long.l0 k (IntKind.u64.wrap (t300)) t301 t307 (t307.length : Int) y310 (wrap64 ((y310.length : Int) - 1)))) else (none)) else (none)))))) else (none)) else (none)) = some (r1, r2) := h
 clear h
 obtain ⟨ji3, hji3⟩ : ∃ j_ : Int, (wrap64 ((l1.length : Int) - 1)) = j_ := ⟨_, rfl⟩
 first | rw [hji3] at H | simp only [hji3] at H
 have hji3w : (IntKind.i64.wrap ((l1.length : Int) - 1)) = ji3 := (i64_w _).trans hji3
 replace H := uT H; obtain ⟨c4, H⟩ := H
 have c4b0 := decide_eq_true c4
 clear c4
 replace H := uT H; obtain ⟨c5, H⟩ := H
 have c5b0 := decide_eq_true c5
 clear c5
 replace H := ub H; obtain ⟨t300, A6, H⟩ := H
 replace H := ub H; obtain ⟨t301, A7, H⟩ := H
 replace H := ub H; obtain ⟨t304, A8, H⟩ := H
 replace H := ub H; obtain ⟨t307, A9, H⟩ := H
 obtain ⟨ji10, hji10⟩ : ∃ j_ : Int, (wrap64 ((t301.length : Int) - (t307.length : Int))) = j_ := ⟨_, rfl⟩
 first | rw [hji10] at H | simp only [hji10] at H
 (try rw [hji10] at A6)
 (try rw [hji10] at A7)
 (try rw [hji10] at A8)
 (try rw [hji10] at A9)
 have hji10w : (IntKind.i64.wrap ((t301.length : Int) - (t307.length : Int))) = ji10 := (i64_w _).trans hji10
 replace H := uT H; obtain ⟨c11, H⟩ := H
 have c11b0 := eq_true c11
 have c11b1 := decide_eq_true c11
 clear c11
 replace H := uT H; obtain ⟨c12, H⟩ := H
 have c12b0 := eq_true c12
 have c12b1 := decide_eq_true c12
 clear c12
 replace H := ubs H; obtain ⟨y310, hy310, H⟩ := H
 have Ny310 := Aside0.mk hy310; clear hy310
 have H' := Aside0.mk H
 clear H
 have p299 := eq_true (uO : 0 ≤ ((ji3) : Int))
 have q299 := eq_true (uO : (ji3) < (l1.length : Int))
 obtain ⟨ad299, e299, hx299_0⟩ := Kd.at_int HR1.out (ji3) uO uO
 cases e299
 go_enter Try.func71, Try.ntmps71
 go_wp2_with (first | ((with_reducible refine ug 88 rfl ?_); refine goesL_ (some 24) rfl rfl Try.func88 (by kernel_rfl) rfl #[.int .u64 (rd l1 (ji3))] rfl (by (try simp only [List.map_toArray, List.map_cons, List.map_nil]); first | done | (simp only [hji3]; rfl) | rfl | (simp only [List.length_drop, List.length_take]; rfl)) ?_; (with_reducible refine (bits_LeadingZeros64.calls k (rd l1 (ji3)) t300 _ A6.out).mono ?_); rintro e w' ⟨rfl, ⟨nd, rfl⟩⟩; refine ⟨_, rfl, ?_⟩) | ((with_reducible refine ug 73 rfl ?_); refine uh (some 28) rfl Try.func73 #[.slice A0 l0.length c0, .int .u64 (IntKind.u64.wrap (t300))] ?_; (with_reducible refine (nat_up.calls k _ _ l0 (IntKind.u64.wrap (t300)) t301 _ ?side1 ?side2 A7.out).mono ?_); (case side1 => exact uC HR0.out); (case side2 => exact HC0.out); rintro e w13 ⟨v302, rfl, ho0, hb⟩; refine ⟨_, rfl, ?_⟩; have HO303 := ulo ho0; replace HB := uy hb; (try clear hb ho0)) | ((with_reducible refine ug 73 rfl ?_); refine uh (some 31) rfl Try.func73 #[.slice (some ad299) l1.length c1, .int .u64 (IntKind.u64.wrap (t300))] ?_; (with_reducible refine (nat_up.calls k _ _ l1 (IntKind.u64.wrap (t300)) t304 _ ?side1 ?side2 A8.out).mono ?_); (case side1 => exact uC (Kd.C_below HR1.out HB.out)); (case side2 => exact HC1.out); rintro e w14 ⟨v305, rfl, ho0, hb⟩; refine ⟨_, rfl, ?_⟩; have HO306 := ulo (unw ho0 HO303); replace HO303 := ueR HO303 ho0 hb; replace HB := uy hb; (try clear hb ho0); obtain ⟨Ao15, co15, eo15⟩ := Kd.R_slice HO306.out; subst eo15) | ((with_reducible refine ug 72 rfl ?_); refine uh (some 32) rfl Try.func72 #[.slice Ao15 t304.length co15] ?_; (with_reducible refine (nat_trim.calls k (fun k_ => some k_ = (.slice Ao15 t304.length co15 : Value).ownBlock) (.slice Ao15 t304.length co15) t304 t307 w _ ?side1 ?side2 A9.out).mono ?_); (case side1 => repeat (first | (with_reducible first | exact HB.out | apply below_alloc | apply pw_below_drewN | apply below_drew1) | exact HB.out)); (case side2 => exact Kd.R_tight rfl HO306.out); rintro e w16 ⟨v308, rfl, ho0, hb, hkp⟩; refine ⟨_, rfl, ?_⟩; have HO309 := Aside0.mk (Kd.R_mono (ok' := fun k_ => some k_ ≠ (v302 : Value).ownBlock) ho0 (fun k_ hk_ => Or.elim hk_ (fun hs_ => fun e_ => (((HO303.out).1 k_ e_.symm).2) hs_) (fun hn_ => (Kd.fresh' (Kd.R_lt (uR HO303.out)) k_ hn_)))); replace HO303 := Aside0.mk (Kd.R_mono (ok' := fun k_ => some k_ ≠ (v308 : Value).ownBlock) (Kd.R_keptB (HO303.out) hkp (fun k_ hk_ hs_ => (hk_.2) hs_)) (fun k_ hk_ => fun e_ => Or.elim (ho0.1 k_ e_.symm) (fun hs_ => hk_.2.1 hs_) (fun hn_ => Nat.not_le.2 hk_.2.2 hn_))); replace HB := Aside0.mk (hb); clear HO306; (try clear hb); (try clear hkp); (try clear ho0); obtain ⟨Ao17, co17, eo17⟩ := Kd.R_slice HO309.out; subst eo17; obtain ⟨Ao18, co18, eo18⟩ := Kd.R_slice HO303.out; subst eo18) | ((with_reducible refine gate_dst (N := 39) rfl ?_); (try (refine gate_guard (by rfl) ?_; dsimp only)); refine Kd.R_make (Kd.int .u64) _ 42 rfl (N := 39) rfl 23 _ _ rfl ji10 rfl rfl Try.underlying23 (.int .u64 0) 8 info42 rfl (by decide) (by omega) 0 (ok := fun _ => True) (okp := fun _ => True) rfl (fun _ hk => hk) trivial uO (Nat.le_trans (Nat.mul_le_mul_right _ (uO : ji10.toNat ≤ 35184372088832)) (by omega)) (Below.refl _ _) (Nat.le_refl _) ?_; intro v311 w19 ho20 hb hg_ hnew_; clear hg_ hnew_; (first | rw [← Ny310.out] at ho20 | (simp only [Int.reduceToNat] at ho20; rw [← Ny310.out] at ho20)); have HO312 := ulo (unw (unw ho20 HO303) HO309); replace HO303 := ueR HO303 ho20 hb; replace HO309 := ueR HO309 ho20 hb; replace HB := uy hb; clear hb ho20; obtain ⟨Ao21, co21, eo21⟩ := Kd.R_slice HO312.out; subst eo21))
 go_loopg [11] k (fun kq v11 w' => ∃ (x7_1 : List Int) (x10_1 : List Int) (x11_1 : Int), v11 = .int .i64 x11_1 ∧ Aside0 (nat_long.l0 kq (IntKind.u64.wrap (t300)) x7_1 t307 (t307.length : Int) x10_1 x11_1 = some (r1, r2)) ∧ Aside0 (kq ≤ k) ∧ Aside0 (Kd.R (Kd.int .u64) 42 w' w.heap.size (fun k_ => some k_ ≠ ((.slice Ao17 t307.length co17) : Value).ownBlock ∧ some k_ ≠ ((.slice Ao21 y310.length co21) : Value).ownBlock) (.slice Ao18 t301.length co18) x7_1) ∧ Aside0 (Kd.R (Kd.int .u64) 42 w' w.heap.size (fun k_ => some k_ ≠ ((.slice Ao18 t301.length co18) : Value).ownBlock ∧ some k_ ≠ ((.slice Ao21 y310.length co21) : Value).ownBlock) (.slice Ao17 t307.length co17) t307) ∧ Aside0 (Kd.R (Kd.int .u64) 42 w' w.heap.size (fun k_ => some k_ ≠ ((.slice Ao18 t301.length co18) : Value).ownBlock ∧ some k_ ≠ ((.slice Ao17 t307.length co17) : Value).ownBlock) (.slice Ao21 y310.length co21) x10_1) ∧ Aside0 (Below w.heap.size w w'))
 case atStart => exact ⟨(t301), (y310), (wrap64 ((y310.length : Int) - 1)), uG, H', ⟨Nat.le_refl _⟩, ⟨uR HO303.out⟩, ⟨uR HO309.out⟩, ⟨by exact uR (Kd.R_mono HO312.out (fun _ hk => ⟨hk.1.2, hk.2⟩))⟩, ⟨uB⟩⟩
 case round =>
  clear H'
  ; (try clear q2); (try clear hx2); (try clear hx299_0); (try clear q299)
  obtain ⟨x7_1, x10_1, x11_1, rfl, HA, HK1, HO_7, HO_8, HO_10, HB⟩ := hrel
  have hl7_1 := (Kd.R_reads' HO_7.out).1
  rw [hl7_1] at HO_7
  (try simp only [hl7_1])
  (try simp only [hl7_1] at HO_8)
  (try simp only [hl7_1] at HO_10)
  have hl10_1 := (Kd.R_reads' HO_10.out).1
  rw [hl10_1] at HO_10
  (try simp only [hl10_1])
  (try simp only [hl10_1] at HO_7)
  (try simp only [hl10_1] at HO_8)
  cases gk with
  | zero => exact absurd HA.out (by simp [nat_long.l0])
  | succ k1 =>
   have H := HA.out
   clear HA
   simp only [nat_long.l0] at H
   by_cases c22 : x11_1 ≥ 0
   ·
    rw [if_pos c22] at H
    have c22b0 := decide_eq_true c22
    clear c22
    obtain ⟨ji23, hji23⟩ : ∃ j_ : Int, (wrap64 (x11_1 + (t307.length : Int))) = j_ := ⟨_, rfl⟩
    first | rw [hji23] at H | simp only [hji23] at H
    have hji23w : (IntKind.i64.wrap (x11_1 + (t307.length : Int))) = ji23 := (i64_w _).trans hji23
    replace H := uT H; obtain ⟨c24, H⟩ := H
    have c24b0 := decide_eq_true c24
    clear c24
    replace H := uT H; obtain ⟨c25, H⟩ := H
    have c25b0 := decide_eq_true c25
    (try (have c25b0h0 := c25b0; simp only [hl7_1] at c25b0h0))
    (try (have c25b0h1 := c25b0; simp only [hl10_1] at c25b0h1))
    clear c25
    obtain ⟨ji26, hji26⟩ : ∃ j_ : Int, (wrap64 ((ji23) - 1)) = j_ := ⟨_, rfl⟩
    first | rw [hji26] at H | simp only [hji26] at H
    have hji26w : (IntKind.i64.wrap ((ji23) - 1)) = ji26 := (i64_w _).trans hji26
    replace H := uT H; obtain ⟨c27, H⟩ := H
    have c27b0 := decide_eq_true c27
    clear c27
    replace H := uT H; obtain ⟨c28, H⟩ := H
    have c28b0 := decide_eq_true c28
    (try (have c28b0h0 := c28b0; simp only [hl7_1] at c28b0h0))
    (try (have c28b0h1 := c28b0; simp only [hl10_1] at c28b0h1))
    clear c28
    obtain ⟨ji29, hji29⟩ : ∃ j_ : Int, (wrap64 ((ji23) - 2)) = j_ := ⟨_, rfl⟩
    first | rw [hji29] at H | simp only [hji29] at H
    have hji29w : (IntKind.i64.wrap ((ji23) - 2)) = ji29 := (i64_w _).trans hji29
    replace H := uT H; obtain ⟨c30, H⟩ := H
    have c30b0 := decide_eq_true c30
    clear c30
    replace H := uT H; obtain ⟨c31, H⟩ := H
    have c31b0 := decide_eq_true c31
    (try (have c31b0h0 := c31b0; simp only [hl7_1] at c31b0h0))
    (try (have c31b0h1 := c31b0; simp only [hl10_1] at c31b0h1))
    clear c31
    obtain ⟨ji32, hji32⟩ : ∃ j_ : Int, (wrap64 ((t307.length : Int) - 1)) = j_ := ⟨_, rfl⟩
    first | rw [hji32] at H | simp only [hji32] at H
    have hji32w : (IntKind.i64.wrap ((t307.length : Int) - 1)) = ji32 := (i64_w _).trans hji32
    replace H := uT H; obtain ⟨c33, H⟩ := H
    have c33b0 := decide_eq_true c33
    clear c33
    replace H := uT H; obtain ⟨c34, H⟩ := H
    have c34b0 := decide_eq_true c34
    (try (have c34b0h0 := c34b0; simp only [hl7_1] at c34b0h0))
    (try (have c34b0h1 := c34b0; simp only [hl10_1] at c34b0h1))
    clear c34
    obtain ⟨ji35, hji35⟩ : ∃ j_ : Int, (wrap64 ((t307.length : Int) - 2)) = j_ := ⟨_, rfl⟩
    first | rw [hji35] at H | simp only [hji35] at H
    have hji35w : (IntKind.i64.wrap ((t307.length : Int) - 2)) = ji35 := (i64_w _).trans hji35
    replace H := uT H; obtain ⟨c36, H⟩ := H
    have c36b0 := decide_eq_true c36
    clear c36
    replace H := uT H; obtain ⟨c37, H⟩ := H
    have c37b0 := decide_eq_true c37
    (try (have c37b0h0 := c37b0; simp only [hl7_1] at c37b0h0))
    (try (have c37b0h1 := c37b0; simp only [hl10_1] at c37b0h1))
    clear c37
    replace H := ub H; obtain ⟨t318, A38, H⟩ := H
    replace H := uT H; obtain ⟨c39, H⟩ := H
    have c39b0 := eq_true c39
    have c39b1 := decide_eq_true c39
    clear c39
    replace H := uT H; obtain ⟨c40, H⟩ := H
    have c40b0 := eq_true c40
    have c40b1 := decide_eq_true c40
    replace H := uT H; obtain ⟨c41, H⟩ := H
    have c41b0 := eq_true c41
    have c41b1 := decide_eq_true c41
    obtain ⟨y319, hy319⟩ : ∃ y_ : List Int, y_ = ((x7_1.take ((wrap64 ((ji23) + 1)) : Int).toNat).drop (x11_1 : Int).toNat) := ⟨_, rfl⟩
    replace H : (nat_long.l1 k1 (IntKind.u64.wrap (t300)) x7_1 t307 (t307.length : Int) x10_1 x11_1 t318 y319) = some (r1, r2) := by first | (rw [hy319]; with_reducible exact H) | (have H2_ := (Option.bind_some _ _).symm.trans H; rw [hy319]; with_reducible exact H2_) | (have H2_ := (Option.bind_some _ _).symm.trans H; with_reducible exact H2_) | with_reducible exact H | (rw [hy319]; exact H) | exact H
    have Ny319 := Aside0.mk hy319; clear hy319
    have H' := Aside0.mk H
    clear H
    try go_wp2
    replace HO_7 := Aside0.mk (Kd.R_drew HO_7.out); replace HO_8 := Aside0.mk (Kd.R_drew HO_8.out); replace HO_10 := Aside0.mk (Kd.R_drew HO_10.out); replace HB := Aside0.mk (below_drew1 HB.out)
    have p313 := eq_true (uO : 0 ≤ ((ji23) : Int))
    have q313 := eq_true (uO : (ji23) < (x7_1.length : Int))
    obtain ⟨ad313, e313, hx313_0⟩ := Kd.at_int (Kd.R_reads' HO_7.out).2.2 (ji23) uO uO
    cases e313
    have p314 : 0 ≤ ((ji26) : Int) := uO
    have q314 : (ji26) < (x7_1.length : Int) := uO
    obtain ⟨ad314, e314, hx314_0⟩ := Kd.at_int (Kd.R_reads' HO_7.out).2.2 (ji26) p314 q314
    obtain rfl : ad313 = ad314 := (by injection e314)
    replace p314 := eq_true p314
    replace q314 := eq_true q314
    have p315 : 0 ≤ ((ji29) : Int) := uO
    have q315 : (ji29) < (x7_1.length : Int) := uO
    obtain ⟨ad315, e315, hx315_0⟩ := Kd.at_int (Kd.R_reads' HO_7.out).2.2 (ji29) p315 q315
    obtain rfl : ad313 = ad315 := (by injection e315)
    replace p315 := eq_true p315
    replace q315 := eq_true q315
    have p316 := eq_true (uO : 0 ≤ ((ji32) : Int))
    have q316 := eq_true (uO : (ji32) < (t307.length : Int))
    obtain ⟨ad316, e316, hx316_0⟩ := Kd.at_int (Kd.R_reads' HO_8.out).2.2 (ji32) uO uO
    cases e316
    have p317 : 0 ≤ ((ji35) : Int) := uO
    have q317 : (ji35) < (t307.length : Int) := uO
    obtain ⟨ad317, e317, hx317_0⟩ := Kd.at_int (Kd.R_reads' HO_8.out).2.2 (ji35) p317 q317
    obtain rfl : ad316 = ad317 := (by injection e317)
    replace p317 := eq_true p317
    replace q317 := eq_true q317
    refine start_ (n := 32) (S := fun w' => w'.cell? (ad313.add ((ji23)).toNat) = some (.int .u64 (rd x7_1 (ji23))) ∧ w'.cell? (ad313.add ((ji26)).toNat) = some (.int .u64 (rd x7_1 (ji26))) ∧ w'.cell? (ad313.add ((ji29)).toNat) = some (.int .u64 (rd x7_1 (ji29))) ∧ w'.cell? (ad316.add ((ji32)).toNat) = some (.int .u64 (rd t307 (ji32))) ∧ w'.cell? (ad316.add ((ji35)).toNat) = some (.int .u64 (rd t307 (ji35)))) (ds := []) (.replicate 32 false) (by kernel_rfl) rfl rfl ⟨hx313_0, hx314_0, hx315_0, hx316_0, hx317_0⟩ (fun hHeld => ?_); refine with_tabW nat_long.tab8 nat_long.bits8 (fun HT_ HW_ => ?_)
    generalize wr.drew = w42 at HO_7 HO_8 HO_10 HB hx313_0 hx314_0 hx315_0 hx316_0 hx317_0 hHeld ⊢
    refine upu 0 (some 47) (uA 32 1) rfl rfl HT_ ?_
    refine upu 1 (some 48) (uA 32 3) rfl rfl HT_ ?_
    refine upu 2 (some 49) (uA 32 7) rfl rfl HT_ ?_
    refine upu 3 (some 50) (uA 32 15) rfl rfl HT_ ?_
    refine upu 4 (some 51) (uA 32 31) rfl rfl HT_ ?_
    refine upu 6 (some 53) (uA 32 95) rfl rfl HT_ ?_
    refine upu 7 (some 54) (uA 32 223) rfl rfl HT_ ?_
    refine upu 8 (some 55) (uA 32 479) rfl rfl HT_ ?_
    refine upu 9 (some 56) (uA 32 991) rfl rfl HT_ ?_
    refine upu 10 (some 57) (uA 32 2015) rfl rfl HT_ ?_
    refine upu 11 (some 58) (uA 32 4063) rfl rfl HT_ ?_
    refine upu 13 (some 60) (uA 32 12255) rfl rfl HT_ ?_
    refine upu 14 (some 61) (uA 32 28639) rfl rfl HT_ ?_
    refine upu 15 (some 62) (uA 32 61407) rfl rfl HT_ ?_
    refine upu 16 (some 63) (uA 32 126943) rfl rfl HT_ ?_
    refine upu 17 (some 64) (uA 32 258015) rfl rfl HT_ ?_
    refine upu 18 (some 65) (uA 32 520159) rfl rfl HT_ ?_
    refine upu 20 (some 67) (uA 32 1568735) rfl rfl HT_ ?_
    refine upu 21 (some 68) (uA 32 3665887) rfl rfl HT_ ?_
    refine upu 22 (some 69) (uA 32 7860191) rfl rfl HT_ ?_
    refine upu 23 (some 70) (uA 32 16248799) rfl rfl HT_ ?_
    refine upu 25 (some 72) (uA 32 49803231) rfl rfl HT_ ?_
    refine upu 26 (some 73) (uA 32 116912095) rfl rfl HT_ ?_
    refine upu 27 (some 74) (uA 32 251129823) rfl rfl HT_ ?_
    refine upu 28 (some 75) (uA 32 519565279) rfl rfl HT_ ?_
    refine take_ (i := 5) (N := some 52) (v := ?_) (a' := ?_) (uA 32 519565311) rfl rfl (take_ofW HT_.out HW_.out (by kernel_rfl)) (fun _ _ _ h => h) (Or.inl ⟨by rfl, ?_⟩) hHeld ?_ ?_
    rotate_left
    ·
     rintro w' ⟨s0, s1, s2, s3, s4⟩
     go_simp
     with_reducible rfl
    rotate_left
    · exact uQ
    refine take_ (i := 12) (N := some 59) (v := ?_) (a' := ?_) (uA 32 519569407) rfl rfl (take_ofW HT_.out HW_.out (by kernel_rfl)) (fun _ _ _ h => h) (Or.inl ⟨by rfl, ?_⟩) hHeld ?_ ?_
    rotate_left
    ·
     rintro w' ⟨s0, s1, s2, s3, s4⟩
     go_simp
     with_reducible rfl
    rotate_left
    · exact uQ
    refine take_ (i := 19) (N := some 66) (v := ?_) (a' := ?_) (uA 32 520093695) rfl rfl (take_ofW HT_.out HW_.out (by kernel_rfl)) (fun _ _ _ h => h) (Or.inl ⟨by rfl, ?_⟩) hHeld ?_ ?_
    rotate_left
    ·
     rintro w' ⟨s0, s1, s2, s3, s4⟩
     go_simp
     with_reducible rfl
    rotate_left
    · exact uQ
    refine take_ (i := 24) (N := some 71) (v := ?_) (a' := ?_) (uA 32 536870911) rfl rfl (take_ofW HT_.out HW_.out (by kernel_rfl)) (fun _ _ _ h => h) (Or.inl ⟨by rfl, ?_⟩) hHeld ?_ ?_
    rotate_left
    ·
     rintro w' ⟨s0, s1, s2, s3, s4⟩
     go_simp
     with_reducible rfl
    rotate_left
    · exact uQ
    refine take_ (i := 29) (N := some 76) (v := ?_) (a' := ?_) (uA 32 1073741823) rfl rfl (take_ofW HT_.out HW_.out (by kernel_rfl)) (fun _ _ _ h => h) (Or.inl ⟨by rfl, ?_⟩) hHeld ?_ ?_
    rotate_left
    ·
     rintro w' ⟨s0, s1, s2, s3, s4⟩
     go_simp
     with_reducible rfl
    rotate_left
    · exact uQ
    refine one_ (i := 30) (N := some 77) (uA 32 2147483647) rfl rfl (one_of HT_.out (by kernel_rfl)) (by decide) (fun K hK => ?_)
    refine goes_ Try.func89 (by kernel_rfl) rfl #[.int .u64 (rd x7_1 (ji23)), .int .u64 (rd x7_1 (ji26)), .int .u64 (rd x7_1 (ji29)), .int .u64 (rd t307 (ji32)), .int .u64 (rd t307 (ji35))] (by rfl) rfl rfl (by (try simp only [List.map_toArray, List.map_cons, List.map_nil]); first | done | (simp only [hji23, hji26, hji29, hji32, hji35]; rfl) | rfl | (simp only [List.length_drop, List.length_take]; rfl)) ?_
    with_reducible refine (nat_guess.calls k1 (rd x7_1 (ji23)) (rd x7_1 (ji26)) (rd x7_1 (ji29)) (rd t307 (ji32)) (rd t307 (ji35)) t318 _ A38.out).mono ?_
    rintro e w' ⟨rfl, ⟨nd, rfl⟩⟩
    refine ⟨_, rfl, ?_⟩; refine hK.out _ _ ⟨hHeld.1, hHeld.2.1, hHeld.2.2.1, hHeld.2.2.2.1, hHeld.2.2.2.2⟩ (fun hHeld => ?_); clear hK K; refine norm_ (a' := ?_) ?_ ?_; rotate_left
    · exact (show Act.put _ (some 77) _ = _ from uQ)
    refine upu 31 (some 12) (uA 32 4294967295) rfl rfl HT_ ?_
    refine done_ (done_of HT_.out (by kernel_rfl)) ?_
    have q43 : ((wrap64 ((ji23) + 1)) : Int) ≤ ((x7_1.length : Int) : Int) := uO
    obtain ⟨i043, hi043, _, hsz43, _⟩ := info_parts info42
    have hroom43 : x7_1.length ≤ co18 := (Kd.R_reads' HO_7.out).2.1
    have hC43 : Kd.C (Kd.int .u64) _ (some ad313) x7_1.length x7_1 := (Kd.R_reads' HO_7.out).2.2
    have ql43 : (x11_1 : Int) ≤ ((wrap64 ((ji23) + 1)) : Int) := uO
    have q043 : (0 : Int) ≤ (x11_1 : Int) := uO
    have hcut43 := cut_mid (P := Try.prog) 23 42 .i64 .i64 Try.underlying23 hi043 1 hsz43 (some ad313) x7_1.length co18 x11_1 (wrap64 ((ji23) + 1)) q043 ql43 q43 hroom43
    have hr43 := Kd.C_mid (lo := (x11_1 : Int).toNat) (hi := ((wrap64 ((ji23) + 1)) : Int).toNat) (c := co18) hC43 (by omega) (by omega) hroom43
    obtain ⟨A43, hA43⟩ : ∃ A1, A1 = (if co18 = (x11_1 : Int).toNat then (some ad313) else ((some ad313) : Option Addr).map (·.add ((x11_1 : Int).toNat * 1))) := ⟨_, rfl⟩
    obtain ⟨c43, hc43⟩ : ∃ c1, c1 = co18 - (x11_1 : Int).toNat := ⟨_, rfl⟩
    have hy43 : y319.length = ((wrap64 ((ji23) + 1)) : Int).toNat - (x11_1 : Int).toNat := (by rw [Ny319.out, List.length_drop, List.length_take] <;> omega)
    rw [show ((x7_1).take ((wrap64 ((ji23) + 1)) : Int).toNat).drop (x11_1 : Int).toNat = y319 from Ny319.out.symm] at hr43
    replace hr43 : Kd.C (Kd.int .u64) _ A43 y319.length y319 := (by rw [hA43]; exact hr43)
    rw [← hy43, ← hA43, ← hc43] at hcut43
    have HR322 := Aside0.mk hr43
    have HC322 := Aside0.mk (show y319.length ≤ c43 from by rw [hy43, hc43]; exact Nat.sub_le_sub_right (Nat.le_trans (by omega) hroom43) _)
    clear hr43 hC43 hroom43 hi043 hsz43 hc43; have KY43 := Aside0.mk hy43; have KA43 := Aside0.mk hA43; clear hy43 hA43
    have KL43 := Aside0.mk (show ((wrap64 ((ji23) + 1)) : Int).toNat ≤ x7_1.length from by omega)
    have KM43 := Aside0.mk (show (x11_1 : Int).toNat ≤ ((wrap64 ((ji23) + 1)) : Int).toNat from by omega)
    replace q43 := eq_true q43
    try go_wp2
    go_loopg [12] k1 (fun kq v12 w' => ∃ (x12_2 : Int), v12 = .int .u64 x12_2 ∧ Aside0 (nat_long.l1 kq (IntKind.u64.wrap (t300)) x7_1 t307 (t307.length : Int) x10_1 x11_1 x12_2 y319 = some (r1, r2)) ∧ Aside0 (kq ≤ k1) ∧ Aside0 (Kd.R (Kd.int .u64) 42 w' w.heap.size (fun k_ => some k_ ≠ ((.slice (some ad316) t307.length co17) : Value).ownBlock ∧ some k_ ≠ ((.slice Ao21 x10_1.length co21) : Value).ownBlock) (.slice (some ad313) x7_1.length co18) x7_1) ∧ Aside0 (Kd.R (Kd.int .u64) 42 w' w.heap.size (fun k_ => some k_ ≠ ((.slice (some ad313) x7_1.length co18) : Value).ownBlock ∧ some k_ ≠ ((.slice Ao21 x10_1.length co21) : Value).ownBlock) (.slice (some ad316) t307.length co17) t307) ∧ Aside0 (Kd.R (Kd.int .u64) 42 w' w.heap.size (fun k_ => some k_ ≠ ((.slice (some ad313) x7_1.length co18) : Value).ownBlock ∧ some k_ ≠ ((.slice (some ad316) t307.length co17) : Value).ownBlock) (.slice Ao21 x10_1.length co21) x10_1) ∧ Aside0 (Kd.C (Kd.int .u64) w' A43 y319.length y319) ∧ Aside0 (Below w.heap.size w w'))
    case atStart => exact ⟨(t318), uG, H', ⟨Nat.le_refl _⟩, ⟨by (try simp only [hl7_1]); (try simp only [hl10_1]); exact uR HO_7.out⟩, ⟨by (try simp only [hl7_1]); (try simp only [hl10_1]); exact uR HO_8.out⟩, ⟨by (try simp only [hl7_1]); (try simp only [hl10_1]); exact uR HO_10.out⟩, ⟨by repeat (first | (with_reducible exact HR322.out) | (with_reducible refine Kd.C_alloc ?_ _) | (with_reducible refine Kd.C_drewN ?_ _) | (with_reducible refine Kd.C_drew ?_) | exact HR322.out)⟩, ⟨uB⟩⟩
    case round =>
     clear H'
     ; (try clear q2 q2); (try clear hx2); (try clear q3); (try clear hx3); (try clear q4); (try clear q29); (try clear hx29); (try clear q31); (try clear hx31); (try clear q43 q43); (try clear hx299_0); (try clear hx313_0); (try clear hx314_0); (try clear hx315_0); (try clear hx316_0); (try clear hx317_0); (try clear q043); (try clear q299); (try clear q313); (try clear q314); (try clear q315); (try clear q316); (try clear q317)
     obtain ⟨x12_2, rfl, HA, HK2, HO_7, HO_8, HO_10, HR322, HB⟩ := hrel
     cases gk with
     | zero => exact absurd HA.out (by simp [nat_long.l1])
     | succ k2 =>
      have H := HA.out
      clear HA
      simp only [nat_long.l1] at H
      replace H := ub H; obtain ⟨t323, A44, H⟩ := H
      replace H := ub H; obtain ⟨t326, A45, H⟩ := H
      replace H := ub H; obtain ⟨t329, A46, H⟩ := H
      replace H := ub H; obtain ⟨t332, A47, H⟩ := H
      replace H := ub H; obtain ⟨t335, A48, H⟩ := H
      by_cases c49 : t335 ≥ 0
      ·
       rw [if_pos c49] at H
       have c49b0 := decide_eq_true c49
       clear c49
       replace H := ub H; obtain ⟨t336, A50, H⟩ := H
       replace H := uT H; obtain ⟨c51, H⟩ := H
       have c51b0 := eq_true c51
       have c51b1 := decide_eq_true c51
       clear c51
       obtain ⟨y339, hy339⟩ : ∃ y_ : List Int, y_ = (x7_1.take (x11_1 : Int).toNat ++ (t336 ++ x7_1.drop ((x11_1 : Int).toNat + y319.length))) := ⟨_, rfl⟩
       replace H : (if 0 ≤ x11_1 then (if x11_1 < (x10_1.length : Int) then (nat_long.l0 k2 (IntKind.u64.wrap (t300)) y339 t307 (t307.length : Int) (x10_1.set (x11_1 : Int).toNat x12_2) (wrap64 (x11_1 - 1))) else (none)) else (none)) = some (r1, r2) := by first | (rw [hy339]; with_reducible exact H) | (have H2_ := (Option.bind_some _ _).symm.trans H; rw [hy339]; with_reducible exact H2_) | (have H2_ := (Option.bind_some _ _).symm.trans H; with_reducible exact H2_) | with_reducible exact H | (rw [hy339]; exact H) | exact H
       have Ny339 := Aside0.mk hy339; clear hy339
       replace H := uT H; obtain ⟨c52, H⟩ := H
       have c52b0 := decide_eq_true c52
       clear c52
       replace H := uT H; obtain ⟨c53, H⟩ := H
       have c53b0 := decide_eq_true c53
       (try (have c53b0h0 := c53b0; simp only [hl7_1] at c53b0h0))
       (try (have c53b0h1 := c53b0; simp only [hl10_1] at c53b0h1))
       clear c53
       obtain ⟨y340, hy340⟩ : ∃ y_ : List Int, y_ = (x10_1.set (x11_1 : Int).toNat x12_2) := ⟨_, rfl⟩
       replace H : (nat_long.l0 k2 (IntKind.u64.wrap (t300)) y339 t307 (t307.length : Int) y340 (wrap64 (x11_1 - 1))) = some (r1, r2) := by first | (rw [hy340]; with_reducible exact H) | (have H2_ := (Option.bind_some _ _).symm.trans H; rw [hy340]; with_reducible exact H2_) | (have H2_ := (Option.bind_some _ _).symm.trans H; with_reducible exact H2_) | with_reducible exact H | (rw [hy340]; exact H) | exact H
       have Ny340 := Aside0.mk hy340; clear hy340
       have H' := Aside0.mk H
       clear H
       go_wp2_with (first | ((with_reducible refine ug 44 rfl ?_); refine uh (some 87) rfl Try.func44 #[.int .u64 x12_2] ?_; (with_reducible refine (nat_Of.calls k2 x12_2 t323 _ A44.out).mono ?_); rintro e w55 ⟨v324, rfl, ho0, hb⟩; refine ⟨_, rfl, ?_⟩; have HO325 := ulo (unw (unw (unw ho0 HO_7) HO_8) HO_10); replace HO_7 := ueR HO_7 ho0 hb; replace HO_8 := ueR HO_8 ho0 hb; replace HO_10 := ueR HO_10 ho0 hb; replace HR322 := Aside0.mk (Kd.C_below (by repeat (first | (with_reducible exact HR322.out) | (with_reducible refine Kd.C_alloc ?_ _) | (with_reducible refine Kd.C_drewN ?_ _) | (with_reducible refine Kd.C_drew ?_) | exact HR322.out)) hb); replace HB := uy hb; (try clear hb); (try clear hb2); (try clear hk); (try clear hi); (try clear ho0); obtain ⟨Ao56, co56, eo56⟩ := Kd.R_slice HO325.out; subst eo56) | ((with_reducible refine ug 90 rfl ?_); refine uh (some 88) rfl Try.func90 #[.slice (some ad316) t307.length co17, .slice Ao56 t323.length co56] ?_; (with_reducible refine (nat_school.calls k2 _ _ t307 _ _ t323 t326 _ ?side1 ?side2 ?side3 ?side4 A45.out).mono ?_); (case side1 => exact uC (Kd.R_reads' HO_8.out).2.2); (case side2 => exact (Kd.R_reads' HO_8.out).2.1); (case side3 => exact uC (Kd.R_reads' HO325.out).2.2); (case side4 => exact (Kd.R_reads' HO325.out).2.1); rintro e w57 ⟨v327, rfl, ho0, hb⟩; refine ⟨_, rfl, ?_⟩; have HO328 := ulo (unw (unw (unw (unw ho0 HO_7) HO_8) HO_10) HO325); replace HO_7 := ueR HO_7 ho0 hb; replace HO_8 := ueR HO_8 ho0 hb; replace HO_10 := ueR HO_10 ho0 hb; replace HO325 := ueR HO325 ho0 hb; replace HR322 := Aside0.mk (Kd.C_below (by repeat (first | (with_reducible exact HR322.out) | (with_reducible refine Kd.C_alloc ?_ _) | (with_reducible refine Kd.C_drewN ?_ _) | (with_reducible refine Kd.C_drew ?_) | exact HR322.out)) hb); replace HB := uy hb; (try clear hb); (try clear hb2); (try clear hk); (try clear hi); (try clear ho0)) | ((with_reducible refine ug 67 rfl ?_); refine uh (some 90) rfl Try.func67 #[.slice A43 y319.length c43] ?_; (with_reducible refine (api_Nat_uint64.calls _ _ y319 t329 _ ?side1 ?side2 A46.out).mono ?_); (case side1 => repeat (first | exact (by repeat (first | (with_reducible exact HR322.out) | (with_reducible refine Kd.C_alloc ?_ _) | (with_reducible refine Kd.C_drewN ?_ _) | (with_reducible refine Kd.C_drew ?_) | exact HR322.out)) | (with_reducible refine Kd.C_alloc ?_ _) | (with_reducible refine Kd.C_drewN ?_ _) | (with_reducible refine Kd.C_drew ?_))); (case side2 => exact HC322.out); rintro e w58 ⟨v330, rfl, ho0, hb⟩; refine ⟨_, rfl, ?_⟩; have HO331 := ulo (unw (unw (unw (unw (unw ho0 HO_7) HO_8) HO_10) HO325) HO328); replace HO_7 := ueR HO_7 ho0 hb; replace HO_8 := ueR HO_8 ho0 hb; replace HO_10 := ueR HO_10 ho0 hb; replace HO325 := ueR HO325 ho0 hb; replace HO328 := ueR HO328 ho0 hb; replace HR322 := Aside0.mk (Kd.C_below (by repeat (first | (with_reducible exact HR322.out) | (with_reducible refine Kd.C_alloc ?_ _) | (with_reducible refine Kd.C_drewN ?_ _) | (with_reducible refine Kd.C_drew ?_) | exact HR322.out)) hb); replace HB := uy hb; (try clear hb); (try clear hb2); (try clear hk); (try clear hi); (try clear ho0); obtain ⟨Ao59, co59, eo59⟩ := Kd.R_slice HO331.out; subst eo59) | ((with_reducible refine ug 72 rfl ?_); refine uh (some 91) rfl Try.func72 #[.slice Ao59 t329.length co59] ?_; (with_reducible refine (nat_trim.calls k2 (fun k_ => some k_ = (.slice Ao59 t329.length co59 : Value).ownBlock) (.slice Ao59 t329.length co59) t329 t332 w _ ?side1 ?side2 A47.out).mono ?_); (case side1 => repeat (first | (with_reducible first | exact HB.out | apply below_alloc | apply pw_below_drewN | apply below_drew1) | exact HB.out)); (case side2 => exact Kd.R_tight rfl HO331.out); rintro e w60 ⟨v333, rfl, ho0, hb, hkp⟩; refine ⟨_, rfl, ?_⟩; have HO334 := Aside0.mk (Kd.R_mono (ok' := fun k_ => some k_ ≠ (.slice (some ad313) x7_1.length co18 : Value).ownBlock ∧ some k_ ≠ (.slice (some ad316) t307.length co17 : Value).ownBlock ∧ some k_ ≠ (.slice Ao21 x10_1.length co21 : Value).ownBlock ∧ some k_ ≠ (.slice Ao56 t323.length co56 : Value).ownBlock ∧ some k_ ≠ (v327 : Value).ownBlock) ho0 (fun k_ hk_ => ⟨Or.elim hk_ (fun hs_ => fun e_ => (((HO_7.out).1 k_ e_.symm).2) hs_) (fun hn_ => (Kd.fresh' (Kd.R_lt (uR HO_7.out)) k_ hn_)), Or.elim hk_ (fun hs_ => fun e_ => (((HO_8.out).1 k_ e_.symm).2) hs_) (fun hn_ => (Kd.fresh' (Kd.R_lt (uR HO_8.out)) k_ hn_)), Or.elim hk_ (fun hs_ => fun e_ => (((HO_10.out).1 k_ e_.symm).2) hs_) (fun hn_ => (Kd.fresh' (Kd.R_lt (uR HO_10.out)) k_ hn_)), Or.elim hk_ (fun hs_ => fun e_ => (((HO325.out).1 k_ e_.symm).2) hs_) (fun hn_ => (Kd.fresh' (Kd.R_lt (uR HO325.out)) k_ hn_)), Or.elim hk_ (fun hs_ => fun e_ => (((HO328.out).1 k_ e_.symm).2) hs_) (fun hn_ => (Kd.fresh' (Kd.R_lt (uR HO328.out)) k_ hn_))⟩)); replace HO_8 := Aside0.mk (Kd.R_mono (ok' := fun k_ => some k_ ≠ (.slice (some ad313) x7_1.length co18 : Value).ownBlock ∧ some k_ ≠ (.slice Ao21 x10_1.length co21 : Value).ownBlock ∧ some k_ ≠ (.slice Ao56 t323.length co56 : Value).ownBlock ∧ some k_ ≠ (v327 : Value).ownBlock ∧ some k_ ≠ (v333 : Value).ownBlock) (Kd.R_keptB (HO_8.out) hkp (fun k_ hk_ hs_ => (hk_.2) hs_)) (fun k_ hk_ => ⟨hk_.1.1.1.1.1, hk_.1.1.1.1.2, hk_.1.1.1.2, hk_.1.1.2, fun e_ => Or.elim (ho0.1 k_ e_.symm) (fun hs_ => hk_.2.1 hs_) (fun hn_ => Nat.not_le.2 hk_.2.2 hn_)⟩)); replace HO_10 := Aside0.mk (Kd.R_mono (ok' := fun k_ => some k_ ≠ (.slice (some ad313) x7_1.length co18 : Value).ownBlock ∧ some k_ ≠ (.slice (some ad316) t307.length co17 : Value).ownBlock ∧ some k_ ≠ (.slice Ao56 t323.length co56 : Value).ownBlock ∧ some k_ ≠ (v327 : Value).ownBlock ∧ some k_ ≠ (v333 : Value).ownBlock) (Kd.R_keptB (HO_10.out) hkp (fun k_ hk_ hs_ => (hk_.2) hs_)) (fun k_ hk_ => ⟨hk_.1.1.1.1.1, hk_.1.1.1.1.2, hk_.1.1.1.2, hk_.1.1.2, fun e_ => Or.elim (ho0.1 k_ e_.symm) (fun hs_ => hk_.2.1 hs_) (fun hn_ => Nat.not_le.2 hk_.2.2 hn_)⟩)); replace HO325 := Aside0.mk (Kd.R_mono (ok' := fun k_ => some k_ ≠ (.slice (some ad313) x7_1.length co18 : Value).ownBlock ∧ some k_ ≠ (.slice (some ad316) t307.length co17 : Value).ownBlock ∧ some k_ ≠ (.slice Ao21 x10_1.length co21 : Value).ownBlock ∧ some k_ ≠ (v327 : Value).ownBlock ∧ some k_ ≠ (v333 : Value).ownBlock) (Kd.R_keptB (HO325.out) hkp (fun k_ hk_ hs_ => (hk_.2) hs_)) (fun k_ hk_ => ⟨hk_.1.1.1.1.1.2, hk_.1.1.1.1.2, hk_.1.1.1.2, hk_.1.1.2, fun e_ => Or.elim (ho0.1 k_ e_.symm) (fun hs_ => hk_.2.1 hs_) (fun hn_ => Nat.not_le.2 hk_.2.2 hn_)⟩)); replace HO328 := Aside0.mk (Kd.R_mono (ok' := fun k_ => some k_ ≠ (.slice (some ad313) x7_1.length co18 : Value).ownBlock ∧ some k_ ≠ (.slice (some ad316) t307.length co17 : Value).ownBlock ∧ some k_ ≠ (.slice Ao21 x10_1.length co21 : Value).ownBlock ∧ some k_ ≠ (.slice Ao56 t323.length co56 : Value).ownBlock ∧ some k_ ≠ (v333 : Value).ownBlock) (Kd.R_keptB (HO328.out) hkp (fun k_ hk_ hs_ => (hk_.2) hs_)) (fun k_ hk_ => ⟨hk_.1.1.1.1.1.2, hk_.1.1.1.1.2, hk_.1.1.1.2, hk_.1.1.2, fun e_ => Or.elim (ho0.1 k_ e_.symm) (fun hs_ => hk_.2.1 hs_) (fun hn_ => Nat.not_le.2 hk_.2.2 hn_)⟩)); replace HR322 := Aside0.mk ((show Kd.C (Kd.int .u64) w60 A43 y319.length y319 from by rw [Ny319.out, KA43.out]; exact Kd.C_mid (lo := (x11_1 : Int).toNat) (hi := ((wrap64 ((ji23) + 1)) : Int).toNat) (c := co18) ((Kd.R_reads' (Kd.R_mono (ok' := fun k_ => some k_ ≠ (.slice (some ad316) t307.length co17 : Value).ownBlock ∧ some k_ ≠ (.slice Ao21 x10_1.length co21 : Value).ownBlock ∧ some k_ ≠ (.slice Ao56 t323.length co56 : Value).ownBlock ∧ some k_ ≠ (v327 : Value).ownBlock ∧ some k_ ≠ (v333 : Value).ownBlock) (Kd.R_keptB (HO_7.out) hkp (fun k_ hk_ hs_ => (hk_.2) hs_)) (fun k_ hk_ => ⟨hk_.1.1.1.1.1, hk_.1.1.1.1.2, hk_.1.1.1.2, hk_.1.1.2, fun e_ => Or.elim (ho0.1 k_ e_.symm) (fun hs_ => hk_.2.1 hs_) (fun hn_ => Nat.not_le.2 hk_.2.2 hn_)⟩))).2.2) KM43.out KL43.out ((Kd.R_reads' (Kd.R_mono (ok' := fun k_ => some k_ ≠ (.slice (some ad316) t307.length co17 : Value).ownBlock ∧ some k_ ≠ (.slice Ao21 x10_1.length co21 : Value).ownBlock ∧ some k_ ≠ (.slice Ao56 t323.length co56 : Value).ownBlock ∧ some k_ ≠ (v327 : Value).ownBlock ∧ some k_ ≠ (v333 : Value).ownBlock) (Kd.R_keptB (HO_7.out) hkp (fun k_ hk_ hs_ => (hk_.2) hs_)) (fun k_ hk_ => ⟨hk_.1.1.1.1.1, hk_.1.1.1.1.2, hk_.1.1.1.2, hk_.1.1.2, fun e_ => Or.elim (ho0.1 k_ e_.symm) (fun hs_ => hk_.2.1 hs_) (fun hn_ => Nat.not_le.2 hk_.2.2 hn_)⟩))).2.1))); replace HO_7 := Aside0.mk (Kd.R_mono (ok' := fun k_ => some k_ ≠ (.slice (some ad316) t307.length co17 : Value).ownBlock ∧ some k_ ≠ (.slice Ao21 x10_1.length co21 : Value).ownBlock ∧ some k_ ≠ (.slice Ao56 t323.length co56 : Value).ownBlock ∧ some k_ ≠ (v327 : Value).ownBlock ∧ some k_ ≠ (v333 : Value).ownBlock) (Kd.R_keptB (HO_7.out) hkp (fun k_ hk_ hs_ => (hk_.2) hs_)) (fun k_ hk_ => ⟨hk_.1.1.1.1.1, hk_.1.1.1.1.2, hk_.1.1.1.2, hk_.1.1.2, fun e_ => Or.elim (ho0.1 k_ e_.symm) (fun hs_ => hk_.2.1 hs_) (fun hn_ => Nat.not_le.2 hk_.2.2 hn_)⟩)); replace HB := Aside0.mk (hb); clear HO331; (try clear hb); (try clear hkp); (try clear ho0); obtain ⟨Ao61, co61, eo61⟩ := Kd.R_slice HO334.out; subst eo61; obtain ⟨Ao62, co62, eo62⟩ := Kd.R_slice HO328.out; subst eo62) | ((with_reducible refine ug 63 rfl ?_); refine uh (some 93) rfl Try.func63 #[.slice Ao61 t332.length co61, .slice Ao62 t326.length co62] ?_; (with_reducible refine (nat_compare.calls k2 _ _ t332 _ _ t326 t335 _ ?side1 ?side2 ?side3 ?side4 A48.out).mono ?_); (case side1 => exact uC (Kd.R_reads' HO334.out).2.2); (case side2 => exact (Kd.R_reads' HO334.out).2.1); (case side3 => exact uC (Kd.R_reads' HO328.out).2.2); (case side4 => exact (Kd.R_reads' HO328.out).2.1); rintro e w' ⟨rfl, ⟨nd, rfl⟩⟩; refine ⟨_, rfl, ?_⟩; (try (rw [drewN_self w60]; generalize hq_ : World.drewN w60 _ = w60; replace HO325 : Aside0 (Kd.R (Kd.int .u64) 42 w60 w.heap.size (fun k_ => (some k_ ≠ (.slice (some ad313) x7_1.length co18 : Value).ownBlock ∧ (some k_ ≠ (.slice (some ad316) t307.length co17 : Value).ownBlock ∧ (some k_ ≠ (.slice Ao21 x10_1.length co21 : Value).ownBlock ∧ (some k_ ≠ (.slice Ao62 t326.length co62 : Value).ownBlock ∧ some k_ ≠ (.slice Ao61 t332.length co61 : Value).ownBlock))))) (.slice Ao56 t323.length co56) t323) := ⟨by rw [← hq_]; exact (uR HO325.out)⟩; replace HO328 : Aside0 (Kd.R (Kd.int .u64) 42 w60 w.heap.size (fun k_ => (some k_ ≠ (.slice (some ad313) x7_1.length co18 : Value).ownBlock ∧ (some k_ ≠ (.slice (some ad316) t307.length co17 : Value).ownBlock ∧ (some k_ ≠ (.slice Ao21 x10_1.length co21 : Value).ownBlock ∧ (some k_ ≠ (.slice Ao56 t323.length co56 : Value).ownBlock ∧ some k_ ≠ (.slice Ao61 t332.length co61 : Value).ownBlock))))) (.slice Ao62 t326.length co62) t326) := ⟨by rw [← hq_]; exact (uR HO328.out)⟩; replace HO334 : Aside0 (Kd.R (Kd.int .u64) 42 w60 w.heap.size (fun k_ => (some k_ ≠ (.slice (some ad313) x7_1.length co18 : Value).ownBlock ∧ (some k_ ≠ (.slice (some ad316) t307.length co17 : Value).ownBlock ∧ (some k_ ≠ (.slice Ao21 x10_1.length co21 : Value).ownBlock ∧ (some k_ ≠ (.slice Ao56 t323.length co56 : Value).ownBlock ∧ some k_ ≠ (.slice Ao62 t326.length co62 : Value).ownBlock))))) (.slice Ao61 t332.length co61) t332) := ⟨by rw [← hq_]; exact (uR HO334.out)⟩; replace HO_10 : Aside0 (Kd.R (Kd.int .u64) 42 w60 w.heap.size (fun k_ => (some k_ ≠ (.slice (some ad313) x7_1.length co18 : Value).ownBlock ∧ (some k_ ≠ (.slice (some ad316) t307.length co17 : Value).ownBlock ∧ (some k_ ≠ (.slice Ao56 t323.length co56 : Value).ownBlock ∧ (some k_ ≠ (.slice Ao62 t326.length co62 : Value).ownBlock ∧ some k_ ≠ (.slice Ao61 t332.length co61 : Value).ownBlock))))) (.slice Ao21 x10_1.length co21) x10_1) := ⟨by rw [← hq_]; exact (uR HO_10.out)⟩; replace HO_7 : Aside0 (Kd.R (Kd.int .u64) 42 w60 w.heap.size (fun k_ => (some k_ ≠ (.slice (some ad316) t307.length co17 : Value).ownBlock ∧ (some k_ ≠ (.slice Ao21 x10_1.length co21 : Value).ownBlock ∧ (some k_ ≠ (.slice Ao56 t323.length co56 : Value).ownBlock ∧ (some k_ ≠ (.slice Ao62 t326.length co62 : Value).ownBlock ∧ some k_ ≠ (.slice Ao61 t332.length co61 : Value).ownBlock))))) (.slice (some ad313) x7_1.length co18) x7_1) := ⟨by rw [← hq_]; exact (uR HO_7.out)⟩; replace HO_8 : Aside0 (Kd.R (Kd.int .u64) 42 w60 w.heap.size (fun k_ => (some k_ ≠ (.slice (some ad313) x7_1.length co18 : Value).ownBlock ∧ (some k_ ≠ (.slice Ao21 x10_1.length co21 : Value).ownBlock ∧ (some k_ ≠ (.slice Ao56 t323.length co56 : Value).ownBlock ∧ (some k_ ≠ (.slice Ao62 t326.length co62 : Value).ownBlock ∧ some k_ ≠ (.slice Ao61 t332.length co61 : Value).ownBlock))))) (.slice (some ad316) t307.length co17) t307) := ⟨by rw [← hq_]; exact (uR HO_8.out)⟩; replace HB : Aside0 (Below w.heap.size w w60) := ⟨by rw [← hq_]; exact uB⟩; replace HR322 : Aside0 (Kd.C (Kd.int .u64) w60 A43 y319.length y319) := ⟨by rw [← hq_]; exact (by repeat (first | (with_reducible exact HR322.out) | (with_reducible refine Kd.C_alloc ?_ _) | (with_reducible refine Kd.C_drewN ?_ _) | (with_reducible refine Kd.C_drew ?_) | exact HR322.out))⟩; clear hq_))) | ((with_reducible refine ug 65 rfl ?_); refine uh (some 98) rfl Try.func65 #[.slice A43 y319.length c43, .slice Ao62 t326.length co62] ?_; (with_reducible refine (nat_less.calls k2 _ _ y319 _ _ t326 t336 _ ?side1 ?side2 ?side3 ?side4 A50.out).mono ?_); (case side1 => repeat (first | exact (by repeat (first | (with_reducible exact HR322.out) | (with_reducible refine Kd.C_alloc ?_ _) | (with_reducible refine Kd.C_drewN ?_ _) | (with_reducible refine Kd.C_drew ?_) | exact HR322.out)) | (with_reducible refine Kd.C_alloc ?_ _) | (with_reducible refine Kd.C_drewN ?_ _) | (with_reducible refine Kd.C_drew ?_))); (case side2 => exact HC322.out); (case side3 => exact uC (Kd.R_reads' HO328.out).2.2); (case side4 => exact (Kd.R_reads' HO328.out).2.1); rintro e w63 ⟨v337, rfl, ho0, hb⟩; refine ⟨_, rfl, ?_⟩; have HO338 := ulo (unw (unw (unw (unw (unw (unw ho0 HO_7) HO_8) HO_10) HO325) HO328) HO334); replace HO_7 := ueR HO_7 ho0 hb; replace HO_8 := ueR HO_8 ho0 hb; replace HO_10 := ueR HO_10 ho0 hb; replace HO325 := ueR HO325 ho0 hb; replace HO328 := ueR HO328 ho0 hb; replace HO334 := ueR HO334 ho0 hb; replace HR322 := Aside0.mk (Kd.C_below (by repeat (first | (with_reducible exact HR322.out) | (with_reducible refine Kd.C_alloc ?_ _) | (with_reducible refine Kd.C_drewN ?_ _) | (with_reducible refine Kd.C_drew ?_) | exact HR322.out)) hb); replace HB := uy hb; (try clear hb); (try clear hb2); (try clear hk); (try clear hi); (try clear ho0); obtain ⟨Ao66, co66, eo66⟩ := Kd.R_slice HO338.out; subst eo66; have n_ := Aside0.mk (Kd.R_mono (ok' := (fun k_ => some k_ ≠ (.slice (some ad316) t307.length co17 : Value).ownBlock ∧ some k_ ≠ (.slice Ao21 x10_1.length co21 : Value).ownBlock ∧ some k_ ≠ (.slice Ao56 t323.length co56 : Value).ownBlock ∧ some k_ ≠ (.slice Ao62 t326.length co62 : Value).ownBlock ∧ some k_ ≠ (.slice Ao61 t332.length co61 : Value).ownBlock ∧ some k_ ≠ (.slice Ao66 t336.length co66 : Value).ownBlock)) HO_7.out (fun k_ hk => ⟨hk.1.1, ⟨hk.1.2.1, ⟨hk.1.2.2.1, ⟨hk.1.2.2.2.1, ⟨hk.1.2.2.2.2, hk.2⟩⟩⟩⟩⟩)); clear HO_7; have HO_7 := n_; clear n_) | ((with_reducible refine gate_builtin (b := .copy) (xs := #[.tmp 95, .tmp 98]) (ts := #[23, 23]) rfl ?_); (try (refine gate_guard (by rfl) ?_; dsimp only)); refine R_copyin (0 : Int) (w0 := w) w.heap.size rfl (.tmp 95) (.tmp 98) 23 23 42 rfl Try.underlying23 (by kernel_rfl) (A0 := (some ad313)) (n := x7_1.length) (c := co18) (k := (x11_1 : Int).toNat) (m := y319.length) (ys := t336) rfl rfl KA43.out (Kd.R_reads' HO338.out).2.2 uO (uR HO_7.out) ?hk uB (below_size uB) ?_; (case hk => have hy_ := KY43.out; have hl_ := KL43.out; have hm_ := KM43.out; omega); intro w64 ho hb hg; rw [← Ny339.out] at ho; replace HO_7 := Aside0.mk (ho); replace HO_8 := Aside0.mk (Kd.R_after (v := (.slice (some ad313) x7_1.length co18)) (v1 := (.slice (some ad313) x7_1.length co18)) (ok := (fun k_ => some k_ ≠ (.slice Ao21 x10_1.length co21 : Value).ownBlock ∧ some k_ ≠ (.slice Ao56 t323.length co56 : Value).ownBlock ∧ some k_ ≠ (.slice Ao62 t326.length co62 : Value).ownBlock ∧ some k_ ≠ (.slice Ao61 t332.length co61 : Value).ownBlock ∧ some k_ ≠ (.slice Ao66 t336.length co66 : Value).ownBlock)) (uR (Kd.R_mono HO_8.out (fun _ hk => ⟨⟨hk.1.2.1, ⟨hk.1.2.2.1, ⟨hk.1.2.2.2.1, ⟨hk.1.2.2.2.2, hk.2⟩⟩⟩⟩, hk.1.1⟩))) hg (.inl rfl)); replace HO_10 := Aside0.mk (Kd.R_after (v := (.slice (some ad313) x7_1.length co18)) (v1 := (.slice (some ad313) x7_1.length co18)) (ok := (fun k_ => some k_ ≠ (.slice (some ad316) t307.length co17 : Value).ownBlock ∧ some k_ ≠ (.slice Ao56 t323.length co56 : Value).ownBlock ∧ some k_ ≠ (.slice Ao62 t326.length co62 : Value).ownBlock ∧ some k_ ≠ (.slice Ao61 t332.length co61 : Value).ownBlock ∧ some k_ ≠ (.slice Ao66 t336.length co66 : Value).ownBlock)) (uR (Kd.R_mono HO_10.out (fun _ hk => ⟨⟨hk.1.2.1, ⟨hk.1.2.2.1, ⟨hk.1.2.2.2.1, ⟨hk.1.2.2.2.2, hk.2⟩⟩⟩⟩, hk.1.1⟩))) hg (.inl rfl)); replace HO325 := Aside0.mk (Kd.R_after (v := (.slice (some ad313) x7_1.length co18)) (v1 := (.slice (some ad313) x7_1.length co18)) (ok := (fun k_ => some k_ ≠ (.slice (some ad316) t307.length co17 : Value).ownBlock ∧ some k_ ≠ (.slice Ao21 x10_1.length co21 : Value).ownBlock ∧ some k_ ≠ (.slice Ao62 t326.length co62 : Value).ownBlock ∧ some k_ ≠ (.slice Ao61 t332.length co61 : Value).ownBlock ∧ some k_ ≠ (.slice Ao66 t336.length co66 : Value).ownBlock)) (uR (Kd.R_mono HO325.out (fun _ hk => ⟨⟨hk.1.2.1, ⟨hk.1.2.2.1, ⟨hk.1.2.2.2.1, ⟨hk.1.2.2.2.2, hk.2⟩⟩⟩⟩, hk.1.1⟩))) hg (.inl rfl)); replace HO328 := Aside0.mk (Kd.R_after (v := (.slice (some ad313) x7_1.length co18)) (v1 := (.slice (some ad313) x7_1.length co18)) (ok := (fun k_ => some k_ ≠ (.slice (some ad316) t307.length co17 : Value).ownBlock ∧ some k_ ≠ (.slice Ao21 x10_1.length co21 : Value).ownBlock ∧ some k_ ≠ (.slice Ao56 t323.length co56 : Value).ownBlock ∧ some k_ ≠ (.slice Ao61 t332.length co61 : Value).ownBlock ∧ some k_ ≠ (.slice Ao66 t336.length co66 : Value).ownBlock)) (uR (Kd.R_mono HO328.out (fun _ hk => ⟨⟨hk.1.2.1, ⟨hk.1.2.2.1, ⟨hk.1.2.2.2.1, ⟨hk.1.2.2.2.2, hk.2⟩⟩⟩⟩, hk.1.1⟩))) hg (.inl rfl)); replace HO334 := Aside0.mk (Kd.R_after (v := (.slice (some ad313) x7_1.length co18)) (v1 := (.slice (some ad313) x7_1.length co18)) (ok := (fun k_ => some k_ ≠ (.slice (some ad316) t307.length co17 : Value).ownBlock ∧ some k_ ≠ (.slice Ao21 x10_1.length co21 : Value).ownBlock ∧ some k_ ≠ (.slice Ao56 t323.length co56 : Value).ownBlock ∧ some k_ ≠ (.slice Ao62 t326.length co62 : Value).ownBlock ∧ some k_ ≠ (.slice Ao66 t336.length co66 : Value).ownBlock)) (uR (Kd.R_mono HO334.out (fun _ hk => ⟨⟨hk.1.2.1, ⟨hk.1.2.2.1, ⟨hk.1.2.2.2.1, ⟨hk.1.2.2.2.2, hk.2⟩⟩⟩⟩, hk.1.1⟩))) hg (.inl rfl)); replace HO338 := Aside0.mk (Kd.R_after (v := (.slice (some ad313) x7_1.length co18)) (v1 := (.slice (some ad313) x7_1.length co18)) (ok := (fun k_ => some k_ ≠ (.slice (some ad316) t307.length co17 : Value).ownBlock ∧ some k_ ≠ (.slice Ao21 x10_1.length co21 : Value).ownBlock ∧ some k_ ≠ (.slice Ao56 t323.length co56 : Value).ownBlock ∧ some k_ ≠ (.slice Ao62 t326.length co62 : Value).ownBlock ∧ some k_ ≠ (.slice Ao61 t332.length co61 : Value).ownBlock)) (uR (Kd.R_mono HO338.out (fun _ hk => ⟨⟨hk.1.1.1.1.2, ⟨hk.1.1.1.2, ⟨hk.1.1.2, ⟨hk.1.2, hk.2⟩⟩⟩⟩, hk.1.1.1.1.1.2⟩))) hg (.inl rfl)); replace HB := Aside0.mk (hb); clear ho hb hg; have p54 : 0 ≤ (x11_1 : Int) := uO; have q54 : (x11_1 : Int) < ((x10_1.length : Int) : Int) := uO; obtain ⟨go54, co54, eo54, gb54, gl54, cl54, HG54⟩ := Kd.R_form HO_10.out (by omega); (first | cases eo54 | (injection eo54 with ea_ en_ ec_; (first | subst ea_ | (injection ea_ with ea_; subst ea_)); subst ec_; clear en_)); have GB54 := Aside0.mk gb54; have GG54 := Aside0.mk HG54; clear gb54 gl54 HG54; obtain ⟨hx54_0, hf54_0⟩ := Kd.R_celln 0 HO_10.out (x11_1 : Int) p54 q54; replace p54 := eq_true p54; replace q54 := eq_true q54; have n_ := Aside0.mk (Kd.R_mono (ok' := (fun k_ => some k_ ≠ (.slice (some ad313) x7_1.length co18 : Value).ownBlock ∧ some k_ ≠ (.slice (some ad316) t307.length co17 : Value).ownBlock ∧ some k_ ≠ (.slice Ao56 t323.length co56 : Value).ownBlock ∧ some k_ ≠ (.slice Ao62 t326.length co62 : Value).ownBlock ∧ some k_ ≠ (.slice Ao61 t332.length co61 : Value).ownBlock ∧ some k_ ≠ (.slice Ao66 t336.length co66 : Value).ownBlock)) HO_10.out (fun k_ hk => ⟨hk.2, ⟨hk.1.1, ⟨hk.1.2.1, ⟨hk.1.2.2.1, ⟨hk.1.2.2.2.1, hk.1.2.2.2.2⟩⟩⟩⟩⟩)); clear HO_10; have HO_10 := n_; clear n_; obtain ⟨hy67_, hz67_⟩ := Kd.R_celln 0 HO_10.out (x11_1 : Int) uO uO; have HP67 := Kd.R_putg HO_10.out (x11_1 : Int) x12_2) | ((with_reducible refine gate_store (t := 42) (p := 105) rfl ?_); refine store_event (t := 42) (p := 105) (v := ?vo_w68) (w1 := (w64.setCell ⟨go54, (x11_1 : Int).toNat, none⟩ (.int .u64 x12_2))) ?hg ?ho ?hn ?hr ?_; (case ho => rfl); (case hg => rfl); (case hn => rfl); (case hr => first | (go_simp; done) | (go_simp; rfl) | (obtain ⟨hy_, hz_⟩ := Kd.R_celln 0 HO_10.out (x11_1 : Int) uO uO; (try simp only [Go.IntWalk.toNatUp] at hy_ hz_); (try simp only [Int.reduceToNat, Int.toNat_zero, Int.toNat_ofNat] at hy_ hz_); first | (go_simp; done) | (go_simp; rfl))); intro w68 hw; have hg : w64.grownBy w68 (some go54) := (by rw [hw]; exact HP67.2); have hp_ : Kd.R (Kd.int .u64) 42 w68 w.heap.size (fun k_ => some k_ ≠ (.slice (some ad313) x7_1.length co18 : Value).ownBlock ∧ some k_ ≠ (.slice (some ad316) t307.length co17 : Value).ownBlock ∧ some k_ ≠ (.slice Ao56 t323.length co56 : Value).ownBlock ∧ some k_ ≠ (.slice Ao62 t326.length co62 : Value).ownBlock ∧ some k_ ≠ (.slice Ao61 t332.length co61 : Value).ownBlock ∧ some k_ ≠ (.slice Ao66 t336.length co66 : Value).ownBlock) (.slice (some ⟨go54, 0, none⟩) x10_1.length co21) y340 := (by rw [hw, Ny340.out]; exact HP67.1); clear HP67; replace HO_7 := Aside0.mk (Kd.R_after (v := (.slice (some ⟨go54, 0, none⟩) x10_1.length co21)) (v1 := (.slice (some ⟨go54, 0, none⟩) x10_1.length co21)) (ok := (fun k_ => some k_ ≠ (.slice (some ad316) t307.length co17 : Value).ownBlock ∧ some k_ ≠ (.slice Ao56 t323.length co56 : Value).ownBlock ∧ some k_ ≠ (.slice Ao62 t326.length co62 : Value).ownBlock ∧ some k_ ≠ (.slice Ao61 t332.length co61 : Value).ownBlock ∧ some k_ ≠ (.slice Ao66 t336.length co66 : Value).ownBlock)) (uR (Kd.R_mono HO_7.out (fun _ hk => ⟨⟨hk.1, ⟨hk.2.2.1, ⟨hk.2.2.2.1, ⟨hk.2.2.2.2.1, hk.2.2.2.2.2⟩⟩⟩⟩, hk.2.1⟩))) hg (.inl rfl)); replace HO_8 := Aside0.mk (Kd.R_after (v := (.slice (some ⟨go54, 0, none⟩) x10_1.length co21)) (v1 := (.slice (some ⟨go54, 0, none⟩) x10_1.length co21)) (ok := (fun k_ => some k_ ≠ (.slice (some ad313) x7_1.length co18 : Value).ownBlock ∧ some k_ ≠ (.slice Ao56 t323.length co56 : Value).ownBlock ∧ some k_ ≠ (.slice Ao62 t326.length co62 : Value).ownBlock ∧ some k_ ≠ (.slice Ao61 t332.length co61 : Value).ownBlock ∧ some k_ ≠ (.slice Ao66 t336.length co66 : Value).ownBlock)) (uR (Kd.R_mono HO_8.out (fun _ hk => ⟨⟨hk.2, ⟨hk.1.2.1, ⟨hk.1.2.2.1, ⟨hk.1.2.2.2.1, hk.1.2.2.2.2⟩⟩⟩⟩, hk.1.1⟩))) hg (.inl rfl)); replace HO_10 := Aside0.mk (hp_); replace HO325 := Aside0.mk (Kd.R_after (v := (.slice (some ⟨go54, 0, none⟩) x10_1.length co21)) (v1 := (.slice (some ⟨go54, 0, none⟩) x10_1.length co21)) (ok := (fun k_ => some k_ ≠ (.slice (some ad313) x7_1.length co18 : Value).ownBlock ∧ some k_ ≠ (.slice (some ad316) t307.length co17 : Value).ownBlock ∧ some k_ ≠ (.slice Ao62 t326.length co62 : Value).ownBlock ∧ some k_ ≠ (.slice Ao61 t332.length co61 : Value).ownBlock ∧ some k_ ≠ (.slice Ao66 t336.length co66 : Value).ownBlock)) (uR (Kd.R_mono HO325.out (fun _ hk => ⟨⟨hk.2, ⟨hk.1.1, ⟨hk.1.2.2.1, ⟨hk.1.2.2.2.1, hk.1.2.2.2.2⟩⟩⟩⟩, hk.1.2.1⟩))) hg (.inl rfl)); replace HO328 := Aside0.mk (Kd.R_after (v := (.slice (some ⟨go54, 0, none⟩) x10_1.length co21)) (v1 := (.slice (some ⟨go54, 0, none⟩) x10_1.length co21)) (ok := (fun k_ => some k_ ≠ (.slice (some ad313) x7_1.length co18 : Value).ownBlock ∧ some k_ ≠ (.slice (some ad316) t307.length co17 : Value).ownBlock ∧ some k_ ≠ (.slice Ao56 t323.length co56 : Value).ownBlock ∧ some k_ ≠ (.slice Ao61 t332.length co61 : Value).ownBlock ∧ some k_ ≠ (.slice Ao66 t336.length co66 : Value).ownBlock)) (uR (Kd.R_mono HO328.out (fun _ hk => ⟨⟨hk.2, ⟨hk.1.1, ⟨hk.1.2.2.1, ⟨hk.1.2.2.2.1, hk.1.2.2.2.2⟩⟩⟩⟩, hk.1.2.1⟩))) hg (.inl rfl)); replace HO334 := Aside0.mk (Kd.R_after (v := (.slice (some ⟨go54, 0, none⟩) x10_1.length co21)) (v1 := (.slice (some ⟨go54, 0, none⟩) x10_1.length co21)) (ok := (fun k_ => some k_ ≠ (.slice (some ad313) x7_1.length co18 : Value).ownBlock ∧ some k_ ≠ (.slice (some ad316) t307.length co17 : Value).ownBlock ∧ some k_ ≠ (.slice Ao56 t323.length co56 : Value).ownBlock ∧ some k_ ≠ (.slice Ao62 t326.length co62 : Value).ownBlock ∧ some k_ ≠ (.slice Ao66 t336.length co66 : Value).ownBlock)) (uR (Kd.R_mono HO334.out (fun _ hk => ⟨⟨hk.2, ⟨hk.1.1, ⟨hk.1.2.2.1, ⟨hk.1.2.2.2.1, hk.1.2.2.2.2⟩⟩⟩⟩, hk.1.2.1⟩))) hg (.inl rfl)); replace HO338 := Aside0.mk (Kd.R_after (v := (.slice (some ⟨go54, 0, none⟩) x10_1.length co21)) (v1 := (.slice (some ⟨go54, 0, none⟩) x10_1.length co21)) (ok := (fun k_ => some k_ ≠ (.slice (some ad313) x7_1.length co18 : Value).ownBlock ∧ some k_ ≠ (.slice (some ad316) t307.length co17 : Value).ownBlock ∧ some k_ ≠ (.slice Ao56 t323.length co56 : Value).ownBlock ∧ some k_ ≠ (.slice Ao62 t326.length co62 : Value).ownBlock ∧ some k_ ≠ (.slice Ao61 t332.length co61 : Value).ownBlock)) (uR (Kd.R_mono HO338.out (fun _ hk => ⟨⟨hk.2, ⟨hk.1.1, ⟨hk.1.2.2.1, ⟨hk.1.2.2.2.1, hk.1.2.2.2.2⟩⟩⟩⟩, hk.1.2.1⟩))) hg (.inl rfl)); replace HB := Aside0.mk ((by rw [hw]; exact below_set (HB.out) GB54.out : Below w.heap.size w w68)); clear hg hw hp_))
       (try simp only [← hl7_1, ← hl10_1])
       first | go_roundg k2 | ((try simp only [← hji35] at H'); simp only [← hji35]; go_roundg k2) | ((try simp only [← hji32] at H'); simp only [← hji32]; go_roundg k2) | ((try simp only [← hji29] at H'); simp only [← hji29]; go_roundg k2) | ((try simp only [← hji26] at H'); simp only [← hji26]; go_roundg k2) | ((try simp only [← hji23] at H'); simp only [← hji23]; go_roundg k2) | ((try simp only [← hji10] at H'); simp only [← hji10]; go_roundg k2)
       case measure => have := HK1.out; have := HK2.out; omega
       case rel => first | exact ⟨(y339), (y340), (wrap64 (x11_1 - 1)), uG, H', ⟨by have := HK1.out; have := HK2.out; omega⟩, ⟨by (try simp only [hl7_1]); (try simp only [hl10_1]); exact uR (Kd.R_mono HO_7.out (fun _ hk => ⟨hk.1.1, hk.2⟩))⟩, ⟨by (try simp only [hl7_1]); (try simp only [hl10_1]); exact uR (Kd.R_mono HO_8.out (fun _ hk => ⟨hk.1.1, hk.2⟩))⟩, ⟨by (try simp only [hl7_1]); (try simp only [hl10_1]); exact uR (Kd.R_mono HO_10.out (fun _ hk => ⟨hk.1, hk.2.1⟩))⟩, ⟨uB⟩⟩ | (simp only [← hji35] at H'; exact ⟨(y339), (y340), (wrap64 (x11_1 - 1)), uG, H', ⟨by have := HK1.out; have := HK2.out; omega⟩, ⟨by (try simp only [hl7_1]); (try simp only [hl10_1]); exact uR (Kd.R_mono HO_7.out (fun _ hk => ⟨hk.1.1, hk.2⟩))⟩, ⟨by (try simp only [hl7_1]); (try simp only [hl10_1]); exact uR (Kd.R_mono HO_8.out (fun _ hk => ⟨hk.1.1, hk.2⟩))⟩, ⟨by (try simp only [hl7_1]); (try simp only [hl10_1]); exact uR (Kd.R_mono HO_10.out (fun _ hk => ⟨hk.1, hk.2.1⟩))⟩, ⟨uB⟩⟩) | (simp only [← hji32] at H'; exact ⟨(y339), (y340), (wrap64 (x11_1 - 1)), uG, H', ⟨by have := HK1.out; have := HK2.out; omega⟩, ⟨by (try simp only [hl7_1]); (try simp only [hl10_1]); exact uR (Kd.R_mono HO_7.out (fun _ hk => ⟨hk.1.1, hk.2⟩))⟩, ⟨by (try simp only [hl7_1]); (try simp only [hl10_1]); exact uR (Kd.R_mono HO_8.out (fun _ hk => ⟨hk.1.1, hk.2⟩))⟩, ⟨by (try simp only [hl7_1]); (try simp only [hl10_1]); exact uR (Kd.R_mono HO_10.out (fun _ hk => ⟨hk.1, hk.2.1⟩))⟩, ⟨uB⟩⟩) | (simp only [← hji29] at H'; exact ⟨(y339), (y340), (wrap64 (x11_1 - 1)), uG, H', ⟨by have := HK1.out; have := HK2.out; omega⟩, ⟨by (try simp only [hl7_1]); (try simp only [hl10_1]); exact uR (Kd.R_mono HO_7.out (fun _ hk => ⟨hk.1.1, hk.2⟩))⟩, ⟨by (try simp only [hl7_1]); (try simp only [hl10_1]); exact uR (Kd.R_mono HO_8.out (fun _ hk => ⟨hk.1.1, hk.2⟩))⟩, ⟨by (try simp only [hl7_1]); (try simp only [hl10_1]); exact uR (Kd.R_mono HO_10.out (fun _ hk => ⟨hk.1, hk.2.1⟩))⟩, ⟨uB⟩⟩) | (simp only [← hji26] at H'; exact ⟨(y339), (y340), (wrap64 (x11_1 - 1)), uG, H', ⟨by have := HK1.out; have := HK2.out; omega⟩, ⟨by (try simp only [hl7_1]); (try simp only [hl10_1]); exact uR (Kd.R_mono HO_7.out (fun _ hk => ⟨hk.1.1, hk.2⟩))⟩, ⟨by (try simp only [hl7_1]); (try simp only [hl10_1]); exact uR (Kd.R_mono HO_8.out (fun _ hk => ⟨hk.1.1, hk.2⟩))⟩, ⟨by (try simp only [hl7_1]); (try simp only [hl10_1]); exact uR (Kd.R_mono HO_10.out (fun _ hk => ⟨hk.1, hk.2.1⟩))⟩, ⟨uB⟩⟩) | (simp only [← hji23] at H'; exact ⟨(y339), (y340), (wrap64 (x11_1 - 1)), uG, H', ⟨by have := HK1.out; have := HK2.out; omega⟩, ⟨by (try simp only [hl7_1]); (try simp only [hl10_1]); exact uR (Kd.R_mono HO_7.out (fun _ hk => ⟨hk.1.1, hk.2⟩))⟩, ⟨by (try simp only [hl7_1]); (try simp only [hl10_1]); exact uR (Kd.R_mono HO_8.out (fun _ hk => ⟨hk.1.1, hk.2⟩))⟩, ⟨by (try simp only [hl7_1]); (try simp only [hl10_1]); exact uR (Kd.R_mono HO_10.out (fun _ hk => ⟨hk.1, hk.2.1⟩))⟩, ⟨uB⟩⟩) | (simp only [← hji10] at H'; exact ⟨(y339), (y340), (wrap64 (x11_1 - 1)), uG, H', ⟨by have := HK1.out; have := HK2.out; omega⟩, ⟨by (try simp only [hl7_1]); (try simp only [hl10_1]); exact uR (Kd.R_mono HO_7.out (fun _ hk => ⟨hk.1.1, hk.2⟩))⟩, ⟨by (try simp only [hl7_1]); (try simp only [hl10_1]); exact uR (Kd.R_mono HO_8.out (fun _ hk => ⟨hk.1.1, hk.2⟩))⟩, ⟨by (try simp only [hl7_1]); (try simp only [hl10_1]); exact uR (Kd.R_mono HO_10.out (fun _ hk => ⟨hk.1, hk.2.1⟩))⟩, ⟨uB⟩⟩)
      rw [if_neg c49] at H
      have c49b0 := decide_eq_false c49
      clear c49
      have H' := Aside0.mk H
      clear H
      go_wp2_with (first | ((with_reducible refine ug 44 rfl ?_); refine uh (some 87) rfl Try.func44 #[.int .u64 x12_2] ?_; (with_reducible refine (nat_Of.calls k2 x12_2 t323 _ A44.out).mono ?_); rintro e w69 ⟨v324, rfl, ho0, hb⟩; refine ⟨_, rfl, ?_⟩; have HO325 := ulo (unw (unw (unw ho0 HO_7) HO_8) HO_10); replace HO_7 := ueR HO_7 ho0 hb; replace HO_8 := ueR HO_8 ho0 hb; replace HO_10 := ueR HO_10 ho0 hb; replace HR322 := Aside0.mk (Kd.C_below (by repeat (first | (with_reducible exact HR322.out) | (with_reducible refine Kd.C_alloc ?_ _) | (with_reducible refine Kd.C_drewN ?_ _) | (with_reducible refine Kd.C_drew ?_) | exact HR322.out)) hb); replace HB := uy hb; (try clear hb); (try clear hb2); (try clear hk); (try clear hi); (try clear ho0); obtain ⟨Ao70, co70, eo70⟩ := Kd.R_slice HO325.out; subst eo70) | ((with_reducible refine ug 90 rfl ?_); refine uh (some 88) rfl Try.func90 #[.slice (some ad316) t307.length co17, .slice Ao70 t323.length co70] ?_; (with_reducible refine (nat_school.calls k2 _ _ t307 _ _ t323 t326 _ ?side1 ?side2 ?side3 ?side4 A45.out).mono ?_); (case side1 => exact uC (Kd.R_reads' HO_8.out).2.2); (case side2 => exact (Kd.R_reads' HO_8.out).2.1); (case side3 => exact uC (Kd.R_reads' HO325.out).2.2); (case side4 => exact (Kd.R_reads' HO325.out).2.1); rintro e w71 ⟨v327, rfl, ho0, hb⟩; refine ⟨_, rfl, ?_⟩; have HO328 := ulo (unw (unw (unw (unw ho0 HO_7) HO_8) HO_10) HO325); replace HO_7 := ueR HO_7 ho0 hb; replace HO_8 := ueR HO_8 ho0 hb; replace HO_10 := ueR HO_10 ho0 hb; replace HO325 := ueR HO325 ho0 hb; replace HR322 := Aside0.mk (Kd.C_below (by repeat (first | (with_reducible exact HR322.out) | (with_reducible refine Kd.C_alloc ?_ _) | (with_reducible refine Kd.C_drewN ?_ _) | (with_reducible refine Kd.C_drew ?_) | exact HR322.out)) hb); replace HB := uy hb; (try clear hb); (try clear hb2); (try clear hk); (try clear hi); (try clear ho0)) | ((with_reducible refine ug 67 rfl ?_); refine uh (some 90) rfl Try.func67 #[.slice A43 y319.length c43] ?_; (with_reducible refine (api_Nat_uint64.calls _ _ y319 t329 _ ?side1 ?side2 A46.out).mono ?_); (case side1 => repeat (first | exact (by repeat (first | (with_reducible exact HR322.out) | (with_reducible refine Kd.C_alloc ?_ _) | (with_reducible refine Kd.C_drewN ?_ _) | (with_reducible refine Kd.C_drew ?_) | exact HR322.out)) | (with_reducible refine Kd.C_alloc ?_ _) | (with_reducible refine Kd.C_drewN ?_ _) | (with_reducible refine Kd.C_drew ?_))); (case side2 => exact HC322.out); rintro e w72 ⟨v330, rfl, ho0, hb⟩; refine ⟨_, rfl, ?_⟩; have HO331 := ulo (unw (unw (unw (unw (unw ho0 HO_7) HO_8) HO_10) HO325) HO328); replace HO_7 := ueR HO_7 ho0 hb; replace HO_8 := ueR HO_8 ho0 hb; replace HO_10 := ueR HO_10 ho0 hb; replace HO325 := ueR HO325 ho0 hb; replace HO328 := ueR HO328 ho0 hb; replace HR322 := Aside0.mk (Kd.C_below (by repeat (first | (with_reducible exact HR322.out) | (with_reducible refine Kd.C_alloc ?_ _) | (with_reducible refine Kd.C_drewN ?_ _) | (with_reducible refine Kd.C_drew ?_) | exact HR322.out)) hb); replace HB := uy hb; (try clear hb); (try clear hb2); (try clear hk); (try clear hi); (try clear ho0); obtain ⟨Ao73, co73, eo73⟩ := Kd.R_slice HO331.out; subst eo73) | ((with_reducible refine ug 72 rfl ?_); refine uh (some 91) rfl Try.func72 #[.slice Ao73 t329.length co73] ?_; (with_reducible refine (nat_trim.calls k2 (fun k_ => some k_ = (.slice Ao73 t329.length co73 : Value).ownBlock) (.slice Ao73 t329.length co73) t329 t332 w _ ?side1 ?side2 A47.out).mono ?_); (case side1 => repeat (first | (with_reducible first | exact HB.out | apply below_alloc | apply pw_below_drewN | apply below_drew1) | exact HB.out)); (case side2 => exact Kd.R_tight rfl HO331.out); rintro e w74 ⟨v333, rfl, ho0, hb, hkp⟩; refine ⟨_, rfl, ?_⟩; have HO334 := Aside0.mk (Kd.R_mono (ok' := fun k_ => some k_ ≠ (.slice (some ad313) x7_1.length co18 : Value).ownBlock ∧ some k_ ≠ (.slice (some ad316) t307.length co17 : Value).ownBlock ∧ some k_ ≠ (.slice Ao21 x10_1.length co21 : Value).ownBlock ∧ some k_ ≠ (.slice Ao70 t323.length co70 : Value).ownBlock ∧ some k_ ≠ (v327 : Value).ownBlock) ho0 (fun k_ hk_ => ⟨Or.elim hk_ (fun hs_ => fun e_ => (((HO_7.out).1 k_ e_.symm).2) hs_) (fun hn_ => (Kd.fresh' (Kd.R_lt (uR HO_7.out)) k_ hn_)), Or.elim hk_ (fun hs_ => fun e_ => (((HO_8.out).1 k_ e_.symm).2) hs_) (fun hn_ => (Kd.fresh' (Kd.R_lt (uR HO_8.out)) k_ hn_)), Or.elim hk_ (fun hs_ => fun e_ => (((HO_10.out).1 k_ e_.symm).2) hs_) (fun hn_ => (Kd.fresh' (Kd.R_lt (uR HO_10.out)) k_ hn_)), Or.elim hk_ (fun hs_ => fun e_ => (((HO325.out).1 k_ e_.symm).2) hs_) (fun hn_ => (Kd.fresh' (Kd.R_lt (uR HO325.out)) k_ hn_)), Or.elim hk_ (fun hs_ => fun e_ => (((HO328.out).1 k_ e_.symm).2) hs_) (fun hn_ => (Kd.fresh' (Kd.R_lt (uR HO328.out)) k_ hn_))⟩)); replace HO_8 := Aside0.mk (Kd.R_mono (ok' := fun k_ => some k_ ≠ (.slice (some ad313) x7_1.length co18 : Value).ownBlock ∧ some k_ ≠ (.slice Ao21 x10_1.length co21 : Value).ownBlock ∧ some k_ ≠ (.slice Ao70 t323.length co70 : Value).ownBlock ∧ some k_ ≠ (v327 : Value).ownBlock ∧ some k_ ≠ (v333 : Value).ownBlock) (Kd.R_keptB (HO_8.out) hkp (fun k_ hk_ hs_ => (hk_.2) hs_)) (fun k_ hk_ => ⟨hk_.1.1.1.1.1, hk_.1.1.1.1.2, hk_.1.1.1.2, hk_.1.1.2, fun e_ => Or.elim (ho0.1 k_ e_.symm) (fun hs_ => hk_.2.1 hs_) (fun hn_ => Nat.not_le.2 hk_.2.2 hn_)⟩)); replace HO_10 := Aside0.mk (Kd.R_mono (ok' := fun k_ => some k_ ≠ (.slice (some ad313) x7_1.length co18 : Value).ownBlock ∧ some k_ ≠ (.slice (some ad316) t307.length co17 : Value).ownBlock ∧ some k_ ≠ (.slice Ao70 t323.length co70 : Value).ownBlock ∧ some k_ ≠ (v327 : Value).ownBlock ∧ some k_ ≠ (v333 : Value).ownBlock) (Kd.R_keptB (HO_10.out) hkp (fun k_ hk_ hs_ => (hk_.2) hs_)) (fun k_ hk_ => ⟨hk_.1.1.1.1.1, hk_.1.1.1.1.2, hk_.1.1.1.2, hk_.1.1.2, fun e_ => Or.elim (ho0.1 k_ e_.symm) (fun hs_ => hk_.2.1 hs_) (fun hn_ => Nat.not_le.2 hk_.2.2 hn_)⟩)); replace HO325 := Aside0.mk (Kd.R_mono (ok' := fun k_ => some k_ ≠ (.slice (some ad313) x7_1.length co18 : Value).ownBlock ∧ some k_ ≠ (.slice (some ad316) t307.length co17 : Value).ownBlock ∧ some k_ ≠ (.slice Ao21 x10_1.length co21 : Value).ownBlock ∧ some k_ ≠ (v327 : Value).ownBlock ∧ some k_ ≠ (v333 : Value).ownBlock) (Kd.R_keptB (HO325.out) hkp (fun k_ hk_ hs_ => (hk_.2) hs_)) (fun k_ hk_ => ⟨hk_.1.1.1.1.1.2, hk_.1.1.1.1.2, hk_.1.1.1.2, hk_.1.1.2, fun e_ => Or.elim (ho0.1 k_ e_.symm) (fun hs_ => hk_.2.1 hs_) (fun hn_ => Nat.not_le.2 hk_.2.2 hn_)⟩)); replace HO328 := Aside0.mk (Kd.R_mono (ok' := fun k_ => some k_ ≠ (.slice (some ad313) x7_1.length co18 : Value).ownBlock ∧ some k_ ≠ (.slice (some ad316) t307.length co17 : Value).ownBlock ∧ some k_ ≠ (.slice Ao21 x10_1.length co21 : Value).ownBlock ∧ some k_ ≠ (.slice Ao70 t323.length co70 : Value).ownBlock ∧ some k_ ≠ (v333 : Value).ownBlock) (Kd.R_keptB (HO328.out) hkp (fun k_ hk_ hs_ => (hk_.2) hs_)) (fun k_ hk_ => ⟨hk_.1.1.1.1.1.2, hk_.1.1.1.1.2, hk_.1.1.1.2, hk_.1.1.2, fun e_ => Or.elim (ho0.1 k_ e_.symm) (fun hs_ => hk_.2.1 hs_) (fun hn_ => Nat.not_le.2 hk_.2.2 hn_)⟩)); replace HR322 := Aside0.mk ((show Kd.C (Kd.int .u64) w74 A43 y319.length y319 from by rw [Ny319.out, KA43.out]; exact Kd.C_mid (lo := (x11_1 : Int).toNat) (hi := ((wrap64 ((ji23) + 1)) : Int).toNat) (c := co18) ((Kd.R_reads' (Kd.R_mono (ok' := fun k_ => some k_ ≠ (.slice (some ad316) t307.length co17 : Value).ownBlock ∧ some k_ ≠ (.slice Ao21 x10_1.length co21 : Value).ownBlock ∧ some k_ ≠ (.slice Ao70 t323.length co70 : Value).ownBlock ∧ some k_ ≠ (v327 : Value).ownBlock ∧ some k_ ≠ (v333 : Value).ownBlock) (Kd.R_keptB (HO_7.out) hkp (fun k_ hk_ hs_ => (hk_.2) hs_)) (fun k_ hk_ => ⟨hk_.1.1.1.1.1, hk_.1.1.1.1.2, hk_.1.1.1.2, hk_.1.1.2, fun e_ => Or.elim (ho0.1 k_ e_.symm) (fun hs_ => hk_.2.1 hs_) (fun hn_ => Nat.not_le.2 hk_.2.2 hn_)⟩))).2.2) KM43.out KL43.out ((Kd.R_reads' (Kd.R_mono (ok' := fun k_ => some k_ ≠ (.slice (some ad316) t307.length co17 : Value).ownBlock ∧ some k_ ≠ (.slice Ao21 x10_1.length co21 : Value).ownBlock ∧ some k_ ≠ (.slice Ao70 t323.length co70 : Value).ownBlock ∧ some k_ ≠ (v327 : Value).ownBlock ∧ some k_ ≠ (v333 : Value).ownBlock) (Kd.R_keptB (HO_7.out) hkp (fun k_ hk_ hs_ => (hk_.2) hs_)) (fun k_ hk_ => ⟨hk_.1.1.1.1.1, hk_.1.1.1.1.2, hk_.1.1.1.2, hk_.1.1.2, fun e_ => Or.elim (ho0.1 k_ e_.symm) (fun hs_ => hk_.2.1 hs_) (fun hn_ => Nat.not_le.2 hk_.2.2 hn_)⟩))).2.1))); replace HO_7 := Aside0.mk (Kd.R_mono (ok' := fun k_ => some k_ ≠ (.slice (some ad316) t307.length co17 : Value).ownBlock ∧ some k_ ≠ (.slice Ao21 x10_1.length co21 : Value).ownBlock ∧ some k_ ≠ (.slice Ao70 t323.length co70 : Value).ownBlock ∧ some k_ ≠ (v327 : Value).ownBlock ∧ some k_ ≠ (v333 : Value).ownBlock) (Kd.R_keptB (HO_7.out) hkp (fun k_ hk_ hs_ => (hk_.2) hs_)) (fun k_ hk_ => ⟨hk_.1.1.1.1.1, hk_.1.1.1.1.2, hk_.1.1.1.2, hk_.1.1.2, fun e_ => Or.elim (ho0.1 k_ e_.symm) (fun hs_ => hk_.2.1 hs_) (fun hn_ => Nat.not_le.2 hk_.2.2 hn_)⟩)); replace HB := Aside0.mk (hb); clear HO331; (try clear hb); (try clear hkp); (try clear ho0); obtain ⟨Ao75, co75, eo75⟩ := Kd.R_slice HO334.out; subst eo75; obtain ⟨Ao76, co76, eo76⟩ := Kd.R_slice HO328.out; subst eo76) | ((with_reducible refine ug 63 rfl ?_); refine uh (some 93) rfl Try.func63 #[.slice Ao75 t332.length co75, .slice Ao76 t326.length co76] ?_; (with_reducible refine (nat_compare.calls k2 _ _ t332 _ _ t326 t335 _ ?side1 ?side2 ?side3 ?side4 A48.out).mono ?_); (case side1 => exact uC (Kd.R_reads' HO334.out).2.2); (case side2 => exact (Kd.R_reads' HO334.out).2.1); (case side3 => exact uC (Kd.R_reads' HO328.out).2.2); (case side4 => exact (Kd.R_reads' HO328.out).2.1); rintro e w' ⟨rfl, ⟨nd, rfl⟩⟩; refine ⟨_, rfl, ?_⟩))
      first | go_roundg k2 | ((try simp only [← hji35] at H'); simp only [← hji35]; go_roundg k2) | ((try simp only [← hji32] at H'); simp only [← hji32]; go_roundg k2) | ((try simp only [← hji29] at H'); simp only [← hji29]; go_roundg k2) | ((try simp only [← hji26] at H'); simp only [← hji26]; go_roundg k2) | ((try simp only [← hji23] at H'); simp only [← hji23]; go_roundg k2) | ((try simp only [← hji10] at H'); simp only [← hji10]; go_roundg k2)
      case measure => have := HK1.out; have := HK2.out; omega
      case rel => first | exact ⟨(IntKind.u64.wrap (x12_2 - 1)), uG, H', ⟨by have := HK1.out; have := HK2.out; omega⟩, ⟨by (try simp only [hl7_1]); (try simp only [hl10_1]); exact uR (Kd.R_mono HO_7.out (fun _ hk => ⟨hk.1, hk.2.1⟩))⟩, ⟨by (try simp only [hl7_1]); (try simp only [hl10_1]); exact uR (Kd.R_mono HO_8.out (fun _ hk => ⟨hk.1, hk.2.1⟩))⟩, ⟨by (try simp only [hl7_1]); (try simp only [hl10_1]); exact uR (Kd.R_mono HO_10.out (fun _ hk => ⟨hk.1, hk.2.1⟩))⟩, ⟨by repeat (first | (with_reducible exact HR322.out) | (with_reducible refine Kd.C_alloc ?_ _) | (with_reducible refine Kd.C_drewN ?_ _) | (with_reducible refine Kd.C_drew ?_) | exact HR322.out)⟩, ⟨uB⟩⟩ | (simp only [← hji35] at H'; exact ⟨(IntKind.u64.wrap (x12_2 - 1)), uG, H', ⟨by have := HK1.out; have := HK2.out; omega⟩, ⟨by (try simp only [hl7_1]); (try simp only [hl10_1]); exact uR (Kd.R_mono HO_7.out (fun _ hk => ⟨hk.1, hk.2.1⟩))⟩, ⟨by (try simp only [hl7_1]); (try simp only [hl10_1]); exact uR (Kd.R_mono HO_8.out (fun _ hk => ⟨hk.1, hk.2.1⟩))⟩, ⟨by (try simp only [hl7_1]); (try simp only [hl10_1]); exact uR (Kd.R_mono HO_10.out (fun _ hk => ⟨hk.1, hk.2.1⟩))⟩, ⟨by repeat (first | (with_reducible exact HR322.out) | (with_reducible refine Kd.C_alloc ?_ _) | (with_reducible refine Kd.C_drewN ?_ _) | (with_reducible refine Kd.C_drew ?_) | exact HR322.out)⟩, ⟨uB⟩⟩) | (simp only [← hji32] at H'; exact ⟨(IntKind.u64.wrap (x12_2 - 1)), uG, H', ⟨by have := HK1.out; have := HK2.out; omega⟩, ⟨by (try simp only [hl7_1]); (try simp only [hl10_1]); exact uR (Kd.R_mono HO_7.out (fun _ hk => ⟨hk.1, hk.2.1⟩))⟩, ⟨by (try simp only [hl7_1]); (try simp only [hl10_1]); exact uR (Kd.R_mono HO_8.out (fun _ hk => ⟨hk.1, hk.2.1⟩))⟩, ⟨by (try simp only [hl7_1]); (try simp only [hl10_1]); exact uR (Kd.R_mono HO_10.out (fun _ hk => ⟨hk.1, hk.2.1⟩))⟩, ⟨by repeat (first | (with_reducible exact HR322.out) | (with_reducible refine Kd.C_alloc ?_ _) | (with_reducible refine Kd.C_drewN ?_ _) | (with_reducible refine Kd.C_drew ?_) | exact HR322.out)⟩, ⟨uB⟩⟩) | (simp only [← hji29] at H'; exact ⟨(IntKind.u64.wrap (x12_2 - 1)), uG, H', ⟨by have := HK1.out; have := HK2.out; omega⟩, ⟨by (try simp only [hl7_1]); (try simp only [hl10_1]); exact uR (Kd.R_mono HO_7.out (fun _ hk => ⟨hk.1, hk.2.1⟩))⟩, ⟨by (try simp only [hl7_1]); (try simp only [hl10_1]); exact uR (Kd.R_mono HO_8.out (fun _ hk => ⟨hk.1, hk.2.1⟩))⟩, ⟨by (try simp only [hl7_1]); (try simp only [hl10_1]); exact uR (Kd.R_mono HO_10.out (fun _ hk => ⟨hk.1, hk.2.1⟩))⟩, ⟨by repeat (first | (with_reducible exact HR322.out) | (with_reducible refine Kd.C_alloc ?_ _) | (with_reducible refine Kd.C_drewN ?_ _) | (with_reducible refine Kd.C_drew ?_) | exact HR322.out)⟩, ⟨uB⟩⟩) | (simp only [← hji26] at H'; exact ⟨(IntKind.u64.wrap (x12_2 - 1)), uG, H', ⟨by have := HK1.out; have := HK2.out; omega⟩, ⟨by (try simp only [hl7_1]); (try simp only [hl10_1]); exact uR (Kd.R_mono HO_7.out (fun _ hk => ⟨hk.1, hk.2.1⟩))⟩, ⟨by (try simp only [hl7_1]); (try simp only [hl10_1]); exact uR (Kd.R_mono HO_8.out (fun _ hk => ⟨hk.1, hk.2.1⟩))⟩, ⟨by (try simp only [hl7_1]); (try simp only [hl10_1]); exact uR (Kd.R_mono HO_10.out (fun _ hk => ⟨hk.1, hk.2.1⟩))⟩, ⟨by repeat (first | (with_reducible exact HR322.out) | (with_reducible refine Kd.C_alloc ?_ _) | (with_reducible refine Kd.C_drewN ?_ _) | (with_reducible refine Kd.C_drew ?_) | exact HR322.out)⟩, ⟨uB⟩⟩) | (simp only [← hji23] at H'; exact ⟨(IntKind.u64.wrap (x12_2 - 1)), uG, H', ⟨by have := HK1.out; have := HK2.out; omega⟩, ⟨by (try simp only [hl7_1]); (try simp only [hl10_1]); exact uR (Kd.R_mono HO_7.out (fun _ hk => ⟨hk.1, hk.2.1⟩))⟩, ⟨by (try simp only [hl7_1]); (try simp only [hl10_1]); exact uR (Kd.R_mono HO_8.out (fun _ hk => ⟨hk.1, hk.2.1⟩))⟩, ⟨by (try simp only [hl7_1]); (try simp only [hl10_1]); exact uR (Kd.R_mono HO_10.out (fun _ hk => ⟨hk.1, hk.2.1⟩))⟩, ⟨by repeat (first | (with_reducible exact HR322.out) | (with_reducible refine Kd.C_alloc ?_ _) | (with_reducible refine Kd.C_drewN ?_ _) | (with_reducible refine Kd.C_drew ?_) | exact HR322.out)⟩, ⟨uB⟩⟩) | (simp only [← hji10] at H'; exact ⟨(IntKind.u64.wrap (x12_2 - 1)), uG, H', ⟨by have := HK1.out; have := HK2.out; omega⟩, ⟨by (try simp only [hl7_1]); (try simp only [hl10_1]); exact uR (Kd.R_mono HO_7.out (fun _ hk => ⟨hk.1, hk.2.1⟩))⟩, ⟨by (try simp only [hl7_1]); (try simp only [hl10_1]); exact uR (Kd.R_mono HO_8.out (fun _ hk => ⟨hk.1, hk.2.1⟩))⟩, ⟨by (try simp only [hl7_1]); (try simp only [hl10_1]); exact uR (Kd.R_mono HO_10.out (fun _ hk => ⟨hk.1, hk.2.1⟩))⟩, ⟨by repeat (first | (with_reducible exact HR322.out) | (with_reducible refine Kd.C_alloc ?_ _) | (with_reducible refine Kd.C_drewN ?_ _) | (with_reducible refine Kd.C_drew ?_) | exact HR322.out)⟩, ⟨uB⟩⟩)
   rw [if_neg c22] at H
   have c22b0 := decide_eq_false c22
   clear c22
   replace H := ub H; obtain ⟨t341, A77, H⟩ := H
   replace H := uT H; obtain ⟨c78, H⟩ := H
   have c78b0 := eq_true c78
   have c78b1 := decide_eq_true c78
   clear c78
   replace H := uT H; obtain ⟨c79, H⟩ := H
   have c79b0 := eq_true c79
   have c79b1 := decide_eq_true c79
   clear c79
   obtain ⟨y344, hy344⟩ : ∃ y_ : List Int, y_ = (List.replicate ((t341.length : Int) : Int).toNat 0) := ⟨_, rfl⟩
   replace H : (nat_long.l2 k1 (IntKind.u64.wrap (t300)) x10_1 t341 y344 (t341.length : Int) 0) = some (r1, r2) := by first | (rw [hy344]; with_reducible exact H) | (have H2_ := (Option.bind_some _ _).symm.trans H; rw [hy344]; with_reducible exact H2_) | (have H2_ := (Option.bind_some _ _).symm.trans H; with_reducible exact H2_) | with_reducible exact H | (rw [hy344]; exact H) | exact H
   have Ny344 := Aside0.mk hy344; clear hy344
   have H' := Aside0.mk H
   clear H
   go_wp2_with (first | ((with_reducible refine ug 72 rfl ?_); refine uh (some 107) rfl Try.func72 #[.slice Ao18 x7_1.length co18] ?_; (with_reducible refine (nat_trim.calls k1 (fun k_ => some k_ = (.slice Ao18 x7_1.length co18 : Value).ownBlock) (.slice Ao18 x7_1.length co18) x7_1 t341 w _ ?side1 ?side2 A77.out).mono ?_); (case side1 => repeat (first | (with_reducible first | exact HB.out | apply below_alloc | apply pw_below_drewN | apply below_drew1) | exact HB.out)); (case side2 => exact Kd.R_tight rfl HO_7.out); rintro e w80 ⟨v342, rfl, ho0, hb, hkp⟩; refine ⟨_, rfl, ?_⟩; have HO343 := Aside0.mk (Kd.R_mono (ok' := fun k_ => some k_ ≠ (.slice Ao17 t307.length co17 : Value).ownBlock ∧ some k_ ≠ (.slice Ao21 x10_1.length co21 : Value).ownBlock) ho0 (fun k_ hk_ => ⟨Or.elim hk_ (fun hs_ => fun e_ => (((HO_8.out).1 k_ e_.symm).1) hs_) (fun hn_ => (Kd.fresh' (Kd.R_lt (uR HO_8.out)) k_ hn_)), Or.elim hk_ (fun hs_ => fun e_ => (((HO_10.out).1 k_ e_.symm).1) hs_) (fun hn_ => (Kd.fresh' (Kd.R_lt (uR HO_10.out)) k_ hn_))⟩)); replace HO_8 := Aside0.mk (Kd.R_mono (ok' := fun k_ => some k_ ≠ (.slice Ao21 x10_1.length co21 : Value).ownBlock ∧ some k_ ≠ (v342 : Value).ownBlock) (Kd.R_keptB (HO_8.out) hkp (fun k_ hk_ hs_ => (hk_.1) hs_)) (fun k_ hk_ => ⟨hk_.1.2, fun e_ => Or.elim (ho0.1 k_ e_.symm) (fun hs_ => hk_.2.1 hs_) (fun hn_ => Nat.not_le.2 hk_.2.2 hn_)⟩)); replace HO_10 := Aside0.mk (Kd.R_mono (ok' := fun k_ => some k_ ≠ (.slice Ao17 t307.length co17 : Value).ownBlock ∧ some k_ ≠ (v342 : Value).ownBlock) (Kd.R_keptB (HO_10.out) hkp (fun k_ hk_ hs_ => (hk_.1) hs_)) (fun k_ hk_ => ⟨hk_.1.2, fun e_ => Or.elim (ho0.1 k_ e_.symm) (fun hs_ => hk_.2.1 hs_) (fun hn_ => Nat.not_le.2 hk_.2.2 hn_)⟩)); replace HB := Aside0.mk (hb); clear HO_7; (try clear hb); (try clear hkp); (try clear ho0); obtain ⟨Ao81, co81, eo81⟩ := Kd.R_slice HO343.out; subst eo81) | ((with_reducible refine gate_dst (N := 110) rfl ?_); (try (refine gate_guard (by rfl) ?_; dsimp only)); refine Kd.R_make (Kd.int .u64) _ 42 rfl (N := 110) rfl 23 _ _ rfl (t341.length : Int) rfl rfl Try.underlying23 (.int .u64 0) 8 info42 rfl (by decide) (by omega) 0 (ok := fun _ => True) (okp := fun _ => True) rfl (fun _ hk => hk) trivial uO (Nat.le_trans (Nat.mul_le_mul_right _ (uO : (t341.length : Int).toNat ≤ 35184372088832)) (by omega)) (Below.refl _ _) (Nat.le_refl _) ?_; intro v345 w82 ho83 hb hg_ hnew_; clear hg_ hnew_; (first | rw [← Ny344.out] at ho83 | (simp only [Int.reduceToNat] at ho83; rw [← Ny344.out] at ho83)); have HO346 := ulo (unw (unw (unw ho83 HO_8) HO_10) HO343); replace HO_8 := ueR HO_8 ho83 hb; replace HO_10 := ueR HO_10 ho83 hb; replace HO343 := ueR HO343 ho83 hb; replace HB := uy hb; clear hb ho83))
   go_loopg [113] k1 (fun kq v113 w' => ∃ (x16_2 : List Int) (x113_2 : Int), v113 = .int .i64 x113_2 ∧ Aside0 (nat_long.l2 kq (IntKind.u64.wrap (t300)) x10_1 t341 x16_2 (t341.length : Int) x113_2 = some (r1, r2)) ∧ Aside0 (kq ≤ k1) ∧ Aside0 (Kd.R (Kd.int .u64) 42 w' w.heap.size (fun k_ => some k_ ≠ ((.slice Ao81 t341.length co81) : Value).ownBlock ∧ some k_ ≠ (v345 : Value).ownBlock) (.slice Ao21 x10_1.length co21) x10_1) ∧ Aside0 (Kd.R (Kd.int .u64) 42 w' w.heap.size (fun k_ => some k_ ≠ ((.slice Ao21 x10_1.length co21) : Value).ownBlock ∧ some k_ ≠ (v345 : Value).ownBlock) (.slice Ao81 t341.length co81) t341) ∧ Aside0 (Kd.R (Kd.int .u64) 42 w' w.heap.size (fun k_ => some k_ ≠ ((.slice Ao21 x10_1.length co21) : Value).ownBlock ∧ some k_ ≠ ((.slice Ao81 t341.length co81) : Value).ownBlock) v345 x16_2) ∧ Aside0 (Below w.heap.size w w'))
   case atStart => exact ⟨(y344), (0), uG, H', ⟨Nat.le_refl _⟩, ⟨by (try simp only [hl7_1]); (try simp only [hl10_1]); exact uR (Kd.R_mono HO_10.out (fun _ hk => ⟨hk.1.2, hk.2⟩))⟩, ⟨by (try simp only [hl7_1]); (try simp only [hl10_1]); exact uR (Kd.R_mono HO343.out (fun _ hk => ⟨hk.1.2, hk.2⟩))⟩, ⟨by (try simp only [hl7_1]); (try simp only [hl10_1]); exact uR (Kd.R_mono HO346.out (fun _ hk => ⟨hk.1.2, hk.2⟩))⟩, ⟨uB⟩⟩
   case round =>
    clear H'
    ; (try clear q2 q2); (try clear hx2); (try clear q3 q3); (try clear hx3); (try clear q4 q4); (try clear q5); (try clear hx5); (try clear hf5); (try clear q29 q29); (try clear hx29); (try clear q31 q31); (try clear hx31); (try clear q43 q43); (try clear q54 q54); (try clear hx54 hx54_0); (try clear hf54); (try clear hx299_0); (try clear hx313_0); (try clear hx314_0); (try clear hx315_0); (try clear hx316_0); (try clear hx317_0); (try clear q043); (try clear q299); (try clear q313); (try clear q314); (try clear q315); (try clear q316); (try clear q317)
    obtain ⟨x16_2, x113_2, rfl, HA, HK2, HO_10, HO_15, HO_16, HB⟩ := hrel
    cases gk with
    | zero => exact absurd HA.out (by simp [nat_long.l2])
    | succ k2 =>
     have H := HA.out
     clear HA
     simp only [nat_long.l2] at H
     by_cases c84 : x113_2 < (t341.length : Int)
     ·
      rw [if_pos c84] at H
      have c84b0 := decide_eq_true c84
      (try (have c84b0h0 := c84b0; simp only [hl7_1] at c84b0h0))
      (try (have c84b0h1 := c84b0; simp only [hl10_1] at c84b0h1))
      clear c84
      replace H := uT H; obtain ⟨c85, H⟩ := H
      have c85b0 := decide_eq_true c85
      clear c85
      replace H := uT H; obtain ⟨c86, H⟩ := H
      have c86b0 := decide_eq_true c86
      (try (have c86b0h0 := c86b0; simp only [hl7_1] at c86b0h0))
      (try (have c86b0h1 := c86b0; simp only [hl10_1] at c86b0h1))
      clear c86
      obtain ⟨ji87, hji87⟩ : ∃ j_ : Int, (IntKind.u64.wrap (t300)) = j_ := ⟨_, rfl⟩
      first | rw [hji87] at H | simp only [hji87] at H
      replace H := uT H; obtain ⟨c88, H⟩ := H
      have c88b0 := eq_true c88
      have c88b1 := decide_eq_true c88
      clear c88
      obtain ⟨ji89, hji89⟩ : ∃ j_ : Int, (shr .u64 (rd t341 x113_2) (ji87)) = j_ := ⟨_, rfl⟩
      first | rw [hji89] at H | simp only [hji89] at H
      have hji89_ : ((rd t341 x113_2) / 2 ^ min (ji87).toNat 64) = ji89 := hji89
      have hji89z : (ji87) ≤ 64 → ((rd t341 x113_2) / 2 ^ (ji87).toNat) = ji89 := shr_small hji89
      replace H := uT H; obtain ⟨c90, H⟩ := H
      have c90b0 := decide_eq_true c90
      (try (have c90b0h0 := c90b0; simp only [hl7_1] at c90b0h0))
      (try (have c90b0h1 := c90b0; simp only [hl10_1] at c90b0h1))
      clear c90
      replace H := ubs H; obtain ⟨y348, hy348, H⟩ := H
      have Ny348 := Aside0.mk hy348; clear hy348
      by_cases c92 : (ji87) > 0
      ·
       rw [if_pos c92] at H
       have c92b0 := decide_eq_true c92
       clear c92
       by_cases c93 : (wrap64 (x113_2 + 1)) < (t341.length : Int)
       ·
        rw [if_pos c93] at H
        have c93b0 := decide_eq_true c93
        (try (have c93b0h0 := c93b0; simp only [hl7_1] at c93b0h0))
        (try (have c93b0h1 := c93b0; simp only [hl10_1] at c93b0h1))
        clear c93
        obtain ⟨ji94, hji94⟩ : ∃ j_ : Int, (wrap64 (x113_2 + 1)) = j_ := ⟨_, rfl⟩
        first | rw [hji94] at H | simp only [hji94] at H
        (try rw [hji94] at c93b0)
        have hji94w : (IntKind.i64.wrap (x113_2 + 1)) = ji94 := (i64_w _).trans hji94
        replace H := uT H; obtain ⟨c95, H⟩ := H
        have c95b0 := decide_eq_true c95
        clear c95
        obtain ⟨ji96, hji96⟩ : ∃ j_ : Int, (IntKind.u64.wrap (64 - (ji87))) = j_ := ⟨_, rfl⟩
        first | rw [hji96] at H | simp only [hji96] at H
        replace H := uT H; obtain ⟨c97, H⟩ := H
        have c97b0 := eq_true c97
        have c97b1 := decide_eq_true c97
        clear c97
        obtain ⟨ji98, hji98⟩ : ∃ j_ : Int, (shl .u64 (rd t341 (ji94)) (ji96)) = j_ := ⟨_, rfl⟩
        first | rw [hji98] at H | simp only [hji98] at H
        have hji98_ : (IntKind.u64.wrap ((rd t341 (ji94)) * 2 ^ min (ji96).toNat 64)) = ji98 := hji98
        have hji98z : (ji96) ≤ 64 → (IntKind.u64.wrap ((rd t341 (ji94)) * 2 ^ (ji96).toNat)) = ji98 := shl_small hji98
        obtain ⟨y351, hy351⟩ : ∃ y_ : List Int, y_ = (y348.set (x113_2 : Int).toNat (Go.bits .or .u64 (rd y348 x113_2) (ji98))) := ⟨_, rfl⟩
        replace H : (nat_long.l2 k2 (ji87) x10_1 t341 y351 (t341.length : Int) ji94) = some (r1, r2) := by first | (rw [hy351]; with_reducible exact H) | (have H2_ := (Option.bind_some _ _).symm.trans H; rw [hy351]; with_reducible exact H2_) | (have H2_ := (Option.bind_some _ _).symm.trans H; with_reducible exact H2_) | with_reducible exact H | (rw [hy351]; exact H) | exact H
        have Ny351 := Aside0.mk hy351; clear hy351
        have H' := Aside0.mk H
        clear H
        have p347 := eq_true (uO : 0 ≤ (x113_2 : Int))
        have q347 := eq_true (uO : x113_2 < (t341.length : Int))
        obtain ⟨ad347, e347, hx347_0⟩ := Kd.at_int (Kd.R_reads' HO_15.out).2.2 x113_2 uO uO
        cases e347
        have p91 : 0 ≤ (x113_2 : Int) := uO
        have q91 : (x113_2 : Int) < ((x16_2.length : Int) : Int) := uO
        obtain ⟨go91, co91, eo91, gb91, gl91, cl91, HG91⟩ := Kd.R_form HO_16.out (by omega)
        (first | cases eo91 | (injection eo91 with ea_ en_ ec_; (first | subst ea_ | (injection ea_ with ea_; subst ea_)); subst ec_; clear en_))
        have GB91 := Aside0.mk gb91; have GG91 := Aside0.mk HG91; clear gb91 gl91 HG91
        obtain ⟨hx91_0, hf91_0⟩ := Kd.R_celln 0 HO_16.out (x113_2 : Int) p91 q91
        replace p91 := eq_true p91
        replace q91 := eq_true q91
        have HP100 := Kd.R_putg HO_16.out (x113_2 : Int) ji89
        try go_wp2_with (first | ((with_reducible refine gate_store (t := 42) (p := 124) rfl ?_); refine store_event (t := 42) (p := 124) (v := ?vo_w101) (w1 := (wr.setCell ⟨go91, (x113_2 : Int).toNat, none⟩ (.int .u64 ji89))) ?hg ?ho ?hn ?hr ?_; (case ho => rfl); (case hg => rfl); (case hn => rfl); (case hr => first | (go_simp; done) | (go_simp; rfl) | (obtain ⟨hy_, hz_⟩ := Kd.R_celln 0 HO_16.out (x113_2 : Int) uO uO; (try simp only [Go.IntWalk.toNatUp] at hy_ hz_); (try simp only [Int.reduceToNat, Int.toNat_zero, Int.toNat_ofNat] at hy_ hz_); first | (go_simp; done) | (go_simp; rfl))); intro w101 hw; have hg : wr.grownBy w101 (some go91) := (by rw [hw]; exact HP100.2); have hp_ : Kd.R (Kd.int .u64) 42 w101 w.heap.size (fun k_ => some k_ ≠ (.slice Ao21 x10_1.length co21 : Value).ownBlock ∧ some k_ ≠ (.slice (some ad347) t341.length co81 : Value).ownBlock) (.slice (some ⟨go91, 0, none⟩) x16_2.length co91) y348 := (by rw [hw, Ny348.out]; exact HP100.1); clear HP100; replace HO_10 := Aside0.mk (Kd.R_after (v := (.slice (some ⟨go91, 0, none⟩) x16_2.length co91)) (v1 := (.slice (some ⟨go91, 0, none⟩) x16_2.length co91)) (ok := (fun k_ => some k_ ≠ (.slice (some ad347) t341.length co81 : Value).ownBlock)) (uR HO_10.out) hg (.inl rfl)); replace HO_15 := Aside0.mk (Kd.R_after (v := (.slice (some ⟨go91, 0, none⟩) x16_2.length co91)) (v1 := (.slice (some ⟨go91, 0, none⟩) x16_2.length co91)) (ok := (fun k_ => some k_ ≠ (.slice Ao21 x10_1.length co21 : Value).ownBlock)) (uR HO_15.out) hg (.inl rfl)); replace HO_16 := Aside0.mk (hp_); replace HB := Aside0.mk ((by rw [hw]; exact below_set (HB.out) GB91.out : Below w.heap.size w w101)); clear hg hw hp_))
        replace HO_10 := Aside0.mk (Kd.R_drew HO_10.out); replace HO_15 := Aside0.mk (Kd.R_drew HO_15.out); replace HO_16 := Aside0.mk (Kd.R_drew HO_16.out); replace HB := Aside0.mk (below_drew1 HB.out)
        have p349 : 0 ≤ (x113_2 : Int) := uO
        have q349 : x113_2 < (y348.length : Int) := (by have h_ : (x113_2 : Int) < ((x16_2.length : Int) : Int) := uO; first | (have e_ := (Kd.R_reads' HO_16.out).1; omega) | simpa only [Ny348.out, List.length_set] using h_)
        have ql349 : ((x113_2 : Int) < ((x16_2.length : Int) : Int)) = True := eq_true uO
        obtain ⟨ad349, e349, hx349_0⟩ := Kd.at_int (Kd.R_reads' HO_16.out).2.2 x113_2 p349 q349
        obtain rfl : (⟨go91, 0, none⟩ : Addr) = ad349 := (by injection e349)
        (first | simp only [add_plain] at hx349_0 | simp only [add_at] at hx349_0 | simp only [Addr.add, Nat.zero_add] at hx349_0 | skip)
        replace p349 := eq_true p349
        replace q349 := eq_true q349
        have p350 : 0 ≤ ((ji94) : Int) := uO
        have q350 : (ji94) < (t341.length : Int) := uO
        obtain ⟨ad350, e350, hx350_0⟩ := Kd.at_int (Kd.R_reads' HO_15.out).2.2 (ji94) p350 q350
        obtain rfl : ad347 = ad350 := (by injection e350)
        replace p350 := eq_true p350
        replace q350 := eq_true q350
        have p99 : 0 ≤ (x113_2 : Int) := uO
        have q99 : (x113_2 : Int) < ((x16_2.length : Int) : Int) := uO
        obtain ⟨hx99_0, hf99_0⟩ := Kd.R_celln 0 HO_16.out (x113_2 : Int) p99 q99
        replace p99 := eq_true p99
        replace q99 := eq_true q99
        have HP103 := Kd.R_putn HO_16.out (x113_2 : Int) (Go.bits .or .u64 (rd y348 x113_2) (ji98))
        rw [← Ny351.out] at HP103
        have HQ103 := Aside0.mk HP103; clear HP103
        refine start_ (n := 15) (S := fun w' => w'.cell? ⟨go91, (x113_2).toNat, none⟩ = some (.int .u64 (rd y348 x113_2)) ∧ w'.cell? (ad347.add ((ji94)).toNat) = some (.int .u64 (rd t341 (ji94)))) (ds := [14]) (.replicate 15 false) (by kernel_rfl) rfl rfl ⟨hx349_0, hx350_0⟩ (fun hHeld => ?_); refine with_tabW nat_long.tab22 nat_long.bits22 (fun HT_ HW_ => ?_)
        generalize w101.drew = w102 at HO_10 HO_15 HO_16 HB HQ103 hf99_0 hx349_0 hx350_0 hx99_0 hHeld ⊢
        refine upu 0 (some 134) (uA 15 1) rfl rfl HT_ ?_
        refine upu 1 (some 135) (uA 15 3) rfl rfl HT_ ?_
        refine upu 2 (some 136) (uA 15 7) rfl rfl HT_ ?_
        refine upu 4 (some 138) (uA 15 23) rfl rfl HT_ ?_
        refine upu 5 (some 139) (uA 15 55) rfl rfl HT_ ?_
        refine upu 6 (some 140) (uA 15 119) rfl rfl HT_ ?_
        refine upu 7 (some 141) (uA 15 247) rfl rfl HT_ ?_
        refine upu 9 (some 143) (uA 15 759) rfl rfl HT_ ?_
        refine upu 10 (some 144) (uA 15 1783) rfl rfl HT_ ?_
        refine take_ (i := 3) (N := some 137) (v := ?_) (a' := ?_) (uA 15 1791) rfl rfl (take_ofW HT_.out HW_.out (by kernel_rfl)) (fun _ _ _ h => h) (Or.inl ⟨by rfl, ?_⟩) hHeld ?_ ?_
        rotate_left
        ·
         rintro w' ⟨s0, s1⟩
         go_simp
         with_reducible rfl
        rotate_left
        · exact uQ
        refine take_ (i := 8) (N := some 142) (v := ?_) (a' := ?_) (uA 15 2047) rfl rfl (take_ofW HT_.out HW_.out (by kernel_rfl)) (fun _ _ _ h => h) (Or.inl ⟨by rfl, ?_⟩) hHeld ?_ ?_
        rotate_left
        ·
         rintro w' ⟨s0, s1⟩
         go_simp
         with_reducible rfl
        rotate_left
        · exact uQ
        refine upu 11 (some 145) (uA 15 4095) rfl rfl HT_ ?_
        refine upu 12 (some 146) (uA 15 8191) rfl rfl HT_ ?_
        refine upu 13 (some 147) (uA 15 16383) rfl rfl HT_ ?_
        refine last_ (i := 14) (N := none) (uA 15 32767) rfl rfl (one_of HT_.out (by kernel_rfl)) (by decide) (fun K hK => ?_)
        refine skip_ (w1 := ?_) (by rfl) rfl ?_ ?_
        rotate_left
        ·
         go_simp
         rfl
        refine hK.out _ _ ?_; clear hK K
        refine done_ (done_of HT_.out (by kernel_rfl)) ?_
        try go_wp2
        first | go_roundg k2 | ((try simp only [← hji98] at H'); simp only [← hji98]; go_roundg k2) | ((try simp only [← hji96] at H'); simp only [← hji96]; go_roundg k2) | ((try simp only [← hji94] at H'); simp only [← hji94]; go_roundg k2) | ((try simp only [← hji89] at H'); simp only [← hji89]; go_roundg k2) | ((try simp only [← hji87] at H'); simp only [← hji87]; go_roundg k2) | ((try simp only [← hji35] at H'); simp only [← hji35]; go_roundg k2)
        case measure => have := HK1.out; have := HK2.out; omega
        case rel => first | exact ⟨(y351), (ji94), (by first | rfl | (simp; done) | (simp only [← hji94] <;> (first | rfl | simp)) | (simp [*]; done)), H', ⟨by have := HK1.out; have := HK2.out; omega⟩, ⟨by (try simp only [hl7_1]); (try simp only [hl10_1]); exact uR (Kd.R_mono (Kd.R_far (p := ⟨go91, (x113_2 : Int).toNat, none⟩) (Kd.R_mono HO_10.out (fun k_ hk => (⟨hk, fun e_ => hk.2 (by rw [e_]; rfl)⟩ : _ ∧ k_ ≠ go91))) (fun _ hk => hk.2) (.int .u64 (Go.bits .or .u64 (rd y348 x113_2) (ji98)))) (fun _ hk => ⟨hk.1.1, hk.1.2⟩))⟩, ⟨by (try simp only [hl7_1]); (try simp only [hl10_1]); exact uR (Kd.R_mono (Kd.R_far (p := ⟨go91, (x113_2 : Int).toNat, none⟩) (Kd.R_mono HO_15.out (fun k_ hk => (⟨hk, fun e_ => hk.2 (by rw [e_]; rfl)⟩ : _ ∧ k_ ≠ go91))) (fun _ hk => hk.2) (.int .u64 (Go.bits .or .u64 (rd y348 x113_2) (ji98)))) (fun _ hk => ⟨hk.1.1, hk.1.2⟩))⟩, ⟨by (try simp only [hl7_1]); (try simp only [hl10_1]); exact uR HQ103.out⟩, ⟨uB⟩⟩ | (simp only [← hji98] at H'; exact ⟨(y351), (ji94), (by first | rfl | (simp; done) | (simp only [← hji94] <;> (first | rfl | simp)) | (simp [*]; done)), H', ⟨by have := HK1.out; have := HK2.out; omega⟩, ⟨by (try simp only [hl7_1]); (try simp only [hl10_1]); exact uR (Kd.R_mono (Kd.R_far (p := ⟨go91, (x113_2 : Int).toNat, none⟩) (Kd.R_mono HO_10.out (fun k_ hk => (⟨hk, fun e_ => hk.2 (by rw [e_]; rfl)⟩ : _ ∧ k_ ≠ go91))) (fun _ hk => hk.2) (.int .u64 (Go.bits .or .u64 (rd y348 x113_2) (ji98)))) (fun _ hk => ⟨hk.1.1, hk.1.2⟩))⟩, ⟨by (try simp only [hl7_1]); (try simp only [hl10_1]); exact uR (Kd.R_mono (Kd.R_far (p := ⟨go91, (x113_2 : Int).toNat, none⟩) (Kd.R_mono HO_15.out (fun k_ hk => (⟨hk, fun e_ => hk.2 (by rw [e_]; rfl)⟩ : _ ∧ k_ ≠ go91))) (fun _ hk => hk.2) (.int .u64 (Go.bits .or .u64 (rd y348 x113_2) (ji98)))) (fun _ hk => ⟨hk.1.1, hk.1.2⟩))⟩, ⟨by (try simp only [hl7_1]); (try simp only [hl10_1]); exact uR HQ103.out⟩, ⟨uB⟩⟩) | (simp only [← hji96] at H'; exact ⟨(y351), (ji94), (by first | rfl | (simp; done) | (simp only [← hji94] <;> (first | rfl | simp)) | (simp [*]; done)), H', ⟨by have := HK1.out; have := HK2.out; omega⟩, ⟨by (try simp only [hl7_1]); (try simp only [hl10_1]); exact uR (Kd.R_mono (Kd.R_far (p := ⟨go91, (x113_2 : Int).toNat, none⟩) (Kd.R_mono HO_10.out (fun k_ hk => (⟨hk, fun e_ => hk.2 (by rw [e_]; rfl)⟩ : _ ∧ k_ ≠ go91))) (fun _ hk => hk.2) (.int .u64 (Go.bits .or .u64 (rd y348 x113_2) (ji98)))) (fun _ hk => ⟨hk.1.1, hk.1.2⟩))⟩, ⟨by (try simp only [hl7_1]); (try simp only [hl10_1]); exact uR (Kd.R_mono (Kd.R_far (p := ⟨go91, (x113_2 : Int).toNat, none⟩) (Kd.R_mono HO_15.out (fun k_ hk => (⟨hk, fun e_ => hk.2 (by rw [e_]; rfl)⟩ : _ ∧ k_ ≠ go91))) (fun _ hk => hk.2) (.int .u64 (Go.bits .or .u64 (rd y348 x113_2) (ji98)))) (fun _ hk => ⟨hk.1.1, hk.1.2⟩))⟩, ⟨by (try simp only [hl7_1]); (try simp only [hl10_1]); exact uR HQ103.out⟩, ⟨uB⟩⟩) | (simp only [← hji94] at H'; exact ⟨(y351), (ji94), (by first | rfl | (simp; done) | (simp only [← hji94] <;> (first | rfl | simp)) | (simp [*]; done)), H', ⟨by have := HK1.out; have := HK2.out; omega⟩, ⟨by (try simp only [hl7_1]); (try simp only [hl10_1]); exact uR (Kd.R_mono (Kd.R_far (p := ⟨go91, (x113_2 : Int).toNat, none⟩) (Kd.R_mono HO_10.out (fun k_ hk => (⟨hk, fun e_ => hk.2 (by rw [e_]; rfl)⟩ : _ ∧ k_ ≠ go91))) (fun _ hk => hk.2) (.int .u64 (Go.bits .or .u64 (rd y348 x113_2) (ji98)))) (fun _ hk => ⟨hk.1.1, hk.1.2⟩))⟩, ⟨by (try simp only [hl7_1]); (try simp only [hl10_1]); exact uR (Kd.R_mono (Kd.R_far (p := ⟨go91, (x113_2 : Int).toNat, none⟩) (Kd.R_mono HO_15.out (fun k_ hk => (⟨hk, fun e_ => hk.2 (by rw [e_]; rfl)⟩ : _ ∧ k_ ≠ go91))) (fun _ hk => hk.2) (.int .u64 (Go.bits .or .u64 (rd y348 x113_2) (ji98)))) (fun _ hk => ⟨hk.1.1, hk.1.2⟩))⟩, ⟨by (try simp only [hl7_1]); (try simp only [hl10_1]); exact uR HQ103.out⟩, ⟨uB⟩⟩) | (simp only [← hji89] at H'; exact ⟨(y351), (ji94), (by first | rfl | (simp; done) | (simp only [← hji94] <;> (first | rfl | simp)) | (simp [*]; done)), H', ⟨by have := HK1.out; have := HK2.out; omega⟩, ⟨by (try simp only [hl7_1]); (try simp only [hl10_1]); exact uR (Kd.R_mono (Kd.R_far (p := ⟨go91, (x113_2 : Int).toNat, none⟩) (Kd.R_mono HO_10.out (fun k_ hk => (⟨hk, fun e_ => hk.2 (by rw [e_]; rfl)⟩ : _ ∧ k_ ≠ go91))) (fun _ hk => hk.2) (.int .u64 (Go.bits .or .u64 (rd y348 x113_2) (ji98)))) (fun _ hk => ⟨hk.1.1, hk.1.2⟩))⟩, ⟨by (try simp only [hl7_1]); (try simp only [hl10_1]); exact uR (Kd.R_mono (Kd.R_far (p := ⟨go91, (x113_2 : Int).toNat, none⟩) (Kd.R_mono HO_15.out (fun k_ hk => (⟨hk, fun e_ => hk.2 (by rw [e_]; rfl)⟩ : _ ∧ k_ ≠ go91))) (fun _ hk => hk.2) (.int .u64 (Go.bits .or .u64 (rd y348 x113_2) (ji98)))) (fun _ hk => ⟨hk.1.1, hk.1.2⟩))⟩, ⟨by (try simp only [hl7_1]); (try simp only [hl10_1]); exact uR HQ103.out⟩, ⟨uB⟩⟩) | (simp only [← hji87] at H'; exact ⟨(y351), (ji94), (by first | rfl | (simp; done) | (simp only [← hji94] <;> (first | rfl | simp)) | (simp [*]; done)), H', ⟨by have := HK1.out; have := HK2.out; omega⟩, ⟨by (try simp only [hl7_1]); (try simp only [hl10_1]); exact uR (Kd.R_mono (Kd.R_far (p := ⟨go91, (x113_2 : Int).toNat, none⟩) (Kd.R_mono HO_10.out (fun k_ hk => (⟨hk, fun e_ => hk.2 (by rw [e_]; rfl)⟩ : _ ∧ k_ ≠ go91))) (fun _ hk => hk.2) (.int .u64 (Go.bits .or .u64 (rd y348 x113_2) (ji98)))) (fun _ hk => ⟨hk.1.1, hk.1.2⟩))⟩, ⟨by (try simp only [hl7_1]); (try simp only [hl10_1]); exact uR (Kd.R_mono (Kd.R_far (p := ⟨go91, (x113_2 : Int).toNat, none⟩) (Kd.R_mono HO_15.out (fun k_ hk => (⟨hk, fun e_ => hk.2 (by rw [e_]; rfl)⟩ : _ ∧ k_ ≠ go91))) (fun _ hk => hk.2) (.int .u64 (Go.bits .or .u64 (rd y348 x113_2) (ji98)))) (fun _ hk => ⟨hk.1.1, hk.1.2⟩))⟩, ⟨by (try simp only [hl7_1]); (try simp only [hl10_1]); exact uR HQ103.out⟩, ⟨uB⟩⟩) | (simp only [← hji35] at H'; exact ⟨(y351), (ji94), (by first | rfl | (simp; done) | (simp only [← hji94] <;> (first | rfl | simp)) | (simp [*]; done)), H', ⟨by have := HK1.out; have := HK2.out; omega⟩, ⟨by (try simp only [hl7_1]); (try simp only [hl10_1]); exact uR (Kd.R_mono (Kd.R_far (p := ⟨go91, (x113_2 : Int).toNat, none⟩) (Kd.R_mono HO_10.out (fun k_ hk => (⟨hk, fun e_ => hk.2 (by rw [e_]; rfl)⟩ : _ ∧ k_ ≠ go91))) (fun _ hk => hk.2) (.int .u64 (Go.bits .or .u64 (rd y348 x113_2) (ji98)))) (fun _ hk => ⟨hk.1.1, hk.1.2⟩))⟩, ⟨by (try simp only [hl7_1]); (try simp only [hl10_1]); exact uR (Kd.R_mono (Kd.R_far (p := ⟨go91, (x113_2 : Int).toNat, none⟩) (Kd.R_mono HO_15.out (fun k_ hk => (⟨hk, fun e_ => hk.2 (by rw [e_]; rfl)⟩ : _ ∧ k_ ≠ go91))) (fun _ hk => hk.2) (.int .u64 (Go.bits .or .u64 (rd y348 x113_2) (ji98)))) (fun _ hk => ⟨hk.1.1, hk.1.2⟩))⟩, ⟨by (try simp only [hl7_1]); (try simp only [hl10_1]); exact uR HQ103.out⟩, ⟨uB⟩⟩)
       rw [if_neg c93] at H
       have c93b0 := decide_eq_false c93
       (try (have c93b0h0 := c93b0; simp only [hl7_1] at c93b0h0))
       (try (have c93b0h1 := c93b0; simp only [hl10_1] at c93b0h1))
       clear c93
       have H' := Aside0.mk H
       clear H
       have p347 := eq_true (uO : 0 ≤ (x113_2 : Int))
       have q347 := eq_true (uO : x113_2 < (t341.length : Int))
       obtain ⟨ad347, e347, hx347_0⟩ := Kd.at_int (Kd.R_reads' HO_15.out).2.2 x113_2 uO uO
       cases e347
       have p91 : 0 ≤ (x113_2 : Int) := uO
       have q91 : (x113_2 : Int) < ((x16_2.length : Int) : Int) := uO
       obtain ⟨go91, co91, eo91, gb91, gl91, cl91, HG91⟩ := Kd.R_form HO_16.out (by omega)
       (first | cases eo91 | (injection eo91 with ea_ en_ ec_; (first | subst ea_ | (injection ea_ with ea_; subst ea_)); subst ec_; clear en_))
       have GB91 := Aside0.mk gb91; have GG91 := Aside0.mk HG91; clear gb91 gl91 HG91
       obtain ⟨hx91_0, hf91_0⟩ := Kd.R_celln 0 HO_16.out (x113_2 : Int) p91 q91
       replace p91 := eq_true p91
       replace q91 := eq_true q91
       have HP104 := Kd.R_putg HO_16.out (x113_2 : Int) ji89
       go_wp2_with (first | ((with_reducible refine gate_store (t := 42) (p := 124) rfl ?_); refine store_event (t := 42) (p := 124) (v := ?vo_w105) (w1 := (wr.setCell ⟨go91, (x113_2 : Int).toNat, none⟩ (.int .u64 ji89))) ?hg ?ho ?hn ?hr ?_; (case ho => rfl); (case hg => rfl); (case hn => rfl); (case hr => first | (go_simp; done) | (go_simp; rfl) | (obtain ⟨hy_, hz_⟩ := Kd.R_celln 0 HO_16.out (x113_2 : Int) uO uO; (try simp only [Go.IntWalk.toNatUp] at hy_ hz_); (try simp only [Int.reduceToNat, Int.toNat_zero, Int.toNat_ofNat] at hy_ hz_); first | (go_simp; done) | (go_simp; rfl))); intro w105 hw; have hg : wr.grownBy w105 (some go91) := (by rw [hw]; exact HP104.2); have hp_ : Kd.R (Kd.int .u64) 42 w105 w.heap.size (fun k_ => some k_ ≠ (.slice Ao21 x10_1.length co21 : Value).ownBlock ∧ some k_ ≠ (.slice (some ad347) t341.length co81 : Value).ownBlock) (.slice (some ⟨go91, 0, none⟩) x16_2.length co91) y348 := (by rw [hw, Ny348.out]; exact HP104.1); clear HP104; replace HO_10 := Aside0.mk (Kd.R_after (v := (.slice (some ⟨go91, 0, none⟩) x16_2.length co91)) (v1 := (.slice (some ⟨go91, 0, none⟩) x16_2.length co91)) (ok := (fun k_ => some k_ ≠ (.slice (some ad347) t341.length co81 : Value).ownBlock)) (uR HO_10.out) hg (.inl rfl)); replace HO_15 := Aside0.mk (Kd.R_after (v := (.slice (some ⟨go91, 0, none⟩) x16_2.length co91)) (v1 := (.slice (some ⟨go91, 0, none⟩) x16_2.length co91)) (ok := (fun k_ => some k_ ≠ (.slice Ao21 x10_1.length co21 : Value).ownBlock)) (uR HO_15.out) hg (.inl rfl)); replace HO_16 := Aside0.mk (hp_); replace HB := Aside0.mk ((by rw [hw]; exact below_set (HB.out) GB91.out : Below w.heap.size w w105)); clear hg hw hp_))
       first | go_roundg k2 | ((try simp only [← hji98] at H'); simp only [← hji98]; go_roundg k2) | ((try simp only [← hji96] at H'); simp only [← hji96]; go_roundg k2) | ((try simp only [← hji94] at H'); simp only [← hji94]; go_roundg k2) | ((try simp only [← hji89] at H'); simp only [← hji89]; go_roundg k2) | ((try simp only [← hji87] at H'); simp only [← hji87]; go_roundg k2) | ((try simp only [← hji35] at H'); simp only [← hji35]; go_roundg k2)
       case measure => have := HK1.out; have := HK2.out; omega
       case rel => first | exact ⟨(y348), (wrap64 (x113_2 + 1)), uG, H', ⟨by have := HK1.out; have := HK2.out; omega⟩, ⟨by (try simp only [hl7_1]); (try simp only [hl10_1]); exact uR HO_10.out⟩, ⟨by (try simp only [hl7_1]); (try simp only [hl10_1]); exact uR HO_15.out⟩, ⟨by (try simp only [hl7_1]); (try simp only [hl10_1]); exact uR HO_16.out⟩, ⟨uB⟩⟩ | (simp only [← hji98] at H'; exact ⟨(y348), (wrap64 (x113_2 + 1)), uG, H', ⟨by have := HK1.out; have := HK2.out; omega⟩, ⟨by (try simp only [hl7_1]); (try simp only [hl10_1]); exact uR HO_10.out⟩, ⟨by (try simp only [hl7_1]); (try simp only [hl10_1]); exact uR HO_15.out⟩, ⟨by (try simp only [hl7_1]); (try simp only [hl10_1]); exact uR HO_16.out⟩, ⟨uB⟩⟩) | (simp only [← hji96] at H'; exact ⟨(y348), (wrap64 (x113_2 + 1)), uG, H', ⟨by have := HK1.out; have := HK2.out; omega⟩, ⟨by (try simp only [hl7_1]); (try simp only [hl10_1]); exact uR HO_10.out⟩, ⟨by (try simp only [hl7_1]); (try simp only [hl10_1]); exact uR HO_15.out⟩, ⟨by (try simp only [hl7_1]); (try simp only [hl10_1]); exact uR HO_16.out⟩, ⟨uB⟩⟩) | (simp only [← hji94] at H'; exact ⟨(y348), (wrap64 (x113_2 + 1)), uG, H', ⟨by have := HK1.out; have := HK2.out; omega⟩, ⟨by (try simp only [hl7_1]); (try simp only [hl10_1]); exact uR HO_10.out⟩, ⟨by (try simp only [hl7_1]); (try simp only [hl10_1]); exact uR HO_15.out⟩, ⟨by (try simp only [hl7_1]); (try simp only [hl10_1]); exact uR HO_16.out⟩, ⟨uB⟩⟩) | (simp only [← hji89] at H'; exact ⟨(y348), (wrap64 (x113_2 + 1)), uG, H', ⟨by have := HK1.out; have := HK2.out; omega⟩, ⟨by (try simp only [hl7_1]); (try simp only [hl10_1]); exact uR HO_10.out⟩, ⟨by (try simp only [hl7_1]); (try simp only [hl10_1]); exact uR HO_15.out⟩, ⟨by (try simp only [hl7_1]); (try simp only [hl10_1]); exact uR HO_16.out⟩, ⟨uB⟩⟩) | (simp only [← hji87] at H'; exact ⟨(y348), (wrap64 (x113_2 + 1)), uG, H', ⟨by have := HK1.out; have := HK2.out; omega⟩, ⟨by (try simp only [hl7_1]); (try simp only [hl10_1]); exact uR HO_10.out⟩, ⟨by (try simp only [hl7_1]); (try simp only [hl10_1]); exact uR HO_15.out⟩, ⟨by (try simp only [hl7_1]); (try simp only [hl10_1]); exact uR HO_16.out⟩, ⟨uB⟩⟩) | (simp only [← hji35] at H'; exact ⟨(y348), (wrap64 (x113_2 + 1)), uG, H', ⟨by have := HK1.out; have := HK2.out; omega⟩, ⟨by (try simp only [hl7_1]); (try simp only [hl10_1]); exact uR HO_10.out⟩, ⟨by (try simp only [hl7_1]); (try simp only [hl10_1]); exact uR HO_15.out⟩, ⟨by (try simp only [hl7_1]); (try simp only [hl10_1]); exact uR HO_16.out⟩, ⟨uB⟩⟩)
      rw [if_neg c92] at H
      have c92b0 := decide_eq_false c92
      clear c92
      have H' := Aside0.mk H
      clear H
      have p347 := eq_true (uO : 0 ≤ (x113_2 : Int))
      have q347 := eq_true (uO : x113_2 < (t341.length : Int))
      obtain ⟨ad347, e347, hx347_0⟩ := Kd.at_int (Kd.R_reads' HO_15.out).2.2 x113_2 uO uO
      cases e347
      have p91 : 0 ≤ (x113_2 : Int) := uO
      have q91 : (x113_2 : Int) < ((x16_2.length : Int) : Int) := uO
      obtain ⟨go91, co91, eo91, gb91, gl91, cl91, HG91⟩ := Kd.R_form HO_16.out (by omega)
      (first | cases eo91 | (injection eo91 with ea_ en_ ec_; (first | subst ea_ | (injection ea_ with ea_; subst ea_)); subst ec_; clear en_))
      have GB91 := Aside0.mk gb91; have GG91 := Aside0.mk HG91; clear gb91 gl91 HG91
      obtain ⟨hx91_0, hf91_0⟩ := Kd.R_celln 0 HO_16.out (x113_2 : Int) p91 q91
      replace p91 := eq_true p91
      replace q91 := eq_true q91
      have HP106 := Kd.R_putg HO_16.out (x113_2 : Int) ji89
      go_wp2_with (first | ((with_reducible refine gate_store (t := 42) (p := 124) rfl ?_); refine store_event (t := 42) (p := 124) (v := ?vo_w107) (w1 := (wr.setCell ⟨go91, (x113_2 : Int).toNat, none⟩ (.int .u64 ji89))) ?hg ?ho ?hn ?hr ?_; (case ho => rfl); (case hg => rfl); (case hn => rfl); (case hr => first | (go_simp; done) | (go_simp; rfl) | (obtain ⟨hy_, hz_⟩ := Kd.R_celln 0 HO_16.out (x113_2 : Int) uO uO; (try simp only [Go.IntWalk.toNatUp] at hy_ hz_); (try simp only [Int.reduceToNat, Int.toNat_zero, Int.toNat_ofNat] at hy_ hz_); first | (go_simp; done) | (go_simp; rfl))); intro w107 hw; have hg : wr.grownBy w107 (some go91) := (by rw [hw]; exact HP106.2); have hp_ : Kd.R (Kd.int .u64) 42 w107 w.heap.size (fun k_ => some k_ ≠ (.slice Ao21 x10_1.length co21 : Value).ownBlock ∧ some k_ ≠ (.slice (some ad347) t341.length co81 : Value).ownBlock) (.slice (some ⟨go91, 0, none⟩) x16_2.length co91) y348 := (by rw [hw, Ny348.out]; exact HP106.1); clear HP106; replace HO_10 := Aside0.mk (Kd.R_after (v := (.slice (some ⟨go91, 0, none⟩) x16_2.length co91)) (v1 := (.slice (some ⟨go91, 0, none⟩) x16_2.length co91)) (ok := (fun k_ => some k_ ≠ (.slice (some ad347) t341.length co81 : Value).ownBlock)) (uR HO_10.out) hg (.inl rfl)); replace HO_15 := Aside0.mk (Kd.R_after (v := (.slice (some ⟨go91, 0, none⟩) x16_2.length co91)) (v1 := (.slice (some ⟨go91, 0, none⟩) x16_2.length co91)) (ok := (fun k_ => some k_ ≠ (.slice Ao21 x10_1.length co21 : Value).ownBlock)) (uR HO_15.out) hg (.inl rfl)); replace HO_16 := Aside0.mk (hp_); replace HB := Aside0.mk ((by rw [hw]; exact below_set (HB.out) GB91.out : Below w.heap.size w w107)); clear hg hw hp_))
      first | go_roundg k2 | ((try simp only [← hji98] at H'); simp only [← hji98]; go_roundg k2) | ((try simp only [← hji96] at H'); simp only [← hji96]; go_roundg k2) | ((try simp only [← hji94] at H'); simp only [← hji94]; go_roundg k2) | ((try simp only [← hji89] at H'); simp only [← hji89]; go_roundg k2) | ((try simp only [← hji87] at H'); simp only [← hji87]; go_roundg k2) | ((try simp only [← hji35] at H'); simp only [← hji35]; go_roundg k2)
      case measure => have := HK1.out; have := HK2.out; omega
      case rel => first | exact ⟨(y348), (wrap64 (x113_2 + 1)), uG, H', ⟨by have := HK1.out; have := HK2.out; omega⟩, ⟨by (try simp only [hl7_1]); (try simp only [hl10_1]); exact uR HO_10.out⟩, ⟨by (try simp only [hl7_1]); (try simp only [hl10_1]); exact uR HO_15.out⟩, ⟨by (try simp only [hl7_1]); (try simp only [hl10_1]); exact uR HO_16.out⟩, ⟨uB⟩⟩ | (simp only [← hji98] at H'; exact ⟨(y348), (wrap64 (x113_2 + 1)), uG, H', ⟨by have := HK1.out; have := HK2.out; omega⟩, ⟨by (try simp only [hl7_1]); (try simp only [hl10_1]); exact uR HO_10.out⟩, ⟨by (try simp only [hl7_1]); (try simp only [hl10_1]); exact uR HO_15.out⟩, ⟨by (try simp only [hl7_1]); (try simp only [hl10_1]); exact uR HO_16.out⟩, ⟨uB⟩⟩) | (simp only [← hji96] at H'; exact ⟨(y348), (wrap64 (x113_2 + 1)), uG, H', ⟨by have := HK1.out; have := HK2.out; omega⟩, ⟨by (try simp only [hl7_1]); (try simp only [hl10_1]); exact uR HO_10.out⟩, ⟨by (try simp only [hl7_1]); (try simp only [hl10_1]); exact uR HO_15.out⟩, ⟨by (try simp only [hl7_1]); (try simp only [hl10_1]); exact uR HO_16.out⟩, ⟨uB⟩⟩) | (simp only [← hji94] at H'; exact ⟨(y348), (wrap64 (x113_2 + 1)), uG, H', ⟨by have := HK1.out; have := HK2.out; omega⟩, ⟨by (try simp only [hl7_1]); (try simp only [hl10_1]); exact uR HO_10.out⟩, ⟨by (try simp only [hl7_1]); (try simp only [hl10_1]); exact uR HO_15.out⟩, ⟨by (try simp only [hl7_1]); (try simp only [hl10_1]); exact uR HO_16.out⟩, ⟨uB⟩⟩) | (simp only [← hji89] at H'; exact ⟨(y348), (wrap64 (x113_2 + 1)), uG, H', ⟨by have := HK1.out; have := HK2.out; omega⟩, ⟨by (try simp only [hl7_1]); (try simp only [hl10_1]); exact uR HO_10.out⟩, ⟨by (try simp only [hl7_1]); (try simp only [hl10_1]); exact uR HO_15.out⟩, ⟨by (try simp only [hl7_1]); (try simp only [hl10_1]); exact uR HO_16.out⟩, ⟨uB⟩⟩) | (simp only [← hji87] at H'; exact ⟨(y348), (wrap64 (x113_2 + 1)), uG, H', ⟨by have := HK1.out; have := HK2.out; omega⟩, ⟨by (try simp only [hl7_1]); (try simp only [hl10_1]); exact uR HO_10.out⟩, ⟨by (try simp only [hl7_1]); (try simp only [hl10_1]); exact uR HO_15.out⟩, ⟨by (try simp only [hl7_1]); (try simp only [hl10_1]); exact uR HO_16.out⟩, ⟨uB⟩⟩) | (simp only [← hji35] at H'; exact ⟨(y348), (wrap64 (x113_2 + 1)), uG, H', ⟨by have := HK1.out; have := HK2.out; omega⟩, ⟨by (try simp only [hl7_1]); (try simp only [hl10_1]); exact uR HO_10.out⟩, ⟨by (try simp only [hl7_1]); (try simp only [hl10_1]); exact uR HO_15.out⟩, ⟨by (try simp only [hl7_1]); (try simp only [hl10_1]); exact uR HO_16.out⟩, ⟨uB⟩⟩)
     rw [if_neg c84] at H
     have c84b0 := decide_eq_false c84
     (try (have c84b0h0 := c84b0; simp only [hl7_1] at c84b0h0))
     (try (have c84b0h1 := c84b0; simp only [hl10_1] at c84b0h1))
     clear c84
     replace H := ub H; obtain ⟨t352, A108, H⟩ := H
     replace H := ub H; obtain ⟨t355, A109, H⟩ := H
     simp only [Option.some.injEq, Prod.mk.injEq] at H
     obtain ⟨rfl, rfl⟩ := H
     go_wp2_with (first | ((with_reducible refine ug 72 rfl ?_); refine uh (some 150) rfl Try.func72 #[.slice Ao21 x10_1.length co21] ?_; (with_reducible refine (nat_trim.calls k2 (fun k_ => some k_ = (.slice Ao21 x10_1.length co21 : Value).ownBlock) (.slice Ao21 x10_1.length co21) x10_1 t352 w _ ?side1 ?side2 A108.out).mono ?_); (case side1 => repeat (first | (with_reducible first | exact HB.out | apply below_alloc | apply pw_below_drewN | apply below_drew1) | exact HB.out)); (case side2 => exact Kd.R_tight rfl HO_10.out); rintro e w110 ⟨v353, rfl, ho0, hb, hkp⟩; refine ⟨_, rfl, ?_⟩; have HO354 := Aside0.mk (Kd.R_mono (ok' := fun k_ => some k_ ≠ (.slice Ao81 t341.length co81 : Value).ownBlock ∧ some k_ ≠ (v345 : Value).ownBlock) ho0 (fun k_ hk_ => ⟨Or.elim hk_ (fun hs_ => fun e_ => (((HO_15.out).1 k_ e_.symm).1) hs_) (fun hn_ => (Kd.fresh' (Kd.R_lt (uR HO_15.out)) k_ hn_)), Or.elim hk_ (fun hs_ => fun e_ => (((HO_16.out).1 k_ e_.symm).1) hs_) (fun hn_ => (Kd.fresh' (Kd.R_lt (uR HO_16.out)) k_ hn_))⟩)); replace HO_15 := Aside0.mk (Kd.R_mono (ok' := fun k_ => some k_ ≠ (v345 : Value).ownBlock ∧ some k_ ≠ (v353 : Value).ownBlock) (Kd.R_keptB (HO_15.out) hkp (fun k_ hk_ hs_ => (hk_.1) hs_)) (fun k_ hk_ => ⟨hk_.1.2, fun e_ => Or.elim (ho0.1 k_ e_.symm) (fun hs_ => hk_.2.1 hs_) (fun hn_ => Nat.not_le.2 hk_.2.2 hn_)⟩)); replace HO_16 := Aside0.mk (Kd.R_mono (ok' := fun k_ => some k_ ≠ (.slice Ao81 t341.length co81 : Value).ownBlock ∧ some k_ ≠ (v353 : Value).ownBlock) (Kd.R_keptB (HO_16.out) hkp (fun k_ hk_ hs_ => (hk_.1) hs_)) (fun k_ hk_ => ⟨hk_.1.2, fun e_ => Or.elim (ho0.1 k_ e_.symm) (fun hs_ => hk_.2.1 hs_) (fun hn_ => Nat.not_le.2 hk_.2.2 hn_)⟩)); replace HB := Aside0.mk (hb); clear HO_10; (try clear hb); (try clear hkp); (try clear ho0); obtain ⟨Ao111, co111, eo111⟩ := Kd.R_slice HO_16.out; subst eo111) | ((with_reducible refine ug 72 rfl ?_); refine uh (some 152) rfl Try.func72 #[.slice Ao111 x16_2.length co111] ?_; (with_reducible refine (nat_trim.calls k2 (fun k_ => some k_ = (.slice Ao111 x16_2.length co111 : Value).ownBlock) (.slice Ao111 x16_2.length co111) x16_2 t355 w _ ?side1 ?side2 A109.out).mono ?_); (case side1 => repeat (first | (with_reducible first | exact HB.out | apply below_alloc | apply pw_below_drewN | apply below_drew1) | exact HB.out)); (case side2 => exact Kd.R_tight rfl HO_16.out); rintro e w112 ⟨v356, rfl, ho0, hb, hkp⟩; refine ⟨_, rfl, ?_⟩; have HO357 := Aside0.mk (Kd.R_mono (ok' := fun k_ => some k_ ≠ (.slice Ao81 t341.length co81 : Value).ownBlock ∧ some k_ ≠ (v353 : Value).ownBlock) ho0 (fun k_ hk_ => ⟨Or.elim hk_ (fun hs_ => fun e_ => (((HO_15.out).1 k_ e_.symm).1) hs_) (fun hn_ => (Kd.fresh' (Kd.R_lt (uR HO_15.out)) k_ hn_)), Or.elim hk_ (fun hs_ => fun e_ => (((HO354.out).1 k_ e_.symm).2) hs_) (fun hn_ => (Kd.fresh' (Kd.R_lt (uR HO354.out)) k_ hn_))⟩)); replace HO_15 := Aside0.mk (Kd.R_mono (ok' := fun k_ => some k_ ≠ (v353 : Value).ownBlock ∧ some k_ ≠ (v356 : Value).ownBlock) (Kd.R_keptB (HO_15.out) hkp (fun k_ hk_ hs_ => (hk_.1) hs_)) (fun k_ hk_ => ⟨hk_.1.2, fun e_ => Or.elim (ho0.1 k_ e_.symm) (fun hs_ => hk_.2.1 hs_) (fun hn_ => Nat.not_le.2 hk_.2.2 hn_)⟩)); replace HO354 := Aside0.mk (Kd.R_mono (ok' := fun k_ => some k_ ≠ (.slice Ao81 t341.length co81 : Value).ownBlock ∧ some k_ ≠ (v356 : Value).ownBlock) (Kd.R_keptB (HO354.out) hkp (fun k_ hk_ hs_ => (hk_.2) hs_)) (fun k_ hk_ => ⟨hk_.1.1, fun e_ => Or.elim (ho0.1 k_ e_.symm) (fun hs_ => hk_.2.1 hs_) (fun hn_ => Nat.not_le.2 hk_.2.2 hn_)⟩)); replace HB := Aside0.mk (hb); clear HO_16; (try clear hb); (try clear hkp); (try clear ho0)))
     go_ret2
     exact ⟨_, _, by first | rfl | (simp [errW_none, errW_some] <;> rfl) | (simp only [← hji3, ← hji10]; first | rfl | (simp [errW_none, errW_some] <;> rfl)) | (simp [*, errW_none, errW_some] <;> rfl), by exact uR (Kd.R_mono HO354.out (fun _ hk => hk.2)), by (with_reducible repeat (first | apply Kd.R_alloc | apply Kd.R_drewN | apply Kd.R_drew)); exact Kd.R_mono HO357.out (fun _ hk => hk.2), uB⟩
def nat_Div.f (k : Nat) (l0 : List Int) (l1 : List Int) : Option (List Int × List Int × Int) := (nat_right.f (([l0, l1] : List (List Int)))).bind fun t361 => (if t361 = true then (if (l1.length : Int) = 0 then (some (([] : List Int), ([] : List Int), 3)) else ((nat_compare.f k l0 l1).bind fun t362 => (if t362 < 0 then ((api_Nat_uint64.f l0).bind fun t363 => (some (([] : List Int), t363, 0))) else (if (l1.length : Int) = 1 then (if 0 < (l1.length : Int) then ((nat_short.f k l0 (rd l1 0)).bind fun bt367 => ((nat_Of.f k bt367.2).bind fun t371 => (some (bt367.1, t371, 0)))) else (none)) else ((nat_long.f k l0 l1).bind fun bt374 => (some (bt374.1, bt374.2, 0))))))) else (some (([] : List Int), ([] : List Int), 1)))
theorem nat_Div.calls (k : Nat) (P0_ : Nat → Prop) (A0 : Option Addr) (c0 : Nat) (l0 : List Int) (P1_ : Nat → Prop) (A1 : Option Addr) (c1 : Nat) (l1 : List Int) (r1 : List Int) (r2 : List Int) (r3 : Int) (w : World) (hs0 : Kd.V (Kd.int .u64) 42 w w.heap.size (fun k_ => P0_ k_) (.slice A0 l0.length c0) l0) (hs1 : Kd.V (Kd.int .u64) 42 w w.heap.size (fun k_ => P1_ k_) (.slice A1 l1.length c1) l1) (h : nat_Div.f k l0 l1 = some (r1, r2, r3)) :
  Calls Try.prog 43 #[.slice A0 l0.length c0, .slice A1 l1.length c1] w fun e w' => ∃ v0_ v1_ : Value, e = .returned (.tuple #[v0_, v1_, .int .i64 r3]) ∧ Kd.R (Kd.int .u64) 42 w' w.heap.size (fun k_ => (w.heap.size ≤ k_) ∧ some k_ ≠ (v1_ : Value).ownBlock) v0_ r1 ∧ Kd.R (Kd.int .u64) 42 w' w.heap.size (fun k_ => (w.heap.size ≤ k_) ∧ some k_ ≠ (v0_ : Value).ownBlock) v1_ r2 ∧ Below w.heap.size w w' := by
 have HO0 := Aside0.mk (show Kd.V (Kd.int .u64) 42 w w.heap.size (fun k_ => ((P0_ k_ ∨ P1_ k_) ∨ w.heap.size ≤ k_)) (.slice A0 l0.length c0) l0 from Kd.V_mono hs0 (fun k_ hk => .inl (.inl hk)))
 have HO1 := Aside0.mk (show Kd.V (Kd.int .u64) 42 w w.heap.size (fun k_ => ((P0_ k_ ∨ P1_ k_) ∨ w.heap.size ≤ k_)) (.slice A1 l1.length c1) l1 from Kd.V_mono hs1 (fun k_ hk => .inl (.inr hk)))
 have HB := Aside0.mk (Below.refl w.heap.size w)
 have H : ((nat_right.f (([l0, l1] : List (List Int)))).bind fun t361 => (if t361 = true then (if (l1.length : Int) = 0 then (some (([] : List Int), ([] : List Int), 3)) else ((nat_compare.f k l0 l1).bind fun t362 => (if t362 < 0 then ((api_Nat_uint64.f l0).bind fun t363 => (some (([] : List Int), t363, 0))) else (if (l1.length : Int) = 1 then (if 0 < (l1.length : Int) then ((nat_short.f k l0 (rd l1 0)).bind fun bt367 => ((nat_Of.f k bt367.2).bind fun t371 => (some (bt367.1, t371, 0)))) else (none)) else ((nat_long.f k l0 l1).bind fun bt374 => (some (bt374.1, bt374.2, 0))))))) else (some (([] : List Int), ([] : List Int), 1)))) = some (r1, r2, r3) := h
 clear h
 obtain ⟨y358, hy358⟩ : ∃ y_ : List (List Int), y_ = (([l0, l1] : List (List Int))) := ⟨_, rfl⟩
 replace H : ((nat_right.f y358).bind fun t361 => (if t361 = true then (if (l1.length : Int) = 0 then (some (([] : List Int), ([] : List Int), 3)) else ((nat_compare.f k l0 l1).bind fun t362 => (if t362 < 0 then ((api_Nat_uint64.f l0).bind fun t363 => (some (([] : List Int), t363, 0))) else (if (l1.length : Int) = 1 then (if 0 < (l1.length : Int) then ((nat_short.f k l0 (rd l1 0)).bind fun bt367 => ((nat_Of.f k bt367.2).bind fun t371 => (some (bt367.1, t371, 0)))) else (none)) else ((nat_long.f k l0 l1).bind fun bt374 => (some (bt374.1, bt374.2, 0))))))) else (some (([] : List Int), ([] : List Int), 1)))) = some (r1, r2, r3) := by first | (rw [hy358]; with_reducible exact H) | (have H2_ := (Option.bind_some _ _).symm.trans H; rw [hy358]; with_reducible exact H2_) | (have H2_ := (Option.bind_some _ _).symm.trans H; with_reducible exact H2_) | with_reducible exact H | (rw [hy358]; exact H) | exact H
 have Ny358 := Aside0.mk hy358; clear hy358
 replace H := ub H; obtain ⟨t361, A3, H⟩ := H
 by_cases c4 : t361 = true
 ·
  subst c4
  have H1 : (if (l1.length : Int) = 0 then (some (([] : List Int), ([] : List Int), 3)) else ((nat_compare.f k l0 l1).bind fun t362 => (if t362 < 0 then ((api_Nat_uint64.f l0).bind fun t363 => (some (([] : List Int), t363, 0))) else (if (l1.length : Int) = 1 then (if 0 < (l1.length : Int) then ((nat_short.f k l0 (rd l1 0)).bind fun bt367 => ((nat_Of.f k bt367.2).bind fun t371 => (some (bt367.1, t371, 0)))) else (none)) else ((nat_long.f k l0 l1).bind fun bt374 => (some (bt374.1, bt374.2, 0))))))) = some (r1, r2, r3) := by rw [if_pos rfl] at H; exact H
  clear H; have H := H1; clear H1
  by_cases c5 : (l1.length : Int) = 0
  ·
   rw [if_pos c5] at H
   have c5b0 := beq_iff_eq.mpr c5
   have c5b1 := bne_eq_false_iff_eq.mpr c5
   clear c5
   simp only [Option.some.injEq, Prod.mk.injEq] at H
   obtain ⟨rfl, rfl, rfl⟩ := H
   go_enter Try.func43, Try.ntmps43
   go_wp2_with (first | ((with_reducible refine gate_dst (N := 14) rfl ?_); refine Kd.N_lit (Kd.slice 42 (Kd.int .u64)) _ 23 ?hg (N' := 14) ?hd (xs := ([l0, l1] : List (List Int))) (inner := [.slice A0 l0.length c0, .slice A1 l1.length c1]) (ok := (fun k_ => ((P0_ k_ ∨ P1_ k_) ∨ w.heap.size ≤ k_))) (okp := (fun k_ => ((P0_ k_ ∨ P1_ k_) ∨ w.heap.size ≤ k_))) ?hr ?hp (fun _ hk => hk) ((show ∀ k_, w.heap.size ≤ k_ → (fun k_ => ((P0_ k_ ∨ P1_ k_) ∨ w.heap.size ≤ k_)) k_ from fun k_ hk => (.inr (Nat.le_trans (below_size uB) hk))) _ (Nat.le_refl _)) (Below.refl _ _) (Nat.le_refl _) (by simp) ?_; (case hd => rfl); (case hg => rfl); (case hr => first | (go_simp; done) | (go_simp; rfl) | (go_simp; simp only [u64_u8]; done) | (go_simp; simp only [u64_u8]; rfl)); (case hp => exact (Reps.one (show Kd.FK (Kd.slice 42 (Kd.int .u64)) _ _ l0 [.slice A0 l0.length c0] from (Kd.FK_slice_mk (Kd.V_reads' (Kd.V_mono (ok' := (fun k_ => ((P0_ k_ ∨ P1_ k_) ∨ w.heap.size ≤ k_))) (HO0.out) (fun k_ hk => hk))).2.1 (Kd.V_F (Kd.V_mono (ok' := (fun k_ => ((P0_ k_ ∨ P1_ k_) ∨ w.heap.size ≤ k_))) (HO0.out) (fun k_ hk => hk))))) (Reps.one (show Kd.FK (Kd.slice 42 (Kd.int .u64)) _ _ l1 [.slice A1 l1.length c1] from (Kd.FK_slice_mk (Kd.V_reads' (Kd.V_mono (ok' := (fun k_ => ((P0_ k_ ∨ P1_ k_) ∨ w.heap.size ≤ k_))) (HO1.out) (fun k_ hk => hk))).2.1 (Kd.V_F (Kd.V_mono (ok' := (fun k_ => ((P0_ k_ ∨ P1_ k_) ∨ w.heap.size ≤ k_))) (HO1.out) (fun k_ hk => hk))))) (Reps.none _ _)))); intro v359 w6 ho7 hb hg_ hnew_; clear hg_ hnew_; (first | rw [← Ny358.out] at ho7 | (simp only [Int.reduceToNat] at ho7; rw [← Ny358.out] at ho7)); replace HO0 := Aside0.mk (Kd.V_elder' (uV HO0.out) (Kd.N_base ho7) hb); replace HO1 := Aside0.mk (Kd.V_elder' (uV HO1.out) (Kd.N_base ho7) hb); have HO360 := Aside0.mk (Kd.N_lower ho7 (below_size uB)); replace HB := uy hb; clear hb ho7; obtain ⟨Ao8, co8, eo8⟩ := Kd.N_slice HO360.out; subst eo8) | ((with_reducible refine ug 62 rfl ?_); refine uh (some 15) rfl Try.func62 #[.slice Ao8 y358.length co8] ?_; (with_reducible refine (nat_right.calls _ _ y358 true _ ?side1 ?side2 A3.out).mono ?_); (case side1 => exact uC (Kd.N_reads' HO360.out).2.2); (case side2 => exact (Kd.N_reads' HO360.out).2.1); rintro e w' ⟨rfl, ⟨nd, rfl⟩⟩; refine ⟨_, rfl, ?_⟩))
   go_ret3
   exact ⟨_, _, uF, uI, uI, uB⟩
  rw [if_neg c5] at H
  have c5b0 := beq_eq_false_iff_ne.mpr c5
  have c5b1 := bne_iff_ne.mpr c5
  have c5b2 : ¬ (l1 = []) := fun h_ => c5 (by rw [h_]; rfl)
  replace H := ub H; obtain ⟨t362, A9, H⟩ := H
  by_cases c10 : t362 < 0
  ·
   rw [if_pos c10] at H
   have c10b0 := decide_eq_true c10
   clear c10
   replace H := ub H; obtain ⟨t363, A11, H⟩ := H
   simp only [Option.some.injEq, Prod.mk.injEq] at H
   obtain ⟨rfl, rfl, rfl⟩ := H
   go_enter Try.func43, Try.ntmps43
   go_wp2_with (first | ((with_reducible refine gate_dst (N := 14) rfl ?_); refine Kd.N_lit (Kd.slice 42 (Kd.int .u64)) _ 23 ?hg (N' := 14) ?hd (xs := ([l0, l1] : List (List Int))) (inner := [.slice A0 l0.length c0, .slice A1 l1.length c1]) (ok := (fun k_ => ((P0_ k_ ∨ P1_ k_) ∨ w.heap.size ≤ k_))) (okp := (fun k_ => ((P0_ k_ ∨ P1_ k_) ∨ w.heap.size ≤ k_))) ?hr ?hp (fun _ hk => hk) ((show ∀ k_, w.heap.size ≤ k_ → (fun k_ => ((P0_ k_ ∨ P1_ k_) ∨ w.heap.size ≤ k_)) k_ from fun k_ hk => (.inr (Nat.le_trans (below_size uB) hk))) _ (Nat.le_refl _)) (Below.refl _ _) (Nat.le_refl _) (by simp) ?_; (case hd => rfl); (case hg => rfl); (case hr => first | (go_simp; done) | (go_simp; rfl) | (go_simp; simp only [u64_u8]; done) | (go_simp; simp only [u64_u8]; rfl)); (case hp => exact (Reps.one (show Kd.FK (Kd.slice 42 (Kd.int .u64)) _ _ l0 [.slice A0 l0.length c0] from (Kd.FK_slice_mk (Kd.V_reads' (Kd.V_mono (ok' := (fun k_ => ((P0_ k_ ∨ P1_ k_) ∨ w.heap.size ≤ k_))) (HO0.out) (fun k_ hk => hk))).2.1 (Kd.V_F (Kd.V_mono (ok' := (fun k_ => ((P0_ k_ ∨ P1_ k_) ∨ w.heap.size ≤ k_))) (HO0.out) (fun k_ hk => hk))))) (Reps.one (show Kd.FK (Kd.slice 42 (Kd.int .u64)) _ _ l1 [.slice A1 l1.length c1] from (Kd.FK_slice_mk (Kd.V_reads' (Kd.V_mono (ok' := (fun k_ => ((P0_ k_ ∨ P1_ k_) ∨ w.heap.size ≤ k_))) (HO1.out) (fun k_ hk => hk))).2.1 (Kd.V_F (Kd.V_mono (ok' := (fun k_ => ((P0_ k_ ∨ P1_ k_) ∨ w.heap.size ≤ k_))) (HO1.out) (fun k_ hk => hk))))) (Reps.none _ _)))); intro v359 w12 ho13 hb hg_ hnew_; clear hg_ hnew_; (first | rw [← Ny358.out] at ho13 | (simp only [Int.reduceToNat] at ho13; rw [← Ny358.out] at ho13)); replace HO0 := Aside0.mk (Kd.V_elder' (uV HO0.out) (Kd.N_base ho13) hb); replace HO1 := Aside0.mk (Kd.V_elder' (uV HO1.out) (Kd.N_base ho13) hb); have HO360 := Aside0.mk (Kd.N_lower ho13 (below_size uB)); replace HB := uy hb; clear hb ho13; obtain ⟨Ao14, co14, eo14⟩ := Kd.N_slice HO360.out; subst eo14) | ((with_reducible refine ug 62 rfl ?_); refine uh (some 15) rfl Try.func62 #[.slice Ao14 y358.length co14] ?_; (with_reducible refine (nat_right.calls _ _ y358 true _ ?side1 ?side2 A3.out).mono ?_); (case side1 => exact uC (Kd.N_reads' HO360.out).2.2); (case side2 => exact (Kd.N_reads' HO360.out).2.1); rintro e w' ⟨rfl, ⟨nd, rfl⟩⟩; refine ⟨_, rfl, ?_⟩) | ((with_reducible refine ug 63 rfl ?_); refine uh (some 24) rfl Try.func63 #[.slice A0 l0.length c0, .slice A1 l1.length c1] ?_; (with_reducible refine (nat_compare.calls k _ _ l0 _ _ l1 t362 _ ?side1 ?side2 ?side3 ?side4 A9.out).mono ?_); (case side1 => exact uC (Kd.V_reads' HO0.out).2.2); (case side2 => exact (Kd.V_reads' HO0.out).2.1); (case side3 => exact uC (Kd.V_reads' HO1.out).2.2); (case side4 => exact (Kd.V_reads' HO1.out).2.1); rintro e w' ⟨rfl, ⟨nd, rfl⟩⟩; refine ⟨_, rfl, ?_⟩) | ((with_reducible refine ug 67 rfl ?_); refine uh (some 27) rfl Try.func67 #[.slice A0 l0.length c0] ?_; (with_reducible refine (api_Nat_uint64.calls _ _ l0 t363 _ ?side1 ?side2 A11.out).mono ?_); (case side1 => exact uC (Kd.V_reads' HO0.out).2.2); (case side2 => exact (Kd.V_reads' HO0.out).2.1); rintro e w15 ⟨v364, rfl, ho0, hb⟩; refine ⟨_, rfl, ?_⟩; replace HO0 := ueV HO0 ho0 hb; replace HO1 := ueV HO1 ho0 hb; replace HO360 := ueN HO360 ho0 hb; have HO365 := ulo (Kd.R_newM (M := fun k_ => (w.heap.size ≤ k_)) ho0 (below_size uB) (fun k_ h_ => h_)); replace HB := uy hb; (try clear hb ho0)))
   go_ret3
   exact ⟨_, _, uF, uI, by exact uR (Kd.R_mono HO365.out (fun _ hk => ⟨hk.1, (by simp [Value.ownBlock])⟩)), uB⟩
  rw [if_neg c10] at H
  have c10b0 := decide_eq_false c10
  clear c10
  by_cases c16 : (l1.length : Int) = 1
  ·
   rw [if_pos c16] at H
   have c16b0 := beq_iff_eq.mpr c16
   have c16b1 := bne_eq_false_iff_eq.mpr c16
   clear c16
   replace H := uT H; obtain ⟨c17, H⟩ := H
   have c17b0 := decide_eq_true c17
   have c17b1 : decide (0 < l1.length) = true := decide_eq_true (by omega)
   clear c17
   replace H := ub H; obtain ⟨⟨t367, t368⟩, A18, H⟩ := H
   (try dsimp only at H)
   replace H := ub H; obtain ⟨t371, A19, H⟩ := H
   simp only [Option.some.injEq, Prod.mk.injEq] at H
   obtain ⟨rfl, rfl, rfl⟩ := H
   go_enter Try.func43, Try.ntmps43
   go_wp2_with (first | ((with_reducible refine gate_dst (N := 14) rfl ?_); refine Kd.N_lit (Kd.slice 42 (Kd.int .u64)) _ 23 ?hg (N' := 14) ?hd (xs := ([l0, l1] : List (List Int))) (inner := [.slice A0 l0.length c0, .slice A1 l1.length c1]) (ok := (fun k_ => ((P0_ k_ ∨ P1_ k_) ∨ w.heap.size ≤ k_))) (okp := (fun k_ => ((P0_ k_ ∨ P1_ k_) ∨ w.heap.size ≤ k_))) ?hr ?hp (fun _ hk => hk) ((show ∀ k_, w.heap.size ≤ k_ → (fun k_ => ((P0_ k_ ∨ P1_ k_) ∨ w.heap.size ≤ k_)) k_ from fun k_ hk => (.inr (Nat.le_trans (below_size uB) hk))) _ (Nat.le_refl _)) (Below.refl _ _) (Nat.le_refl _) (by simp) ?_; (case hd => rfl); (case hg => rfl); (case hr => first | (go_simp; done) | (go_simp; rfl) | (go_simp; simp only [u64_u8]; done) | (go_simp; simp only [u64_u8]; rfl)); (case hp => exact (Reps.one (show Kd.FK (Kd.slice 42 (Kd.int .u64)) _ _ l0 [.slice A0 l0.length c0] from (Kd.FK_slice_mk (Kd.V_reads' (Kd.V_mono (ok' := (fun k_ => ((P0_ k_ ∨ P1_ k_) ∨ w.heap.size ≤ k_))) (HO0.out) (fun k_ hk => hk))).2.1 (Kd.V_F (Kd.V_mono (ok' := (fun k_ => ((P0_ k_ ∨ P1_ k_) ∨ w.heap.size ≤ k_))) (HO0.out) (fun k_ hk => hk))))) (Reps.one (show Kd.FK (Kd.slice 42 (Kd.int .u64)) _ _ l1 [.slice A1 l1.length c1] from (Kd.FK_slice_mk (Kd.V_reads' (Kd.V_mono (ok' := (fun k_ => ((P0_ k_ ∨ P1_ k_) ∨ w.heap.size ≤ k_))) (HO1.out) (fun k_ hk => hk))).2.1 (Kd.V_F (Kd.V_mono (ok' := (fun k_ => ((P0_ k_ ∨ P1_ k_) ∨ w.heap.size ≤ k_))) (HO1.out) (fun k_ hk => hk))))) (Reps.none _ _)))); intro v359 w20 ho21 hb hg_ hnew_; clear hg_ hnew_; (first | rw [← Ny358.out] at ho21 | (simp only [Int.reduceToNat] at ho21; rw [← Ny358.out] at ho21)); replace HO0 := Aside0.mk (Kd.V_elder' (uV HO0.out) (Kd.N_base ho21) hb); replace HO1 := Aside0.mk (Kd.V_elder' (uV HO1.out) (Kd.N_base ho21) hb); have HO360 := Aside0.mk (Kd.N_lower ho21 (below_size uB)); replace HB := uy hb; clear hb ho21; obtain ⟨Ao22, co22, eo22⟩ := Kd.N_slice HO360.out; subst eo22) | ((with_reducible refine ug 62 rfl ?_); refine uh (some 15) rfl Try.func62 #[.slice Ao22 y358.length co22] ?_; (with_reducible refine (nat_right.calls _ _ y358 true _ ?side1 ?side2 A3.out).mono ?_); (case side1 => exact uC (Kd.N_reads' HO360.out).2.2); (case side2 => exact (Kd.N_reads' HO360.out).2.1); rintro e w' ⟨rfl, ⟨nd, rfl⟩⟩; refine ⟨_, rfl, ?_⟩) | ((with_reducible refine ug 63 rfl ?_); refine uh (some 24) rfl Try.func63 #[.slice A0 l0.length c0, .slice A1 l1.length c1] ?_; (with_reducible refine (nat_compare.calls k _ _ l0 _ _ l1 t362 _ ?side1 ?side2 ?side3 ?side4 A9.out).mono ?_); (case side1 => exact uC (Kd.V_reads' HO0.out).2.2); (case side2 => exact (Kd.V_reads' HO0.out).2.1); (case side3 => exact uC (Kd.V_reads' HO1.out).2.2); (case side4 => exact (Kd.V_reads' HO1.out).2.1); rintro e w' ⟨rfl, ⟨nd, rfl⟩⟩; refine ⟨_, rfl, ?_⟩; have p366 : 0 ≤ (0 : Int) := (by omega); have q366 : 0 < (l1.length : Int) := uO; obtain ⟨ad366, e366, hx366_0⟩ := Kd.at_int (Kd.V_reads' HO1.out).2.2 0 p366 q366; cases e366; have qi366 : (0 < l1.length) = True := eq_true (by omega); (try rw [show ((0 : Int)).toNat = 0 from rfl] at hx366_0); (try rw [Addr.add_zero'] at hx366_0); replace p366 := eq_true p366; replace q366 := eq_true q366) | ((with_reducible refine ug 70 rfl ?_); refine uh (some 37) rfl Try.func70 #[.slice A0 l0.length c0, .int .u64 (rd l1 0)] ?_; (with_reducible refine (nat_short.calls k _ _ l0 (rd l1 0) t367 t368 _ ?side1 ?side2 A18.out).mono ?_); (case side1 => exact uC (Kd.V_reads' HO0.out).2.2); (case side2 => exact (Kd.V_reads' HO0.out).2.1); rintro e w23 ⟨v369, rfl, ho0, hb⟩; refine ⟨_, rfl, ?_⟩; replace HO0 := ueV HO0 ho0 hb; replace HO1 := ueV HO1 ho0 hb; replace HO360 := ueN HO360 ho0 hb; have HO370 := ulo (Kd.R_newM (M := fun k_ => (w.heap.size ≤ k_)) ho0 (below_size uB) (fun k_ h_ => h_)); replace HB := uy hb; (try clear hb ho0)) | ((with_reducible refine ug 44 rfl ?_); refine uh (some 42) rfl Try.func44 #[.int .u64 t368] ?_; (with_reducible refine (nat_Of.calls k t368 t371 _ A19.out).mono ?_); rintro e w24 ⟨v372, rfl, ho0, hb⟩; refine ⟨_, rfl, ?_⟩; replace HO0 := ueV HO0 ho0 hb; replace HO1 := ueV HO1 ho0 hb; replace HO360 := ueN HO360 ho0 hb; have HO373 := ulo (unw (Kd.R_newM (M := fun k_ => (w.heap.size ≤ k_)) ho0 (below_size uB) (fun k_ h_ => h_)) HO370); replace HO370 := ueR HO370 ho0 hb; replace HB := uy hb; (try clear hb ho0)))
   go_ret3
   exact ⟨_, _, uF, by exact uR (Kd.R_mono HO370.out (fun _ hk => ⟨hk.1.1, hk.2⟩)), by (with_reducible repeat (first | apply Kd.R_alloc | apply Kd.R_drewN | apply Kd.R_drew)); exact Kd.R_mono HO373.out (fun _ hk => ⟨hk.1.1, hk.2⟩), uB⟩
  rw [if_neg c16] at H
  have c16b0 := beq_eq_false_iff_ne.mpr c16
  have c16b1 := bne_iff_ne.mpr c16
  replace H := ub H; obtain ⟨⟨t374, t375⟩, A25, H⟩ := H
  (try dsimp only at H)
  simp only [Option.some.injEq, Prod.mk.injEq] at H
  obtain ⟨rfl, rfl, rfl⟩ := H
  go_enter Try.func43, Try.ntmps43
  go_wp2_with (first | ((with_reducible refine gate_dst (N := 14) rfl ?_); refine Kd.N_lit (Kd.slice 42 (Kd.int .u64)) _ 23 ?hg (N' := 14) ?hd (xs := ([l0, l1] : List (List Int))) (inner := [.slice A0 l0.length c0, .slice A1 l1.length c1]) (ok := (fun k_ => ((P0_ k_ ∨ P1_ k_) ∨ w.heap.size ≤ k_))) (okp := (fun k_ => ((P0_ k_ ∨ P1_ k_) ∨ w.heap.size ≤ k_))) ?hr ?hp (fun _ hk => hk) ((show ∀ k_, w.heap.size ≤ k_ → (fun k_ => ((P0_ k_ ∨ P1_ k_) ∨ w.heap.size ≤ k_)) k_ from fun k_ hk => (.inr (Nat.le_trans (below_size uB) hk))) _ (Nat.le_refl _)) (Below.refl _ _) (Nat.le_refl _) (by simp) ?_; (case hd => rfl); (case hg => rfl); (case hr => first | (go_simp; done) | (go_simp; rfl) | (go_simp; simp only [u64_u8]; done) | (go_simp; simp only [u64_u8]; rfl)); (case hp => exact (Reps.one (show Kd.FK (Kd.slice 42 (Kd.int .u64)) _ _ l0 [.slice A0 l0.length c0] from (Kd.FK_slice_mk (Kd.V_reads' (Kd.V_mono (ok' := (fun k_ => ((P0_ k_ ∨ P1_ k_) ∨ w.heap.size ≤ k_))) (HO0.out) (fun k_ hk => hk))).2.1 (Kd.V_F (Kd.V_mono (ok' := (fun k_ => ((P0_ k_ ∨ P1_ k_) ∨ w.heap.size ≤ k_))) (HO0.out) (fun k_ hk => hk))))) (Reps.one (show Kd.FK (Kd.slice 42 (Kd.int .u64)) _ _ l1 [.slice A1 l1.length c1] from (Kd.FK_slice_mk (Kd.V_reads' (Kd.V_mono (ok' := (fun k_ => ((P0_ k_ ∨ P1_ k_) ∨ w.heap.size ≤ k_))) (HO1.out) (fun k_ hk => hk))).2.1 (Kd.V_F (Kd.V_mono (ok' := (fun k_ => ((P0_ k_ ∨ P1_ k_) ∨ w.heap.size ≤ k_))) (HO1.out) (fun k_ hk => hk))))) (Reps.none _ _)))); intro v359 w26 ho27 hb hg_ hnew_; clear hg_ hnew_; (first | rw [← Ny358.out] at ho27 | (simp only [Int.reduceToNat] at ho27; rw [← Ny358.out] at ho27)); replace HO0 := Aside0.mk (Kd.V_elder' (uV HO0.out) (Kd.N_base ho27) hb); replace HO1 := Aside0.mk (Kd.V_elder' (uV HO1.out) (Kd.N_base ho27) hb); have HO360 := Aside0.mk (Kd.N_lower ho27 (below_size uB)); replace HB := uy hb; clear hb ho27; obtain ⟨Ao28, co28, eo28⟩ := Kd.N_slice HO360.out; subst eo28) | ((with_reducible refine ug 62 rfl ?_); refine uh (some 15) rfl Try.func62 #[.slice Ao28 y358.length co28] ?_; (with_reducible refine (nat_right.calls _ _ y358 true _ ?side1 ?side2 A3.out).mono ?_); (case side1 => exact uC (Kd.N_reads' HO360.out).2.2); (case side2 => exact (Kd.N_reads' HO360.out).2.1); rintro e w' ⟨rfl, ⟨nd, rfl⟩⟩; refine ⟨_, rfl, ?_⟩) | ((with_reducible refine ug 63 rfl ?_); refine uh (some 24) rfl Try.func63 #[.slice A0 l0.length c0, .slice A1 l1.length c1] ?_; (with_reducible refine (nat_compare.calls k _ _ l0 _ _ l1 t362 _ ?side1 ?side2 ?side3 ?side4 A9.out).mono ?_); (case side1 => exact uC (Kd.V_reads' HO0.out).2.2); (case side2 => exact (Kd.V_reads' HO0.out).2.1); (case side3 => exact uC (Kd.V_reads' HO1.out).2.2); (case side4 => exact (Kd.V_reads' HO1.out).2.1); rintro e w' ⟨rfl, ⟨nd, rfl⟩⟩; refine ⟨_, rfl, ?_⟩) | ((with_reducible refine ug 71 rfl ?_); refine uh (some 46) rfl Try.func71 #[.slice A0 l0.length c0, .slice A1 l1.length c1] ?_; (with_reducible refine (nat_long.calls k _ _ l0 _ _ l1 t374 t375 _ ?side1 ?side2 ?side3 ?side4 A25.out).mono ?_); (case side1 => exact uC (Kd.V_reads' HO0.out).2.2); (case side2 => exact (Kd.V_reads' HO0.out).2.1); (case side3 => exact uC (Kd.V_reads' HO1.out).2.2); (case side4 => exact (Kd.V_reads' HO1.out).2.1); rintro e w29 ⟨v376, v378, rfl, ho0, ho1, hb⟩; refine ⟨_, rfl, ?_⟩; replace HO0 := Aside0.mk (Kd.V_mono (Kd.V_told (Kd.V_told (Kd.V_old (uV HO0.out) hb) (Kd.R_base ho0)) (Kd.R_base ho1)) (fun _ h_ => h_.1)); replace HO1 := Aside0.mk (Kd.V_mono (Kd.V_told (Kd.V_told (Kd.V_old (uV HO1.out) hb) (Kd.R_base ho0)) (Kd.R_base ho1)) (fun _ h_ => h_.1)); replace HO360 := Aside0.mk (Kd.N_mono (Kd.N_told (Kd.N_told (Kd.N_old (uN HO360.out) hb) (Kd.R_base ho0)) (Kd.R_base ho1)) (fun _ h_ => h_.1)); have HO377 := ulo (Kd.R_newM (M := fun k_ => (w.heap.size ≤ k_)) ho0 (below_size uB) (fun k_ h_ => h_)); have HO379 := ulo (Kd.R_newM (M := fun k_ => (w.heap.size ≤ k_)) ho1 (below_size uB) (fun k_ h_ => h_)); replace HB := uy hb; (try clear hb ho0 ho1)))
  go_ret3
  exact ⟨_, _, uF, uR HO377.out, uR HO379.out, uB⟩
 replace c4 := Bool.eq_false_iff.mpr c4
 subst c4
 have H1 : (some (([] : List Int), ([] : List Int), 1)) = some (r1, r2, r3) := by rw [if_neg (show ¬ (false = true) by decide)] at H; exact H
 clear H; have H := H1; clear H1
 simp only [Option.some.injEq, Prod.mk.injEq] at H
 obtain ⟨rfl, rfl, rfl⟩ := H
 go_enter Try.func43, Try.ntmps43
 go_wp2_with (first | ((with_reducible refine gate_dst (N := 14) rfl ?_); refine Kd.N_lit (Kd.slice 42 (Kd.int .u64)) _ 23 ?hg (N' := 14) ?hd (xs := ([l0, l1] : List (List Int))) (inner := [.slice A0 l0.length c0, .slice A1 l1.length c1]) (ok := (fun k_ => ((P0_ k_ ∨ P1_ k_) ∨ w.heap.size ≤ k_))) (okp := (fun k_ => ((P0_ k_ ∨ P1_ k_) ∨ w.heap.size ≤ k_))) ?hr ?hp (fun _ hk => hk) ((show ∀ k_, w.heap.size ≤ k_ → (fun k_ => ((P0_ k_ ∨ P1_ k_) ∨ w.heap.size ≤ k_)) k_ from fun k_ hk => (.inr (Nat.le_trans (below_size uB) hk))) _ (Nat.le_refl _)) (Below.refl _ _) (Nat.le_refl _) (by simp) ?_; (case hd => rfl); (case hg => rfl); (case hr => first | (go_simp; done) | (go_simp; rfl) | (go_simp; simp only [u64_u8]; done) | (go_simp; simp only [u64_u8]; rfl)); (case hp => exact (Reps.one (show Kd.FK (Kd.slice 42 (Kd.int .u64)) _ _ l0 [.slice A0 l0.length c0] from (Kd.FK_slice_mk (Kd.V_reads' (Kd.V_mono (ok' := (fun k_ => ((P0_ k_ ∨ P1_ k_) ∨ w.heap.size ≤ k_))) (HO0.out) (fun k_ hk => hk))).2.1 (Kd.V_F (Kd.V_mono (ok' := (fun k_ => ((P0_ k_ ∨ P1_ k_) ∨ w.heap.size ≤ k_))) (HO0.out) (fun k_ hk => hk))))) (Reps.one (show Kd.FK (Kd.slice 42 (Kd.int .u64)) _ _ l1 [.slice A1 l1.length c1] from (Kd.FK_slice_mk (Kd.V_reads' (Kd.V_mono (ok' := (fun k_ => ((P0_ k_ ∨ P1_ k_) ∨ w.heap.size ≤ k_))) (HO1.out) (fun k_ hk => hk))).2.1 (Kd.V_F (Kd.V_mono (ok' := (fun k_ => ((P0_ k_ ∨ P1_ k_) ∨ w.heap.size ≤ k_))) (HO1.out) (fun k_ hk => hk))))) (Reps.none _ _)))); intro v359 w30 ho31 hb hg_ hnew_; clear hg_ hnew_; (first | rw [← Ny358.out] at ho31 | (simp only [Int.reduceToNat] at ho31; rw [← Ny358.out] at ho31)); replace HO0 := Aside0.mk (Kd.V_elder' (uV HO0.out) (Kd.N_base ho31) hb); replace HO1 := Aside0.mk (Kd.V_elder' (uV HO1.out) (Kd.N_base ho31) hb); have HO360 := Aside0.mk (Kd.N_lower ho31 (below_size uB)); replace HB := uy hb; clear hb ho31; obtain ⟨Ao32, co32, eo32⟩ := Kd.N_slice HO360.out; subst eo32) | ((with_reducible refine ug 62 rfl ?_); refine uh (some 15) rfl Try.func62 #[.slice Ao32 y358.length co32] ?_; (with_reducible refine (nat_right.calls _ _ y358 false _ ?side1 ?side2 A3.out).mono ?_); (case side1 => exact uC (Kd.N_reads' HO360.out).2.2); (case side2 => exact (Kd.N_reads' HO360.out).2.1); rintro e w' ⟨rfl, ⟨nd, rfl⟩⟩; refine ⟨_, rfl, ?_⟩))
 go_ret3
 exact ⟨_, _, uF, uI, uI, uB⟩
def modint_Floor.j0 : Nat → List Int → List Int → Bool → Bool → List Int → Bool → List Int → Option (Bool × List Int × Bool × List Int × Int)
 | 0, _, _, _, _, _, _, _ => none
 | k + 1, x7, x8, x46, x381000, x381001, x382000, x382001 => if x46 = true then ((nat_Of.f k 1).bind fun t395 => ((nat_Add.f k x7 t395).bind fun bt398 => (if bt398.2 = 0 then ((nat_Sub.f k x382001 x8).bind fun bt402 => ((modint_From.f x381000 bt398.1).bind fun bt406 => ((modint_From.f false bt402.1).bind fun bt410 => (some (bt406.1, bt406.2, bt410.1, bt410.2, 0))))) else (some (false, ([] : List Int), false, ([] : List Int), bt398.2))))) else ((modint_From.f x381000 x7).bind fun bt414 => ((modint_From.f false x8).bind fun bt418 => (some (bt414.1, bt414.2, bt418.1, bt418.2, 0))))
def modint_Floor.f (k : Nat) (a0_0 : Bool) (l0_1 : List Int) (a1_0 : Bool) (l1_1 : List Int) : Option (Bool × List Int × Bool × List Int × Int) := (modint_right.f (([(⟨a0_0, l0_1⟩ : S44), (⟨a1_0, l1_1⟩ : S44)] : List (S44)))).bind fun t387 => (if t387 = true then (if (l1_1.length : Int) = 0 then (some (false, ([] : List Int), false, ([] : List Int), 3)) else (if a1_0 = true then (some (false, ([] : List Int), false, ([] : List Int), 1)) else ((nat_Div.f k l0_1 l1_1).bind fun bt388 => (if a0_0 = true then (modint_Floor.j0 k bt388.1 bt388.2.1 (decide ((bt388.2.1.length : Int) > 0)) a0_0 l0_1 a1_0 l1_1) else (modint_Floor.j0 k bt388.1 bt388.2.1 false a0_0 l0_1 a1_0 l1_1))))) else (some (false, ([] : List Int), false, ([] : List Int), 1)))
theorem modint_Floor.calls (k : Nat) (a0_0 : Bool) (P0_1_ : Nat → Prop) (A0_1 : Option Addr) (c0_1 : Nat) (l0_1 : List Int) (a1_0 : Bool) (P1_1_ : Nat → Prop) (A1_1 : Option Addr) (c1_1 : Nat) (l1_1 : List Int) (r1 : Bool) (r2 : List Int) (r3 : Bool) (r4 : List Int) (r5 : Int) (w : World) (hs0_1 : Kd.V (Kd.int .u64) 42 w w.heap.size (fun k_ => P0_1_ k_) (.slice A0_1 l0_1.length c0_1) l0_1) (hs1_1 : Kd.V (Kd.int .u64) 42 w w.heap.size (fun k_ => P1_1_ k_) (.slice A1_1 l1_1.length c1_1) l1_1) (h : modint_Floor.f k a0_0 l0_1 a1_0 l1_1 = some (r1, r2, r3, r4, r5)) :
  Calls Try.prog 16 #[.agg #[.bool a0_0, .slice A0_1 l0_1.length c0_1], .agg #[.bool a1_0, .slice A1_1 l1_1.length c1_1]] w fun e w' => ∃ v1_ v3_ : Value, e = .returned (.tuple #[.agg #[.bool r1, v1_], .agg #[.bool r3, v3_], .int .i64 r5]) ∧ Kd.R (Kd.int .u64) 42 w' w.heap.size (fun k_ => (w.heap.size ≤ k_) ∧ some k_ ≠ (v3_ : Value).ownBlock) v1_ r2 ∧ Kd.R (Kd.int .u64) 42 w' w.heap.size (fun k_ => (w.heap.size ≤ k_) ∧ some k_ ≠ (v1_ : Value).ownBlock) v3_ r4 ∧ Below w.heap.size w w' := by
 have hu44 := Try.underlying44
 have HO0_1 := Aside0.mk (show Kd.V (Kd.int .u64) 42 w w.heap.size (fun k_ => ((P0_1_ k_ ∨ P1_1_ k_) ∨ w.heap.size ≤ k_)) (.slice A0_1 l0_1.length c0_1) l0_1 from Kd.V_mono hs0_1 (fun k_ hk => .inl (.inl hk)))
 have HO1_1 := Aside0.mk (show Kd.V (Kd.int .u64) 42 w w.heap.size (fun k_ => ((P0_1_ k_ ∨ P1_1_ k_) ∨ w.heap.size ≤ k_)) (.slice A1_1 l1_1.length c1_1) l1_1 from Kd.V_mono hs1_1 (fun k_ hk => .inl (.inr hk)))
 have HB := Aside0.mk (Below.refl w.heap.size w)
 have H : ((modint_right.f (([(⟨a0_0, l0_1⟩ : S44), (⟨a1_0, l1_1⟩ : S44)] : List (S44)))).bind fun t387 => (if t387 = true then (if (l1_1.length : Int) = 0 then (some (false, ([] : List Int), false, ([] : List Int), 3)) else (if a1_0 = true then (some (false, ([] : List Int), false, ([] : List Int), 1)) else ((nat_Div.f k l0_1 l1_1).bind fun bt388 => (if a0_0 = true then (modint_Floor.j0 k bt388.1 bt388.2.1 (decide ((bt388.2.1.length : Int) > 0)) a0_0 l0_1 a1_0 l1_1) else (modint_Floor.j0 k bt388.1 bt388.2.1 false a0_0 l0_1 a1_0 l1_1))))) else (some (false, ([] : List Int), false, ([] : List Int), 1)))) = some (r1, r2, r3, r4, r5) := h
 clear h
 obtain ⟨y384, hy384⟩ : ∃ y_ : List (S44), y_ = (([(⟨a0_0, l0_1⟩ : S44), (⟨a1_0, l1_1⟩ : S44)] : List (S44))) := ⟨_, rfl⟩
 replace H : ((modint_right.f y384).bind fun t387 => (if t387 = true then (if (l1_1.length : Int) = 0 then (some (false, ([] : List Int), false, ([] : List Int), 3)) else (if a1_0 = true then (some (false, ([] : List Int), false, ([] : List Int), 1)) else ((nat_Div.f k l0_1 l1_1).bind fun bt388 => (if a0_0 = true then (modint_Floor.j0 k bt388.1 bt388.2.1 (decide ((bt388.2.1.length : Int) > 0)) a0_0 l0_1 a1_0 l1_1) else (modint_Floor.j0 k bt388.1 bt388.2.1 false a0_0 l0_1 a1_0 l1_1))))) else (some (false, ([] : List Int), false, ([] : List Int), 1)))) = some (r1, r2, r3, r4, r5) := by first | (rw [hy384]; with_reducible exact H) | (have H2_ := (Option.bind_some _ _).symm.trans H; rw [hy384]; with_reducible exact H2_) | (have H2_ := (Option.bind_some _ _).symm.trans H; with_reducible exact H2_) | with_reducible exact H | (rw [hy384]; exact H) | exact H
 have Ny384 := Aside0.mk hy384; clear hy384
 replace H := ub H; obtain ⟨t387, A3, H⟩ := H
 by_cases c4 : t387 = true
 ·
  subst c4
  have H1 : (if (l1_1.length : Int) = 0 then (some (false, ([] : List Int), false, ([] : List Int), 3)) else (if a1_0 = true then (some (false, ([] : List Int), false, ([] : List Int), 1)) else ((nat_Div.f k l0_1 l1_1).bind fun bt388 => (if a0_0 = true then (modint_Floor.j0 k bt388.1 bt388.2.1 (decide ((bt388.2.1.length : Int) > 0)) a0_0 l0_1 a1_0 l1_1) else (modint_Floor.j0 k bt388.1 bt388.2.1 false a0_0 l0_1 a1_0 l1_1))))) = some (r1, r2, r3, r4, r5) := by rw [if_pos rfl] at H; exact H
  clear H; have H := H1; clear H1
  by_cases c5 : (l1_1.length : Int) = 0
  ·
   rw [if_pos c5] at H
   have c5b0 := beq_iff_eq.mpr c5
   have c5b1 := bne_eq_false_iff_eq.mpr c5
   clear c5
   simp only [Option.some.injEq, Prod.mk.injEq] at H
   obtain ⟨rfl, rfl, rfl, rfl, rfl⟩ := H
   go_enter Try.func16, Try.ntmps16
   go_wp2_with (first | ((with_reducible refine gate_dst (N := 2) rfl ?_); (try (refine gate_guard (by rfl) ?_; dsimp only)); refine ubx 2 #[.bool a0_0, .slice A0_1 l0_1.length c0_1] 44 rfl rfl ?_; intro gb380 hg w6 hbox hb; replace HO0_1 := uvb HO0_1 hg hb; replace HO1_1 := uvb HO1_1 hg hb; have BK380 := Aside0.mk (hbox); have GW380 := us hg; have GE380 := us hg; replace HB := uy hb; clear hb hbox hg) | ((with_reducible refine gate_dst (N := 3) rfl ?_); (try (refine gate_guard (by rfl) ?_; dsimp only)); refine ubx 3 #[.bool a1_0, .slice A1_1 l1_1.length c1_1] 44 rfl rfl ?_; intro gb381 hg w7 hbox hb; replace HO0_1 := uvb HO0_1 hg hb; replace HO1_1 := uvb HO1_1 hg hb; have BK381 := Aside0.mk (hbox); have GW381 := us hg; have GE381 := us hg; replace HB := uy hb; obtain ⟨NB380_381, NB381_380⟩ := unb hg BK380; replace BK380 := ux BK380 hb; clear hb hbox hg) | ((with_reducible refine gate_dst (N := 4) rfl ?_); (try (refine gate_guard (by rfl) ?_; dsimp only)); refine ubx 4 #[.bool false, .slice none 0 0] 44 rfl rfl ?_; intro gb382 hg w8 hbox hb; replace HO0_1 := uvb HO0_1 hg hb; replace HO1_1 := uvb HO1_1 hg hb; have BK382 := Aside0.mk (hbox); have GW382 := us hg; have GE382 := us hg; replace HB := uy hb; obtain ⟨NB380_382, NB382_380⟩ := unb hg BK380; replace BK380 := ux BK380 hb; obtain ⟨NB381_382, NB382_381⟩ := unb hg BK381; replace BK381 := ux BK381 hb; clear hb hbox hg) | ((with_reducible refine gate_dst (N := 5) rfl ?_); (try (refine gate_guard (by rfl) ?_; dsimp only)); refine ubx 5 #[.bool false, .slice none 0 0] 44 rfl rfl ?_; intro gb383 hg w9 hbox hb; replace HO0_1 := uvb HO0_1 hg hb; replace HO1_1 := uvb HO1_1 hg hb; have BK383 := Aside0.mk (hbox); have GW383 := us hg; have GE383 := us hg; replace HB := uy hb; obtain ⟨NB380_383, NB383_380⟩ := unb hg BK380; replace BK380 := ux BK380 hb; obtain ⟨NB381_383, NB383_381⟩ := unb hg BK381; replace BK381 := ux BK381 hb; obtain ⟨NB382_383, NB383_382⟩ := unb hg BK382; replace BK382 := ux BK382 hb; clear hb hbox hg; have hnb10 := NB380_381.out; have hnc10 := NB381_380.out; have hnb11 := NB380_382.out; have hnc11 := NB382_380.out; have hnb12 := NB380_383.out; have hnc12 := NB383_380.out; obtain ⟨hcz13_0, hcz13_1, hfz13_0, hfz13_1⟩ := uz2 w9 BK380; have hnb14 := NB381_382.out; have hnc14 := NB382_381.out; have hnb15 := NB381_383.out; have hnc15 := NB383_381.out; obtain ⟨hcz16_0, hcz16_1, hfz16_0, hfz16_1⟩ := uz2 w9 BK381) | ((with_reducible refine gate_dst (N := 14) rfl ?_); (try (refine gate_guard (by rfl) ?_; dsimp only)); refine Kd.N_lit k44 _ 44 ?hg (N' := 14) ?hd (xs := ([(⟨a0_0, l0_1⟩ : S44), (⟨a1_0, l1_1⟩ : S44)] : List (S44))) (inner := [.bool a0_0, .slice A0_1 l0_1.length c0_1, .bool a1_0, .slice A1_1 l1_1.length c1_1]) (ok := (fun k_ => ((P0_1_ k_ ∨ P1_1_ k_) ∨ w.heap.size ≤ k_) ∧ k_ ≠ gb380 ∧ k_ ≠ gb381 ∧ k_ ≠ gb382 ∧ k_ ≠ gb383)) (okp := (fun k_ => ((P0_1_ k_ ∨ P1_1_ k_) ∨ w.heap.size ≤ k_) ∧ k_ ≠ gb380 ∧ k_ ≠ gb381 ∧ k_ ≠ gb382 ∧ k_ ≠ gb383)) ?hr ?hp (fun _ hk => hk) ((show ∀ k_, w9.heap.size ≤ k_ → (fun k_ => ((P0_1_ k_ ∨ P1_1_ k_) ∨ w.heap.size ≤ k_) ∧ k_ ≠ gb380 ∧ k_ ≠ gb381 ∧ k_ ≠ gb382 ∧ k_ ≠ gb383) k_ from fun k_ hk => ⟨(.inr (Nat.le_trans (below_size uB) hk)), Kd.freshB (g := gb380) (o := .cells #[.bool a0_0, .slice A0_1 l0_1.length c0_1] 44 (0, 0)) (uK BK380.out) k_ hk, Kd.freshB (g := gb381) (o := .cells #[.bool a1_0, .slice A1_1 l1_1.length c1_1] 44 (0, 0)) (uK BK381.out) k_ hk, Kd.freshB (g := gb382) (o := .cells #[.bool false, .slice none 0 0] 44 (0, 0)) (uK BK382.out) k_ hk, Kd.freshB (g := gb383) (o := .cells #[.bool false, .slice none 0 0] 44 (0, 0)) (uK BK383.out) k_ hk⟩) _ (Nat.le_refl _)) (Below.refl _ _) (Nat.le_refl _) (by simp) ?_; (case hd => rfl); (case hg => rfl); (case hr => first | (go_simp; done) | (go_simp; rfl) | (go_simp; simp only [u64_u8]; done) | (go_simp; simp only [u64_u8]; rfl)); (case hp => exact (Reps.c2 (show Kd.FK k44 _ _ (⟨a0_0, l0_1⟩ : S44) [.bool a0_0, .slice A0_1 l0_1.length c0_1] from (k44_mkF _ _ (⟨a0_0, l0_1⟩ : S44) (Kd.V_reads' (Kd.V_mono (ok' := (fun k_ => ((P0_1_ k_ ∨ P1_1_ k_) ∨ w.heap.size ≤ k_) ∧ k_ ≠ gb380 ∧ k_ ≠ gb381 ∧ k_ ≠ gb382 ∧ k_ ≠ gb383)) (HO0_1.out) (fun k_ hk => ⟨hk.1.1.1.1, ⟨hk.1.1.1.2, ⟨hk.1.1.2, ⟨hk.1.2, hk.2⟩⟩⟩⟩))).2.1 (Kd.V_F (Kd.V_mono (ok' := (fun k_ => ((P0_1_ k_ ∨ P1_1_ k_) ∨ w.heap.size ≤ k_) ∧ k_ ≠ gb380 ∧ k_ ≠ gb381 ∧ k_ ≠ gb382 ∧ k_ ≠ gb383)) (HO0_1.out) (fun k_ hk => ⟨hk.1.1.1.1, ⟨hk.1.1.1.2, ⟨hk.1.1.2, ⟨hk.1.2, hk.2⟩⟩⟩⟩))))) (Reps.c2 (show Kd.FK k44 _ _ (⟨a1_0, l1_1⟩ : S44) [.bool a1_0, .slice A1_1 l1_1.length c1_1] from (k44_mkF _ _ (⟨a1_0, l1_1⟩ : S44) (Kd.V_reads' (Kd.V_mono (ok' := (fun k_ => ((P0_1_ k_ ∨ P1_1_ k_) ∨ w.heap.size ≤ k_) ∧ k_ ≠ gb380 ∧ k_ ≠ gb381 ∧ k_ ≠ gb382 ∧ k_ ≠ gb383)) (HO1_1.out) (fun k_ hk => ⟨hk.1.1.1.1, ⟨hk.1.1.1.2, ⟨hk.1.1.2, ⟨hk.1.2, hk.2⟩⟩⟩⟩))).2.1 (Kd.V_F (Kd.V_mono (ok' := (fun k_ => ((P0_1_ k_ ∨ P1_1_ k_) ∨ w.heap.size ≤ k_) ∧ k_ ≠ gb380 ∧ k_ ≠ gb381 ∧ k_ ≠ gb382 ∧ k_ ≠ gb383)) (HO1_1.out) (fun k_ hk => ⟨hk.1.1.1.1, ⟨hk.1.1.1.2, ⟨hk.1.1.2, ⟨hk.1.2, hk.2⟩⟩⟩⟩))))) (Reps.none _ _)))); intro v385 w17 ho18 hb hg_ hnew_; clear hg_ hnew_; (first | rw [← Ny384.out] at ho18 | (simp only [Int.reduceToNat] at ho18; rw [← Ny384.out] at ho18)); replace HO0_1 := Aside0.mk (Kd.V_elder' (uV HO0_1.out) (Kd.N_base ho18) hb); replace HO1_1 := Aside0.mk (Kd.V_elder' (uV HO1_1.out) (Kd.N_base ho18) hb); have HO386 := Aside0.mk (Kd.N_lower ho18 (below_size uB)); replace BK380 := ux BK380 hb; replace BK381 := ux BK381 hb; replace BK382 := ux BK382 hb; replace BK383 := ux BK383 hb; replace HB := uy hb; clear hb ho18; obtain ⟨Ao19, co19, eo19⟩ := Kd.N_slice HO386.out; subst eo19) | ((with_reducible refine ug 42 rfl ?_); refine uh (some 15) rfl Try.func42 #[.slice Ao19 y384.length co19] ?_; (with_reducible refine (modint_right.calls _ _ y384 true _ ?side1 ?side2 A3.out).mono ?_); (case side1 => exact uC (Kd.N_reads' HO386.out).2.2); (case side2 => exact (Kd.N_reads' HO386.out).2.1); rintro e w20 ⟨rfl, hb⟩; refine ⟨_, rfl, ?_⟩; replace HO0_1 := Aside0.mk (Kd.V_below (uV HO0_1.out) hb); replace HO1_1 := Aside0.mk (Kd.V_below (uV HO1_1.out) hb); replace HO386 := Aside0.mk (Kd.N_below (uN HO386.out) hb); replace BK380 := ux BK380 hb; replace BK381 := ux BK381 hb; replace BK382 := ux BK382 hb; replace BK383 := ux BK383 hb; replace HB := uy hb; (try clear hb); obtain ⟨hcz21_0, hcz21_1, hfz21_0, hfz21_1⟩ := uz2 w20 BK381; have hnb22 := NB382_383.out; have hnc22 := NB383_382.out; obtain ⟨hcz23_0, hcz23_1, hfz23_0, hfz23_1⟩ := uz2 w20 BK382; obtain ⟨hcz24_0, hcz24_1, hfz24_0, hfz24_1⟩ := uz2 w20 BK383))
   refine bodyPost_ret (results_list (rs := [.cell 4 44, .cell 5 44, .tmp 6]) rfl (by simp) (.cell gb382 44 #[.bool false, .slice none 0 0] (0, 0) _ rfl (by refine blk_far ?_ NB382_383.out _; refine blk_far ?_ NB382_383.out _; refine blk_put (cs := #[.bool false, .slice none 0 0]) ?_ 1 _ rfl; refine blk_put (cs := #[.bool false, .slice none 0 0]) ?_ 0 _ rfl; exact uK BK382.out) Try.underlying44 rfl (by kernel_rfl) (.cell gb383 44 #[.bool false, .slice none 0 0] (0, 0) _ rfl (by refine blk_put (cs := #[.bool false, .slice none 0 0]) ?_ 1 _ rfl; refine blk_put (cs := #[.bool false, .slice none 0 0]) ?_ 0 _ rfl; refine blk_far ?_ NB383_382.out _; refine blk_far ?_ NB383_382.out _; exact uK BK383.out) Try.underlying44 rfl (by kernel_rfl) (.tmp .nil)))) rfl ?_
   exact ⟨_, _, uF, uI, uI, uB⟩
  rw [if_neg c5] at H
  have c5b0 := beq_eq_false_iff_ne.mpr c5
  have c5b1 := bne_iff_ne.mpr c5
  have c5b2 : ¬ (l1_1 = []) := fun h_ => c5 (by rw [h_]; rfl)
  by_cases c25 : a1_0 = true
  ·
   subst c25
   have H1 : (some (false, ([] : List Int), false, ([] : List Int), 1)) = some (r1, r2, r3, r4, r5) := by rw [if_pos rfl] at H; exact H
   clear H; have H := H1; clear H1
   simp only [Option.some.injEq, Prod.mk.injEq] at H
   obtain ⟨rfl, rfl, rfl, rfl, rfl⟩ := H
   go_enter Try.func16, Try.ntmps16
   go_wp2_with (first | ((with_reducible refine gate_dst (N := 2) rfl ?_); (try (refine gate_guard (by rfl) ?_; dsimp only)); refine ubx 2 #[.bool a0_0, .slice A0_1 l0_1.length c0_1] 44 rfl rfl ?_; intro gb380 hg w26 hbox hb; replace HO0_1 := uvb HO0_1 hg hb; replace HO1_1 := uvb HO1_1 hg hb; have BK380 := Aside0.mk (hbox); have GW380 := us hg; have GE380 := us hg; replace HB := uy hb; clear hb hbox hg) | ((with_reducible refine gate_dst (N := 3) rfl ?_); (try (refine gate_guard (by rfl) ?_; dsimp only)); refine ubx 3 #[.bool true, .slice A1_1 l1_1.length c1_1] 44 rfl rfl ?_; intro gb381 hg w27 hbox hb; replace HO0_1 := uvb HO0_1 hg hb; replace HO1_1 := uvb HO1_1 hg hb; have BK381 := Aside0.mk (hbox); have GW381 := us hg; have GE381 := us hg; replace HB := uy hb; obtain ⟨NB380_381, NB381_380⟩ := unb hg BK380; replace BK380 := ux BK380 hb; clear hb hbox hg) | ((with_reducible refine gate_dst (N := 4) rfl ?_); (try (refine gate_guard (by rfl) ?_; dsimp only)); refine ubx 4 #[.bool false, .slice none 0 0] 44 rfl rfl ?_; intro gb382 hg w28 hbox hb; replace HO0_1 := uvb HO0_1 hg hb; replace HO1_1 := uvb HO1_1 hg hb; have BK382 := Aside0.mk (hbox); have GW382 := us hg; have GE382 := us hg; replace HB := uy hb; obtain ⟨NB380_382, NB382_380⟩ := unb hg BK380; replace BK380 := ux BK380 hb; obtain ⟨NB381_382, NB382_381⟩ := unb hg BK381; replace BK381 := ux BK381 hb; clear hb hbox hg) | ((with_reducible refine gate_dst (N := 5) rfl ?_); (try (refine gate_guard (by rfl) ?_; dsimp only)); refine ubx 5 #[.bool false, .slice none 0 0] 44 rfl rfl ?_; intro gb383 hg w29 hbox hb; replace HO0_1 := uvb HO0_1 hg hb; replace HO1_1 := uvb HO1_1 hg hb; have BK383 := Aside0.mk (hbox); have GW383 := us hg; have GE383 := us hg; replace HB := uy hb; obtain ⟨NB380_383, NB383_380⟩ := unb hg BK380; replace BK380 := ux BK380 hb; obtain ⟨NB381_383, NB383_381⟩ := unb hg BK381; replace BK381 := ux BK381 hb; obtain ⟨NB382_383, NB383_382⟩ := unb hg BK382; replace BK382 := ux BK382 hb; clear hb hbox hg; have hnb30 := NB380_381.out; have hnc30 := NB381_380.out; have hnb31 := NB380_382.out; have hnc31 := NB382_380.out; have hnb32 := NB380_383.out; have hnc32 := NB383_380.out; obtain ⟨hcz33_0, hcz33_1, hfz33_0, hfz33_1⟩ := uz2 w29 BK380; have hnb34 := NB381_382.out; have hnc34 := NB382_381.out; have hnb35 := NB381_383.out; have hnc35 := NB383_381.out; obtain ⟨hcz36_0, hcz36_1, hfz36_0, hfz36_1⟩ := uz2 w29 BK381) | ((with_reducible refine gate_dst (N := 14) rfl ?_); (try (refine gate_guard (by rfl) ?_; dsimp only)); refine Kd.N_lit k44 _ 44 ?hg (N' := 14) ?hd (xs := ([(⟨a0_0, l0_1⟩ : S44), (⟨true, l1_1⟩ : S44)] : List (S44))) (inner := [.bool a0_0, .slice A0_1 l0_1.length c0_1, .bool true, .slice A1_1 l1_1.length c1_1]) (ok := (fun k_ => ((P0_1_ k_ ∨ P1_1_ k_) ∨ w.heap.size ≤ k_) ∧ k_ ≠ gb380 ∧ k_ ≠ gb381 ∧ k_ ≠ gb382 ∧ k_ ≠ gb383)) (okp := (fun k_ => ((P0_1_ k_ ∨ P1_1_ k_) ∨ w.heap.size ≤ k_) ∧ k_ ≠ gb380 ∧ k_ ≠ gb381 ∧ k_ ≠ gb382 ∧ k_ ≠ gb383)) ?hr ?hp (fun _ hk => hk) ((show ∀ k_, w29.heap.size ≤ k_ → (fun k_ => ((P0_1_ k_ ∨ P1_1_ k_) ∨ w.heap.size ≤ k_) ∧ k_ ≠ gb380 ∧ k_ ≠ gb381 ∧ k_ ≠ gb382 ∧ k_ ≠ gb383) k_ from fun k_ hk => ⟨(.inr (Nat.le_trans (below_size uB) hk)), Kd.freshB (g := gb380) (o := .cells #[.bool a0_0, .slice A0_1 l0_1.length c0_1] 44 (0, 0)) (uK BK380.out) k_ hk, Kd.freshB (g := gb381) (o := .cells #[.bool true, .slice A1_1 l1_1.length c1_1] 44 (0, 0)) (uK BK381.out) k_ hk, Kd.freshB (g := gb382) (o := .cells #[.bool false, .slice none 0 0] 44 (0, 0)) (uK BK382.out) k_ hk, Kd.freshB (g := gb383) (o := .cells #[.bool false, .slice none 0 0] 44 (0, 0)) (uK BK383.out) k_ hk⟩) _ (Nat.le_refl _)) (Below.refl _ _) (Nat.le_refl _) (by simp) ?_; (case hd => rfl); (case hg => rfl); (case hr => first | (go_simp; done) | (go_simp; rfl) | (go_simp; simp only [u64_u8]; done) | (go_simp; simp only [u64_u8]; rfl)); (case hp => exact (Reps.c2 (show Kd.FK k44 _ _ (⟨a0_0, l0_1⟩ : S44) [.bool a0_0, .slice A0_1 l0_1.length c0_1] from (k44_mkF _ _ (⟨a0_0, l0_1⟩ : S44) (Kd.V_reads' (Kd.V_mono (ok' := (fun k_ => ((P0_1_ k_ ∨ P1_1_ k_) ∨ w.heap.size ≤ k_) ∧ k_ ≠ gb380 ∧ k_ ≠ gb381 ∧ k_ ≠ gb382 ∧ k_ ≠ gb383)) (HO0_1.out) (fun k_ hk => ⟨hk.1.1.1.1, ⟨hk.1.1.1.2, ⟨hk.1.1.2, ⟨hk.1.2, hk.2⟩⟩⟩⟩))).2.1 (Kd.V_F (Kd.V_mono (ok' := (fun k_ => ((P0_1_ k_ ∨ P1_1_ k_) ∨ w.heap.size ≤ k_) ∧ k_ ≠ gb380 ∧ k_ ≠ gb381 ∧ k_ ≠ gb382 ∧ k_ ≠ gb383)) (HO0_1.out) (fun k_ hk => ⟨hk.1.1.1.1, ⟨hk.1.1.1.2, ⟨hk.1.1.2, ⟨hk.1.2, hk.2⟩⟩⟩⟩))))) (Reps.c2 (show Kd.FK k44 _ _ (⟨true, l1_1⟩ : S44) [.bool true, .slice A1_1 l1_1.length c1_1] from (k44_mkF _ _ (⟨true, l1_1⟩ : S44) (Kd.V_reads' (Kd.V_mono (ok' := (fun k_ => ((P0_1_ k_ ∨ P1_1_ k_) ∨ w.heap.size ≤ k_) ∧ k_ ≠ gb380 ∧ k_ ≠ gb381 ∧ k_ ≠ gb382 ∧ k_ ≠ gb383)) (HO1_1.out) (fun k_ hk => ⟨hk.1.1.1.1, ⟨hk.1.1.1.2, ⟨hk.1.1.2, ⟨hk.1.2, hk.2⟩⟩⟩⟩))).2.1 (Kd.V_F (Kd.V_mono (ok' := (fun k_ => ((P0_1_ k_ ∨ P1_1_ k_) ∨ w.heap.size ≤ k_) ∧ k_ ≠ gb380 ∧ k_ ≠ gb381 ∧ k_ ≠ gb382 ∧ k_ ≠ gb383)) (HO1_1.out) (fun k_ hk => ⟨hk.1.1.1.1, ⟨hk.1.1.1.2, ⟨hk.1.1.2, ⟨hk.1.2, hk.2⟩⟩⟩⟩))))) (Reps.none _ _)))); intro v385 w37 ho38 hb hg_ hnew_; clear hg_ hnew_; (first | rw [← Ny384.out] at ho38 | (simp only [Int.reduceToNat] at ho38; rw [← Ny384.out] at ho38)); replace HO0_1 := Aside0.mk (Kd.V_elder' (uV HO0_1.out) (Kd.N_base ho38) hb); replace HO1_1 := Aside0.mk (Kd.V_elder' (uV HO1_1.out) (Kd.N_base ho38) hb); have HO386 := Aside0.mk (Kd.N_lower ho38 (below_size uB)); replace BK380 := ux BK380 hb; replace BK381 := ux BK381 hb; replace BK382 := ux BK382 hb; replace BK383 := ux BK383 hb; replace HB := uy hb; clear hb ho38; obtain ⟨Ao39, co39, eo39⟩ := Kd.N_slice HO386.out; subst eo39) | ((with_reducible refine ug 42 rfl ?_); refine uh (some 15) rfl Try.func42 #[.slice Ao39 y384.length co39] ?_; (with_reducible refine (modint_right.calls _ _ y384 true _ ?side1 ?side2 A3.out).mono ?_); (case side1 => exact uC (Kd.N_reads' HO386.out).2.2); (case side2 => exact (Kd.N_reads' HO386.out).2.1); rintro e w40 ⟨rfl, hb⟩; refine ⟨_, rfl, ?_⟩; replace HO0_1 := Aside0.mk (Kd.V_below (uV HO0_1.out) hb); replace HO1_1 := Aside0.mk (Kd.V_below (uV HO1_1.out) hb); replace HO386 := Aside0.mk (Kd.N_below (uN HO386.out) hb); replace BK380 := ux BK380 hb; replace BK381 := ux BK381 hb; replace BK382 := ux BK382 hb; replace BK383 := ux BK383 hb; replace HB := uy hb; (try clear hb); obtain ⟨hcz41_0, hcz41_1, hfz41_0, hfz41_1⟩ := uz2 w40 BK381; have hnb42 := NB382_383.out; have hnc42 := NB383_382.out; obtain ⟨hcz43_0, hcz43_1, hfz43_0, hfz43_1⟩ := uz2 w40 BK382; obtain ⟨hcz44_0, hcz44_1, hfz44_0, hfz44_1⟩ := uz2 w40 BK383))
   refine bodyPost_ret (results_list (rs := [.cell 4 44, .cell 5 44, .tmp 6]) rfl (by simp) (.cell gb382 44 #[.bool false, .slice none 0 0] (0, 0) _ rfl (by refine blk_far ?_ NB382_383.out _; refine blk_far ?_ NB382_383.out _; refine blk_put (cs := #[.bool false, .slice none 0 0]) ?_ 1 _ rfl; refine blk_put (cs := #[.bool false, .slice none 0 0]) ?_ 0 _ rfl; exact uK BK382.out) Try.underlying44 rfl (by kernel_rfl) (.cell gb383 44 #[.bool false, .slice none 0 0] (0, 0) _ rfl (by refine blk_put (cs := #[.bool false, .slice none 0 0]) ?_ 1 _ rfl; refine blk_put (cs := #[.bool false, .slice none 0 0]) ?_ 0 _ rfl; refine blk_far ?_ NB383_382.out _; refine blk_far ?_ NB383_382.out _; exact uK BK383.out) Try.underlying44 rfl (by kernel_rfl) (.tmp .nil)))) rfl ?_
   exact ⟨_, _, uF, uI, uI, uB⟩
  replace c25 := Bool.eq_false_iff.mpr c25
  subst c25
  have H1 : ((nat_Div.f k l0_1 l1_1).bind fun bt388 => (if a0_0 = true then (modint_Floor.j0 k bt388.1 bt388.2.1 (decide ((bt388.2.1.length : Int) > 0)) a0_0 l0_1 false l1_1) else (modint_Floor.j0 k bt388.1 bt388.2.1 false a0_0 l0_1 false l1_1))) = some (r1, r2, r3, r4, r5) := by rw [if_neg (show ¬ (false = true) by decide)] at H; exact H
  clear H; have H := H1; clear H1
  replace H := ub H; obtain ⟨⟨t388, t391, t394⟩, A45, H⟩ := H
  (try dsimp only at H)
  have HC46 := Aside0.mk H; clear H
  go_enter Try.func16, Try.ntmps16
  go_upto_region 8 with (first | ((with_reducible refine gate_dst (N := 2) rfl ?_); (try (refine gate_guard (by rfl) ?_; dsimp only)); refine ubx 2 #[.bool a0_0, .slice A0_1 l0_1.length c0_1] 44 rfl rfl ?_; intro gb380 hg w47 hbox hb; replace HO0_1 := uvb HO0_1 hg hb; replace HO1_1 := uvb HO1_1 hg hb; have BK380 := Aside0.mk (hbox); have GW380 := us hg; have GE380 := us hg; replace HB := uy hb; clear hb hbox hg) | ((with_reducible refine gate_dst (N := 3) rfl ?_); (try (refine gate_guard (by rfl) ?_; dsimp only)); refine ubx 3 #[.bool false, .slice A1_1 l1_1.length c1_1] 44 rfl rfl ?_; intro gb381 hg w48 hbox hb; replace HO0_1 := uvb HO0_1 hg hb; replace HO1_1 := uvb HO1_1 hg hb; have BK381 := Aside0.mk (hbox); have GW381 := us hg; have GE381 := us hg; replace HB := uy hb; obtain ⟨NB380_381, NB381_380⟩ := unb hg BK380; replace BK380 := ux BK380 hb; clear hb hbox hg) | ((with_reducible refine gate_dst (N := 4) rfl ?_); (try (refine gate_guard (by rfl) ?_; dsimp only)); refine ubx 4 #[.bool false, .slice none 0 0] 44 rfl rfl ?_; intro gb382 hg w49 hbox hb; replace HO0_1 := uvb HO0_1 hg hb; replace HO1_1 := uvb HO1_1 hg hb; have BK382 := Aside0.mk (hbox); have GW382 := us hg; have GE382 := us hg; replace HB := uy hb; obtain ⟨NB380_382, NB382_380⟩ := unb hg BK380; replace BK380 := ux BK380 hb; obtain ⟨NB381_382, NB382_381⟩ := unb hg BK381; replace BK381 := ux BK381 hb; clear hb hbox hg) | ((with_reducible refine gate_dst (N := 5) rfl ?_); (try (refine gate_guard (by rfl) ?_; dsimp only)); refine ubx 5 #[.bool false, .slice none 0 0] 44 rfl rfl ?_; intro gb383 hg w50 hbox hb; replace HO0_1 := uvb HO0_1 hg hb; replace HO1_1 := uvb HO1_1 hg hb; have BK383 := Aside0.mk (hbox); have GW383 := us hg; have GE383 := us hg; replace HB := uy hb; obtain ⟨NB380_383, NB383_380⟩ := unb hg BK380; replace BK380 := ux BK380 hb; obtain ⟨NB381_383, NB383_381⟩ := unb hg BK381; replace BK381 := ux BK381 hb; obtain ⟨NB382_383, NB383_382⟩ := unb hg BK382; replace BK382 := ux BK382 hb; clear hb hbox hg; have hnb51 := NB380_381.out; have hnc51 := NB381_380.out; have hnb52 := NB380_382.out; have hnc52 := NB382_380.out; have hnb53 := NB380_383.out; have hnc53 := NB383_380.out; obtain ⟨hcz54_0, hcz54_1, hfz54_0, hfz54_1⟩ := uz2 w50 BK380; have hnb55 := NB381_382.out; have hnc55 := NB382_381.out; have hnb56 := NB381_383.out; have hnc56 := NB383_381.out; obtain ⟨hcz57_0, hcz57_1, hfz57_0, hfz57_1⟩ := uz2 w50 BK381) | ((with_reducible refine gate_dst (N := 14) rfl ?_); (try (refine gate_guard (by rfl) ?_; dsimp only)); refine Kd.N_lit k44 _ 44 ?hg (N' := 14) ?hd (xs := ([(⟨a0_0, l0_1⟩ : S44), (⟨false, l1_1⟩ : S44)] : List (S44))) (inner := [.bool a0_0, .slice A0_1 l0_1.length c0_1, .bool false, .slice A1_1 l1_1.length c1_1]) (ok := (fun k_ => ((P0_1_ k_ ∨ P1_1_ k_) ∨ w.heap.size ≤ k_) ∧ k_ ≠ gb380 ∧ k_ ≠ gb381 ∧ k_ ≠ gb382 ∧ k_ ≠ gb383)) (okp := (fun k_ => ((P0_1_ k_ ∨ P1_1_ k_) ∨ w.heap.size ≤ k_) ∧ k_ ≠ gb380 ∧ k_ ≠ gb381 ∧ k_ ≠ gb382 ∧ k_ ≠ gb383)) ?hr ?hp (fun _ hk => hk) ((show ∀ k_, w50.heap.size ≤ k_ → (fun k_ => ((P0_1_ k_ ∨ P1_1_ k_) ∨ w.heap.size ≤ k_) ∧ k_ ≠ gb380 ∧ k_ ≠ gb381 ∧ k_ ≠ gb382 ∧ k_ ≠ gb383) k_ from fun k_ hk => ⟨(.inr (Nat.le_trans (below_size uB) hk)), Kd.freshB (g := gb380) (o := .cells #[.bool a0_0, .slice A0_1 l0_1.length c0_1] 44 (0, 0)) (uK BK380.out) k_ hk, Kd.freshB (g := gb381) (o := .cells #[.bool false, .slice A1_1 l1_1.length c1_1] 44 (0, 0)) (uK BK381.out) k_ hk, Kd.freshB (g := gb382) (o := .cells #[.bool false, .slice none 0 0] 44 (0, 0)) (uK BK382.out) k_ hk, Kd.freshB (g := gb383) (o := .cells #[.bool false, .slice none 0 0] 44 (0, 0)) (uK BK383.out) k_ hk⟩) _ (Nat.le_refl _)) (Below.refl _ _) (Nat.le_refl _) (by simp) ?_; (case hd => rfl); (case hg => rfl); (case hr => first | (go_simp; done) | (go_simp; rfl) | (go_simp; simp only [u64_u8]; done) | (go_simp; simp only [u64_u8]; rfl)); (case hp => exact (Reps.c2 (show Kd.FK k44 _ _ (⟨a0_0, l0_1⟩ : S44) [.bool a0_0, .slice A0_1 l0_1.length c0_1] from (k44_mkF _ _ (⟨a0_0, l0_1⟩ : S44) (Kd.V_reads' (Kd.V_mono (ok' := (fun k_ => ((P0_1_ k_ ∨ P1_1_ k_) ∨ w.heap.size ≤ k_) ∧ k_ ≠ gb380 ∧ k_ ≠ gb381 ∧ k_ ≠ gb382 ∧ k_ ≠ gb383)) (HO0_1.out) (fun k_ hk => ⟨hk.1.1.1.1, ⟨hk.1.1.1.2, ⟨hk.1.1.2, ⟨hk.1.2, hk.2⟩⟩⟩⟩))).2.1 (Kd.V_F (Kd.V_mono (ok' := (fun k_ => ((P0_1_ k_ ∨ P1_1_ k_) ∨ w.heap.size ≤ k_) ∧ k_ ≠ gb380 ∧ k_ ≠ gb381 ∧ k_ ≠ gb382 ∧ k_ ≠ gb383)) (HO0_1.out) (fun k_ hk => ⟨hk.1.1.1.1, ⟨hk.1.1.1.2, ⟨hk.1.1.2, ⟨hk.1.2, hk.2⟩⟩⟩⟩))))) (Reps.c2 (show Kd.FK k44 _ _ (⟨false, l1_1⟩ : S44) [.bool false, .slice A1_1 l1_1.length c1_1] from (k44_mkF _ _ (⟨false, l1_1⟩ : S44) (Kd.V_reads' (Kd.V_mono (ok' := (fun k_ => ((P0_1_ k_ ∨ P1_1_ k_) ∨ w.heap.size ≤ k_) ∧ k_ ≠ gb380 ∧ k_ ≠ gb381 ∧ k_ ≠ gb382 ∧ k_ ≠ gb383)) (HO1_1.out) (fun k_ hk => ⟨hk.1.1.1.1, ⟨hk.1.1.1.2, ⟨hk.1.1.2, ⟨hk.1.2, hk.2⟩⟩⟩⟩))).2.1 (Kd.V_F (Kd.V_mono (ok' := (fun k_ => ((P0_1_ k_ ∨ P1_1_ k_) ∨ w.heap.size ≤ k_) ∧ k_ ≠ gb380 ∧ k_ ≠ gb381 ∧ k_ ≠ gb382 ∧ k_ ≠ gb383)) (HO1_1.out) (fun k_ hk => ⟨hk.1.1.1.1, ⟨hk.1.1.1.2, ⟨hk.1.1.2, ⟨hk.1.2, hk.2⟩⟩⟩⟩))))) (Reps.none _ _)))); intro v385 w58 ho59 hb hg_ hnew_; clear hg_ hnew_; (first | rw [← Ny384.out] at ho59 | (simp only [Int.reduceToNat] at ho59; rw [← Ny384.out] at ho59)); replace HO0_1 := Aside0.mk (Kd.V_elder' (uV HO0_1.out) (Kd.N_base ho59) hb); replace HO1_1 := Aside0.mk (Kd.V_elder' (uV HO1_1.out) (Kd.N_base ho59) hb); have HO386 := Aside0.mk (Kd.N_lower ho59 (below_size uB)); replace BK380 := ux BK380 hb; replace BK381 := ux BK381 hb; replace BK382 := ux BK382 hb; replace BK383 := ux BK383 hb; replace HB := uy hb; clear hb ho59; obtain ⟨Ao60, co60, eo60⟩ := Kd.N_slice HO386.out; subst eo60) | ((with_reducible refine ug 42 rfl ?_); refine uh (some 15) rfl Try.func42 #[.slice Ao60 y384.length co60] ?_; (with_reducible refine (modint_right.calls _ _ y384 true _ ?side1 ?side2 A3.out).mono ?_); (case side1 => exact uC (Kd.N_reads' HO386.out).2.2); (case side2 => exact (Kd.N_reads' HO386.out).2.1); rintro e w61 ⟨rfl, hb⟩; refine ⟨_, rfl, ?_⟩; replace HO0_1 := Aside0.mk (Kd.V_below (uV HO0_1.out) hb); replace HO1_1 := Aside0.mk (Kd.V_below (uV HO1_1.out) hb); replace HO386 := Aside0.mk (Kd.N_below (uN HO386.out) hb); replace BK380 := ux BK380 hb; replace BK381 := ux BK381 hb; replace BK382 := ux BK382 hb; replace BK383 := ux BK383 hb; replace HB := uy hb; (try clear hb); obtain ⟨hcz62_0, hcz62_1, hfz62_0, hfz62_1⟩ := uz2 w61 BK381; obtain ⟨hcz63_0, hcz63_1, hfz63_0, hfz63_1⟩ := uz2 w61 BK380) | ((with_reducible refine ug 43 rfl ?_); refine uh (some 36) rfl Try.func43 #[.slice A0_1 l0_1.length c0_1, .slice A1_1 l1_1.length c1_1] ?_; (with_reducible refine (nat_Div.calls k (fun k_ => (((((((P0_1_ k_ ∨ P1_1_ k_) ∨ w.heap.size ≤ k_) ∧ k_ ≠ gb380) ∧ k_ ≠ gb381) ∧ k_ ≠ gb382) ∧ k_ ≠ gb383) ∧ some k_ ≠ (.slice Ao60 y384.length co60 : Value).ownBlock)) _ _ l0_1 (fun k_ => (((((((P0_1_ k_ ∨ P1_1_ k_) ∨ w.heap.size ≤ k_) ∧ k_ ≠ gb380) ∧ k_ ≠ gb381) ∧ k_ ≠ gb382) ∧ k_ ≠ gb383) ∧ some k_ ≠ (.slice Ao60 y384.length co60 : Value).ownBlock)) _ _ l1_1 t388 t391 t394 _ ?side1 ?side2 A45.out).mono ?_); (case side1 => exact HO0_1.out); (case side2 => exact HO1_1.out); rintro e w64 ⟨v389, v392, rfl, ho0, ho1, hb⟩; refine ⟨_, rfl, ?_⟩; replace HO0_1 := Aside0.mk (Kd.V_mono (Kd.V_told (Kd.V_told (Kd.V_old (uV HO0_1.out) hb) (Kd.R_base ho0)) (Kd.R_base ho1)) (fun _ h_ => h_.1)); replace HO1_1 := Aside0.mk (Kd.V_mono (Kd.V_told (Kd.V_told (Kd.V_old (uV HO1_1.out) hb) (Kd.R_base ho0)) (Kd.R_base ho1)) (fun _ h_ => h_.1)); replace HO386 := Aside0.mk (Kd.N_mono (Kd.N_told (Kd.N_told (Kd.N_old (uN HO386.out) hb) (Kd.R_base ho0)) (Kd.R_base ho1)) (fun _ h_ => h_.1)); have HO390 := ulo (Kd.R_newM (M := fun k_ => (w.heap.size ≤ k_)) (Kd.R_mono (ok' := fun k_ => some k_ ≠ (v392 : Value).ownBlock) ho0 (fun _ hk_ => hk_.2)) (below_size uB) (fun k_ h_ => h_)); have HO393 := ulo (Kd.R_newM (M := fun k_ => (w.heap.size ≤ k_)) (Kd.R_mono (ok' := fun k_ => some k_ ≠ (v389 : Value).ownBlock) ho1 (fun _ hk_ => hk_.2)) (below_size uB) (fun k_ h_ => h_)); replace BK380 := ux BK380 hb; replace BK381 := ux BK381 hb; replace BK382 := ux BK382 hb; replace BK383 := ux BK383 hb; replace HB := uy hb; (try clear hb ho0 ho1)))
  (try simp only [Act.put, List.setIfInBounds_toArray, List.set_cons_zero, List.set_cons_succ])
  go_cut [46] (fun v46 wc => ∃ (kq : Nat) (x46_45 : Bool), v46 = .bool x46_45 ∧ Aside0 (modint_Floor.j0 kq t388 t391 x46_45 a0_0 l0_1 false l1_1 = some (r1, r2, r3, r4, r5)) ∧ Aside0 (kq ≤ k) ∧ Aside0 (Kd.R (Kd.int .u64) 42 wc w.heap.size (fun k_ => (w.heap.size ≤ k_) ∧ some k_ ≠ (v392 : Value).ownBlock) v389 t388) ∧ Aside0 (Kd.R (Kd.int .u64) 42 wc w.heap.size (fun k_ => (w.heap.size ≤ k_) ∧ some k_ ≠ (v389 : Value).ownBlock) v392 t391) ∧ Aside0 (Kd.V (Kd.int .u64) 42 wc w.heap.size (fun k_ => ((P0_1_ k_ ∨ P1_1_ k_) ∨ w.heap.size ≤ k_) ∧ some k_ ≠ (v389 : Value).ownBlock ∧ some k_ ≠ (v392 : Value).ownBlock ∧ k_ ≠ gb380 ∧ k_ ≠ gb381 ∧ k_ ≠ gb382 ∧ k_ ≠ gb383) (.slice A0_1 l0_1.length c0_1) l0_1) ∧ Aside0 (Kd.V (Kd.int .u64) 42 wc w.heap.size (fun k_ => ((P0_1_ k_ ∨ P1_1_ k_) ∨ w.heap.size ≤ k_) ∧ some k_ ≠ (v389 : Value).ownBlock ∧ some k_ ≠ (v392 : Value).ownBlock ∧ k_ ≠ gb380 ∧ k_ ≠ gb381 ∧ k_ ≠ gb382 ∧ k_ ≠ gb383) (.slice A1_1 l1_1.length c1_1) l1_1) ∧ Aside0 (wc.heap[gb380]? = some (.cells #[.bool a0_0, (.slice A0_1 l0_1.length c0_1)] 44 (0, 0))) ∧ Aside0 (wc.heap[gb381]? = some (.cells #[.bool false, (.slice A1_1 l1_1.length c1_1)] 44 (0, 0))) ∧ Aside0 (wc.heap[gb382]? = some (.cells #[.bool false, (.slice none 0 0)] 44 (0, 0))) ∧ Aside0 (wc.heap[gb383]? = some (.cells #[.bool false, (.slice none 0 0)] 44 (0, 0))) ∧ Aside0 (Below w.heap.size w wc))
  case first =>
   have H := HC46.out
   clear HC46
   by_cases c65 : a0_0 = true
   ·
    subst c65
    have H1 : (modint_Floor.j0 k t388 t391 (decide ((t391.length : Int) > 0)) true l0_1 false l1_1) = some (r1, r2, r3, r4, r5) := by rw [if_pos rfl] at H; exact H
    clear H; have H := H1; clear H1
    have H' := Aside0.mk H
    clear H
    have hnb66 := NB380_381.out
    have hnc66 := NB381_380.out
    have hnb67 := NB380_382.out
    have hnc67 := NB382_380.out
    have hnb68 := NB380_383.out
    have hnc68 := NB383_380.out
    obtain ⟨hcz69_0, hcz69_1, hfz69_0, hfz69_1⟩ := uz2 w64 BK380
    obtain ⟨Ao70, co70, eo70⟩ := Kd.R_slice HO393.out
    subst eo70
    go_wp2
    go_meet
    case rel => exact ⟨_, (decide ((t391.length : Int) > 0)), uG, H', ⟨uW⟩, ⟨uR HO390.out⟩, ⟨uR HO393.out⟩, ⟨by (with_reducible repeat (first | apply Kd.V_alloc | apply Kd.V_drewN | apply Kd.V_drew)); exact Kd.V_mono HO0_1.out (fun _ hk => ⟨hk.1.1.1.1.1.1.1, ⟨hk.1.2, ⟨hk.2, ⟨hk.1.1.1.1.1.1.2, ⟨hk.1.1.1.1.1.2, ⟨hk.1.1.1.1.2, hk.1.1.1.2⟩⟩⟩⟩⟩⟩)⟩, ⟨by (with_reducible repeat (first | apply Kd.V_alloc | apply Kd.V_drewN | apply Kd.V_drew)); exact Kd.V_mono HO1_1.out (fun _ hk => ⟨hk.1.1.1.1.1.1.1, ⟨hk.1.2, ⟨hk.2, ⟨hk.1.1.1.1.1.1.2, ⟨hk.1.1.1.1.1.2, ⟨hk.1.1.1.1.2, hk.1.1.1.2⟩⟩⟩⟩⟩⟩)⟩, ⟨uK BK380.out⟩, ⟨uK BK381.out⟩, ⟨uK BK382.out⟩, ⟨uK BK383.out⟩, ⟨uB⟩⟩
   replace c65 := Bool.eq_false_iff.mpr c65
   subst c65
   have H1 : (modint_Floor.j0 k t388 t391 false false l0_1 false l1_1) = some (r1, r2, r3, r4, r5) := by rw [if_neg (show ¬ (false = true) by decide)] at H; exact H
   clear H; have H := H1; clear H1
   have H' := Aside0.mk H
   clear H
   have hnb71 := NB380_381.out
   have hnc71 := NB381_380.out
   have hnb72 := NB380_382.out
   have hnc72 := NB382_380.out
   have hnb73 := NB380_383.out
   have hnc73 := NB383_380.out
   obtain ⟨hcz74_0, hcz74_1, hfz74_0, hfz74_1⟩ := uz2 w64 BK380
   go_wp2
   go_meet
   case rel => exact ⟨_, (false), uG, H', ⟨uW⟩, ⟨uR HO390.out⟩, ⟨uR HO393.out⟩, ⟨by (with_reducible repeat (first | apply Kd.V_alloc | apply Kd.V_drewN | apply Kd.V_drew)); exact Kd.V_mono HO0_1.out (fun _ hk => ⟨hk.1.1.1.1.1.1.1, ⟨hk.1.2, ⟨hk.2, ⟨hk.1.1.1.1.1.1.2, ⟨hk.1.1.1.1.1.2, ⟨hk.1.1.1.1.2, hk.1.1.1.2⟩⟩⟩⟩⟩⟩)⟩, ⟨by (with_reducible repeat (first | apply Kd.V_alloc | apply Kd.V_drewN | apply Kd.V_drew)); exact Kd.V_mono HO1_1.out (fun _ hk => ⟨hk.1.1.1.1.1.1.1, ⟨hk.1.2, ⟨hk.2, ⟨hk.1.1.1.1.1.1.2, ⟨hk.1.1.1.1.1.2, ⟨hk.1.1.1.1.2, hk.1.1.1.2⟩⟩⟩⟩⟩⟩)⟩, ⟨uK BK380.out⟩, ⟨uK BK381.out⟩, ⟨uK BK382.out⟩, ⟨uK BK383.out⟩, ⟨uB⟩⟩
  case rest =>
   clear HC46; (try clear hcz13_0 hcz13_1); (try clear hcz16_0 hcz16_1); (try clear hcz21_0 hcz21_1); (try clear hcz23_0 hcz23_1); (try clear hcz24_0 hcz24_1); (try clear hcz33_0 hcz33_1); (try clear hcz36_0 hcz36_1); (try clear hcz41_0 hcz41_1); (try clear hcz43_0 hcz43_1); (try clear hcz44_0 hcz44_1); (try clear hcz54_0 hcz54_1); (try clear hcz57_0 hcz57_1); (try clear hcz62_0 hcz62_1); (try clear hcz63_0 hcz63_1); (try clear hcz69_0 hcz69_1); (try clear hcz74_0 hcz74_1); (try clear hfz13_0 hfz13_1); (try clear hfz16_0 hfz16_1); (try clear hfz21_0 hfz21_1); (try clear hfz23_0 hfz23_1); (try clear hfz24_0 hfz24_1); (try clear hfz33_0 hfz33_1); (try clear hfz36_0 hfz36_1); (try clear hfz41_0 hfz41_1); (try clear hfz43_0 hfz43_1); (try clear hfz44_0 hfz44_1); (try clear hfz54_0 hfz54_1); (try clear hfz57_0 hfz57_1); (try clear hfz62_0 hfz62_1); (try clear hfz63_0 hfz63_1); (try clear hfz69_0 hfz69_1); (try clear hfz74_0 hfz74_1)
   obtain ⟨kq, x46_45, rfl, HA, HJ45, HO_7, HO_8, HO_381001, HO_382001, BK380, BK381, BK382, BK383, HB⟩ := hcut
   cases kq with
   | zero => exact absurd HA.out (by simp [modint_Floor.j0])
   | succ kj45 =>
    have H := HA.out
    clear HA
    simp only [modint_Floor.j0] at H
    by_cases c75 : x46_45 = true
    ·
     subst c75
     have H1 : ((nat_Of.f kj45 1).bind fun t395 => ((nat_Add.f kj45 t388 t395).bind fun bt398 => (if bt398.2 = 0 then ((nat_Sub.f kj45 l1_1 t391).bind fun bt402 => ((modint_From.f a0_0 bt398.1).bind fun bt406 => ((modint_From.f false bt402.1).bind fun bt410 => (some (bt406.1, bt406.2, bt410.1, bt410.2, 0))))) else (some (false, ([] : List Int), false, ([] : List Int), bt398.2))))) = some (r1, r2, r3, r4, r5) := by rw [if_pos rfl] at H; exact H
     clear H; have H := H1; clear H1
     replace H := ub H; obtain ⟨t395, A76, H⟩ := H
     replace H := ub H; obtain ⟨⟨t398, t401⟩, A77, H⟩ := H
     (try dsimp only at H)
     by_cases c78 : t401 = 0
     ·
      rw [if_pos c78] at H
      have c78b0 := beq_iff_eq.mpr c78
      have c78b1 := bne_eq_false_iff_eq.mpr c78
      clear c78
      replace H := ub H; obtain ⟨⟨t402, t405⟩, A79, H⟩ := H
      (try dsimp only at H)
      replace H := ub H; obtain ⟨⟨t406, t407⟩, A80, H⟩ := H
      (try dsimp only at H)
      replace H := ub H; obtain ⟨⟨t410, t411⟩, A81, H⟩ := H
      (try dsimp only at H)
      simp only [Option.some.injEq, Prod.mk.injEq] at H
      obtain ⟨rfl, rfl, rfl, rfl, rfl⟩ := H
      go_wp2_with (first | ((with_reducible refine ug 44 rfl ?_); refine uh (some 49) rfl Try.func44 #[.int .u64 1] ?_; (with_reducible refine (nat_Of.calls kj45 1 t395 _ A76.out).mono ?_); rintro e w82 ⟨v396, rfl, ho0, hb⟩; refine ⟨_, rfl, ?_⟩; replace HO_381001 := ueV HO_381001 ho0 hb; replace HO_382001 := ueV HO_382001 ho0 hb; have HO397 := ulo (unw (unw (Kd.R_newM (M := fun k_ => (w.heap.size ≤ k_)) ho0 (below_size uB) (fun k_ h_ => h_)) HO_7) HO_8); replace HO_7 := ueR HO_7 ho0 hb; replace HO_8 := ueR HO_8 ho0 hb; replace BK380 := ux BK380 hb; replace BK381 := ux BK381 hb; replace BK382 := ux BK382 hb; replace BK383 := ux BK383 hb; replace HB := uy hb; (try clear hb ho0); obtain ⟨Ao83, co83, eo83⟩ := Kd.R_slice HO_7.out; subst eo83; obtain ⟨Ao84, co84, eo84⟩ := Kd.R_slice HO397.out; subst eo84) | ((with_reducible refine ug 38 rfl ?_); refine uh (some 50) rfl Try.func38 #[.slice Ao83 t388.length co83, .slice Ao84 t395.length co84] ?_; (with_reducible refine (nat_Add.calls kj45 (fun k_ => some k_ = (.slice Ao83 t388.length co83 : Value).ownBlock) _ _ t388 (fun k_ => some k_ = (.slice Ao84 t395.length co84 : Value).ownBlock) _ _ t395 t398 t401 _ ?side1 ?side2 A77.out).mono ?_); (case side1 => exact Kd.R_V (Kd.R_tight rfl (Kd.R_types (Kd.R_types (Kd.R_types (Kd.R_types (HO_7.out) BK380.out (by decide)) BK381.out (by decide)) BK382.out (by decide)) BK383.out (by decide)))); (case side2 => exact Kd.R_V (Kd.R_tight rfl (Kd.R_types (Kd.R_types (Kd.R_types (Kd.R_types (HO397.out) BK380.out (by decide)) BK381.out (by decide)) BK382.out (by decide)) BK383.out (by decide)))); rintro e w85 ⟨v399, rfl, ho0, hb⟩; refine ⟨_, rfl, ?_⟩; replace HO_381001 := ueV HO_381001 ho0 hb; replace HO_382001 := ueV HO_382001 ho0 hb; have HO400 := ulo (unw (unw (unw (Kd.R_newM (M := fun k_ => (w.heap.size ≤ k_)) (Kd.R_mono (ok' := fun k_ => True) ho0 (fun _ hk_ => trivial)) (below_size uB) (fun k_ h_ => h_)) HO_7) HO_8) HO397); replace HO_7 := ueR HO_7 ho0 hb; replace HO_8 := ueR HO_8 ho0 hb; replace HO397 := ueR HO397 ho0 hb; replace BK380 := ux BK380 hb; replace BK381 := ux BK381 hb; replace BK382 := ux BK382 hb; replace BK383 := ux BK383 hb; replace HB := uy hb; (try clear hb ho0); have hnb86 := NB381_380.out; have hnc86 := NB380_381.out; have hnb87 := NB381_382.out; have hnc87 := NB382_381.out; have hnb88 := NB381_383.out; have hnc88 := NB383_381.out; obtain ⟨hcz89_0, hcz89_1, hfz89_0, hfz89_1⟩ := uz2 w85 BK381; obtain ⟨Ao90, co90, eo90⟩ := Kd.R_slice HO_8.out; subst eo90) | ((with_reducible refine ug 37 rfl ?_); refine uh (some 62) rfl Try.func37 #[.slice A1_1 l1_1.length c1_1, .slice Ao90 t391.length co90] ?_; (with_reducible refine (nat_Sub.calls kj45 (fun k_ => (((((P0_1_ k_ ∨ P1_1_ k_) ∨ w.heap.size ≤ k_) ∧ (some k_ ≠ (.slice Ao83 t388.length co83 : Value).ownBlock ∧ (some k_ ≠ (.slice Ao90 t391.length co90 : Value).ownBlock ∧ (k_ ≠ gb380 ∧ (k_ ≠ gb381 ∧ (k_ ≠ gb382 ∧ k_ ≠ gb383)))))) ∧ some k_ ≠ (.slice Ao84 t395.length co84 : Value).ownBlock) ∧ some k_ ≠ (v399 : Value).ownBlock)) _ _ l1_1 (fun k_ => some k_ = (.slice Ao90 t391.length co90 : Value).ownBlock) _ _ t391 t402 t405 _ ?side1 ?side2 A79.out).mono ?_); (case side1 => exact HO_382001.out); (case side2 => exact Kd.R_V (Kd.R_tight rfl (Kd.R_types (Kd.R_types (Kd.R_types (Kd.R_types (HO_8.out) BK380.out (by decide)) BK381.out (by decide)) BK382.out (by decide)) BK383.out (by decide)))); rintro e w91 ⟨v403, rfl, ho0, hb⟩; refine ⟨_, rfl, ?_⟩; replace HO_381001 := ueV HO_381001 ho0 hb; replace HO_382001 := ueV HO_382001 ho0 hb; have HO404 := ulo (unw (unw (unw (unw (Kd.R_newM (M := fun k_ => (w.heap.size ≤ k_)) (Kd.R_mono (ok' := fun k_ => True) ho0 (fun _ hk_ => trivial)) (below_size uB) (fun k_ h_ => h_)) HO_7) HO_8) HO397) HO400); replace HO_7 := ueR HO_7 ho0 hb; replace HO_8 := ueR HO_8 ho0 hb; replace HO397 := ueR HO397 ho0 hb; replace HO400 := ueR HO400 ho0 hb; replace BK380 := ux BK380 hb; replace BK381 := ux BK381 hb; replace BK382 := ux BK382 hb; replace BK383 := ux BK383 hb; replace HB := uy hb; (try clear hb ho0); have hnb92 := NB380_382.out; have hnc92 := NB382_380.out; have hnb93 := NB380_383.out; have hnc93 := NB383_380.out; obtain ⟨hcz94_0, hcz94_1, hfz94_0, hfz94_1⟩ := uz2 w91 BK380; obtain ⟨Ao95, co95, eo95⟩ := Kd.R_slice HO400.out; subst eo95) | ((with_reducible refine ug 41 rfl ?_); refine uh (some 68) rfl Try.func41 #[.bool a0_0, .slice Ao95 t398.length co95] ?_; (with_reducible refine (modint_From.calls a0_0 _ _ t398 t406 t407 _ ?side1 ?side2 A80.out).mono ?_); (case side1 => exact uC (Kd.R_reads' HO400.out).2.2); (case side2 => exact (Kd.R_reads' HO400.out).2.1); rintro e w96 ⟨v408, rfl, ho0, hb⟩; refine ⟨_, rfl, ?_⟩; replace HO_381001 := ueV HO_381001 ho0 hb; replace HO_382001 := ueV HO_382001 ho0 hb; have HO409 := ulo (unw (unw (unw (unw (unw (Kd.R_newM (M := fun k_ => (w.heap.size ≤ k_)) ho0 (below_size uB) (fun k_ h_ => h_)) HO_7) HO_8) HO397) HO400) HO404); replace HO_7 := ueR HO_7 ho0 hb; replace HO_8 := ueR HO_8 ho0 hb; replace HO397 := ueR HO397 ho0 hb; replace HO400 := ueR HO400 ho0 hb; replace HO404 := ueR HO404 ho0 hb; replace BK380 := ux BK380 hb; replace BK381 := ux BK381 hb; replace BK382 := ux BK382 hb; replace BK383 := ux BK383 hb; replace HB := uy hb; (try clear hb ho0); obtain ⟨Ao97, co97, eo97⟩ := Kd.R_slice HO404.out; subst eo97) | ((with_reducible refine ug 41 rfl ?_); refine uh (some 70) rfl Try.func41 #[.bool false, .slice Ao97 t402.length co97] ?_; (with_reducible refine (modint_From.calls false _ _ t402 t410 t411 _ ?side1 ?side2 A81.out).mono ?_); (case side1 => exact uC (Kd.R_reads' HO404.out).2.2); (case side2 => exact (Kd.R_reads' HO404.out).2.1); rintro e w98 ⟨v412, rfl, ho0, hb⟩; refine ⟨_, rfl, ?_⟩; replace HO_381001 := ueV HO_381001 ho0 hb; replace HO_382001 := ueV HO_382001 ho0 hb; have HO413 := ulo (unw (unw (unw (unw (unw (unw (Kd.R_newM (M := fun k_ => (w.heap.size ≤ k_)) ho0 (below_size uB) (fun k_ h_ => h_)) HO_7) HO_8) HO397) HO400) HO404) HO409); replace HO_7 := ueR HO_7 ho0 hb; replace HO_8 := ueR HO_8 ho0 hb; replace HO397 := ueR HO397 ho0 hb; replace HO400 := ueR HO400 ho0 hb; replace HO404 := ueR HO404 ho0 hb; replace HO409 := ueR HO409 ho0 hb; replace BK380 := ux BK380 hb; replace BK381 := ux BK381 hb; replace BK382 := ux BK382 hb; replace BK383 := ux BK383 hb; replace HB := uy hb; (try clear hb ho0); have hnb99 := NB382_383.out; have hnc99 := NB383_382.out; obtain ⟨hcz100_0, hcz100_1, hfz100_0, hfz100_1⟩ := uz2 w98 BK382; obtain ⟨Ao101, co101, eo101⟩ := Kd.R_slice HO409.out; subst eo101; obtain ⟨hcz102_0, hcz102_1, hfz102_0, hfz102_1⟩ := uz2 w98 BK383; obtain ⟨Ao103, co103, eo103⟩ := Kd.R_slice HO413.out; subst eo103))
      refine bodyPost_ret (results_list (rs := [.cell 4 44, .cell 5 44, .tmp 6]) rfl (by simp) (.cell gb382 44 #[.bool t406, .slice Ao101 t407.length co101] (0, 0) _ rfl (by refine blk_far ?_ NB382_383.out _; refine blk_far ?_ NB382_383.out _; refine blk_put (cs := #[.bool t406, .slice none 0 0]) ?_ 1 _ rfl; refine blk_put (cs := #[.bool false, .slice none 0 0]) ?_ 0 _ rfl; exact uK BK382.out) Try.underlying44 rfl (by kernel_rfl) (.cell gb383 44 #[.bool t410, .slice Ao103 t411.length co103] (0, 0) _ rfl (by refine blk_put (cs := #[.bool t410, .slice none 0 0]) ?_ 1 _ rfl; refine blk_put (cs := #[.bool false, .slice none 0 0]) ?_ 0 _ rfl; refine blk_far ?_ NB383_382.out _; refine blk_far ?_ NB383_382.out _; exact uK BK383.out) Try.underlying44 rfl (by kernel_rfl) (.tmp .nil)))) rfl ?_
      exact ⟨_, _, uF, by exact uR (Kd.R_mono (Kd.R_far (p := ⟨gb383, 1, none⟩) (Kd.R_far (p := ⟨gb383, 0, none⟩) (Kd.R_far (p := ⟨gb382, 1, none⟩) (Kd.R_far (p := ⟨gb382, 0, none⟩) (Kd.R_types (Kd.R_types HO409.out BK382.out (by decide)) BK383.out (by decide)) (fun _ hk => hk.1.2) (.bool t406)) (fun _ hk => hk.1.2) (.slice Ao101 t407.length co101)) (fun _ hk => hk.2) (.bool t410)) (fun _ hk => hk.2) (.slice Ao103 t411.length co103)) (fun _ hk => ⟨hk.1.1.1.1.1.1.1.1.1, hk.1.1.2⟩)), by exact uR (Kd.R_mono (Kd.R_far (p := ⟨gb383, 1, none⟩) (Kd.R_far (p := ⟨gb383, 0, none⟩) (Kd.R_far (p := ⟨gb382, 1, none⟩) (Kd.R_far (p := ⟨gb382, 0, none⟩) (Kd.R_types (Kd.R_types HO413.out BK382.out (by decide)) BK383.out (by decide)) (fun _ hk => hk.1.2) (.bool t406)) (fun _ hk => hk.1.2) (.slice Ao101 t407.length co101)) (fun _ hk => hk.2) (.bool t410)) (fun _ hk => hk.2) (.slice Ao103 t411.length co103)) (fun _ hk => ⟨hk.1.1.1.1.1.1.1.1.1, hk.1.1.2⟩)), uB⟩
     rw [if_neg c78] at H
     have c78b0 := beq_eq_false_iff_ne.mpr c78
     have c78b1 := bne_iff_ne.mpr c78
     simp only [Option.some.injEq, Prod.mk.injEq] at H
     obtain ⟨rfl, rfl, rfl, rfl, rfl⟩ := H
     go_wp2_with (first | ((with_reducible refine ug 44 rfl ?_); refine uh (some 49) rfl Try.func44 #[.int .u64 1] ?_; (with_reducible refine (nat_Of.calls kj45 1 t395 _ A76.out).mono ?_); rintro e w104 ⟨v396, rfl, ho0, hb⟩; refine ⟨_, rfl, ?_⟩; replace HO_381001 := ueV HO_381001 ho0 hb; replace HO_382001 := ueV HO_382001 ho0 hb; have HO397 := ulo (unw (unw (Kd.R_newM (M := fun k_ => (w.heap.size ≤ k_)) ho0 (below_size uB) (fun k_ h_ => h_)) HO_7) HO_8); replace HO_7 := ueR HO_7 ho0 hb; replace HO_8 := ueR HO_8 ho0 hb; replace BK380 := ux BK380 hb; replace BK381 := ux BK381 hb; replace BK382 := ux BK382 hb; replace BK383 := ux BK383 hb; replace HB := uy hb; (try clear hb ho0); obtain ⟨Ao105, co105, eo105⟩ := Kd.R_slice HO_7.out; subst eo105; obtain ⟨Ao106, co106, eo106⟩ := Kd.R_slice HO397.out; subst eo106) | ((with_reducible refine ug 38 rfl ?_); refine uh (some 50) rfl Try.func38 #[.slice Ao105 t388.length co105, .slice Ao106 t395.length co106] ?_; (with_reducible refine (nat_Add.calls kj45 (fun k_ => some k_ = (.slice Ao105 t388.length co105 : Value).ownBlock) _ _ t388 (fun k_ => some k_ = (.slice Ao106 t395.length co106 : Value).ownBlock) _ _ t395 t398 t401 _ ?side1 ?side2 A77.out).mono ?_); (case side1 => exact Kd.R_V (Kd.R_tight rfl (Kd.R_types (Kd.R_types (Kd.R_types (Kd.R_types (HO_7.out) BK380.out (by decide)) BK381.out (by decide)) BK382.out (by decide)) BK383.out (by decide)))); (case side2 => exact Kd.R_V (Kd.R_tight rfl (Kd.R_types (Kd.R_types (Kd.R_types (Kd.R_types (HO397.out) BK380.out (by decide)) BK381.out (by decide)) BK382.out (by decide)) BK383.out (by decide)))); rintro e w107 ⟨v399, rfl, ho0, hb⟩; refine ⟨_, rfl, ?_⟩; replace HO_381001 := ueV HO_381001 ho0 hb; replace HO_382001 := ueV HO_382001 ho0 hb; have HO400 := ulo (unw (unw (unw (Kd.R_newM (M := fun k_ => (w.heap.size ≤ k_)) (Kd.R_mono (ok' := fun k_ => True) ho0 (fun _ hk_ => trivial)) (below_size uB) (fun k_ h_ => h_)) HO_7) HO_8) HO397); replace HO_7 := ueR HO_7 ho0 hb; replace HO_8 := ueR HO_8 ho0 hb; replace HO397 := ueR HO397 ho0 hb; replace BK380 := ux BK380 hb; replace BK381 := ux BK381 hb; replace BK382 := ux BK382 hb; replace BK383 := ux BK383 hb; replace HB := uy hb; (try clear hb ho0); have hnb108 := NB382_380.out; have hnc108 := NB380_382.out; have hnb109 := NB382_381.out; have hnc109 := NB381_382.out; have hnb110 := NB382_383.out; have hnc110 := NB383_382.out; obtain ⟨hcz111_0, hcz111_1, hfz111_0, hfz111_1⟩ := uz2 w107 BK382; have hnb112 := NB383_380.out; have hnc112 := NB380_383.out; have hnb113 := NB383_381.out; have hnc113 := NB381_383.out; obtain ⟨hcz114_0, hcz114_1, hfz114_0, hfz114_1⟩ := uz2 w107 BK383))
     refine bodyPost_ret (results_list (rs := [.cell 4 44, .cell 5 44, .tmp 6]) rfl (by simp) (.cell gb382 44 #[.bool false, .slice none 0 0] (0, 0) _ rfl (by refine blk_far ?_ NB382_383.out _; refine blk_far ?_ NB382_383.out _; refine blk_put (cs := #[.bool false, .slice none 0 0]) ?_ 1 _ rfl; refine blk_put (cs := #[.bool false, .slice none 0 0]) ?_ 0 _ rfl; exact uK BK382.out) Try.underlying44 rfl (by kernel_rfl) (.cell gb383 44 #[.bool false, .slice none 0 0] (0, 0) _ rfl (by refine blk_put (cs := #[.bool false, .slice none 0 0]) ?_ 1 _ rfl; refine blk_put (cs := #[.bool false, .slice none 0 0]) ?_ 0 _ rfl; refine blk_far ?_ NB383_382.out _; refine blk_far ?_ NB383_382.out _; exact uK BK383.out) Try.underlying44 rfl (by kernel_rfl) (.tmp .nil)))) rfl ?_
     exact ⟨_, _, uF, uI, uI, uB⟩
    replace c75 := Bool.eq_false_iff.mpr c75
    subst c75
    have H1 : ((modint_From.f a0_0 t388).bind fun bt414 => ((modint_From.f false t391).bind fun bt418 => (some (bt414.1, bt414.2, bt418.1, bt418.2, 0)))) = some (r1, r2, r3, r4, r5) := by rw [if_neg (show ¬ (false = true) by decide)] at H; exact H
    clear H; have H := H1; clear H1
    replace H := ub H; obtain ⟨⟨t414, t415⟩, A115, H⟩ := H
    (try dsimp only at H)
    replace H := ub H; obtain ⟨⟨t418, t419⟩, A116, H⟩ := H
    (try dsimp only at H)
    simp only [Option.some.injEq, Prod.mk.injEq] at H
    obtain ⟨rfl, rfl, rfl, rfl, rfl⟩ := H
    have hnb117 := NB380_381.out
    have hnc117 := NB381_380.out
    have hnb118 := NB380_382.out
    have hnc118 := NB382_380.out
    have hnb119 := NB380_383.out
    have hnc119 := NB383_380.out
    obtain ⟨hcz120_0, hcz120_1, hfz120_0, hfz120_1⟩ := uz2 wc BK380
    obtain ⟨Ao121, co121, eo121⟩ := Kd.R_slice HO_7.out
    subst eo121
    go_wp2_with (first | ((with_reducible refine ug 41 rfl ?_); refine uh (some 68) rfl Try.func41 #[.bool a0_0, .slice Ao121 t388.length co121] ?_; (with_reducible refine (modint_From.calls a0_0 _ _ t388 t414 t415 _ ?side1 ?side2 A115.out).mono ?_); (case side1 => exact uC (Kd.R_reads' HO_7.out).2.2); (case side2 => exact (Kd.R_reads' HO_7.out).2.1); rintro e w122 ⟨v416, rfl, ho0, hb⟩; refine ⟨_, rfl, ?_⟩; replace HO_381001 := ueV HO_381001 ho0 hb; replace HO_382001 := ueV HO_382001 ho0 hb; have HO417 := ulo (unw (unw (Kd.R_newM (M := fun k_ => (w.heap.size ≤ k_)) ho0 (below_size uB) (fun k_ h_ => h_)) HO_7) HO_8); replace HO_7 := ueR HO_7 ho0 hb; replace HO_8 := ueR HO_8 ho0 hb; replace BK380 := ux BK380 hb; replace BK381 := ux BK381 hb; replace BK382 := ux BK382 hb; replace BK383 := ux BK383 hb; replace HB := uy hb; (try clear hb ho0); obtain ⟨Ao123, co123, eo123⟩ := Kd.R_slice HO_8.out; subst eo123) | ((with_reducible refine ug 41 rfl ?_); refine uh (some 70) rfl Try.func41 #[.bool false, .slice Ao123 t391.length co123] ?_; (with_reducible refine (modint_From.calls false _ _ t391 t418 t419 _ ?side1 ?side2 A116.out).mono ?_); (case side1 => exact uC (Kd.R_reads' HO_8.out).2.2); (case side2 => exact (Kd.R_reads' HO_8.out).2.1); rintro e w124 ⟨v420, rfl, ho0, hb⟩; refine ⟨_, rfl, ?_⟩; replace HO_381001 := ueV HO_381001 ho0 hb; replace HO_382001 := ueV HO_382001 ho0 hb; have HO421 := ulo (unw (unw (unw (Kd.R_newM (M := fun k_ => (w.heap.size ≤ k_)) ho0 (below_size uB) (fun k_ h_ => h_)) HO_7) HO_8) HO417); replace HO_7 := ueR HO_7 ho0 hb; replace HO_8 := ueR HO_8 ho0 hb; replace HO417 := ueR HO417 ho0 hb; replace BK380 := ux BK380 hb; replace BK381 := ux BK381 hb; replace BK382 := ux BK382 hb; replace BK383 := ux BK383 hb; replace HB := uy hb; (try clear hb ho0); have hnb125 := NB382_381.out; have hnc125 := NB381_382.out; have hnb126 := NB382_383.out; have hnc126 := NB383_382.out; obtain ⟨hcz127_0, hcz127_1, hfz127_0, hfz127_1⟩ := uz2 w124 BK382; obtain ⟨Ao128, co128, eo128⟩ := Kd.R_slice HO417.out; subst eo128; have hnb129 := NB383_381.out; have hnc129 := NB381_383.out; obtain ⟨hcz130_0, hcz130_1, hfz130_0, hfz130_1⟩ := uz2 w124 BK383; obtain ⟨Ao131, co131, eo131⟩ := Kd.R_slice HO421.out; subst eo131))
    refine bodyPost_ret (results_list (rs := [.cell 4 44, .cell 5 44, .tmp 6]) rfl (by simp) (.cell gb382 44 #[.bool t414, .slice Ao128 t415.length co128] (0, 0) _ rfl (by refine blk_far ?_ NB382_383.out _; refine blk_far ?_ NB382_383.out _; refine blk_put (cs := #[.bool t414, .slice none 0 0]) ?_ 1 _ rfl; refine blk_put (cs := #[.bool false, .slice none 0 0]) ?_ 0 _ rfl; exact uK BK382.out) Try.underlying44 rfl (by kernel_rfl) (.cell gb383 44 #[.bool t418, .slice Ao131 t419.length co131] (0, 0) _ rfl (by refine blk_put (cs := #[.bool t418, .slice none 0 0]) ?_ 1 _ rfl; refine blk_put (cs := #[.bool false, .slice none 0 0]) ?_ 0 _ rfl; refine blk_far ?_ NB383_382.out _; refine blk_far ?_ NB383_382.out _; exact uK BK383.out) Try.underlying44 rfl (by kernel_rfl) (.tmp .nil)))) rfl ?_
    exact ⟨_, _, uF, by exact uR (Kd.R_mono (Kd.R_far (p := ⟨gb383, 1, none⟩) (Kd.R_far (p := ⟨gb383, 0, none⟩) (Kd.R_far (p := ⟨gb382, 1, none⟩) (Kd.R_far (p := ⟨gb382, 0, none⟩) (Kd.R_types (Kd.R_types HO417.out BK382.out (by decide)) BK383.out (by decide)) (fun _ hk => hk.1.2) (.bool t414)) (fun _ hk => hk.1.2) (.slice Ao128 t415.length co128)) (fun _ hk => hk.2) (.bool t418)) (fun _ hk => hk.2) (.slice Ao131 t419.length co131)) (fun _ hk => ⟨hk.1.1.1.1.1.1, hk.1.1.2⟩)), by exact uR (Kd.R_mono (Kd.R_far (p := ⟨gb383, 1, none⟩) (Kd.R_far (p := ⟨gb383, 0, none⟩) (Kd.R_far (p := ⟨gb382, 1, none⟩) (Kd.R_far (p := ⟨gb382, 0, none⟩) (Kd.R_types (Kd.R_types HO421.out BK382.out (by decide)) BK383.out (by decide)) (fun _ hk => hk.1.2) (.bool t414)) (fun _ hk => hk.1.2) (.slice Ao128 t415.length co128)) (fun _ hk => hk.2) (.bool t418)) (fun _ hk => hk.2) (.slice Ao131 t419.length co131)) (fun _ hk => ⟨hk.1.1.1.1.1.1, hk.1.1.2⟩)), uB⟩
 replace c4 := Bool.eq_false_iff.mpr c4
 subst c4
 have H1 : (some (false, ([] : List Int), false, ([] : List Int), 1)) = some (r1, r2, r3, r4, r5) := by rw [if_neg (show ¬ (false = true) by decide)] at H; exact H
 clear H; have H := H1; clear H1
 simp only [Option.some.injEq, Prod.mk.injEq] at H
 obtain ⟨rfl, rfl, rfl, rfl, rfl⟩ := H
 go_enter Try.func16, Try.ntmps16
 go_wp2_with (first | ((with_reducible refine gate_dst (N := 2) rfl ?_); (try (refine gate_guard (by rfl) ?_; dsimp only)); refine ubx 2 #[.bool a0_0, .slice A0_1 l0_1.length c0_1] 44 rfl rfl ?_; intro gb380 hg w132 hbox hb; replace HO0_1 := uvb HO0_1 hg hb; replace HO1_1 := uvb HO1_1 hg hb; have BK380 := Aside0.mk (hbox); have GW380 := us hg; have GE380 := us hg; replace HB := uy hb; clear hb hbox hg) | ((with_reducible refine gate_dst (N := 3) rfl ?_); (try (refine gate_guard (by rfl) ?_; dsimp only)); refine ubx 3 #[.bool a1_0, .slice A1_1 l1_1.length c1_1] 44 rfl rfl ?_; intro gb381 hg w133 hbox hb; replace HO0_1 := uvb HO0_1 hg hb; replace HO1_1 := uvb HO1_1 hg hb; have BK381 := Aside0.mk (hbox); have GW381 := us hg; have GE381 := us hg; replace HB := uy hb; obtain ⟨NB380_381, NB381_380⟩ := unb hg BK380; replace BK380 := ux BK380 hb; clear hb hbox hg) | ((with_reducible refine gate_dst (N := 4) rfl ?_); (try (refine gate_guard (by rfl) ?_; dsimp only)); refine ubx 4 #[.bool false, .slice none 0 0] 44 rfl rfl ?_; intro gb382 hg w134 hbox hb; replace HO0_1 := uvb HO0_1 hg hb; replace HO1_1 := uvb HO1_1 hg hb; have BK382 := Aside0.mk (hbox); have GW382 := us hg; have GE382 := us hg; replace HB := uy hb; obtain ⟨NB380_382, NB382_380⟩ := unb hg BK380; replace BK380 := ux BK380 hb; obtain ⟨NB381_382, NB382_381⟩ := unb hg BK381; replace BK381 := ux BK381 hb; clear hb hbox hg) | ((with_reducible refine gate_dst (N := 5) rfl ?_); (try (refine gate_guard (by rfl) ?_; dsimp only)); refine ubx 5 #[.bool false, .slice none 0 0] 44 rfl rfl ?_; intro gb383 hg w135 hbox hb; replace HO0_1 := uvb HO0_1 hg hb; replace HO1_1 := uvb HO1_1 hg hb; have BK383 := Aside0.mk (hbox); have GW383 := us hg; have GE383 := us hg; replace HB := uy hb; obtain ⟨NB380_383, NB383_380⟩ := unb hg BK380; replace BK380 := ux BK380 hb; obtain ⟨NB381_383, NB383_381⟩ := unb hg BK381; replace BK381 := ux BK381 hb; obtain ⟨NB382_383, NB383_382⟩ := unb hg BK382; replace BK382 := ux BK382 hb; clear hb hbox hg; have hnb136 := NB380_381.out; have hnc136 := NB381_380.out; have hnb137 := NB380_382.out; have hnc137 := NB382_380.out; have hnb138 := NB380_383.out; have hnc138 := NB383_380.out; obtain ⟨hcz139_0, hcz139_1, hfz139_0, hfz139_1⟩ := uz2 w135 BK380; have hnb140 := NB381_382.out; have hnc140 := NB382_381.out; have hnb141 := NB381_383.out; have hnc141 := NB383_381.out; obtain ⟨hcz142_0, hcz142_1, hfz142_0, hfz142_1⟩ := uz2 w135 BK381) | ((with_reducible refine gate_dst (N := 14) rfl ?_); (try (refine gate_guard (by rfl) ?_; dsimp only)); refine Kd.N_lit k44 _ 44 ?hg (N' := 14) ?hd (xs := ([(⟨a0_0, l0_1⟩ : S44), (⟨a1_0, l1_1⟩ : S44)] : List (S44))) (inner := [.bool a0_0, .slice A0_1 l0_1.length c0_1, .bool a1_0, .slice A1_1 l1_1.length c1_1]) (ok := (fun k_ => ((P0_1_ k_ ∨ P1_1_ k_) ∨ w.heap.size ≤ k_) ∧ k_ ≠ gb380 ∧ k_ ≠ gb381 ∧ k_ ≠ gb382 ∧ k_ ≠ gb383)) (okp := (fun k_ => ((P0_1_ k_ ∨ P1_1_ k_) ∨ w.heap.size ≤ k_) ∧ k_ ≠ gb380 ∧ k_ ≠ gb381 ∧ k_ ≠ gb382 ∧ k_ ≠ gb383)) ?hr ?hp (fun _ hk => hk) ((show ∀ k_, w135.heap.size ≤ k_ → (fun k_ => ((P0_1_ k_ ∨ P1_1_ k_) ∨ w.heap.size ≤ k_) ∧ k_ ≠ gb380 ∧ k_ ≠ gb381 ∧ k_ ≠ gb382 ∧ k_ ≠ gb383) k_ from fun k_ hk => ⟨(.inr (Nat.le_trans (below_size uB) hk)), Kd.freshB (g := gb380) (o := .cells #[.bool a0_0, .slice A0_1 l0_1.length c0_1] 44 (0, 0)) (uK BK380.out) k_ hk, Kd.freshB (g := gb381) (o := .cells #[.bool a1_0, .slice A1_1 l1_1.length c1_1] 44 (0, 0)) (uK BK381.out) k_ hk, Kd.freshB (g := gb382) (o := .cells #[.bool false, .slice none 0 0] 44 (0, 0)) (uK BK382.out) k_ hk, Kd.freshB (g := gb383) (o := .cells #[.bool false, .slice none 0 0] 44 (0, 0)) (uK BK383.out) k_ hk⟩) _ (Nat.le_refl _)) (Below.refl _ _) (Nat.le_refl _) (by simp) ?_; (case hd => rfl); (case hg => rfl); (case hr => first | (go_simp; done) | (go_simp; rfl) | (go_simp; simp only [u64_u8]; done) | (go_simp; simp only [u64_u8]; rfl)); (case hp => exact (Reps.c2 (show Kd.FK k44 _ _ (⟨a0_0, l0_1⟩ : S44) [.bool a0_0, .slice A0_1 l0_1.length c0_1] from (k44_mkF _ _ (⟨a0_0, l0_1⟩ : S44) (Kd.V_reads' (Kd.V_mono (ok' := (fun k_ => ((P0_1_ k_ ∨ P1_1_ k_) ∨ w.heap.size ≤ k_) ∧ k_ ≠ gb380 ∧ k_ ≠ gb381 ∧ k_ ≠ gb382 ∧ k_ ≠ gb383)) (HO0_1.out) (fun k_ hk => ⟨hk.1.1.1.1, ⟨hk.1.1.1.2, ⟨hk.1.1.2, ⟨hk.1.2, hk.2⟩⟩⟩⟩))).2.1 (Kd.V_F (Kd.V_mono (ok' := (fun k_ => ((P0_1_ k_ ∨ P1_1_ k_) ∨ w.heap.size ≤ k_) ∧ k_ ≠ gb380 ∧ k_ ≠ gb381 ∧ k_ ≠ gb382 ∧ k_ ≠ gb383)) (HO0_1.out) (fun k_ hk => ⟨hk.1.1.1.1, ⟨hk.1.1.1.2, ⟨hk.1.1.2, ⟨hk.1.2, hk.2⟩⟩⟩⟩))))) (Reps.c2 (show Kd.FK k44 _ _ (⟨a1_0, l1_1⟩ : S44) [.bool a1_0, .slice A1_1 l1_1.length c1_1] from (k44_mkF _ _ (⟨a1_0, l1_1⟩ : S44) (Kd.V_reads' (Kd.V_mono (ok' := (fun k_ => ((P0_1_ k_ ∨ P1_1_ k_) ∨ w.heap.size ≤ k_) ∧ k_ ≠ gb380 ∧ k_ ≠ gb381 ∧ k_ ≠ gb382 ∧ k_ ≠ gb383)) (HO1_1.out) (fun k_ hk => ⟨hk.1.1.1.1, ⟨hk.1.1.1.2, ⟨hk.1.1.2, ⟨hk.1.2, hk.2⟩⟩⟩⟩))).2.1 (Kd.V_F (Kd.V_mono (ok' := (fun k_ => ((P0_1_ k_ ∨ P1_1_ k_) ∨ w.heap.size ≤ k_) ∧ k_ ≠ gb380 ∧ k_ ≠ gb381 ∧ k_ ≠ gb382 ∧ k_ ≠ gb383)) (HO1_1.out) (fun k_ hk => ⟨hk.1.1.1.1, ⟨hk.1.1.1.2, ⟨hk.1.1.2, ⟨hk.1.2, hk.2⟩⟩⟩⟩))))) (Reps.none _ _)))); intro v385 w143 ho144 hb hg_ hnew_; clear hg_ hnew_; (first | rw [← Ny384.out] at ho144 | (simp only [Int.reduceToNat] at ho144; rw [← Ny384.out] at ho144)); replace HO0_1 := Aside0.mk (Kd.V_elder' (uV HO0_1.out) (Kd.N_base ho144) hb); replace HO1_1 := Aside0.mk (Kd.V_elder' (uV HO1_1.out) (Kd.N_base ho144) hb); have HO386 := Aside0.mk (Kd.N_lower ho144 (below_size uB)); replace BK380 := ux BK380 hb; replace BK381 := ux BK381 hb; replace BK382 := ux BK382 hb; replace BK383 := ux BK383 hb; replace HB := uy hb; clear hb ho144; obtain ⟨Ao145, co145, eo145⟩ := Kd.N_slice HO386.out; subst eo145) | ((with_reducible refine ug 42 rfl ?_); refine uh (some 15) rfl Try.func42 #[.slice Ao145 y384.length co145] ?_; (with_reducible refine (modint_right.calls _ _ y384 false _ ?side1 ?side2 A3.out).mono ?_); (case side1 => exact uC (Kd.N_reads' HO386.out).2.2); (case side2 => exact (Kd.N_reads' HO386.out).2.1); rintro e w146 ⟨rfl, hb⟩; refine ⟨_, rfl, ?_⟩; replace HO0_1 := Aside0.mk (Kd.V_below (uV HO0_1.out) hb); replace HO1_1 := Aside0.mk (Kd.V_below (uV HO1_1.out) hb); replace HO386 := Aside0.mk (Kd.N_below (uN HO386.out) hb); replace BK380 := ux BK380 hb; replace BK381 := ux BK381 hb; replace BK382 := ux BK382 hb; replace BK383 := ux BK383 hb; replace HB := uy hb; (try clear hb); have hnb147 := NB382_383.out; have hnc147 := NB383_382.out; obtain ⟨hcz148_0, hcz148_1, hfz148_0, hfz148_1⟩ := uz2 w146 BK382; obtain ⟨hcz149_0, hcz149_1, hfz149_0, hfz149_1⟩ := uz2 w146 BK383))
 refine bodyPost_ret (results_list (rs := [.cell 4 44, .cell 5 44, .tmp 6]) rfl (by simp) (.cell gb382 44 #[.bool false, .slice none 0 0] (0, 0) _ rfl (by refine blk_far ?_ NB382_383.out _; refine blk_far ?_ NB382_383.out _; refine blk_put (cs := #[.bool false, .slice none 0 0]) ?_ 1 _ rfl; refine blk_put (cs := #[.bool false, .slice none 0 0]) ?_ 0 _ rfl; exact uK BK382.out) Try.underlying44 rfl (by kernel_rfl) (.cell gb383 44 #[.bool false, .slice none 0 0] (0, 0) _ rfl (by refine blk_put (cs := #[.bool false, .slice none 0 0]) ?_ 1 _ rfl; refine blk_put (cs := #[.bool false, .slice none 0 0]) ?_ 0 _ rfl; refine blk_far ?_ NB383_382.out _; refine blk_far ?_ NB383_382.out _; exact uK BK383.out) Try.underlying44 rfl (by kernel_rfl) (.tmp .nil)))) rfl ?_
 exact ⟨_, _, uF, uI, uI, uB⟩
def modint_Add.f (k : Nat) (a0_0 : Bool) (l0_1 : List Int) (a1_0 : Bool) (l1_1 : List Int) : Option (Bool × List Int × Int) := (modint_right.f (([(⟨a0_0, l0_1⟩ : S44), (⟨a1_0, l1_1⟩ : S44)] : List (S44)))).bind fun t872 => (if t872 = true then (if (a0_0 == a1_0) = true then ((nat_Add.f k l0_1 l1_1).bind fun bt873 => ((modint_From.f a0_0 bt873.1).bind fun bt877 => (some (bt877.1, bt877.2, bt873.2)))) else ((nat_Cmp.f k l0_1 l1_1).bind fun t881 => (if t881 < 0 then ((nat_Sub.f k l1_1 l0_1).bind fun bt882 => ((modint_From.f a1_0 bt882.1).bind fun bt886 => (some (bt886.1, bt886.2, bt882.2)))) else ((nat_Sub.f k l0_1 l1_1).bind fun bt890 => ((modint_From.f a0_0 bt890.1).bind fun bt894 => (some (bt894.1, bt894.2, bt890.2))))))) else (some (false, ([] : List Int), 1)))
def modint_Sub.f (k : Nat) (a0_0 : Bool) (l0_1 : List Int) (a1_0 : Bool) (l1_1 : List Int) : Option (Bool × List Int × Int) := (modint_right.f (([(⟨a0_0, l0_1⟩ : S44), (⟨a1_0, l1_1⟩ : S44)] : List (S44)))).bind fun t911 => (if t911 = true then ((modint_Neg.f a1_0 l1_1).bind fun bt912 => ((modint_Add.f k a0_0 l0_1 bt912.1 bt912.2).bind fun bt916 => (some (bt916.1, bt916.2.1, bt916.2.2)))) else (some (false, ([] : List Int), 1)))
end Go.Proofs.Ytnaphgnkhhapoab.F
end
section
namespace Go.Proofs.Ytnaphgnkhhapoab.F
open Go.RowKit Go.Proofs.YtnaphgnkhhapoabW.PrintWords Go.Proofs.YtnaphgnkhhapoabW.PrintLast Go.Proofs.YtnaphgnkhhapoabW.PrintMore
set_option linter.unusedVariables false
set_option linter.unusedSimpArgs false
def fixenc_fits.f (k : Nat) (l0 : List Int) (l1 : List Int) : Option Bool := (fixenc_modulus_half.f k l0).bind fun t => (nat_Cmp.f k l1 t).bind fun c => some (decide (c ≤ 0))
theorem fixenc_fits.calls (k : Nat) (A0 : Option Addr) (c0 : Nat) (l0 : List Int) (A1 : Option Addr) (c1 : Nat) (l1 : List Int) (r : Bool) (w : World) (hr0 : Kd.C (Kd.int .u64) w A0 l0.length l0) (hc0 : l0.length ≤ c0) (hr1 : Kd.C (Kd.int .u64) w A1 l1.length l1) (hc1 : l1.length ≤ c1) (h : fixenc_fits.f k l0 l1 = some r) :
    Calls Try.prog 30 #[.slice A0 l0.length c0, .slice A1 l1.length c1] w fun e w' => e = .returned (.bool r) ∧ Below w.heap.size w w' := by
  unfold fixenc_fits.f at h
  cases ht : fixenc_modulus_half.f k l0 with
  | none => rw [ht] at h; simp at h
  | some t =>
    rw [ht] at h
    simp only [Option.bind_some] at h
    cases hcm : nat_Cmp.f k l1 t with
    | none => rw [hcm] at h; simp at h
    | some c =>
      rw [hcm] at h
      simp only [Option.bind_some, Option.some.injEq] at h
      subst h
      have HT := Aside0.mk ht
      have HM := Aside0.mk hcm
      have HC0 := Aside0.mk hr0
      have HC1 := Aside0.mk hr1
      have HL0 := Aside0.mk hc0
      have HL1 := Aside0.mk hc1
      clear ht hcm hr0 hr1 hc0 hc1
      go_enter Try.func30, Try.ntmps30
      go_wp2_with (first
        | (go_at_call 57; refine (fixenc_modulus_half.calls k A0 c0 l0 t w HC0.out HL0.out HT.out).mono ?_; rintro e w1 ⟨v1, rfl, ho, hb⟩; obtain ⟨Ao, co, eo⟩ := Kd.R_slice ho; subst eo; have HO := Aside0.mk ho; have HB := Aside0.mk hb; clear ho hb)
        | (go_at_call 40; refine (nat_Cmp.calls k (fun k_ => k_ < w1.heap.size) A1 c1 l1 (fun k_ => k_ < w1.heap.size) Ao co t c w1 (Kd.V_mk HL1.out (Kd.C_F (Kd.heap_int _) (Kd.C_below HC1.out HB.out))) (Kd.V_mk (Kd.R_reads' HO.out).2.1 (Kd.C_F (Kd.heap_int _) (Kd.R_reads' HO.out).2.2)) HM.out).mono ?_; rintro e w2 ⟨rfl, hb2⟩; have HB2 := Aside0.mk (below_step HB.out hb2); clear hb2))
      go_ret
      exact ⟨by simp, HB2.out⟩
end Go.Proofs.Ytnaphgnkhhapoab.F
end
section
namespace Go.Proofs.Ytnaphgnkhhapoab.F
open Go.RowKit Go.Proofs.YtnaphgnkhhapoabW.PrintWords Go.Proofs.YtnaphgnkhhapoabW.PrintLast Go.Proofs.YtnaphgnkhhapoabW.PrintMore
attribute [local go_sem] max2_int min2_int max_two min_two max_three min_three max_four min_four
set_option linter.unusedVariables false
set_option linter.unusedSimpArgs false
def fixenc_Encode.j0 : Nat → List Int → Bool → Bool → List Int → Option (List Int × Int)
 | 0, _, _, _, _ => none
 | k + 1, x0, x6, x207000, x207001 => if x6 = true then (some (([] : List Int), 1)) else ((fixenc_fits.f k x0 x207001).bind fun t209 => (if t209 = true then (if x207000 = true then ((nat_Sub.f k x0 x207001).bind fun bt210 => (some (bt210.1, bt210.2))) else ((nat_Add.f k x207001 ([] : List Int)).bind fun bt214 => (some (bt214.1, bt214.2)))) else (some (([] : List Int), 12))))
def fixenc_Encode.f (k : Nat) (l0 : List Int) (a1_0 : Bool) (l1_1 : List Int) : Option (List Int × Int) := (fixenc_modulus_may.f k l0).bind fun t207 => (if t207 = true then ((modint_Right.f a1_0 l1_1).bind fun t208 => (fixenc_Encode.j0 k l0 (!t208) a1_0 l1_1)) else (fixenc_Encode.j0 k l0 true a1_0 l1_1))
theorem fixenc_Encode.calls (k : Nat) (A0 : Option Addr) (c0 : Nat) (l0 : List Int) (a1_0 : Bool) (A1_1 : Option Addr) (c1_1 : Nat) (l1_1 : List Int) (r1 : List Int) (r2 : Int) (w : World) (hr0 : Kd.C (Kd.int .u64) w A0 l0.length l0) (hc0 : l0.length ≤ c0) (hr1_1 : Kd.C (Kd.int .u64) w A1_1 l1_1.length l1_1) (hc1_1 : l1_1.length ≤ c1_1) (h : fixenc_Encode.f k l0 a1_0 l1_1 = some (r1, r2)) :
  Calls Try.prog 13 #[.slice A0 l0.length c0, .agg #[.bool a1_0, .slice A1_1 l1_1.length c1_1]] w fun e w' => ∃ v0_ : Value, e = .returned (.tuple #[v0_, .int .i64 r2]) ∧ Kd.R (Kd.int .u64) 42 w' w.heap.size (fun _ => True) v0_ r1 ∧ Below w.heap.size w w' := by
 have hu44 := Try.underlying44
 have HR0 := Aside0.mk hr0; have HC0 := Aside0.mk hc0; clear hr0 hc0; have HR1_1 := Aside0.mk hr1_1; have HC1_1 := Aside0.mk hc1_1; clear hr1_1 hc1_1
 have HB := Aside0.mk (Below.refl w.heap.size w)
 have H : ((fixenc_modulus_may.f k l0).bind fun t207 => (if t207 = true then ((modint_Right.f a1_0 l1_1).bind fun t208 => (fixenc_Encode.j0 k l0 (!t208) a1_0 l1_1)) else (fixenc_Encode.j0 k l0 true a1_0 l1_1))) = some (r1, r2) := h
 clear h; have HC3 := Aside0.mk H; clear H
 go_enter Try.func13, Try.ntmps13
 go_upto_region 1 with (first | ((with_reducible refine gate_dst (N := 3) rfl ?_); refine ubx 3 #[.bool a1_0, .slice A1_1 l1_1.length c1_1] 44 rfl rfl ?_; intro gb206 hg w4 hbox hb; have BK206 := Aside0.mk (hbox); have GW206 := us hg; have GE206 := us hg; replace HB := uy hb; clear hb hbox hg))
 (try simp only [Act.put, List.setIfInBounds_toArray, List.set_cons_zero, List.set_cons_succ])
 go_cut [6] (fun v6 wc => ∃ (kq : Nat) (x6_2 : Bool), v6 = .bool x6_2 ∧ Aside0 (fixenc_Encode.j0 kq l0 x6_2 a1_0 l1_1 = some (r1, r2)) ∧ Aside0 (kq ≤ k) ∧ Aside0 (wc.heap[gb206]? = some (.cells #[.bool a1_0, (.slice A1_1 l1_1.length c1_1)] 44 (0, 0))) ∧ Aside0 (Below w.heap.size w wc))
 case first =>
  have H := HC3.out
  clear HC3
  replace H := ub H; obtain ⟨t207, A5, H⟩ := H
  by_cases c6 : t207 = true
  ·
   subst c6
   have H1 : ((modint_Right.f a1_0 l1_1).bind fun t208 => (fixenc_Encode.j0 k l0 (!t208) a1_0 l1_1)) = some (r1, r2) := by rw [if_pos rfl] at H; exact H
   clear H; have H := H1; clear H1
   replace H := ub H; obtain ⟨t208, A7, H⟩ := H
   have H' := Aside0.mk H
   clear H
   go_wp2_with (first | ((with_reducible refine ug 14 rfl ?_); refine uh (some 8) rfl Try.func14 #[.slice A0 l0.length c0] ?_; (with_reducible refine (fixenc_modulus_may.calls k _ _ l0 true _ ?side1 ?side2 A5.out).mono ?_); (case side1 => exact uC (Kd.C_below HR0.out HB.out)); (case side2 => exact HC0.out); rintro e w8 ⟨rfl, hb⟩; refine ⟨_, rfl, ?_⟩; replace BK206 := ux BK206 hb; replace HB := uy hb; (try clear hb); obtain ⟨hcz9_0, hcz9_1, hfz9_0, hfz9_1⟩ := uz2 w8 BK206) | (go_at_call 36; (with_reducible refine (modint_Right.calls a1_0 _ _ l1_1 t208 _ ?side1 ?side2 A7.out).mono ?_); (case side1 => exact uC (Kd.C_below HR1_1.out HB.out)); (case side2 => exact HC1_1.out); rintro e w10 ⟨rfl, hb⟩; replace BK206 := ux BK206 hb; replace HB := uy hb; (try clear hb)))
   go_meet
   case rel => exact ⟨_, (!t208), uG, H', ⟨uW⟩, ⟨uK BK206.out⟩, ⟨uB⟩⟩
  replace c6 := Bool.eq_false_iff.mpr c6
  subst c6
  have H1 : (fixenc_Encode.j0 k l0 true a1_0 l1_1) = some (r1, r2) := by rw [if_neg (show ¬ (false = true) by decide)] at H; exact H
  clear H; have H := H1; clear H1
  have H' := Aside0.mk H
  clear H
  go_wp2_with (first | ((with_reducible refine ug 14 rfl ?_); refine uh (some 8) rfl Try.func14 #[.slice A0 l0.length c0] ?_; (with_reducible refine (fixenc_modulus_may.calls k _ _ l0 false _ ?side1 ?side2 A5.out).mono ?_); (case side1 => exact uC (Kd.C_below HR0.out HB.out)); (case side2 => exact HC0.out); rintro e w11 ⟨rfl, hb⟩; refine ⟨_, rfl, ?_⟩; replace BK206 := ux BK206 hb; replace HB := uy hb; (try clear hb)))
  go_meet
  case rel => exact ⟨_, (true), uG, H', ⟨uW⟩, ⟨uK BK206.out⟩, ⟨uB⟩⟩
 case rest =>
  clear HC3; (try clear hcz9_0 hcz9_1); (try clear hfz9_0 hfz9_1)
  obtain ⟨kq, x6_2, rfl, HA, HJ2, BK206, HB⟩ := hcut
  cases kq with
  | zero => exact absurd HA.out (by simp [fixenc_Encode.j0])
  | succ kj2 =>
   have H := HA.out
   clear HA
   simp only [fixenc_Encode.j0] at H
   by_cases c12 : x6_2 = true
   ·
    subst c12
    have H1 : (some (([] : List Int), 1)) = some (r1, r2) := by rw [if_pos rfl] at H; exact H
    clear H; have H := H1; clear H1
    simp only [Option.some.injEq, Prod.mk.injEq] at H
    obtain ⟨rfl, rfl⟩ := H
    go_wp2
    go_ret2
    exact ⟨_, uF, uI, uB⟩
   replace c12 := Bool.eq_false_iff.mpr c12
   subst c12
   have H1 : ((fixenc_fits.f kj2 l0 l1_1).bind fun t209 => (if t209 = true then (if a1_0 = true then ((nat_Sub.f kj2 l0 l1_1).bind fun bt210 => (some (bt210.1, bt210.2))) else ((nat_Add.f kj2 l1_1 ([] : List Int)).bind fun bt214 => (some (bt214.1, bt214.2)))) else (some (([] : List Int), 12)))) = some (r1, r2) := by rw [if_neg (show ¬ (false = true) by decide)] at H; exact H
   clear H; have H := H1; clear H1
   replace H := ub H; obtain ⟨t209, A13, H⟩ := H
   by_cases c14 : t209 = true
   ·
    subst c14
    have H1 : (if a1_0 = true then ((nat_Sub.f kj2 l0 l1_1).bind fun bt210 => (some (bt210.1, bt210.2))) else ((nat_Add.f kj2 l1_1 ([] : List Int)).bind fun bt214 => (some (bt214.1, bt214.2)))) = some (r1, r2) := by rw [if_pos rfl] at H; exact H
    clear H; have H := H1; clear H1
    by_cases c15 : a1_0 = true
    ·
     subst c15
     have H1 : ((nat_Sub.f kj2 l0 l1_1).bind fun bt210 => (some (bt210.1, bt210.2))) = some (r1, r2) := by rw [if_pos rfl] at H; exact H
     clear H; have H := H1; clear H1
     replace H := ub H; obtain ⟨⟨t210, t213⟩, A16, H⟩ := H
     (try dsimp only at H)
     simp only [Option.some.injEq, Prod.mk.injEq] at H
     obtain ⟨rfl, rfl⟩ := H
     obtain ⟨hcz17_0, hcz17_1, hfz17_0, hfz17_1⟩ := uz2 wc BK206
     go_wp2_with (first | ((with_reducible refine ug 30 rfl ?_); refine uh (some 19) rfl Try.func30 #[.slice A0 l0.length c0, .slice A1_1 l1_1.length c1_1] ?_; (with_reducible refine (fixenc_fits.calls kj2 _ _ l0 _ _ l1_1 true _ ?side1 ?side2 ?side3 ?side4 A13.out).mono ?_); (case side1 => exact uC (Kd.C_below HR0.out HB.out)); (case side2 => exact HC0.out); (case side3 => exact uC (Kd.C_below HR1_1.out HB.out)); (case side4 => exact HC1_1.out); rintro e w18 ⟨rfl, hb⟩; refine ⟨_, rfl, ?_⟩; replace BK206 := ux BK206 hb; replace HB := uy hb; (try clear hb); obtain ⟨hcz19_0, hcz19_1, hfz19_0, hfz19_1⟩ := uz2 w18 BK206) | ((with_reducible refine ug 37 rfl ?_); refine uh (some 27) rfl Try.func37 #[.slice A0 l0.length c0, .slice A1_1 l1_1.length c1_1] ?_; (with_reducible refine (nat_Sub.calls kj2 (fun k_ => k_ < w.heap.size) _ _ l0 (fun k_ => k_ < w.heap.size) _ _ l1_1 t210 t213 _ ?side1 ?side2 A16.out).mono ?_); (case side1 => exact Kd.V_mk HC0.out (Kd.F_below (Kd.C_F (Kd.heap_int .u64) HR0.out) uB)); (case side2 => exact Kd.V_mk HC1_1.out (Kd.F_below (Kd.C_F (Kd.heap_int .u64) HR1_1.out) uB)); rintro e w20 ⟨v211, rfl, ho0, hb⟩; refine ⟨_, rfl, ?_⟩; have HO212 := ulo (Kd.R_mono (ok' := fun k_ => True) ho0 (fun _ hk_ => trivial)); replace BK206 := ux BK206 hb; replace HB := uy hb; (try clear hb ho0)))
     go_ret2
     exact ⟨_, uF, uR HO212.out, uB⟩
    replace c15 := Bool.eq_false_iff.mpr c15
    subst c15
    have H1 : ((nat_Add.f kj2 l1_1 ([] : List Int)).bind fun bt214 => (some (bt214.1, bt214.2))) = some (r1, r2) := by rw [if_neg (show ¬ (false = true) by decide)] at H; exact H
    clear H; have H := H1; clear H1
    replace H := ub H; obtain ⟨⟨t214, t217⟩, A21, H⟩ := H
    (try dsimp only at H)
    simp only [Option.some.injEq, Prod.mk.injEq] at H
    obtain ⟨rfl, rfl⟩ := H
    obtain ⟨hcz22_0, hcz22_1, hfz22_0, hfz22_1⟩ := uz2 wc BK206
    go_wp2_with (first | ((with_reducible refine ug 30 rfl ?_); refine uh (some 19) rfl Try.func30 #[.slice A0 l0.length c0, .slice A1_1 l1_1.length c1_1] ?_; (with_reducible refine (fixenc_fits.calls kj2 _ _ l0 _ _ l1_1 true _ ?side1 ?side2 ?side3 ?side4 A13.out).mono ?_); (case side1 => exact uC (Kd.C_below HR0.out HB.out)); (case side2 => exact HC0.out); (case side3 => exact uC (Kd.C_below HR1_1.out HB.out)); (case side4 => exact HC1_1.out); rintro e w23 ⟨rfl, hb⟩; refine ⟨_, rfl, ?_⟩; replace BK206 := ux BK206 hb; replace HB := uy hb; (try clear hb); obtain ⟨hcz24_0, hcz24_1, hfz24_0, hfz24_1⟩ := uz2 w23 BK206) | ((with_reducible refine ug 38 rfl ?_); refine uh (some 32) rfl Try.func38 #[.slice A1_1 l1_1.length c1_1, .slice none 0 0] ?_; (refine (nat_Add.calls kj2 (fun k_ => k_ < w.heap.size) _ _ l1_1 (fun k_ => False) _ _ ([] : List Int) t214 t217 _ ?side1 ?side2 A21.out).mono ?_); (case side1 => exact Kd.V_mk HC1_1.out (Kd.F_below (Kd.C_F (Kd.heap_int .u64) HR1_1.out) uB)); (case side2 => exact Kd.V_nil _ _ _ _ _); rintro e w25 ⟨v215, rfl, ho0, hb⟩; refine ⟨_, rfl, ?_⟩; have HO216 := ulo (Kd.R_mono (ok' := fun k_ => True) ho0 (fun _ hk_ => trivial)); replace BK206 := ux BK206 hb; replace HB := uy hb; (try clear hb ho0)))
    go_ret2
    exact ⟨_, uF, uR HO216.out, uB⟩
   replace c14 := Bool.eq_false_iff.mpr c14
   subst c14
   have H1 : (some (([] : List Int), 12)) = some (r1, r2) := by rw [if_neg (show ¬ (false = true) by decide)] at H; exact H
   clear H; have H := H1; clear H1
   simp only [Option.some.injEq, Prod.mk.injEq] at H
   obtain ⟨rfl, rfl⟩ := H
   obtain ⟨hcz26_0, hcz26_1, hfz26_0, hfz26_1⟩ := uz2 wc BK206
   go_wp2_with (first | ((with_reducible refine ug 30 rfl ?_); refine uh (some 19) rfl Try.func30 #[.slice A0 l0.length c0, .slice A1_1 l1_1.length c1_1] ?_; (with_reducible refine (fixenc_fits.calls kj2 _ _ l0 _ _ l1_1 false _ ?side1 ?side2 ?side3 ?side4 A13.out).mono ?_); (case side1 => exact uC (Kd.C_below HR0.out HB.out)); (case side2 => exact HC0.out); (case side3 => exact uC (Kd.C_below HR1_1.out HB.out)); (case side4 => exact HC1_1.out); rintro e w27 ⟨rfl, hb⟩; refine ⟨_, rfl, ?_⟩; replace BK206 := ux BK206 hb; replace HB := uy hb; (try clear hb)))
   go_ret2
   exact ⟨_, uF, uI, uB⟩
def windbreaklaw07_awake.f (k : Nat)  : Option (Bool) := (fixenc_Encode.f k (([101] : List Int)) true (([1] : List Int))).bind fun bt224 => (if bt224.2 = 0 then (if (bt224.1.length : Int) = 1 then (if 0 < (bt224.1.length : Int) then (some ((rd bt224.1 0) == 100)) else (none)) else (some false)) else (some false))
theorem windbreaklaw07_awake.calls (k : Nat)  (r : Bool) (w : World) (h : windbreaklaw07_awake.f k  = some r) :
  Calls Try.prog 6 #[] w fun e w' => e = .returned (.bool r) ∧ Below w.heap.size w w' := by
 have hu44 := Try.underlying44
 have HB := Aside0.mk (Below.refl w.heap.size w)
 have H : ((fixenc_Encode.f k (([101] : List Int)) true (([1] : List Int))).bind fun bt224 => (if bt224.2 = 0 then (if (bt224.1.length : Int) = 1 then (if 0 < (bt224.1.length : Int) then (some ((rd bt224.1 0) == 100)) else (none)) else (some false)) else (some false))) = some r := h
 clear h
 obtain ⟨y218, hy218⟩ : ∃ y_ : List Int, y_ = (([101] : List Int)) := ⟨_, rfl⟩
 replace H : ((fixenc_Encode.f k y218 true (([1] : List Int))).bind fun bt224 => (if bt224.2 = 0 then (if (bt224.1.length : Int) = 1 then (if 0 < (bt224.1.length : Int) then (some ((rd bt224.1 0) == 100)) else (none)) else (some false)) else (some false))) = some r := by first | (rw [hy218]; with_reducible exact H) | (have H2_ := (Option.bind_some _ _).symm.trans H; rw [hy218]; with_reducible exact H2_) | (have H2_ := (Option.bind_some _ _).symm.trans H; with_reducible exact H2_) | with_reducible exact H | (rw [hy218]; exact H) | exact H
 have Ny218 := Aside0.mk hy218; clear hy218
 obtain ⟨y221, hy221⟩ : ∃ y_ : List Int, y_ = (([1] : List Int)) := ⟨_, rfl⟩
 replace H : ((fixenc_Encode.f k y218 true y221).bind fun bt224 => (if bt224.2 = 0 then (if (bt224.1.length : Int) = 1 then (if 0 < (bt224.1.length : Int) then (some ((rd bt224.1 0) == 100)) else (none)) else (some false)) else (some false))) = some r := by first | (rw [hy221]; with_reducible exact H) | (have H2_ := (Option.bind_some _ _).symm.trans H; rw [hy221]; with_reducible exact H2_) | (have H2_ := (Option.bind_some _ _).symm.trans H; with_reducible exact H2_) | with_reducible exact H | (rw [hy221]; exact H) | exact H
 have Ny221 := Aside0.mk hy221; clear hy221
 replace H := ub H; obtain ⟨⟨t224, t227⟩, A1, H⟩ := H
 (try dsimp only at H)
 by_cases c2 : t227 = 0
 ·
  rw [if_pos c2] at H
  have c2b0 := beq_iff_eq.mpr c2
  have c2b1 := bne_eq_false_iff_eq.mpr c2
  clear c2
  by_cases c3 : (t224.length : Int) = 1
  ·
   rw [if_pos c3] at H
   have c3b0 := beq_iff_eq.mpr c3
   have c3b1 := bne_eq_false_iff_eq.mpr c3
   clear c3
   replace H := uT H; obtain ⟨c4, H⟩ := H
   have c4b0 := decide_eq_true c4
   have c4b1 : decide (0 < t224.length) = true := decide_eq_true (by omega)
   clear c4
   obtain rfl := Option.some.inj H
   go_enter Try.func6, Try.ntmps6
   go_wp2_with (first | ((with_reducible refine gate_dst (N := 4) rfl ?_); (try (refine gate_guard (by rfl) ?_; dsimp only)); refine Kd.R_lit (Kd.int .u64) _ 42 ?hg (N := 4) ?hd (xs := ([101] : List Int)) (inner := [.int .u64 101]) (ok := fun _ => True) (okp := fun _ => True) ?hr ?hp (fun _ hk => hk) trivial (Below.refl _ _) (Nat.le_refl _) (by simp) ?_; (case hd => rfl); (case hg => rfl); (case hr => first | (go_simp; done) | (go_simp; rfl) | (go_simp; simp only [u64_u8]; done) | (go_simp; simp only [u64_u8]; rfl)); (case hp => exact (Reps.one (show Kd.M (Kd.int .u64) _ _ _ 101 [.int .u64 101] from rfl) (Reps.none _ _))); intro v219 w5 ho6 hb hg_ hnew_; clear hg_ hnew_; (first | rw [← Ny218.out] at ho6 | (simp only [Int.reduceToNat] at ho6; rw [← Ny218.out] at ho6)); have HO220 := ulo ho6; replace HB := uy hb; clear hb ho6) | ((with_reducible refine gate_dst (N := 5) rfl ?_); (try (refine gate_guard (by rfl) ?_; dsimp only)); refine Kd.R_lit (Kd.int .u64) _ 42 ?hg (N := 5) ?hd (xs := ([1] : List Int)) (inner := [.int .u64 1]) (ok := fun _ => True) (okp := fun _ => True) ?hr ?hp (fun _ hk => hk) trivial (Below.refl _ _) (Nat.le_refl _) (by simp) ?_; (case hd => rfl); (case hg => rfl); (case hr => first | (go_simp; done) | (go_simp; rfl) | (go_simp; simp only [u64_u8]; done) | (go_simp; simp only [u64_u8]; rfl)); (case hp => exact (Reps.one (show Kd.M (Kd.int .u64) _ _ _ 1 [.int .u64 1] from rfl) (Reps.none _ _))); intro v222 w7 ho8 hb hg_ hnew_; clear hg_ hnew_; (first | rw [← Ny221.out] at ho8 | (simp only [Int.reduceToNat] at ho8; rw [← Ny221.out] at ho8)); have HO223 := ulo (unw ho8 HO220); replace HO220 := ueR HO220 ho8 hb; replace HB := uy hb; clear hb ho8; obtain ⟨Ao9, co9, eo9⟩ := Kd.R_slice HO223.out; subst eo9; obtain ⟨Ao10, co10, eo10⟩ := Kd.R_slice HO220.out; subst eo10) | ((with_reducible refine ug 13 rfl ?_); refine uh (some 7) rfl Try.func13 #[.slice Ao10 y218.length co10, .agg #[.bool true, .slice Ao9 y221.length co9]] ?_; (with_reducible refine (fixenc_Encode.calls k _ _ y218 true _ _ y221 t224 t227 _ ?side1 ?side2 ?side3 ?side4 A1.out).mono ?_); (case side1 => exact uC (Kd.R_reads' HO220.out).2.2); (case side2 => exact (Kd.R_reads' HO220.out).2.1); (case side3 => exact uC (Kd.R_reads' HO223.out).2.2); (case side4 => exact (Kd.R_reads' HO223.out).2.1); rintro e w11 ⟨v225, rfl, ho0, hb⟩; refine ⟨_, rfl, ?_⟩; have HO226 := ulo (unw (unw ho0 HO220) HO223); replace HO220 := ueR HO220 ho0 hb; replace HO223 := ueR HO223 ho0 hb; replace HB := uy hb; (try clear hb ho0); obtain ⟨Ao12, co12, eo12⟩ := Kd.R_slice HO226.out; subst eo12; have p228 : 0 ≤ (0 : Int) := (by omega); have q228 : 0 < (t224.length : Int) := uO; obtain ⟨ad228, e228, hx228_0⟩ := Kd.at_int (Kd.R_reads' HO226.out).2.2 0 p228 q228; cases e228; have qi228 : (0 < t224.length) = True := eq_true (by omega); (try rw [show ((0 : Int)).toNat = 0 from rfl] at hx228_0); (try rw [Addr.add_zero'] at hx228_0); replace p228 := eq_true p228; replace q228 := eq_true q228))
   go_ret
   exact ⟨uF, uB⟩
  rw [if_neg c3] at H
  have c3b0 := beq_eq_false_iff_ne.mpr c3
  have c3b1 := bne_iff_ne.mpr c3
  obtain rfl := Option.some.inj H
  go_enter Try.func6, Try.ntmps6
  go_wp2_with (first | ((with_reducible refine gate_dst (N := 4) rfl ?_); (try (refine gate_guard (by rfl) ?_; dsimp only)); refine Kd.R_lit (Kd.int .u64) _ 42 ?hg (N := 4) ?hd (xs := ([101] : List Int)) (inner := [.int .u64 101]) (ok := fun _ => True) (okp := fun _ => True) ?hr ?hp (fun _ hk => hk) trivial (Below.refl _ _) (Nat.le_refl _) (by simp) ?_; (case hd => rfl); (case hg => rfl); (case hr => first | (go_simp; done) | (go_simp; rfl) | (go_simp; simp only [u64_u8]; done) | (go_simp; simp only [u64_u8]; rfl)); (case hp => exact (Reps.one (show Kd.M (Kd.int .u64) _ _ _ 101 [.int .u64 101] from rfl) (Reps.none _ _))); intro v219 w13 ho14 hb hg_ hnew_; clear hg_ hnew_; (first | rw [← Ny218.out] at ho14 | (simp only [Int.reduceToNat] at ho14; rw [← Ny218.out] at ho14)); have HO220 := ulo ho14; replace HB := uy hb; clear hb ho14) | ((with_reducible refine gate_dst (N := 5) rfl ?_); (try (refine gate_guard (by rfl) ?_; dsimp only)); refine Kd.R_lit (Kd.int .u64) _ 42 ?hg (N := 5) ?hd (xs := ([1] : List Int)) (inner := [.int .u64 1]) (ok := fun _ => True) (okp := fun _ => True) ?hr ?hp (fun _ hk => hk) trivial (Below.refl _ _) (Nat.le_refl _) (by simp) ?_; (case hd => rfl); (case hg => rfl); (case hr => first | (go_simp; done) | (go_simp; rfl) | (go_simp; simp only [u64_u8]; done) | (go_simp; simp only [u64_u8]; rfl)); (case hp => exact (Reps.one (show Kd.M (Kd.int .u64) _ _ _ 1 [.int .u64 1] from rfl) (Reps.none _ _))); intro v222 w15 ho16 hb hg_ hnew_; clear hg_ hnew_; (first | rw [← Ny221.out] at ho16 | (simp only [Int.reduceToNat] at ho16; rw [← Ny221.out] at ho16)); have HO223 := ulo (unw ho16 HO220); replace HO220 := ueR HO220 ho16 hb; replace HB := uy hb; clear hb ho16; obtain ⟨Ao17, co17, eo17⟩ := Kd.R_slice HO223.out; subst eo17; obtain ⟨Ao18, co18, eo18⟩ := Kd.R_slice HO220.out; subst eo18) | ((with_reducible refine ug 13 rfl ?_); refine uh (some 7) rfl Try.func13 #[.slice Ao18 y218.length co18, .agg #[.bool true, .slice Ao17 y221.length co17]] ?_; (with_reducible refine (fixenc_Encode.calls k _ _ y218 true _ _ y221 t224 t227 _ ?side1 ?side2 ?side3 ?side4 A1.out).mono ?_); (case side1 => exact uC (Kd.R_reads' HO220.out).2.2); (case side2 => exact (Kd.R_reads' HO220.out).2.1); (case side3 => exact uC (Kd.R_reads' HO223.out).2.2); (case side4 => exact (Kd.R_reads' HO223.out).2.1); rintro e w19 ⟨v225, rfl, ho0, hb⟩; refine ⟨_, rfl, ?_⟩; have HO226 := ulo (unw (unw ho0 HO220) HO223); replace HO220 := ueR HO220 ho0 hb; replace HO223 := ueR HO223 ho0 hb; replace HB := uy hb; (try clear hb ho0); obtain ⟨Ao20, co20, eo20⟩ := Kd.R_slice HO226.out; subst eo20))
  go_ret
  exact ⟨uF, uB⟩
 rw [if_neg c2] at H
 have c2b0 := beq_eq_false_iff_ne.mpr c2
 have c2b1 := bne_iff_ne.mpr c2
 obtain rfl := Option.some.inj H
 go_enter Try.func6, Try.ntmps6
 go_wp2_with (first | ((with_reducible refine gate_dst (N := 4) rfl ?_); (try (refine gate_guard (by rfl) ?_; dsimp only)); refine Kd.R_lit (Kd.int .u64) _ 42 ?hg (N := 4) ?hd (xs := ([101] : List Int)) (inner := [.int .u64 101]) (ok := fun _ => True) (okp := fun _ => True) ?hr ?hp (fun _ hk => hk) trivial (Below.refl _ _) (Nat.le_refl _) (by simp) ?_; (case hd => rfl); (case hg => rfl); (case hr => first | (go_simp; done) | (go_simp; rfl) | (go_simp; simp only [u64_u8]; done) | (go_simp; simp only [u64_u8]; rfl)); (case hp => exact (Reps.one (show Kd.M (Kd.int .u64) _ _ _ 101 [.int .u64 101] from rfl) (Reps.none _ _))); intro v219 w21 ho22 hb hg_ hnew_; clear hg_ hnew_; (first | rw [← Ny218.out] at ho22 | (simp only [Int.reduceToNat] at ho22; rw [← Ny218.out] at ho22)); have HO220 := ulo ho22; replace HB := uy hb; clear hb ho22) | ((with_reducible refine gate_dst (N := 5) rfl ?_); (try (refine gate_guard (by rfl) ?_; dsimp only)); refine Kd.R_lit (Kd.int .u64) _ 42 ?hg (N := 5) ?hd (xs := ([1] : List Int)) (inner := [.int .u64 1]) (ok := fun _ => True) (okp := fun _ => True) ?hr ?hp (fun _ hk => hk) trivial (Below.refl _ _) (Nat.le_refl _) (by simp) ?_; (case hd => rfl); (case hg => rfl); (case hr => first | (go_simp; done) | (go_simp; rfl) | (go_simp; simp only [u64_u8]; done) | (go_simp; simp only [u64_u8]; rfl)); (case hp => exact (Reps.one (show Kd.M (Kd.int .u64) _ _ _ 1 [.int .u64 1] from rfl) (Reps.none _ _))); intro v222 w23 ho24 hb hg_ hnew_; clear hg_ hnew_; (first | rw [← Ny221.out] at ho24 | (simp only [Int.reduceToNat] at ho24; rw [← Ny221.out] at ho24)); have HO223 := ulo (unw ho24 HO220); replace HO220 := ueR HO220 ho24 hb; replace HB := uy hb; clear hb ho24; obtain ⟨Ao25, co25, eo25⟩ := Kd.R_slice HO223.out; subst eo25; obtain ⟨Ao26, co26, eo26⟩ := Kd.R_slice HO220.out; subst eo26) | ((with_reducible refine ug 13 rfl ?_); refine uh (some 7) rfl Try.func13 #[.slice Ao26 y218.length co26, .agg #[.bool true, .slice Ao25 y221.length co25]] ?_; (with_reducible refine (fixenc_Encode.calls k _ _ y218 true _ _ y221 t224 t227 _ ?side1 ?side2 ?side3 ?side4 A1.out).mono ?_); (case side1 => exact uC (Kd.R_reads' HO220.out).2.2); (case side2 => exact (Kd.R_reads' HO220.out).2.1); (case side3 => exact uC (Kd.R_reads' HO223.out).2.2); (case side4 => exact (Kd.R_reads' HO223.out).2.1); rintro e w27 ⟨v225, rfl, ho0, hb⟩; refine ⟨_, rfl, ?_⟩; have HO226 := ulo (unw (unw ho0 HO220) HO223); replace HO220 := ueR HO220 ho0 hb; replace HO223 := ueR HO223 ho0 hb; replace HB := uy hb; (try clear hb ho0)))
 go_ret
 exact ⟨uF, uB⟩
def fixenc_Decode.j0 : Nat → List Int → List Int → Bool → Option (Bool × List Int × Int)
 | 0, _, _, _ => none
 | k + 1, x0, x1, x13 => if x13 = true then (some (false, ([] : List Int), 10)) else ((fixenc_fits.f k x0 x1).bind fun t244 => (if t244 = true then ((modint_From.f false x1).bind fun bt245 => (some (bt245.1, bt245.2, 0))) else ((nat_Sub.f k x0 x1).bind fun bt249 => ((modint_From.f true bt249.1).bind fun bt253 => (some (bt253.1, bt253.2, 0))))))
def fixenc_Decode.f (k : Nat) (l0 : List Int) (l1 : List Int) : Option (Bool × List Int × Int) := (fixenc_modulus_may.f k l0).bind fun t241 => (if t241 = true then ((nat_Right.f l1).bind fun t242 => (if t242 = true then ((nat_Cmp.f k l1 l0).bind fun t243 => (fixenc_Decode.j0 k l0 l1 (decide (t243 ≥ 0)))) else (fixenc_Decode.j0 k l0 l1 true))) else (some (false, ([] : List Int), 1)))
theorem fixenc_Decode.calls (k : Nat) (A0 : Option Addr) (c0 : Nat) (l0 : List Int) (A1 : Option Addr) (c1 : Nat) (l1 : List Int) (r1 : Bool) (r2 : List Int) (r3 : Int) (w : World) (hr0 : Kd.C (Kd.int .u64) w A0 l0.length l0) (hc0 : l0.length ≤ c0) (hr1 : Kd.C (Kd.int .u64) w A1 l1.length l1) (hc1 : l1.length ≤ c1) (h : fixenc_Decode.f k l0 l1 = some (r1, r2, r3)) :
  Calls Try.prog 15 #[.slice A0 l0.length c0, .slice A1 l1.length c1] w fun e w' => ∃ v1_ : Value, e = .returned (.tuple #[.agg #[.bool r1, v1_], .int .i64 r3]) ∧ Kd.R (Kd.int .u64) 42 w' w.heap.size (fun _ => True) v1_ r2 ∧ Below w.heap.size w w' := by
 have hu44 := Try.underlying44
 have HR0 := Aside0.mk hr0; have HC0 := Aside0.mk hc0; clear hr0 hc0; have HR1 := Aside0.mk hr1; have HC1 := Aside0.mk hc1; clear hr1 hc1
 have HB := Aside0.mk (Below.refl w.heap.size w)
 have H : ((fixenc_modulus_may.f k l0).bind fun t241 => (if t241 = true then ((nat_Right.f l1).bind fun t242 => (if t242 = true then ((nat_Cmp.f k l1 l0).bind fun t243 => (fixenc_Decode.j0 k l0 l1 (decide (t243 ≥ 0)))) else (fixenc_Decode.j0 k l0 l1 true))) else (some (false, ([] : List Int), 1)))) = some (r1, r2, r3) := h
 clear h
 replace H := ub H; obtain ⟨t241, A3, H⟩ := H
 by_cases c4 : t241 = true
 ·
  subst c4
  have H1 : ((nat_Right.f l1).bind fun t242 => (if t242 = true then ((nat_Cmp.f k l1 l0).bind fun t243 => (fixenc_Decode.j0 k l0 l1 (decide (t243 ≥ 0)))) else (fixenc_Decode.j0 k l0 l1 true))) = some (r1, r2, r3) := by rw [if_pos rfl] at H; exact H
  clear H; have H := H1; clear H1; have HC5 := Aside0.mk H; clear H
  go_enter Try.func15, Try.ntmps15
  go_upto_region 3 with (first | ((with_reducible refine gate_dst (N := 4) rfl ?_); refine ubx 4 #[.bool false, .slice none 0 0] 44 rfl rfl ?_; intro gb240 hg w6 hbox hb; have BK240 := Aside0.mk (hbox); have GW240 := us hg; have GE240 := us hg; replace HB := uy hb; clear hb hbox hg) | ((with_reducible refine ug 14 rfl ?_); refine uh (some 10) rfl Try.func14 #[.slice A0 l0.length c0] ?_; (with_reducible refine (fixenc_modulus_may.calls k _ _ l0 true _ ?side1 ?side2 A3.out).mono ?_); (case side1 => exact uC (Kd.C_below HR0.out HB.out)); (case side2 => exact HC0.out); rintro e w7 ⟨rfl, hb⟩; refine ⟨_, rfl, ?_⟩; replace BK240 := ux BK240 hb; replace HB := uy hb; (try clear hb)))
  (try simp only [Act.put, List.setIfInBounds_toArray, List.set_cons_zero, List.set_cons_succ])
  go_cut [13] (fun v13 wc => ∃ (kq : Nat) (x13_4 : Bool), v13 = .bool x13_4 ∧ Aside0 (fixenc_Decode.j0 kq l0 l1 x13_4 = some (r1, r2, r3)) ∧ Aside0 (kq ≤ k) ∧ Aside0 (wc.heap[gb240]? = some (.cells #[.bool false, (.slice none 0 0)] 44 (0, 0))) ∧ Aside0 (Below w.heap.size w wc))
  case first =>
   have H := HC5.out
   clear HC5
   replace H := ub H; obtain ⟨t242, A8, H⟩ := H
   by_cases c9 : t242 = true
   ·
    subst c9
    have H1 : ((nat_Cmp.f k l1 l0).bind fun t243 => (fixenc_Decode.j0 k l0 l1 (decide (t243 ≥ 0)))) = some (r1, r2, r3) := by rw [if_pos rfl] at H; exact H
    clear H; have H := H1; clear H1
    replace H := ub H; obtain ⟨t243, A10, H⟩ := H
    have H' := Aside0.mk H
    clear H
    go_wp2_with (first | ((with_reducible refine ug 39 rfl ?_); refine uh (some 15) rfl Try.func39 #[.slice A1 l1.length c1] ?_; (with_reducible refine (nat_Right.calls _ _ l1 true _ ?side1 ?side2 A8.out).mono ?_); (case side1 => exact uC (Kd.C_below HR1.out HB.out)); (case side2 => exact HC1.out); rintro e w' ⟨rfl, ⟨nd, rfl⟩⟩; refine ⟨_, rfl, ?_⟩) | (go_at_call 40; (with_reducible refine (nat_Cmp.calls k (fun k_ => k_ < w.heap.size) _ _ l1 (fun k_ => k_ < w.heap.size) _ _ l0 t243 _ ?side1 ?side2 A10.out).mono ?_); (case side1 => exact Kd.V_mk HC1.out (Kd.F_below (Kd.C_F (Kd.heap_int .u64) HR1.out) uB)); (case side2 => exact Kd.V_mk HC0.out (Kd.F_below (Kd.C_F (Kd.heap_int .u64) HR0.out) uB)); rintro e w11 ⟨rfl, hb⟩; replace BK240 := ux BK240 hb; replace HB := uy hb; (try clear hb)))
    go_meet
    case rel => exact ⟨_, (decide (t243 ≥ 0)), uG, H', ⟨uW⟩, ⟨uK BK240.out⟩, ⟨uB⟩⟩
   replace c9 := Bool.eq_false_iff.mpr c9
   subst c9
   have H1 : (fixenc_Decode.j0 k l0 l1 true) = some (r1, r2, r3) := by rw [if_neg (show ¬ (false = true) by decide)] at H; exact H
   clear H; have H := H1; clear H1
   have H' := Aside0.mk H
   clear H
   go_wp2_with (first | ((with_reducible refine ug 39 rfl ?_); refine uh (some 15) rfl Try.func39 #[.slice A1 l1.length c1] ?_; (with_reducible refine (nat_Right.calls _ _ l1 false _ ?side1 ?side2 A8.out).mono ?_); (case side1 => exact uC (Kd.C_below HR1.out HB.out)); (case side2 => exact HC1.out); rintro e w' ⟨rfl, ⟨nd, rfl⟩⟩; refine ⟨_, rfl, ?_⟩))
   go_meet
   case rel => exact ⟨_, (true), uG, H', ⟨uW⟩, ⟨uK BK240.out⟩, ⟨uB⟩⟩
  case rest =>
   clear HC5
   obtain ⟨kq, x13_4, rfl, HA, HJ4, BK240, HB⟩ := hcut
   cases kq with
   | zero => exact absurd HA.out (by simp [fixenc_Decode.j0])
   | succ kj4 =>
    have H := HA.out
    clear HA
    simp only [fixenc_Decode.j0] at H
    by_cases c12 : x13_4 = true
    ·
     subst c12
     have H1 : (some (false, ([] : List Int), 10)) = some (r1, r2, r3) := by rw [if_pos rfl] at H; exact H
     clear H; have H := H1; clear H1
     simp only [Option.some.injEq, Prod.mk.injEq] at H
     obtain ⟨rfl, rfl, rfl⟩ := H
     obtain ⟨hcz13_0, hcz13_1, hfz13_0, hfz13_1⟩ := uz2 wc BK240
     go_wp2
     refine bodyPost_ret (results_ct rfl _ _ gb240 44 #[.bool false, .slice none 0 0] (0, 0) _ rfl (by refine blk_put (cs := #[.bool false, .slice none 0 0]) ?_ 1 _ rfl; refine blk_put (cs := #[.bool false, .slice none 0 0]) ?_ 0 _ rfl; exact uK BK240.out) Try.underlying44 rfl (by kernel_rfl)) rfl ?_
     exact ⟨_, uF, uI, uB⟩
    replace c12 := Bool.eq_false_iff.mpr c12
    subst c12
    have H1 : ((fixenc_fits.f kj4 l0 l1).bind fun t244 => (if t244 = true then ((modint_From.f false l1).bind fun bt245 => (some (bt245.1, bt245.2, 0))) else ((nat_Sub.f kj4 l0 l1).bind fun bt249 => ((modint_From.f true bt249.1).bind fun bt253 => (some (bt253.1, bt253.2, 0)))))) = some (r1, r2, r3) := by rw [if_neg (show ¬ (false = true) by decide)] at H; exact H
    clear H; have H := H1; clear H1
    replace H := ub H; obtain ⟨t244, A14, H⟩ := H
    by_cases c15 : t244 = true
    ·
     subst c15
     have H1 : ((modint_From.f false l1).bind fun bt245 => (some (bt245.1, bt245.2, 0))) = some (r1, r2, r3) := by rw [if_pos rfl] at H; exact H
     clear H; have H := H1; clear H1
     replace H := ub H; obtain ⟨⟨t245, t246⟩, A16, H⟩ := H
     (try dsimp only at H)
     simp only [Option.some.injEq, Prod.mk.injEq] at H
     obtain ⟨rfl, rfl, rfl⟩ := H
     go_wp2_with (first | ((with_reducible refine ug 30 rfl ?_); refine uh (some 27) rfl Try.func30 #[.slice A0 l0.length c0, .slice A1 l1.length c1] ?_; (with_reducible refine (fixenc_fits.calls kj4 _ _ l0 _ _ l1 true _ ?side1 ?side2 ?side3 ?side4 A14.out).mono ?_); (case side1 => exact uC (Kd.C_below HR0.out HB.out)); (case side2 => exact HC0.out); (case side3 => exact uC (Kd.C_below HR1.out HB.out)); (case side4 => exact HC1.out); rintro e w17 ⟨rfl, hb⟩; refine ⟨_, rfl, ?_⟩; replace BK240 := ux BK240 hb; replace HB := uy hb; (try clear hb)) | ((with_reducible refine ug 41 rfl ?_); refine uh (some 29) rfl Try.func41 #[.bool false, .slice A1 l1.length c1] ?_; (with_reducible refine (modint_From.calls false _ _ l1 t245 t246 _ ?side1 ?side2 A16.out).mono ?_); (case side1 => exact uC (Kd.C_below HR1.out HB.out)); (case side2 => exact HC1.out); rintro e w18 ⟨v247, rfl, ho0, hb⟩; refine ⟨_, rfl, ?_⟩; have HO248 := ulo ho0; replace BK240 := ux BK240 hb; replace HB := uy hb; (try clear hb ho0); obtain ⟨hcz19_0, hcz19_1, hfz19_0, hfz19_1⟩ := uz2 w18 BK240; obtain ⟨Ao20, co20, eo20⟩ := Kd.R_slice HO248.out; subst eo20))
     refine bodyPost_ret (results_ct rfl _ _ gb240 44 #[.bool t245, .slice Ao20 t246.length co20] (0, 0) _ rfl (by refine blk_put (cs := #[.bool t245, .slice none 0 0]) ?_ 1 _ rfl; refine blk_put (cs := #[.bool false, .slice none 0 0]) ?_ 0 _ rfl; exact uK BK240.out) Try.underlying44 rfl (by kernel_rfl)) rfl ?_
     exact ⟨_, uF, by exact uR (Kd.R_mono (Kd.R_far (p := ⟨gb240, 1, none⟩) (Kd.R_far (p := ⟨gb240, 0, none⟩) (Kd.R_types HO248.out BK240.out (by decide)) (fun _ hk => hk.2) (.bool t245)) (fun _ hk => hk.2) (.slice Ao20 t246.length co20)) (fun _ hk => trivial)), uB⟩
    replace c15 := Bool.eq_false_iff.mpr c15
    subst c15
    have H1 : ((nat_Sub.f kj4 l0 l1).bind fun bt249 => ((modint_From.f true bt249.1).bind fun bt253 => (some (bt253.1, bt253.2, 0)))) = some (r1, r2, r3) := by rw [if_neg (show ¬ (false = true) by decide)] at H; exact H
    clear H; have H := H1; clear H1
    replace H := ub H; obtain ⟨⟨t249, t252⟩, A21, H⟩ := H
    (try dsimp only at H)
    replace H := ub H; obtain ⟨⟨t253, t254⟩, A22, H⟩ := H
    (try dsimp only at H)
    simp only [Option.some.injEq, Prod.mk.injEq] at H
    obtain ⟨rfl, rfl, rfl⟩ := H
    go_wp2_with (first | ((with_reducible refine ug 30 rfl ?_); refine uh (some 27) rfl Try.func30 #[.slice A0 l0.length c0, .slice A1 l1.length c1] ?_; (with_reducible refine (fixenc_fits.calls kj4 _ _ l0 _ _ l1 false _ ?side1 ?side2 ?side3 ?side4 A14.out).mono ?_); (case side1 => exact uC (Kd.C_below HR0.out HB.out)); (case side2 => exact HC0.out); (case side3 => exact uC (Kd.C_below HR1.out HB.out)); (case side4 => exact HC1.out); rintro e w23 ⟨rfl, hb⟩; refine ⟨_, rfl, ?_⟩; replace BK240 := ux BK240 hb; replace HB := uy hb; (try clear hb)) | ((with_reducible refine ug 37 rfl ?_); refine uh (some 33) rfl Try.func37 #[.slice A0 l0.length c0, .slice A1 l1.length c1] ?_; (with_reducible refine (nat_Sub.calls kj4 (fun k_ => k_ < w.heap.size) _ _ l0 (fun k_ => k_ < w.heap.size) _ _ l1 t249 t252 _ ?side1 ?side2 A21.out).mono ?_); (case side1 => exact Kd.V_mk HC0.out (Kd.F_below (Kd.C_F (Kd.heap_int .u64) HR0.out) uB)); (case side2 => exact Kd.V_mk HC1.out (Kd.F_below (Kd.C_F (Kd.heap_int .u64) HR1.out) uB)); rintro e w24 ⟨v250, rfl, ho0, hb⟩; refine ⟨_, rfl, ?_⟩; have HO251 := ulo (Kd.R_mono (ok' := fun k_ => True) ho0 (fun _ hk_ => trivial)); replace BK240 := ux BK240 hb; replace HB := uy hb; (try clear hb ho0); obtain ⟨Ao25, co25, eo25⟩ := Kd.R_slice HO251.out; subst eo25) | ((with_reducible refine ug 41 rfl ?_); refine uh (some 37) rfl Try.func41 #[.bool true, .slice Ao25 t249.length co25] ?_; (with_reducible refine (modint_From.calls true _ _ t249 t253 t254 _ ?side1 ?side2 A22.out).mono ?_); (case side1 => exact uC (Kd.R_reads' HO251.out).2.2); (case side2 => exact (Kd.R_reads' HO251.out).2.1); rintro e w26 ⟨v255, rfl, ho0, hb⟩; refine ⟨_, rfl, ?_⟩; have HO256 := ulo (unw ho0 HO251); replace HO251 := ueR HO251 ho0 hb; replace BK240 := ux BK240 hb; replace HB := uy hb; (try clear hb ho0); obtain ⟨hcz27_0, hcz27_1, hfz27_0, hfz27_1⟩ := uz2 w26 BK240; obtain ⟨Ao28, co28, eo28⟩ := Kd.R_slice HO256.out; subst eo28))
    refine bodyPost_ret (results_ct rfl _ _ gb240 44 #[.bool t253, .slice Ao28 t254.length co28] (0, 0) _ rfl (by refine blk_put (cs := #[.bool t253, .slice none 0 0]) ?_ 1 _ rfl; refine blk_put (cs := #[.bool false, .slice none 0 0]) ?_ 0 _ rfl; exact uK BK240.out) Try.underlying44 rfl (by kernel_rfl)) rfl ?_
    exact ⟨_, uF, by exact uR (Kd.R_mono (Kd.R_far (p := ⟨gb240, 1, none⟩) (Kd.R_far (p := ⟨gb240, 0, none⟩) (Kd.R_types HO256.out BK240.out (by decide)) (fun _ hk => hk.2) (.bool t253)) (fun _ hk => hk.2) (.slice Ao28 t254.length co28)) (fun _ hk => trivial)), uB⟩
 replace c4 := Bool.eq_false_iff.mpr c4
 subst c4
 have H1 : (some (false, ([] : List Int), 1)) = some (r1, r2, r3) := by rw [if_neg (show ¬ (false = true) by decide)] at H; exact H
 clear H; have H := H1; clear H1
 simp only [Option.some.injEq, Prod.mk.injEq] at H
 obtain ⟨rfl, rfl, rfl⟩ := H
 go_enter Try.func15, Try.ntmps15
 go_wp2_with (first | ((with_reducible refine gate_dst (N := 4) rfl ?_); refine ubx 4 #[.bool false, .slice none 0 0] 44 rfl rfl ?_; intro gb240 hg w29 hbox hb; have BK240 := Aside0.mk (hbox); have GW240 := us hg; have GE240 := us hg; replace HB := uy hb; clear hb hbox hg) | ((with_reducible refine ug 14 rfl ?_); refine uh (some 10) rfl Try.func14 #[.slice A0 l0.length c0] ?_; (with_reducible refine (fixenc_modulus_may.calls k _ _ l0 false _ ?side1 ?side2 A3.out).mono ?_); (case side1 => exact uC (Kd.C_below HR0.out HB.out)); (case side2 => exact HC0.out); rintro e w30 ⟨rfl, hb⟩; refine ⟨_, rfl, ?_⟩; replace BK240 := ux BK240 hb; replace HB := uy hb; (try clear hb); obtain ⟨hcz31_0, hcz31_1, hfz31_0, hfz31_1⟩ := uz2 w30 BK240))
 refine bodyPost_ret (results_ct rfl _ _ gb240 44 #[.bool false, .slice none 0 0] (0, 0) _ rfl (by refine blk_put (cs := #[.bool false, .slice none 0 0]) ?_ 1 _ rfl; refine blk_put (cs := #[.bool false, .slice none 0 0]) ?_ 0 _ rfl; exact uK BK240.out) Try.underlying44 rfl (by kernel_rfl)) rfl ?_
 exact ⟨_, uF, uI, uB⟩
end Go.Proofs.Ytnaphgnkhhapoab.F
end
section
namespace Go.Proofs.Ytnaphgnkhhapoab.F
open Go.RowKit Go.Proofs.YtnaphgnkhhapoabW.PrintWords Go.Proofs.YtnaphgnkhhapoabW.PrintLast
set_option linter.unusedVariables false
set_option linter.unusedSimpArgs false
structure Fr where
  i : Nat
  N : Tmp
  obj : Obj
  val : Nat → Value
section
variable {P : Program} {ops : Array Oper} {Q : Exit → Act → World → Prop} {md : Region.Mode} {S : World → Prop} {ds : List Nat}
def FrOk (P : Program) (ops : Array Oper) (f : Fr) (a : Act) : Prop :=
  ∃ o, ops[f.i]? = some o ∧ o.dst = some f.N ∧ (∀ cs b, o.op ≠ .select cs b) ∧ Region.wanted o (yielded ops a.tmps) = true ∧ ∀ w, (execOp a.eval o).run P w = .ok (.value (f.val w.heap.size)) (w.alloc f.obj)
def layF : List Nat → List Bool → Array Bool → Array Bool
  | i :: is, b :: bs, l => layF is bs (if b then l.setIfInBounds i true else l)
  | _, _, l => l
def fillF : List Fr → List (Option Nat) → Act → Act
  | f :: fs, g :: gs, a => fillF fs gs (match g with
    | some x => a.put (some f.N) (f.val x)
    | none => a)
  | _, _, a => a
def flags (gs : List (Option Nat)) : List Bool := gs.map (·.isSome)
def openN (gs : List (Option Nat)) : Nat := gs.countP (·.isNone)
def HeldF (B : Nat) (fs : List Fr) (gs : List (Option Nat)) (w : World) : Prop :=
  (∀ (j : Nat) (f : Fr) (g : Nat), fs[j]? = some f → gs[j]? = some (some g) → w.heap[g]? = some f.obj ∧ B ≤ g) ∧ ∀ (j k g : Nat), gs[j]? = some (some g) → gs[k]? = some (some g) → j = k
def NodeF (P : Program) (md : Region.Mode) (ops : Array Oper) (Q : Exit → Act → World → Prop) (S : World → Prop) (ds : List Nat) (B : Nat) (fs : List Fr) (fuel : Nat) (l : Array Bool) (a : Act) (w : World) : Prop :=
  (∀ f ∈ fs, FrOk P ops f a) → ∀ gs w', gs.length = fs.length → Below w.heap.size w w' → S w' → B ≤ w'.heap.size → HeldF B fs gs w' →
    wpAnyLast P md ops Q S ds (fuel + openN gs) (layF (fs.map Fr.i) (flags gs) l) (fillF fs gs a) w'
def pats : Nat → List (List Bool)
  | 0 => [[]]
  | n + 1 => (pats n).flatMap fun b => [true :: b, false :: b]
theorem mem_pats : ∀ (b : List Bool), b ∈ pats b.length
  | [] => by simp [pats]
  | b :: bs => by
    have := mem_pats bs
    simp only [List.length_cons, pats, List.mem_flatMap]
    exact ⟨bs, this, by cases b <;> simp⟩
theorem flags_length (gs : List (Option Nat)) : (flags gs).length = gs.length := by simp [flags]
def apartF (ops : Array Oper) (is js : List Nat) : Bool := is.all fun i => js.all fun j => i == j || (match ops[i]?, ops[j]? with
  | some x, some y => x.apart ops y
  | _, _ => false)
theorem apartF_spec {is js : List Nat} (h : apartF ops is js = true) {i j : Nat} (hi : i ∈ is) (hj : j ∈ js) (hne : i ≠ j) {x y : Oper} (hx : ops[i]? = some x) (hy : ops[j]? = some y) : x.apart ops y = true := by
  have h1 := List.all_eq_true.1 (List.all_eq_true.1 h i hi) j hj
  simp only [hx, hy, Bool.or_eq_true, beq_iff_eq] at h1
  exact h1.resolve_left hne
theorem wpOp_unput {j : Nat} {oj : Oper} {N : Tmp} {v : Value} (hj : ops[j]? = some oj) (h1 : N ∉ oj.looksAt ops) (h2 : oj.dst ≠ some N) (hsj : ∀ cs b, oj.op ≠ .select cs b)
    (hQ : ∀ c a w v, Q (.panic c) a w → Q (.panic c) (a.put (some N) v) w) {K : Act → World → Prop} {a : Act} {w : World}
    (h : wpOp P ops Q j (fun a' w' => K (a'.put (some N) v) w') a w) : wpOp P ops Q j K (a.put (some N) v) w := by
  have h1' : ∀ d, some N = some d → d ∉ oj.looksAt ops := fun d hd => by injection hd with hd; subst hd; exact h1
  have h2' : ∀ d, some N = some d → oj.dst ≠ some d := fun d hd => by injection hd with hd; subst hd; exact h2
  unfold wpOp at *
  simp only [hj] at *
  rw [wanted_put oj a (some N) v h1']
  split
  · rename_i hw
    simp only [hw, if_true] at h
    rcases h with h | ⟨hasks, hlets⟩
    case inr => exact .inr ⟨by unfold Oper.asks at *; rw [execOp_put oj hsj a (some N) v h1']; exact hasks, hlets⟩
    refine .inl ?_
    unfold Oper.wp at *
    rw [execOp_put oj hsj a (some N) v h1']
    generalize (execOp a.eval oj).run P w = r at *
    cases r with
    | ok n w' =>
      cases n <;> simp only [Oper.upon] at h ⊢
      case value u => rw [Act.put_comm a v u h2']; exact h
      case skip => rw [Act.put_comm a v undef h2']; exact h
      case defer d =>
        rw [Act.put_defers, Act.put_comm _ v undef h2']
        exact h
      case enter f args =>
        refine Calls.mono h fun e w'' he => ?_
        cases e with
        | returned u => show K _ w''; rw [Act.put_comm a v u h2']; exact he
        | panicked c => exact hQ _ _ _ _ he
        | outgrown => exact he
      case row row args => exact Rows.mono h fun u w'' he => by rw [Act.put_comm a v u h2']; exact he
    | halt x w' =>
      cases x <;> simp only [Oper.upon] at h ⊢
      case panic u => exact hQ _ _ _ _ h
  · rename_i hw
    simp only [hw, Bool.false_eq_true, if_false] at h
    rw [Act.put_comm a v undef h2']; exact h
theorem wpOp_fill {j : Nat} {oj : Oper} (hj : ops[j]? = some oj) (hsj : ∀ cs b, oj.op ≠ .select cs b) (hQ : ∀ N c a w v, Q (.panic c) a w → Q (.panic c) (a.put (some N) v) w) {K : Act → World → Prop} {w : World} :
    ∀ (fs : List Fr) (gs : List (Option Nat)) (a : Act), (∀ f ∈ fs, f.N ∉ oj.looksAt ops ∧ oj.dst ≠ some f.N) → wpOp P ops Q j (fun a' w' => K (fillF fs gs a') w') a w → wpOp P ops Q j K (fillF fs gs a) w
  | [], _, _, _, h => h
  | _ :: _, [], _, _, h => h
  | f :: fs, none :: gs, a, hf, h => wpOp_fill hj hsj hQ fs gs a (fun f' hf' => hf f' (List.mem_cons_of_mem _ hf')) h
  | f :: fs, some x :: gs, a, hf, h => by
    have h0 := hf f List.mem_cons_self
    exact wpOp_fill hj hsj hQ fs gs _ (fun f' hf' => hf f' (List.mem_cons_of_mem _ hf')) (wpOp_unput hj h0.1 h0.2 hsj (hQ f.N) h)
theorem fill_put {N : Tmp} {v : Value} : ∀ (fs : List Fr) (gs : List (Option Nat)) (a : Act), (∀ f ∈ fs, f.N ≠ N) → (fillF fs gs a).put (some N) v = fillF fs gs (a.put (some N) v)
  | [], _, _, _ => rfl
  | _ :: _, [], _, _ => rfl
  | f :: fs, none :: gs, a, h => fill_put fs gs a (fun f' hf' => h f' (List.mem_cons_of_mem _ hf'))
  | f :: fs, some x :: gs, a, h => by
    have h0 := h f List.mem_cons_self
    show (fillF fs gs (a.put (some f.N) (f.val x))).put (some N) v = fillF fs gs ((a.put (some N) v).put (some f.N) (f.val x))
    rw [fill_put fs gs _ (fun f' hf' => h f' (List.mem_cons_of_mem _ hf')), Act.put_comm a (f.val x) v (fun d hd => by injection hd with hd; subst hd; exact fun e => h0 (Option.some.inj e).symm)]
theorem fill_putN {N : Option Tmp} {v : Value} (fs : List Fr) (gs : List (Option Nat)) (a : Act) (h : ∀ f ∈ fs, some f.N ≠ N) : (fillF fs gs a).put N v = fillF fs gs (a.put N v) := by
  cases N with
  | none => rfl
  | some N => exact fill_put fs gs a (fun f hf he => h f hf (by rw [he]))
theorem fill_exec {o : Oper} (hs : ∀ cs b, o.op ≠ .select cs b) : ∀ (fs : List Fr) (gs : List (Option Nat)) (a : Act), (∀ (j : Nat) (f : Fr), fs[j]? = some f → gs[j]? = some none ∨ f.N ∉ o.looksAt ops) → execOp (fillF fs gs a).eval o = execOp a.eval o ∧ Region.wanted o (yielded ops (fillF fs gs a).tmps) = Region.wanted o (yielded ops a.tmps)
  | [], _, _, _ => ⟨rfl, rfl⟩
  | _ :: _, [], _, _ => ⟨rfl, rfl⟩
  | f :: fs, none :: gs, a, h => fill_exec hs fs gs a (fun j f' hf' => by simpa using h (j + 1) f' (by simpa using hf'))
  | f :: fs, some x :: gs, a, h => by
    have h0 : f.N ∉ o.looksAt ops := (h 0 f rfl).resolve_left (by simp)
    have h1 : ∀ d, some f.N = some d → d ∉ o.looksAt ops := fun d hd => by injection hd with hd; subst hd; exact h0
    obtain ⟨e1, e2⟩ := fill_exec hs fs gs (a.put (some f.N) (f.val x)) (fun j f' hf' => by simpa using h (j + 1) f' (by simpa using hf'))
    exact ⟨e1.trans (execOp_put o hs a _ _ h1), e2.trans (wanted_put o a _ _ h1)⟩
theorem fill_set {x : Nat} : ∀ (fs : List Fr) (gs : List (Option Nat)) (a : Act) (j : Nat) (f : Fr), fs[j]? = some f → gs[j]? = some none → (∀ (k : Nat) (f' : Fr), fs[k]? = some f' → k ≠ j → f'.N ≠ f.N) →
    (fillF fs gs a).put (some f.N) (f.val x) = fillF fs (gs.set j (some x)) a
  | [], _, _, _, _, h, _, _ => by simp at h
  | _ :: _, [], _, _, _, _, h, _ => by simp at h
  | f0 :: fs, g0 :: gs, a, 0, f, h, hg, hne => by
    simp only [List.getElem?_cons_zero, Option.some.injEq] at h hg
    subst h
    subst hg
    have e := fill_put (N := f0.N) (v := f0.val x) fs gs a (fun f' hf' => by
      obtain ⟨k, hk⟩ := List.getElem?_of_mem hf'
      exact hne (k + 1) f' (by simpa using hk) (by omega))
    exact e
  | f0 :: fs, g0 :: gs, a, j + 1, f, h, hg, hne => by
    have h2 : ∀ a', (fillF fs gs a').put (some f.N) (f.val x) = fillF fs (gs.set j (some x)) a' := fun a' =>
      fill_set fs gs a' j f (by simpa using h) (by simpa using hg) (fun k f' hk hkj => hne (k + 1) f' (by simpa using hk) (by omega))
    exact h2 _
theorem FrOk.keep {f : Fr} {a : Act} {oj : Oper} {u : Value} (h : FrOk P ops f a) (hap : ∀ o, ops[f.i]? = some o → ∀ d, oj.dst = some d → d ∉ o.looksAt ops) : FrOk P ops f (a.put oj.dst u) := by
  obtain ⟨o, h1, h2, h3, h4, h5⟩ := h
  exact ⟨o, h1, h2, h3, by rw [wanted_put o a oj.dst u (hap o h1)]; exact h4, fun w => by rw [execOp_put o h3 a oj.dst u (hap o h1)]; exact h5 w⟩
theorem wpOp_keep {j : Nat} {oj : Oper} (hj : ops[j]? = some oj) {fs : List Fr} {K : Act → World → Prop} {a : Act} {w : World} (hf : ∀ f ∈ fs, FrOk P ops f a) (hap : ∀ f ∈ fs, ∀ o, ops[f.i]? = some o → ∀ d, oj.dst = some d → d ∉ o.looksAt ops)
    (h : wpOp P ops Q j K a w) : wpOp P ops Q j (fun a' w' => (∀ f ∈ fs, FrOk P ops f a') ∧ K a' w') a w := by
  have keep : ∀ u, ∀ f ∈ fs, FrOk P ops f (a.put oj.dst u) := fun u f hm => (hf f hm).keep (hap f hm)
  unfold wpOp at *
  simp only [hj] at *
  split
  · rename_i hw
    simp only [hw, if_true] at h
    rcases h with h | h
    case inr => exact .inr h
    refine .inl ?_
    unfold Oper.wp at *
    generalize (execOp a.eval oj).run P w = r at *
    cases r with
    | ok n w' =>
      cases n <;> simp only [Oper.upon] at h ⊢
      case value u => exact ⟨keep u, h⟩
      case skip => exact ⟨keep undef, h⟩
      case defer d => exact ⟨fun f hm => FrOk.keep (a := { a with defers := d :: a.defers }) (hf f hm) (hap f hm), h⟩
      case enter f args =>
        refine Calls.mono h fun e w'' he => ?_
        cases e with
        | returned u => exact ⟨keep u, he⟩
        | panicked c => exact he
        | outgrown => exact he
      case row row args => exact Rows.mono h fun u w'' he => ⟨keep u, he⟩
    | halt x w' => cases x <;> simp only [Oper.upon] at h ⊢ <;> exact h
  · rename_i hw
    simp only [hw, Bool.false_eq_true, if_false] at h
    exact ⟨keep undef, h⟩
theorem HeldF.below {B : Nat} {fs : List Fr} {gs : List (Option Nat)} {w w' : World} (h : HeldF B fs gs w) (hb : Below w.heap.size w w') : HeldF B fs gs w' :=
  ⟨fun j f g hf hg => ⟨blk_below (h.1 j f g hf hg).1 hb, (h.1 j f g hf hg).2⟩, h.2⟩
theorem HeldF.make {B : Nat} {fs : List Fr} {gs : List (Option Nat)} {w : World} (hl : gs.length = fs.length) (h : HeldF B fs gs w) (hB : B ≤ w.heap.size) {j : Nat} {f : Fr} (hf : fs[j]? = some f) : HeldF B fs (gs.set j (some w.heap.size)) (w.alloc f.obj) := by
  have hlt : ∀ k g, gs[k]? = some (some g) → g < w.heap.size := fun k g hg => by
    have hk : k < fs.length := by rw [← hl]; exact (List.getElem?_eq_some_iff.1 hg).1
    exact blk_lt (h.1 k _ g (List.getElem?_eq_getElem hk) hg).1
  have hj : j < gs.length := by rw [hl]; exact (List.getElem?_eq_some_iff.1 hf).1
  refine ⟨fun k f' g hf' hg => ?_, fun k m g hk hm => ?_⟩
  · by_cases hkj : j = k
    · subst hkj
      rw [hf] at hf'
      injection hf' with hf'
      subst hf'
      rw [List.getElem?_set_self hj] at hg
      simp only [Option.some.injEq] at hg
      subst hg
      exact ⟨blk_new w _, hB⟩
    · rw [List.getElem?_set_ne hkj] at hg
      exact ⟨blk_alloc (h.1 k f' g hf' hg).1 _, (h.1 k f' g hf' hg).2⟩
  · by_cases hkj : j = k <;> by_cases hmj : j = m
    · omega
    · subst hkj
      rw [List.getElem?_set_self hj] at hk
      rw [List.getElem?_set_ne hmj] at hm
      simp only [Option.some.injEq] at hk
      subst hk
      exact absurd (hlt _ _ hm) (Nat.lt_irrefl _)
    · subst hmj
      rw [List.getElem?_set_self hj] at hm
      rw [List.getElem?_set_ne hkj] at hk
      simp only [Option.some.injEq] at hm
      subst hm
      exact absurd (hlt _ _ hk) (Nat.lt_irrefl _)
    · rw [List.getElem?_set_ne hkj] at hk
      rw [List.getElem?_set_ne hmj] at hm
      exact h.2 k m g hk hm
theorem openN_set : ∀ {gs : List (Option Nat)} {j x : Nat}, gs[j]? = some none → openN gs = openN (gs.set j (some x)) + 1
  | [], _, _, h => by simp at h
  | g :: gs, 0, x, h => by
    simp only [List.getElem?_cons_zero, Option.some.injEq] at h
    subst h
    simp [openN]
  | g :: gs, j + 1, x, h => by
    have := openN_set (gs := gs) (j := j) (x := x) (by simpa using h)
    simp only [openN, List.set_cons_succ, List.countP_cons] at this ⊢
    omega
def nextF (md : Region.Mode) (ops : Array Oper) (is : List Nat) (c : Option Nat) (l : Array Bool) : Bool := (pats is.length).all fun bs =>
  let m := layF is bs l
  let r := Region.ready md ops m
  (bs.all id && c.isNone) || !r.isEmpty && r.all fun j => c == some j || (List.range is.length).any fun k => is.getD k 0 == j && bs.getD k true == false && m.setIfInBounds j true == layF is (bs.set k true) l
theorem flags_set {gs : List (Option Nat)} {k x : Nat} : flags (gs.set k (some x)) = (flags gs).set k true := by simp [flags, List.map_set]
theorem free_comes {B : Nat} {fs : List Fr} {fuel : Nat} {l : Array Bool} {a : Act} {c : Option Nat} (hf : ∀ f ∈ fs, FrOk P ops f a) (hap : apartF ops (fs.map Fr.i) (fs.map Fr.i) = true) (hnd : (fs.map Fr.i).Nodup)
    (hds : (fs.map Fr.i).all (fun i => !ds.contains i) = true) (hSa : ∀ w o, S w → S (w.alloc o)) (hc : nextF md ops (fs.map Fr.i) c l = true)
    {gs : List (Option Nat)} {w' : World} (hl : gs.length = fs.length) (hS : S w') (hB : B ≤ w'.heap.size) (hH : HeldF B fs gs w') {j : Nat} (hno : ((flags gs).all id && c.isNone) = false) (hj : j ∈ Region.ready md ops (layF (fs.map Fr.i) (flags gs) l)) (hjc : c ≠ some j)
    (K : ∀ gs' w'', gs'.length = fs.length → openN gs' + 1 = openN gs → Below w'.heap.size w' w'' → S w'' → B ≤ w''.heap.size → HeldF B fs gs' w'' → wpAnyLast P md ops Q S ds fuel (layF (fs.map Fr.i) (flags gs') l) (fillF fs gs' a) w'') :
    wpOp P ops Q j (fun a' w'' => (j ∉ ds → S w' → S w'') ∧ wpAnyLast P md ops Q S ds fuel ((layF (fs.map Fr.i) (flags gs) l).setIfInBounds j true) a' w'') (fillF fs gs a) w' := by
  have hp := List.all_eq_true.1 hc (flags gs) (by have := mem_pats (flags gs); rwa [flags_length, hl, ← List.length_map (f := Fr.i)] at this)
  simp only [hno, Bool.false_or, Bool.and_eq_true] at hp
  have h1 := List.all_eq_true.1 hp.2 j hj
  simp only [Bool.or_eq_true, beq_iff_eq] at h1
  obtain ⟨k, hk, h2⟩ := List.any_eq_true.1 (h1.resolve_left hjc)
  simp only [Bool.and_eq_true, beq_iff_eq] at h2
  obtain ⟨⟨h3, h4⟩, h5⟩ := h2
  have hk : k < fs.length := by simpa using hk
  obtain ⟨f, hfk⟩ : ∃ f, fs[k]? = some f := ⟨_, List.getElem?_eq_getElem hk⟩
  have hfi : f.i = j := by
    rw [← h3, List.getD_eq_getElem?_getD, List.getElem?_map, hfk]
    rfl
  have hg : gs[k]? = some none := by
    have hk' : k < gs.length := by omega
    rw [List.getElem?_eq_getElem hk']
    rw [List.getD_eq_getElem?_getD, flags, List.getElem?_map, List.getElem?_eq_getElem hk'] at h4
    cases hz : gs[k] with
    | none => rfl
    | some z => rw [hz] at h4; simp at h4
  have hmem : f ∈ fs := List.mem_of_getElem? hfk
  obtain ⟨o, ho, hdst, hsel, hw, hrun⟩ := hf f hmem
  have hother : ∀ m f', fs[m]? = some f' → m ≠ k → f'.N ∉ o.looksAt ops ∧ f'.N ≠ f.N := fun m f' hm hne => by
    obtain ⟨o', ho', hd', _⟩ := hf f' (List.mem_of_getElem? hm)
    have hne' : f'.i ≠ f.i := fun e => hne (by
      have hm' : m < fs.length := (List.getElem?_eq_some_iff.1 hm).1
      have hp := List.pairwise_iff_getElem.1 hnd
      have e1 : (fs.map Fr.i)[m]'(by simpa using hm') = (fs.map Fr.i)[k]'(by simpa using hk) := by
        rw [List.getElem_map, List.getElem_map]
        rw [List.getElem?_eq_getElem hm'] at hm
        rw [List.getElem?_eq_getElem hk] at hfk
        rw [Option.some.inj hm, Option.some.inj hfk]; exact e
      rcases Nat.lt_trichotomy m k with h7 | h7 | h7
      · exact absurd e1 (hp m k _ _ h7)
      · exact h7
      · exact absurd e1.symm (hp k m _ _ h7))
    obtain ⟨a1, a2, a3⟩ := Oper.apart_spec (apartF_spec hap (List.mem_map.2 ⟨f', List.mem_of_getElem? hm, rfl⟩) (List.mem_map.2 ⟨f, hmem, rfl⟩) hne' ho' ho)
    exact ⟨a1 _ hd', fun e => a2 _ hd' (by rw [hdst, e])⟩
  obtain ⟨e1, e2⟩ := fill_exec (ops := ops) hsel fs gs a (fun m f' hm => by
    by_cases hmk : m = k
    · exact .inl (hmk ▸ hg)
    · exact .inr (hother m f' hm hmk).1)
  rw [hfi] at ho
  unfold wpOp
  simp only [ho]
  rw [e2, if_pos hw]
  refine .inl ?_
  unfold Oper.wp
  rw [e1, hrun w']
  simp only [Oper.upon]
  rw [hdst, fill_set fs gs a k f hfk hg (fun m f' hm hne => (hother m f' hm hne).2), h5, ← flags_set (x := w'.heap.size)]
  exact ⟨fun _ _ => hSa _ _ hS, K _ _ (by simpa using hl) (openN_set hg).symm (below_alloc (Below.refl _ _) _) (hSa _ _ hS) (by simp; omega) (HeldF.make hl hH hB hfk)⟩
def coreF (md : Region.Mode) (ops : Array Oper) (ds is : List Nat) (l l' : Array Bool) (c : Nat) : Bool :=
  nextF md ops is (some c) l && (pats is.length).all (fun bs => (layF is bs l).setIfInBounds c true == layF is bs l') && apartF ops is is && apartF ops is [c] && Region.noSelect ops && decide is.Nodup && is.all (fun i => !ds.contains i) && !is.contains c && !ds.contains c
theorem apart_both {fs : List Fr} {a : Act} {c : Nat} {oc : Oper} (hoc : ops[c]? = some oc) (hf : ∀ f ∈ fs, FrOk P ops f a) (hap : apartF ops (fs.map Fr.i) [c] = true) (hcn : c ∉ fs.map Fr.i) :
    ∀ f ∈ fs, (f.N ∉ oc.looksAt ops ∧ oc.dst ≠ some f.N) ∧ ∀ o, ops[f.i]? = some o → ∀ d, oc.dst = some d → d ∉ o.looksAt ops := fun f hm => by
  obtain ⟨o, ho, hd, _⟩ := hf f hm
  have hne : f.i ≠ c := fun e => hcn (e ▸ List.mem_map.2 ⟨f, hm, rfl⟩)
  obtain ⟨a1, a2, a3⟩ := Oper.apart_spec (apartF_spec hap (List.mem_map.2 ⟨f, hm, rfl⟩) (List.mem_singleton.2 rfl) hne ho hoc)
  exact ⟨⟨a1 _ hd, a2 _ hd⟩, fun o' ho' => by rw [ho] at ho'; injection ho' with ho'; subst ho'; exact a3⟩
theorem core_ {B : Nat} {fs : List Fr} {c : Nat} {N : Option Tmp} {oc : Oper} {fuel : Nat} {l : Array Bool} {a : Act} {w : World} (l' : Array Bool) (hoc : ops[c]? = some oc) (hN : oc.dst = N) (hc : coreF md ops ds (fs.map Fr.i) l l' c = true)
    (hQ : ∀ N c a w v, Q (.panic c) a w → Q (.panic c) (a.put (some N) v) w) (hSa : ∀ w o, S w → S (w.alloc o))
    (h : ∀ w', Below w.heap.size w w' → S w' → ∀ K : Act → World → Prop, Shut (∀ a'' w'', S w'' → Below w'.heap.size w' w'' → (S w'' → NodeF P md ops Q S ds B fs fuel l' a'' w'') → K a'' w'') → if Region.wanted oc (yielded ops a.tmps) = true then Oper.wp P oc a w' K Q else K (a.put N undef) w') :
    NodeF P md ops Q S ds B fs (fuel + 1) l a w := by
  simp only [coreF, Bool.and_eq_true, decide_eq_true_eq, Bool.not_eq_true'] at hc
  obtain ⟨⟨⟨⟨⟨⟨⟨⟨c1, c2⟩, c3⟩, c4⟩, c5⟩, c6⟩, c7⟩, c8⟩, c9⟩ := hc
  intro hf
  have hboth := apart_both hoc hf c4 (by simpa using c8)
  have hsj : ∀ cs b, oc.op ≠ .select cs b := fun cs b => Region.noSelect_spec c5 c oc cs b hoc
  suffices H : ∀ n (gs : List (Option Nat)) w', openN gs = n → gs.length = fs.length → Below w.heap.size w w' → S w' → B ≤ w'.heap.size → HeldF B fs gs w' → wpAnyLast P md ops Q S ds (fuel + 1 + openN gs) (layF (fs.map Fr.i) (flags gs) l) (fillF fs gs a) w' from fun gs w' h1 h2 h3 h4 h5 => H _ gs w' rfl h1 h2 h3 h4 h5
  intro n
  induction n using Nat.strongRecOn with
  | _ n ih =>
    intro gs w' hn hl hb hS hB hH
    have hp := List.all_eq_true.1 c1 (flags gs) (by have := mem_pats (flags gs); rwa [flags_length, hl, ← List.length_map (f := Fr.i)] at this)
    have hp2 := List.all_eq_true.1 c2 (flags gs) (by have := mem_pats (flags gs); rwa [flags_length, hl, ← List.length_map (f := Fr.i)] at this)
    simp only [Bool.and_eq_true, Option.isNone_some, Bool.and_false, Bool.false_or, beq_iff_eq] at hp hp2
    rw [show fuel + 1 + openN gs = (fuel + openN gs) + 1 by omega]
    refine ⟨fun h0 => by rw [h0] at hp; simp at hp, fun j hj => ?_⟩
    by_cases hjc : j = c
    · subst hjc
      rw [hp2]
      refine wpOp_fill hoc hsj hQ fs gs a (fun f hm => (hboth f hm).1) ?_
      have h1 : wpOp P ops Q j (fun a'' w'' => S w'' ∧ Below w'.heap.size w' w'' ∧ NodeF P md ops Q S ds B fs fuel l' a'' w'') a w' := by
        have h2 := h w' hb hS (fun a'' w'' => S w'' ∧ Below w'.heap.size w' w'' ∧ NodeF P md ops Q S ds B fs fuel l' a'' w'') (show Shut _ from fun a'' w'' x1 x2 x3 => ⟨x1, x2, x3 x1⟩)
        unfold wpOp
        simp only [hoc]
        split
        · rename_i hw; rw [if_pos hw] at h2; exact .inl h2
        · rename_i hw; rw [if_neg hw, ← hN] at h2; exact h2
      refine wpOp_mono (fun a'' w'' hh => ?_) (wpOp_keep hoc hf (fun f hm => (hboth f hm).2) h1)
      obtain ⟨hf', s1, s2, s3⟩ := hh
      exact ⟨fun _ _ => s1, s3 hf' gs w'' hl (Below.refl _ _) s1 (Nat.le_trans hB s2.size) (hH.below s2)⟩
    · refine free_comes hf c3 c6 c7 hSa c1 hl hS hB hH (by simp) hj (fun e => hjc (Option.some.inj e).symm) (fun gs' w'' l1 l2 l3 l4 l5 l6 => ?_)
      have := ih (openN gs') (by omega) gs' w'' rfl l1 (below_step hb l3) l4 l5 l6
      rwa [show fuel + 1 + openN gs' = fuel + openN gs by omega] at this
def pureF (md : Region.Mode) (ops : Array Oper) (is : List Nat) (l l' : Array Bool) (i : Nat) : Bool :=
  (pats is.length).all (fun bs => anyB md ops (layF is bs l) (layF is bs l') i) && apartF ops is [i] && !is.contains i
theorem pureF_ {B : Nat} {fs : List Fr} {i : Nat} {N : Option Tmp} {oi : Oper} {v : Value} {fuel : Nat} {l : Array Bool} {a : Act} {w : World} (l' : Array Bool) (hi : ops[i]? = some oi) (hN : oi.dst = N) (hc : pureF md ops (fs.map Fr.i) l l' i = true)
    (hQ : ∀ c a w, Q (.panic c) (a.put oi.dst v) w → Q (.panic c) a w) (hy : Yields P ops oi v a) {a' : Act} (ha : a.put N v = a') (h : NodeF P md ops Q S ds B fs fuel l' a' w) : NodeF P md ops Q S ds B fs (fuel + 1) l a w := by
  subst ha
  subst hN
  simp only [pureF, Bool.and_eq_true, Bool.not_eq_true', List.contains_eq_mem, decide_eq_false_iff_not] at hc
  obtain ⟨⟨c1, c2⟩, c3⟩ := hc
  intro hf gs w' hl hb hS hB hH
  have hboth := apart_both hi hf c2 c3
  have hp := List.all_eq_true.1 c1 (flags gs) (by have := mem_pats (flags gs); rwa [flags_length, hl, ← List.length_map (f := Fr.i)] at this)
  have hsel : ∀ cs b, oi.op ≠ .select cs b := fun cs b => by
    have hs := hp
    simp only [anyB, Bool.and_eq_true] at hs
    exact Region.noSelect_spec hs.1.1.1 i oi cs b hi
  obtain ⟨e1, e2⟩ := fill_exec (ops := ops) hsel fs gs a (fun m f' hm => .inr (hboth f' (List.mem_of_getElem? hm)).1.1)
  rw [show fuel + 1 + openN gs = (fuel + openN gs) + 1 by omega]
  exact pure_ _ hi rfl hp hQ (hy.of_same e1 e2) (fill_putN fs gs a (fun f hm => ((hboth f hm).1.2).symm)) (h (fun f hm => (hf f hm).keep (hboth f hm).2) gs w' hl hb hS hB hH)
def endF (md : Region.Mode) (ops : Array Oper) (ds is : List Nat) (l l' : Array Bool) : Bool :=
  nextF md ops is none l && apartF ops is is && decide is.Nodup && is.all (fun i => !ds.contains i) && layF is (is.map fun _ => true) l == l'
theorem free_ {B : Nat} {fs : List Fr} {fuel : Nat} {l : Array Bool} {a : Act} {w : World} (l' : Array Bool) (hc : endF md ops ds (fs.map Fr.i) l l' = true) (hSa : ∀ w o, S w → S (w.alloc o))
    (h : ∀ (gs : List Nat) w', gs.length = fs.length → Below w.heap.size w w' → S w' → HeldF B fs (gs.map some) w' → wpAnyLast P md ops Q S ds fuel l' (fillF fs (gs.map some) a) w') : NodeF P md ops Q S ds B fs fuel l a w := by
  simp only [endF, Bool.and_eq_true, decide_eq_true_eq, beq_iff_eq] at hc
  obtain ⟨⟨⟨⟨c1, c2⟩, c3⟩, c4⟩, c5⟩ := hc
  intro hf
  suffices H : ∀ n (gs : List (Option Nat)) w', openN gs = n → gs.length = fs.length → Below w.heap.size w w' → S w' → B ≤ w'.heap.size → HeldF B fs gs w' → wpAnyLast P md ops Q S ds (fuel + openN gs) (layF (fs.map Fr.i) (flags gs) l) (fillF fs gs a) w' from fun gs w' h1 h2 h3 h4 h5 => H _ gs w' rfl h1 h2 h3 h4 h5
  intro n
  induction n with
  | zero =>
    intro gs w' hn hl hb hS hB hH
    have hall : ∀ g ∈ gs, g.isNone = false := by
      intro g hg
      have := List.countP_eq_zero.1 hn g hg
      exact Bool.eq_false_iff.mpr this
    obtain ⟨ns, rfl⟩ : ∃ ns : List Nat, gs = ns.map some := ⟨gs.map (·.getD 0), by
      rw [List.map_map]
      refine (List.map_id gs).symm.trans (List.map_congr_left fun g hg => ?_)
      cases g with
      | none => have := hall _ hg; simp at this
      | some x => rfl⟩
    have hfl : flags (ns.map some) = (fs.map Fr.i).map fun _ => true := by
      simp only [flags, List.map_map]
      refine List.ext_getElem (by simpa using hl) (fun i h1 h2 => by simp)
    rw [hn, hfl, c5]
    exact h ns w' (by simpa using hl) hb hS hH
  | succ n ih =>
    intro gs w' hn hl hb hS hB hH
    have hp := List.all_eq_true.1 c1 (flags gs) (by have := mem_pats (flags gs); rwa [flags_length, hl, ← List.length_map (f := Fr.i)] at this)
    have hno : ((flags gs).all id) = false := by
      rw [Bool.eq_false_iff]
      intro hz
      have : openN gs = 0 := List.countP_eq_zero.2 (fun g hg => by
        have := List.all_eq_true.1 hz g.isSome (List.mem_map.2 ⟨g, hg, rfl⟩)
        cases g <;> simp_all)
      omega
    simp only [hno, Bool.and_eq_true, Bool.false_and, Bool.false_or] at hp
    rw [hn, show fuel + (n + 1) = (fuel + n) + 1 by omega]
    refine ⟨fun h0 => by rw [h0] at hp; simp at hp, fun j hj => ?_⟩
    refine free_comes hf c2 c3 c4 hSa c1 hl hS hB hH (by rw [hno]; rfl) hj (by simp) (fun gs' w'' l1 l2 l3 l4 l5 l6 => ?_)
    have := ih gs' w'' (by omega) l1 (below_step hb l3) l4 l5 l6
    rwa [show openN gs' = n by omega] at this
theorem frees_ (fs : List Fr) (fuel : Nat) {l : Array Bool} {a : Act} {w : World} (hf : ∀ f ∈ fs, FrOk P ops f a) (hS : S w) (h : NodeF P md ops Q S ds w.heap.size fs fuel l a w) : wpAnyLast P md ops Q S ds (fuel + fs.length) l a w := by
  have h1 := h hf (fs.map fun _ => none) w (by simp) (Below.refl _ _) hS (Nat.le_refl _) ⟨fun j f g _ hg => by simp at hg, fun j k g hg => by simp at hg⟩
  have e1 : ∀ (is : List Nat) (l : Array Bool), layF is (flags (fs.map fun _ => none)) l = l := by
    intro is l
    clear h1 h hf
    induction fs generalizing is with
    | nil => cases is <;> rfl
    | cons f fs ih => cases is with
      | nil => rfl
      | cons i is => exact ih is
  have e2 : ∀ (fs : List Fr) (a : Act), fillF fs (fs.map fun _ => none) a = a := by
    intro fs
    induction fs with
    | nil => intro a; rfl
    | cons f fs ih => intro a; exact ih a
  have e3 : openN (fs.map fun _ => none) = fs.length := by
    simp [openN, List.countP_map]
  rw [e1, e2, e3] at h1
  exact h1
end
section
variable {P : Program} {ops : Array Oper} {Q : Exit → Act → World → Prop} {md : Region.Mode} {S : World → Prop} {ds : List Nat} {B : Nat} {fs : List Fr}
theorem joinF_ {σ : Type} {fuel : Nat} {l : Array Bool} {a : Act} {w : World} (fuel' : Nat) (l' : Array Bool) (ns : σ → List (Tmp × Value)) (F : σ → World → Prop)
    (hcont : ∀ s w', F s w' → NodeF P md ops Q S ds B fs fuel' l' (putAll a (ns s)) w')
    (h : (∀ s w', F s w' → NodeF P md ops Q S ds B fs fuel' l' (putAll a (ns s)) w') → NodeF P md ops Q S ds B fs fuel l a w) : NodeF P md ops Q S ds B fs fuel l a w := h hcont
theorem normF_ {fuel : Nat} {l : Array Bool} {a a' : Act} {w : World} (ha : a = a') (h : NodeF P md ops Q S ds B fs fuel l a' w) : NodeF P md ops Q S ds B fs fuel l a w := by
  subst ha
  exact h
end
section
variable {md : Region.Mode} {ops : Array Oper} {ds is : List Nat} {l l' : Array Bool} {T : Bool × List (List Nat × List Nat)}
def apartT (T : Bool × List (List Nat × List Nat)) (is js : List Nat) : Bool := is.all fun i => js.all fun j => i == j || (match T.2[i]?, T.2[j]? with
  | some r, some q => !r.2.contains j && !q.1.contains i
  | _, _ => false)
theorem apartF_of (hT : rtab md ops = T) {is js : List Nat} (h : apartT T is js = true) : apartF ops is js = true := by
  subst hT
  refine List.all_eq_true.2 fun i hi => List.all_eq_true.2 fun j hj => ?_
  have h1 := List.all_eq_true.1 (List.all_eq_true.1 h i hi) j hj
  by_cases hij : i = j
  · simp [hij]
  simp only [Bool.or_eq_true, beq_iff_eq, hij, false_or] at h1 ⊢
  cases ho : ops[i]? with
  | none => rw [rtab_none ho] at h1; simp at h1
  | some x =>
    cases hp : ops[j]? with
    | none => rw [rtab_some ho, rtab_none hp] at h1; simp at h1
    | some y =>
      rw [rtab_some ho, rtab_some hp] at h1
      simp only [Bool.and_eq_true, Bool.not_eq_true'] at h1 ⊢
      obtain ⟨h2, h3⟩ := h1
      · have hj' : j < ops.size := (Array.getElem?_eq_some_iff.1 hp).1
        simp only [clashOf, List.contains_eq_mem, decide_eq_false_iff_not, List.mem_filter, List.mem_range, hj', true_and, hp] at h2
        simp only [List.contains_eq_mem, decide_eq_false_iff_not] at h3
        have h4 : y.after.any (fun e => Region.binds md e && e.on == i) = false := by
          rw [needs_any y (fun k => k == i), List.any_eq_false]
          intro k hk hki
          simp only [beq_iff_eq] at hki
          exact h3 (hki ▸ hk)
        rw [h4] at h2
        have hij' : (j == i) = false := by simpa using fun e => hij e.symm
        rw [hij'] at h2
        simpa using h2
def nextT (T : Bool × List (List Nat × List Nat)) (is : List Nat) (c : Option Nat) (l : Array Bool) : Bool := (pats is.length).all fun bs =>
  let m := layF is bs l
  let r := readyT T.2 m.toList
  (bs.all id && c.isNone) || !r.isEmpty && r.all fun j => c == some j || (List.range is.length).any fun k => is.getD k 0 == j && bs.getD k true == false && m.setIfInBounds j true == layF is (bs.set k true) l
theorem nextF_of (hT : rtab md ops = T) {c : Option Nat} (h : nextT T is c l = true) : nextF md ops is c l = true := by
  subst hT
  unfold nextT at h
  unfold nextF
  simp only [ready_eq]
  exact h
def coreT (T : Bool × List (List Nat × List Nat)) (ds is : List Nat) (l l' : Array Bool) (c : Nat) : Bool :=
  nextT T is (some c) l && (pats is.length).all (fun bs => (layF is bs l).setIfInBounds c true == layF is bs l') && apartT T is is && apartT T is [c] && T.1 && decide is.Nodup && is.all (fun i => !ds.contains i) && !is.contains c && !ds.contains c
theorem coreF_of (hT : rtab md ops = T) {c : Nat} (h : coreT T ds is l l' c = true) : coreF md ops ds is l l' c = true := by
  unfold coreT at h
  unfold coreF
  simp only [Bool.and_eq_true] at h ⊢
  obtain ⟨⟨⟨⟨⟨⟨⟨⟨c1, c2⟩, c3⟩, c4⟩, c5⟩, c6⟩, c7⟩, c8⟩, c9⟩ := h
  refine ⟨⟨⟨⟨⟨⟨⟨⟨nextF_of hT c1, c2⟩, apartF_of hT c3⟩, apartF_of hT c4⟩, ?_⟩, c6⟩, c7⟩, c8⟩, c9⟩
  subst hT
  exact c5
def pureT (T : Bool × List (List Nat × List Nat)) (is : List Nat) (l l' : Array Bool) (i : Nat) : Bool :=
  (pats is.length).all (fun bs => anyT T (layF is bs l).toList (layF is bs l').toList i) && apartT T is [i] && !is.contains i
theorem pureF_of (hT : rtab md ops = T) {i : Nat} (h : pureT T is l l' i = true) : pureF md ops is l l' i = true := by
  unfold pureT at h
  unfold pureF
  simp only [Bool.and_eq_true] at h ⊢
  exact ⟨⟨List.all_eq_true.2 fun bs hbs => any_of hT (List.all_eq_true.1 h.1.1 bs hbs), apartF_of hT h.1.2⟩, h.2⟩
def endT (T : Bool × List (List Nat × List Nat)) (ds is : List Nat) (l l' : Array Bool) : Bool :=
  nextT T is none l && apartT T is is && decide is.Nodup && is.all (fun i => !ds.contains i) && layF is (is.map fun _ => true) l == l'
theorem endF_of (hT : rtab md ops = T) (h : endT T ds is l l' = true) : endF md ops ds is l l' = true := by
  unfold endT at h
  unfold endF
  simp only [Bool.and_eq_true] at h ⊢
  exact ⟨⟨⟨⟨nextF_of hT h.1.1.1.1, apartF_of hT h.1.1.1.2⟩, h.1.1.2⟩, h.1.2⟩, h.2⟩
end
theorem cellA {w : World} {p : Addr} {v : Value} (h : w.cell? p = some v) (o : Obj) : (w.alloc o).cell? p = some v := by
  rw [← h]
  refine World.cell?_of_block (Below.heap_alloc w o p.block ?_)
  unfold World.cell? at h
  rcases Nat.lt_or_ge p.block w.heap.size with h' | h'
  · exact h'
  · rw [Array.getElem?_eq_none h'] at h; cases h
theorem len2 {gs : List Nat} (h : gs.length = 2) : ∃ a b, gs = [a, b] := by
  match gs, h with
  | [a, b], _ => exact ⟨a, b, rfl⟩
theorem frok_ {P : Program} {ops : Array Oper} {i : Nat} {N : Tmp} {cs : Array Value} {t : TypeId} {a : Act} {o : Oper} (ho : ops[i]? = some o) (hN : o.dst = some N) (hs : ∀ cs b, o.op ≠ .select cs b) (hg : o.guard = none)
    (hr : ∀ w, (execOp a.eval o).run P w = .ok (.value (.pointer (some ⟨w.heap.size, 0, none⟩))) (w.alloc (.cells cs t (0, 0)))) : FrOk P ops ⟨i, N, .cells cs t (0, 0), fun g => .pointer (some ⟨g, 0, none⟩)⟩ a :=
  ⟨o, ho, hN, hs, by unfold Region.wanted; rw [hg], hr⟩
theorem HeldF.at {B : Nat} {fs : List Fr} {gs : List Nat} {w : World} (h : HeldF B fs (gs.map some) w) (j : Nat) {f : Fr} {g : Nat} (hf : fs[j]? = some f) (hg : gs[j]? = some g) : w.heap[g]? = some f.obj ∧ B ≤ g := h.1 j f g hf (by rw [List.getElem?_map, hg]; rfl)
theorem HeldF.ne {B : Nat} {fs : List Fr} {gs : List Nat} {w : World} (h : HeldF B fs (gs.map some) w) (j k : Nat) {g g' : Nat} (hg : gs[j]? = some g) (hg' : gs[k]? = some g') (hjk : j ≠ k) : g ≠ g' := fun e => by
  subst e
  exact hjk (h.2 j k g (by rw [List.getElem?_map, hg]; rfl) (by rw [List.getElem?_map, hg']; rfl))
theorem uPF {α : Type} {a b : α} (u : a = b := by first | (simp only [fillF, List.map_cons, List.map_nil, putAll, Act.put, List.setIfInBounds_toArray, List.set_cons_zero, List.set_cons_succ]; done) | (simp only [fillF, List.map_cons, List.map_nil, putAll, Act.put, List.setIfInBounds_toArray, List.set_cons_zero, List.set_cons_succ]; rfl) | rfl) : a = b := u
end Go.Proofs.Ytnaphgnkhhapoab.F
end
