/- Proved: the law PrimePairs of layer 5: any key drawn from any tape is the document's, and has as many bits as asked for; for every input, without a condition. -/
import Derived.Test.YtkgaejigpmkfkaaMPrimePairsd
section
namespace Go.Proofs.Ytkgaejigpmkfkaa.F
open Go.RowKit Go.Proofs.YtkgaejigpmkfkaaW.PrintWords Go.Proofs.YtkgaejigpmkfkaaW.PrintLast Go.Proofs.YtkgaejigpmkfkaaW.PrintMore
attribute [local go_sem] max2_int min2_int max_two min_two max_three min_three max_four min_four
set_option linter.unusedVariables false
set_option linter.unusedSimpArgs false
mutual
def nat_long.l0 : Nat → Int → List Int → List Int → Int → List Int → Int → Option (List Int × List Int)
 | 0, _, _, _, _, _, _ => none
 | k + 1, x6, x7, x8, x9, x10, x11 => if x11 ≥ 0 then (if 0 ≤ (wrap64 (x11 + x9)) then (if (wrap64 (x11 + x9)) < (x7.length : Int) then (if 0 ≤ (wrap64 ((wrap64 (x11 + x9)) - 1)) then (if (wrap64 ((wrap64 (x11 + x9)) - 1)) < (x7.length : Int) then (if 0 ≤ (wrap64 ((wrap64 (x11 + x9)) - 2)) then (if (wrap64 ((wrap64 (x11 + x9)) - 2)) < (x7.length : Int) then (if 0 ≤ (wrap64 (x9 - 1)) then (if (wrap64 (x9 - 1)) < (x8.length : Int) then (if 0 ≤ (wrap64 (x9 - 2)) then (if (wrap64 (x9 - 2)) < (x8.length : Int) then ((nat_guess.f k (rd x7 (wrap64 (x11 + x9))) (rd x7 (wrap64 ((wrap64 (x11 + x9)) - 1))) (rd x7 (wrap64 ((wrap64 (x11 + x9)) - 2))) (rd x8 (wrap64 (x9 - 1))) (rd x8 (wrap64 (x9 - 2)))).bind fun t232 => (if 0 ≤ x11 then (if x11 ≤ (wrap64 ((wrap64 (x11 + x9)) + 1)) then (if (wrap64 ((wrap64 (x11 + x9)) + 1)) ≤ (x7.length : Int) then (nat_long.l1 k x6 x7 x8 x9 x10 x11 t232 ((x7.take ((wrap64 ((wrap64 (x11 + x9)) + 1)) : Int).toNat).drop (x11 : Int).toNat)) else (none)) else (none)) else (none))) else (none)) else (none)) else (none)) else (none)) else (none)) else (none)) else (none)) else (none)) else (none)) else (none)) else ((nat_trim.f k x7).bind fun t255 => (if 0 ≤ (t255.length : Int) then (if ((t255.length : Int) : Int).toNat ≤ 35184372088832 then (nat_long.l2 k x6 x10 t255 (List.replicate ((t255.length : Int) : Int).toNat 0) (t255.length : Int) 0) else (none)) else (none)))
def nat_long.l1 : Nat → Int → List Int → List Int → Int → List Int → Int → Int → List Int → Option (List Int × List Int)
 | 0, _, _, _, _, _, _, _, _ => none
 | k + 1, x6, x7, x8, x9, x10, x11, x12, x13 => (nat_Of.f k x12).bind fun t237 => ((nat_school.f k x8 t237).bind fun t240 => ((api_Nat_uint64.f x13).bind fun t243 => ((nat_trim.f k t243).bind fun t246 => ((nat_compare.f k t246 t240).bind fun t249 => (if t249 ≥ 0 then ((nat_less.f k x13 t240).bind fun t250 => (if t250.length = x13.length then (if 0 ≤ x11 then (if x11 < (x10.length : Int) then (nat_long.l0 k x6 (x7.take (x11 : Int).toNat ++ (t250 ++ x7.drop ((x11 : Int).toNat + x13.length))) x8 x9 (x10.set (x11 : Int).toNat x12) (wrap64 (x11 - 1))) else (none)) else (none)) else (none))) else (nat_long.l1 k x6 x7 x8 x9 x10 x11 (IntKind.u64.wrap (x12 - 1)) x13))))))
def nat_long.l2 : Nat → Int → List Int → List Int → List Int → Int → Int → Option (List Int × List Int)
 | 0, _, _, _, _, _, _ => none
 | k + 1, x6, x10, x15, x16, x112, x113 => if x113 < x112 then (if 0 ≤ x113 then (if x113 < (x15.length : Int) then (if 0 ≤ x6 then (if x113 < (x16.length : Int) then ((some (x16.set (x113 : Int).toNat (shr .u64 (rd x15 x113) x6) : List Int)).bind fun y262 => (if x6 > 0 then (if (wrap64 (x113 + 1)) < (x15.length : Int) then (if 0 ≤ (wrap64 (x113 + 1)) then (if 0 ≤ (IntKind.u64.wrap (64 - x6)) then (nat_long.l2 k x6 x10 x15 (y262.set (x113 : Int).toNat (Go.bits .or .u64 (rd y262 x113) (shl .u64 (rd x15 (wrap64 (x113 + 1))) (IntKind.u64.wrap (64 - x6))))) x112 (wrap64 (x113 + 1))) else (none)) else (none)) else (nat_long.l2 k x6 x10 x15 y262 x112 (wrap64 (x113 + 1)))) else (nat_long.l2 k x6 x10 x15 y262 x112 (wrap64 (x113 + 1))))) else (none)) else (none)) else (none)) else (none)) else ((nat_trim.f k x10).bind fun t266 => ((nat_trim.f k x16).bind fun t269 => (some (t266, t269))))
end
def nat_long.f (k : Nat) (l0 : List Int) (l1 : List Int) : Option (List Int × List Int) := if 0 ≤ (wrap64 ((l1.length : Int) - 1)) then (if (wrap64 ((l1.length : Int) - 1)) < (l1.length : Int) then ((bits_LeadingZeros64.f k (rd l1 (wrap64 ((l1.length : Int) - 1)))).bind fun t214 => ((nat_up.f k l0 (IntKind.u64.wrap (t214))).bind fun t215 => ((nat_up.f k l1 (IntKind.u64.wrap (t214))).bind fun t218 => ((nat_trim.f k t218).bind fun t221 => (if 0 ≤ (wrap64 ((t215.length : Int) - (t221.length : Int))) then (if (wrap64 ((t215.length : Int) - (t221.length : Int)) : Int).toNat ≤ 35184372088832 then ((some (List.replicate (wrap64 ((t215.length : Int) - (t221.length : Int)) : Int).toNat 0 : List Int)).bind fun y224 => (nat_long.l0 k (IntKind.u64.wrap (t214)) t215 t221 (t221.length : Int) y224 (wrap64 ((y224.length : Int) - 1)))) else (none)) else (none)))))) else (none)) else (none)
def nat_long.T8 : Bool × List (List Nat × List Nat) := (true, [([], []), ([], []), ([], []), ([1, 2], [1, 2]), ([0, 3], [0, 3]), ([4], [4]), ([], []), ([], []), ([], []), ([7, 8], [7, 8]), ([9], [9]), ([6, 10], [6, 10]), ([11], [11]), ([], []), ([], []), ([], []), ([14, 15], [14, 15]), ([16], [16]), ([13, 17], [13, 17]), ([18], [18]), ([], []), ([], []), ([21], [21]), ([20, 22], [20, 22]), ([23], [23]), ([], []), ([], []), ([26], [26]), ([25, 27], [25, 27]), ([28], [28]), ([5, 12, 19, 24, 29], [5, 12, 19, 24, 29]), ([30, 30, 0, 1, 2, 3, 4, 5, 6, 7, 8, 9, 10, 11, 12, 13, 14, 15, 16, 17, 18, 19, 20, 21, 22, 23, 24, 25, 26, 27, 28, 29, 30], [30])])
def nat_long.B8 : List Nat := [0, 0, 0, 6, 15, 31, 0, 0, 0, 384, 896, 1984, 4032, 0, 0, 0, 49152, 114688, 253952, 516096, 0, 0, 2097152, 7340032, 15728640, 0, 0, 67108864, 234881024, 503316480, 1073741823, 2147483647]
theorem nat_long.tab8 : rtab .any (opsOf Try.f95 8) = nat_long.T8 := by kernel_rfl
theorem nat_long.bits8 : waitsOk nat_long.T8.2 nat_long.B8 = true := by kernel_rfl
def nat_long.T22 : Bool × List (List Nat × List Nat) := (true, [([], []), ([], []), ([0, 1], [0, 1]), ([2], [2]), ([], []), ([], []), ([5], [5]), ([4, 6], [4, 6]), ([7], [7]), ([], []), ([9], [9]), ([8, 10], [8, 10]), ([3, 11], [3, 11]), ([0, 1, 0, 1, 2, 3, 4, 5, 6, 7, 8, 9, 10, 11, 12], [0, 1]), ([13, 12, 0, 1, 2, 3, 4, 5, 6, 7, 8, 9, 10, 11, 12], [12, 13])])
def nat_long.B22 : List Nat := [0, 0, 3, 7, 0, 0, 32, 112, 240, 0, 512, 2032, 4095, 8191, 16383]
theorem nat_long.tab22 : rtab .any (opsOf Try.f95 22) = nat_long.T22 := by kernel_rfl
theorem nat_long.bits22 : waitsOk nat_long.T22.2 nat_long.B22 = true := by kernel_rfl
set_option maxHeartbeats 8000000 in
set_option maxRecDepth 100000 in
theorem nat_long.calls (k : Nat) (A0 : Option Addr) (c0 : Nat) (l0 : List Int) (A1 : Option Addr) (c1 : Nat) (l1 : List Int) (r1 : List Int) (r2 : List Int) (w : World) (hr0 : Kd.C (Kd.int .u64) w A0 l0.length l0) (hc0 : l0.length ≤ c0) (hr1 : Kd.C (Kd.int .u64) w A1 l1.length l1) (hc1 : l1.length ≤ c1) (h : nat_long.f k l0 l1 = some (r1, r2)) :
  Calls Try.prog 95 #[.slice A0 l0.length c0, .slice A1 l1.length c1] w fun e w' => ∃ v0_ v1_ : Value, e = .returned (.tuple #[v0_, v1_]) ∧ Kd.R (Kd.int .u64) 30 w' w.heap.size (fun k_ => some k_ ≠ (v1_ : Value).ownBlock) v0_ r1 ∧ Kd.R (Kd.int .u64) 30 w' w.heap.size (fun k_ => some k_ ≠ (v0_ : Value).ownBlock) v1_ r2 ∧ Below w.heap.size w w' := by
 have HR0 := Aside0.mk hr0; have HC0 := Aside0.mk hc0; clear hr0 hc0; have HR1 := Aside0.mk hr1; have HC1 := Aside0.mk hc1; clear hr1 hc1
 have HB := Aside0.mk (Below.refl w.heap.size w)
 have H : (if 0 ≤ (wrap64 ((l1.length : Int) - 1)) then (if (wrap64 ((l1.length : Int) - 1)) < (l1.length : Int) then ((bits_LeadingZeros64.f k (rd l1 (wrap64 ((l1.length : Int) - 1)))).bind fun t214 => ((nat_up.f k l0 (IntKind.u64.wrap (t214))).bind fun t215 => ((nat_up.f k l1 (IntKind.u64.wrap (t214))).bind fun t218 => ((nat_trim.f k t218).bind fun t221 => (if 0 ≤ (wrap64 ((t215.length : Int) - (t221.length : Int))) then (if (wrap64 ((t215.length : Int) - (t221.length : Int)) : Int).toNat ≤ 35184372088832 then ((some (List.replicate (wrap64 ((t215.length : Int) - (t221.length : Int)) : Int).toNat 0 : List Int)).bind fun y224 => (nat_long.l0 k (IntKind.u64.wrap (t214)) t215 t221 (t221.length : Int) y224 (wrap64 ((y224.length : Int) - 1)))) else (none)) else (none)))))) else (none)) else (none)) = some (r1, r2) := h
 clear h
 obtain ⟨ji3, hji3⟩ : ∃ j_ : Int, (wrap64 ((l1.length : Int) - 1)) = j_ := ⟨_, rfl⟩
 first | rw [hji3] at H | simp only [hji3] at H
 have hji3w : (IntKind.i64.wrap ((l1.length : Int) - 1)) = ji3 := (i64_w _).trans hji3
 replace H := uT H; obtain ⟨c4, H⟩ := H
 have c4b0 : decide (0 ≤ (ji3)) = true := decide_eq_true c4
 clear c4
 replace H := uT H; obtain ⟨c5, H⟩ := H
 have c5b0 : decide ((ji3) < (l1.length : Int)) = true := decide_eq_true c5
 clear c5
 replace H := ub H; obtain ⟨t214, A6, H⟩ := H
 replace H := ub H; obtain ⟨t215, A7, H⟩ := H
 replace H := ub H; obtain ⟨t218, A8, H⟩ := H
 replace H := ub H; obtain ⟨t221, A9, H⟩ := H
 obtain ⟨ji10, hji10⟩ : ∃ j_ : Int, (wrap64 ((t215.length : Int) - (t221.length : Int))) = j_ := ⟨_, rfl⟩
 first | rw [hji10] at H | simp only [hji10] at H
 (try rw [hji10] at A6)
 (try rw [hji10] at A7)
 (try rw [hji10] at A8)
 (try rw [hji10] at A9)
 have hji10w : (IntKind.i64.wrap ((t215.length : Int) - (t221.length : Int))) = ji10 := (i64_w _).trans hji10
 replace H := uT H; obtain ⟨c11, H⟩ := H
 have c11b0 := eq_true c11
 have c11b1 : decide (0 ≤ (ji10)) = true := decide_eq_true c11
 clear c11
 replace H := uT H; obtain ⟨c12, H⟩ := H
 have c12b0 := eq_true c12
 have c12b1 : decide ((ji10 : Int).toNat ≤ 35184372088832) = true := decide_eq_true c12
 clear c12
 obtain ⟨y224, hy224⟩ : ∃ y_ : List Int, y_ = (List.replicate (ji10 : Int).toNat 0) := ⟨_, rfl⟩
 replace H : (nat_long.l0 k (IntKind.u64.wrap (t214)) t215 t221 (t221.length : Int) y224 (wrap64 ((y224.length : Int) - 1))) = some (r1, r2) := by first | (rw [hy224]; with_reducible exact H) | (have H2_ := (Option.bind_some _ _).symm.trans H; rw [hy224]; with_reducible exact H2_) | (have H2_ := (Option.bind_some _ _).symm.trans H; with_reducible exact H2_) | with_reducible exact H | (rw [hy224]; exact H) | exact H
 have Ny224 := Aside0.mk hy224; clear hy224
 have H' := Aside0.mk H
 clear H
 have p213 : 0 ≤ ((ji3) : Int) := uO
 have q213 : (ji3) < (l1.length : Int) := uO
 obtain ⟨ad213, e213, hx213_0⟩ := Kd.at_int HR1.out (ji3) p213 q213
 cases e213
 replace p213 := eq_true p213
 replace q213 := eq_true q213
 go_enter Try.func95, Try.ntmps95
 go_wp2_with (first | ((with_reducible refine gate_callee (f := 142) rfl ?_); refine goesL_ (some 24) rfl rfl Try.func142 (by kernel_rfl) rfl #[.int .u64 (rd l1 (ji3))] rfl (by (try simp only [List.map_toArray, List.map_cons, List.map_nil]); first | done | (simp only [hji3]; rfl) | rfl | (simp only [List.length_drop, List.length_take]; rfl)) ?_; (with_reducible refine (bits_LeadingZeros64.calls k (rd l1 (ji3)) t214 _ A6.out).mono ?_); rintro e w' ⟨rfl, ⟨nd, rfl⟩⟩; refine ⟨_, rfl, ?_⟩) | ((with_reducible refine gate_callee (f := 90) rfl ?_); refine goesL_ (some 28) rfl rfl Try.func90 (by kernel_rfl) rfl #[.slice A0 l0.length c0, .int .u64 (IntKind.u64.wrap (t214))] rfl uM ?_; (with_reducible refine (nat_up.calls k _ _ l0 (IntKind.u64.wrap (t214)) t215 _ ?side1 ?side2 A7.out).mono ?_); (case side1 => exact uC HR0.out); (case side2 => exact HC0.out); rintro e w13 ⟨v216, rfl, ho0, hb⟩; refine ⟨_, rfl, ?_⟩; have HO217 := Aside0.mk (Kd.R_lower ho0 (below_size uB)); replace HB := uy hb; (try clear hb ho0)) | ((with_reducible refine gate_callee (f := 90) rfl ?_); refine goesL_ (some 31) rfl rfl Try.func90 (by kernel_rfl) rfl #[.slice (some ad213) l1.length c1, .int .u64 (IntKind.u64.wrap (t214))] rfl uM ?_; (with_reducible refine (nat_up.calls k _ _ l1 (IntKind.u64.wrap (t214)) t218 _ ?side1 ?side2 A8.out).mono ?_); (case side1 => exact uC (Kd.C_below HR1.out HB.out)); (case side2 => exact HC1.out); rintro e w14 ⟨v219, rfl, ho0, hb⟩; refine ⟨_, rfl, ?_⟩; have HO220 := Aside0.mk (Kd.R_lower (Kd.R_new' ho0 (Kd.R_lt (uR HO217.out))) (below_size uB)); replace HO217 := ueR HO217 ho0 hb; replace HB := uy hb; (try clear hb ho0); obtain ⟨Ao15, co15, eo15⟩ := Kd.R_slice HO220.out; subst eo15) | ((with_reducible refine gate_callee (f := 133) rfl ?_); refine goesL_ (some 32) rfl rfl Try.func133 (by kernel_rfl) rfl #[.slice Ao15 t218.length co15] rfl uM ?_; (with_reducible refine (nat_trim.calls k (fun k_ => some k_ = (.slice Ao15 t218.length co15 : Value).ownBlock) (.slice Ao15 t218.length co15) t218 t221 w _ ?side1 ?side2 A9.out).mono ?_); (case side1 => repeat (first | (with_reducible first | exact HB.out | apply below_alloc | apply pw_below_drewN | apply below_drew1) | exact HB.out)); (case side2 => exact Kd.R_tight rfl HO220.out); rintro e w16 ⟨v222, rfl, ho0, hb, hkp⟩; refine ⟨_, rfl, ?_⟩; have HO223 := Aside0.mk (Kd.R_mono (ok' := fun k_ => some k_ ≠ (v216 : Value).ownBlock) ho0 (fun k_ hk_ => Or.elim hk_ (fun hs_ => fun e_ => (((HO217.out).1 k_ e_.symm).2) hs_) (fun hn_ => (Kd.fresh' (Kd.R_lt (uR HO217.out)) k_ hn_)))); replace HO217 := Aside0.mk (Kd.R_mono (ok' := fun k_ => some k_ ≠ (v222 : Value).ownBlock) (Kd.R_keptB (HO217.out) hkp (fun k_ hk_ hs_ => (hk_.2) hs_)) (fun k_ hk_ => fun e_ => Or.elim (ho0.1 k_ e_.symm) (fun hs_ => hk_.2.1 hs_) (fun hn_ => Nat.not_le.2 hk_.2.2 hn_))); replace HB := Aside0.mk (hb); clear HO220; (try clear hb); (try clear hkp); (try clear ho0); obtain ⟨Ao17, co17, eo17⟩ := Kd.R_slice HO223.out; subst eo17; obtain ⟨Ao18, co18, eo18⟩ := Kd.R_slice HO217.out; subst eo18) | ((with_reducible refine gate_dst (N := 39) rfl ?_); (try (refine gate_guard (by rfl) ?_; dsimp only)); refine Kd.R_make (Kd.int .u64) _ 30 rfl (N := 39) rfl 40 _ _ rfl ji10 rfl rfl Try.underlying40 (.int .u64 0) 8 info30 rfl (by decide) (by omega) 0 (ok := fun _ => True) (okp := fun _ => True) rfl (fun _ hk => hk) trivial uO (Nat.le_trans (Nat.mul_le_mul_right _ (uO : ji10.toNat ≤ 35184372088832)) (by omega)) (Below.refl _ _) (Nat.le_refl _) ?_; intro v225 w19 ho20 hb hg_ hnew_; clear hg_ hnew_; (first | rw [← Ny224.out] at ho20 | (simp only [Int.reduceToNat] at ho20; rw [← Ny224.out] at ho20)); have HO226 := Aside0.mk (Kd.R_lower (Kd.R_new' (Kd.R_new' ho20 (Kd.R_lt (uR HO217.out))) (Kd.R_lt (uR HO223.out))) (below_size uB)); replace HO217 := ueR HO217 ho20 hb; replace HO223 := ueR HO223 ho20 hb; replace HB := uy hb; clear hb ho20; obtain ⟨Ao21, co21, eo21⟩ := Kd.R_slice HO226.out; subst eo21))
 go_loopg [11] k (fun kq v11 w' => ∃ (x7_1 : List Int) (x10_1 : List Int) (x11_1 : Int), v11 = .int .i64 x11_1 ∧ Aside0 (nat_long.l0 kq (IntKind.u64.wrap (t214)) x7_1 t221 (t221.length : Int) x10_1 x11_1 = some (r1, r2)) ∧ Aside0 (kq ≤ k) ∧ Aside0 (Kd.R (Kd.int .u64) 30 w' w.heap.size (fun k_ => some k_ ≠ ((.slice Ao17 t221.length co17) : Value).ownBlock ∧ some k_ ≠ ((.slice Ao21 y224.length co21) : Value).ownBlock) (.slice Ao18 t215.length co18) x7_1) ∧ Aside0 (Kd.R (Kd.int .u64) 30 w' w.heap.size (fun k_ => some k_ ≠ ((.slice Ao18 t215.length co18) : Value).ownBlock ∧ some k_ ≠ ((.slice Ao21 y224.length co21) : Value).ownBlock) (.slice Ao17 t221.length co17) t221) ∧ Aside0 (Kd.R (Kd.int .u64) 30 w' w.heap.size (fun k_ => some k_ ≠ ((.slice Ao18 t215.length co18) : Value).ownBlock ∧ some k_ ≠ ((.slice Ao17 t221.length co17) : Value).ownBlock) (.slice Ao21 y224.length co21) x10_1) ∧ Aside0 (Below w.heap.size w w'))
 case atStart => exact ⟨(t215), (y224), (wrap64 ((y224.length : Int) - 1)), uG, H', ⟨Nat.le_refl _⟩, ⟨uR HO217.out⟩, ⟨uR HO223.out⟩, ⟨by (with_reducible repeat (first | apply Kd.R_alloc | apply Kd.R_drewN | apply Kd.R_drew)); exact Kd.R_mono HO226.out (fun _ hk => ⟨hk.1.2, hk.2⟩)⟩, ⟨uB⟩⟩
 case round =>
  clear H'
  (try clear c1); (try clear p2); (try clear q2); (try clear hx2); (try clear c4); (try clear c4b0); (try clear c5); (try clear c5b0); (try clear p6); (try clear c9); (try clear c11); (try clear c11b0); (try clear c11b1); (try clear c12); (try clear c12b0); (try clear c12b1); (try clear c13); (try clear c14); (try clear p21); (try clear q21); (try clear hx21); (try clear hx213_0); (try clear p213); (try clear q213)
  obtain ⟨x7_1, x10_1, x11_1, rfl, HA, HK1, HO_7, HO_8, HO_10, HB⟩ := hrel
  have hl7_1 := (Kd.R_reads' HO_7.out).1
  rw [hl7_1] at HO_7
  (try simp only [hl7_1])
  (try simp only [hl7_1] at HO_8)
  (try simp only [hl7_1] at HO_10)
  have hl10_1 := (Kd.R_reads' HO_10.out).1
  rw [hl10_1] at HO_10
  (try simp only [hl10_1])
  (try simp only [hl10_1] at HO_7)
  (try simp only [hl10_1] at HO_8)
  cases gk with
  | zero => exact absurd HA.out (by simp [nat_long.l0])
  | succ k1 =>
   have H := HA.out
   clear HA
   simp only [nat_long.l0] at H
   by_cases c22 : x11_1 ≥ 0
   ·
    rw [if_pos c22] at H
    have c22b0 : decide (0 ≤ x11_1) = true := decide_eq_true c22
    clear c22
    obtain ⟨ji23, hji23⟩ : ∃ j_ : Int, (wrap64 (x11_1 + (t221.length : Int))) = j_ := ⟨_, rfl⟩
    first | rw [hji23] at H | simp only [hji23] at H
    have hji23w : (IntKind.i64.wrap (x11_1 + (t221.length : Int))) = ji23 := (i64_w _).trans hji23
    replace H := uT H; obtain ⟨c24, H⟩ := H
    have c24b0 : decide (0 ≤ (ji23)) = true := decide_eq_true c24
    clear c24
    replace H := uT H; obtain ⟨c25, H⟩ := H
    have c25b0 : decide ((ji23) < (x7_1.length : Int)) = true := decide_eq_true c25
    (try (have c25b0h0 := c25b0; simp only [hl7_1] at c25b0h0))
    (try (have c25b0h1 := c25b0; simp only [hl10_1] at c25b0h1))
    clear c25
    obtain ⟨ji26, hji26⟩ : ∃ j_ : Int, (wrap64 ((ji23) - 1)) = j_ := ⟨_, rfl⟩
    first | rw [hji26] at H | simp only [hji26] at H
    have hji26w : (IntKind.i64.wrap ((ji23) - 1)) = ji26 := (i64_w _).trans hji26
    replace H := uT H; obtain ⟨c27, H⟩ := H
    have c27b0 : decide (0 ≤ (ji26)) = true := decide_eq_true c27
    clear c27
    replace H := uT H; obtain ⟨c28, H⟩ := H
    have c28b0 : decide ((ji26) < (x7_1.length : Int)) = true := decide_eq_true c28
    (try (have c28b0h0 := c28b0; simp only [hl7_1] at c28b0h0))
    (try (have c28b0h1 := c28b0; simp only [hl10_1] at c28b0h1))
    clear c28
    obtain ⟨ji29, hji29⟩ : ∃ j_ : Int, (wrap64 ((ji23) - 2)) = j_ := ⟨_, rfl⟩
    first | rw [hji29] at H | simp only [hji29] at H
    have hji29w : (IntKind.i64.wrap ((ji23) - 2)) = ji29 := (i64_w _).trans hji29
    replace H := uT H; obtain ⟨c30, H⟩ := H
    have c30b0 : decide (0 ≤ (ji29)) = true := decide_eq_true c30
    clear c30
    replace H := uT H; obtain ⟨c31, H⟩ := H
    have c31b0 : decide ((ji29) < (x7_1.length : Int)) = true := decide_eq_true c31
    (try (have c31b0h0 := c31b0; simp only [hl7_1] at c31b0h0))
    (try (have c31b0h1 := c31b0; simp only [hl10_1] at c31b0h1))
    clear c31
    obtain ⟨ji32, hji32⟩ : ∃ j_ : Int, (wrap64 ((t221.length : Int) - 1)) = j_ := ⟨_, rfl⟩
    first | rw [hji32] at H | simp only [hji32] at H
    have hji32w : (IntKind.i64.wrap ((t221.length : Int) - 1)) = ji32 := (i64_w _).trans hji32
    replace H := uT H; obtain ⟨c33, H⟩ := H
    have c33b0 : decide (0 ≤ (ji32)) = true := decide_eq_true c33
    clear c33
    replace H := uT H; obtain ⟨c34, H⟩ := H
    have c34b0 : decide ((ji32) < (t221.length : Int)) = true := decide_eq_true c34
    (try (have c34b0h0 := c34b0; simp only [hl7_1] at c34b0h0))
    (try (have c34b0h1 := c34b0; simp only [hl10_1] at c34b0h1))
    clear c34
    obtain ⟨ji35, hji35⟩ : ∃ j_ : Int, (wrap64 ((t221.length : Int) - 2)) = j_ := ⟨_, rfl⟩
    first | rw [hji35] at H | simp only [hji35] at H
    have hji35w : (IntKind.i64.wrap ((t221.length : Int) - 2)) = ji35 := (i64_w _).trans hji35
    replace H := uT H; obtain ⟨c36, H⟩ := H
    have c36b0 : decide (0 ≤ (ji35)) = true := decide_eq_true c36
    clear c36
    replace H := uT H; obtain ⟨c37, H⟩ := H
    have c37b0 : decide ((ji35) < (t221.length : Int)) = true := decide_eq_true c37
    (try (have c37b0h0 := c37b0; simp only [hl7_1] at c37b0h0))
    (try (have c37b0h1 := c37b0; simp only [hl10_1] at c37b0h1))
    clear c37
    replace H := ub H; obtain ⟨t232, A38, H⟩ := H
    replace H := uT H; obtain ⟨c39, H⟩ := H
    have c39b0 := eq_true c39
    have c39b1 : decide (0 ≤ x11_1) = true := decide_eq_true c39
    clear c39
    replace H := uT H; obtain ⟨c40, H⟩ := H
    have c40b0 := eq_true c40
    have c40b1 : decide (x11_1 ≤ (wrap64 ((ji23) + 1))) = true := decide_eq_true c40
    replace H := uT H; obtain ⟨c41, H⟩ := H
    have c41b0 := eq_true c41
    have c41b1 : decide ((wrap64 ((ji23) + 1)) ≤ (x7_1.length : Int)) = true := decide_eq_true c41
    obtain ⟨y233, hy233⟩ : ∃ y_ : List Int, y_ = ((x7_1.take ((wrap64 ((ji23) + 1)) : Int).toNat).drop (x11_1 : Int).toNat) := ⟨_, rfl⟩
    replace H : (nat_long.l1 k1 (IntKind.u64.wrap (t214)) x7_1 t221 (t221.length : Int) x10_1 x11_1 t232 y233) = some (r1, r2) := by first | (rw [hy233]; with_reducible exact H) | (have H2_ := (Option.bind_some _ _).symm.trans H; rw [hy233]; with_reducible exact H2_) | (have H2_ := (Option.bind_some _ _).symm.trans H; with_reducible exact H2_) | with_reducible exact H | (rw [hy233]; exact H) | exact H
    have Ny233 := Aside0.mk hy233; clear hy233
    have H' := Aside0.mk H
    clear H
    try go_wp2
    replace HO_7 := Aside0.mk (Kd.R_drew HO_7.out); replace HO_8 := Aside0.mk (Kd.R_drew HO_8.out); replace HO_10 := Aside0.mk (Kd.R_drew HO_10.out); replace HB := Aside0.mk (below_drew1 HB.out)
    have p227 : 0 ≤ ((ji23) : Int) := uO
    have q227 : (ji23) < (x7_1.length : Int) := uO
    obtain ⟨ad227, e227, hx227_0⟩ := Kd.at_int (Kd.R_reads' HO_7.out).2.2 (ji23) p227 q227
    cases e227
    replace p227 := eq_true p227
    replace q227 := eq_true q227
    have p228 : 0 ≤ ((ji26) : Int) := uO
    have q228 : (ji26) < (x7_1.length : Int) := uO
    obtain ⟨ad228, e228, hx228_0⟩ := Kd.at_int (Kd.R_reads' HO_7.out).2.2 (ji26) p228 q228
    obtain rfl : ad227 = ad228 := (by injection e228)
    replace p228 := eq_true p228
    replace q228 := eq_true q228
    have p229 : 0 ≤ ((ji29) : Int) := uO
    have q229 : (ji29) < (x7_1.length : Int) := uO
    obtain ⟨ad229, e229, hx229_0⟩ := Kd.at_int (Kd.R_reads' HO_7.out).2.2 (ji29) p229 q229
    obtain rfl : ad227 = ad229 := (by injection e229)
    replace p229 := eq_true p229
    replace q229 := eq_true q229
    have p230 : 0 ≤ ((ji32) : Int) := uO
    have q230 : (ji32) < (t221.length : Int) := uO
    obtain ⟨ad230, e230, hx230_0⟩ := Kd.at_int (Kd.R_reads' HO_8.out).2.2 (ji32) p230 q230
    cases e230
    replace p230 := eq_true p230
    replace q230 := eq_true q230
    have p231 : 0 ≤ ((ji35) : Int) := uO
    have q231 : (ji35) < (t221.length : Int) := uO
    obtain ⟨ad231, e231, hx231_0⟩ := Kd.at_int (Kd.R_reads' HO_8.out).2.2 (ji35) p231 q231
    obtain rfl : ad230 = ad231 := (by injection e231)
    replace p231 := eq_true p231
    replace q231 := eq_true q231
    refine start_ (n := 32) (S := fun w' => w'.cell? (ad227.add ((ji23)).toNat) = some (.int .u64 (rd x7_1 (ji23))) ∧ w'.cell? (ad227.add ((ji26)).toNat) = some (.int .u64 (rd x7_1 (ji26))) ∧ w'.cell? (ad227.add ((ji29)).toNat) = some (.int .u64 (rd x7_1 (ji29))) ∧ w'.cell? (ad230.add ((ji32)).toNat) = some (.int .u64 (rd t221 (ji32))) ∧ w'.cell? (ad230.add ((ji35)).toNat) = some (.int .u64 (rd t221 (ji35)))) (ds := []) (.replicate 32 false) (by kernel_rfl) rfl rfl ⟨hx227_0, hx228_0, hx229_0, hx230_0, hx231_0⟩ (fun hHeld => ?_); refine with_tabW nat_long.tab8 nat_long.bits8 (fun HT_ HW_ => ?_)
    generalize wr.drew = w42 at HO_7 HO_8 HO_10 HB hx227_0 hx228_0 hx229_0 hx230_0 hx231_0 hHeld ⊢
    refine pure_ (i := 0) (N := some 47) (v := ?_) (a' := ?_) (uA 32 1) rfl rfl (any_of HT_.out (by kernel_rfl)) (fun _ _ _ h => h) (Or.inl ⟨by rfl, ?_⟩) ?_ ?_
    rotate_left
    ·
     intro w'
     go_simp
     with_reducible rfl
    rotate_left
    · exact uQ
    refine pure_ (i := 1) (N := some 48) (v := ?_) (a' := ?_) (uA 32 3) rfl rfl (any_of HT_.out (by kernel_rfl)) (fun _ _ _ h => h) (Or.inl ⟨by rfl, ?_⟩) ?_ ?_
    rotate_left
    ·
     intro w'
     go_simp
     with_reducible rfl
    rotate_left
    · exact uQ
    refine pure_ (i := 2) (N := some 49) (v := ?_) (a' := ?_) (uA 32 7) rfl rfl (any_of HT_.out (by kernel_rfl)) (fun _ _ _ h => h) (Or.inl ⟨by rfl, ?_⟩) ?_ ?_
    rotate_left
    ·
     intro w'
     go_simp
     with_reducible rfl
    rotate_left
    · exact uQ
    refine pure_ (i := 3) (N := some 50) (v := ?_) (a' := ?_) (uA 32 15) rfl rfl (any_of HT_.out (by kernel_rfl)) (fun _ _ _ h => h) (Or.inl ⟨by rfl, ?_⟩) ?_ ?_
    rotate_left
    ·
     intro w'
     go_simp
     with_reducible rfl
    rotate_left
    · exact uQ
    refine pure_ (i := 4) (N := some 51) (v := ?_) (a' := ?_) (uA 32 31) rfl rfl (any_of HT_.out (by kernel_rfl)) (fun _ _ _ h => h) (Or.inl ⟨by rfl, ?_⟩) ?_ ?_
    rotate_left
    ·
     intro w'
     go_simp
     with_reducible rfl
    rotate_left
    · exact uQ
    refine pure_ (i := 6) (N := some 53) (v := ?_) (a' := ?_) (uA 32 95) rfl rfl (any_of HT_.out (by kernel_rfl)) (fun _ _ _ h => h) (Or.inl ⟨by rfl, ?_⟩) ?_ ?_
    rotate_left
    ·
     intro w'
     go_simp
     with_reducible rfl
    rotate_left
    · exact uQ
    refine pure_ (i := 7) (N := some 54) (v := ?_) (a' := ?_) (uA 32 223) rfl rfl (any_of HT_.out (by kernel_rfl)) (fun _ _ _ h => h) (Or.inl ⟨by rfl, ?_⟩) ?_ ?_
    rotate_left
    ·
     intro w'
     go_simp
     with_reducible rfl
    rotate_left
    · exact uQ
    refine pure_ (i := 8) (N := some 55) (v := ?_) (a' := ?_) (uA 32 479) rfl rfl (any_of HT_.out (by kernel_rfl)) (fun _ _ _ h => h) (Or.inl ⟨by rfl, ?_⟩) ?_ ?_
    rotate_left
    ·
     intro w'
     go_simp
     with_reducible rfl
    rotate_left
    · exact uQ
    refine pure_ (i := 9) (N := some 56) (v := ?_) (a' := ?_) (uA 32 991) rfl rfl (any_of HT_.out (by kernel_rfl)) (fun _ _ _ h => h) (Or.inl ⟨by rfl, ?_⟩) ?_ ?_
    rotate_left
    ·
     intro w'
     go_simp
     with_reducible rfl
    rotate_left
    · exact uQ
    refine pure_ (i := 10) (N := some 57) (v := ?_) (a' := ?_) (uA 32 2015) rfl rfl (any_of HT_.out (by kernel_rfl)) (fun _ _ _ h => h) (Or.inl ⟨by rfl, ?_⟩) ?_ ?_
    rotate_left
    ·
     intro w'
     go_simp
     with_reducible rfl
    rotate_left
    · exact uQ
    refine pure_ (i := 11) (N := some 58) (v := ?_) (a' := ?_) (uA 32 4063) rfl rfl (any_of HT_.out (by kernel_rfl)) (fun _ _ _ h => h) (Or.inl ⟨by rfl, ?_⟩) ?_ ?_
    rotate_left
    ·
     intro w'
     go_simp
     with_reducible rfl
    rotate_left
    · exact uQ
    refine pure_ (i := 13) (N := some 60) (v := ?_) (a' := ?_) (uA 32 12255) rfl rfl (any_of HT_.out (by kernel_rfl)) (fun _ _ _ h => h) (Or.inl ⟨by rfl, ?_⟩) ?_ ?_
    rotate_left
    ·
     intro w'
     go_simp
     with_reducible rfl
    rotate_left
    · exact uQ
    refine pure_ (i := 14) (N := some 61) (v := ?_) (a' := ?_) (uA 32 28639) rfl rfl (any_of HT_.out (by kernel_rfl)) (fun _ _ _ h => h) (Or.inl ⟨by rfl, ?_⟩) ?_ ?_
    rotate_left
    ·
     intro w'
     go_simp
     with_reducible rfl
    rotate_left
    · exact uQ
    refine pure_ (i := 15) (N := some 62) (v := ?_) (a' := ?_) (uA 32 61407) rfl rfl (any_of HT_.out (by kernel_rfl)) (fun _ _ _ h => h) (Or.inl ⟨by rfl, ?_⟩) ?_ ?_
    rotate_left
    ·
     intro w'
     go_simp
     with_reducible rfl
    rotate_left
    · exact uQ
    refine pure_ (i := 16) (N := some 63) (v := ?_) (a' := ?_) (uA 32 126943) rfl rfl (any_of HT_.out (by kernel_rfl)) (fun _ _ _ h => h) (Or.inl ⟨by rfl, ?_⟩) ?_ ?_
    rotate_left
    ·
     intro w'
     go_simp
     with_reducible rfl
    rotate_left
    · exact uQ
    refine pure_ (i := 17) (N := some 64) (v := ?_) (a' := ?_) (uA 32 258015) rfl rfl (any_of HT_.out (by kernel_rfl)) (fun _ _ _ h => h) (Or.inl ⟨by rfl, ?_⟩) ?_ ?_
    rotate_left
    ·
     intro w'
     go_simp
     with_reducible rfl
    rotate_left
    · exact uQ
    refine pure_ (i := 18) (N := some 65) (v := ?_) (a' := ?_) (uA 32 520159) rfl rfl (any_of HT_.out (by kernel_rfl)) (fun _ _ _ h => h) (Or.inl ⟨by rfl, ?_⟩) ?_ ?_
    rotate_left
    ·
     intro w'
     go_simp
     with_reducible rfl
    rotate_left
    · exact uQ
    refine pure_ (i := 20) (N := some 67) (v := ?_) (a' := ?_) (uA 32 1568735) rfl rfl (any_of HT_.out (by kernel_rfl)) (fun _ _ _ h => h) (Or.inl ⟨by rfl, ?_⟩) ?_ ?_
    rotate_left
    ·
     intro w'
     go_simp
     with_reducible rfl
    rotate_left
    · exact uQ
    refine pure_ (i := 21) (N := some 68) (v := ?_) (a' := ?_) (uA 32 3665887) rfl rfl (any_of HT_.out (by kernel_rfl)) (fun _ _ _ h => h) (Or.inl ⟨by rfl, ?_⟩) ?_ ?_
    rotate_left
    ·
     intro w'
     go_simp
     with_reducible rfl
    rotate_left
    · exact uQ
    refine pure_ (i := 22) (N := some 69) (v := ?_) (a' := ?_) (uA 32 7860191) rfl rfl (any_of HT_.out (by kernel_rfl)) (fun _ _ _ h => h) (Or.inl ⟨by rfl, ?_⟩) ?_ ?_
    rotate_left
    ·
     intro w'
     go_simp
     with_reducible rfl
    rotate_left
    · exact uQ
    refine pure_ (i := 23) (N := some 70) (v := ?_) (a' := ?_) (uA 32 16248799) rfl rfl (any_of HT_.out (by kernel_rfl)) (fun _ _ _ h => h) (Or.inl ⟨by rfl, ?_⟩) ?_ ?_
    rotate_left
    ·
     intro w'
     go_simp
     with_reducible rfl
    rotate_left
    · exact uQ
    refine pure_ (i := 25) (N := some 72) (v := ?_) (a' := ?_) (uA 32 49803231) rfl rfl (any_of HT_.out (by kernel_rfl)) (fun _ _ _ h => h) (Or.inl ⟨by rfl, ?_⟩) ?_ ?_
    rotate_left
    ·
     intro w'
     go_simp
     with_reducible rfl
    rotate_left
    · exact uQ
    refine pure_ (i := 26) (N := some 73) (v := ?_) (a' := ?_) (uA 32 116912095) rfl rfl (any_of HT_.out (by kernel_rfl)) (fun _ _ _ h => h) (Or.inl ⟨by rfl, ?_⟩) ?_ ?_
    rotate_left
    ·
     intro w'
     go_simp
     with_reducible rfl
    rotate_left
    · exact uQ
    refine pure_ (i := 27) (N := some 74) (v := ?_) (a' := ?_) (uA 32 251129823) rfl rfl (any_of HT_.out (by kernel_rfl)) (fun _ _ _ h => h) (Or.inl ⟨by rfl, ?_⟩) ?_ ?_
    rotate_left
    ·
     intro w'
     go_simp
     with_reducible rfl
    rotate_left
    · exact uQ
    refine pure_ (i := 28) (N := some 75) (v := ?_) (a' := ?_) (uA 32 519565279) rfl rfl (any_of HT_.out (by kernel_rfl)) (fun _ _ _ h => h) (Or.inl ⟨by rfl, ?_⟩) ?_ ?_
    rotate_left
    ·
     intro w'
     go_simp
     with_reducible rfl
    rotate_left
    · exact uQ
    refine take_ (i := 5) (N := some 52) (v := ?_) (a' := ?_) (uA 32 519565311) rfl rfl (take_ofW HT_.out HW_.out (by kernel_rfl)) (fun _ _ _ h => h) (Or.inl ⟨by rfl, ?_⟩) hHeld ?_ ?_
    rotate_left
    ·
     rintro w' ⟨s0, s1, s2, s3, s4⟩
     go_simp
     with_reducible rfl
    rotate_left
    · exact uQ
    refine take_ (i := 12) (N := some 59) (v := ?_) (a' := ?_) (uA 32 519569407) rfl rfl (take_ofW HT_.out HW_.out (by kernel_rfl)) (fun _ _ _ h => h) (Or.inl ⟨by rfl, ?_⟩) hHeld ?_ ?_
    rotate_left
    ·
     rintro w' ⟨s0, s1, s2, s3, s4⟩
     go_simp
     with_reducible rfl
    rotate_left
    · exact uQ
    refine take_ (i := 19) (N := some 66) (v := ?_) (a' := ?_) (uA 32 520093695) rfl rfl (take_ofW HT_.out HW_.out (by kernel_rfl)) (fun _ _ _ h => h) (Or.inl ⟨by rfl, ?_⟩) hHeld ?_ ?_
    rotate_left
    ·
     rintro w' ⟨s0, s1, s2, s3, s4⟩
     go_simp
     with_reducible rfl
    rotate_left
    · exact uQ
    refine take_ (i := 24) (N := some 71) (v := ?_) (a' := ?_) (uA 32 536870911) rfl rfl (take_ofW HT_.out HW_.out (by kernel_rfl)) (fun _ _ _ h => h) (Or.inl ⟨by rfl, ?_⟩) hHeld ?_ ?_
    rotate_left
    ·
     rintro w' ⟨s0, s1, s2, s3, s4⟩
     go_simp
     with_reducible rfl
    rotate_left
    · exact uQ
    refine take_ (i := 29) (N := some 76) (v := ?_) (a' := ?_) (uA 32 1073741823) rfl rfl (take_ofW HT_.out HW_.out (by kernel_rfl)) (fun _ _ _ h => h) (Or.inl ⟨by rfl, ?_⟩) hHeld ?_ ?_
    rotate_left
    ·
     rintro w' ⟨s0, s1, s2, s3, s4⟩
     go_simp
     with_reducible rfl
    rotate_left
    · exact uQ
    refine one_ (i := 30) (N := some 77) (uA 32 2147483647) rfl rfl (one_of HT_.out (by kernel_rfl)) (by decide) (fun K hK => ?_)
    refine goes_ Try.func143 (by kernel_rfl) rfl #[.int .u64 (rd x7_1 (ji23)), .int .u64 (rd x7_1 (ji26)), .int .u64 (rd x7_1 (ji29)), .int .u64 (rd t221 (ji32)), .int .u64 (rd t221 (ji35))] (by rfl) rfl rfl (by (try simp only [List.map_toArray, List.map_cons, List.map_nil]); first | done | (simp only [hji23, hji26, hji29, hji32, hji35]; rfl) | rfl | (simp only [List.length_drop, List.length_take]; rfl)) ?_
    with_reducible refine (nat_guess.calls k1 (rd x7_1 (ji23)) (rd x7_1 (ji26)) (rd x7_1 (ji29)) (rd t221 (ji32)) (rd t221 (ji35)) t232 _ A38.out).mono ?_
    rintro e w' ⟨rfl, ⟨nd, rfl⟩⟩
    refine ⟨_, rfl, ?_⟩; refine hK.out _ _ ⟨hHeld.1, hHeld.2.1, hHeld.2.2.1, hHeld.2.2.2.1, hHeld.2.2.2.2⟩ (fun hHeld => ?_); clear hK K; refine norm_ (a' := ?_) ?_ ?_; rotate_left
    · exact (show Act.put _ (some 77) _ = _ from uQ)
    refine pure_ (i := 31) (N := some 12) (v := ?_) (a' := ?_) (uA 32 4294967295) rfl rfl (any_of HT_.out (by kernel_rfl)) (fun _ _ _ h => h) (Or.inl ⟨by rfl, ?_⟩) ?_ ?_
    rotate_left
    ·
     intro w'
     go_simp
     with_reducible rfl
    rotate_left
    · exact uQ
    refine done_ (done_of HT_.out (by kernel_rfl)) ?_
    have q43 : ((wrap64 ((ji23) + 1)) : Int) ≤ ((x7_1.length : Int) : Int) := uO
    obtain ⟨i043, hi043, _, hsz43, _⟩ := info_parts info30
    have hroom43 : x7_1.length ≤ co18 := (Kd.R_reads' HO_7.out).2.1
    have hC43 : Kd.C (Kd.int .u64) _ (some ad227) x7_1.length x7_1 := (Kd.R_reads' HO_7.out).2.2
    have ql43 : (x11_1 : Int) ≤ ((wrap64 ((ji23) + 1)) : Int) := uO
    have q043 : (0 : Int) ≤ (x11_1 : Int) := uO
    have hcut43 := cut_mid (P := Try.prog) 40 30 .i64 .i64 Try.underlying40 hi043 1 hsz43 (some ad227) x7_1.length co18 x11_1 (wrap64 ((ji23) + 1)) q043 ql43 q43 hroom43
    have hr43 := Kd.C_mid (lo := (x11_1 : Int).toNat) (hi := ((wrap64 ((ji23) + 1)) : Int).toNat) (c := co18) hC43 (by omega) (by omega) hroom43
    obtain ⟨A43, hA43⟩ : ∃ A1, A1 = (if co18 = (x11_1 : Int).toNat then (some ad227) else ((some ad227) : Option Addr).map (·.add ((x11_1 : Int).toNat * 1))) := ⟨_, rfl⟩
    obtain ⟨c43, hc43⟩ : ∃ c1, c1 = co18 - (x11_1 : Int).toNat := ⟨_, rfl⟩
    have hy43 : y233.length = ((wrap64 ((ji23) + 1)) : Int).toNat - (x11_1 : Int).toNat := (by rw [Ny233.out, List.length_drop, List.length_take] <;> omega)
    rw [show ((x7_1).take ((wrap64 ((ji23) + 1)) : Int).toNat).drop (x11_1 : Int).toNat = y233 from Ny233.out.symm] at hr43
    replace hr43 : Kd.C (Kd.int .u64) _ A43 y233.length y233 := (by rw [hA43]; exact hr43)
    rw [← hy43, ← hA43, ← hc43] at hcut43
    have HR236 := Aside0.mk hr43
    have HC236 := Aside0.mk (show y233.length ≤ c43 from by rw [hy43, hc43]; exact Nat.sub_le_sub_right (Nat.le_trans (by omega) hroom43) _)
    clear hr43 hC43 hroom43 hi043 hsz43 hc43; have KY43 := Aside0.mk hy43; have KA43 := Aside0.mk hA43; clear hy43 hA43
    have KL43 := Aside0.mk (show ((wrap64 ((ji23) + 1)) : Int).toNat ≤ x7_1.length from by omega)
    have KM43 := Aside0.mk (show (x11_1 : Int).toNat ≤ ((wrap64 ((ji23) + 1)) : Int).toNat from by omega)
    replace q43 := eq_true q43
    try go_wp2
    go_loopg [12] k1 (fun kq v12 w' => ∃ (x12_2 : Int), v12 = .int .u64 x12_2 ∧ Aside0 (nat_long.l1 kq (IntKind.u64.wrap (t214)) x7_1 t221 (t221.length : Int) x10_1 x11_1 x12_2 y233 = some (r1, r2)) ∧ Aside0 (kq ≤ k1) ∧ Aside0 (Kd.R (Kd.int .u64) 30 w' w.heap.size (fun k_ => some k_ ≠ ((.slice (some ad230) t221.length co17) : Value).ownBlock ∧ some k_ ≠ ((.slice Ao21 x10_1.length co21) : Value).ownBlock) (.slice (some ad227) x7_1.length co18) x7_1) ∧ Aside0 (Kd.R (Kd.int .u64) 30 w' w.heap.size (fun k_ => some k_ ≠ ((.slice (some ad227) x7_1.length co18) : Value).ownBlock ∧ some k_ ≠ ((.slice Ao21 x10_1.length co21) : Value).ownBlock) (.slice (some ad230) t221.length co17) t221) ∧ Aside0 (Kd.R (Kd.int .u64) 30 w' w.heap.size (fun k_ => some k_ ≠ ((.slice (some ad227) x7_1.length co18) : Value).ownBlock ∧ some k_ ≠ ((.slice (some ad230) t221.length co17) : Value).ownBlock) (.slice Ao21 x10_1.length co21) x10_1) ∧ Aside0 (Kd.C (Kd.int .u64) w' A43 y233.length y233) ∧ Aside0 (Below w.heap.size w w'))
    case atStart => exact ⟨(t232), uG, H', ⟨Nat.le_refl _⟩, ⟨by (try simp only [hl7_1]); (try simp only [hl10_1]); (with_reducible repeat (first | apply Kd.R_alloc | apply Kd.R_drewN | apply Kd.R_drew)); exact HO_7.out⟩, ⟨by (try simp only [hl7_1]); (try simp only [hl10_1]); (with_reducible repeat (first | apply Kd.R_alloc | apply Kd.R_drewN | apply Kd.R_drew)); exact HO_8.out⟩, ⟨by (try simp only [hl7_1]); (try simp only [hl10_1]); (with_reducible repeat (first | apply Kd.R_alloc | apply Kd.R_drewN | apply Kd.R_drew)); exact HO_10.out⟩, ⟨by repeat (first | (with_reducible exact HR236.out) | (with_reducible refine Kd.C_alloc ?_ _) | (with_reducible refine Kd.C_drewN ?_ _) | (with_reducible refine Kd.C_drew ?_) | exact HR236.out)⟩, ⟨uB⟩⟩
    case round =>
     clear H'
     (try clear c1); (try clear c2); (try clear p2 p2); (try clear q2 q2); (try clear hx2); (try clear c3); (try clear c4); (try clear c4b0); (try clear q4); (try clear c5); (try clear c5b0); (try clear p6 p6); (try clear c9); (try clear c11); (try clear c11b0); (try clear c11b1); (try clear c12); (try clear c12b0); (try clear c12b1); (try clear c13); (try clear c14); (try clear p21 p21); (try clear q21 q21); (try clear hx21); (try clear c22); (try clear c22b0); (try clear p22); (try clear q22); (try clear hx22); (try clear p23); (try clear q23); (try clear hx23); (try clear c24); (try clear c24b0); (try clear c25); (try clear c25b0); (try clear c27); (try clear c27b0); (try clear c28); (try clear c28b0); (try clear c30); (try clear c30b0); (try clear c31); (try clear c31b0); (try clear c33); (try clear c33b0); (try clear c34); (try clear c34b0); (try clear c36); (try clear c36b0); (try clear c37); (try clear c37b0); (try clear c39); (try clear c39b0); (try clear c39b1); (try clear c40); (try clear c40b0); (try clear c40b1); (try clear c41); (try clear c41b0); (try clear c41b1); (try clear c43); (try clear q43 q43); (try clear hx213_0); (try clear hx227_0); (try clear hx228_0); (try clear hx229_0); (try clear hx230_0); (try clear hx231_0); (try clear p213); (try clear p227); (try clear p228); (try clear p229); (try clear p230); (try clear p231); (try clear q043); (try clear q213); (try clear q227); (try clear q228); (try clear q229); (try clear q230); (try clear q231)
     obtain ⟨x12_2, rfl, HA, HK2, HO_7, HO_8, HO_10, HR236, HB⟩ := hrel
     cases gk with
     | zero => exact absurd HA.out (by simp [nat_long.l1])
     | succ k2 =>
      have H := HA.out
      clear HA
      simp only [nat_long.l1] at H
      replace H := ub H; obtain ⟨t237, A44, H⟩ := H
      replace H := ub H; obtain ⟨t240, A45, H⟩ := H
      replace H := ub H; obtain ⟨t243, A46, H⟩ := H
      replace H := ub H; obtain ⟨t246, A47, H⟩ := H
      replace H := ub H; obtain ⟨t249, A48, H⟩ := H
      by_cases c49 : t249 ≥ 0
      ·
       rw [if_pos c49] at H
       have c49b0 : decide (0 ≤ t249) = true := decide_eq_true c49
       clear c49
       replace H := ub H; obtain ⟨t250, A50, H⟩ := H
       replace H := uT H; obtain ⟨c51, H⟩ := H
       have c51b0 := eq_true c51
       have c51b1 : decide (t250.length = y233.length) = true := decide_eq_true c51
       clear c51
       obtain ⟨y253, hy253⟩ : ∃ y_ : List Int, y_ = (x7_1.take (x11_1 : Int).toNat ++ (t250 ++ x7_1.drop ((x11_1 : Int).toNat + y233.length))) := ⟨_, rfl⟩
       replace H : (if 0 ≤ x11_1 then (if x11_1 < (x10_1.length : Int) then (nat_long.l0 k2 (IntKind.u64.wrap (t214)) y253 t221 (t221.length : Int) (x10_1.set (x11_1 : Int).toNat x12_2) (wrap64 (x11_1 - 1))) else (none)) else (none)) = some (r1, r2) := by first | (rw [hy253]; with_reducible exact H) | (have H2_ := (Option.bind_some _ _).symm.trans H; rw [hy253]; with_reducible exact H2_) | (have H2_ := (Option.bind_some _ _).symm.trans H; with_reducible exact H2_) | with_reducible exact H | (rw [hy253]; exact H) | exact H
       have Ny253 := Aside0.mk hy253; clear hy253
       replace H := uT H; obtain ⟨c52, H⟩ := H
       have c52b0 : decide (0 ≤ x11_1) = true := decide_eq_true c52
       clear c52
       replace H := uT H; obtain ⟨c53, H⟩ := H
       have c53b0 : decide (x11_1 < (x10_1.length : Int)) = true := decide_eq_true c53
       (try (have c53b0h0 := c53b0; simp only [hl7_1] at c53b0h0))
       (try (have c53b0h1 := c53b0; simp only [hl10_1] at c53b0h1))
       clear c53
       obtain ⟨y254, hy254⟩ : ∃ y_ : List Int, y_ = (x10_1.set (x11_1 : Int).toNat x12_2) := ⟨_, rfl⟩
       replace H : (nat_long.l0 k2 (IntKind.u64.wrap (t214)) y253 t221 (t221.length : Int) y254 (wrap64 (x11_1 - 1))) = some (r1, r2) := by first | (rw [hy254]; with_reducible exact H) | (have H2_ := (Option.bind_some _ _).symm.trans H; rw [hy254]; with_reducible exact H2_) | (have H2_ := (Option.bind_some _ _).symm.trans H; with_reducible exact H2_) | with_reducible exact H | (rw [hy254]; exact H) | exact H
       have Ny254 := Aside0.mk hy254; clear hy254
       have H' := Aside0.mk H
       clear H
       go_wp2_with (first | ((with_reducible refine gate_callee (f := 94) rfl ?_); refine goesL_ (some 87) rfl rfl Try.func94 (by kernel_rfl) rfl #[.int .u64 x12_2] rfl uM ?_; (with_reducible refine (nat_Of.calls k2 x12_2 t237 _ A44.out).mono ?_); rintro e w55 ⟨v238, rfl, ho0, hb⟩; refine ⟨_, rfl, ?_⟩; have HO239 := Aside0.mk (Kd.R_lower (Kd.R_new' (Kd.R_new' (Kd.R_new' ho0 (Kd.R_lt (uR HO_7.out))) (Kd.R_lt (uR HO_8.out))) (Kd.R_lt (uR HO_10.out))) (below_size uB)); replace HO_7 := ueR HO_7 ho0 hb; replace HO_8 := ueR HO_8 ho0 hb; replace HO_10 := ueR HO_10 ho0 hb; replace HR236 := Aside0.mk (Kd.C_below (by repeat (first | (with_reducible exact HR236.out) | (with_reducible refine Kd.C_alloc ?_ _) | (with_reducible refine Kd.C_drewN ?_ _) | (with_reducible refine Kd.C_drew ?_) | exact HR236.out)) hb); replace HB := uy hb; (try clear hb); (try clear hb2); (try clear hk); (try clear hi); (try clear ho0); obtain ⟨Ao56, co56, eo56⟩ := Kd.R_slice HO239.out; subst eo56) | ((with_reducible refine gate_callee (f := 136) rfl ?_); refine goesL_ (some 88) rfl rfl Try.func136 (by kernel_rfl) rfl #[.slice (some ad230) t221.length co17, .slice Ao56 t237.length co56] rfl uM ?_; (with_reducible refine (nat_school.calls k2 _ _ t221 _ _ t237 t240 _ ?side1 ?side2 ?side3 ?side4 A45.out).mono ?_); (case side1 => exact uC (Kd.R_reads' HO_8.out).2.2); (case side2 => exact (Kd.R_reads' HO_8.out).2.1); (case side3 => exact uC (Kd.R_reads' HO239.out).2.2); (case side4 => exact (Kd.R_reads' HO239.out).2.1); rintro e w57 ⟨v241, rfl, ho0, hb⟩; refine ⟨_, rfl, ?_⟩; have HO242 := Aside0.mk (Kd.R_lower (Kd.R_new' (Kd.R_new' (Kd.R_new' (Kd.R_new' ho0 (Kd.R_lt (uR HO_7.out))) (Kd.R_lt (uR HO_8.out))) (Kd.R_lt (uR HO_10.out))) (Kd.R_lt (uR HO239.out))) (below_size uB)); replace HO_7 := ueR HO_7 ho0 hb; replace HO_8 := ueR HO_8 ho0 hb; replace HO_10 := ueR HO_10 ho0 hb; replace HO239 := ueR HO239 ho0 hb; replace HR236 := Aside0.mk (Kd.C_below (by repeat (first | (with_reducible exact HR236.out) | (with_reducible refine Kd.C_alloc ?_ _) | (with_reducible refine Kd.C_drewN ?_ _) | (with_reducible refine Kd.C_drew ?_) | exact HR236.out)) hb); replace HB := uy hb; (try clear hb); (try clear hb2); (try clear hk); (try clear hi); (try clear ho0)) | ((with_reducible refine gate_callee (f := 78) rfl ?_); refine goesL_ (some 90) rfl rfl Try.func78 (by kernel_rfl) rfl #[.slice A43 y233.length c43] rfl uM ?_; (with_reducible refine (api_Nat_uint64.calls _ _ y233 t243 _ ?side1 ?side2 A46.out).mono ?_); (case side1 => repeat (first | exact (by repeat (first | (with_reducible exact HR236.out) | (with_reducible refine Kd.C_alloc ?_ _) | (with_reducible refine Kd.C_drewN ?_ _) | (with_reducible refine Kd.C_drew ?_) | exact HR236.out)) | (with_reducible refine Kd.C_alloc ?_ _) | (with_reducible refine Kd.C_drewN ?_ _) | (with_reducible refine Kd.C_drew ?_))); (case side2 => exact HC236.out); rintro e w58 ⟨v244, rfl, ho0, hb⟩; refine ⟨_, rfl, ?_⟩; have HO245 := Aside0.mk (Kd.R_lower (Kd.R_new' (Kd.R_new' (Kd.R_new' (Kd.R_new' (Kd.R_new' ho0 (Kd.R_lt (uR HO_7.out))) (Kd.R_lt (uR HO_8.out))) (Kd.R_lt (uR HO_10.out))) (Kd.R_lt (uR HO239.out))) (Kd.R_lt (uR HO242.out))) (below_size uB)); replace HO_7 := ueR HO_7 ho0 hb; replace HO_8 := ueR HO_8 ho0 hb; replace HO_10 := ueR HO_10 ho0 hb; replace HO239 := ueR HO239 ho0 hb; replace HO242 := ueR HO242 ho0 hb; replace HR236 := Aside0.mk (Kd.C_below (by repeat (first | (with_reducible exact HR236.out) | (with_reducible refine Kd.C_alloc ?_ _) | (with_reducible refine Kd.C_drewN ?_ _) | (with_reducible refine Kd.C_drew ?_) | exact HR236.out)) hb); replace HB := uy hb; (try clear hb); (try clear hb2); (try clear hk); (try clear hi); (try clear ho0); obtain ⟨Ao59, co59, eo59⟩ := Kd.R_slice HO245.out; subst eo59) | ((with_reducible refine gate_callee (f := 133) rfl ?_); refine goesL_ (some 91) rfl rfl Try.func133 (by kernel_rfl) rfl #[.slice Ao59 t243.length co59] rfl uM ?_; (with_reducible refine (nat_trim.calls k2 (fun k_ => some k_ = (.slice Ao59 t243.length co59 : Value).ownBlock) (.slice Ao59 t243.length co59) t243 t246 w _ ?side1 ?side2 A47.out).mono ?_); (case side1 => repeat (first | (with_reducible first | exact HB.out | apply below_alloc | apply pw_below_drewN | apply below_drew1) | exact HB.out)); (case side2 => exact Kd.R_tight rfl HO245.out); rintro e w60 ⟨v247, rfl, ho0, hb, hkp⟩; refine ⟨_, rfl, ?_⟩; have HO248 := Aside0.mk (Kd.R_mono (ok' := fun k_ => some k_ ≠ (.slice (some ad227) x7_1.length co18 : Value).ownBlock ∧ some k_ ≠ (.slice (some ad230) t221.length co17 : Value).ownBlock ∧ some k_ ≠ (.slice Ao21 x10_1.length co21 : Value).ownBlock ∧ some k_ ≠ (.slice Ao56 t237.length co56 : Value).ownBlock ∧ some k_ ≠ (v241 : Value).ownBlock) ho0 (fun k_ hk_ => ⟨Or.elim hk_ (fun hs_ => fun e_ => (((HO_7.out).1 k_ e_.symm).2) hs_) (fun hn_ => (Kd.fresh' (Kd.R_lt (uR HO_7.out)) k_ hn_)), Or.elim hk_ (fun hs_ => fun e_ => (((HO_8.out).1 k_ e_.symm).2) hs_) (fun hn_ => (Kd.fresh' (Kd.R_lt (uR HO_8.out)) k_ hn_)), Or.elim hk_ (fun hs_ => fun e_ => (((HO_10.out).1 k_ e_.symm).2) hs_) (fun hn_ => (Kd.fresh' (Kd.R_lt (uR HO_10.out)) k_ hn_)), Or.elim hk_ (fun hs_ => fun e_ => (((HO239.out).1 k_ e_.symm).2) hs_) (fun hn_ => (Kd.fresh' (Kd.R_lt (uR HO239.out)) k_ hn_)), Or.elim hk_ (fun hs_ => fun e_ => (((HO242.out).1 k_ e_.symm).2) hs_) (fun hn_ => (Kd.fresh' (Kd.R_lt (uR HO242.out)) k_ hn_))⟩)); replace HO_8 := Aside0.mk (Kd.R_mono (ok' := fun k_ => some k_ ≠ (.slice (some ad227) x7_1.length co18 : Value).ownBlock ∧ some k_ ≠ (.slice Ao21 x10_1.length co21 : Value).ownBlock ∧ some k_ ≠ (.slice Ao56 t237.length co56 : Value).ownBlock ∧ some k_ ≠ (v241 : Value).ownBlock ∧ some k_ ≠ (v247 : Value).ownBlock) (Kd.R_keptB (HO_8.out) hkp (fun k_ hk_ hs_ => (hk_.2) hs_)) (fun k_ hk_ => ⟨hk_.1.1.1.1.1, hk_.1.1.1.1.2, hk_.1.1.1.2, hk_.1.1.2, fun e_ => Or.elim (ho0.1 k_ e_.symm) (fun hs_ => hk_.2.1 hs_) (fun hn_ => Nat.not_le.2 hk_.2.2 hn_)⟩)); replace HO_10 := Aside0.mk (Kd.R_mono (ok' := fun k_ => some k_ ≠ (.slice (some ad227) x7_1.length co18 : Value).ownBlock ∧ some k_ ≠ (.slice (some ad230) t221.length co17 : Value).ownBlock ∧ some k_ ≠ (.slice Ao56 t237.length co56 : Value).ownBlock ∧ some k_ ≠ (v241 : Value).ownBlock ∧ some k_ ≠ (v247 : Value).ownBlock) (Kd.R_keptB (HO_10.out) hkp (fun k_ hk_ hs_ => (hk_.2) hs_)) (fun k_ hk_ => ⟨hk_.1.1.1.1.1, hk_.1.1.1.1.2, hk_.1.1.1.2, hk_.1.1.2, fun e_ => Or.elim (ho0.1 k_ e_.symm) (fun hs_ => hk_.2.1 hs_) (fun hn_ => Nat.not_le.2 hk_.2.2 hn_)⟩)); replace HO239 := Aside0.mk (Kd.R_mono (ok' := fun k_ => some k_ ≠ (.slice (some ad227) x7_1.length co18 : Value).ownBlock ∧ some k_ ≠ (.slice (some ad230) t221.length co17 : Value).ownBlock ∧ some k_ ≠ (.slice Ao21 x10_1.length co21 : Value).ownBlock ∧ some k_ ≠ (v241 : Value).ownBlock ∧ some k_ ≠ (v247 : Value).ownBlock) (Kd.R_keptB (HO239.out) hkp (fun k_ hk_ hs_ => (hk_.2) hs_)) (fun k_ hk_ => ⟨hk_.1.1.1.1.1.2, hk_.1.1.1.1.2, hk_.1.1.1.2, hk_.1.1.2, fun e_ => Or.elim (ho0.1 k_ e_.symm) (fun hs_ => hk_.2.1 hs_) (fun hn_ => Nat.not_le.2 hk_.2.2 hn_)⟩)); replace HO242 := Aside0.mk (Kd.R_mono (ok' := fun k_ => some k_ ≠ (.slice (some ad227) x7_1.length co18 : Value).ownBlock ∧ some k_ ≠ (.slice (some ad230) t221.length co17 : Value).ownBlock ∧ some k_ ≠ (.slice Ao21 x10_1.length co21 : Value).ownBlock ∧ some k_ ≠ (.slice Ao56 t237.length co56 : Value).ownBlock ∧ some k_ ≠ (v247 : Value).ownBlock) (Kd.R_keptB (HO242.out) hkp (fun k_ hk_ hs_ => (hk_.2) hs_)) (fun k_ hk_ => ⟨hk_.1.1.1.1.1.2, hk_.1.1.1.1.2, hk_.1.1.1.2, hk_.1.1.2, fun e_ => Or.elim (ho0.1 k_ e_.symm) (fun hs_ => hk_.2.1 hs_) (fun hn_ => Nat.not_le.2 hk_.2.2 hn_)⟩)); replace HR236 := Aside0.mk ((show Kd.C (Kd.int .u64) w60 A43 y233.length y233 from by rw [Ny233.out, KA43.out]; exact Kd.C_mid (lo := (x11_1 : Int).toNat) (hi := ((wrap64 ((ji23) + 1)) : Int).toNat) (c := co18) ((Kd.R_reads' (Kd.R_mono (ok' := fun k_ => some k_ ≠ (.slice (some ad230) t221.length co17 : Value).ownBlock ∧ some k_ ≠ (.slice Ao21 x10_1.length co21 : Value).ownBlock ∧ some k_ ≠ (.slice Ao56 t237.length co56 : Value).ownBlock ∧ some k_ ≠ (v241 : Value).ownBlock ∧ some k_ ≠ (v247 : Value).ownBlock) (Kd.R_keptB (HO_7.out) hkp (fun k_ hk_ hs_ => (hk_.2) hs_)) (fun k_ hk_ => ⟨hk_.1.1.1.1.1, hk_.1.1.1.1.2, hk_.1.1.1.2, hk_.1.1.2, fun e_ => Or.elim (ho0.1 k_ e_.symm) (fun hs_ => hk_.2.1 hs_) (fun hn_ => Nat.not_le.2 hk_.2.2 hn_)⟩))).2.2) KM43.out KL43.out ((Kd.R_reads' (Kd.R_mono (ok' := fun k_ => some k_ ≠ (.slice (some ad230) t221.length co17 : Value).ownBlock ∧ some k_ ≠ (.slice Ao21 x10_1.length co21 : Value).ownBlock ∧ some k_ ≠ (.slice Ao56 t237.length co56 : Value).ownBlock ∧ some k_ ≠ (v241 : Value).ownBlock ∧ some k_ ≠ (v247 : Value).ownBlock) (Kd.R_keptB (HO_7.out) hkp (fun k_ hk_ hs_ => (hk_.2) hs_)) (fun k_ hk_ => ⟨hk_.1.1.1.1.1, hk_.1.1.1.1.2, hk_.1.1.1.2, hk_.1.1.2, fun e_ => Or.elim (ho0.1 k_ e_.symm) (fun hs_ => hk_.2.1 hs_) (fun hn_ => Nat.not_le.2 hk_.2.2 hn_)⟩))).2.1))); replace HO_7 := Aside0.mk (Kd.R_mono (ok' := fun k_ => some k_ ≠ (.slice (some ad230) t221.length co17 : Value).ownBlock ∧ some k_ ≠ (.slice Ao21 x10_1.length co21 : Value).ownBlock ∧ some k_ ≠ (.slice Ao56 t237.length co56 : Value).ownBlock ∧ some k_ ≠ (v241 : Value).ownBlock ∧ some k_ ≠ (v247 : Value).ownBlock) (Kd.R_keptB (HO_7.out) hkp (fun k_ hk_ hs_ => (hk_.2) hs_)) (fun k_ hk_ => ⟨hk_.1.1.1.1.1, hk_.1.1.1.1.2, hk_.1.1.1.2, hk_.1.1.2, fun e_ => Or.elim (ho0.1 k_ e_.symm) (fun hs_ => hk_.2.1 hs_) (fun hn_ => Nat.not_le.2 hk_.2.2 hn_)⟩)); replace HB := Aside0.mk (hb); clear HO245; (try clear hb); (try clear hkp); (try clear ho0); obtain ⟨Ao61, co61, eo61⟩ := Kd.R_slice HO248.out; subst eo61; obtain ⟨Ao62, co62, eo62⟩ := Kd.R_slice HO242.out; subst eo62) | ((with_reducible refine gate_callee (f := 92) rfl ?_); refine goesL_ (some 93) rfl rfl Try.func92 (by kernel_rfl) rfl #[.slice Ao61 t246.length co61, .slice Ao62 t240.length co62] rfl uM ?_; (with_reducible refine (nat_compare.calls k2 _ _ t246 _ _ t240 t249 _ ?side1 ?side2 ?side3 ?side4 A48.out).mono ?_); (case side1 => exact uC (Kd.R_reads' HO248.out).2.2); (case side2 => exact (Kd.R_reads' HO248.out).2.1); (case side3 => exact uC (Kd.R_reads' HO242.out).2.2); (case side4 => exact (Kd.R_reads' HO242.out).2.1); rintro e w' ⟨rfl, ⟨nd, rfl⟩⟩; refine ⟨_, rfl, ?_⟩; (try (rw [drewN_self w60]; generalize hq_ : World.drewN w60 _ = w60; replace HO239 : Aside0 (Kd.R (Kd.int .u64) 30 w60 w.heap.size (fun k_ => (some k_ ≠ (.slice (some ad227) x7_1.length co18 : Value).ownBlock ∧ (some k_ ≠ (.slice (some ad230) t221.length co17 : Value).ownBlock ∧ (some k_ ≠ (.slice Ao21 x10_1.length co21 : Value).ownBlock ∧ (some k_ ≠ (.slice Ao62 t240.length co62 : Value).ownBlock ∧ some k_ ≠ (.slice Ao61 t246.length co61 : Value).ownBlock))))) (.slice Ao56 t237.length co56) t237) := ⟨by rw [← hq_]; exact (uR HO239.out)⟩; replace HO242 : Aside0 (Kd.R (Kd.int .u64) 30 w60 w.heap.size (fun k_ => (some k_ ≠ (.slice (some ad227) x7_1.length co18 : Value).ownBlock ∧ (some k_ ≠ (.slice (some ad230) t221.length co17 : Value).ownBlock ∧ (some k_ ≠ (.slice Ao21 x10_1.length co21 : Value).ownBlock ∧ (some k_ ≠ (.slice Ao56 t237.length co56 : Value).ownBlock ∧ some k_ ≠ (.slice Ao61 t246.length co61 : Value).ownBlock))))) (.slice Ao62 t240.length co62) t240) := ⟨by rw [← hq_]; exact (uR HO242.out)⟩; replace HO248 : Aside0 (Kd.R (Kd.int .u64) 30 w60 w.heap.size (fun k_ => (some k_ ≠ (.slice (some ad227) x7_1.length co18 : Value).ownBlock ∧ (some k_ ≠ (.slice (some ad230) t221.length co17 : Value).ownBlock ∧ (some k_ ≠ (.slice Ao21 x10_1.length co21 : Value).ownBlock ∧ (some k_ ≠ (.slice Ao56 t237.length co56 : Value).ownBlock ∧ some k_ ≠ (.slice Ao62 t240.length co62 : Value).ownBlock))))) (.slice Ao61 t246.length co61) t246) := ⟨by rw [← hq_]; exact (uR HO248.out)⟩; replace HO_10 : Aside0 (Kd.R (Kd.int .u64) 30 w60 w.heap.size (fun k_ => (some k_ ≠ (.slice (some ad227) x7_1.length co18 : Value).ownBlock ∧ (some k_ ≠ (.slice (some ad230) t221.length co17 : Value).ownBlock ∧ (some k_ ≠ (.slice Ao56 t237.length co56 : Value).ownBlock ∧ (some k_ ≠ (.slice Ao62 t240.length co62 : Value).ownBlock ∧ some k_ ≠ (.slice Ao61 t246.length co61 : Value).ownBlock))))) (.slice Ao21 x10_1.length co21) x10_1) := ⟨by rw [← hq_]; exact (uR HO_10.out)⟩; replace HO_7 : Aside0 (Kd.R (Kd.int .u64) 30 w60 w.heap.size (fun k_ => (some k_ ≠ (.slice (some ad230) t221.length co17 : Value).ownBlock ∧ (some k_ ≠ (.slice Ao21 x10_1.length co21 : Value).ownBlock ∧ (some k_ ≠ (.slice Ao56 t237.length co56 : Value).ownBlock ∧ (some k_ ≠ (.slice Ao62 t240.length co62 : Value).ownBlock ∧ some k_ ≠ (.slice Ao61 t246.length co61 : Value).ownBlock))))) (.slice (some ad227) x7_1.length co18) x7_1) := ⟨by rw [← hq_]; exact (uR HO_7.out)⟩; replace HO_8 : Aside0 (Kd.R (Kd.int .u64) 30 w60 w.heap.size (fun k_ => (some k_ ≠ (.slice (some ad227) x7_1.length co18 : Value).ownBlock ∧ (some k_ ≠ (.slice Ao21 x10_1.length co21 : Value).ownBlock ∧ (some k_ ≠ (.slice Ao56 t237.length co56 : Value).ownBlock ∧ (some k_ ≠ (.slice Ao62 t240.length co62 : Value).ownBlock ∧ some k_ ≠ (.slice Ao61 t246.length co61 : Value).ownBlock))))) (.slice (some ad230) t221.length co17) t221) := ⟨by rw [← hq_]; exact (uR HO_8.out)⟩; replace HB : Aside0 (Below w.heap.size w w60) := ⟨by rw [← hq_]; exact uB⟩; replace HR236 : Aside0 (Kd.C (Kd.int .u64) w60 A43 y233.length y233) := ⟨by rw [← hq_]; exact (by repeat (first | (with_reducible exact HR236.out) | (with_reducible refine Kd.C_alloc ?_ _) | (with_reducible refine Kd.C_drewN ?_ _) | (with_reducible refine Kd.C_drew ?_) | exact HR236.out))⟩; clear hq_))) | ((with_reducible refine gate_callee (f := 139) rfl ?_); refine goesL_ (some 98) rfl rfl Try.func139 (by kernel_rfl) rfl #[.slice A43 y233.length c43, .slice Ao62 t240.length co62] rfl uM ?_; (with_reducible refine (nat_less.calls k2 _ _ y233 _ _ t240 t250 _ ?side1 ?side2 ?side3 ?side4 A50.out).mono ?_); (case side1 => repeat (first | exact (by repeat (first | (with_reducible exact HR236.out) | (with_reducible refine Kd.C_alloc ?_ _) | (with_reducible refine Kd.C_drewN ?_ _) | (with_reducible refine Kd.C_drew ?_) | exact HR236.out)) | (with_reducible refine Kd.C_alloc ?_ _) | (with_reducible refine Kd.C_drewN ?_ _) | (with_reducible refine Kd.C_drew ?_))); (case side2 => exact HC236.out); (case side3 => exact uC (Kd.R_reads' HO242.out).2.2); (case side4 => exact (Kd.R_reads' HO242.out).2.1); rintro e w63 ⟨v251, rfl, ho0, hb⟩; refine ⟨_, rfl, ?_⟩; have HO252 := Aside0.mk (Kd.R_lower (Kd.R_new' (Kd.R_new' (Kd.R_new' (Kd.R_new' (Kd.R_new' (Kd.R_new' ho0 (Kd.R_lt (uR HO_7.out))) (Kd.R_lt (uR HO_8.out))) (Kd.R_lt (uR HO_10.out))) (Kd.R_lt (uR HO239.out))) (Kd.R_lt (uR HO242.out))) (Kd.R_lt (uR HO248.out))) (below_size uB)); replace HO_7 := ueR HO_7 ho0 hb; replace HO_8 := ueR HO_8 ho0 hb; replace HO_10 := ueR HO_10 ho0 hb; replace HO239 := ueR HO239 ho0 hb; replace HO242 := ueR HO242 ho0 hb; replace HO248 := ueR HO248 ho0 hb; replace HR236 := Aside0.mk (Kd.C_below (by repeat (first | (with_reducible exact HR236.out) | (with_reducible refine Kd.C_alloc ?_ _) | (with_reducible refine Kd.C_drewN ?_ _) | (with_reducible refine Kd.C_drew ?_) | exact HR236.out)) hb); replace HB := uy hb; (try clear hb); (try clear hb2); (try clear hk); (try clear hi); (try clear ho0); obtain ⟨Ao66, co66, eo66⟩ := Kd.R_slice HO252.out; subst eo66; have n_ := Aside0.mk (Kd.R_mono (ok' := (fun k_ => some k_ ≠ (.slice (some ad230) t221.length co17 : Value).ownBlock ∧ some k_ ≠ (.slice Ao21 x10_1.length co21 : Value).ownBlock ∧ some k_ ≠ (.slice Ao56 t237.length co56 : Value).ownBlock ∧ some k_ ≠ (.slice Ao62 t240.length co62 : Value).ownBlock ∧ some k_ ≠ (.slice Ao61 t246.length co61 : Value).ownBlock ∧ some k_ ≠ (.slice Ao66 t250.length co66 : Value).ownBlock)) HO_7.out (fun k_ hk => ⟨hk.1.1, ⟨hk.1.2.1, ⟨hk.1.2.2.1, ⟨hk.1.2.2.2.1, ⟨hk.1.2.2.2.2, hk.2⟩⟩⟩⟩⟩)); clear HO_7; have HO_7 := n_; clear n_) | ((with_reducible refine gate_builtin (b := .copy) (xs := #[.tmp 95, .tmp 98]) (ts := #[40, 40]) rfl ?_); (try (refine gate_guard (by rfl) ?_; dsimp only)); refine R_copyin (0 : Int) (w0 := w) w.heap.size rfl (.tmp 95) (.tmp 98) 40 40 30 rfl Try.underlying40 (by kernel_rfl) (A0 := (some ad227)) (n := x7_1.length) (c := co18) (k := (x11_1 : Int).toNat) (m := y233.length) (ys := t250) rfl rfl KA43.out (Kd.R_reads' HO252.out).2.2 uO (uR HO_7.out) ?hk uB (below_size uB) ?_; (case hk => have hy_ := KY43.out; have hl_ := KL43.out; have hm_ := KM43.out; omega); intro w64 ho hb hg; rw [← Ny253.out] at ho; replace HO_7 := Aside0.mk (ho); replace HO_8 := Aside0.mk (Kd.R_after (v := (.slice (some ad227) x7_1.length co18)) (v1 := (.slice (some ad227) x7_1.length co18)) (ok := (fun k_ => some k_ ≠ (.slice Ao21 x10_1.length co21 : Value).ownBlock ∧ some k_ ≠ (.slice Ao56 t237.length co56 : Value).ownBlock ∧ some k_ ≠ (.slice Ao62 t240.length co62 : Value).ownBlock ∧ some k_ ≠ (.slice Ao61 t246.length co61 : Value).ownBlock ∧ some k_ ≠ (.slice Ao66 t250.length co66 : Value).ownBlock)) (uR (Kd.R_mono HO_8.out (fun _ hk => ⟨⟨hk.1.2.1, ⟨hk.1.2.2.1, ⟨hk.1.2.2.2.1, ⟨hk.1.2.2.2.2, hk.2⟩⟩⟩⟩, hk.1.1⟩))) hg (.inl rfl)); replace HO_10 := Aside0.mk (Kd.R_after (v := (.slice (some ad227) x7_1.length co18)) (v1 := (.slice (some ad227) x7_1.length co18)) (ok := (fun k_ => some k_ ≠ (.slice (some ad230) t221.length co17 : Value).ownBlock ∧ some k_ ≠ (.slice Ao56 t237.length co56 : Value).ownBlock ∧ some k_ ≠ (.slice Ao62 t240.length co62 : Value).ownBlock ∧ some k_ ≠ (.slice Ao61 t246.length co61 : Value).ownBlock ∧ some k_ ≠ (.slice Ao66 t250.length co66 : Value).ownBlock)) (uR (Kd.R_mono HO_10.out (fun _ hk => ⟨⟨hk.1.2.1, ⟨hk.1.2.2.1, ⟨hk.1.2.2.2.1, ⟨hk.1.2.2.2.2, hk.2⟩⟩⟩⟩, hk.1.1⟩))) hg (.inl rfl)); replace HO239 := Aside0.mk (Kd.R_after (v := (.slice (some ad227) x7_1.length co18)) (v1 := (.slice (some ad227) x7_1.length co18)) (ok := (fun k_ => some k_ ≠ (.slice (some ad230) t221.length co17 : Value).ownBlock ∧ some k_ ≠ (.slice Ao21 x10_1.length co21 : Value).ownBlock ∧ some k_ ≠ (.slice Ao62 t240.length co62 : Value).ownBlock ∧ some k_ ≠ (.slice Ao61 t246.length co61 : Value).ownBlock ∧ some k_ ≠ (.slice Ao66 t250.length co66 : Value).ownBlock)) (uR (Kd.R_mono HO239.out (fun _ hk => ⟨⟨hk.1.2.1, ⟨hk.1.2.2.1, ⟨hk.1.2.2.2.1, ⟨hk.1.2.2.2.2, hk.2⟩⟩⟩⟩, hk.1.1⟩))) hg (.inl rfl)); replace HO242 := Aside0.mk (Kd.R_after (v := (.slice (some ad227) x7_1.length co18)) (v1 := (.slice (some ad227) x7_1.length co18)) (ok := (fun k_ => some k_ ≠ (.slice (some ad230) t221.length co17 : Value).ownBlock ∧ some k_ ≠ (.slice Ao21 x10_1.length co21 : Value).ownBlock ∧ some k_ ≠ (.slice Ao56 t237.length co56 : Value).ownBlock ∧ some k_ ≠ (.slice Ao61 t246.length co61 : Value).ownBlock ∧ some k_ ≠ (.slice Ao66 t250.length co66 : Value).ownBlock)) (uR (Kd.R_mono HO242.out (fun _ hk => ⟨⟨hk.1.2.1, ⟨hk.1.2.2.1, ⟨hk.1.2.2.2.1, ⟨hk.1.2.2.2.2, hk.2⟩⟩⟩⟩, hk.1.1⟩))) hg (.inl rfl)); replace HO248 := Aside0.mk (Kd.R_after (v := (.slice (some ad227) x7_1.length co18)) (v1 := (.slice (some ad227) x7_1.length co18)) (ok := (fun k_ => some k_ ≠ (.slice (some ad230) t221.length co17 : Value).ownBlock ∧ some k_ ≠ (.slice Ao21 x10_1.length co21 : Value).ownBlock ∧ some k_ ≠ (.slice Ao56 t237.length co56 : Value).ownBlock ∧ some k_ ≠ (.slice Ao62 t240.length co62 : Value).ownBlock ∧ some k_ ≠ (.slice Ao66 t250.length co66 : Value).ownBlock)) (uR (Kd.R_mono HO248.out (fun _ hk => ⟨⟨hk.1.2.1, ⟨hk.1.2.2.1, ⟨hk.1.2.2.2.1, ⟨hk.1.2.2.2.2, hk.2⟩⟩⟩⟩, hk.1.1⟩))) hg (.inl rfl)); replace HO252 := Aside0.mk (Kd.R_after (v := (.slice (some ad227) x7_1.length co18)) (v1 := (.slice (some ad227) x7_1.length co18)) (ok := (fun k_ => some k_ ≠ (.slice (some ad230) t221.length co17 : Value).ownBlock ∧ some k_ ≠ (.slice Ao21 x10_1.length co21 : Value).ownBlock ∧ some k_ ≠ (.slice Ao56 t237.length co56 : Value).ownBlock ∧ some k_ ≠ (.slice Ao62 t240.length co62 : Value).ownBlock ∧ some k_ ≠ (.slice Ao61 t246.length co61 : Value).ownBlock)) (uR (Kd.R_mono HO252.out (fun _ hk => ⟨⟨hk.1.1.1.1.2, ⟨hk.1.1.1.2, ⟨hk.1.1.2, ⟨hk.1.2, hk.2⟩⟩⟩⟩, hk.1.1.1.1.1.2⟩))) hg (.inl rfl)); replace HB := Aside0.mk (hb); clear ho hb hg; have p54 : 0 ≤ (x11_1 : Int) := uO; have q54 : (x11_1 : Int) < ((x10_1.length : Int) : Int) := uO; obtain ⟨go54, co54, eo54, gb54, gl54, cl54, HG54⟩ := Kd.R_form HO_10.out (by omega); (first | cases eo54 | (injection eo54 with ea_ en_ ec_; (first | subst ea_ | (injection ea_ with ea_; subst ea_)); subst ec_; clear en_)); have GB54 := Aside0.mk gb54; have GG54 := Aside0.mk HG54; clear gb54 gl54 HG54; obtain ⟨hx54_0, hf54_0⟩ := Kd.R_celln 0 HO_10.out (x11_1 : Int) p54 q54; replace p54 := eq_true p54; replace q54 := eq_true q54; have n_ := Aside0.mk (Kd.R_mono (ok' := (fun k_ => some k_ ≠ (.slice (some ad227) x7_1.length co18 : Value).ownBlock ∧ some k_ ≠ (.slice (some ad230) t221.length co17 : Value).ownBlock ∧ some k_ ≠ (.slice Ao56 t237.length co56 : Value).ownBlock ∧ some k_ ≠ (.slice Ao62 t240.length co62 : Value).ownBlock ∧ some k_ ≠ (.slice Ao61 t246.length co61 : Value).ownBlock ∧ some k_ ≠ (.slice Ao66 t250.length co66 : Value).ownBlock)) HO_10.out (fun k_ hk => ⟨hk.2, ⟨hk.1.1, ⟨hk.1.2.1, ⟨hk.1.2.2.1, ⟨hk.1.2.2.2.1, hk.1.2.2.2.2⟩⟩⟩⟩⟩)); clear HO_10; have HO_10 := n_; clear n_; obtain ⟨hy67_, hz67_⟩ := Kd.R_celln 0 HO_10.out (x11_1 : Int) uO uO; have HP67 := Kd.R_putg HO_10.out (x11_1 : Int) x12_2) | ((with_reducible refine gate_store (t := 30) (p := 105) rfl ?_); refine store_event (t := 30) (p := 105) (v := ?vo_w68) (w1 := (w64.setCell ⟨go54, (x11_1 : Int).toNat, none⟩ (.int .u64 x12_2))) ?hg ?ho ?hn ?hr ?_; (case ho => rfl); (case hg => rfl); (case hn => rfl); (case hr => first | (go_simp; done) | (go_simp; rfl) | (obtain ⟨hy_, hz_⟩ := Kd.R_celln 0 HO_10.out (x11_1 : Int) uO uO; (try simp only [Go.IntWalk.toNatUp] at hy_ hz_); (try simp only [Int.reduceToNat, Int.toNat_zero, Int.toNat_ofNat] at hy_ hz_); first | (go_simp; done) | (go_simp; rfl))); intro w68 hw; have hg : w64.grownBy w68 (some go54) := (by rw [hw]; exact HP67.2); have hp_ : Kd.R (Kd.int .u64) 30 w68 w.heap.size (fun k_ => some k_ ≠ (.slice (some ad227) x7_1.length co18 : Value).ownBlock ∧ some k_ ≠ (.slice (some ad230) t221.length co17 : Value).ownBlock ∧ some k_ ≠ (.slice Ao56 t237.length co56 : Value).ownBlock ∧ some k_ ≠ (.slice Ao62 t240.length co62 : Value).ownBlock ∧ some k_ ≠ (.slice Ao61 t246.length co61 : Value).ownBlock ∧ some k_ ≠ (.slice Ao66 t250.length co66 : Value).ownBlock) (.slice (some ⟨go54, 0, none⟩) x10_1.length co21) y254 := (by rw [hw, Ny254.out]; exact HP67.1); clear HP67; replace HO_7 := Aside0.mk (Kd.R_after (v := (.slice (some ⟨go54, 0, none⟩) x10_1.length co21)) (v1 := (.slice (some ⟨go54, 0, none⟩) x10_1.length co21)) (ok := (fun k_ => some k_ ≠ (.slice (some ad230) t221.length co17 : Value).ownBlock ∧ some k_ ≠ (.slice Ao56 t237.length co56 : Value).ownBlock ∧ some k_ ≠ (.slice Ao62 t240.length co62 : Value).ownBlock ∧ some k_ ≠ (.slice Ao61 t246.length co61 : Value).ownBlock ∧ some k_ ≠ (.slice Ao66 t250.length co66 : Value).ownBlock)) (uR (Kd.R_mono HO_7.out (fun _ hk => ⟨⟨hk.1, ⟨hk.2.2.1, ⟨hk.2.2.2.1, ⟨hk.2.2.2.2.1, hk.2.2.2.2.2⟩⟩⟩⟩, hk.2.1⟩))) hg (.inl rfl)); replace HO_8 := Aside0.mk (Kd.R_after (v := (.slice (some ⟨go54, 0, none⟩) x10_1.length co21)) (v1 := (.slice (some ⟨go54, 0, none⟩) x10_1.length co21)) (ok := (fun k_ => some k_ ≠ (.slice (some ad227) x7_1.length co18 : Value).ownBlock ∧ some k_ ≠ (.slice Ao56 t237.length co56 : Value).ownBlock ∧ some k_ ≠ (.slice Ao62 t240.length co62 : Value).ownBlock ∧ some k_ ≠ (.slice Ao61 t246.length co61 : Value).ownBlock ∧ some k_ ≠ (.slice Ao66 t250.length co66 : Value).ownBlock)) (uR (Kd.R_mono HO_8.out (fun _ hk => ⟨⟨hk.2, ⟨hk.1.2.1, ⟨hk.1.2.2.1, ⟨hk.1.2.2.2.1, hk.1.2.2.2.2⟩⟩⟩⟩, hk.1.1⟩))) hg (.inl rfl)); replace HO_10 := Aside0.mk (hp_); replace HO239 := Aside0.mk (Kd.R_after (v := (.slice (some ⟨go54, 0, none⟩) x10_1.length co21)) (v1 := (.slice (some ⟨go54, 0, none⟩) x10_1.length co21)) (ok := (fun k_ => some k_ ≠ (.slice (some ad227) x7_1.length co18 : Value).ownBlock ∧ some k_ ≠ (.slice (some ad230) t221.length co17 : Value).ownBlock ∧ some k_ ≠ (.slice Ao62 t240.length co62 : Value).ownBlock ∧ some k_ ≠ (.slice Ao61 t246.length co61 : Value).ownBlock ∧ some k_ ≠ (.slice Ao66 t250.length co66 : Value).ownBlock)) (uR (Kd.R_mono HO239.out (fun _ hk => ⟨⟨hk.2, ⟨hk.1.1, ⟨hk.1.2.2.1, ⟨hk.1.2.2.2.1, hk.1.2.2.2.2⟩⟩⟩⟩, hk.1.2.1⟩))) hg (.inl rfl)); replace HO242 := Aside0.mk (Kd.R_after (v := (.slice (some ⟨go54, 0, none⟩) x10_1.length co21)) (v1 := (.slice (some ⟨go54, 0, none⟩) x10_1.length co21)) (ok := (fun k_ => some k_ ≠ (.slice (some ad227) x7_1.length co18 : Value).ownBlock ∧ some k_ ≠ (.slice (some ad230) t221.length co17 : Value).ownBlock ∧ some k_ ≠ (.slice Ao56 t237.length co56 : Value).ownBlock ∧ some k_ ≠ (.slice Ao61 t246.length co61 : Value).ownBlock ∧ some k_ ≠ (.slice Ao66 t250.length co66 : Value).ownBlock)) (uR (Kd.R_mono HO242.out (fun _ hk => ⟨⟨hk.2, ⟨hk.1.1, ⟨hk.1.2.2.1, ⟨hk.1.2.2.2.1, hk.1.2.2.2.2⟩⟩⟩⟩, hk.1.2.1⟩))) hg (.inl rfl)); replace HO248 := Aside0.mk (Kd.R_after (v := (.slice (some ⟨go54, 0, none⟩) x10_1.length co21)) (v1 := (.slice (some ⟨go54, 0, none⟩) x10_1.length co21)) (ok := (fun k_ => some k_ ≠ (.slice (some ad227) x7_1.length co18 : Value).ownBlock ∧ some k_ ≠ (.slice (some ad230) t221.length co17 : Value).ownBlock ∧ some k_ ≠ (.slice Ao56 t237.length co56 : Value).ownBlock ∧ some k_ ≠ (.slice Ao62 t240.length co62 : Value).ownBlock ∧ some k_ ≠ (.slice Ao66 t250.length co66 : Value).ownBlock)) (uR (Kd.R_mono HO248.out (fun _ hk => ⟨⟨hk.2, ⟨hk.1.1, ⟨hk.1.2.2.1, ⟨hk.1.2.2.2.1, hk.1.2.2.2.2⟩⟩⟩⟩, hk.1.2.1⟩))) hg (.inl rfl)); replace HO252 := Aside0.mk (Kd.R_after (v := (.slice (some ⟨go54, 0, none⟩) x10_1.length co21)) (v1 := (.slice (some ⟨go54, 0, none⟩) x10_1.length co21)) (ok := (fun k_ => some k_ ≠ (.slice (some ad227) x7_1.length co18 : Value).ownBlock ∧ some k_ ≠ (.slice (some ad230) t221.length co17 : Value).ownBlock ∧ some k_ ≠ (.slice Ao56 t237.length co56 : Value).ownBlock ∧ some k_ ≠ (.slice Ao62 t240.length co62 : Value).ownBlock ∧ some k_ ≠ (.slice Ao61 t246.length co61 : Value).ownBlock)) (uR (Kd.R_mono HO252.out (fun _ hk => ⟨⟨hk.2, ⟨hk.1.1, ⟨hk.1.2.2.1, ⟨hk.1.2.2.2.1, hk.1.2.2.2.2⟩⟩⟩⟩, hk.1.2.1⟩))) hg (.inl rfl)); replace HB := Aside0.mk ((by rw [hw]; exact below_set (HB.out) GB54.out : Below w.heap.size w w68)); clear hg hw hp_))
       (try simp only [← hl7_1, ← hl10_1])
       first | go_roundg k2 | ((try simp only [← hji35] at H'); simp only [← hji35]; go_roundg k2) | ((try simp only [← hji32] at H'); simp only [← hji32]; go_roundg k2) | ((try simp only [← hji29] at H'); simp only [← hji29]; go_roundg k2) | ((try simp only [← hji26] at H'); simp only [← hji26]; go_roundg k2) | ((try simp only [← hji23] at H'); simp only [← hji23]; go_roundg k2) | ((try simp only [← hji10] at H'); simp only [← hji10]; go_roundg k2)
       case measure => have := HK1.out; have := HK2.out; omega
       case rel => first | exact ⟨(y253), (y254), (wrap64 (x11_1 - 1)), uG, H', ⟨by have := HK1.out; have := HK2.out; omega⟩, ⟨by (try simp only [hl7_1]); (try simp only [hl10_1]); (with_reducible repeat (first | apply Kd.R_alloc | apply Kd.R_drewN | apply Kd.R_drew)); exact Kd.R_mono HO_7.out (fun _ hk => ⟨hk.1.1, hk.2⟩)⟩, ⟨by (try simp only [hl7_1]); (try simp only [hl10_1]); (with_reducible repeat (first | apply Kd.R_alloc | apply Kd.R_drewN | apply Kd.R_drew)); exact Kd.R_mono HO_8.out (fun _ hk => ⟨hk.1.1, hk.2⟩)⟩, ⟨by (try simp only [hl7_1]); (try simp only [hl10_1]); (with_reducible repeat (first | apply Kd.R_alloc | apply Kd.R_drewN | apply Kd.R_drew)); exact Kd.R_mono HO_10.out (fun _ hk => ⟨hk.1, hk.2.1⟩)⟩, ⟨uB⟩⟩ | (simp only [← hji35] at H'; exact ⟨(y253), (y254), (wrap64 (x11_1 - 1)), uG, H', ⟨by have := HK1.out; have := HK2.out; omega⟩, ⟨by (try simp only [hl7_1]); (try simp only [hl10_1]); (with_reducible repeat (first | apply Kd.R_alloc | apply Kd.R_drewN | apply Kd.R_drew)); exact Kd.R_mono HO_7.out (fun _ hk => ⟨hk.1.1, hk.2⟩)⟩, ⟨by (try simp only [hl7_1]); (try simp only [hl10_1]); (with_reducible repeat (first | apply Kd.R_alloc | apply Kd.R_drewN | apply Kd.R_drew)); exact Kd.R_mono HO_8.out (fun _ hk => ⟨hk.1.1, hk.2⟩)⟩, ⟨by (try simp only [hl7_1]); (try simp only [hl10_1]); (with_reducible repeat (first | apply Kd.R_alloc | apply Kd.R_drewN | apply Kd.R_drew)); exact Kd.R_mono HO_10.out (fun _ hk => ⟨hk.1, hk.2.1⟩)⟩, ⟨uB⟩⟩) | (simp only [← hji32] at H'; exact ⟨(y253), (y254), (wrap64 (x11_1 - 1)), uG, H', ⟨by have := HK1.out; have := HK2.out; omega⟩, ⟨by (try simp only [hl7_1]); (try simp only [hl10_1]); (with_reducible repeat (first | apply Kd.R_alloc | apply Kd.R_drewN | apply Kd.R_drew)); exact Kd.R_mono HO_7.out (fun _ hk => ⟨hk.1.1, hk.2⟩)⟩, ⟨by (try simp only [hl7_1]); (try simp only [hl10_1]); (with_reducible repeat (first | apply Kd.R_alloc | apply Kd.R_drewN | apply Kd.R_drew)); exact Kd.R_mono HO_8.out (fun _ hk => ⟨hk.1.1, hk.2⟩)⟩, ⟨by (try simp only [hl7_1]); (try simp only [hl10_1]); (with_reducible repeat (first | apply Kd.R_alloc | apply Kd.R_drewN | apply Kd.R_drew)); exact Kd.R_mono HO_10.out (fun _ hk => ⟨hk.1, hk.2.1⟩)⟩, ⟨uB⟩⟩) | (simp only [← hji29] at H'; exact ⟨(y253), (y254), (wrap64 (x11_1 - 1)), uG, H', ⟨by have := HK1.out; have := HK2.out; omega⟩, ⟨by (try simp only [hl7_1]); (try simp only [hl10_1]); (with_reducible repeat (first | apply Kd.R_alloc | apply Kd.R_drewN | apply Kd.R_drew)); exact Kd.R_mono HO_7.out (fun _ hk => ⟨hk.1.1, hk.2⟩)⟩, ⟨by (try simp only [hl7_1]); (try simp only [hl10_1]); (with_reducible repeat (first | apply Kd.R_alloc | apply Kd.R_drewN | apply Kd.R_drew)); exact Kd.R_mono HO_8.out (fun _ hk => ⟨hk.1.1, hk.2⟩)⟩, ⟨by (try simp only [hl7_1]); (try simp only [hl10_1]); (with_reducible repeat (first | apply Kd.R_alloc | apply Kd.R_drewN | apply Kd.R_drew)); exact Kd.R_mono HO_10.out (fun _ hk => ⟨hk.1, hk.2.1⟩)⟩, ⟨uB⟩⟩) | (simp only [← hji26] at H'; exact ⟨(y253), (y254), (wrap64 (x11_1 - 1)), uG, H', ⟨by have := HK1.out; have := HK2.out; omega⟩, ⟨by (try simp only [hl7_1]); (try simp only [hl10_1]); (with_reducible repeat (first | apply Kd.R_alloc | apply Kd.R_drewN | apply Kd.R_drew)); exact Kd.R_mono HO_7.out (fun _ hk => ⟨hk.1.1, hk.2⟩)⟩, ⟨by (try simp only [hl7_1]); (try simp only [hl10_1]); (with_reducible repeat (first | apply Kd.R_alloc | apply Kd.R_drewN | apply Kd.R_drew)); exact Kd.R_mono HO_8.out (fun _ hk => ⟨hk.1.1, hk.2⟩)⟩, ⟨by (try simp only [hl7_1]); (try simp only [hl10_1]); (with_reducible repeat (first | apply Kd.R_alloc | apply Kd.R_drewN | apply Kd.R_drew)); exact Kd.R_mono HO_10.out (fun _ hk => ⟨hk.1, hk.2.1⟩)⟩, ⟨uB⟩⟩) | (simp only [← hji23] at H'; exact ⟨(y253), (y254), (wrap64 (x11_1 - 1)), uG, H', ⟨by have := HK1.out; have := HK2.out; omega⟩, ⟨by (try simp only [hl7_1]); (try simp only [hl10_1]); (with_reducible repeat (first | apply Kd.R_alloc | apply Kd.R_drewN | apply Kd.R_drew)); exact Kd.R_mono HO_7.out (fun _ hk => ⟨hk.1.1, hk.2⟩)⟩, ⟨by (try simp only [hl7_1]); (try simp only [hl10_1]); (with_reducible repeat (first | apply Kd.R_alloc | apply Kd.R_drewN | apply Kd.R_drew)); exact Kd.R_mono HO_8.out (fun _ hk => ⟨hk.1.1, hk.2⟩)⟩, ⟨by (try simp only [hl7_1]); (try simp only [hl10_1]); (with_reducible repeat (first | apply Kd.R_alloc | apply Kd.R_drewN | apply Kd.R_drew)); exact Kd.R_mono HO_10.out (fun _ hk => ⟨hk.1, hk.2.1⟩)⟩, ⟨uB⟩⟩) | (simp only [← hji10] at H'; exact ⟨(y253), (y254), (wrap64 (x11_1 - 1)), uG, H', ⟨by have := HK1.out; have := HK2.out; omega⟩, ⟨by (try simp only [hl7_1]); (try simp only [hl10_1]); (with_reducible repeat (first | apply Kd.R_alloc | apply Kd.R_drewN | apply Kd.R_drew)); exact Kd.R_mono HO_7.out (fun _ hk => ⟨hk.1.1, hk.2⟩)⟩, ⟨by (try simp only [hl7_1]); (try simp only [hl10_1]); (with_reducible repeat (first | apply Kd.R_alloc | apply Kd.R_drewN | apply Kd.R_drew)); exact Kd.R_mono HO_8.out (fun _ hk => ⟨hk.1.1, hk.2⟩)⟩, ⟨by (try simp only [hl7_1]); (try simp only [hl10_1]); (with_reducible repeat (first | apply Kd.R_alloc | apply Kd.R_drewN | apply Kd.R_drew)); exact Kd.R_mono HO_10.out (fun _ hk => ⟨hk.1, hk.2.1⟩)⟩, ⟨uB⟩⟩)
      rw [if_neg c49] at H
      have c49b0 : decide (0 ≤ t249) = false := decide_eq_false c49
      clear c49
      have H' := Aside0.mk H
      clear H
      go_wp2_with (first | ((with_reducible refine gate_callee (f := 94) rfl ?_); refine goesL_ (some 87) rfl rfl Try.func94 (by kernel_rfl) rfl #[.int .u64 x12_2] rfl uM ?_; (with_reducible refine (nat_Of.calls k2 x12_2 t237 _ A44.out).mono ?_); rintro e w69 ⟨v238, rfl, ho0, hb⟩; refine ⟨_, rfl, ?_⟩; have HO239 := Aside0.mk (Kd.R_lower (Kd.R_new' (Kd.R_new' (Kd.R_new' ho0 (Kd.R_lt (uR HO_7.out))) (Kd.R_lt (uR HO_8.out))) (Kd.R_lt (uR HO_10.out))) (below_size uB)); replace HO_7 := ueR HO_7 ho0 hb; replace HO_8 := ueR HO_8 ho0 hb; replace HO_10 := ueR HO_10 ho0 hb; replace HR236 := Aside0.mk (Kd.C_below (by repeat (first | (with_reducible exact HR236.out) | (with_reducible refine Kd.C_alloc ?_ _) | (with_reducible refine Kd.C_drewN ?_ _) | (with_reducible refine Kd.C_drew ?_) | exact HR236.out)) hb); replace HB := uy hb; (try clear hb); (try clear hb2); (try clear hk); (try clear hi); (try clear ho0); obtain ⟨Ao70, co70, eo70⟩ := Kd.R_slice HO239.out; subst eo70) | ((with_reducible refine gate_callee (f := 136) rfl ?_); refine goesL_ (some 88) rfl rfl Try.func136 (by kernel_rfl) rfl #[.slice (some ad230) t221.length co17, .slice Ao70 t237.length co70] rfl uM ?_; (with_reducible refine (nat_school.calls k2 _ _ t221 _ _ t237 t240 _ ?side1 ?side2 ?side3 ?side4 A45.out).mono ?_); (case side1 => exact uC (Kd.R_reads' HO_8.out).2.2); (case side2 => exact (Kd.R_reads' HO_8.out).2.1); (case side3 => exact uC (Kd.R_reads' HO239.out).2.2); (case side4 => exact (Kd.R_reads' HO239.out).2.1); rintro e w71 ⟨v241, rfl, ho0, hb⟩; refine ⟨_, rfl, ?_⟩; have HO242 := Aside0.mk (Kd.R_lower (Kd.R_new' (Kd.R_new' (Kd.R_new' (Kd.R_new' ho0 (Kd.R_lt (uR HO_7.out))) (Kd.R_lt (uR HO_8.out))) (Kd.R_lt (uR HO_10.out))) (Kd.R_lt (uR HO239.out))) (below_size uB)); replace HO_7 := ueR HO_7 ho0 hb; replace HO_8 := ueR HO_8 ho0 hb; replace HO_10 := ueR HO_10 ho0 hb; replace HO239 := ueR HO239 ho0 hb; replace HR236 := Aside0.mk (Kd.C_below (by repeat (first | (with_reducible exact HR236.out) | (with_reducible refine Kd.C_alloc ?_ _) | (with_reducible refine Kd.C_drewN ?_ _) | (with_reducible refine Kd.C_drew ?_) | exact HR236.out)) hb); replace HB := uy hb; (try clear hb); (try clear hb2); (try clear hk); (try clear hi); (try clear ho0)) | ((with_reducible refine gate_callee (f := 78) rfl ?_); refine goesL_ (some 90) rfl rfl Try.func78 (by kernel_rfl) rfl #[.slice A43 y233.length c43] rfl uM ?_; (with_reducible refine (api_Nat_uint64.calls _ _ y233 t243 _ ?side1 ?side2 A46.out).mono ?_); (case side1 => repeat (first | exact (by repeat (first | (with_reducible exact HR236.out) | (with_reducible refine Kd.C_alloc ?_ _) | (with_reducible refine Kd.C_drewN ?_ _) | (with_reducible refine Kd.C_drew ?_) | exact HR236.out)) | (with_reducible refine Kd.C_alloc ?_ _) | (with_reducible refine Kd.C_drewN ?_ _) | (with_reducible refine Kd.C_drew ?_))); (case side2 => exact HC236.out); rintro e w72 ⟨v244, rfl, ho0, hb⟩; refine ⟨_, rfl, ?_⟩; have HO245 := Aside0.mk (Kd.R_lower (Kd.R_new' (Kd.R_new' (Kd.R_new' (Kd.R_new' (Kd.R_new' ho0 (Kd.R_lt (uR HO_7.out))) (Kd.R_lt (uR HO_8.out))) (Kd.R_lt (uR HO_10.out))) (Kd.R_lt (uR HO239.out))) (Kd.R_lt (uR HO242.out))) (below_size uB)); replace HO_7 := ueR HO_7 ho0 hb; replace HO_8 := ueR HO_8 ho0 hb; replace HO_10 := ueR HO_10 ho0 hb; replace HO239 := ueR HO239 ho0 hb; replace HO242 := ueR HO242 ho0 hb; replace HR236 := Aside0.mk (Kd.C_below (by repeat (first | (with_reducible exact HR236.out) | (with_reducible refine Kd.C_alloc ?_ _) | (with_reducible refine Kd.C_drewN ?_ _) | (with_reducible refine Kd.C_drew ?_) | exact HR236.out)) hb); replace HB := uy hb; (try clear hb); (try clear hb2); (try clear hk); (try clear hi); (try clear ho0); obtain ⟨Ao73, co73, eo73⟩ := Kd.R_slice HO245.out; subst eo73) | ((with_reducible refine gate_callee (f := 133) rfl ?_); refine goesL_ (some 91) rfl rfl Try.func133 (by kernel_rfl) rfl #[.slice Ao73 t243.length co73] rfl uM ?_; (with_reducible refine (nat_trim.calls k2 (fun k_ => some k_ = (.slice Ao73 t243.length co73 : Value).ownBlock) (.slice Ao73 t243.length co73) t243 t246 w _ ?side1 ?side2 A47.out).mono ?_); (case side1 => repeat (first | (with_reducible first | exact HB.out | apply below_alloc | apply pw_below_drewN | apply below_drew1) | exact HB.out)); (case side2 => exact Kd.R_tight rfl HO245.out); rintro e w74 ⟨v247, rfl, ho0, hb, hkp⟩; refine ⟨_, rfl, ?_⟩; have HO248 := Aside0.mk (Kd.R_mono (ok' := fun k_ => some k_ ≠ (.slice (some ad227) x7_1.length co18 : Value).ownBlock ∧ some k_ ≠ (.slice (some ad230) t221.length co17 : Value).ownBlock ∧ some k_ ≠ (.slice Ao21 x10_1.length co21 : Value).ownBlock ∧ some k_ ≠ (.slice Ao70 t237.length co70 : Value).ownBlock ∧ some k_ ≠ (v241 : Value).ownBlock) ho0 (fun k_ hk_ => ⟨Or.elim hk_ (fun hs_ => fun e_ => (((HO_7.out).1 k_ e_.symm).2) hs_) (fun hn_ => (Kd.fresh' (Kd.R_lt (uR HO_7.out)) k_ hn_)), Or.elim hk_ (fun hs_ => fun e_ => (((HO_8.out).1 k_ e_.symm).2) hs_) (fun hn_ => (Kd.fresh' (Kd.R_lt (uR HO_8.out)) k_ hn_)), Or.elim hk_ (fun hs_ => fun e_ => (((HO_10.out).1 k_ e_.symm).2) hs_) (fun hn_ => (Kd.fresh' (Kd.R_lt (uR HO_10.out)) k_ hn_)), Or.elim hk_ (fun hs_ => fun e_ => (((HO239.out).1 k_ e_.symm).2) hs_) (fun hn_ => (Kd.fresh' (Kd.R_lt (uR HO239.out)) k_ hn_)), Or.elim hk_ (fun hs_ => fun e_ => (((HO242.out).1 k_ e_.symm).2) hs_) (fun hn_ => (Kd.fresh' (Kd.R_lt (uR HO242.out)) k_ hn_))⟩)); replace HO_8 := Aside0.mk (Kd.R_mono (ok' := fun k_ => some k_ ≠ (.slice (some ad227) x7_1.length co18 : Value).ownBlock ∧ some k_ ≠ (.slice Ao21 x10_1.length co21 : Value).ownBlock ∧ some k_ ≠ (.slice Ao70 t237.length co70 : Value).ownBlock ∧ some k_ ≠ (v241 : Value).ownBlock ∧ some k_ ≠ (v247 : Value).ownBlock) (Kd.R_keptB (HO_8.out) hkp (fun k_ hk_ hs_ => (hk_.2) hs_)) (fun k_ hk_ => ⟨hk_.1.1.1.1.1, hk_.1.1.1.1.2, hk_.1.1.1.2, hk_.1.1.2, fun e_ => Or.elim (ho0.1 k_ e_.symm) (fun hs_ => hk_.2.1 hs_) (fun hn_ => Nat.not_le.2 hk_.2.2 hn_)⟩)); replace HO_10 := Aside0.mk (Kd.R_mono (ok' := fun k_ => some k_ ≠ (.slice (some ad227) x7_1.length co18 : Value).ownBlock ∧ some k_ ≠ (.slice (some ad230) t221.length co17 : Value).ownBlock ∧ some k_ ≠ (.slice Ao70 t237.length co70 : Value).ownBlock ∧ some k_ ≠ (v241 : Value).ownBlock ∧ some k_ ≠ (v247 : Value).ownBlock) (Kd.R_keptB (HO_10.out) hkp (fun k_ hk_ hs_ => (hk_.2) hs_)) (fun k_ hk_ => ⟨hk_.1.1.1.1.1, hk_.1.1.1.1.2, hk_.1.1.1.2, hk_.1.1.2, fun e_ => Or.elim (ho0.1 k_ e_.symm) (fun hs_ => hk_.2.1 hs_) (fun hn_ => Nat.not_le.2 hk_.2.2 hn_)⟩)); replace HO239 := Aside0.mk (Kd.R_mono (ok' := fun k_ => some k_ ≠ (.slice (some ad227) x7_1.length co18 : Value).ownBlock ∧ some k_ ≠ (.slice (some ad230) t221.length co17 : Value).ownBlock ∧ some k_ ≠ (.slice Ao21 x10_1.length co21 : Value).ownBlock ∧ some k_ ≠ (v241 : Value).ownBlock ∧ some k_ ≠ (v247 : Value).ownBlock) (Kd.R_keptB (HO239.out) hkp (fun k_ hk_ hs_ => (hk_.2) hs_)) (fun k_ hk_ => ⟨hk_.1.1.1.1.1.2, hk_.1.1.1.1.2, hk_.1.1.1.2, hk_.1.1.2, fun e_ => Or.elim (ho0.1 k_ e_.symm) (fun hs_ => hk_.2.1 hs_) (fun hn_ => Nat.not_le.2 hk_.2.2 hn_)⟩)); replace HO242 := Aside0.mk (Kd.R_mono (ok' := fun k_ => some k_ ≠ (.slice (some ad227) x7_1.length co18 : Value).ownBlock ∧ some k_ ≠ (.slice (some ad230) t221.length co17 : Value).ownBlock ∧ some k_ ≠ (.slice Ao21 x10_1.length co21 : Value).ownBlock ∧ some k_ ≠ (.slice Ao70 t237.length co70 : Value).ownBlock ∧ some k_ ≠ (v247 : Value).ownBlock) (Kd.R_keptB (HO242.out) hkp (fun k_ hk_ hs_ => (hk_.2) hs_)) (fun k_ hk_ => ⟨hk_.1.1.1.1.1.2, hk_.1.1.1.1.2, hk_.1.1.1.2, hk_.1.1.2, fun e_ => Or.elim (ho0.1 k_ e_.symm) (fun hs_ => hk_.2.1 hs_) (fun hn_ => Nat.not_le.2 hk_.2.2 hn_)⟩)); replace HR236 := Aside0.mk ((show Kd.C (Kd.int .u64) w74 A43 y233.length y233 from by rw [Ny233.out, KA43.out]; exact Kd.C_mid (lo := (x11_1 : Int).toNat) (hi := ((wrap64 ((ji23) + 1)) : Int).toNat) (c := co18) ((Kd.R_reads' (Kd.R_mono (ok' := fun k_ => some k_ ≠ (.slice (some ad230) t221.length co17 : Value).ownBlock ∧ some k_ ≠ (.slice Ao21 x10_1.length co21 : Value).ownBlock ∧ some k_ ≠ (.slice Ao70 t237.length co70 : Value).ownBlock ∧ some k_ ≠ (v241 : Value).ownBlock ∧ some k_ ≠ (v247 : Value).ownBlock) (Kd.R_keptB (HO_7.out) hkp (fun k_ hk_ hs_ => (hk_.2) hs_)) (fun k_ hk_ => ⟨hk_.1.1.1.1.1, hk_.1.1.1.1.2, hk_.1.1.1.2, hk_.1.1.2, fun e_ => Or.elim (ho0.1 k_ e_.symm) (fun hs_ => hk_.2.1 hs_) (fun hn_ => Nat.not_le.2 hk_.2.2 hn_)⟩))).2.2) KM43.out KL43.out ((Kd.R_reads' (Kd.R_mono (ok' := fun k_ => some k_ ≠ (.slice (some ad230) t221.length co17 : Value).ownBlock ∧ some k_ ≠ (.slice Ao21 x10_1.length co21 : Value).ownBlock ∧ some k_ ≠ (.slice Ao70 t237.length co70 : Value).ownBlock ∧ some k_ ≠ (v241 : Value).ownBlock ∧ some k_ ≠ (v247 : Value).ownBlock) (Kd.R_keptB (HO_7.out) hkp (fun k_ hk_ hs_ => (hk_.2) hs_)) (fun k_ hk_ => ⟨hk_.1.1.1.1.1, hk_.1.1.1.1.2, hk_.1.1.1.2, hk_.1.1.2, fun e_ => Or.elim (ho0.1 k_ e_.symm) (fun hs_ => hk_.2.1 hs_) (fun hn_ => Nat.not_le.2 hk_.2.2 hn_)⟩))).2.1))); replace HO_7 := Aside0.mk (Kd.R_mono (ok' := fun k_ => some k_ ≠ (.slice (some ad230) t221.length co17 : Value).ownBlock ∧ some k_ ≠ (.slice Ao21 x10_1.length co21 : Value).ownBlock ∧ some k_ ≠ (.slice Ao70 t237.length co70 : Value).ownBlock ∧ some k_ ≠ (v241 : Value).ownBlock ∧ some k_ ≠ (v247 : Value).ownBlock) (Kd.R_keptB (HO_7.out) hkp (fun k_ hk_ hs_ => (hk_.2) hs_)) (fun k_ hk_ => ⟨hk_.1.1.1.1.1, hk_.1.1.1.1.2, hk_.1.1.1.2, hk_.1.1.2, fun e_ => Or.elim (ho0.1 k_ e_.symm) (fun hs_ => hk_.2.1 hs_) (fun hn_ => Nat.not_le.2 hk_.2.2 hn_)⟩)); replace HB := Aside0.mk (hb); clear HO245; (try clear hb); (try clear hkp); (try clear ho0); obtain ⟨Ao75, co75, eo75⟩ := Kd.R_slice HO248.out; subst eo75; obtain ⟨Ao76, co76, eo76⟩ := Kd.R_slice HO242.out; subst eo76) | ((with_reducible refine gate_callee (f := 92) rfl ?_); refine goesL_ (some 93) rfl rfl Try.func92 (by kernel_rfl) rfl #[.slice Ao75 t246.length co75, .slice Ao76 t240.length co76] rfl uM ?_; (with_reducible refine (nat_compare.calls k2 _ _ t246 _ _ t240 t249 _ ?side1 ?side2 ?side3 ?side4 A48.out).mono ?_); (case side1 => exact uC (Kd.R_reads' HO248.out).2.2); (case side2 => exact (Kd.R_reads' HO248.out).2.1); (case side3 => exact uC (Kd.R_reads' HO242.out).2.2); (case side4 => exact (Kd.R_reads' HO242.out).2.1); rintro e w' ⟨rfl, ⟨nd, rfl⟩⟩; refine ⟨_, rfl, ?_⟩))
      first | go_roundg k2 | ((try simp only [← hji35] at H'); simp only [← hji35]; go_roundg k2) | ((try simp only [← hji32] at H'); simp only [← hji32]; go_roundg k2) | ((try simp only [← hji29] at H'); simp only [← hji29]; go_roundg k2) | ((try simp only [← hji26] at H'); simp only [← hji26]; go_roundg k2) | ((try simp only [← hji23] at H'); simp only [← hji23]; go_roundg k2) | ((try simp only [← hji10] at H'); simp only [← hji10]; go_roundg k2)
      case measure => have := HK1.out; have := HK2.out; omega
      case rel => first | exact ⟨(IntKind.u64.wrap (x12_2 - 1)), uG, H', ⟨by have := HK1.out; have := HK2.out; omega⟩, ⟨by (try simp only [hl7_1]); (try simp only [hl10_1]); (with_reducible repeat (first | apply Kd.R_alloc | apply Kd.R_drewN | apply Kd.R_drew)); exact Kd.R_mono HO_7.out (fun _ hk => ⟨hk.1, hk.2.1⟩)⟩, ⟨by (try simp only [hl7_1]); (try simp only [hl10_1]); (with_reducible repeat (first | apply Kd.R_alloc | apply Kd.R_drewN | apply Kd.R_drew)); exact Kd.R_mono HO_8.out (fun _ hk => ⟨hk.1, hk.2.1⟩)⟩, ⟨by (try simp only [hl7_1]); (try simp only [hl10_1]); (with_reducible repeat (first | apply Kd.R_alloc | apply Kd.R_drewN | apply Kd.R_drew)); exact Kd.R_mono HO_10.out (fun _ hk => ⟨hk.1, hk.2.1⟩)⟩, ⟨by repeat (first | (with_reducible exact HR236.out) | (with_reducible refine Kd.C_alloc ?_ _) | (with_reducible refine Kd.C_drewN ?_ _) | (with_reducible refine Kd.C_drew ?_) | exact HR236.out)⟩, ⟨uB⟩⟩ | (simp only [← hji35] at H'; exact ⟨(IntKind.u64.wrap (x12_2 - 1)), uG, H', ⟨by have := HK1.out; have := HK2.out; omega⟩, ⟨by (try simp only [hl7_1]); (try simp only [hl10_1]); (with_reducible repeat (first | apply Kd.R_alloc | apply Kd.R_drewN | apply Kd.R_drew)); exact Kd.R_mono HO_7.out (fun _ hk => ⟨hk.1, hk.2.1⟩)⟩, ⟨by (try simp only [hl7_1]); (try simp only [hl10_1]); (with_reducible repeat (first | apply Kd.R_alloc | apply Kd.R_drewN | apply Kd.R_drew)); exact Kd.R_mono HO_8.out (fun _ hk => ⟨hk.1, hk.2.1⟩)⟩, ⟨by (try simp only [hl7_1]); (try simp only [hl10_1]); (with_reducible repeat (first | apply Kd.R_alloc | apply Kd.R_drewN | apply Kd.R_drew)); exact Kd.R_mono HO_10.out (fun _ hk => ⟨hk.1, hk.2.1⟩)⟩, ⟨by repeat (first | (with_reducible exact HR236.out) | (with_reducible refine Kd.C_alloc ?_ _) | (with_reducible refine Kd.C_drewN ?_ _) | (with_reducible refine Kd.C_drew ?_) | exact HR236.out)⟩, ⟨uB⟩⟩) | (simp only [← hji32] at H'; exact ⟨(IntKind.u64.wrap (x12_2 - 1)), uG, H', ⟨by have := HK1.out; have := HK2.out; omega⟩, ⟨by (try simp only [hl7_1]); (try simp only [hl10_1]); (with_reducible repeat (first | apply Kd.R_alloc | apply Kd.R_drewN | apply Kd.R_drew)); exact Kd.R_mono HO_7.out (fun _ hk => ⟨hk.1, hk.2.1⟩)⟩, ⟨by (try simp only [hl7_1]); (try simp only [hl10_1]); (with_reducible repeat (first | apply Kd.R_alloc | apply Kd.R_drewN | apply Kd.R_drew)); exact Kd.R_mono HO_8.out (fun _ hk => ⟨hk.1, hk.2.1⟩)⟩, ⟨by (try simp only [hl7_1]); (try simp only [hl10_1]); (with_reducible repeat (first | apply Kd.R_alloc | apply Kd.R_drewN | apply Kd.R_drew)); exact Kd.R_mono HO_10.out (fun _ hk => ⟨hk.1, hk.2.1⟩)⟩, ⟨by repeat (first | (with_reducible exact HR236.out) | (with_reducible refine Kd.C_alloc ?_ _) | (with_reducible refine Kd.C_drewN ?_ _) | (with_reducible refine Kd.C_drew ?_) | exact HR236.out)⟩, ⟨uB⟩⟩) | (simp only [← hji29] at H'; exact ⟨(IntKind.u64.wrap (x12_2 - 1)), uG, H', ⟨by have := HK1.out; have := HK2.out; omega⟩, ⟨by (try simp only [hl7_1]); (try simp only [hl10_1]); (with_reducible repeat (first | apply Kd.R_alloc | apply Kd.R_drewN | apply Kd.R_drew)); exact Kd.R_mono HO_7.out (fun _ hk => ⟨hk.1, hk.2.1⟩)⟩, ⟨by (try simp only [hl7_1]); (try simp only [hl10_1]); (with_reducible repeat (first | apply Kd.R_alloc | apply Kd.R_drewN | apply Kd.R_drew)); exact Kd.R_mono HO_8.out (fun _ hk => ⟨hk.1, hk.2.1⟩)⟩, ⟨by (try simp only [hl7_1]); (try simp only [hl10_1]); (with_reducible repeat (first | apply Kd.R_alloc | apply Kd.R_drewN | apply Kd.R_drew)); exact Kd.R_mono HO_10.out (fun _ hk => ⟨hk.1, hk.2.1⟩)⟩, ⟨by repeat (first | (with_reducible exact HR236.out) | (with_reducible refine Kd.C_alloc ?_ _) | (with_reducible refine Kd.C_drewN ?_ _) | (with_reducible refine Kd.C_drew ?_) | exact HR236.out)⟩, ⟨uB⟩⟩) | (simp only [← hji26] at H'; exact ⟨(IntKind.u64.wrap (x12_2 - 1)), uG, H', ⟨by have := HK1.out; have := HK2.out; omega⟩, ⟨by (try simp only [hl7_1]); (try simp only [hl10_1]); (with_reducible repeat (first | apply Kd.R_alloc | apply Kd.R_drewN | apply Kd.R_drew)); exact Kd.R_mono HO_7.out (fun _ hk => ⟨hk.1, hk.2.1⟩)⟩, ⟨by (try simp only [hl7_1]); (try simp only [hl10_1]); (with_reducible repeat (first | apply Kd.R_alloc | apply Kd.R_drewN | apply Kd.R_drew)); exact Kd.R_mono HO_8.out (fun _ hk => ⟨hk.1, hk.2.1⟩)⟩, ⟨by (try simp only [hl7_1]); (try simp only [hl10_1]); (with_reducible repeat (first | apply Kd.R_alloc | apply Kd.R_drewN | apply Kd.R_drew)); exact Kd.R_mono HO_10.out (fun _ hk => ⟨hk.1, hk.2.1⟩)⟩, ⟨by repeat (first | (with_reducible exact HR236.out) | (with_reducible refine Kd.C_alloc ?_ _) | (with_reducible refine Kd.C_drewN ?_ _) | (with_reducible refine Kd.C_drew ?_) | exact HR236.out)⟩, ⟨uB⟩⟩) | (simp only [← hji23] at H'; exact ⟨(IntKind.u64.wrap (x12_2 - 1)), uG, H', ⟨by have := HK1.out; have := HK2.out; omega⟩, ⟨by (try simp only [hl7_1]); (try simp only [hl10_1]); (with_reducible repeat (first | apply Kd.R_alloc | apply Kd.R_drewN | apply Kd.R_drew)); exact Kd.R_mono HO_7.out (fun _ hk => ⟨hk.1, hk.2.1⟩)⟩, ⟨by (try simp only [hl7_1]); (try simp only [hl10_1]); (with_reducible repeat (first | apply Kd.R_alloc | apply Kd.R_drewN | apply Kd.R_drew)); exact Kd.R_mono HO_8.out (fun _ hk => ⟨hk.1, hk.2.1⟩)⟩, ⟨by (try simp only [hl7_1]); (try simp only [hl10_1]); (with_reducible repeat (first | apply Kd.R_alloc | apply Kd.R_drewN | apply Kd.R_drew)); exact Kd.R_mono HO_10.out (fun _ hk => ⟨hk.1, hk.2.1⟩)⟩, ⟨by repeat (first | (with_reducible exact HR236.out) | (with_reducible refine Kd.C_alloc ?_ _) | (with_reducible refine Kd.C_drewN ?_ _) | (with_reducible refine Kd.C_drew ?_) | exact HR236.out)⟩, ⟨uB⟩⟩) | (simp only [← hji10] at H'; exact ⟨(IntKind.u64.wrap (x12_2 - 1)), uG, H', ⟨by have := HK1.out; have := HK2.out; omega⟩, ⟨by (try simp only [hl7_1]); (try simp only [hl10_1]); (with_reducible repeat (first | apply Kd.R_alloc | apply Kd.R_drewN | apply Kd.R_drew)); exact Kd.R_mono HO_7.out (fun _ hk => ⟨hk.1, hk.2.1⟩)⟩, ⟨by (try simp only [hl7_1]); (try simp only [hl10_1]); (with_reducible repeat (first | apply Kd.R_alloc | apply Kd.R_drewN | apply Kd.R_drew)); exact Kd.R_mono HO_8.out (fun _ hk => ⟨hk.1, hk.2.1⟩)⟩, ⟨by (try simp only [hl7_1]); (try simp only [hl10_1]); (with_reducible repeat (first | apply Kd.R_alloc | apply Kd.R_drewN | apply Kd.R_drew)); exact Kd.R_mono HO_10.out (fun _ hk => ⟨hk.1, hk.2.1⟩)⟩, ⟨by repeat (first | (with_reducible exact HR236.out) | (with_reducible refine Kd.C_alloc ?_ _) | (with_reducible refine Kd.C_drewN ?_ _) | (with_reducible refine Kd.C_drew ?_) | exact HR236.out)⟩, ⟨uB⟩⟩)
   rw [if_neg c22] at H
   have c22b0 : decide (0 ≤ x11_1) = false := decide_eq_false c22
   clear c22
   replace H := ub H; obtain ⟨t255, A77, H⟩ := H
   replace H := uT H; obtain ⟨c78, H⟩ := H
   have c78b0 := eq_true c78
   have c78b1 : decide (0 ≤ (t255.length : Int)) = true := decide_eq_true c78
   clear c78
   replace H := uT H; obtain ⟨c79, H⟩ := H
   have c79b0 := eq_true c79
   have c79b1 : decide (((t255.length : Int) : Int).toNat ≤ 35184372088832) = true := decide_eq_true c79
   clear c79
   obtain ⟨y258, hy258⟩ : ∃ y_ : List Int, y_ = (List.replicate ((t255.length : Int) : Int).toNat 0) := ⟨_, rfl⟩
   replace H : (nat_long.l2 k1 (IntKind.u64.wrap (t214)) x10_1 t255 y258 (t255.length : Int) 0) = some (r1, r2) := by first | (rw [hy258]; with_reducible exact H) | (have H2_ := (Option.bind_some _ _).symm.trans H; rw [hy258]; with_reducible exact H2_) | (have H2_ := (Option.bind_some _ _).symm.trans H; with_reducible exact H2_) | with_reducible exact H | (rw [hy258]; exact H) | exact H
   have Ny258 := Aside0.mk hy258; clear hy258
   have H' := Aside0.mk H
   clear H
   go_wp2_with (first | ((with_reducible refine gate_callee (f := 133) rfl ?_); refine goesL_ (some 107) rfl rfl Try.func133 (by kernel_rfl) rfl #[.slice Ao18 x7_1.length co18] rfl uM ?_; (with_reducible refine (nat_trim.calls k1 (fun k_ => some k_ = (.slice Ao18 x7_1.length co18 : Value).ownBlock) (.slice Ao18 x7_1.length co18) x7_1 t255 w _ ?side1 ?side2 A77.out).mono ?_); (case side1 => repeat (first | (with_reducible first | exact HB.out | apply below_alloc | apply pw_below_drewN | apply below_drew1) | exact HB.out)); (case side2 => exact Kd.R_tight rfl HO_7.out); rintro e w80 ⟨v256, rfl, ho0, hb, hkp⟩; refine ⟨_, rfl, ?_⟩; have HO257 := Aside0.mk (Kd.R_mono (ok' := fun k_ => some k_ ≠ (.slice Ao17 t221.length co17 : Value).ownBlock ∧ some k_ ≠ (.slice Ao21 x10_1.length co21 : Value).ownBlock) ho0 (fun k_ hk_ => ⟨Or.elim hk_ (fun hs_ => fun e_ => (((HO_8.out).1 k_ e_.symm).1) hs_) (fun hn_ => (Kd.fresh' (Kd.R_lt (uR HO_8.out)) k_ hn_)), Or.elim hk_ (fun hs_ => fun e_ => (((HO_10.out).1 k_ e_.symm).1) hs_) (fun hn_ => (Kd.fresh' (Kd.R_lt (uR HO_10.out)) k_ hn_))⟩)); replace HO_8 := Aside0.mk (Kd.R_mono (ok' := fun k_ => some k_ ≠ (.slice Ao21 x10_1.length co21 : Value).ownBlock ∧ some k_ ≠ (v256 : Value).ownBlock) (Kd.R_keptB (HO_8.out) hkp (fun k_ hk_ hs_ => (hk_.1) hs_)) (fun k_ hk_ => ⟨hk_.1.2, fun e_ => Or.elim (ho0.1 k_ e_.symm) (fun hs_ => hk_.2.1 hs_) (fun hn_ => Nat.not_le.2 hk_.2.2 hn_)⟩)); replace HO_10 := Aside0.mk (Kd.R_mono (ok' := fun k_ => some k_ ≠ (.slice Ao17 t221.length co17 : Value).ownBlock ∧ some k_ ≠ (v256 : Value).ownBlock) (Kd.R_keptB (HO_10.out) hkp (fun k_ hk_ hs_ => (hk_.1) hs_)) (fun k_ hk_ => ⟨hk_.1.2, fun e_ => Or.elim (ho0.1 k_ e_.symm) (fun hs_ => hk_.2.1 hs_) (fun hn_ => Nat.not_le.2 hk_.2.2 hn_)⟩)); replace HB := Aside0.mk (hb); clear HO_7; (try clear hb); (try clear hkp); (try clear ho0); obtain ⟨Ao81, co81, eo81⟩ := Kd.R_slice HO257.out; subst eo81) | ((with_reducible refine gate_dst (N := 110) rfl ?_); (try (refine gate_guard (by rfl) ?_; dsimp only)); refine Kd.R_make (Kd.int .u64) _ 30 rfl (N := 110) rfl 40 _ _ rfl (t255.length : Int) rfl rfl Try.underlying40 (.int .u64 0) 8 info30 rfl (by decide) (by omega) 0 (ok := fun _ => True) (okp := fun _ => True) rfl (fun _ hk => hk) trivial uO (Nat.le_trans (Nat.mul_le_mul_right _ (uO : (t255.length : Int).toNat ≤ 35184372088832)) (by omega)) (Below.refl _ _) (Nat.le_refl _) ?_; intro v259 w82 ho83 hb hg_ hnew_; clear hg_ hnew_; (first | rw [← Ny258.out] at ho83 | (simp only [Int.reduceToNat] at ho83; rw [← Ny258.out] at ho83)); have HO260 := Aside0.mk (Kd.R_lower (Kd.R_new' (Kd.R_new' (Kd.R_new' ho83 (Kd.R_lt (uR HO_8.out))) (Kd.R_lt (uR HO_10.out))) (Kd.R_lt (uR HO257.out))) (below_size uB)); replace HO_8 := ueR HO_8 ho83 hb; replace HO_10 := ueR HO_10 ho83 hb; replace HO257 := ueR HO257 ho83 hb; replace HB := uy hb; clear hb ho83))
   go_loopg [113] k1 (fun kq v113 w' => ∃ (x16_2 : List Int) (x113_2 : Int), v113 = .int .i64 x113_2 ∧ Aside0 (nat_long.l2 kq (IntKind.u64.wrap (t214)) x10_1 t255 x16_2 (t255.length : Int) x113_2 = some (r1, r2)) ∧ Aside0 (kq ≤ k1) ∧ Aside0 (Kd.R (Kd.int .u64) 30 w' w.heap.size (fun k_ => some k_ ≠ ((.slice Ao81 t255.length co81) : Value).ownBlock ∧ some k_ ≠ (v259 : Value).ownBlock) (.slice Ao21 x10_1.length co21) x10_1) ∧ Aside0 (Kd.R (Kd.int .u64) 30 w' w.heap.size (fun k_ => some k_ ≠ ((.slice Ao21 x10_1.length co21) : Value).ownBlock ∧ some k_ ≠ (v259 : Value).ownBlock) (.slice Ao81 t255.length co81) t255) ∧ Aside0 (Kd.R (Kd.int .u64) 30 w' w.heap.size (fun k_ => some k_ ≠ ((.slice Ao21 x10_1.length co21) : Value).ownBlock ∧ some k_ ≠ ((.slice Ao81 t255.length co81) : Value).ownBlock) v259 x16_2) ∧ Aside0 (Below w.heap.size w w'))
   case atStart => exact ⟨(y258), (0), uG, H', ⟨Nat.le_refl _⟩, ⟨by (try simp only [hl7_1]); (try simp only [hl10_1]); (with_reducible repeat (first | apply Kd.R_alloc | apply Kd.R_drewN | apply Kd.R_drew)); exact Kd.R_mono HO_10.out (fun _ hk => ⟨hk.1.2, hk.2⟩)⟩, ⟨by (try simp only [hl7_1]); (try simp only [hl10_1]); (with_reducible repeat (first | apply Kd.R_alloc | apply Kd.R_drewN | apply Kd.R_drew)); exact Kd.R_mono HO257.out (fun _ hk => ⟨hk.1.2, hk.2⟩)⟩, ⟨by (try simp only [hl7_1]); (try simp only [hl10_1]); (with_reducible repeat (first | apply Kd.R_alloc | apply Kd.R_drewN | apply Kd.R_drew)); exact Kd.R_mono HO260.out (fun _ hk => ⟨hk.1.2, hk.2⟩)⟩, ⟨uB⟩⟩
   case round =>
    clear H'
    (try clear c1); (try clear c2); (try clear p2 p2); (try clear q2 q2); (try clear hx2); (try clear c3); (try clear c4); (try clear c4b0); (try clear q4 q4); (try clear c5); (try clear c5b0); (try clear p5); (try clear q5); (try clear hx5); (try clear hf5); (try clear p6 p6); (try clear c7); (try clear c9); (try clear c11); (try clear c11b0); (try clear c11b1); (try clear c12); (try clear c12b0); (try clear c12b1); (try clear c13); (try clear c14); (try clear p21 p21); (try clear q21 q21); (try clear hx21); (try clear c22); (try clear c22b0); (try clear p22 p22); (try clear q22 q22); (try clear hx22); (try clear p23 p23); (try clear q23 q23); (try clear hx23); (try clear c24); (try clear c24b0); (try clear c25); (try clear c25b0); (try clear c27); (try clear c27b0); (try clear c28); (try clear c28b0); (try clear c30); (try clear c30b0); (try clear c31); (try clear c31b0); (try clear c33); (try clear c33b0); (try clear c34); (try clear c34b0); (try clear c36); (try clear c36b0); (try clear c37); (try clear c37b0); (try clear c39); (try clear c39b0); (try clear c39b1); (try clear c40); (try clear c40b0); (try clear c40b1); (try clear c41); (try clear c41b0); (try clear c41b1); (try clear c43); (try clear q43 q43); (try clear c49); (try clear c49b0); (try clear c51); (try clear c51b0); (try clear c51b1); (try clear c52); (try clear c52b0); (try clear c53); (try clear c53b0); (try clear p54 p54); (try clear q54 q54); (try clear hx54 hx54_0); (try clear hf54); (try clear p64); (try clear c78); (try clear c78b0); (try clear c78b1); (try clear c79); (try clear c79b0); (try clear c79b1); (try clear hx213_0); (try clear hx227_0); (try clear hx228_0); (try clear hx229_0); (try clear hx230_0); (try clear hx231_0); (try clear p213); (try clear p227); (try clear p228); (try clear p229); (try clear p230); (try clear p231); (try clear q043); (try clear q213); (try clear q227); (try clear q228); (try clear q229); (try clear q230); (try clear q231)
    obtain ⟨x16_2, x113_2, rfl, HA, HK2, HO_10, HO_15, HO_16, HB⟩ := hrel
    cases gk with
    | zero => exact absurd HA.out (by simp [nat_long.l2])
    | succ k2 =>
     have H := HA.out
     clear HA
     simp only [nat_long.l2] at H
     by_cases c84 : x113_2 < (t255.length : Int)
     ·
      rw [if_pos c84] at H
      have c84b0 : decide (x113_2 < (t255.length : Int)) = true := decide_eq_true c84
      (try (have c84b0h0 := c84b0; simp only [hl7_1] at c84b0h0))
      (try (have c84b0h1 := c84b0; simp only [hl10_1] at c84b0h1))
      clear c84
      replace H := uT H; obtain ⟨c85, H⟩ := H
      have c85b0 : decide (0 ≤ x113_2) = true := decide_eq_true c85
      clear c85
      replace H := uT H; obtain ⟨c86, H⟩ := H
      have c86b0 : decide (x113_2 < (t255.length : Int)) = true := decide_eq_true c86
      (try (have c86b0h0 := c86b0; simp only [hl7_1] at c86b0h0))
      (try (have c86b0h1 := c86b0; simp only [hl10_1] at c86b0h1))
      clear c86
      obtain ⟨ji87, hji87⟩ : ∃ j_ : Int, (IntKind.u64.wrap (t214)) = j_ := ⟨_, rfl⟩
      first | rw [hji87] at H | simp only [hji87] at H
      replace H := uT H; obtain ⟨c88, H⟩ := H
      have c88b0 := eq_true c88
      have c88b1 : decide (0 ≤ (ji87)) = true := decide_eq_true c88
      clear c88
      obtain ⟨ji89, hji89⟩ : ∃ j_ : Int, (shr .u64 (rd t255 x113_2) (ji87)) = j_ := ⟨_, rfl⟩
      first | rw [hji89] at H | simp only [hji89] at H
      have hji89_ : ((rd t255 x113_2) / 2 ^ min (ji87).toNat 64) = ji89 := hji89
      have hji89z : (ji87) ≤ 64 → ((rd t255 x113_2) / 2 ^ (ji87).toNat) = ji89 := shr_small hji89
      replace H := uT H; obtain ⟨c90, H⟩ := H
      have c90b0 : decide (x113_2 < (x16_2.length : Int)) = true := decide_eq_true c90
      (try (have c90b0h0 := c90b0; simp only [hl7_1] at c90b0h0))
      (try (have c90b0h1 := c90b0; simp only [hl10_1] at c90b0h1))
      clear c90
      obtain ⟨y262, hy262⟩ : ∃ y_ : List Int, y_ = (x16_2.set (x113_2 : Int).toNat (ji89)) := ⟨_, rfl⟩
      replace H : (if (ji87) > 0 then (if (wrap64 (x113_2 + 1)) < (t255.length : Int) then (if 0 ≤ (wrap64 (x113_2 + 1)) then (if 0 ≤ (IntKind.u64.wrap (64 - (ji87))) then (nat_long.l2 k2 (ji87) x10_1 t255 (y262.set (x113_2 : Int).toNat (Go.bits .or .u64 (rd y262 x113_2) (shl .u64 (rd t255 (wrap64 (x113_2 + 1))) (IntKind.u64.wrap (64 - (ji87)))))) (t255.length : Int) (wrap64 (x113_2 + 1))) else (none)) else (none)) else (nat_long.l2 k2 (ji87) x10_1 t255 y262 (t255.length : Int) (wrap64 (x113_2 + 1)))) else (nat_long.l2 k2 (ji87) x10_1 t255 y262 (t255.length : Int) (wrap64 (x113_2 + 1)))) = some (r1, r2) := by first | (rw [hy262]; with_reducible exact H) | (have H2_ := (Option.bind_some _ _).symm.trans H; rw [hy262]; with_reducible exact H2_) | (have H2_ := (Option.bind_some _ _).symm.trans H; with_reducible exact H2_) | with_reducible exact H | (rw [hy262]; exact H) | exact H
      have Ny262 := Aside0.mk hy262; clear hy262
      by_cases c92 : (ji87) > 0
      ·
       rw [if_pos c92] at H
       have c92b0 : decide (0 < (ji87)) = true := decide_eq_true c92
       clear c92
       by_cases c93 : (wrap64 (x113_2 + 1)) < (t255.length : Int)
       ·
        rw [if_pos c93] at H
        have c93b0 : decide ((wrap64 (x113_2 + 1)) < (t255.length : Int)) = true := decide_eq_true c93
        (try (have c93b0h0 := c93b0; simp only [hl7_1] at c93b0h0))
        (try (have c93b0h1 := c93b0; simp only [hl10_1] at c93b0h1))
        clear c93
        obtain ⟨ji94, hji94⟩ : ∃ j_ : Int, (wrap64 (x113_2 + 1)) = j_ := ⟨_, rfl⟩
        first | rw [hji94] at H | simp only [hji94] at H
        (try rw [hji94] at c93b0)
        have hji94w : (IntKind.i64.wrap (x113_2 + 1)) = ji94 := (i64_w _).trans hji94
        replace H := uT H; obtain ⟨c95, H⟩ := H
        have c95b0 : decide (0 ≤ (ji94)) = true := decide_eq_true c95
        clear c95
        obtain ⟨ji96, hji96⟩ : ∃ j_ : Int, (IntKind.u64.wrap (64 - (ji87))) = j_ := ⟨_, rfl⟩
        first | rw [hji96] at H | simp only [hji96] at H
        replace H := uT H; obtain ⟨c97, H⟩ := H
        have c97b0 := eq_true c97
        have c97b1 : decide (0 ≤ (ji96)) = true := decide_eq_true c97
        clear c97
        obtain ⟨ji98, hji98⟩ : ∃ j_ : Int, (shl .u64 (rd t255 (ji94)) (ji96)) = j_ := ⟨_, rfl⟩
        first | rw [hji98] at H | simp only [hji98] at H
        have hji98_ : (IntKind.u64.wrap ((rd t255 (ji94)) * 2 ^ min (ji96).toNat 64)) = ji98 := hji98
        have hji98z : (ji96) ≤ 64 → (IntKind.u64.wrap ((rd t255 (ji94)) * 2 ^ (ji96).toNat)) = ji98 := shl_small hji98
        obtain ⟨y265, hy265⟩ : ∃ y_ : List Int, y_ = (y262.set (x113_2 : Int).toNat (Go.bits .or .u64 (rd y262 x113_2) (ji98))) := ⟨_, rfl⟩
        replace H : (nat_long.l2 k2 (ji87) x10_1 t255 y265 (t255.length : Int) ji94) = some (r1, r2) := by first | (rw [hy265]; with_reducible exact H) | (have H2_ := (Option.bind_some _ _).symm.trans H; rw [hy265]; with_reducible exact H2_) | (have H2_ := (Option.bind_some _ _).symm.trans H; with_reducible exact H2_) | with_reducible exact H | (rw [hy265]; exact H) | exact H
        have Ny265 := Aside0.mk hy265; clear hy265
        have H' := Aside0.mk H
        clear H
        have p261 : 0 ≤ (x113_2 : Int) := uO
        have q261 : x113_2 < (t255.length : Int) := uO
        obtain ⟨ad261, e261, hx261_0⟩ := Kd.at_int (Kd.R_reads' HO_15.out).2.2 x113_2 p261 q261
        cases e261
        replace p261 := eq_true p261
        replace q261 := eq_true q261
        have p91 : 0 ≤ (x113_2 : Int) := uO
        have q91 : (x113_2 : Int) < ((x16_2.length : Int) : Int) := uO
        obtain ⟨go91, co91, eo91, gb91, gl91, cl91, HG91⟩ := Kd.R_form HO_16.out (by omega)
        (first | cases eo91 | (injection eo91 with ea_ en_ ec_; (first | subst ea_ | (injection ea_ with ea_; subst ea_)); subst ec_; clear en_))
        have GB91 := Aside0.mk gb91; have GG91 := Aside0.mk HG91; clear gb91 gl91 HG91
        obtain ⟨hx91_0, hf91_0⟩ := Kd.R_celln 0 HO_16.out (x113_2 : Int) p91 q91
        replace p91 := eq_true p91
        replace q91 := eq_true q91
        have HP100 := Kd.R_putg HO_16.out (x113_2 : Int) ji89
        try go_wp2_with (first | ((with_reducible refine gate_store (t := 30) (p := 124) rfl ?_); refine store_event (t := 30) (p := 124) (v := ?vo_w101) (w1 := (wr.setCell ⟨go91, (x113_2 : Int).toNat, none⟩ (.int .u64 ji89))) ?hg ?ho ?hn ?hr ?_; (case ho => rfl); (case hg => rfl); (case hn => rfl); (case hr => first | (go_simp; done) | (go_simp; rfl) | (obtain ⟨hy_, hz_⟩ := Kd.R_celln 0 HO_16.out (x113_2 : Int) uO uO; (try simp only [Go.IntWalk.toNatUp] at hy_ hz_); (try simp only [Int.reduceToNat, Int.toNat_zero, Int.toNat_ofNat] at hy_ hz_); first | (go_simp; done) | (go_simp; rfl))); intro w101 hw; have hg : wr.grownBy w101 (some go91) := (by rw [hw]; exact HP100.2); have hp_ : Kd.R (Kd.int .u64) 30 w101 w.heap.size (fun k_ => some k_ ≠ (.slice Ao21 x10_1.length co21 : Value).ownBlock ∧ some k_ ≠ (.slice (some ad261) t255.length co81 : Value).ownBlock) (.slice (some ⟨go91, 0, none⟩) x16_2.length co91) y262 := (by rw [hw, Ny262.out]; exact HP100.1); clear HP100; replace HO_10 := Aside0.mk (Kd.R_after (v := (.slice (some ⟨go91, 0, none⟩) x16_2.length co91)) (v1 := (.slice (some ⟨go91, 0, none⟩) x16_2.length co91)) (ok := (fun k_ => some k_ ≠ (.slice (some ad261) t255.length co81 : Value).ownBlock)) (uR HO_10.out) hg (.inl rfl)); replace HO_15 := Aside0.mk (Kd.R_after (v := (.slice (some ⟨go91, 0, none⟩) x16_2.length co91)) (v1 := (.slice (some ⟨go91, 0, none⟩) x16_2.length co91)) (ok := (fun k_ => some k_ ≠ (.slice Ao21 x10_1.length co21 : Value).ownBlock)) (uR HO_15.out) hg (.inl rfl)); replace HO_16 := Aside0.mk (hp_); replace HB := Aside0.mk ((by rw [hw]; exact below_set (HB.out) GB91.out : Below w.heap.size w w101)); clear hg hw hp_))
        replace HO_10 := Aside0.mk (Kd.R_drew HO_10.out); replace HO_15 := Aside0.mk (Kd.R_drew HO_15.out); replace HO_16 := Aside0.mk (Kd.R_drew HO_16.out); replace HB := Aside0.mk (below_drew1 HB.out)
        have p263 : 0 ≤ (x113_2 : Int) := uO
        have q263 : x113_2 < (y262.length : Int) := (by have h_ : (x113_2 : Int) < ((x16_2.length : Int) : Int) := uO; first | (have e_ := (Kd.R_reads' HO_16.out).1; omega) | simpa only [Ny262.out, List.length_set] using h_)
        have ql263 : ((x113_2 : Int) < ((x16_2.length : Int) : Int)) = True := eq_true uO
        obtain ⟨ad263, e263, hx263_0⟩ := Kd.at_int (Kd.R_reads' HO_16.out).2.2 x113_2 p263 q263
        obtain rfl : (⟨go91, 0, none⟩ : Addr) = ad263 := (by injection e263)
        (first | simp only [add_plain] at hx263_0 | simp only [add_at] at hx263_0 | simp only [Addr.add, Nat.zero_add] at hx263_0 | skip)
        replace p263 := eq_true p263
        replace q263 := eq_true q263
        have p264 : 0 ≤ ((ji94) : Int) := uO
        have q264 : (ji94) < (t255.length : Int) := uO
        obtain ⟨ad264, e264, hx264_0⟩ := Kd.at_int (Kd.R_reads' HO_15.out).2.2 (ji94) p264 q264
        obtain rfl : ad261 = ad264 := (by injection e264)
        replace p264 := eq_true p264
        replace q264 := eq_true q264
        have p99 : 0 ≤ (x113_2 : Int) := uO
        have q99 : (x113_2 : Int) < ((x16_2.length : Int) : Int) := uO
        obtain ⟨hx99_0, hf99_0⟩ := Kd.R_celln 0 HO_16.out (x113_2 : Int) p99 q99
        replace p99 := eq_true p99
        replace q99 := eq_true q99
        have HP103 := Kd.R_putn HO_16.out (x113_2 : Int) (Go.bits .or .u64 (rd y262 x113_2) (ji98))
        rw [← Ny265.out] at HP103
        have HQ103 := Aside0.mk HP103; clear HP103
        refine start_ (n := 15) (S := fun w' => w'.cell? ⟨go91, (x113_2).toNat, none⟩ = some (.int .u64 (rd y262 x113_2)) ∧ w'.cell? (ad261.add ((ji94)).toNat) = some (.int .u64 (rd t255 (ji94)))) (ds := [14]) (.replicate 15 false) (by kernel_rfl) rfl rfl ⟨hx263_0, hx264_0⟩ (fun hHeld => ?_); refine with_tabW nat_long.tab22 nat_long.bits22 (fun HT_ HW_ => ?_)
        generalize w101.drew = w102 at HO_10 HO_15 HO_16 HB HQ103 hf99_0 hx263_0 hx264_0 hx99_0 hHeld ⊢
        refine pure_ (i := 0) (N := some 134) (v := ?_) (a' := ?_) (uA 15 1) rfl rfl (any_of HT_.out (by kernel_rfl)) (fun _ _ _ h => h) (Or.inl ⟨by rfl, ?_⟩) ?_ ?_
        rotate_left
        ·
         intro w'
         go_simp
         with_reducible rfl
        rotate_left
        · exact uQ
        refine pure_ (i := 1) (N := some 135) (v := ?_) (a' := ?_) (uA 15 3) rfl rfl (any_of HT_.out (by kernel_rfl)) (fun _ _ _ h => h) (Or.inl ⟨by rfl, ?_⟩) ?_ ?_
        rotate_left
        ·
         intro w'
         go_simp
         with_reducible rfl
        rotate_left
        · exact uQ
        refine pure_ (i := 2) (N := some 136) (v := ?_) (a' := ?_) (uA 15 7) rfl rfl (any_of HT_.out (by kernel_rfl)) (fun _ _ _ h => h) (Or.inl ⟨by rfl, ?_⟩) ?_ ?_
        rotate_left
        ·
         intro w'
         go_simp
         with_reducible rfl
        rotate_left
        · exact uQ
        refine pure_ (i := 4) (N := some 138) (v := ?_) (a' := ?_) (uA 15 23) rfl rfl (any_of HT_.out (by kernel_rfl)) (fun _ _ _ h => h) (Or.inl ⟨by rfl, ?_⟩) ?_ ?_
        rotate_left
        ·
         intro w'
         go_simp
         with_reducible rfl
        rotate_left
        · exact uQ
        refine pure_ (i := 5) (N := some 139) (v := ?_) (a' := ?_) (uA 15 55) rfl rfl (any_of HT_.out (by kernel_rfl)) (fun _ _ _ h => h) (Or.inl ⟨by rfl, ?_⟩) ?_ ?_
        rotate_left
        ·
         intro w'
         go_simp
         with_reducible rfl
        rotate_left
        · exact uQ
        refine pure_ (i := 6) (N := some 140) (v := ?_) (a' := ?_) (uA 15 119) rfl rfl (any_of HT_.out (by kernel_rfl)) (fun _ _ _ h => h) (Or.inl ⟨by rfl, ?_⟩) ?_ ?_
        rotate_left
        ·
         intro w'
         go_simp
         with_reducible rfl
        rotate_left
        · exact uQ
        refine pure_ (i := 7) (N := some 141) (v := ?_) (a' := ?_) (uA 15 247) rfl rfl (any_of HT_.out (by kernel_rfl)) (fun _ _ _ h => h) (Or.inl ⟨by rfl, ?_⟩) ?_ ?_
        rotate_left
        ·
         intro w'
         go_simp
         with_reducible rfl
        rotate_left
        · exact uQ
        refine pure_ (i := 9) (N := some 143) (v := ?_) (a' := ?_) (uA 15 759) rfl rfl (any_of HT_.out (by kernel_rfl)) (fun _ _ _ h => h) (Or.inl ⟨by rfl, ?_⟩) ?_ ?_
        rotate_left
        ·
         intro w'
         go_simp
         with_reducible rfl
        rotate_left
        · exact uQ
        refine pure_ (i := 10) (N := some 144) (v := ?_) (a' := ?_) (uA 15 1783) rfl rfl (any_of HT_.out (by kernel_rfl)) (fun _ _ _ h => h) (Or.inl ⟨by rfl, ?_⟩) ?_ ?_
        rotate_left
        ·
         intro w'
         go_simp
         with_reducible rfl
        rotate_left
        · exact uQ
        refine take_ (i := 3) (N := some 137) (v := ?_) (a' := ?_) (uA 15 1791) rfl rfl (take_ofW HT_.out HW_.out (by kernel_rfl)) (fun _ _ _ h => h) (Or.inl ⟨by rfl, ?_⟩) hHeld ?_ ?_
        rotate_left
        ·
         rintro w' ⟨s0, s1⟩
         go_simp
         with_reducible rfl
        rotate_left
        · exact uQ
        refine take_ (i := 8) (N := some 142) (v := ?_) (a' := ?_) (uA 15 2047) rfl rfl (take_ofW HT_.out HW_.out (by kernel_rfl)) (fun _ _ _ h => h) (Or.inl ⟨by rfl, ?_⟩) hHeld ?_ ?_
        rotate_left
        ·
         rintro w' ⟨s0, s1⟩
         go_simp
         with_reducible rfl
        rotate_left
        · exact uQ
        refine pure_ (i := 11) (N := some 145) (v := ?_) (a' := ?_) (uA 15 4095) rfl rfl (any_of HT_.out (by kernel_rfl)) (fun _ _ _ h => h) (Or.inl ⟨by rfl, ?_⟩) ?_ ?_
        rotate_left
        ·
         intro w'
         go_simp
         with_reducible rfl
        rotate_left
        · exact uQ
        refine pure_ (i := 12) (N := some 146) (v := ?_) (a' := ?_) (uA 15 8191) rfl rfl (any_of HT_.out (by kernel_rfl)) (fun _ _ _ h => h) (Or.inl ⟨by rfl, ?_⟩) ?_ ?_
        rotate_left
        ·
         intro w'
         go_simp
         with_reducible rfl
        rotate_left
        · exact uQ
        refine pure_ (i := 13) (N := some 147) (v := ?_) (a' := ?_) (uA 15 16383) rfl rfl (any_of HT_.out (by kernel_rfl)) (fun _ _ _ h => h) (Or.inl ⟨by rfl, ?_⟩) ?_ ?_
        rotate_left
        ·
         intro w'
         go_simp
         with_reducible rfl
        rotate_left
        · exact uQ
        refine last_ (i := 14) (N := none) (uA 15 32767) rfl rfl (one_of HT_.out (by kernel_rfl)) (by decide) (fun K hK => ?_)
        refine skip_ (w1 := ?_) (by rfl) rfl ?_ ?_
        rotate_left
        ·
         go_simp
         rfl
        refine hK.out _ _ ?_; clear hK K
        refine done_ (done_of HT_.out (by kernel_rfl)) ?_
        try go_wp2
        first | go_roundg k2 | ((try simp only [← hji98] at H'); simp only [← hji98]; go_roundg k2) | ((try simp only [← hji96] at H'); simp only [← hji96]; go_roundg k2) | ((try simp only [← hji94] at H'); simp only [← hji94]; go_roundg k2) | ((try simp only [← hji89] at H'); simp only [← hji89]; go_roundg k2) | ((try simp only [← hji87] at H'); simp only [← hji87]; go_roundg k2) | ((try simp only [← hji35] at H'); simp only [← hji35]; go_roundg k2)
        case measure => have := HK1.out; have := HK2.out; omega
        case rel => first | exact ⟨(y265), (ji94), (by first | rfl | (simp; done) | (simp only [← hji94] <;> (first | rfl | simp)) | (simp [*]; done)), H', ⟨by have := HK1.out; have := HK2.out; omega⟩, ⟨by (try simp only [hl7_1]); (try simp only [hl10_1]); (with_reducible repeat (first | apply Kd.R_alloc | apply Kd.R_drewN | apply Kd.R_drew)); exact Kd.R_mono (Kd.R_far (p := ⟨go91, (x113_2 : Int).toNat, none⟩) (Kd.R_mono HO_10.out (fun k_ hk => (⟨hk, fun e_ => hk.2 (by rw [e_]; rfl)⟩ : _ ∧ k_ ≠ go91))) (fun _ hk => hk.2) (.int .u64 (Go.bits .or .u64 (rd y262 x113_2) (ji98)))) (fun _ hk => ⟨hk.1.1, hk.1.2⟩)⟩, ⟨by (try simp only [hl7_1]); (try simp only [hl10_1]); (with_reducible repeat (first | apply Kd.R_alloc | apply Kd.R_drewN | apply Kd.R_drew)); exact Kd.R_mono (Kd.R_far (p := ⟨go91, (x113_2 : Int).toNat, none⟩) (Kd.R_mono HO_15.out (fun k_ hk => (⟨hk, fun e_ => hk.2 (by rw [e_]; rfl)⟩ : _ ∧ k_ ≠ go91))) (fun _ hk => hk.2) (.int .u64 (Go.bits .or .u64 (rd y262 x113_2) (ji98)))) (fun _ hk => ⟨hk.1.1, hk.1.2⟩)⟩, ⟨by (try simp only [hl7_1]); (try simp only [hl10_1]); (with_reducible repeat (first | apply Kd.R_alloc | apply Kd.R_drewN | apply Kd.R_drew)); exact HQ103.out⟩, ⟨uB⟩⟩ | (simp only [← hji98] at H'; exact ⟨(y265), (ji94), (by first | rfl | (simp; done) | (simp only [← hji94] <;> (first | rfl | simp)) | (simp [*]; done)), H', ⟨by have := HK1.out; have := HK2.out; omega⟩, ⟨by (try simp only [hl7_1]); (try simp only [hl10_1]); (with_reducible repeat (first | apply Kd.R_alloc | apply Kd.R_drewN | apply Kd.R_drew)); exact Kd.R_mono (Kd.R_far (p := ⟨go91, (x113_2 : Int).toNat, none⟩) (Kd.R_mono HO_10.out (fun k_ hk => (⟨hk, fun e_ => hk.2 (by rw [e_]; rfl)⟩ : _ ∧ k_ ≠ go91))) (fun _ hk => hk.2) (.int .u64 (Go.bits .or .u64 (rd y262 x113_2) (ji98)))) (fun _ hk => ⟨hk.1.1, hk.1.2⟩)⟩, ⟨by (try simp only [hl7_1]); (try simp only [hl10_1]); (with_reducible repeat (first | apply Kd.R_alloc | apply Kd.R_drewN | apply Kd.R_drew)); exact Kd.R_mono (Kd.R_far (p := ⟨go91, (x113_2 : Int).toNat, none⟩) (Kd.R_mono HO_15.out (fun k_ hk => (⟨hk, fun e_ => hk.2 (by rw [e_]; rfl)⟩ : _ ∧ k_ ≠ go91))) (fun _ hk => hk.2) (.int .u64 (Go.bits .or .u64 (rd y262 x113_2) (ji98)))) (fun _ hk => ⟨hk.1.1, hk.1.2⟩)⟩, ⟨by (try simp only [hl7_1]); (try simp only [hl10_1]); (with_reducible repeat (first | apply Kd.R_alloc | apply Kd.R_drewN | apply Kd.R_drew)); exact HQ103.out⟩, ⟨uB⟩⟩) | (simp only [← hji96] at H'; exact ⟨(y265), (ji94), (by first | rfl | (simp; done) | (simp only [← hji94] <;> (first | rfl | simp)) | (simp [*]; done)), H', ⟨by have := HK1.out; have := HK2.out; omega⟩, ⟨by (try simp only [hl7_1]); (try simp only [hl10_1]); (with_reducible repeat (first | apply Kd.R_alloc | apply Kd.R_drewN | apply Kd.R_drew)); exact Kd.R_mono (Kd.R_far (p := ⟨go91, (x113_2 : Int).toNat, none⟩) (Kd.R_mono HO_10.out (fun k_ hk => (⟨hk, fun e_ => hk.2 (by rw [e_]; rfl)⟩ : _ ∧ k_ ≠ go91))) (fun _ hk => hk.2) (.int .u64 (Go.bits .or .u64 (rd y262 x113_2) (ji98)))) (fun _ hk => ⟨hk.1.1, hk.1.2⟩)⟩, ⟨by (try simp only [hl7_1]); (try simp only [hl10_1]); (with_reducible repeat (first | apply Kd.R_alloc | apply Kd.R_drewN | apply Kd.R_drew)); exact Kd.R_mono (Kd.R_far (p := ⟨go91, (x113_2 : Int).toNat, none⟩) (Kd.R_mono HO_15.out (fun k_ hk => (⟨hk, fun e_ => hk.2 (by rw [e_]; rfl)⟩ : _ ∧ k_ ≠ go91))) (fun _ hk => hk.2) (.int .u64 (Go.bits .or .u64 (rd y262 x113_2) (ji98)))) (fun _ hk => ⟨hk.1.1, hk.1.2⟩)⟩, ⟨by (try simp only [hl7_1]); (try simp only [hl10_1]); (with_reducible repeat (first | apply Kd.R_alloc | apply Kd.R_drewN | apply Kd.R_drew)); exact HQ103.out⟩, ⟨uB⟩⟩) | (simp only [← hji94] at H'; exact ⟨(y265), (ji94), (by first | rfl | (simp; done) | (simp only [← hji94] <;> (first | rfl | simp)) | (simp [*]; done)), H', ⟨by have := HK1.out; have := HK2.out; omega⟩, ⟨by (try simp only [hl7_1]); (try simp only [hl10_1]); (with_reducible repeat (first | apply Kd.R_alloc | apply Kd.R_drewN | apply Kd.R_drew)); exact Kd.R_mono (Kd.R_far (p := ⟨go91, (x113_2 : Int).toNat, none⟩) (Kd.R_mono HO_10.out (fun k_ hk => (⟨hk, fun e_ => hk.2 (by rw [e_]; rfl)⟩ : _ ∧ k_ ≠ go91))) (fun _ hk => hk.2) (.int .u64 (Go.bits .or .u64 (rd y262 x113_2) (ji98)))) (fun _ hk => ⟨hk.1.1, hk.1.2⟩)⟩, ⟨by (try simp only [hl7_1]); (try simp only [hl10_1]); (with_reducible repeat (first | apply Kd.R_alloc | apply Kd.R_drewN | apply Kd.R_drew)); exact Kd.R_mono (Kd.R_far (p := ⟨go91, (x113_2 : Int).toNat, none⟩) (Kd.R_mono HO_15.out (fun k_ hk => (⟨hk, fun e_ => hk.2 (by rw [e_]; rfl)⟩ : _ ∧ k_ ≠ go91))) (fun _ hk => hk.2) (.int .u64 (Go.bits .or .u64 (rd y262 x113_2) (ji98)))) (fun _ hk => ⟨hk.1.1, hk.1.2⟩)⟩, ⟨by (try simp only [hl7_1]); (try simp only [hl10_1]); (with_reducible repeat (first | apply Kd.R_alloc | apply Kd.R_drewN | apply Kd.R_drew)); exact HQ103.out⟩, ⟨uB⟩⟩) | (simp only [← hji89] at H'; exact ⟨(y265), (ji94), (by first | rfl | (simp; done) | (simp only [← hji94] <;> (first | rfl | simp)) | (simp [*]; done)), H', ⟨by have := HK1.out; have := HK2.out; omega⟩, ⟨by (try simp only [hl7_1]); (try simp only [hl10_1]); (with_reducible repeat (first | apply Kd.R_alloc | apply Kd.R_drewN | apply Kd.R_drew)); exact Kd.R_mono (Kd.R_far (p := ⟨go91, (x113_2 : Int).toNat, none⟩) (Kd.R_mono HO_10.out (fun k_ hk => (⟨hk, fun e_ => hk.2 (by rw [e_]; rfl)⟩ : _ ∧ k_ ≠ go91))) (fun _ hk => hk.2) (.int .u64 (Go.bits .or .u64 (rd y262 x113_2) (ji98)))) (fun _ hk => ⟨hk.1.1, hk.1.2⟩)⟩, ⟨by (try simp only [hl7_1]); (try simp only [hl10_1]); (with_reducible repeat (first | apply Kd.R_alloc | apply Kd.R_drewN | apply Kd.R_drew)); exact Kd.R_mono (Kd.R_far (p := ⟨go91, (x113_2 : Int).toNat, none⟩) (Kd.R_mono HO_15.out (fun k_ hk => (⟨hk, fun e_ => hk.2 (by rw [e_]; rfl)⟩ : _ ∧ k_ ≠ go91))) (fun _ hk => hk.2) (.int .u64 (Go.bits .or .u64 (rd y262 x113_2) (ji98)))) (fun _ hk => ⟨hk.1.1, hk.1.2⟩)⟩, ⟨by (try simp only [hl7_1]); (try simp only [hl10_1]); (with_reducible repeat (first | apply Kd.R_alloc | apply Kd.R_drewN | apply Kd.R_drew)); exact HQ103.out⟩, ⟨uB⟩⟩) | (simp only [← hji87] at H'; exact ⟨(y265), (ji94), (by first | rfl | (simp; done) | (simp only [← hji94] <;> (first | rfl | simp)) | (simp [*]; done)), H', ⟨by have := HK1.out; have := HK2.out; omega⟩, ⟨by (try simp only [hl7_1]); (try simp only [hl10_1]); (with_reducible repeat (first | apply Kd.R_alloc | apply Kd.R_drewN | apply Kd.R_drew)); exact Kd.R_mono (Kd.R_far (p := ⟨go91, (x113_2 : Int).toNat, none⟩) (Kd.R_mono HO_10.out (fun k_ hk => (⟨hk, fun e_ => hk.2 (by rw [e_]; rfl)⟩ : _ ∧ k_ ≠ go91))) (fun _ hk => hk.2) (.int .u64 (Go.bits .or .u64 (rd y262 x113_2) (ji98)))) (fun _ hk => ⟨hk.1.1, hk.1.2⟩)⟩, ⟨by (try simp only [hl7_1]); (try simp only [hl10_1]); (with_reducible repeat (first | apply Kd.R_alloc | apply Kd.R_drewN | apply Kd.R_drew)); exact Kd.R_mono (Kd.R_far (p := ⟨go91, (x113_2 : Int).toNat, none⟩) (Kd.R_mono HO_15.out (fun k_ hk => (⟨hk, fun e_ => hk.2 (by rw [e_]; rfl)⟩ : _ ∧ k_ ≠ go91))) (fun _ hk => hk.2) (.int .u64 (Go.bits .or .u64 (rd y262 x113_2) (ji98)))) (fun _ hk => ⟨hk.1.1, hk.1.2⟩)⟩, ⟨by (try simp only [hl7_1]); (try simp only [hl10_1]); (with_reducible repeat (first | apply Kd.R_alloc | apply Kd.R_drewN | apply Kd.R_drew)); exact HQ103.out⟩, ⟨uB⟩⟩) | (simp only [← hji35] at H'; exact ⟨(y265), (ji94), (by first | rfl | (simp; done) | (simp only [← hji94] <;> (first | rfl | simp)) | (simp [*]; done)), H', ⟨by have := HK1.out; have := HK2.out; omega⟩, ⟨by (try simp only [hl7_1]); (try simp only [hl10_1]); (with_reducible repeat (first | apply Kd.R_alloc | apply Kd.R_drewN | apply Kd.R_drew)); exact Kd.R_mono (Kd.R_far (p := ⟨go91, (x113_2 : Int).toNat, none⟩) (Kd.R_mono HO_10.out (fun k_ hk => (⟨hk, fun e_ => hk.2 (by rw [e_]; rfl)⟩ : _ ∧ k_ ≠ go91))) (fun _ hk => hk.2) (.int .u64 (Go.bits .or .u64 (rd y262 x113_2) (ji98)))) (fun _ hk => ⟨hk.1.1, hk.1.2⟩)⟩, ⟨by (try simp only [hl7_1]); (try simp only [hl10_1]); (with_reducible repeat (first | apply Kd.R_alloc | apply Kd.R_drewN | apply Kd.R_drew)); exact Kd.R_mono (Kd.R_far (p := ⟨go91, (x113_2 : Int).toNat, none⟩) (Kd.R_mono HO_15.out (fun k_ hk => (⟨hk, fun e_ => hk.2 (by rw [e_]; rfl)⟩ : _ ∧ k_ ≠ go91))) (fun _ hk => hk.2) (.int .u64 (Go.bits .or .u64 (rd y262 x113_2) (ji98)))) (fun _ hk => ⟨hk.1.1, hk.1.2⟩)⟩, ⟨by (try simp only [hl7_1]); (try simp only [hl10_1]); (with_reducible repeat (first | apply Kd.R_alloc | apply Kd.R_drewN | apply Kd.R_drew)); exact HQ103.out⟩, ⟨uB⟩⟩)
       rw [if_neg c93] at H
       have c93b0 : decide ((wrap64 (x113_2 + 1)) < (t255.length : Int)) = false := decide_eq_false c93
       (try (have c93b0h0 := c93b0; simp only [hl7_1] at c93b0h0))
       (try (have c93b0h1 := c93b0; simp only [hl10_1] at c93b0h1))
       clear c93
       have H' := Aside0.mk H
       clear H
       have p261 : 0 ≤ (x113_2 : Int) := uO
       have q261 : x113_2 < (t255.length : Int) := uO
       obtain ⟨ad261, e261, hx261_0⟩ := Kd.at_int (Kd.R_reads' HO_15.out).2.2 x113_2 p261 q261
       cases e261
       replace p261 := eq_true p261
       replace q261 := eq_true q261
       have p91 : 0 ≤ (x113_2 : Int) := uO
       have q91 : (x113_2 : Int) < ((x16_2.length : Int) : Int) := uO
       obtain ⟨go91, co91, eo91, gb91, gl91, cl91, HG91⟩ := Kd.R_form HO_16.out (by omega)
       (first | cases eo91 | (injection eo91 with ea_ en_ ec_; (first | subst ea_ | (injection ea_ with ea_; subst ea_)); subst ec_; clear en_))
       have GB91 := Aside0.mk gb91; have GG91 := Aside0.mk HG91; clear gb91 gl91 HG91
       obtain ⟨hx91_0, hf91_0⟩ := Kd.R_celln 0 HO_16.out (x113_2 : Int) p91 q91
       replace p91 := eq_true p91
       replace q91 := eq_true q91
       have HP104 := Kd.R_putg HO_16.out (x113_2 : Int) ji89
       go_wp2_with (first | ((with_reducible refine gate_store (t := 30) (p := 124) rfl ?_); refine store_event (t := 30) (p := 124) (v := ?vo_w105) (w1 := (wr.setCell ⟨go91, (x113_2 : Int).toNat, none⟩ (.int .u64 ji89))) ?hg ?ho ?hn ?hr ?_; (case ho => rfl); (case hg => rfl); (case hn => rfl); (case hr => first | (go_simp; done) | (go_simp; rfl) | (obtain ⟨hy_, hz_⟩ := Kd.R_celln 0 HO_16.out (x113_2 : Int) uO uO; (try simp only [Go.IntWalk.toNatUp] at hy_ hz_); (try simp only [Int.reduceToNat, Int.toNat_zero, Int.toNat_ofNat] at hy_ hz_); first | (go_simp; done) | (go_simp; rfl))); intro w105 hw; have hg : wr.grownBy w105 (some go91) := (by rw [hw]; exact HP104.2); have hp_ : Kd.R (Kd.int .u64) 30 w105 w.heap.size (fun k_ => some k_ ≠ (.slice Ao21 x10_1.length co21 : Value).ownBlock ∧ some k_ ≠ (.slice (some ad261) t255.length co81 : Value).ownBlock) (.slice (some ⟨go91, 0, none⟩) x16_2.length co91) y262 := (by rw [hw, Ny262.out]; exact HP104.1); clear HP104; replace HO_10 := Aside0.mk (Kd.R_after (v := (.slice (some ⟨go91, 0, none⟩) x16_2.length co91)) (v1 := (.slice (some ⟨go91, 0, none⟩) x16_2.length co91)) (ok := (fun k_ => some k_ ≠ (.slice (some ad261) t255.length co81 : Value).ownBlock)) (uR HO_10.out) hg (.inl rfl)); replace HO_15 := Aside0.mk (Kd.R_after (v := (.slice (some ⟨go91, 0, none⟩) x16_2.length co91)) (v1 := (.slice (some ⟨go91, 0, none⟩) x16_2.length co91)) (ok := (fun k_ => some k_ ≠ (.slice Ao21 x10_1.length co21 : Value).ownBlock)) (uR HO_15.out) hg (.inl rfl)); replace HO_16 := Aside0.mk (hp_); replace HB := Aside0.mk ((by rw [hw]; exact below_set (HB.out) GB91.out : Below w.heap.size w w105)); clear hg hw hp_))
       first | go_roundg k2 | ((try simp only [← hji98] at H'); simp only [← hji98]; go_roundg k2) | ((try simp only [← hji96] at H'); simp only [← hji96]; go_roundg k2) | ((try simp only [← hji94] at H'); simp only [← hji94]; go_roundg k2) | ((try simp only [← hji89] at H'); simp only [← hji89]; go_roundg k2) | ((try simp only [← hji87] at H'); simp only [← hji87]; go_roundg k2) | ((try simp only [← hji35] at H'); simp only [← hji35]; go_roundg k2)
       case measure => have := HK1.out; have := HK2.out; omega
       case rel => first | exact ⟨(y262), (wrap64 (x113_2 + 1)), uG, H', ⟨by have := HK1.out; have := HK2.out; omega⟩, ⟨by (try simp only [hl7_1]); (try simp only [hl10_1]); (with_reducible repeat (first | apply Kd.R_alloc | apply Kd.R_drewN | apply Kd.R_drew)); exact HO_10.out⟩, ⟨by (try simp only [hl7_1]); (try simp only [hl10_1]); (with_reducible repeat (first | apply Kd.R_alloc | apply Kd.R_drewN | apply Kd.R_drew)); exact HO_15.out⟩, ⟨by (try simp only [hl7_1]); (try simp only [hl10_1]); (with_reducible repeat (first | apply Kd.R_alloc | apply Kd.R_drewN | apply Kd.R_drew)); exact HO_16.out⟩, ⟨uB⟩⟩ | (simp only [← hji98] at H'; exact ⟨(y262), (wrap64 (x113_2 + 1)), uG, H', ⟨by have := HK1.out; have := HK2.out; omega⟩, ⟨by (try simp only [hl7_1]); (try simp only [hl10_1]); (with_reducible repeat (first | apply Kd.R_alloc | apply Kd.R_drewN | apply Kd.R_drew)); exact HO_10.out⟩, ⟨by (try simp only [hl7_1]); (try simp only [hl10_1]); (with_reducible repeat (first | apply Kd.R_alloc | apply Kd.R_drewN | apply Kd.R_drew)); exact HO_15.out⟩, ⟨by (try simp only [hl7_1]); (try simp only [hl10_1]); (with_reducible repeat (first | apply Kd.R_alloc | apply Kd.R_drewN | apply Kd.R_drew)); exact HO_16.out⟩, ⟨uB⟩⟩) | (simp only [← hji96] at H'; exact ⟨(y262), (wrap64 (x113_2 + 1)), uG, H', ⟨by have := HK1.out; have := HK2.out; omega⟩, ⟨by (try simp only [hl7_1]); (try simp only [hl10_1]); (with_reducible repeat (first | apply Kd.R_alloc | apply Kd.R_drewN | apply Kd.R_drew)); exact HO_10.out⟩, ⟨by (try simp only [hl7_1]); (try simp only [hl10_1]); (with_reducible repeat (first | apply Kd.R_alloc | apply Kd.R_drewN | apply Kd.R_drew)); exact HO_15.out⟩, ⟨by (try simp only [hl7_1]); (try simp only [hl10_1]); (with_reducible repeat (first | apply Kd.R_alloc | apply Kd.R_drewN | apply Kd.R_drew)); exact HO_16.out⟩, ⟨uB⟩⟩) | (simp only [← hji94] at H'; exact ⟨(y262), (wrap64 (x113_2 + 1)), uG, H', ⟨by have := HK1.out; have := HK2.out; omega⟩, ⟨by (try simp only [hl7_1]); (try simp only [hl10_1]); (with_reducible repeat (first | apply Kd.R_alloc | apply Kd.R_drewN | apply Kd.R_drew)); exact HO_10.out⟩, ⟨by (try simp only [hl7_1]); (try simp only [hl10_1]); (with_reducible repeat (first | apply Kd.R_alloc | apply Kd.R_drewN | apply Kd.R_drew)); exact HO_15.out⟩, ⟨by (try simp only [hl7_1]); (try simp only [hl10_1]); (with_reducible repeat (first | apply Kd.R_alloc | apply Kd.R_drewN | apply Kd.R_drew)); exact HO_16.out⟩, ⟨uB⟩⟩) | (simp only [← hji89] at H'; exact ⟨(y262), (wrap64 (x113_2 + 1)), uG, H', ⟨by have := HK1.out; have := HK2.out; omega⟩, ⟨by (try simp only [hl7_1]); (try simp only [hl10_1]); (with_reducible repeat (first | apply Kd.R_alloc | apply Kd.R_drewN | apply Kd.R_drew)); exact HO_10.out⟩, ⟨by (try simp only [hl7_1]); (try simp only [hl10_1]); (with_reducible repeat (first | apply Kd.R_alloc | apply Kd.R_drewN | apply Kd.R_drew)); exact HO_15.out⟩, ⟨by (try simp only [hl7_1]); (try simp only [hl10_1]); (with_reducible repeat (first | apply Kd.R_alloc | apply Kd.R_drewN | apply Kd.R_drew)); exact HO_16.out⟩, ⟨uB⟩⟩) | (simp only [← hji87] at H'; exact ⟨(y262), (wrap64 (x113_2 + 1)), uG, H', ⟨by have := HK1.out; have := HK2.out; omega⟩, ⟨by (try simp only [hl7_1]); (try simp only [hl10_1]); (with_reducible repeat (first | apply Kd.R_alloc | apply Kd.R_drewN | apply Kd.R_drew)); exact HO_10.out⟩, ⟨by (try simp only [hl7_1]); (try simp only [hl10_1]); (with_reducible repeat (first | apply Kd.R_alloc | apply Kd.R_drewN | apply Kd.R_drew)); exact HO_15.out⟩, ⟨by (try simp only [hl7_1]); (try simp only [hl10_1]); (with_reducible repeat (first | apply Kd.R_alloc | apply Kd.R_drewN | apply Kd.R_drew)); exact HO_16.out⟩, ⟨uB⟩⟩) | (simp only [← hji35] at H'; exact ⟨(y262), (wrap64 (x113_2 + 1)), uG, H', ⟨by have := HK1.out; have := HK2.out; omega⟩, ⟨by (try simp only [hl7_1]); (try simp only [hl10_1]); (with_reducible repeat (first | apply Kd.R_alloc | apply Kd.R_drewN | apply Kd.R_drew)); exact HO_10.out⟩, ⟨by (try simp only [hl7_1]); (try simp only [hl10_1]); (with_reducible repeat (first | apply Kd.R_alloc | apply Kd.R_drewN | apply Kd.R_drew)); exact HO_15.out⟩, ⟨by (try simp only [hl7_1]); (try simp only [hl10_1]); (with_reducible repeat (first | apply Kd.R_alloc | apply Kd.R_drewN | apply Kd.R_drew)); exact HO_16.out⟩, ⟨uB⟩⟩)
      rw [if_neg c92] at H
      have c92b0 : decide (0 < (ji87)) = false := decide_eq_false c92
      clear c92
      have H' := Aside0.mk H
      clear H
      have p261 : 0 ≤ (x113_2 : Int) := uO
      have q261 : x113_2 < (t255.length : Int) := uO
      obtain ⟨ad261, e261, hx261_0⟩ := Kd.at_int (Kd.R_reads' HO_15.out).2.2 x113_2 p261 q261
      cases e261
      replace p261 := eq_true p261
      replace q261 := eq_true q261
      have p91 : 0 ≤ (x113_2 : Int) := uO
      have q91 : (x113_2 : Int) < ((x16_2.length : Int) : Int) := uO
      obtain ⟨go91, co91, eo91, gb91, gl91, cl91, HG91⟩ := Kd.R_form HO_16.out (by omega)
      (first | cases eo91 | (injection eo91 with ea_ en_ ec_; (first | subst ea_ | (injection ea_ with ea_; subst ea_)); subst ec_; clear en_))
      have GB91 := Aside0.mk gb91; have GG91 := Aside0.mk HG91; clear gb91 gl91 HG91
      obtain ⟨hx91_0, hf91_0⟩ := Kd.R_celln 0 HO_16.out (x113_2 : Int) p91 q91
      replace p91 := eq_true p91
      replace q91 := eq_true q91
      have HP106 := Kd.R_putg HO_16.out (x113_2 : Int) ji89
      go_wp2_with (first | ((with_reducible refine gate_store (t := 30) (p := 124) rfl ?_); refine store_event (t := 30) (p := 124) (v := ?vo_w107) (w1 := (wr.setCell ⟨go91, (x113_2 : Int).toNat, none⟩ (.int .u64 ji89))) ?hg ?ho ?hn ?hr ?_; (case ho => rfl); (case hg => rfl); (case hn => rfl); (case hr => first | (go_simp; done) | (go_simp; rfl) | (obtain ⟨hy_, hz_⟩ := Kd.R_celln 0 HO_16.out (x113_2 : Int) uO uO; (try simp only [Go.IntWalk.toNatUp] at hy_ hz_); (try simp only [Int.reduceToNat, Int.toNat_zero, Int.toNat_ofNat] at hy_ hz_); first | (go_simp; done) | (go_simp; rfl))); intro w107 hw; have hg : wr.grownBy w107 (some go91) := (by rw [hw]; exact HP106.2); have hp_ : Kd.R (Kd.int .u64) 30 w107 w.heap.size (fun k_ => some k_ ≠ (.slice Ao21 x10_1.length co21 : Value).ownBlock ∧ some k_ ≠ (.slice (some ad261) t255.length co81 : Value).ownBlock) (.slice (some ⟨go91, 0, none⟩) x16_2.length co91) y262 := (by rw [hw, Ny262.out]; exact HP106.1); clear HP106; replace HO_10 := Aside0.mk (Kd.R_after (v := (.slice (some ⟨go91, 0, none⟩) x16_2.length co91)) (v1 := (.slice (some ⟨go91, 0, none⟩) x16_2.length co91)) (ok := (fun k_ => some k_ ≠ (.slice (some ad261) t255.length co81 : Value).ownBlock)) (uR HO_10.out) hg (.inl rfl)); replace HO_15 := Aside0.mk (Kd.R_after (v := (.slice (some ⟨go91, 0, none⟩) x16_2.length co91)) (v1 := (.slice (some ⟨go91, 0, none⟩) x16_2.length co91)) (ok := (fun k_ => some k_ ≠ (.slice Ao21 x10_1.length co21 : Value).ownBlock)) (uR HO_15.out) hg (.inl rfl)); replace HO_16 := Aside0.mk (hp_); replace HB := Aside0.mk ((by rw [hw]; exact below_set (HB.out) GB91.out : Below w.heap.size w w107)); clear hg hw hp_))
      first | go_roundg k2 | ((try simp only [← hji98] at H'); simp only [← hji98]; go_roundg k2) | ((try simp only [← hji96] at H'); simp only [← hji96]; go_roundg k2) | ((try simp only [← hji94] at H'); simp only [← hji94]; go_roundg k2) | ((try simp only [← hji89] at H'); simp only [← hji89]; go_roundg k2) | ((try simp only [← hji87] at H'); simp only [← hji87]; go_roundg k2) | ((try simp only [← hji35] at H'); simp only [← hji35]; go_roundg k2)
      case measure => have := HK1.out; have := HK2.out; omega
      case rel => first | exact ⟨(y262), (wrap64 (x113_2 + 1)), uG, H', ⟨by have := HK1.out; have := HK2.out; omega⟩, ⟨by (try simp only [hl7_1]); (try simp only [hl10_1]); (with_reducible repeat (first | apply Kd.R_alloc | apply Kd.R_drewN | apply Kd.R_drew)); exact HO_10.out⟩, ⟨by (try simp only [hl7_1]); (try simp only [hl10_1]); (with_reducible repeat (first | apply Kd.R_alloc | apply Kd.R_drewN | apply Kd.R_drew)); exact HO_15.out⟩, ⟨by (try simp only [hl7_1]); (try simp only [hl10_1]); (with_reducible repeat (first | apply Kd.R_alloc | apply Kd.R_drewN | apply Kd.R_drew)); exact HO_16.out⟩, ⟨uB⟩⟩ | (simp only [← hji98] at H'; exact ⟨(y262), (wrap64 (x113_2 + 1)), uG, H', ⟨by have := HK1.out; have := HK2.out; omega⟩, ⟨by (try simp only [hl7_1]); (try simp only [hl10_1]); (with_reducible repeat (first | apply Kd.R_alloc | apply Kd.R_drewN | apply Kd.R_drew)); exact HO_10.out⟩, ⟨by (try simp only [hl7_1]); (try simp only [hl10_1]); (with_reducible repeat (first | apply Kd.R_alloc | apply Kd.R_drewN | apply Kd.R_drew)); exact HO_15.out⟩, ⟨by (try simp only [hl7_1]); (try simp only [hl10_1]); (with_reducible repeat (first | apply Kd.R_alloc | apply Kd.R_drewN | apply Kd.R_drew)); exact HO_16.out⟩, ⟨uB⟩⟩) | (simp only [← hji96] at H'; exact ⟨(y262), (wrap64 (x113_2 + 1)), uG, H', ⟨by have := HK1.out; have := HK2.out; omega⟩, ⟨by (try simp only [hl7_1]); (try simp only [hl10_1]); (with_reducible repeat (first | apply Kd.R_alloc | apply Kd.R_drewN | apply Kd.R_drew)); exact HO_10.out⟩, ⟨by (try simp only [hl7_1]); (try simp only [hl10_1]); (with_reducible repeat (first | apply Kd.R_alloc | apply Kd.R_drewN | apply Kd.R_drew)); exact HO_15.out⟩, ⟨by (try simp only [hl7_1]); (try simp only [hl10_1]); (with_reducible repeat (first | apply Kd.R_alloc | apply Kd.R_drewN | apply Kd.R_drew)); exact HO_16.out⟩, ⟨uB⟩⟩) | (simp only [← hji94] at H'; exact ⟨(y262), (wrap64 (x113_2 + 1)), uG, H', ⟨by have := HK1.out; have := HK2.out; omega⟩, ⟨by (try simp only [hl7_1]); (try simp only [hl10_1]); (with_reducible repeat (first | apply Kd.R_alloc | apply Kd.R_drewN | apply Kd.R_drew)); exact HO_10.out⟩, ⟨by (try simp only [hl7_1]); (try simp only [hl10_1]); (with_reducible repeat (first | apply Kd.R_alloc | apply Kd.R_drewN | apply Kd.R_drew)); exact HO_15.out⟩, ⟨by (try simp only [hl7_1]); (try simp only [hl10_1]); (with_reducible repeat (first | apply Kd.R_alloc | apply Kd.R_drewN | apply Kd.R_drew)); exact HO_16.out⟩, ⟨uB⟩⟩) | (simp only [← hji89] at H'; exact ⟨(y262), (wrap64 (x113_2 + 1)), uG, H', ⟨by have := HK1.out; have := HK2.out; omega⟩, ⟨by (try simp only [hl7_1]); (try simp only [hl10_1]); (with_reducible repeat (first | apply Kd.R_alloc | apply Kd.R_drewN | apply Kd.R_drew)); exact HO_10.out⟩, ⟨by (try simp only [hl7_1]); (try simp only [hl10_1]); (with_reducible repeat (first | apply Kd.R_alloc | apply Kd.R_drewN | apply Kd.R_drew)); exact HO_15.out⟩, ⟨by (try simp only [hl7_1]); (try simp only [hl10_1]); (with_reducible repeat (first | apply Kd.R_alloc | apply Kd.R_drewN | apply Kd.R_drew)); exact HO_16.out⟩, ⟨uB⟩⟩) | (simp only [← hji87] at H'; exact ⟨(y262), (wrap64 (x113_2 + 1)), uG, H', ⟨by have := HK1.out; have := HK2.out; omega⟩, ⟨by (try simp only [hl7_1]); (try simp only [hl10_1]); (with_reducible repeat (first | apply Kd.R_alloc | apply Kd.R_drewN | apply Kd.R_drew)); exact HO_10.out⟩, ⟨by (try simp only [hl7_1]); (try simp only [hl10_1]); (with_reducible repeat (first | apply Kd.R_alloc | apply Kd.R_drewN | apply Kd.R_drew)); exact HO_15.out⟩, ⟨by (try simp only [hl7_1]); (try simp only [hl10_1]); (with_reducible repeat (first | apply Kd.R_alloc | apply Kd.R_drewN | apply Kd.R_drew)); exact HO_16.out⟩, ⟨uB⟩⟩) | (simp only [← hji35] at H'; exact ⟨(y262), (wrap64 (x113_2 + 1)), uG, H', ⟨by have := HK1.out; have := HK2.out; omega⟩, ⟨by (try simp only [hl7_1]); (try simp only [hl10_1]); (with_reducible repeat (first | apply Kd.R_alloc | apply Kd.R_drewN | apply Kd.R_drew)); exact HO_10.out⟩, ⟨by (try simp only [hl7_1]); (try simp only [hl10_1]); (with_reducible repeat (first | apply Kd.R_alloc | apply Kd.R_drewN | apply Kd.R_drew)); exact HO_15.out⟩, ⟨by (try simp only [hl7_1]); (try simp only [hl10_1]); (with_reducible repeat (first | apply Kd.R_alloc | apply Kd.R_drewN | apply Kd.R_drew)); exact HO_16.out⟩, ⟨uB⟩⟩)
     rw [if_neg c84] at H
     have c84b0 : decide (x113_2 < (t255.length : Int)) = false := decide_eq_false c84
     (try (have c84b0h0 := c84b0; simp only [hl7_1] at c84b0h0))
     (try (have c84b0h1 := c84b0; simp only [hl10_1] at c84b0h1))
     clear c84
     replace H := ub H; obtain ⟨t266, A108, H⟩ := H
     replace H := ub H; obtain ⟨t269, A109, H⟩ := H
     simp only [Option.some.injEq, Prod.mk.injEq] at H
     obtain ⟨rfl, rfl⟩ := H
     go_wp2_with (first | ((with_reducible refine gate_callee (f := 133) rfl ?_); refine goesL_ (some 150) rfl rfl Try.func133 (by kernel_rfl) rfl #[.slice Ao21 x10_1.length co21] rfl uM ?_; (with_reducible refine (nat_trim.calls k2 (fun k_ => some k_ = (.slice Ao21 x10_1.length co21 : Value).ownBlock) (.slice Ao21 x10_1.length co21) x10_1 t266 w _ ?side1 ?side2 A108.out).mono ?_); (case side1 => repeat (first | (with_reducible first | exact HB.out | apply below_alloc | apply pw_below_drewN | apply below_drew1) | exact HB.out)); (case side2 => exact Kd.R_tight rfl HO_10.out); rintro e w110 ⟨v267, rfl, ho0, hb, hkp⟩; refine ⟨_, rfl, ?_⟩; have HO268 := Aside0.mk (Kd.R_mono (ok' := fun k_ => some k_ ≠ (.slice Ao81 t255.length co81 : Value).ownBlock ∧ some k_ ≠ (v259 : Value).ownBlock) ho0 (fun k_ hk_ => ⟨Or.elim hk_ (fun hs_ => fun e_ => (((HO_15.out).1 k_ e_.symm).1) hs_) (fun hn_ => (Kd.fresh' (Kd.R_lt (uR HO_15.out)) k_ hn_)), Or.elim hk_ (fun hs_ => fun e_ => (((HO_16.out).1 k_ e_.symm).1) hs_) (fun hn_ => (Kd.fresh' (Kd.R_lt (uR HO_16.out)) k_ hn_))⟩)); replace HO_15 := Aside0.mk (Kd.R_mono (ok' := fun k_ => some k_ ≠ (v259 : Value).ownBlock ∧ some k_ ≠ (v267 : Value).ownBlock) (Kd.R_keptB (HO_15.out) hkp (fun k_ hk_ hs_ => (hk_.1) hs_)) (fun k_ hk_ => ⟨hk_.1.2, fun e_ => Or.elim (ho0.1 k_ e_.symm) (fun hs_ => hk_.2.1 hs_) (fun hn_ => Nat.not_le.2 hk_.2.2 hn_)⟩)); replace HO_16 := Aside0.mk (Kd.R_mono (ok' := fun k_ => some k_ ≠ (.slice Ao81 t255.length co81 : Value).ownBlock ∧ some k_ ≠ (v267 : Value).ownBlock) (Kd.R_keptB (HO_16.out) hkp (fun k_ hk_ hs_ => (hk_.1) hs_)) (fun k_ hk_ => ⟨hk_.1.2, fun e_ => Or.elim (ho0.1 k_ e_.symm) (fun hs_ => hk_.2.1 hs_) (fun hn_ => Nat.not_le.2 hk_.2.2 hn_)⟩)); replace HB := Aside0.mk (hb); clear HO_10; (try clear hb); (try clear hkp); (try clear ho0); obtain ⟨Ao111, co111, eo111⟩ := Kd.R_slice HO_16.out; subst eo111) | ((with_reducible refine gate_callee (f := 133) rfl ?_); refine goesL_ (some 152) rfl rfl Try.func133 (by kernel_rfl) rfl #[.slice Ao111 x16_2.length co111] rfl uM ?_; (with_reducible refine (nat_trim.calls k2 (fun k_ => some k_ = (.slice Ao111 x16_2.length co111 : Value).ownBlock) (.slice Ao111 x16_2.length co111) x16_2 t269 w _ ?side1 ?side2 A109.out).mono ?_); (case side1 => repeat (first | (with_reducible first | exact HB.out | apply below_alloc | apply pw_below_drewN | apply below_drew1) | exact HB.out)); (case side2 => exact Kd.R_tight rfl HO_16.out); rintro e w112 ⟨v270, rfl, ho0, hb, hkp⟩; refine ⟨_, rfl, ?_⟩; have HO271 := Aside0.mk (Kd.R_mono (ok' := fun k_ => some k_ ≠ (.slice Ao81 t255.length co81 : Value).ownBlock ∧ some k_ ≠ (v267 : Value).ownBlock) ho0 (fun k_ hk_ => ⟨Or.elim hk_ (fun hs_ => fun e_ => (((HO_15.out).1 k_ e_.symm).1) hs_) (fun hn_ => (Kd.fresh' (Kd.R_lt (uR HO_15.out)) k_ hn_)), Or.elim hk_ (fun hs_ => fun e_ => (((HO268.out).1 k_ e_.symm).2) hs_) (fun hn_ => (Kd.fresh' (Kd.R_lt (uR HO268.out)) k_ hn_))⟩)); replace HO_15 := Aside0.mk (Kd.R_mono (ok' := fun k_ => some k_ ≠ (v267 : Value).ownBlock ∧ some k_ ≠ (v270 : Value).ownBlock) (Kd.R_keptB (HO_15.out) hkp (fun k_ hk_ hs_ => (hk_.1) hs_)) (fun k_ hk_ => ⟨hk_.1.2, fun e_ => Or.elim (ho0.1 k_ e_.symm) (fun hs_ => hk_.2.1 hs_) (fun hn_ => Nat.not_le.2 hk_.2.2 hn_)⟩)); replace HO268 := Aside0.mk (Kd.R_mono (ok' := fun k_ => some k_ ≠ (.slice Ao81 t255.length co81 : Value).ownBlock ∧ some k_ ≠ (v270 : Value).ownBlock) (Kd.R_keptB (HO268.out) hkp (fun k_ hk_ hs_ => (hk_.2) hs_)) (fun k_ hk_ => ⟨hk_.1.1, fun e_ => Or.elim (ho0.1 k_ e_.symm) (fun hs_ => hk_.2.1 hs_) (fun hn_ => Nat.not_le.2 hk_.2.2 hn_)⟩)); replace HB := Aside0.mk (hb); clear HO_16; (try clear hb); (try clear hkp); (try clear ho0)))
     go_ret2
     exact ⟨_, _, by first | rfl | (simp [errW_none, errW_some] <;> rfl) | (simp only [← hji3, ← hji10]; first | rfl | (simp [errW_none, errW_some] <;> rfl)) | (simp [*, errW_none, errW_some] <;> rfl), by (with_reducible repeat (first | apply Kd.R_alloc | apply Kd.R_drewN | apply Kd.R_drew)); exact Kd.R_mono HO268.out (fun _ hk => hk.2), by (with_reducible repeat (first | apply Kd.R_alloc | apply Kd.R_drewN | apply Kd.R_drew)); exact Kd.R_mono HO271.out (fun _ hk => hk.2), uB⟩
end Go.Proofs.Ytkgaejigpmkfkaa.F
end
section
namespace Go.Proofs.Ytkgaejigpmkfkaa.F
open Go.RowKit Go.Proofs.YtkgaejigpmkfkaaW.PrintWords Go.Proofs.YtkgaejigpmkfkaaW.PrintLast Go.Proofs.YtkgaejigpmkfkaaW.PrintMore
attribute [local go_sem] max2_int min2_int max_two min_two max_three min_three max_four min_four
set_option linter.unusedVariables false
set_option linter.unusedSimpArgs false
def nat_Div.f (k : Nat) (l0 : List Int) (l1 : List Int) : Option (List Int × List Int × Int) := (nat_right.f (([l0, l1] : List (List Int)))).bind fun t275 => (if t275 = true then (if (l1.length : Int) = 0 then (some (([] : List Int), ([] : List Int), 3)) else ((nat_compare.f k l0 l1).bind fun t276 => (if t276 < 0 then ((api_Nat_uint64.f l0).bind fun t277 => (some (([] : List Int), t277, 0))) else (if (l1.length : Int) = 1 then (if 0 < (l1.length : Int) then ((nat_short.f k l0 (rd l1 0)).bind fun bt281 => ((nat_Of.f k bt281.2).bind fun t285 => (some (bt281.1, t285, 0)))) else (none)) else ((nat_long.f k l0 l1).bind fun bt288 => (some (bt288.1, bt288.2, 0))))))) else (some (([] : List Int), ([] : List Int), 1)))
set_option maxHeartbeats 8000000 in
set_option maxRecDepth 100000 in
theorem nat_Div.calls (k : Nat) (P0_ : Nat → Prop) (A0 : Option Addr) (c0 : Nat) (l0 : List Int) (P1_ : Nat → Prop) (A1 : Option Addr) (c1 : Nat) (l1 : List Int) (r1 : List Int) (r2 : List Int) (r3 : Int) (w : World) (hs0 : Kd.V (Kd.int .u64) 30 w w.heap.size (fun k_ => P0_ k_) (.slice A0 l0.length c0) l0) (hs1 : Kd.V (Kd.int .u64) 30 w w.heap.size (fun k_ => P1_ k_) (.slice A1 l1.length c1) l1) (h : nat_Div.f k l0 l1 = some (r1, r2, r3)) :
  Calls Try.prog 36 #[.slice A0 l0.length c0, .slice A1 l1.length c1] w fun e w' => ∃ v0_ v1_ : Value, e = .returned (.tuple #[v0_, v1_, .int .i64 r3]) ∧ Kd.R (Kd.int .u64) 30 w' w.heap.size (fun k_ => (w.heap.size ≤ k_) ∧ some k_ ≠ (v1_ : Value).ownBlock) v0_ r1 ∧ Kd.R (Kd.int .u64) 30 w' w.heap.size (fun k_ => (w.heap.size ≤ k_) ∧ some k_ ≠ (v0_ : Value).ownBlock) v1_ r2 ∧ Below w.heap.size w w' := by
 have HO0 := Aside0.mk (show Kd.V (Kd.int .u64) 30 w w.heap.size (fun k_ => ((P0_ k_ ∨ P1_ k_) ∨ w.heap.size ≤ k_)) (.slice A0 l0.length c0) l0 from Kd.V_mono hs0 (fun k_ hk => .inl (.inl hk)))
 have HO1 := Aside0.mk (show Kd.V (Kd.int .u64) 30 w w.heap.size (fun k_ => ((P0_ k_ ∨ P1_ k_) ∨ w.heap.size ≤ k_)) (.slice A1 l1.length c1) l1 from Kd.V_mono hs1 (fun k_ hk => .inl (.inr hk)))
 have HB := Aside0.mk (Below.refl w.heap.size w)
 have H : ((nat_right.f (([l0, l1] : List (List Int)))).bind fun t275 => (if t275 = true then (if (l1.length : Int) = 0 then (some (([] : List Int), ([] : List Int), 3)) else ((nat_compare.f k l0 l1).bind fun t276 => (if t276 < 0 then ((api_Nat_uint64.f l0).bind fun t277 => (some (([] : List Int), t277, 0))) else (if (l1.length : Int) = 1 then (if 0 < (l1.length : Int) then ((nat_short.f k l0 (rd l1 0)).bind fun bt281 => ((nat_Of.f k bt281.2).bind fun t285 => (some (bt281.1, t285, 0)))) else (none)) else ((nat_long.f k l0 l1).bind fun bt288 => (some (bt288.1, bt288.2, 0))))))) else (some (([] : List Int), ([] : List Int), 1)))) = some (r1, r2, r3) := h
 clear h
 obtain ⟨y272, hy272⟩ : ∃ y_ : List (List Int), y_ = (([l0, l1] : List (List Int))) := ⟨_, rfl⟩
 replace H : ((nat_right.f y272).bind fun t275 => (if t275 = true then (if (l1.length : Int) = 0 then (some (([] : List Int), ([] : List Int), 3)) else ((nat_compare.f k l0 l1).bind fun t276 => (if t276 < 0 then ((api_Nat_uint64.f l0).bind fun t277 => (some (([] : List Int), t277, 0))) else (if (l1.length : Int) = 1 then (if 0 < (l1.length : Int) then ((nat_short.f k l0 (rd l1 0)).bind fun bt281 => ((nat_Of.f k bt281.2).bind fun t285 => (some (bt281.1, t285, 0)))) else (none)) else ((nat_long.f k l0 l1).bind fun bt288 => (some (bt288.1, bt288.2, 0))))))) else (some (([] : List Int), ([] : List Int), 1)))) = some (r1, r2, r3) := by first | (rw [hy272]; with_reducible exact H) | (have H2_ := (Option.bind_some _ _).symm.trans H; rw [hy272]; with_reducible exact H2_) | (have H2_ := (Option.bind_some _ _).symm.trans H; with_reducible exact H2_) | with_reducible exact H | (rw [hy272]; exact H) | exact H
 have Ny272 := Aside0.mk hy272; clear hy272
 replace H := ub H; obtain ⟨t275, A3, H⟩ := H
 by_cases c4 : t275 = true
 ·
  subst c4
  have H1 : (if (l1.length : Int) = 0 then (some (([] : List Int), ([] : List Int), 3)) else ((nat_compare.f k l0 l1).bind fun t276 => (if t276 < 0 then ((api_Nat_uint64.f l0).bind fun t277 => (some (([] : List Int), t277, 0))) else (if (l1.length : Int) = 1 then (if 0 < (l1.length : Int) then ((nat_short.f k l0 (rd l1 0)).bind fun bt281 => ((nat_Of.f k bt281.2).bind fun t285 => (some (bt281.1, t285, 0)))) else (none)) else ((nat_long.f k l0 l1).bind fun bt288 => (some (bt288.1, bt288.2, 0))))))) = some (r1, r2, r3) := by rw [if_pos rfl] at H; exact H
  clear H; have H := H1; clear H1
  by_cases c5 : (l1.length : Int) = 0
  ·
   rw [if_pos c5] at H
   have c5b0 : ((l1.length : Int) == 0) = true := beq_iff_eq.mpr c5
   have c5b1 : ((l1.length : Int) != 0) = false := bne_eq_false_iff_eq.mpr c5
   clear c5
   simp only [Option.some.injEq, Prod.mk.injEq] at H
   obtain ⟨rfl, rfl, rfl⟩ := H
   go_enter Try.func36, Try.ntmps36
   go_wp2_with (first | ((with_reducible refine gate_dst (N := 14) rfl ?_); refine Kd.N_lit (Kd.slice 30 (Kd.int .u64)) _ 40 ?hg (N' := 14) ?hd (xs := ([l0, l1] : List (List Int))) (inner := [.slice A0 l0.length c0, .slice A1 l1.length c1]) (ok := (fun k_ => ((P0_ k_ ∨ P1_ k_) ∨ w.heap.size ≤ k_))) (okp := (fun k_ => ((P0_ k_ ∨ P1_ k_) ∨ w.heap.size ≤ k_))) ?hr ?hp (fun _ hk => hk) ((show ∀ k_, w.heap.size ≤ k_ → (fun k_ => ((P0_ k_ ∨ P1_ k_) ∨ w.heap.size ≤ k_)) k_ from fun k_ hk => (.inr (Nat.le_trans (below_size uB) hk))) _ (Nat.le_refl _)) (Below.refl _ _) (Nat.le_refl _) (by simp) ?_; (case hd => rfl); (case hg => rfl); (case hr => first | (go_simp; done) | (go_simp; rfl) | (go_simp; simp only [u64_u8]; done) | (go_simp; simp only [u64_u8]; rfl)); (case hp => exact (Reps.one (show Kd.FK (Kd.slice 30 (Kd.int .u64)) _ _ l0 [.slice A0 l0.length c0] from (Kd.FK_slice_mk (Kd.V_reads' (Kd.V_mono (ok' := (fun k_ => ((P0_ k_ ∨ P1_ k_) ∨ w.heap.size ≤ k_))) (HO0.out) (fun k_ hk => hk))).2.1 (Kd.V_F (Kd.V_mono (ok' := (fun k_ => ((P0_ k_ ∨ P1_ k_) ∨ w.heap.size ≤ k_))) (HO0.out) (fun k_ hk => hk))))) (Reps.one (show Kd.FK (Kd.slice 30 (Kd.int .u64)) _ _ l1 [.slice A1 l1.length c1] from (Kd.FK_slice_mk (Kd.V_reads' (Kd.V_mono (ok' := (fun k_ => ((P0_ k_ ∨ P1_ k_) ∨ w.heap.size ≤ k_))) (HO1.out) (fun k_ hk => hk))).2.1 (Kd.V_F (Kd.V_mono (ok' := (fun k_ => ((P0_ k_ ∨ P1_ k_) ∨ w.heap.size ≤ k_))) (HO1.out) (fun k_ hk => hk))))) (Reps.none _ _)))); intro v273 w6 ho7 hb hg_ hnew_; clear hg_ hnew_; (first | rw [← Ny272.out] at ho7 | (simp only [Int.reduceToNat] at ho7; rw [← Ny272.out] at ho7)); replace HO0 := Aside0.mk (Kd.V_elder' (uV HO0.out) (Kd.N_base ho7) hb); replace HO1 := Aside0.mk (Kd.V_elder' (uV HO1.out) (Kd.N_base ho7) hb); have HO274 := Aside0.mk (Kd.N_lower ho7 (below_size uB)); replace HB := uy hb; clear hb ho7; obtain ⟨Ao8, co8, eo8⟩ := Kd.N_slice HO274.out; subst eo8) | ((with_reducible refine gate_callee (f := 87) rfl ?_); refine goesL_ (some 15) rfl rfl Try.func87 (by kernel_rfl) rfl #[.slice Ao8 y272.length co8] rfl uM ?_; (with_reducible refine (nat_right.calls _ _ y272 true _ ?side1 ?side2 A3.out).mono ?_); (case side1 => exact uC (Kd.N_reads' HO274.out).2.2); (case side2 => exact (Kd.N_reads' HO274.out).2.1); rintro e w' ⟨rfl, ⟨nd, rfl⟩⟩; refine ⟨_, rfl, ?_⟩))
   go_ret3
   exact ⟨_, _, by first | rfl | (simp [errW_none, errW_some] <;> rfl) | (simp [*, errW_none, errW_some] <;> rfl), by first | exact Kd.R_nil _ _ _ _ _ | exact Kd.N_nil _ _ _ _ _ | exact Kd.V_nil _ _ _ _ _ | exact Kd.Q_nil _ _ _ _ _ | exact Kd.S_nil _ _ _ _ _, by first | exact Kd.R_nil _ _ _ _ _ | exact Kd.N_nil _ _ _ _ _ | exact Kd.V_nil _ _ _ _ _ | exact Kd.Q_nil _ _ _ _ _ | exact Kd.S_nil _ _ _ _ _, uB⟩
  rw [if_neg c5] at H
  have c5b0 : ((l1.length : Int) == 0) = false := beq_eq_false_iff_ne.mpr c5
  have c5b1 : ((l1.length : Int) != 0) = true := bne_iff_ne.mpr c5
  have c5b2 : ¬ (l1 = []) := fun h_ => c5 (by rw [h_]; rfl)
  replace H := ub H; obtain ⟨t276, A9, H⟩ := H
  by_cases c10 : t276 < 0
  ·
   rw [if_pos c10] at H
   have c10b0 : decide (t276 < 0) = true := decide_eq_true c10
   clear c10
   replace H := ub H; obtain ⟨t277, A11, H⟩ := H
   simp only [Option.some.injEq, Prod.mk.injEq] at H
   obtain ⟨rfl, rfl, rfl⟩ := H
   go_enter Try.func36, Try.ntmps36
   go_wp2_with (first | ((with_reducible refine gate_dst (N := 14) rfl ?_); refine Kd.N_lit (Kd.slice 30 (Kd.int .u64)) _ 40 ?hg (N' := 14) ?hd (xs := ([l0, l1] : List (List Int))) (inner := [.slice A0 l0.length c0, .slice A1 l1.length c1]) (ok := (fun k_ => ((P0_ k_ ∨ P1_ k_) ∨ w.heap.size ≤ k_))) (okp := (fun k_ => ((P0_ k_ ∨ P1_ k_) ∨ w.heap.size ≤ k_))) ?hr ?hp (fun _ hk => hk) ((show ∀ k_, w.heap.size ≤ k_ → (fun k_ => ((P0_ k_ ∨ P1_ k_) ∨ w.heap.size ≤ k_)) k_ from fun k_ hk => (.inr (Nat.le_trans (below_size uB) hk))) _ (Nat.le_refl _)) (Below.refl _ _) (Nat.le_refl _) (by simp) ?_; (case hd => rfl); (case hg => rfl); (case hr => first | (go_simp; done) | (go_simp; rfl) | (go_simp; simp only [u64_u8]; done) | (go_simp; simp only [u64_u8]; rfl)); (case hp => exact (Reps.one (show Kd.FK (Kd.slice 30 (Kd.int .u64)) _ _ l0 [.slice A0 l0.length c0] from (Kd.FK_slice_mk (Kd.V_reads' (Kd.V_mono (ok' := (fun k_ => ((P0_ k_ ∨ P1_ k_) ∨ w.heap.size ≤ k_))) (HO0.out) (fun k_ hk => hk))).2.1 (Kd.V_F (Kd.V_mono (ok' := (fun k_ => ((P0_ k_ ∨ P1_ k_) ∨ w.heap.size ≤ k_))) (HO0.out) (fun k_ hk => hk))))) (Reps.one (show Kd.FK (Kd.slice 30 (Kd.int .u64)) _ _ l1 [.slice A1 l1.length c1] from (Kd.FK_slice_mk (Kd.V_reads' (Kd.V_mono (ok' := (fun k_ => ((P0_ k_ ∨ P1_ k_) ∨ w.heap.size ≤ k_))) (HO1.out) (fun k_ hk => hk))).2.1 (Kd.V_F (Kd.V_mono (ok' := (fun k_ => ((P0_ k_ ∨ P1_ k_) ∨ w.heap.size ≤ k_))) (HO1.out) (fun k_ hk => hk))))) (Reps.none _ _)))); intro v273 w12 ho13 hb hg_ hnew_; clear hg_ hnew_; (first | rw [← Ny272.out] at ho13 | (simp only [Int.reduceToNat] at ho13; rw [← Ny272.out] at ho13)); replace HO0 := Aside0.mk (Kd.V_elder' (uV HO0.out) (Kd.N_base ho13) hb); replace HO1 := Aside0.mk (Kd.V_elder' (uV HO1.out) (Kd.N_base ho13) hb); have HO274 := Aside0.mk (Kd.N_lower ho13 (below_size uB)); replace HB := uy hb; clear hb ho13; obtain ⟨Ao14, co14, eo14⟩ := Kd.N_slice HO274.out; subst eo14) | ((with_reducible refine gate_callee (f := 87) rfl ?_); refine goesL_ (some 15) rfl rfl Try.func87 (by kernel_rfl) rfl #[.slice Ao14 y272.length co14] rfl uM ?_; (with_reducible refine (nat_right.calls _ _ y272 true _ ?side1 ?side2 A3.out).mono ?_); (case side1 => exact uC (Kd.N_reads' HO274.out).2.2); (case side2 => exact (Kd.N_reads' HO274.out).2.1); rintro e w' ⟨rfl, ⟨nd, rfl⟩⟩; refine ⟨_, rfl, ?_⟩) | ((with_reducible refine gate_callee (f := 92) rfl ?_); refine goesL_ (some 24) rfl rfl Try.func92 (by kernel_rfl) rfl #[.slice A0 l0.length c0, .slice A1 l1.length c1] rfl uM ?_; (with_reducible refine (nat_compare.calls k _ _ l0 _ _ l1 t276 _ ?side1 ?side2 ?side3 ?side4 A9.out).mono ?_); (case side1 => exact uC (Kd.V_reads' HO0.out).2.2); (case side2 => exact (Kd.V_reads' HO0.out).2.1); (case side3 => exact uC (Kd.V_reads' HO1.out).2.2); (case side4 => exact (Kd.V_reads' HO1.out).2.1); rintro e w' ⟨rfl, ⟨nd, rfl⟩⟩; refine ⟨_, rfl, ?_⟩) | ((with_reducible refine gate_callee (f := 78) rfl ?_); refine goesL_ (some 27) rfl rfl Try.func78 (by kernel_rfl) rfl #[.slice A0 l0.length c0] rfl uM ?_; (with_reducible refine (api_Nat_uint64.calls _ _ l0 t277 _ ?side1 ?side2 A11.out).mono ?_); (case side1 => exact uC (Kd.V_reads' HO0.out).2.2); (case side2 => exact (Kd.V_reads' HO0.out).2.1); rintro e w15 ⟨v278, rfl, ho0, hb⟩; refine ⟨_, rfl, ?_⟩; replace HO0 := ueV HO0 ho0 hb; replace HO1 := ueV HO1 ho0 hb; replace HO274 := ueN HO274 ho0 hb; have HO279 := Aside0.mk (Kd.R_lower (Kd.R_newM (M := fun k_ => (w.heap.size ≤ k_)) ho0 (below_size uB) (fun k_ h_ => h_)) (below_size uB)); replace HB := uy hb; (try clear hb ho0)))
   go_ret3
   exact ⟨_, _, by first | rfl | (simp [errW_none, errW_some] <;> rfl) | (simp [*, errW_none, errW_some] <;> rfl), by first | exact Kd.R_nil _ _ _ _ _ | exact Kd.N_nil _ _ _ _ _ | exact Kd.V_nil _ _ _ _ _ | exact Kd.Q_nil _ _ _ _ _ | exact Kd.S_nil _ _ _ _ _, by (with_reducible repeat (first | apply Kd.R_alloc | apply Kd.R_drewN | apply Kd.R_drew)); exact Kd.R_mono HO279.out (fun _ hk => ⟨hk.1, (by simp [Value.ownBlock])⟩), uB⟩
  rw [if_neg c10] at H
  have c10b0 : decide (t276 < 0) = false := decide_eq_false c10
  clear c10
  by_cases c16 : (l1.length : Int) = 1
  ·
   rw [if_pos c16] at H
   have c16b0 : ((l1.length : Int) == 1) = true := beq_iff_eq.mpr c16
   have c16b1 : ((l1.length : Int) != 1) = false := bne_eq_false_iff_eq.mpr c16
   clear c16
   replace H := uT H; obtain ⟨c17, H⟩ := H
   have c17b0 : decide (0 < (l1.length : Int)) = true := decide_eq_true c17
   have c17b1 : decide (0 < l1.length) = true := decide_eq_true (by omega)
   clear c17
   replace H := ub H; obtain ⟨⟨t281, t282⟩, A18, H⟩ := H
   (try dsimp only at H)
   replace H := ub H; obtain ⟨t285, A19, H⟩ := H
   simp only [Option.some.injEq, Prod.mk.injEq] at H
   obtain ⟨rfl, rfl, rfl⟩ := H
   go_enter Try.func36, Try.ntmps36
   go_wp2_with (first | ((with_reducible refine gate_dst (N := 14) rfl ?_); refine Kd.N_lit (Kd.slice 30 (Kd.int .u64)) _ 40 ?hg (N' := 14) ?hd (xs := ([l0, l1] : List (List Int))) (inner := [.slice A0 l0.length c0, .slice A1 l1.length c1]) (ok := (fun k_ => ((P0_ k_ ∨ P1_ k_) ∨ w.heap.size ≤ k_))) (okp := (fun k_ => ((P0_ k_ ∨ P1_ k_) ∨ w.heap.size ≤ k_))) ?hr ?hp (fun _ hk => hk) ((show ∀ k_, w.heap.size ≤ k_ → (fun k_ => ((P0_ k_ ∨ P1_ k_) ∨ w.heap.size ≤ k_)) k_ from fun k_ hk => (.inr (Nat.le_trans (below_size uB) hk))) _ (Nat.le_refl _)) (Below.refl _ _) (Nat.le_refl _) (by simp) ?_; (case hd => rfl); (case hg => rfl); (case hr => first | (go_simp; done) | (go_simp; rfl) | (go_simp; simp only [u64_u8]; done) | (go_simp; simp only [u64_u8]; rfl)); (case hp => exact (Reps.one (show Kd.FK (Kd.slice 30 (Kd.int .u64)) _ _ l0 [.slice A0 l0.length c0] from (Kd.FK_slice_mk (Kd.V_reads' (Kd.V_mono (ok' := (fun k_ => ((P0_ k_ ∨ P1_ k_) ∨ w.heap.size ≤ k_))) (HO0.out) (fun k_ hk => hk))).2.1 (Kd.V_F (Kd.V_mono (ok' := (fun k_ => ((P0_ k_ ∨ P1_ k_) ∨ w.heap.size ≤ k_))) (HO0.out) (fun k_ hk => hk))))) (Reps.one (show Kd.FK (Kd.slice 30 (Kd.int .u64)) _ _ l1 [.slice A1 l1.length c1] from (Kd.FK_slice_mk (Kd.V_reads' (Kd.V_mono (ok' := (fun k_ => ((P0_ k_ ∨ P1_ k_) ∨ w.heap.size ≤ k_))) (HO1.out) (fun k_ hk => hk))).2.1 (Kd.V_F (Kd.V_mono (ok' := (fun k_ => ((P0_ k_ ∨ P1_ k_) ∨ w.heap.size ≤ k_))) (HO1.out) (fun k_ hk => hk))))) (Reps.none _ _)))); intro v273 w20 ho21 hb hg_ hnew_; clear hg_ hnew_; (first | rw [← Ny272.out] at ho21 | (simp only [Int.reduceToNat] at ho21; rw [← Ny272.out] at ho21)); replace HO0 := Aside0.mk (Kd.V_elder' (uV HO0.out) (Kd.N_base ho21) hb); replace HO1 := Aside0.mk (Kd.V_elder' (uV HO1.out) (Kd.N_base ho21) hb); have HO274 := Aside0.mk (Kd.N_lower ho21 (below_size uB)); replace HB := uy hb; clear hb ho21; obtain ⟨Ao22, co22, eo22⟩ := Kd.N_slice HO274.out; subst eo22) | ((with_reducible refine gate_callee (f := 87) rfl ?_); refine goesL_ (some 15) rfl rfl Try.func87 (by kernel_rfl) rfl #[.slice Ao22 y272.length co22] rfl uM ?_; (with_reducible refine (nat_right.calls _ _ y272 true _ ?side1 ?side2 A3.out).mono ?_); (case side1 => exact uC (Kd.N_reads' HO274.out).2.2); (case side2 => exact (Kd.N_reads' HO274.out).2.1); rintro e w' ⟨rfl, ⟨nd, rfl⟩⟩; refine ⟨_, rfl, ?_⟩) | ((with_reducible refine gate_callee (f := 92) rfl ?_); refine goesL_ (some 24) rfl rfl Try.func92 (by kernel_rfl) rfl #[.slice A0 l0.length c0, .slice A1 l1.length c1] rfl uM ?_; (with_reducible refine (nat_compare.calls k _ _ l0 _ _ l1 t276 _ ?side1 ?side2 ?side3 ?side4 A9.out).mono ?_); (case side1 => exact uC (Kd.V_reads' HO0.out).2.2); (case side2 => exact (Kd.V_reads' HO0.out).2.1); (case side3 => exact uC (Kd.V_reads' HO1.out).2.2); (case side4 => exact (Kd.V_reads' HO1.out).2.1); rintro e w' ⟨rfl, ⟨nd, rfl⟩⟩; refine ⟨_, rfl, ?_⟩; have p280 : 0 ≤ (0 : Int) := (by omega); have q280 : 0 < (l1.length : Int) := uO; obtain ⟨ad280, e280, hx280_0⟩ := Kd.at_int (Kd.V_reads' HO1.out).2.2 0 p280 q280; cases e280; have qi280 : (0 < l1.length) = True := eq_true (by omega); (try rw [show ((0 : Int)).toNat = 0 from rfl] at hx280_0); (try rw [Addr.add_zero'] at hx280_0); replace p280 := eq_true p280; replace q280 := eq_true q280) | ((with_reducible refine gate_callee (f := 93) rfl ?_); refine goesL_ (some 37) rfl rfl Try.func93 (by kernel_rfl) rfl #[.slice A0 l0.length c0, .int .u64 (rd l1 0)] rfl uM ?_; (with_reducible refine (nat_short.calls k _ _ l0 (rd l1 0) t281 t282 _ ?side1 ?side2 A18.out).mono ?_); (case side1 => exact uC (Kd.V_reads' HO0.out).2.2); (case side2 => exact (Kd.V_reads' HO0.out).2.1); rintro e w23 ⟨v283, rfl, ho0, hb⟩; refine ⟨_, rfl, ?_⟩; replace HO0 := ueV HO0 ho0 hb; replace HO1 := ueV HO1 ho0 hb; replace HO274 := ueN HO274 ho0 hb; have HO284 := Aside0.mk (Kd.R_lower (Kd.R_newM (M := fun k_ => (w.heap.size ≤ k_)) ho0 (below_size uB) (fun k_ h_ => h_)) (below_size uB)); replace HB := uy hb; (try clear hb ho0)) | ((with_reducible refine gate_callee (f := 94) rfl ?_); refine goesL_ (some 42) rfl rfl Try.func94 (by kernel_rfl) rfl #[.int .u64 t282] rfl uM ?_; (with_reducible refine (nat_Of.calls k t282 t285 _ A19.out).mono ?_); rintro e w24 ⟨v286, rfl, ho0, hb⟩; refine ⟨_, rfl, ?_⟩; replace HO0 := ueV HO0 ho0 hb; replace HO1 := ueV HO1 ho0 hb; replace HO274 := ueN HO274 ho0 hb; have HO287 := Aside0.mk (Kd.R_lower (Kd.R_new' (Kd.R_newM (M := fun k_ => (w.heap.size ≤ k_)) ho0 (below_size uB) (fun k_ h_ => h_)) (Kd.R_lt (uR HO284.out))) (below_size uB)); replace HO284 := ueR HO284 ho0 hb; replace HB := uy hb; (try clear hb ho0)))
   go_ret3
   exact ⟨_, _, uF, by (with_reducible repeat (first | apply Kd.R_alloc | apply Kd.R_drewN | apply Kd.R_drew)); exact Kd.R_mono HO284.out (fun _ hk => ⟨hk.1.1, hk.2⟩), by (with_reducible repeat (first | apply Kd.R_alloc | apply Kd.R_drewN | apply Kd.R_drew)); exact Kd.R_mono HO287.out (fun _ hk => ⟨hk.1.1, hk.2⟩), uB⟩
  rw [if_neg c16] at H
  have c16b0 : ((l1.length : Int) == 1) = false := beq_eq_false_iff_ne.mpr c16
  have c16b1 : ((l1.length : Int) != 1) = true := bne_iff_ne.mpr c16
  replace H := ub H; obtain ⟨⟨t288, t289⟩, A25, H⟩ := H
  (try dsimp only at H)
  simp only [Option.some.injEq, Prod.mk.injEq] at H
  obtain ⟨rfl, rfl, rfl⟩ := H
  go_enter Try.func36, Try.ntmps36
  go_wp2_with (first | ((with_reducible refine gate_dst (N := 14) rfl ?_); refine Kd.N_lit (Kd.slice 30 (Kd.int .u64)) _ 40 ?hg (N' := 14) ?hd (xs := ([l0, l1] : List (List Int))) (inner := [.slice A0 l0.length c0, .slice A1 l1.length c1]) (ok := (fun k_ => ((P0_ k_ ∨ P1_ k_) ∨ w.heap.size ≤ k_))) (okp := (fun k_ => ((P0_ k_ ∨ P1_ k_) ∨ w.heap.size ≤ k_))) ?hr ?hp (fun _ hk => hk) ((show ∀ k_, w.heap.size ≤ k_ → (fun k_ => ((P0_ k_ ∨ P1_ k_) ∨ w.heap.size ≤ k_)) k_ from fun k_ hk => (.inr (Nat.le_trans (below_size uB) hk))) _ (Nat.le_refl _)) (Below.refl _ _) (Nat.le_refl _) (by simp) ?_; (case hd => rfl); (case hg => rfl); (case hr => first | (go_simp; done) | (go_simp; rfl) | (go_simp; simp only [u64_u8]; done) | (go_simp; simp only [u64_u8]; rfl)); (case hp => exact (Reps.one (show Kd.FK (Kd.slice 30 (Kd.int .u64)) _ _ l0 [.slice A0 l0.length c0] from (Kd.FK_slice_mk (Kd.V_reads' (Kd.V_mono (ok' := (fun k_ => ((P0_ k_ ∨ P1_ k_) ∨ w.heap.size ≤ k_))) (HO0.out) (fun k_ hk => hk))).2.1 (Kd.V_F (Kd.V_mono (ok' := (fun k_ => ((P0_ k_ ∨ P1_ k_) ∨ w.heap.size ≤ k_))) (HO0.out) (fun k_ hk => hk))))) (Reps.one (show Kd.FK (Kd.slice 30 (Kd.int .u64)) _ _ l1 [.slice A1 l1.length c1] from (Kd.FK_slice_mk (Kd.V_reads' (Kd.V_mono (ok' := (fun k_ => ((P0_ k_ ∨ P1_ k_) ∨ w.heap.size ≤ k_))) (HO1.out) (fun k_ hk => hk))).2.1 (Kd.V_F (Kd.V_mono (ok' := (fun k_ => ((P0_ k_ ∨ P1_ k_) ∨ w.heap.size ≤ k_))) (HO1.out) (fun k_ hk => hk))))) (Reps.none _ _)))); intro v273 w26 ho27 hb hg_ hnew_; clear hg_ hnew_; (first | rw [← Ny272.out] at ho27 | (simp only [Int.reduceToNat] at ho27; rw [← Ny272.out] at ho27)); replace HO0 := Aside0.mk (Kd.V_elder' (uV HO0.out) (Kd.N_base ho27) hb); replace HO1 := Aside0.mk (Kd.V_elder' (uV HO1.out) (Kd.N_base ho27) hb); have HO274 := Aside0.mk (Kd.N_lower ho27 (below_size uB)); replace HB := uy hb; clear hb ho27; obtain ⟨Ao28, co28, eo28⟩ := Kd.N_slice HO274.out; subst eo28) | ((with_reducible refine gate_callee (f := 87) rfl ?_); refine goesL_ (some 15) rfl rfl Try.func87 (by kernel_rfl) rfl #[.slice Ao28 y272.length co28] rfl uM ?_; (with_reducible refine (nat_right.calls _ _ y272 true _ ?side1 ?side2 A3.out).mono ?_); (case side1 => exact uC (Kd.N_reads' HO274.out).2.2); (case side2 => exact (Kd.N_reads' HO274.out).2.1); rintro e w' ⟨rfl, ⟨nd, rfl⟩⟩; refine ⟨_, rfl, ?_⟩) | ((with_reducible refine gate_callee (f := 92) rfl ?_); refine goesL_ (some 24) rfl rfl Try.func92 (by kernel_rfl) rfl #[.slice A0 l0.length c0, .slice A1 l1.length c1] rfl uM ?_; (with_reducible refine (nat_compare.calls k _ _ l0 _ _ l1 t276 _ ?side1 ?side2 ?side3 ?side4 A9.out).mono ?_); (case side1 => exact uC (Kd.V_reads' HO0.out).2.2); (case side2 => exact (Kd.V_reads' HO0.out).2.1); (case side3 => exact uC (Kd.V_reads' HO1.out).2.2); (case side4 => exact (Kd.V_reads' HO1.out).2.1); rintro e w' ⟨rfl, ⟨nd, rfl⟩⟩; refine ⟨_, rfl, ?_⟩) | ((with_reducible refine gate_callee (f := 95) rfl ?_); refine goesL_ (some 46) rfl rfl Try.func95 (by kernel_rfl) rfl #[.slice A0 l0.length c0, .slice A1 l1.length c1] rfl uM ?_; (with_reducible refine (nat_long.calls k _ _ l0 _ _ l1 t288 t289 _ ?side1 ?side2 ?side3 ?side4 A25.out).mono ?_); (case side1 => exact uC (Kd.V_reads' HO0.out).2.2); (case side2 => exact (Kd.V_reads' HO0.out).2.1); (case side3 => exact uC (Kd.V_reads' HO1.out).2.2); (case side4 => exact (Kd.V_reads' HO1.out).2.1); rintro e w29 ⟨v290, v292, rfl, ho0, ho1, hb⟩; refine ⟨_, rfl, ?_⟩; replace HO0 := Aside0.mk (Kd.V_mono (Kd.V_told (Kd.V_told (Kd.V_old (uV HO0.out) hb) (Kd.R_base ho0)) (Kd.R_base ho1)) (fun _ h_ => h_.1)); replace HO1 := Aside0.mk (Kd.V_mono (Kd.V_told (Kd.V_told (Kd.V_old (uV HO1.out) hb) (Kd.R_base ho0)) (Kd.R_base ho1)) (fun _ h_ => h_.1)); replace HO274 := Aside0.mk (Kd.N_mono (Kd.N_told (Kd.N_told (Kd.N_old (uN HO274.out) hb) (Kd.R_base ho0)) (Kd.R_base ho1)) (fun _ h_ => h_.1)); have HO291 := Aside0.mk (Kd.R_lower (Kd.R_newM (M := fun k_ => (w.heap.size ≤ k_)) ho0 (below_size uB) (fun k_ h_ => h_)) (below_size uB)); have HO293 := Aside0.mk (Kd.R_lower (Kd.R_newM (M := fun k_ => (w.heap.size ≤ k_)) ho1 (below_size uB) (fun k_ h_ => h_)) (below_size uB)); replace HB := uy hb; (try clear hb ho0 ho1)))
  go_ret3
  exact ⟨_, _, uF, uR HO291.out, uR HO293.out, uB⟩
 replace c4 := Bool.eq_false_iff.mpr c4
 subst c4
 have H1 : (some (([] : List Int), ([] : List Int), 1)) = some (r1, r2, r3) := by rw [if_neg (show ¬ (false = true) by decide)] at H; exact H
 clear H; have H := H1; clear H1
 simp only [Option.some.injEq, Prod.mk.injEq] at H
 obtain ⟨rfl, rfl, rfl⟩ := H
 go_enter Try.func36, Try.ntmps36
 go_wp2_with (first | ((with_reducible refine gate_dst (N := 14) rfl ?_); refine Kd.N_lit (Kd.slice 30 (Kd.int .u64)) _ 40 ?hg (N' := 14) ?hd (xs := ([l0, l1] : List (List Int))) (inner := [.slice A0 l0.length c0, .slice A1 l1.length c1]) (ok := (fun k_ => ((P0_ k_ ∨ P1_ k_) ∨ w.heap.size ≤ k_))) (okp := (fun k_ => ((P0_ k_ ∨ P1_ k_) ∨ w.heap.size ≤ k_))) ?hr ?hp (fun _ hk => hk) ((show ∀ k_, w.heap.size ≤ k_ → (fun k_ => ((P0_ k_ ∨ P1_ k_) ∨ w.heap.size ≤ k_)) k_ from fun k_ hk => (.inr (Nat.le_trans (below_size uB) hk))) _ (Nat.le_refl _)) (Below.refl _ _) (Nat.le_refl _) (by simp) ?_; (case hd => rfl); (case hg => rfl); (case hr => first | (go_simp; done) | (go_simp; rfl) | (go_simp; simp only [u64_u8]; done) | (go_simp; simp only [u64_u8]; rfl)); (case hp => exact (Reps.one (show Kd.FK (Kd.slice 30 (Kd.int .u64)) _ _ l0 [.slice A0 l0.length c0] from (Kd.FK_slice_mk (Kd.V_reads' (Kd.V_mono (ok' := (fun k_ => ((P0_ k_ ∨ P1_ k_) ∨ w.heap.size ≤ k_))) (HO0.out) (fun k_ hk => hk))).2.1 (Kd.V_F (Kd.V_mono (ok' := (fun k_ => ((P0_ k_ ∨ P1_ k_) ∨ w.heap.size ≤ k_))) (HO0.out) (fun k_ hk => hk))))) (Reps.one (show Kd.FK (Kd.slice 30 (Kd.int .u64)) _ _ l1 [.slice A1 l1.length c1] from (Kd.FK_slice_mk (Kd.V_reads' (Kd.V_mono (ok' := (fun k_ => ((P0_ k_ ∨ P1_ k_) ∨ w.heap.size ≤ k_))) (HO1.out) (fun k_ hk => hk))).2.1 (Kd.V_F (Kd.V_mono (ok' := (fun k_ => ((P0_ k_ ∨ P1_ k_) ∨ w.heap.size ≤ k_))) (HO1.out) (fun k_ hk => hk))))) (Reps.none _ _)))); intro v273 w30 ho31 hb hg_ hnew_; clear hg_ hnew_; (first | rw [← Ny272.out] at ho31 | (simp only [Int.reduceToNat] at ho31; rw [← Ny272.out] at ho31)); replace HO0 := Aside0.mk (Kd.V_elder' (uV HO0.out) (Kd.N_base ho31) hb); replace HO1 := Aside0.mk (Kd.V_elder' (uV HO1.out) (Kd.N_base ho31) hb); have HO274 := Aside0.mk (Kd.N_lower ho31 (below_size uB)); replace HB := uy hb; clear hb ho31; obtain ⟨Ao32, co32, eo32⟩ := Kd.N_slice HO274.out; subst eo32) | ((with_reducible refine gate_callee (f := 87) rfl ?_); refine goesL_ (some 15) rfl rfl Try.func87 (by kernel_rfl) rfl #[.slice Ao32 y272.length co32] rfl uM ?_; (with_reducible refine (nat_right.calls _ _ y272 false _ ?side1 ?side2 A3.out).mono ?_); (case side1 => exact uC (Kd.N_reads' HO274.out).2.2); (case side2 => exact (Kd.N_reads' HO274.out).2.1); rintro e w' ⟨rfl, ⟨nd, rfl⟩⟩; refine ⟨_, rfl, ?_⟩))
 go_ret3
 exact ⟨_, _, by first | rfl | (simp [errW_none, errW_some] <;> rfl) | (simp [*, errW_none, errW_some] <;> rfl), by first | exact Kd.R_nil _ _ _ _ _ | exact Kd.N_nil _ _ _ _ _ | exact Kd.V_nil _ _ _ _ _ | exact Kd.Q_nil _ _ _ _ _ | exact Kd.S_nil _ _ _ _ _, by first | exact Kd.R_nil _ _ _ _ _ | exact Kd.N_nil _ _ _ _ _ | exact Kd.V_nil _ _ _ _ _ | exact Kd.Q_nil _ _ _ _ _ | exact Kd.S_nil _ _ _ _ _, uB⟩
end Go.Proofs.Ytkgaejigpmkfkaa.F
end
section
namespace Go.Proofs.Ytkgaejigpmkfkaa.F
open Go.RowKit Go.Proofs.YtkgaejigpmkfkaaW.PrintWords Go.Proofs.YtkgaejigpmkfkaaW.PrintLast Go.Proofs.YtkgaejigpmkfkaaW.PrintMore
attribute [local go_sem] max2_int min2_int max_two min_two max_three min_three max_four min_four
set_option linter.unusedVariables false
set_option linter.unusedSimpArgs false
mutual
def modint_Gcd.j0 : Nat → List Int → List Int → Bool → Option (List Int × Int)
 | 0, _, _, _ => none
 | k + 1, x0, x1, x16 => if x16 = true then (some (([] : List Int), 1)) else ((api_Nat_uint64.f x0).bind fun t296 => ((api_Nat_uint64.f x1).bind fun t299 => (modint_Gcd.l0 k t296 t299)))
def modint_Gcd.l0 : Nat → List Int → List Int → Option (List Int × Int)
 | 0, _, _ => none
 | k + 1, x0, x1 => if (x1.length : Int) > 0 then ((nat_Div.f k x0 x1).bind fun bt302 => (modint_Gcd.l0 k x1 bt302.2.1)) else (some (x0, 0))
end
def modint_Gcd.f (k : Nat) (l0 : List Int) (l1 : List Int) : Option (List Int × Int) := (nat_Right.f l0).bind fun t294 => (if t294 = true then ((nat_Right.f l1).bind fun t295 => (modint_Gcd.j0 k l0 l1 (!t295))) else (modint_Gcd.j0 k l0 l1 true))
set_option maxHeartbeats 8000000 in
set_option maxRecDepth 100000 in
theorem modint_Gcd.calls (k : Nat) (A0 : Option Addr) (c0 : Nat) (l0 : List Int) (A1 : Option Addr) (c1 : Nat) (l1 : List Int) (r1 : List Int) (r2 : Int) (w : World) (hr0 : Kd.C (Kd.int .u64) w A0 l0.length l0) (hc0 : l0.length ≤ c0) (hr1 : Kd.C (Kd.int .u64) w A1 l1.length l1) (hc1 : l1.length ≤ c1) (h : modint_Gcd.f k l0 l1 = some (r1, r2)) :
  Calls Try.prog 54 #[.slice A0 l0.length c0, .slice A1 l1.length c1] w fun e w' => ∃ v0_ : Value, e = .returned (.tuple #[v0_, .int .i64 r2]) ∧ Kd.R (Kd.int .u64) 30 w' w.heap.size (fun _ => True) v0_ r1 ∧ Below w.heap.size w w' := by
 have HR0 := Aside0.mk hr0; have HC0 := Aside0.mk hc0; clear hr0 hc0; have HR1 := Aside0.mk hr1; have HC1 := Aside0.mk hc1; clear hr1 hc1
 have HB := Aside0.mk (Below.refl w.heap.size w)
 have H : ((nat_Right.f l0).bind fun t294 => (if t294 = true then ((nat_Right.f l1).bind fun t295 => (modint_Gcd.j0 k l0 l1 (!t295))) else (modint_Gcd.j0 k l0 l1 true))) = some (r1, r2) := h
 clear h; have HC3 := Aside0.mk H; clear H
 go_enter Try.func54, Try.ntmps54
 go_upto_region 1 with (fail)
 go_cut [16] (fun v16 wc => ∃ (kq : Nat) (x16_2 : Bool), v16 = .bool x16_2 ∧ Aside0 (modint_Gcd.j0 kq l0 l1 x16_2 = some (r1, r2)) ∧ Aside0 (kq ≤ k) ∧ Aside0 (Below w.heap.size w wc))
 case first =>
  have H := HC3.out
  clear HC3
  replace H := ub H; obtain ⟨t294, A4, H⟩ := H
  by_cases c5 : t294 = true
  ·
   subst c5
   have H1 : ((nat_Right.f l1).bind fun t295 => (modint_Gcd.j0 k l0 l1 (!t295))) = some (r1, r2) := by rw [if_pos rfl] at H; exact H
   clear H; have H := H1; clear H1
   replace H := ub H; obtain ⟨t295, A6, H⟩ := H
   have H' := Aside0.mk H
   clear H
   go_wp2_with (first | ((with_reducible refine gate_callee (f := 77) rfl ?_); refine goesL_ (some 10) rfl rfl Try.func77 (by kernel_rfl) rfl #[.slice A0 l0.length c0] rfl uM ?_; (with_reducible refine (nat_Right.calls _ _ l0 true _ ?side1 ?side2 A4.out).mono ?_); (case side1 => exact uC (Kd.C_below HR0.out HB.out)); (case side2 => exact HC0.out); rintro e w' ⟨rfl, ⟨nd, rfl⟩⟩; refine ⟨_, rfl, ?_⟩) | (go_at_call 77; (with_reducible refine (nat_Right.calls _ _ l1 t295 _ ?side1 ?side2 A6.out).mono ?_); (case side1 => exact uC (Kd.C_below HR1.out uB)); (case side2 => exact HC1.out); rintro e w' ⟨rfl, ⟨nd, rfl⟩⟩))
   go_meet
   case rel => exact ⟨_, (!t295), uG, H', ⟨uW⟩, ⟨uB⟩⟩
  replace c5 := Bool.eq_false_iff.mpr c5
  subst c5
  have H1 : (modint_Gcd.j0 k l0 l1 true) = some (r1, r2) := by rw [if_neg (show ¬ (false = true) by decide)] at H; exact H
  clear H; have H := H1; clear H1
  have H' := Aside0.mk H
  clear H
  go_wp2_with (first | ((with_reducible refine gate_callee (f := 77) rfl ?_); refine goesL_ (some 10) rfl rfl Try.func77 (by kernel_rfl) rfl #[.slice A0 l0.length c0] rfl uM ?_; (with_reducible refine (nat_Right.calls _ _ l0 false _ ?side1 ?side2 A4.out).mono ?_); (case side1 => exact uC (Kd.C_below HR0.out HB.out)); (case side2 => exact HC0.out); rintro e w' ⟨rfl, ⟨nd, rfl⟩⟩; refine ⟨_, rfl, ?_⟩))
  go_meet
  case rel => exact ⟨_, (true), uG, H', ⟨uW⟩, ⟨uB⟩⟩
 case rest =>
  clear HC3; (try clear c1); (try clear p2); (try clear c5)
  obtain ⟨kq, x16_2, rfl, HA, HJ2, HB⟩ := hcut
  cases kq with
  | zero => exact absurd HA.out (by simp [modint_Gcd.j0])
  | succ kj2 =>
   have H := HA.out
   clear HA
   simp only [modint_Gcd.j0] at H
   by_cases c7 : x16_2 = true
   ·
    subst c7
    have H1 : (some (([] : List Int), 1)) = some (r1, r2) := by rw [if_pos rfl] at H; exact H
    clear H; have H := H1; clear H1
    simp only [Option.some.injEq, Prod.mk.injEq] at H
    obtain ⟨rfl, rfl⟩ := H
    go_wp2
    go_ret2
    exact ⟨_, by first | rfl | (simp [errW_none, errW_some] <;> rfl) | (simp [*, errW_none, errW_some] <;> rfl), by first | exact Kd.R_nil _ _ _ _ _ | exact Kd.N_nil _ _ _ _ _ | exact Kd.V_nil _ _ _ _ _ | exact Kd.Q_nil _ _ _ _ _ | exact Kd.S_nil _ _ _ _ _, uB⟩
   replace c7 := Bool.eq_false_iff.mpr c7
   subst c7
   have H1 : ((api_Nat_uint64.f l0).bind fun t296 => ((api_Nat_uint64.f l1).bind fun t299 => (modint_Gcd.l0 kj2 t296 t299))) = some (r1, r2) := by rw [if_neg (show ¬ (false = true) by decide)] at H; exact H
   clear H; have H := H1; clear H1
   replace H := ub H; obtain ⟨t296, A8, H⟩ := H
   replace H := ub H; obtain ⟨t299, A9, H⟩ := H
   have H' := Aside0.mk H
   clear H
   go_wp2_with (first | ((with_reducible refine gate_callee (f := 78) rfl ?_); refine goesL_ (some 18) rfl rfl Try.func78 (by kernel_rfl) rfl #[.slice A0 l0.length c0] rfl uM ?_; (with_reducible refine (api_Nat_uint64.calls _ _ l0 t296 _ ?side1 ?side2 A8.out).mono ?_); (case side1 => exact uC (Kd.C_below HR0.out HB.out)); (case side2 => exact HC0.out); rintro e w10 ⟨v297, rfl, ho0, hb⟩; refine ⟨_, rfl, ?_⟩; have HO298 := Aside0.mk (Kd.R_lower ho0 (below_size uB)); replace HB := uy hb; (try clear hb ho0)) | ((with_reducible refine gate_callee (f := 78) rfl ?_); refine goesL_ (some 20) rfl rfl Try.func78 (by kernel_rfl) rfl #[.slice A1 l1.length c1] rfl uM ?_; (with_reducible refine (api_Nat_uint64.calls _ _ l1 t299 _ ?side1 ?side2 A9.out).mono ?_); (case side1 => exact uC (Kd.C_below HR1.out HB.out)); (case side2 => exact HC1.out); rintro e w11 ⟨v300, rfl, ho0, hb⟩; refine ⟨_, rfl, ?_⟩; have HO301 := Aside0.mk (Kd.R_lower (Kd.R_new' ho0 (Kd.R_lt (uR HO298.out))) (below_size uB)); replace HO298 := ueR HO298 ho0 hb; replace HB := uy hb; (try clear hb ho0)))
   go_loopg [0, 1] kj2 (fun kq v0 v1 w' => ∃ (x0_2 : List Int) (x1_2 : List Int), Aside0 (modint_Gcd.l0 kq x0_2 x1_2 = some (r1, r2)) ∧ Aside0 (kq ≤ kj2) ∧ Aside0 (Kd.R (Kd.int .u64) 30 w' w.heap.size (fun k_ => some k_ ≠ (v1 : Value).ownBlock) v0 x0_2) ∧ Aside0 (Kd.R (Kd.int .u64) 30 w' w.heap.size (fun k_ => some k_ ≠ (v0 : Value).ownBlock) v1 x1_2) ∧ Aside0 (Below w.heap.size w w'))
   case atStart => exact ⟨(t296), (t299), H', ⟨Nat.le_refl _⟩, ⟨by (with_reducible repeat (first | apply Kd.R_alloc | apply Kd.R_drewN | apply Kd.R_drew)); exact Kd.R_mono HO298.out (fun _ hk => hk.2)⟩, ⟨by (with_reducible repeat (first | apply Kd.R_alloc | apply Kd.R_drewN | apply Kd.R_drew)); exact Kd.R_mono HO301.out (fun _ hk => hk.2)⟩, ⟨uB⟩⟩
   case round =>
    clear H'
    (try clear c1); (try clear p2); (try clear c5); (try clear c7); (try clear p2)
    obtain ⟨x0_2, x1_2, HA, HK2, HO_0, HO_1, HB⟩ := hrel
    cases gk with
    | zero => exact absurd HA.out (by simp [modint_Gcd.l0])
    | succ k2 =>
     have H := HA.out
     clear HA
     simp only [modint_Gcd.l0] at H
     by_cases c12 : (x1_2.length : Int) > 0
     ·
      rw [if_pos c12] at H
      have c12b0 : decide (0 < (x1_2.length : Int)) = true := decide_eq_true c12
      have c12b1 : decide (0 < x1_2.length) = true := decide_eq_true (by omega)
      clear c12
      replace H := ub H; obtain ⟨⟨t302, t305, t308⟩, A13, H⟩ := H
      (try dsimp only at H)
      have H' := Aside0.mk H
      clear H
      obtain ⟨Ao14, co14, eo14⟩ := Kd.R_slice HO_1.out
      subst eo14
      obtain ⟨Ao15, co15, eo15⟩ := Kd.R_slice HO_0.out
      subst eo15
      go_wp2_with (first | ((with_reducible refine gate_callee (f := 36) rfl ?_); refine goesL_ (some 27) rfl rfl Try.func36 (by kernel_rfl) rfl #[.slice Ao15 x0_2.length co15, .slice Ao14 x1_2.length co14] rfl uM ?_; (with_reducible refine (nat_Div.calls k2 (fun k_ => some k_ = (.slice Ao15 x0_2.length co15 : Value).ownBlock) _ _ x0_2 (fun k_ => some k_ = (.slice Ao14 x1_2.length co14 : Value).ownBlock) _ _ x1_2 t302 t305 t308 _ ?side1 ?side2 A13.out).mono ?_); (case side1 => exact Kd.R_V (Kd.R_tight rfl (HO_0.out))); (case side2 => exact Kd.R_V (Kd.R_tight rfl (HO_1.out))); rintro e w16 ⟨v303, v306, rfl, ho0, ho1, hb⟩; refine ⟨_, rfl, ?_⟩; have HO304 := Aside0.mk (Kd.R_lower (Kd.R_new' (Kd.R_new' (Kd.R_mono (ok' := fun k_ => some k_ ≠ (v306 : Value).ownBlock) ho0 (fun _ hk_ => hk_.2)) (Kd.R_lt (uR HO_0.out))) (Kd.R_lt (uR HO_1.out))) (below_size uB)); have HO307 := Aside0.mk (Kd.R_lower (Kd.R_new' (Kd.R_new' (Kd.R_mono (ok' := fun k_ => some k_ ≠ (v303 : Value).ownBlock) ho1 (fun _ hk_ => hk_.2)) (Kd.R_lt (uR HO_0.out))) (Kd.R_lt (uR HO_1.out))) (below_size uB)); replace HO_0 := Aside0.mk (Kd.R_mono (Kd.R_told (Kd.R_told (Kd.R_old (uR HO_0.out) hb) (Kd.R_base ho0)) (Kd.R_base ho1)) (fun _ h_ => h_.1)); replace HO_1 := Aside0.mk (Kd.R_mono (Kd.R_told (Kd.R_told (Kd.R_old (uR HO_1.out) hb) (Kd.R_base ho0)) (Kd.R_base ho1)) (fun _ h_ => h_.1)); replace HB := uy hb; (try clear hb ho0 ho1)))
      go_roundg k2
      case measure => have := HJ2.out; have := HK2.out; omega
      case rel => exact ⟨(x1_2), (t305), H', ⟨by have := HJ2.out; have := HK2.out; omega⟩, ⟨by (with_reducible repeat (first | apply Kd.R_alloc | apply Kd.R_drewN | apply Kd.R_drew)); exact Kd.R_mono HO_1.out (fun _ hk => hk.2)⟩, ⟨by (with_reducible repeat (first | apply Kd.R_alloc | apply Kd.R_drewN | apply Kd.R_drew)); exact Kd.R_mono HO307.out (fun _ hk => hk.2)⟩, ⟨uB⟩⟩
     rw [if_neg c12] at H
     have c12b0 : decide (0 < (x1_2.length : Int)) = false := decide_eq_false c12
     have c12b1 : decide (0 < x1_2.length) = false := decide_eq_false (by omega)
     clear c12
     simp only [Option.some.injEq, Prod.mk.injEq] at H
     obtain ⟨rfl, rfl⟩ := H
     obtain ⟨Ao17, co17, eo17⟩ := Kd.R_slice HO_1.out
     subst eo17
     go_wp2
     go_ret2
     exact ⟨_, uF, by (with_reducible repeat (first | apply Kd.R_alloc | apply Kd.R_drewN | apply Kd.R_drew)); exact Kd.R_mono HO_0.out (fun _ hk => trivial), uB⟩
end Go.Proofs.Ytkgaejigpmkfkaa.F
end
section
namespace Go.Proofs.Ytkgaejigpmkfkaa.F
open Go.RowKit Go.Proofs.YtkgaejigpmkfkaaW.PrintWords Go.Proofs.YtkgaejigpmkfkaaW.PrintLast Go.Proofs.YtkgaejigpmkfkaaW.PrintMore
attribute [local go_sem] max2_int min2_int max_two min_two max_three min_three max_four min_four
set_option linter.unusedVariables false
set_option linter.unusedSimpArgs false
def prime_Check.j0 : Nat → Bool → Int → Int → Option (Int)
 | 0, _, _, _ => none
 | k + 1, x35, x315000, x315001 => if x35 = true then (some 9) else ((nat_Mul.f k (([x315000] : List Int)) (([x315001] : List Int))).bind fun bt325 => ((nat_Mul.f k (([IntKind.u64.wrap (x315000 - 1)] : List Int)) (([IntKind.u64.wrap (x315001 - 1)] : List Int))).bind fun bt335 => ((modint_Gcd.f k bt325.1 bt335.1).bind fun bt339 => ((nat_Cmp.f k bt339.1 (([1] : List Int))).bind fun t346 => (if t346 = 0 then (some 0) else (some 9))))))
def prime_Check.f (k : Nat) (a0_0 : Int) (a0_1 : Int) : Option (Int) := (prime_Check_1.f a0_0).bind fun t315 => (if t315 = true then (prime_Check.j0 k true a0_0 a0_1) else ((prime_Check_1.f a0_1).bind fun t316 => (if t316 = true then (prime_Check.j0 k true a0_0 a0_1) else (if a0_0 = a0_1 then (prime_Check.j0 k true a0_0 a0_1) else ((bits_Len64.f k a0_0).bind fun t317 => ((bits_Len64.f k a0_1).bind fun t318 => (prime_Check.j0 k (t317 != t318) a0_0 a0_1)))))))
def prime_Check.T2 : Bool × List (List Nat × List Nat) := (true, [([], []), ([], []), ([1], [1]), ([0, 2], [0, 2]), ([3, 3], [3]), ([4], [4]), ([4], [4]), ([6, 4], [4, 6]), ([5, 7, 4, 4], [4, 5, 7]), ([4, 8], [4, 8]), ([9, 8], [9]), ([10], [10]), ([11, 10], [10, 11]), ([10], [10]), ([13, 10], [10, 13]), ([12, 14, 10], [10, 12, 14]), ([10, 15], [10, 15]), ([16, 10], [16]), ([17], [17]), ([18, 17], [17, 18]), ([19, 17, 17], [17, 19]), ([17], [17]), ([21, 17], [17, 21]), ([22, 20, 17], [17, 22]), ([20, 23, 17], [17, 20, 23]), ([17, 24], [17, 24])])
def prime_Check.B2 : List Nat := [0, 0, 2, 7, 15, 31, 31, 95, 255, 511, 1023, 2047, 4095, 2047, 10239, 32767, 65535, 131071, 262143, 524287, 1048575, 262143, 2359295, 8388607, 16777215, 33554431]
theorem prime_Check.tab2 : rtab .any (opsOf Try.f16 2) = prime_Check.T2 := by kernel_rfl
theorem prime_Check.bits2 : waitsOk prime_Check.T2.2 prime_Check.B2 = true := by kernel_rfl
set_option maxHeartbeats 8000000 in
set_option maxRecDepth 100000 in
theorem prime_Check.calls (k : Nat) (a0_0 : Int) (a0_1 : Int) (r : Int) (w : World) (h : prime_Check.f k a0_0 a0_1 = some r) :
  Calls Try.prog 16 #[.agg #[.int .u64 a0_0, .int .u64 a0_1]] w fun e w' => e = .returned (.int .i64 r) ∧ Below w.heap.size w w' := by
 have hu32 := Try.underlying32
 have HB := Aside0.mk (Below.refl w.heap.size w)
 have H : ((prime_Check_1.f a0_0).bind fun t315 => (if t315 = true then (prime_Check.j0 k true a0_0 a0_1) else ((prime_Check_1.f a0_1).bind fun t316 => (if t316 = true then (prime_Check.j0 k true a0_0 a0_1) else (if a0_0 = a0_1 then (prime_Check.j0 k true a0_0 a0_1) else ((bits_Len64.f k a0_0).bind fun t317 => ((bits_Len64.f k a0_1).bind fun t318 => (prime_Check.j0 k (t317 != t318) a0_0 a0_1)))))))) = some r := h
 clear h; have HC2 := Aside0.mk H; clear H
 go_enter Try.func16, Try.ntmps16
 go_upto_region 2 with (first | ((with_reducible refine gate_dst (N := 1) rfl ?_); refine box_event ?hg (N := 1) ?hd (cs := #[.int .u64 a0_0, .int .u64 a0_1]) (t := 32) ?hr ?_; (case hd => rfl); (case hg => rfl); (case hr => first | (go_simp; done) | (go_simp; rfl)); intro gb314 hg w3 hbox hb; have BK314 := Aside0.mk (hbox); have GW314 := us hg; have GE314 := us hg; replace HB := uy hb; clear hb hbox hg))
 (try simp only [Act.put, List.setIfInBounds_toArray, List.set_cons_zero, List.set_cons_succ])
 go_cut [35] (fun v35 wc => ∃ (kq : Nat) (x35_1 : Bool), v35 = .bool x35_1 ∧ Aside0 (prime_Check.j0 kq x35_1 a0_0 a0_1 = some r) ∧ Aside0 (kq ≤ k) ∧ Aside0 (wc.heap[gb314]? = some (.cells #[.int .u64 a0_0, .int .u64 a0_1] 32 (0, 0))) ∧ Aside0 (Below w.heap.size w wc))
 case first =>
  have H := HC2.out
  clear HC2
  replace H := ub H; obtain ⟨t315, A4, H⟩ := H
  by_cases c5 : t315 = true
  ·
   subst c5
   have H1 : (prime_Check.j0 k true a0_0 a0_1) = some r := by rw [if_pos rfl] at H; exact H
   clear H; have H := H1; clear H1
   have H' := Aside0.mk H
   clear H
   try go_wp2
   replace BK314 := Aside0.mk (blk_drew BK314.out); replace HB := Aside0.mk (below_drew1 HB.out)
   refine start_ (n := 26) (S := fun w' => w'.cell? ⟨gb314, 0, none⟩ = some (.int .u64 a0_0) ∧ w'.cell? ⟨gb314, 1, none⟩ = some (.int .u64 a0_1)) (ds := []) (.replicate 26 false) (by kernel_rfl) rfl rfl ⟨(blk_cell BK314.out 0).trans rfl, (blk_cell BK314.out 1).trans rfl⟩ (fun hHeld => ?_); refine with_tabW prime_Check.tab2 prime_Check.bits2 (fun HT_ HW_ => ?_)
   generalize w3.drew = w6 at BK314 HB hHeld ⊢
   refine pure_ (i := 0) (N := some 10) (v := ?_) (a' := ?_) (uA 26 1) rfl rfl (any_of HT_.out (by kernel_rfl)) (fun _ _ _ h => h) (Or.inl ⟨by rfl, ?_⟩) ?_ ?_
   rotate_left
   ·
    intro w'
    go_simp
    with_reducible rfl
   rotate_left
   · exact uQ
   refine pure_ (i := 1) (N := some 11) (v := ?_) (a' := ?_) (uA 26 3) rfl rfl (any_of HT_.out (by kernel_rfl)) (fun _ _ _ h => h) (Or.inl ⟨by rfl, ?_⟩) ?_ ?_
   rotate_left
   ·
    intro w'
    go_simp
    with_reducible rfl
   rotate_left
   · exact uQ
   refine take_ (i := 2) (N := some 12) (v := ?_) (a' := ?_) (uA 26 7) rfl rfl (take_ofW HT_.out HW_.out (by kernel_rfl)) (fun _ _ _ h => h) (Or.inl ⟨by rfl, ?_⟩) hHeld ?_ ?_
   rotate_left
   ·
    rintro w' ⟨s0, s1⟩
    go_simp
    with_reducible rfl
   rotate_left
   · exact uQ
   refine one_ (i := 3) (N := some 13) (uA 26 15) rfl rfl (one_of HT_.out (by kernel_rfl)) (by decide) (fun K hK => ?_)
   (first | refine goes_ Try.func51 (by kernel_rfl) rfl #[.int .u64 a0_0] (by rfl) rfl rfl uM ?_ | refine goesT_ Try.func51 (by kernel_rfl) rfl #[.int .u64 a0_0] (by rfl) rfl rfl rfl uM ?_)
   with_reducible refine (prime_Check_1.calls a0_0 true _ A4.out).mono ?_
   rintro e w7 ⟨rfl, hb⟩
   refine ⟨_, rfl, ?_⟩; replace BK314 := ux BK314 hb; replace HB := uy hb; (try clear hb); refine hK.out _ _ ⟨(blk_cell BK314.out 0).trans rfl, (blk_cell BK314.out 1).trans rfl⟩ (fun hHeld => ?_); clear hK K; refine norm_ (a' := ?_) ?_ ?_; rotate_left
   · exact (show Act.put _ (some 13) _ = _ from uQ)
   refine pure_ (i := 4) (N := some 14) (v := ?_) (a' := ?_) (uA 26 31) rfl rfl (any_of HT_.out (by kernel_rfl)) (fun _ _ _ h => h) (Or.inl ⟨by rfl, ?_⟩) ?_ ?_
   rotate_left
   ·
    intro w'
    go_simp
    with_reducible rfl
   rotate_left
   · exact uQ
   refine pure_ (i := 5) (N := some 15) (v := undef) (a' := ?_) (uA 26 63) rfl rfl (any_of HT_.out (by kernel_rfl)) (fun _ _ _ h => h) (Or.inr ⟨by rfl, rfl⟩) ?_ ?_
   rotate_left
   · exact uQ
   refine pure_ (i := 6) (N := some 16) (v := undef) (a' := ?_) (uA 26 127) rfl rfl (any_of HT_.out (by kernel_rfl)) (fun _ _ _ h => h) (Or.inr ⟨by rfl, rfl⟩) ?_ ?_
   rotate_left
   · exact uQ
   refine pure_ (i := 7) (N := some 17) (v := undef) (a' := ?_) (uA 26 255) rfl rfl (any_of HT_.out (by kernel_rfl)) (fun _ _ _ h => h) (Or.inr ⟨by rfl, rfl⟩) ?_ ?_
   rotate_left
   · exact uQ
   refine pure_ (i := 8) (N := some 18) (v := undef) (a' := ?_) (uA 26 511) rfl rfl (any_of HT_.out (by kernel_rfl)) (fun _ _ _ h => h) (Or.inr ⟨by rfl, rfl⟩) ?_ ?_
   rotate_left
   · exact uQ
   refine pure_ (i := 9) (N := some 19) (v := ?_) (a' := ?_) (uA 26 1023) rfl rfl (any_of HT_.out (by kernel_rfl)) (fun _ _ _ h => h) (Or.inl ⟨by rfl, ?_⟩) ?_ ?_
   rotate_left
   ·
    intro w'
    go_simp
    with_reducible rfl
   rotate_left
   · exact uQ
   refine pure_ (i := 10) (N := some 20) (v := ?_) (a' := ?_) (uA 26 2047) rfl rfl (any_of HT_.out (by kernel_rfl)) (fun _ _ _ h => h) (Or.inl ⟨by rfl, ?_⟩) ?_ ?_
   rotate_left
   ·
    intro w'
    go_simp
    with_reducible rfl
   rotate_left
   · exact uQ
   refine pure_ (i := 11) (N := some 21) (v := undef) (a' := ?_) (uA 26 4095) rfl rfl (any_of HT_.out (by kernel_rfl)) (fun _ _ _ h => h) (Or.inr ⟨by rfl, rfl⟩) ?_ ?_
   rotate_left
   · exact uQ
   refine pure_ (i := 12) (N := some 22) (v := undef) (a' := ?_) (uA 26 8191) rfl rfl (any_of HT_.out (by kernel_rfl)) (fun _ _ _ h => h) (Or.inr ⟨by rfl, rfl⟩) ?_ ?_
   rotate_left
   · exact uQ
   refine pure_ (i := 13) (N := some 23) (v := undef) (a' := ?_) (uA 26 16383) rfl rfl (any_of HT_.out (by kernel_rfl)) (fun _ _ _ h => h) (Or.inr ⟨by rfl, rfl⟩) ?_ ?_
   rotate_left
   · exact uQ
   refine pure_ (i := 14) (N := some 24) (v := undef) (a' := ?_) (uA 26 32767) rfl rfl (any_of HT_.out (by kernel_rfl)) (fun _ _ _ h => h) (Or.inr ⟨by rfl, rfl⟩) ?_ ?_
   rotate_left
   · exact uQ
   refine pure_ (i := 15) (N := some 25) (v := undef) (a' := ?_) (uA 26 65535) rfl rfl (any_of HT_.out (by kernel_rfl)) (fun _ _ _ h => h) (Or.inr ⟨by rfl, rfl⟩) ?_ ?_
   rotate_left
   · exact uQ
   refine pure_ (i := 16) (N := some 26) (v := ?_) (a' := ?_) (uA 26 131071) rfl rfl (any_of HT_.out (by kernel_rfl)) (fun _ _ _ h => h) (Or.inl ⟨by rfl, ?_⟩) ?_ ?_
   rotate_left
   ·
    intro w'
    go_simp
    with_reducible rfl
   rotate_left
   · exact uQ
   refine pure_ (i := 17) (N := some 27) (v := ?_) (a' := ?_) (uA 26 262143) rfl rfl (any_of HT_.out (by kernel_rfl)) (fun _ _ _ h => h) (Or.inl ⟨by rfl, ?_⟩) ?_ ?_
   rotate_left
   ·
    intro w'
    go_simp
    with_reducible rfl
   rotate_left
   · exact uQ
   refine pure_ (i := 18) (N := some 28) (v := undef) (a' := ?_) (uA 26 524287) rfl rfl (any_of HT_.out (by kernel_rfl)) (fun _ _ _ h => h) (Or.inr ⟨by rfl, rfl⟩) ?_ ?_
   rotate_left
   · exact uQ
   refine pure_ (i := 19) (N := some 29) (v := undef) (a' := ?_) (uA 26 1048575) rfl rfl (any_of HT_.out (by kernel_rfl)) (fun _ _ _ h => h) (Or.inr ⟨by rfl, rfl⟩) ?_ ?_
   rotate_left
   · exact uQ
   refine pure_ (i := 20) (N := some 30) (v := undef) (a' := ?_) (uA 26 2097151) rfl rfl (any_of HT_.out (by kernel_rfl)) (fun _ _ _ h => h) (Or.inr ⟨by rfl, rfl⟩) ?_ ?_
   rotate_left
   · exact uQ
   refine pure_ (i := 21) (N := some 31) (v := undef) (a' := ?_) (uA 26 4194303) rfl rfl (any_of HT_.out (by kernel_rfl)) (fun _ _ _ h => h) (Or.inr ⟨by rfl, rfl⟩) ?_ ?_
   rotate_left
   · exact uQ
   refine pure_ (i := 22) (N := some 32) (v := undef) (a' := ?_) (uA 26 8388607) rfl rfl (any_of HT_.out (by kernel_rfl)) (fun _ _ _ h => h) (Or.inr ⟨by rfl, rfl⟩) ?_ ?_
   rotate_left
   · exact uQ
   refine pure_ (i := 23) (N := some 33) (v := undef) (a' := ?_) (uA 26 16777215) rfl rfl (any_of HT_.out (by kernel_rfl)) (fun _ _ _ h => h) (Or.inr ⟨by rfl, rfl⟩) ?_ ?_
   rotate_left
   · exact uQ
   refine pure_ (i := 24) (N := some 34) (v := undef) (a' := ?_) (uA 26 33554431) rfl rfl (any_of HT_.out (by kernel_rfl)) (fun _ _ _ h => h) (Or.inr ⟨by rfl, rfl⟩) ?_ ?_
   rotate_left
   · exact uQ
   refine pure_ (i := 25) (N := some 35) (v := ?_) (a' := ?_) (uA 26 67108863) rfl rfl (any_of HT_.out (by kernel_rfl)) (fun _ _ _ h => h) (Or.inl ⟨by rfl, ?_⟩) ?_ ?_
   rotate_left
   ·
    intro w'
    go_simp
    with_reducible rfl
   rotate_left
   · exact uQ
   refine done_ (done_of HT_.out (by kernel_rfl)) ?_
   try go_wp2
   go_meet
   case rel => exact ⟨_, (true), uG, H', ⟨uW⟩, ⟨uK BK314.out⟩, ⟨uB⟩⟩
  replace c5 := Bool.eq_false_iff.mpr c5
  subst c5
  have H1 : ((prime_Check_1.f a0_1).bind fun t316 => (if t316 = true then (prime_Check.j0 k true a0_0 a0_1) else (if a0_0 = a0_1 then (prime_Check.j0 k true a0_0 a0_1) else ((bits_Len64.f k a0_0).bind fun t317 => ((bits_Len64.f k a0_1).bind fun t318 => (prime_Check.j0 k (t317 != t318) a0_0 a0_1)))))) = some r := by rw [if_neg (show ¬ (false = true) by decide)] at H; exact H
  clear H; have H := H1; clear H1
  replace H := ub H; obtain ⟨t316, A8, H⟩ := H
  by_cases c9 : t316 = true
  ·
   subst c9
   have H1 : (prime_Check.j0 k true a0_0 a0_1) = some r := by rw [if_pos rfl] at H; exact H
   clear H; have H := H1; clear H1
   have H' := Aside0.mk H
   clear H
   try go_wp2
   replace BK314 := Aside0.mk (blk_drew BK314.out); replace HB := Aside0.mk (below_drew1 HB.out)
   refine start_ (n := 26) (S := fun w' => w'.cell? ⟨gb314, 0, none⟩ = some (.int .u64 a0_0) ∧ w'.cell? ⟨gb314, 1, none⟩ = some (.int .u64 a0_1)) (ds := []) (.replicate 26 false) (by kernel_rfl) rfl rfl ⟨(blk_cell BK314.out 0).trans rfl, (blk_cell BK314.out 1).trans rfl⟩ (fun hHeld => ?_); refine with_tabW prime_Check.tab2 prime_Check.bits2 (fun HT_ HW_ => ?_)
   generalize w3.drew = w10 at BK314 HB hHeld ⊢
   refine pure_ (i := 0) (N := some 10) (v := ?_) (a' := ?_) (uA 26 1) rfl rfl (any_of HT_.out (by kernel_rfl)) (fun _ _ _ h => h) (Or.inl ⟨by rfl, ?_⟩) ?_ ?_
   rotate_left
   ·
    intro w'
    go_simp
    with_reducible rfl
   rotate_left
   · exact uQ
   refine pure_ (i := 1) (N := some 11) (v := ?_) (a' := ?_) (uA 26 3) rfl rfl (any_of HT_.out (by kernel_rfl)) (fun _ _ _ h => h) (Or.inl ⟨by rfl, ?_⟩) ?_ ?_
   rotate_left
   ·
    intro w'
    go_simp
    with_reducible rfl
   rotate_left
   · exact uQ
   refine take_ (i := 2) (N := some 12) (v := ?_) (a' := ?_) (uA 26 7) rfl rfl (take_ofW HT_.out HW_.out (by kernel_rfl)) (fun _ _ _ h => h) (Or.inl ⟨by rfl, ?_⟩) hHeld ?_ ?_
   rotate_left
   ·
    rintro w' ⟨s0, s1⟩
    go_simp
    with_reducible rfl
   rotate_left
   · exact uQ
   refine one_ (i := 3) (N := some 13) (uA 26 15) rfl rfl (one_of HT_.out (by kernel_rfl)) (by decide) (fun K hK => ?_)
   (first | refine goes_ Try.func51 (by kernel_rfl) rfl #[.int .u64 a0_0] (by rfl) rfl rfl uM ?_ | refine goesT_ Try.func51 (by kernel_rfl) rfl #[.int .u64 a0_0] (by rfl) rfl rfl rfl uM ?_)
   with_reducible refine (prime_Check_1.calls a0_0 false _ A4.out).mono ?_
   rintro e w11 ⟨rfl, hb⟩
   refine ⟨_, rfl, ?_⟩; replace BK314 := ux BK314 hb; replace HB := uy hb; (try clear hb); refine hK.out _ _ ⟨(blk_cell BK314.out 0).trans rfl, (blk_cell BK314.out 1).trans rfl⟩ (fun hHeld => ?_); clear hK K; refine norm_ (a' := ?_) ?_ ?_; rotate_left
   · exact (show Act.put _ (some 13) _ = _ from uQ)
   refine pure_ (i := 4) (N := some 14) (v := ?_) (a' := ?_) (uA 26 31) rfl rfl (any_of HT_.out (by kernel_rfl)) (fun _ _ _ h => h) (Or.inl ⟨by rfl, ?_⟩) ?_ ?_
   rotate_left
   ·
    intro w'
    go_simp
    with_reducible rfl
   rotate_left
   · exact uQ
   refine pure_ (i := 5) (N := some 15) (v := ?_) (a' := ?_) (uA 26 63) rfl rfl (any_of HT_.out (by kernel_rfl)) (fun _ _ _ h => h) (Or.inl ⟨by rfl, ?_⟩) ?_ ?_
   rotate_left
   ·
    intro w'
    go_simp
    with_reducible rfl
   rotate_left
   · exact uQ
   refine pure_ (i := 6) (N := some 16) (v := ?_) (a' := ?_) (uA 26 127) rfl rfl (any_of HT_.out (by kernel_rfl)) (fun _ _ _ h => h) (Or.inl ⟨by rfl, ?_⟩) ?_ ?_
   rotate_left
   ·
    intro w'
    go_simp
    with_reducible rfl
   rotate_left
   · exact uQ
   refine take_ (i := 7) (N := some 17) (v := ?_) (a' := ?_) (uA 26 255) rfl rfl (take_ofW HT_.out HW_.out (by kernel_rfl)) (fun _ _ _ h => h) (Or.inl ⟨by rfl, ?_⟩) hHeld ?_ ?_
   rotate_left
   ·
    rintro w' ⟨s0, s1⟩
    go_simp
    with_reducible rfl
   rotate_left
   · exact uQ
   refine one_ (i := 8) (N := some 18) (uA 26 511) rfl rfl (one_of HT_.out (by kernel_rfl)) (by decide) (fun K hK => ?_)
   (first | refine goes_ Try.func51 (by kernel_rfl) rfl #[.int .u64 a0_1] (by rfl) rfl rfl uM ?_ | refine goesT_ Try.func51 (by kernel_rfl) rfl #[.int .u64 a0_1] (by rfl) rfl rfl rfl uM ?_)
   with_reducible refine (prime_Check_1.calls a0_1 true _ A8.out).mono ?_
   rintro e w12 ⟨rfl, hb⟩
   refine ⟨_, rfl, ?_⟩; replace BK314 := ux BK314 hb; replace HB := uy hb; (try clear hb); refine hK.out _ _ ⟨(blk_cell BK314.out 0).trans rfl, (blk_cell BK314.out 1).trans rfl⟩ (fun hHeld => ?_); clear hK K; refine norm_ (a' := ?_) ?_ ?_; rotate_left
   · exact (show Act.put _ (some 18) _ = _ from uQ)
   refine pure_ (i := 9) (N := some 19) (v := ?_) (a' := ?_) (uA 26 1023) rfl rfl (any_of HT_.out (by kernel_rfl)) (fun _ _ _ h => h) (Or.inl ⟨by rfl, ?_⟩) ?_ ?_
   rotate_left
   ·
    intro w'
    go_simp
    with_reducible rfl
   rotate_left
   · exact uQ
   refine pure_ (i := 10) (N := some 20) (v := ?_) (a' := ?_) (uA 26 2047) rfl rfl (any_of HT_.out (by kernel_rfl)) (fun _ _ _ h => h) (Or.inl ⟨by rfl, ?_⟩) ?_ ?_
   rotate_left
   ·
    intro w'
    go_simp
    with_reducible rfl
   rotate_left
   · exact uQ
   refine pure_ (i := 11) (N := some 21) (v := undef) (a' := ?_) (uA 26 4095) rfl rfl (any_of HT_.out (by kernel_rfl)) (fun _ _ _ h => h) (Or.inr ⟨by rfl, rfl⟩) ?_ ?_
   rotate_left
   · exact uQ
   refine pure_ (i := 12) (N := some 22) (v := undef) (a' := ?_) (uA 26 8191) rfl rfl (any_of HT_.out (by kernel_rfl)) (fun _ _ _ h => h) (Or.inr ⟨by rfl, rfl⟩) ?_ ?_
   rotate_left
   · exact uQ
   refine pure_ (i := 13) (N := some 23) (v := undef) (a' := ?_) (uA 26 16383) rfl rfl (any_of HT_.out (by kernel_rfl)) (fun _ _ _ h => h) (Or.inr ⟨by rfl, rfl⟩) ?_ ?_
   rotate_left
   · exact uQ
   refine pure_ (i := 14) (N := some 24) (v := undef) (a' := ?_) (uA 26 32767) rfl rfl (any_of HT_.out (by kernel_rfl)) (fun _ _ _ h => h) (Or.inr ⟨by rfl, rfl⟩) ?_ ?_
   rotate_left
   · exact uQ
   refine pure_ (i := 15) (N := some 25) (v := undef) (a' := ?_) (uA 26 65535) rfl rfl (any_of HT_.out (by kernel_rfl)) (fun _ _ _ h => h) (Or.inr ⟨by rfl, rfl⟩) ?_ ?_
   rotate_left
   · exact uQ
   refine pure_ (i := 16) (N := some 26) (v := ?_) (a' := ?_) (uA 26 131071) rfl rfl (any_of HT_.out (by kernel_rfl)) (fun _ _ _ h => h) (Or.inl ⟨by rfl, ?_⟩) ?_ ?_
   rotate_left
   ·
    intro w'
    go_simp
    with_reducible rfl
   rotate_left
   · exact uQ
   refine pure_ (i := 17) (N := some 27) (v := ?_) (a' := ?_) (uA 26 262143) rfl rfl (any_of HT_.out (by kernel_rfl)) (fun _ _ _ h => h) (Or.inl ⟨by rfl, ?_⟩) ?_ ?_
   rotate_left
   ·
    intro w'
    go_simp
    with_reducible rfl
   rotate_left
   · exact uQ
   refine pure_ (i := 18) (N := some 28) (v := undef) (a' := ?_) (uA 26 524287) rfl rfl (any_of HT_.out (by kernel_rfl)) (fun _ _ _ h => h) (Or.inr ⟨by rfl, rfl⟩) ?_ ?_
   rotate_left
   · exact uQ
   refine pure_ (i := 19) (N := some 29) (v := undef) (a' := ?_) (uA 26 1048575) rfl rfl (any_of HT_.out (by kernel_rfl)) (fun _ _ _ h => h) (Or.inr ⟨by rfl, rfl⟩) ?_ ?_
   rotate_left
   · exact uQ
   refine pure_ (i := 20) (N := some 30) (v := undef) (a' := ?_) (uA 26 2097151) rfl rfl (any_of HT_.out (by kernel_rfl)) (fun _ _ _ h => h) (Or.inr ⟨by rfl, rfl⟩) ?_ ?_
   rotate_left
   · exact uQ
   refine pure_ (i := 21) (N := some 31) (v := undef) (a' := ?_) (uA 26 4194303) rfl rfl (any_of HT_.out (by kernel_rfl)) (fun _ _ _ h => h) (Or.inr ⟨by rfl, rfl⟩) ?_ ?_
   rotate_left
   · exact uQ
   refine pure_ (i := 22) (N := some 32) (v := undef) (a' := ?_) (uA 26 8388607) rfl rfl (any_of HT_.out (by kernel_rfl)) (fun _ _ _ h => h) (Or.inr ⟨by rfl, rfl⟩) ?_ ?_
   rotate_left
   · exact uQ
   refine pure_ (i := 23) (N := some 33) (v := undef) (a' := ?_) (uA 26 16777215) rfl rfl (any_of HT_.out (by kernel_rfl)) (fun _ _ _ h => h) (Or.inr ⟨by rfl, rfl⟩) ?_ ?_
   rotate_left
   · exact uQ
   refine pure_ (i := 24) (N := some 34) (v := undef) (a' := ?_) (uA 26 33554431) rfl rfl (any_of HT_.out (by kernel_rfl)) (fun _ _ _ h => h) (Or.inr ⟨by rfl, rfl⟩) ?_ ?_
   rotate_left
   · exact uQ
   refine pure_ (i := 25) (N := some 35) (v := ?_) (a' := ?_) (uA 26 67108863) rfl rfl (any_of HT_.out (by kernel_rfl)) (fun _ _ _ h => h) (Or.inl ⟨by rfl, ?_⟩) ?_ ?_
   rotate_left
   ·
    intro w'
    go_simp
    with_reducible rfl
   rotate_left
   · exact uQ
   refine done_ (done_of HT_.out (by kernel_rfl)) ?_
   try go_wp2
   go_meet
   case rel => exact ⟨_, (true), uG, H', ⟨uW⟩, ⟨uK BK314.out⟩, ⟨uB⟩⟩
  replace c9 := Bool.eq_false_iff.mpr c9
  subst c9
  have H1 : (if a0_0 = a0_1 then (prime_Check.j0 k true a0_0 a0_1) else ((bits_Len64.f k a0_0).bind fun t317 => ((bits_Len64.f k a0_1).bind fun t318 => (prime_Check.j0 k (t317 != t318) a0_0 a0_1)))) = some r := by rw [if_neg (show ¬ (false = true) by decide)] at H; exact H
  clear H; have H := H1; clear H1
  by_cases c13 : a0_0 = a0_1
  ·
   rw [if_pos c13] at H
   have c13b0 : (a0_0 == a0_1) = true := beq_iff_eq.mpr c13
   have c13b1 : (a0_0 != a0_1) = false := bne_eq_false_iff_eq.mpr c13
   clear c13
   (first | rw [c13b0] | (simp only [i64_w, i32_w]; rw [c13b0]) | skip)
   have H' := Aside0.mk H
   clear H
   try go_wp2
   replace BK314 := Aside0.mk (blk_drew BK314.out); replace HB := Aside0.mk (below_drew1 HB.out)
   refine start_ (n := 26) (S := fun w' => w'.cell? ⟨gb314, 0, none⟩ = some (.int .u64 a0_0) ∧ w'.cell? ⟨gb314, 1, none⟩ = some (.int .u64 a0_1)) (ds := []) (.replicate 26 false) (by kernel_rfl) rfl rfl ⟨(blk_cell BK314.out 0).trans rfl, (blk_cell BK314.out 1).trans rfl⟩ (fun hHeld => ?_); refine with_tabW prime_Check.tab2 prime_Check.bits2 (fun HT_ HW_ => ?_)
   generalize w3.drew = w14 at BK314 HB hHeld ⊢
   refine pure_ (i := 0) (N := some 10) (v := ?_) (a' := ?_) (uA 26 1) rfl rfl (any_of HT_.out (by kernel_rfl)) (fun _ _ _ h => h) (Or.inl ⟨by rfl, ?_⟩) ?_ ?_
   rotate_left
   ·
    intro w'
    go_simp
    with_reducible rfl
   rotate_left
   · exact uQ
   refine pure_ (i := 1) (N := some 11) (v := ?_) (a' := ?_) (uA 26 3) rfl rfl (any_of HT_.out (by kernel_rfl)) (fun _ _ _ h => h) (Or.inl ⟨by rfl, ?_⟩) ?_ ?_
   rotate_left
   ·
    intro w'
    go_simp
    with_reducible rfl
   rotate_left
   · exact uQ
   refine take_ (i := 2) (N := some 12) (v := ?_) (a' := ?_) (uA 26 7) rfl rfl (take_ofW HT_.out HW_.out (by kernel_rfl)) (fun _ _ _ h => h) (Or.inl ⟨by rfl, ?_⟩) hHeld ?_ ?_
   rotate_left
   ·
    rintro w' ⟨s0, s1⟩
    go_simp
    with_reducible rfl
   rotate_left
   · exact uQ
   refine one_ (i := 3) (N := some 13) (uA 26 15) rfl rfl (one_of HT_.out (by kernel_rfl)) (by decide) (fun K hK => ?_)
   (first | refine goes_ Try.func51 (by kernel_rfl) rfl #[.int .u64 a0_0] (by rfl) rfl rfl uM ?_ | refine goesT_ Try.func51 (by kernel_rfl) rfl #[.int .u64 a0_0] (by rfl) rfl rfl rfl uM ?_)
   with_reducible refine (prime_Check_1.calls a0_0 false _ A4.out).mono ?_
   rintro e w15 ⟨rfl, hb⟩
   refine ⟨_, rfl, ?_⟩; replace BK314 := ux BK314 hb; replace HB := uy hb; (try clear hb); refine hK.out _ _ ⟨(blk_cell BK314.out 0).trans rfl, (blk_cell BK314.out 1).trans rfl⟩ (fun hHeld => ?_); clear hK K; refine norm_ (a' := ?_) ?_ ?_; rotate_left
   · exact (show Act.put _ (some 13) _ = _ from uQ)
   refine pure_ (i := 4) (N := some 14) (v := ?_) (a' := ?_) (uA 26 31) rfl rfl (any_of HT_.out (by kernel_rfl)) (fun _ _ _ h => h) (Or.inl ⟨by rfl, ?_⟩) ?_ ?_
   rotate_left
   ·
    intro w'
    go_simp
    with_reducible rfl
   rotate_left
   · exact uQ
   refine pure_ (i := 5) (N := some 15) (v := ?_) (a' := ?_) (uA 26 63) rfl rfl (any_of HT_.out (by kernel_rfl)) (fun _ _ _ h => h) (Or.inl ⟨by rfl, ?_⟩) ?_ ?_
   rotate_left
   ·
    intro w'
    go_simp
    with_reducible rfl
   rotate_left
   · exact uQ
   refine pure_ (i := 6) (N := some 16) (v := ?_) (a' := ?_) (uA 26 127) rfl rfl (any_of HT_.out (by kernel_rfl)) (fun _ _ _ h => h) (Or.inl ⟨by rfl, ?_⟩) ?_ ?_
   rotate_left
   ·
    intro w'
    go_simp
    with_reducible rfl
   rotate_left
   · exact uQ
   refine take_ (i := 7) (N := some 17) (v := ?_) (a' := ?_) (uA 26 255) rfl rfl (take_ofW HT_.out HW_.out (by kernel_rfl)) (fun _ _ _ h => h) (Or.inl ⟨by rfl, ?_⟩) hHeld ?_ ?_
   rotate_left
   ·
    rintro w' ⟨s0, s1⟩
    go_simp
    with_reducible rfl
   rotate_left
   · exact uQ
   refine one_ (i := 8) (N := some 18) (uA 26 511) rfl rfl (one_of HT_.out (by kernel_rfl)) (by decide) (fun K hK => ?_)
   (first | refine goes_ Try.func51 (by kernel_rfl) rfl #[.int .u64 a0_1] (by rfl) rfl rfl uM ?_ | refine goesT_ Try.func51 (by kernel_rfl) rfl #[.int .u64 a0_1] (by rfl) rfl rfl rfl uM ?_)
   with_reducible refine (prime_Check_1.calls a0_1 false _ A8.out).mono ?_
   rintro e w16 ⟨rfl, hb⟩
   refine ⟨_, rfl, ?_⟩; replace BK314 := ux BK314 hb; replace HB := uy hb; (try clear hb); refine hK.out _ _ ⟨(blk_cell BK314.out 0).trans rfl, (blk_cell BK314.out 1).trans rfl⟩ (fun hHeld => ?_); clear hK K; refine norm_ (a' := ?_) ?_ ?_; rotate_left
   · exact (show Act.put _ (some 18) _ = _ from uQ)
   refine pure_ (i := 9) (N := some 19) (v := ?_) (a' := ?_) (uA 26 1023) rfl rfl (any_of HT_.out (by kernel_rfl)) (fun _ _ _ h => h) (Or.inl ⟨by rfl, ?_⟩) ?_ ?_
   rotate_left
   ·
    intro w'
    go_simp
    with_reducible rfl
   rotate_left
   · exact uQ
   refine pure_ (i := 10) (N := some 20) (v := ?_) (a' := ?_) (uA 26 2047) rfl rfl (any_of HT_.out (by kernel_rfl)) (fun _ _ _ h => h) (Or.inl ⟨by rfl, ?_⟩) ?_ ?_
   rotate_left
   ·
    intro w'
    go_simp
    with_reducible rfl
   rotate_left
   · exact uQ
   refine pure_ (i := 11) (N := some 21) (v := ?_) (a' := ?_) (uA 26 4095) rfl rfl (any_of HT_.out (by kernel_rfl)) (fun _ _ _ h => h) (Or.inl ⟨by rfl, ?_⟩) ?_ ?_
   rotate_left
   ·
    intro w'
    go_simp
    with_reducible rfl
   rotate_left
   · exact uQ
   refine pure_ (i := 13) (N := some 23) (v := ?_) (a' := ?_) (uA 26 12287) rfl rfl (any_of HT_.out (by kernel_rfl)) (fun _ _ _ h => h) (Or.inl ⟨by rfl, ?_⟩) ?_ ?_
   rotate_left
   ·
    intro w'
    go_simp
    with_reducible rfl
   rotate_left
   · exact uQ
   refine take_ (i := 12) (N := some 22) (v := ?_) (a' := ?_) (uA 26 16383) rfl rfl (take_ofW HT_.out HW_.out (by kernel_rfl)) (fun _ _ _ h => h) (Or.inl ⟨by rfl, ?_⟩) hHeld ?_ ?_
   rotate_left
   ·
    rintro w' ⟨s0, s1⟩
    go_simp
    with_reducible rfl
   rotate_left
   · exact uQ
   refine take_ (i := 14) (N := some 24) (v := ?_) (a' := ?_) (uA 26 32767) rfl rfl (take_ofW HT_.out HW_.out (by kernel_rfl)) (fun _ _ _ h => h) (Or.inl ⟨by rfl, ?_⟩) hHeld ?_ ?_
   rotate_left
   ·
    rintro w' ⟨s0, s1⟩
    go_simp
    with_reducible rfl
   rotate_left
   · exact uQ
   refine pure_ (i := 15) (N := some 25) (v := ?_) (a' := ?_) (uA 26 65535) rfl rfl (any_of HT_.out (by kernel_rfl)) (fun _ _ _ h => h) (Or.inl ⟨by rfl, ?_⟩) ?_ ?_
   rotate_left
   ·
    intro w'
    go_simp
    with_reducible rfl
   rotate_left
   · exact uQ
   refine pure_ (i := 16) (N := some 26) (v := ?_) (a' := ?_) (uA 26 131071) rfl rfl (any_of HT_.out (by kernel_rfl)) (fun _ _ _ h => h) (Or.inl ⟨by rfl, ?_⟩) ?_ ?_
   rotate_left
   ·
    intro w'
    go_simp
    with_reducible rfl
   rotate_left
   · exact uQ
   refine pure_ (i := 17) (N := some 27) (v := ?_) (a' := ?_) (uA 26 262143) rfl rfl (any_of HT_.out (by kernel_rfl)) (fun _ _ _ h => h) (Or.inl ⟨by rfl, ?_⟩) ?_ ?_
   rotate_left
   ·
    intro w'
    go_simp
    with_reducible rfl
   rotate_left
   · exact uQ
   refine pure_ (i := 18) (N := some 28) (v := undef) (a' := ?_) (uA 26 524287) rfl rfl (any_of HT_.out (by kernel_rfl)) (fun _ _ _ h => h) (Or.inr ⟨by rfl, rfl⟩) ?_ ?_
   rotate_left
   · exact uQ
   refine pure_ (i := 19) (N := some 29) (v := undef) (a' := ?_) (uA 26 1048575) rfl rfl (any_of HT_.out (by kernel_rfl)) (fun _ _ _ h => h) (Or.inr ⟨by rfl, rfl⟩) ?_ ?_
   rotate_left
   · exact uQ
   refine pure_ (i := 20) (N := some 30) (v := undef) (a' := ?_) (uA 26 2097151) rfl rfl (any_of HT_.out (by kernel_rfl)) (fun _ _ _ h => h) (Or.inr ⟨by rfl, rfl⟩) ?_ ?_
   rotate_left
   · exact uQ
   refine pure_ (i := 21) (N := some 31) (v := undef) (a' := ?_) (uA 26 4194303) rfl rfl (any_of HT_.out (by kernel_rfl)) (fun _ _ _ h => h) (Or.inr ⟨by rfl, rfl⟩) ?_ ?_
   rotate_left
   · exact uQ
   refine pure_ (i := 22) (N := some 32) (v := undef) (a' := ?_) (uA 26 8388607) rfl rfl (any_of HT_.out (by kernel_rfl)) (fun _ _ _ h => h) (Or.inr ⟨by rfl, rfl⟩) ?_ ?_
   rotate_left
   · exact uQ
   refine pure_ (i := 23) (N := some 33) (v := undef) (a' := ?_) (uA 26 16777215) rfl rfl (any_of HT_.out (by kernel_rfl)) (fun _ _ _ h => h) (Or.inr ⟨by rfl, rfl⟩) ?_ ?_
   rotate_left
   · exact uQ
   refine pure_ (i := 24) (N := some 34) (v := undef) (a' := ?_) (uA 26 33554431) rfl rfl (any_of HT_.out (by kernel_rfl)) (fun _ _ _ h => h) (Or.inr ⟨by rfl, rfl⟩) ?_ ?_
   rotate_left
   · exact uQ
   refine pure_ (i := 25) (N := some 35) (v := ?_) (a' := ?_) (uA 26 67108863) rfl rfl (any_of HT_.out (by kernel_rfl)) (fun _ _ _ h => h) (Or.inl ⟨by rfl, ?_⟩) ?_ ?_
   rotate_left
   ·
    intro w'
    go_simp
    with_reducible rfl
   rotate_left
   · exact uQ
   refine done_ (done_of HT_.out (by kernel_rfl)) ?_
   try go_wp2
   go_meet
   case rel => exact ⟨_, (true), uG, H', ⟨uW⟩, ⟨uK BK314.out⟩, ⟨uB⟩⟩
  rw [if_neg c13] at H
  have c13b0 : (a0_0 == a0_1) = false := beq_eq_false_iff_ne.mpr c13
  have c13b1 : (a0_0 != a0_1) = true := bne_iff_ne.mpr c13
  (first | rw [c13b0] | (simp only [i64_w, i32_w]; rw [c13b0]) | skip)
  replace H := ub H; obtain ⟨t317, A17, H⟩ := H
  replace H := ub H; obtain ⟨t318, A18, H⟩ := H
  have H' := Aside0.mk H
  clear H
  try go_wp2
  replace BK314 := Aside0.mk (blk_drew BK314.out); replace HB := Aside0.mk (below_drew1 HB.out)
  refine start_ (n := 26) (S := fun w' => w'.cell? ⟨gb314, 0, none⟩ = some (.int .u64 a0_0) ∧ w'.cell? ⟨gb314, 1, none⟩ = some (.int .u64 a0_1)) (ds := []) (.replicate 26 false) (by kernel_rfl) rfl rfl ⟨(blk_cell BK314.out 0).trans rfl, (blk_cell BK314.out 1).trans rfl⟩ (fun hHeld => ?_); refine with_tabW prime_Check.tab2 prime_Check.bits2 (fun HT_ HW_ => ?_)
  generalize w3.drew = w19 at BK314 HB hHeld ⊢
  refine pure_ (i := 0) (N := some 10) (v := ?_) (a' := ?_) (uA 26 1) rfl rfl (any_of HT_.out (by kernel_rfl)) (fun _ _ _ h => h) (Or.inl ⟨by rfl, ?_⟩) ?_ ?_
  rotate_left
  ·
   intro w'
   go_simp
   with_reducible rfl
  rotate_left
  · exact uQ
  refine pure_ (i := 1) (N := some 11) (v := ?_) (a' := ?_) (uA 26 3) rfl rfl (any_of HT_.out (by kernel_rfl)) (fun _ _ _ h => h) (Or.inl ⟨by rfl, ?_⟩) ?_ ?_
  rotate_left
  ·
   intro w'
   go_simp
   with_reducible rfl
  rotate_left
  · exact uQ
  refine take_ (i := 2) (N := some 12) (v := ?_) (a' := ?_) (uA 26 7) rfl rfl (take_ofW HT_.out HW_.out (by kernel_rfl)) (fun _ _ _ h => h) (Or.inl ⟨by rfl, ?_⟩) hHeld ?_ ?_
  rotate_left
  ·
   rintro w' ⟨s0, s1⟩
   go_simp
   with_reducible rfl
  rotate_left
  · exact uQ
  refine one_ (i := 3) (N := some 13) (uA 26 15) rfl rfl (one_of HT_.out (by kernel_rfl)) (by decide) (fun K hK => ?_)
  (first | refine goes_ Try.func51 (by kernel_rfl) rfl #[.int .u64 a0_0] (by rfl) rfl rfl uM ?_ | refine goesT_ Try.func51 (by kernel_rfl) rfl #[.int .u64 a0_0] (by rfl) rfl rfl rfl uM ?_)
  with_reducible refine (prime_Check_1.calls a0_0 false _ A4.out).mono ?_
  rintro e w20 ⟨rfl, hb⟩
  refine ⟨_, rfl, ?_⟩; replace BK314 := ux BK314 hb; replace HB := uy hb; (try clear hb); refine hK.out _ _ ⟨(blk_cell BK314.out 0).trans rfl, (blk_cell BK314.out 1).trans rfl⟩ (fun hHeld => ?_); clear hK K; refine norm_ (a' := ?_) ?_ ?_; rotate_left
  · exact (show Act.put _ (some 13) _ = _ from uQ)
  refine pure_ (i := 4) (N := some 14) (v := ?_) (a' := ?_) (uA 26 31) rfl rfl (any_of HT_.out (by kernel_rfl)) (fun _ _ _ h => h) (Or.inl ⟨by rfl, ?_⟩) ?_ ?_
  rotate_left
  ·
   intro w'
   go_simp
   with_reducible rfl
  rotate_left
  · exact uQ
  refine pure_ (i := 5) (N := some 15) (v := ?_) (a' := ?_) (uA 26 63) rfl rfl (any_of HT_.out (by kernel_rfl)) (fun _ _ _ h => h) (Or.inl ⟨by rfl, ?_⟩) ?_ ?_
  rotate_left
  ·
   intro w'
   go_simp
   with_reducible rfl
  rotate_left
  · exact uQ
  refine pure_ (i := 6) (N := some 16) (v := ?_) (a' := ?_) (uA 26 127) rfl rfl (any_of HT_.out (by kernel_rfl)) (fun _ _ _ h => h) (Or.inl ⟨by rfl, ?_⟩) ?_ ?_
  rotate_left
  ·
   intro w'
   go_simp
   with_reducible rfl
  rotate_left
  · exact uQ
  refine take_ (i := 7) (N := some 17) (v := ?_) (a' := ?_) (uA 26 255) rfl rfl (take_ofW HT_.out HW_.out (by kernel_rfl)) (fun _ _ _ h => h) (Or.inl ⟨by rfl, ?_⟩) hHeld ?_ ?_
  rotate_left
  ·
   rintro w' ⟨s0, s1⟩
   go_simp
   with_reducible rfl
  rotate_left
  · exact uQ
  refine one_ (i := 8) (N := some 18) (uA 26 511) rfl rfl (one_of HT_.out (by kernel_rfl)) (by decide) (fun K hK => ?_)
  (first | refine goes_ Try.func51 (by kernel_rfl) rfl #[.int .u64 a0_1] (by rfl) rfl rfl uM ?_ | refine goesT_ Try.func51 (by kernel_rfl) rfl #[.int .u64 a0_1] (by rfl) rfl rfl rfl uM ?_)
  with_reducible refine (prime_Check_1.calls a0_1 false _ A8.out).mono ?_
  rintro e w21 ⟨rfl, hb⟩
  refine ⟨_, rfl, ?_⟩; replace BK314 := ux BK314 hb; replace HB := uy hb; (try clear hb); refine hK.out _ _ ⟨(blk_cell BK314.out 0).trans rfl, (blk_cell BK314.out 1).trans rfl⟩ (fun hHeld => ?_); clear hK K; refine norm_ (a' := ?_) ?_ ?_; rotate_left
  · exact (show Act.put _ (some 18) _ = _ from uQ)
  refine pure_ (i := 9) (N := some 19) (v := ?_) (a' := ?_) (uA 26 1023) rfl rfl (any_of HT_.out (by kernel_rfl)) (fun _ _ _ h => h) (Or.inl ⟨by rfl, ?_⟩) ?_ ?_
  rotate_left
  ·
   intro w'
   go_simp
   with_reducible rfl
  rotate_left
  · exact uQ
  refine pure_ (i := 10) (N := some 20) (v := ?_) (a' := ?_) (uA 26 2047) rfl rfl (any_of HT_.out (by kernel_rfl)) (fun _ _ _ h => h) (Or.inl ⟨by rfl, ?_⟩) ?_ ?_
  rotate_left
  ·
   intro w'
   go_simp
   with_reducible rfl
  rotate_left
  · exact uQ
  refine pure_ (i := 11) (N := some 21) (v := ?_) (a' := ?_) (uA 26 4095) rfl rfl (any_of HT_.out (by kernel_rfl)) (fun _ _ _ h => h) (Or.inl ⟨by rfl, ?_⟩) ?_ ?_
  rotate_left
  ·
   intro w'
   go_simp
   with_reducible rfl
  rotate_left
  · exact uQ
  refine pure_ (i := 13) (N := some 23) (v := ?_) (a' := ?_) (uA 26 12287) rfl rfl (any_of HT_.out (by kernel_rfl)) (fun _ _ _ h => h) (Or.inl ⟨by rfl, ?_⟩) ?_ ?_
  rotate_left
  ·
   intro w'
   go_simp
   with_reducible rfl
  rotate_left
  · exact uQ
  refine take_ (i := 12) (N := some 22) (v := ?_) (a' := ?_) (uA 26 16383) rfl rfl (take_ofW HT_.out HW_.out (by kernel_rfl)) (fun _ _ _ h => h) (Or.inl ⟨by rfl, ?_⟩) hHeld ?_ ?_
  rotate_left
  ·
   rintro w' ⟨s0, s1⟩
   go_simp
   with_reducible rfl
  rotate_left
  · exact uQ
  refine take_ (i := 14) (N := some 24) (v := ?_) (a' := ?_) (uA 26 32767) rfl rfl (take_ofW HT_.out HW_.out (by kernel_rfl)) (fun _ _ _ h => h) (Or.inl ⟨by rfl, ?_⟩) hHeld ?_ ?_
  rotate_left
  ·
   rintro w' ⟨s0, s1⟩
   go_simp
   with_reducible rfl
  rotate_left
  · exact uQ
  refine pure_ (i := 15) (N := some 25) (v := ?_) (a' := ?_) (uA 26 65535) rfl rfl (any_of HT_.out (by kernel_rfl)) (fun _ _ _ h => h) (Or.inl ⟨by rfl, ?_⟩) ?_ ?_
  rotate_left
  ·
   intro w'
   go_simp
   with_reducible rfl
  rotate_left
  · exact uQ
  refine pure_ (i := 16) (N := some 26) (v := ?_) (a' := ?_) (uA 26 131071) rfl rfl (any_of HT_.out (by kernel_rfl)) (fun _ _ _ h => h) (Or.inl ⟨by rfl, ?_⟩) ?_ ?_
  rotate_left
  ·
   intro w'
   go_simp
   with_reducible rfl
  rotate_left
  · exact uQ
  refine pure_ (i := 17) (N := some 27) (v := ?_) (a' := ?_) (uA 26 262143) rfl rfl (any_of HT_.out (by kernel_rfl)) (fun _ _ _ h => h) (Or.inl ⟨by rfl, ?_⟩) ?_ ?_
  rotate_left
  ·
   intro w'
   go_simp
   with_reducible rfl
  rotate_left
  · exact uQ
  refine pure_ (i := 18) (N := some 28) (v := ?_) (a' := ?_) (uA 26 524287) rfl rfl (any_of HT_.out (by kernel_rfl)) (fun _ _ _ h => h) (Or.inl ⟨by rfl, ?_⟩) ?_ ?_
  rotate_left
  ·
   intro w'
   go_simp
   with_reducible rfl
  rotate_left
  · exact uQ
  refine pure_ (i := 21) (N := some 31) (v := ?_) (a' := ?_) (uA 26 2621439) rfl rfl (any_of HT_.out (by kernel_rfl)) (fun _ _ _ h => h) (Or.inl ⟨by rfl, ?_⟩) ?_ ?_
  rotate_left
  ·
   intro w'
   go_simp
   with_reducible rfl
  rotate_left
  · exact uQ
  refine take_ (i := 19) (N := some 29) (v := ?_) (a' := ?_) (uA 26 3145727) rfl rfl (take_ofW HT_.out HW_.out (by kernel_rfl)) (fun _ _ _ h => h) (Or.inl ⟨by rfl, ?_⟩) hHeld ?_ ?_
  rotate_left
  ·
   rintro w' ⟨s0, s1⟩
   go_simp
   with_reducible rfl
  rotate_left
  · exact uQ
  refine take_ (i := 22) (N := some 32) (v := ?_) (a' := ?_) (uA 26 7340031) rfl rfl (take_ofW HT_.out HW_.out (by kernel_rfl)) (fun _ _ _ h => h) (Or.inl ⟨by rfl, ?_⟩) hHeld ?_ ?_
  rotate_left
  ·
   rintro w' ⟨s0, s1⟩
   go_simp
   with_reducible rfl
  rotate_left
  · exact uQ
  refine one_ (i := 20) (N := some 30) (uA 26 8388607) rfl rfl (one_of HT_.out (by kernel_rfl)) (by decide) (fun K hK => ?_)
  (first | refine goes_ Try.func53 (by kernel_rfl) rfl #[.int .u64 a0_0] (by rfl) rfl rfl uM ?_ | refine goesT_ Try.func53 (by kernel_rfl) rfl #[.int .u64 a0_0] (by rfl) rfl rfl rfl uM ?_)
  with_reducible refine (bits_Len64.calls k a0_0 t317 _ A17.out).mono ?_
  rintro e w' ⟨rfl, ⟨nd, rfl⟩⟩
  refine ⟨_, rfl, ?_⟩; refine hK.out _ _ ⟨(blk_cell BK314.out 0).trans rfl, (blk_cell BK314.out 1).trans rfl⟩ (fun hHeld => ?_); clear hK K; refine norm_ (a' := ?_) ?_ ?_; rotate_left
  · exact (show Act.put _ (some 30) _ = _ from uQ)
  refine one_ (i := 23) (N := some 33) (uA 26 16777215) rfl rfl (one_of HT_.out (by kernel_rfl)) (by decide) (fun K hK => ?_)
  (first | refine goes_ Try.func53 (by kernel_rfl) rfl #[.int .u64 a0_1] (by rfl) rfl rfl uM ?_ | refine goesT_ Try.func53 (by kernel_rfl) rfl #[.int .u64 a0_1] (by rfl) rfl rfl rfl uM ?_)
  with_reducible refine (bits_Len64.calls k a0_1 t318 _ A18.out).mono ?_
  rintro e w' ⟨rfl, ⟨nd, rfl⟩⟩
  refine ⟨_, rfl, ?_⟩; refine hK.out _ _ ⟨(blk_cell BK314.out 0).trans rfl, (blk_cell BK314.out 1).trans rfl⟩ (fun hHeld => ?_); clear hK K; refine norm_ (a' := ?_) ?_ ?_; rotate_left
  · exact (show Act.put _ (some 33) _ = _ from uQ)
  refine pure_ (i := 24) (N := some 34) (v := ?_) (a' := ?_) (uA 26 33554431) rfl rfl (any_of HT_.out (by kernel_rfl)) (fun _ _ _ h => h) (Or.inl ⟨by rfl, ?_⟩) ?_ ?_
  rotate_left
  ·
   intro w'
   go_simp
   with_reducible rfl
  rotate_left
  · exact uQ
  refine pure_ (i := 25) (N := some 35) (v := ?_) (a' := ?_) (uA 26 67108863) rfl rfl (any_of HT_.out (by kernel_rfl)) (fun _ _ _ h => h) (Or.inl ⟨by rfl, ?_⟩) ?_ ?_
  rotate_left
  ·
   intro w'
   go_simp
   with_reducible rfl
  rotate_left
  · exact uQ
  refine done_ (done_of HT_.out (by kernel_rfl)) ?_
  try go_wp2
  go_meet
  case rel => exact ⟨_, ((t317 != t318)), uG, H', ⟨uW⟩, ⟨uK BK314.out⟩, ⟨uB⟩⟩
 case rest =>
  clear HC2; (try clear c1); (try clear p2); (try clear c5); (try clear c9); (try clear c13); (try clear c13b0); (try clear c13b1)
  obtain ⟨kq, x35_1, rfl, HA, HJ1, BK314, HB⟩ := hcut
  cases kq with
  | zero => exact absurd HA.out (by simp [prime_Check.j0])
  | succ kj1 =>
   have H := HA.out
   clear HA
   simp only [prime_Check.j0] at H
   by_cases c22 : x35_1 = true
   ·
    subst c22
    have H1 : (some 9) = some r := by rw [if_pos rfl] at H; exact H
    clear H; have H := H1; clear H1
    obtain rfl := Option.some.inj H
    go_wp2
    go_ret
    exact ⟨uF, uB⟩
   replace c22 := Bool.eq_false_iff.mpr c22
   subst c22
   have H1 : ((nat_Mul.f kj1 (([a0_0] : List Int)) (([a0_1] : List Int))).bind fun bt325 => ((nat_Mul.f kj1 (([IntKind.u64.wrap (a0_0 - 1)] : List Int)) (([IntKind.u64.wrap (a0_1 - 1)] : List Int))).bind fun bt335 => ((modint_Gcd.f kj1 bt325.1 bt335.1).bind fun bt339 => ((nat_Cmp.f kj1 bt339.1 (([1] : List Int))).bind fun t346 => (if t346 = 0 then (some 0) else (some 9)))))) = some r := by rw [if_neg (show ¬ (false = true) by decide)] at H; exact H
   clear H; have H := H1; clear H1
   obtain ⟨y319, hy319⟩ : ∃ y_ : List Int, y_ = (([a0_0] : List Int)) := ⟨_, rfl⟩
   replace H : ((nat_Mul.f kj1 y319 (([a0_1] : List Int))).bind fun bt325 => ((nat_Mul.f kj1 (([IntKind.u64.wrap (a0_0 - 1)] : List Int)) (([IntKind.u64.wrap (a0_1 - 1)] : List Int))).bind fun bt335 => ((modint_Gcd.f kj1 bt325.1 bt335.1).bind fun bt339 => ((nat_Cmp.f kj1 bt339.1 (([1] : List Int))).bind fun t346 => (if t346 = 0 then (some 0) else (some 9)))))) = some r := by first | (rw [hy319]; with_reducible exact H) | (have H2_ := (Option.bind_some _ _).symm.trans H; rw [hy319]; with_reducible exact H2_) | (have H2_ := (Option.bind_some _ _).symm.trans H; with_reducible exact H2_) | with_reducible exact H | (rw [hy319]; exact H) | exact H
   have Ny319 := Aside0.mk hy319; clear hy319
   obtain ⟨y322, hy322⟩ : ∃ y_ : List Int, y_ = (([a0_1] : List Int)) := ⟨_, rfl⟩
   replace H : ((nat_Mul.f kj1 y319 y322).bind fun bt325 => ((nat_Mul.f kj1 (([IntKind.u64.wrap (a0_0 - 1)] : List Int)) (([IntKind.u64.wrap (a0_1 - 1)] : List Int))).bind fun bt335 => ((modint_Gcd.f kj1 bt325.1 bt335.1).bind fun bt339 => ((nat_Cmp.f kj1 bt339.1 (([1] : List Int))).bind fun t346 => (if t346 = 0 then (some 0) else (some 9)))))) = some r := by first | (rw [hy322]; with_reducible exact H) | (have H2_ := (Option.bind_some _ _).symm.trans H; rw [hy322]; with_reducible exact H2_) | (have H2_ := (Option.bind_some _ _).symm.trans H; with_reducible exact H2_) | with_reducible exact H | (rw [hy322]; exact H) | exact H
   have Ny322 := Aside0.mk hy322; clear hy322
   replace H := ub H; obtain ⟨⟨t325, t328⟩, A23, H⟩ := H
   (try dsimp only at H)
   obtain ⟨y329, hy329⟩ : ∃ y_ : List Int, y_ = (([IntKind.u64.wrap (a0_0 - 1)] : List Int)) := ⟨_, rfl⟩
   replace H : ((nat_Mul.f kj1 y329 (([IntKind.u64.wrap (a0_1 - 1)] : List Int))).bind fun bt335 => ((modint_Gcd.f kj1 t325 bt335.1).bind fun bt339 => ((nat_Cmp.f kj1 bt339.1 (([1] : List Int))).bind fun t346 => (if t346 = 0 then (some 0) else (some 9))))) = some r := by first | (rw [hy329]; with_reducible exact H) | (have H2_ := (Option.bind_some _ _).symm.trans H; rw [hy329]; with_reducible exact H2_) | (have H2_ := (Option.bind_some _ _).symm.trans H; with_reducible exact H2_) | with_reducible exact H | (rw [hy329]; exact H) | exact H
   have Ny329 := Aside0.mk hy329; clear hy329
   obtain ⟨y332, hy332⟩ : ∃ y_ : List Int, y_ = (([IntKind.u64.wrap (a0_1 - 1)] : List Int)) := ⟨_, rfl⟩
   replace H : ((nat_Mul.f kj1 y329 y332).bind fun bt335 => ((modint_Gcd.f kj1 t325 bt335.1).bind fun bt339 => ((nat_Cmp.f kj1 bt339.1 (([1] : List Int))).bind fun t346 => (if t346 = 0 then (some 0) else (some 9))))) = some r := by first | (rw [hy332]; with_reducible exact H) | (have H2_ := (Option.bind_some _ _).symm.trans H; rw [hy332]; with_reducible exact H2_) | (have H2_ := (Option.bind_some _ _).symm.trans H; with_reducible exact H2_) | with_reducible exact H | (rw [hy332]; exact H) | exact H
   have Ny332 := Aside0.mk hy332; clear hy332
   replace H := ub H; obtain ⟨⟨t335, t338⟩, A24, H⟩ := H
   (try dsimp only at H)
   replace H := ub H; obtain ⟨⟨t339, t340⟩, A25, H⟩ := H
   (try dsimp only at H)
   obtain ⟨y343, hy343⟩ : ∃ y_ : List Int, y_ = (([1] : List Int)) := ⟨_, rfl⟩
   replace H : ((nat_Cmp.f kj1 t339 y343).bind fun t346 => (if t346 = 0 then (some 0) else (some 9))) = some r := by first | (rw [hy343]; with_reducible exact H) | (have H2_ := (Option.bind_some _ _).symm.trans H; rw [hy343]; with_reducible exact H2_) | (have H2_ := (Option.bind_some _ _).symm.trans H; with_reducible exact H2_) | with_reducible exact H | (rw [hy343]; exact H) | exact H
   have Ny343 := Aside0.mk hy343; clear hy343
   replace H := ub H; obtain ⟨t346, A26, H⟩ := H
   by_cases c27 : t346 = 0
   ·
    rw [if_pos c27] at H
    have c27b0 : (t346 == 0) = true := beq_iff_eq.mpr c27
    have c27b1 : (t346 != 0) = false := bne_eq_false_iff_eq.mpr c27
    clear c27
    obtain rfl := Option.some.inj H
    have hcz28_0 : wc.cell? ⟨gb314, 0, none⟩ = some (.int .u64 a0_0) := (blk_cell BK314.out 0).trans rfl; have hcz28_1 : wc.cell? ⟨gb314, 1, none⟩ = some (.int .u64 a0_1) := (blk_cell BK314.out 1).trans rfl; have hfz28_0 := blk_frozen BK314.out 0; have hfz28_1 := blk_frozen BK314.out 1
    go_wp2_with (first | ((with_reducible refine gate_dst (N := 39) rfl ?_); refine Kd.R_lit (Kd.int .u64) _ 30 ?hg (N := 39) ?hd (xs := ([a0_0] : List Int)) (inner := [.int .u64 a0_0]) (ok := fun _ => True) (okp := fun _ => True) ?hr ?hp (fun _ hk => hk) trivial (Below.refl _ _) (Nat.le_refl _) (by simp) ?_; (case hd => rfl); (case hg => rfl); (case hr => first | (go_simp; done) | (go_simp; rfl) | (go_simp; simp only [u64_u8]; done) | (go_simp; simp only [u64_u8]; rfl)); (case hp => exact (Reps.one (show Kd.M (Kd.int .u64) _ _ _ a0_0 [.int .u64 a0_0] from rfl) (Reps.none _ _))); intro v320 w29 ho30 hb hg_ hnew_; clear hg_ hnew_; (first | rw [← Ny319.out] at ho30 | (simp only [Int.reduceToNat] at ho30; rw [← Ny319.out] at ho30)); have HO321 := Aside0.mk (Kd.R_lower ho30 (below_size uB)); replace BK314 := ux BK314 hb; replace HB := uy hb; clear hb ho30; have hcz31_0 : w29.cell? ⟨gb314, 0, none⟩ = some (.int .u64 a0_0) := (blk_cell BK314.out 0).trans rfl; have hcz31_1 : w29.cell? ⟨gb314, 1, none⟩ = some (.int .u64 a0_1) := (blk_cell BK314.out 1).trans rfl; have hfz31_0 := blk_frozen BK314.out 0; have hfz31_1 := blk_frozen BK314.out 1) | ((with_reducible refine gate_dst (N := 42) rfl ?_); refine Kd.R_lit (Kd.int .u64) _ 30 ?hg (N := 42) ?hd (xs := ([a0_1] : List Int)) (inner := [.int .u64 a0_1]) (ok := fun _ => True) (okp := fun _ => True) ?hr ?hp (fun _ hk => hk) trivial (Below.refl _ _) (Nat.le_refl _) (by simp) ?_; (case hd => rfl); (case hg => rfl); (case hr => first | (go_simp; done) | (go_simp; rfl) | (go_simp; simp only [u64_u8]; done) | (go_simp; simp only [u64_u8]; rfl)); (case hp => exact (Reps.one (show Kd.M (Kd.int .u64) _ _ _ a0_1 [.int .u64 a0_1] from rfl) (Reps.none _ _))); intro v323 w32 ho33 hb hg_ hnew_; clear hg_ hnew_; (first | rw [← Ny322.out] at ho33 | (simp only [Int.reduceToNat] at ho33; rw [← Ny322.out] at ho33)); have HO324 := Aside0.mk (Kd.R_lower (Kd.R_new' ho33 (Kd.R_lt (uR HO321.out))) (below_size uB)); replace HO321 := ueR HO321 ho33 hb; replace BK314 := ux BK314 hb; replace HB := uy hb; clear hb ho33; obtain ⟨Ao34, co34, eo34⟩ := Kd.R_slice HO321.out; subst eo34; obtain ⟨Ao35, co35, eo35⟩ := Kd.R_slice HO324.out; subst eo35) | (go_at_call 35; (with_reducible refine (nat_Mul.calls kj1 (fun k_ => some k_ = (.slice Ao34 y319.length co34 : Value).ownBlock) _ _ y319 (fun k_ => some k_ = (.slice Ao35 y322.length co35 : Value).ownBlock) _ _ y322 t325 t328 _ ?side1 ?side2 A23.out).mono ?_); (case side1 => exact Kd.R_V (Kd.R_tight rfl (Kd.R_types (HO321.out) BK314.out (by decide)))); (case side2 => exact Kd.R_V (Kd.R_tight rfl (Kd.R_types (HO324.out) BK314.out (by decide)))); rintro e w36 ⟨v326, rfl, ho0, hb⟩; have HO327 := Aside0.mk (Kd.R_lower (Kd.R_new' (Kd.R_new' (Kd.R_mono (ok' := fun k_ => True) ho0 (fun _ hk_ => trivial)) (Kd.R_lt (uR HO321.out))) (Kd.R_lt (uR HO324.out))) (below_size uB)); replace HO321 := ueR HO321 ho0 hb; replace HO324 := ueR HO324 ho0 hb; replace BK314 := ux BK314 hb; replace HB := uy hb; (try clear hb ho0); have hcz37_0 : w36.cell? ⟨gb314, 0, none⟩ = some (.int .u64 a0_0) := (blk_cell BK314.out 0).trans rfl; have hcz37_1 : w36.cell? ⟨gb314, 1, none⟩ = some (.int .u64 a0_1) := (blk_cell BK314.out 1).trans rfl; have hfz37_0 := blk_frozen BK314.out 0; have hfz37_1 := blk_frozen BK314.out 1) | ((with_reducible refine gate_dst (N := 50) rfl ?_); refine Kd.R_lit (Kd.int .u64) _ 30 ?hg (N := 50) ?hd (xs := ([IntKind.u64.wrap (a0_0 - 1)] : List Int)) (inner := [.int .u64 (IntKind.u64.wrap (a0_0 - 1))]) (ok := fun _ => True) (okp := fun _ => True) ?hr ?hp (fun _ hk => hk) trivial (Below.refl _ _) (Nat.le_refl _) (by simp) ?_; (case hd => rfl); (case hg => rfl); (case hr => first | (go_simp; done) | (go_simp; rfl) | (go_simp; simp only [u64_u8]; done) | (go_simp; simp only [u64_u8]; rfl)); (case hp => exact (Reps.one (show Kd.M (Kd.int .u64) _ _ _ (IntKind.u64.wrap (a0_0 - 1)) [.int .u64 (IntKind.u64.wrap (a0_0 - 1))] from rfl) (Reps.none _ _))); intro v330 w38 ho39 hb hg_ hnew_; clear hg_ hnew_; (first | rw [← Ny329.out] at ho39 | (simp only [Int.reduceToNat] at ho39; rw [← Ny329.out] at ho39)); have HO331 := Aside0.mk (Kd.R_lower (Kd.R_new' (Kd.R_new' (Kd.R_new' ho39 (Kd.R_lt (uR HO321.out))) (Kd.R_lt (uR HO324.out))) (Kd.R_lt (uR HO327.out))) (below_size uB)); replace HO321 := ueR HO321 ho39 hb; replace HO324 := ueR HO324 ho39 hb; replace HO327 := ueR HO327 ho39 hb; replace BK314 := ux BK314 hb; replace HB := uy hb; clear hb ho39; have hcz40_0 : w38.cell? ⟨gb314, 0, none⟩ = some (.int .u64 a0_0) := (blk_cell BK314.out 0).trans rfl; have hcz40_1 : w38.cell? ⟨gb314, 1, none⟩ = some (.int .u64 a0_1) := (blk_cell BK314.out 1).trans rfl; have hfz40_0 := blk_frozen BK314.out 0; have hfz40_1 := blk_frozen BK314.out 1) | ((with_reducible refine gate_dst (N := 54) rfl ?_); refine Kd.R_lit (Kd.int .u64) _ 30 ?hg (N := 54) ?hd (xs := ([IntKind.u64.wrap (a0_1 - 1)] : List Int)) (inner := [.int .u64 (IntKind.u64.wrap (a0_1 - 1))]) (ok := fun _ => True) (okp := fun _ => True) ?hr ?hp (fun _ hk => hk) trivial (Below.refl _ _) (Nat.le_refl _) (by simp) ?_; (case hd => rfl); (case hg => rfl); (case hr => first | (go_simp; done) | (go_simp; rfl) | (go_simp; simp only [u64_u8]; done) | (go_simp; simp only [u64_u8]; rfl)); (case hp => exact (Reps.one (show Kd.M (Kd.int .u64) _ _ _ (IntKind.u64.wrap (a0_1 - 1)) [.int .u64 (IntKind.u64.wrap (a0_1 - 1))] from rfl) (Reps.none _ _))); intro v333 w41 ho42 hb hg_ hnew_; clear hg_ hnew_; (first | rw [← Ny332.out] at ho42 | (simp only [Int.reduceToNat] at ho42; rw [← Ny332.out] at ho42)); have HO334 := Aside0.mk (Kd.R_lower (Kd.R_new' (Kd.R_new' (Kd.R_new' (Kd.R_new' ho42 (Kd.R_lt (uR HO321.out))) (Kd.R_lt (uR HO324.out))) (Kd.R_lt (uR HO327.out))) (Kd.R_lt (uR HO331.out))) (below_size uB)); replace HO321 := ueR HO321 ho42 hb; replace HO324 := ueR HO324 ho42 hb; replace HO327 := ueR HO327 ho42 hb; replace HO331 := ueR HO331 ho42 hb; replace BK314 := ux BK314 hb; replace HB := uy hb; clear hb ho42; obtain ⟨Ao43, co43, eo43⟩ := Kd.R_slice HO331.out; subst eo43; obtain ⟨Ao44, co44, eo44⟩ := Kd.R_slice HO334.out; subst eo44) | (go_at_call 35; (with_reducible refine (nat_Mul.calls kj1 (fun k_ => some k_ = (.slice Ao43 y329.length co43 : Value).ownBlock) _ _ y329 (fun k_ => some k_ = (.slice Ao44 y332.length co44 : Value).ownBlock) _ _ y332 t335 t338 _ ?side1 ?side2 A24.out).mono ?_); (case side1 => exact Kd.R_V (Kd.R_tight rfl (Kd.R_types (HO331.out) BK314.out (by decide)))); (case side2 => exact Kd.R_V (Kd.R_tight rfl (Kd.R_types (HO334.out) BK314.out (by decide)))); rintro e w45 ⟨v336, rfl, ho0, hb⟩; have HO337 := Aside0.mk (Kd.R_lower (Kd.R_new' (Kd.R_new' (Kd.R_new' (Kd.R_new' (Kd.R_new' (Kd.R_mono (ok' := fun k_ => True) ho0 (fun _ hk_ => trivial)) (Kd.R_lt (uR HO321.out))) (Kd.R_lt (uR HO324.out))) (Kd.R_lt (uR HO327.out))) (Kd.R_lt (uR HO331.out))) (Kd.R_lt (uR HO334.out))) (below_size uB)); replace HO321 := ueR HO321 ho0 hb; replace HO324 := ueR HO324 ho0 hb; replace HO327 := ueR HO327 ho0 hb; replace HO331 := ueR HO331 ho0 hb; replace HO334 := ueR HO334 ho0 hb; replace BK314 := ux BK314 hb; replace HB := uy hb; (try clear hb ho0); obtain ⟨Ao46, co46, eo46⟩ := Kd.R_slice HO327.out; subst eo46; obtain ⟨Ao47, co47, eo47⟩ := Kd.R_slice HO337.out; subst eo47) | (go_at_call 54; (with_reducible refine (modint_Gcd.calls kj1 _ _ t325 _ _ t335 t339 t340 _ ?side1 ?side2 ?side3 ?side4 A25.out).mono ?_); (case side1 => exact uC (Kd.R_reads' HO327.out).2.2); (case side2 => exact (Kd.R_reads' HO327.out).2.1); (case side3 => exact uC (Kd.R_reads' HO337.out).2.2); (case side4 => exact (Kd.R_reads' HO337.out).2.1); rintro e w48 ⟨v341, rfl, ho0, hb⟩; have HO342 := Aside0.mk (Kd.R_lower (Kd.R_new' (Kd.R_new' (Kd.R_new' (Kd.R_new' (Kd.R_new' (Kd.R_new' ho0 (Kd.R_lt (uR HO321.out))) (Kd.R_lt (uR HO324.out))) (Kd.R_lt (uR HO327.out))) (Kd.R_lt (uR HO331.out))) (Kd.R_lt (uR HO334.out))) (Kd.R_lt (uR HO337.out))) (below_size uB)); replace HO321 := ueR HO321 ho0 hb; replace HO324 := ueR HO324 ho0 hb; replace HO327 := ueR HO327 ho0 hb; replace HO331 := ueR HO331 ho0 hb; replace HO334 := ueR HO334 ho0 hb; replace HO337 := ueR HO337 ho0 hb; replace BK314 := ux BK314 hb; replace HB := uy hb; (try clear hb ho0)) | ((with_reducible refine gate_dst (N := 65) rfl ?_); refine Kd.R_lit (Kd.int .u64) _ 30 ?hg (N := 65) ?hd (xs := ([1] : List Int)) (inner := [.int .u64 1]) (ok := fun _ => True) (okp := fun _ => True) ?hr ?hp (fun _ hk => hk) trivial (Below.refl _ _) (Nat.le_refl _) (by simp) ?_; (case hd => rfl); (case hg => rfl); (case hr => first | (go_simp; done) | (go_simp; rfl) | (go_simp; simp only [u64_u8]; done) | (go_simp; simp only [u64_u8]; rfl)); (case hp => exact (Reps.one (show Kd.M (Kd.int .u64) _ _ _ 1 [.int .u64 1] from rfl) (Reps.none _ _))); intro v344 w49 ho50 hb hg_ hnew_; clear hg_ hnew_; (first | rw [← Ny343.out] at ho50 | (simp only [Int.reduceToNat] at ho50; rw [← Ny343.out] at ho50)); have HO345 := Aside0.mk (Kd.R_lower (Kd.R_new' (Kd.R_new' (Kd.R_new' (Kd.R_new' (Kd.R_new' (Kd.R_new' (Kd.R_new' ho50 (Kd.R_lt (uR HO321.out))) (Kd.R_lt (uR HO324.out))) (Kd.R_lt (uR HO327.out))) (Kd.R_lt (uR HO331.out))) (Kd.R_lt (uR HO334.out))) (Kd.R_lt (uR HO337.out))) (Kd.R_lt (uR HO342.out))) (below_size uB)); replace HO321 := ueR HO321 ho50 hb; replace HO324 := ueR HO324 ho50 hb; replace HO327 := ueR HO327 ho50 hb; replace HO331 := ueR HO331 ho50 hb; replace HO334 := ueR HO334 ho50 hb; replace HO337 := ueR HO337 ho50 hb; replace HO342 := ueR HO342 ho50 hb; replace BK314 := ux BK314 hb; replace HB := uy hb; clear hb ho50; obtain ⟨Ao51, co51, eo51⟩ := Kd.R_slice HO342.out; subst eo51; obtain ⟨Ao52, co52, eo52⟩ := Kd.R_slice HO345.out; subst eo52) | (go_at_call 55; (with_reducible refine (nat_Cmp.calls kj1 (fun k_ => some k_ = (.slice Ao51 t339.length co51 : Value).ownBlock) _ _ t339 (fun k_ => some k_ = (.slice Ao52 y343.length co52 : Value).ownBlock) _ _ y343 t346 _ ?side1 ?side2 A26.out).mono ?_); (case side1 => exact Kd.R_V (Kd.R_tight rfl (Kd.R_types (HO342.out) BK314.out (by decide)))); (case side2 => exact Kd.R_V (Kd.R_tight rfl (Kd.R_types (HO345.out) BK314.out (by decide)))); rintro e w53 ⟨rfl, hb⟩; replace HO321 := Aside0.mk (Kd.R_below (uR HO321.out) hb); replace HO324 := Aside0.mk (Kd.R_below (uR HO324.out) hb); replace HO327 := Aside0.mk (Kd.R_below (uR HO327.out) hb); replace HO331 := Aside0.mk (Kd.R_below (uR HO331.out) hb); replace HO334 := Aside0.mk (Kd.R_below (uR HO334.out) hb); replace HO337 := Aside0.mk (Kd.R_below (uR HO337.out) hb); replace HO342 := Aside0.mk (Kd.R_below (uR HO342.out) hb); replace HO345 := Aside0.mk (Kd.R_below (uR HO345.out) hb); replace BK314 := ux BK314 hb; replace HB := uy hb; (try clear hb)))
    go_ret
    exact ⟨uF, uB⟩
   rw [if_neg c27] at H
   have c27b0 : (t346 == 0) = false := beq_eq_false_iff_ne.mpr c27
   have c27b1 : (t346 != 0) = true := bne_iff_ne.mpr c27
   obtain rfl := Option.some.inj H
   have hcz54_0 : wc.cell? ⟨gb314, 0, none⟩ = some (.int .u64 a0_0) := (blk_cell BK314.out 0).trans rfl; have hcz54_1 : wc.cell? ⟨gb314, 1, none⟩ = some (.int .u64 a0_1) := (blk_cell BK314.out 1).trans rfl; have hfz54_0 := blk_frozen BK314.out 0; have hfz54_1 := blk_frozen BK314.out 1
   go_wp2_with (first | ((with_reducible refine gate_dst (N := 39) rfl ?_); refine Kd.R_lit (Kd.int .u64) _ 30 ?hg (N := 39) ?hd (xs := ([a0_0] : List Int)) (inner := [.int .u64 a0_0]) (ok := fun _ => True) (okp := fun _ => True) ?hr ?hp (fun _ hk => hk) trivial (Below.refl _ _) (Nat.le_refl _) (by simp) ?_; (case hd => rfl); (case hg => rfl); (case hr => first | (go_simp; done) | (go_simp; rfl) | (go_simp; simp only [u64_u8]; done) | (go_simp; simp only [u64_u8]; rfl)); (case hp => exact (Reps.one (show Kd.M (Kd.int .u64) _ _ _ a0_0 [.int .u64 a0_0] from rfl) (Reps.none _ _))); intro v320 w55 ho56 hb hg_ hnew_; clear hg_ hnew_; (first | rw [← Ny319.out] at ho56 | (simp only [Int.reduceToNat] at ho56; rw [← Ny319.out] at ho56)); have HO321 := Aside0.mk (Kd.R_lower ho56 (below_size uB)); replace BK314 := ux BK314 hb; replace HB := uy hb; clear hb ho56; have hcz57_0 : w55.cell? ⟨gb314, 0, none⟩ = some (.int .u64 a0_0) := (blk_cell BK314.out 0).trans rfl; have hcz57_1 : w55.cell? ⟨gb314, 1, none⟩ = some (.int .u64 a0_1) := (blk_cell BK314.out 1).trans rfl; have hfz57_0 := blk_frozen BK314.out 0; have hfz57_1 := blk_frozen BK314.out 1) | ((with_reducible refine gate_dst (N := 42) rfl ?_); refine Kd.R_lit (Kd.int .u64) _ 30 ?hg (N := 42) ?hd (xs := ([a0_1] : List Int)) (inner := [.int .u64 a0_1]) (ok := fun _ => True) (okp := fun _ => True) ?hr ?hp (fun _ hk => hk) trivial (Below.refl _ _) (Nat.le_refl _) (by simp) ?_; (case hd => rfl); (case hg => rfl); (case hr => first | (go_simp; done) | (go_simp; rfl) | (go_simp; simp only [u64_u8]; done) | (go_simp; simp only [u64_u8]; rfl)); (case hp => exact (Reps.one (show Kd.M (Kd.int .u64) _ _ _ a0_1 [.int .u64 a0_1] from rfl) (Reps.none _ _))); intro v323 w58 ho59 hb hg_ hnew_; clear hg_ hnew_; (first | rw [← Ny322.out] at ho59 | (simp only [Int.reduceToNat] at ho59; rw [← Ny322.out] at ho59)); have HO324 := Aside0.mk (Kd.R_lower (Kd.R_new' ho59 (Kd.R_lt (uR HO321.out))) (below_size uB)); replace HO321 := ueR HO321 ho59 hb; replace BK314 := ux BK314 hb; replace HB := uy hb; clear hb ho59; obtain ⟨Ao60, co60, eo60⟩ := Kd.R_slice HO321.out; subst eo60; obtain ⟨Ao61, co61, eo61⟩ := Kd.R_slice HO324.out; subst eo61) | (go_at_call 35; (with_reducible refine (nat_Mul.calls kj1 (fun k_ => some k_ = (.slice Ao60 y319.length co60 : Value).ownBlock) _ _ y319 (fun k_ => some k_ = (.slice Ao61 y322.length co61 : Value).ownBlock) _ _ y322 t325 t328 _ ?side1 ?side2 A23.out).mono ?_); (case side1 => exact Kd.R_V (Kd.R_tight rfl (Kd.R_types (HO321.out) BK314.out (by decide)))); (case side2 => exact Kd.R_V (Kd.R_tight rfl (Kd.R_types (HO324.out) BK314.out (by decide)))); rintro e w62 ⟨v326, rfl, ho0, hb⟩; have HO327 := Aside0.mk (Kd.R_lower (Kd.R_new' (Kd.R_new' (Kd.R_mono (ok' := fun k_ => True) ho0 (fun _ hk_ => trivial)) (Kd.R_lt (uR HO321.out))) (Kd.R_lt (uR HO324.out))) (below_size uB)); replace HO321 := ueR HO321 ho0 hb; replace HO324 := ueR HO324 ho0 hb; replace BK314 := ux BK314 hb; replace HB := uy hb; (try clear hb ho0); have hcz63_0 : w62.cell? ⟨gb314, 0, none⟩ = some (.int .u64 a0_0) := (blk_cell BK314.out 0).trans rfl; have hcz63_1 : w62.cell? ⟨gb314, 1, none⟩ = some (.int .u64 a0_1) := (blk_cell BK314.out 1).trans rfl; have hfz63_0 := blk_frozen BK314.out 0; have hfz63_1 := blk_frozen BK314.out 1) | ((with_reducible refine gate_dst (N := 50) rfl ?_); refine Kd.R_lit (Kd.int .u64) _ 30 ?hg (N := 50) ?hd (xs := ([IntKind.u64.wrap (a0_0 - 1)] : List Int)) (inner := [.int .u64 (IntKind.u64.wrap (a0_0 - 1))]) (ok := fun _ => True) (okp := fun _ => True) ?hr ?hp (fun _ hk => hk) trivial (Below.refl _ _) (Nat.le_refl _) (by simp) ?_; (case hd => rfl); (case hg => rfl); (case hr => first | (go_simp; done) | (go_simp; rfl) | (go_simp; simp only [u64_u8]; done) | (go_simp; simp only [u64_u8]; rfl)); (case hp => exact (Reps.one (show Kd.M (Kd.int .u64) _ _ _ (IntKind.u64.wrap (a0_0 - 1)) [.int .u64 (IntKind.u64.wrap (a0_0 - 1))] from rfl) (Reps.none _ _))); intro v330 w64 ho65 hb hg_ hnew_; clear hg_ hnew_; (first | rw [← Ny329.out] at ho65 | (simp only [Int.reduceToNat] at ho65; rw [← Ny329.out] at ho65)); have HO331 := Aside0.mk (Kd.R_lower (Kd.R_new' (Kd.R_new' (Kd.R_new' ho65 (Kd.R_lt (uR HO321.out))) (Kd.R_lt (uR HO324.out))) (Kd.R_lt (uR HO327.out))) (below_size uB)); replace HO321 := ueR HO321 ho65 hb; replace HO324 := ueR HO324 ho65 hb; replace HO327 := ueR HO327 ho65 hb; replace BK314 := ux BK314 hb; replace HB := uy hb; clear hb ho65; have hcz66_0 : w64.cell? ⟨gb314, 0, none⟩ = some (.int .u64 a0_0) := (blk_cell BK314.out 0).trans rfl; have hcz66_1 : w64.cell? ⟨gb314, 1, none⟩ = some (.int .u64 a0_1) := (blk_cell BK314.out 1).trans rfl; have hfz66_0 := blk_frozen BK314.out 0; have hfz66_1 := blk_frozen BK314.out 1) | ((with_reducible refine gate_dst (N := 54) rfl ?_); refine Kd.R_lit (Kd.int .u64) _ 30 ?hg (N := 54) ?hd (xs := ([IntKind.u64.wrap (a0_1 - 1)] : List Int)) (inner := [.int .u64 (IntKind.u64.wrap (a0_1 - 1))]) (ok := fun _ => True) (okp := fun _ => True) ?hr ?hp (fun _ hk => hk) trivial (Below.refl _ _) (Nat.le_refl _) (by simp) ?_; (case hd => rfl); (case hg => rfl); (case hr => first | (go_simp; done) | (go_simp; rfl) | (go_simp; simp only [u64_u8]; done) | (go_simp; simp only [u64_u8]; rfl)); (case hp => exact (Reps.one (show Kd.M (Kd.int .u64) _ _ _ (IntKind.u64.wrap (a0_1 - 1)) [.int .u64 (IntKind.u64.wrap (a0_1 - 1))] from rfl) (Reps.none _ _))); intro v333 w67 ho68 hb hg_ hnew_; clear hg_ hnew_; (first | rw [← Ny332.out] at ho68 | (simp only [Int.reduceToNat] at ho68; rw [← Ny332.out] at ho68)); have HO334 := Aside0.mk (Kd.R_lower (Kd.R_new' (Kd.R_new' (Kd.R_new' (Kd.R_new' ho68 (Kd.R_lt (uR HO321.out))) (Kd.R_lt (uR HO324.out))) (Kd.R_lt (uR HO327.out))) (Kd.R_lt (uR HO331.out))) (below_size uB)); replace HO321 := ueR HO321 ho68 hb; replace HO324 := ueR HO324 ho68 hb; replace HO327 := ueR HO327 ho68 hb; replace HO331 := ueR HO331 ho68 hb; replace BK314 := ux BK314 hb; replace HB := uy hb; clear hb ho68; obtain ⟨Ao69, co69, eo69⟩ := Kd.R_slice HO331.out; subst eo69; obtain ⟨Ao70, co70, eo70⟩ := Kd.R_slice HO334.out; subst eo70) | (go_at_call 35; (with_reducible refine (nat_Mul.calls kj1 (fun k_ => some k_ = (.slice Ao69 y329.length co69 : Value).ownBlock) _ _ y329 (fun k_ => some k_ = (.slice Ao70 y332.length co70 : Value).ownBlock) _ _ y332 t335 t338 _ ?side1 ?side2 A24.out).mono ?_); (case side1 => exact Kd.R_V (Kd.R_tight rfl (Kd.R_types (HO331.out) BK314.out (by decide)))); (case side2 => exact Kd.R_V (Kd.R_tight rfl (Kd.R_types (HO334.out) BK314.out (by decide)))); rintro e w71 ⟨v336, rfl, ho0, hb⟩; have HO337 := Aside0.mk (Kd.R_lower (Kd.R_new' (Kd.R_new' (Kd.R_new' (Kd.R_new' (Kd.R_new' (Kd.R_mono (ok' := fun k_ => True) ho0 (fun _ hk_ => trivial)) (Kd.R_lt (uR HO321.out))) (Kd.R_lt (uR HO324.out))) (Kd.R_lt (uR HO327.out))) (Kd.R_lt (uR HO331.out))) (Kd.R_lt (uR HO334.out))) (below_size uB)); replace HO321 := ueR HO321 ho0 hb; replace HO324 := ueR HO324 ho0 hb; replace HO327 := ueR HO327 ho0 hb; replace HO331 := ueR HO331 ho0 hb; replace HO334 := ueR HO334 ho0 hb; replace BK314 := ux BK314 hb; replace HB := uy hb; (try clear hb ho0); obtain ⟨Ao72, co72, eo72⟩ := Kd.R_slice HO327.out; subst eo72; obtain ⟨Ao73, co73, eo73⟩ := Kd.R_slice HO337.out; subst eo73) | (go_at_call 54; (with_reducible refine (modint_Gcd.calls kj1 _ _ t325 _ _ t335 t339 t340 _ ?side1 ?side2 ?side3 ?side4 A25.out).mono ?_); (case side1 => exact uC (Kd.R_reads' HO327.out).2.2); (case side2 => exact (Kd.R_reads' HO327.out).2.1); (case side3 => exact uC (Kd.R_reads' HO337.out).2.2); (case side4 => exact (Kd.R_reads' HO337.out).2.1); rintro e w74 ⟨v341, rfl, ho0, hb⟩; have HO342 := Aside0.mk (Kd.R_lower (Kd.R_new' (Kd.R_new' (Kd.R_new' (Kd.R_new' (Kd.R_new' (Kd.R_new' ho0 (Kd.R_lt (uR HO321.out))) (Kd.R_lt (uR HO324.out))) (Kd.R_lt (uR HO327.out))) (Kd.R_lt (uR HO331.out))) (Kd.R_lt (uR HO334.out))) (Kd.R_lt (uR HO337.out))) (below_size uB)); replace HO321 := ueR HO321 ho0 hb; replace HO324 := ueR HO324 ho0 hb; replace HO327 := ueR HO327 ho0 hb; replace HO331 := ueR HO331 ho0 hb; replace HO334 := ueR HO334 ho0 hb; replace HO337 := ueR HO337 ho0 hb; replace BK314 := ux BK314 hb; replace HB := uy hb; (try clear hb ho0)) | ((with_reducible refine gate_dst (N := 65) rfl ?_); refine Kd.R_lit (Kd.int .u64) _ 30 ?hg (N := 65) ?hd (xs := ([1] : List Int)) (inner := [.int .u64 1]) (ok := fun _ => True) (okp := fun _ => True) ?hr ?hp (fun _ hk => hk) trivial (Below.refl _ _) (Nat.le_refl _) (by simp) ?_; (case hd => rfl); (case hg => rfl); (case hr => first | (go_simp; done) | (go_simp; rfl) | (go_simp; simp only [u64_u8]; done) | (go_simp; simp only [u64_u8]; rfl)); (case hp => exact (Reps.one (show Kd.M (Kd.int .u64) _ _ _ 1 [.int .u64 1] from rfl) (Reps.none _ _))); intro v344 w75 ho76 hb hg_ hnew_; clear hg_ hnew_; (first | rw [← Ny343.out] at ho76 | (simp only [Int.reduceToNat] at ho76; rw [← Ny343.out] at ho76)); have HO345 := Aside0.mk (Kd.R_lower (Kd.R_new' (Kd.R_new' (Kd.R_new' (Kd.R_new' (Kd.R_new' (Kd.R_new' (Kd.R_new' ho76 (Kd.R_lt (uR HO321.out))) (Kd.R_lt (uR HO324.out))) (Kd.R_lt (uR HO327.out))) (Kd.R_lt (uR HO331.out))) (Kd.R_lt (uR HO334.out))) (Kd.R_lt (uR HO337.out))) (Kd.R_lt (uR HO342.out))) (below_size uB)); replace HO321 := ueR HO321 ho76 hb; replace HO324 := ueR HO324 ho76 hb; replace HO327 := ueR HO327 ho76 hb; replace HO331 := ueR HO331 ho76 hb; replace HO334 := ueR HO334 ho76 hb; replace HO337 := ueR HO337 ho76 hb; replace HO342 := ueR HO342 ho76 hb; replace BK314 := ux BK314 hb; replace HB := uy hb; clear hb ho76; obtain ⟨Ao77, co77, eo77⟩ := Kd.R_slice HO342.out; subst eo77; obtain ⟨Ao78, co78, eo78⟩ := Kd.R_slice HO345.out; subst eo78) | (go_at_call 55; (with_reducible refine (nat_Cmp.calls kj1 (fun k_ => some k_ = (.slice Ao77 t339.length co77 : Value).ownBlock) _ _ t339 (fun k_ => some k_ = (.slice Ao78 y343.length co78 : Value).ownBlock) _ _ y343 t346 _ ?side1 ?side2 A26.out).mono ?_); (case side1 => exact Kd.R_V (Kd.R_tight rfl (Kd.R_types (HO342.out) BK314.out (by decide)))); (case side2 => exact Kd.R_V (Kd.R_tight rfl (Kd.R_types (HO345.out) BK314.out (by decide)))); rintro e w79 ⟨rfl, hb⟩; replace HO321 := Aside0.mk (Kd.R_below (uR HO321.out) hb); replace HO324 := Aside0.mk (Kd.R_below (uR HO324.out) hb); replace HO327 := Aside0.mk (Kd.R_below (uR HO327.out) hb); replace HO331 := Aside0.mk (Kd.R_below (uR HO331.out) hb); replace HO334 := Aside0.mk (Kd.R_below (uR HO334.out) hb); replace HO337 := Aside0.mk (Kd.R_below (uR HO337.out) hb); replace HO342 := Aside0.mk (Kd.R_below (uR HO342.out) hb); replace HO345 := Aside0.mk (Kd.R_below (uR HO345.out) hb); replace BK314 := ux BK314 hb; replace HB := uy hb; (try clear hb)))
   go_ret
   exact ⟨uF, uB⟩
end Go.Proofs.Ytkgaejigpmkfkaa.F
end
section
namespace Go.Proofs.Ytkgaejigpmkfkaa.F
open Go.RowKit Go.Proofs.YtkgaejigpmkfkaaW.PrintWords Go.Proofs.YtkgaejigpmkfkaaW.PrintLast Go.Proofs.YtkgaejigpmkfkaaW.PrintMore
set_option linter.unusedVariables false
set_option linter.unusedSimpArgs false
def pair.f (k : Nat) (z n : Int) (L : List Int) : Option (Int × Int × Int × List Int) :=
  (searchF z n L).bind fun a => if a.2.1 = 0 then (searchF z n a.2.2).bind fun b => if b.2.1 = 0 then (prime_Check.f k a.1 b.1).bind fun c => if c = 0 then some (a.1, b.1, 0, b.2.2) else some (0, 0, c, b.2.2) else some (0, 0, b.2.1, b.2.2) else some (0, 0, a.2.1, a.2.2)
def Paired1 (w w' : World) (g : Nat) (ok : Nat → Prop) (e : Ending) (x : Int × Int × Int × List Int) : Prop := e = .returned (.tuple #[.agg #[.int .u64 x.1, .int .u64 x.2.1], .int .i64 x.2.2.1]) ∧ Tp w' g ok x.2.2.2 ∧ Stay w w' g
theorem Tp.farP {w : World} {g : Nat} {ok : Nat → Prop} {l : List Int} (h : Tp w g ok l) {p : Addr} (hp : p.block ≠ g) (hok : ∀ k, ok k → k ≠ p.block) (v : Value) : Tp (w.setCell p v) g ok l := h.far hp hok v
theorem Tp.ltP {w : World} {g : Nat} {ok : Nat → Prop} {l : List Int} (h : Tp w g ok l) : g < w.heap.size := h.lt
set_option maxHeartbeats 8000000 in
set_option maxRecDepth 100000 in
theorem pair.one (g : Nat) (L : List Int) (z n : Int) (ok : Nat → Prop) (a : Int × Int × List Int) (w : World) (hT : Tp w g ok L) (hg : ¬ ok g) (hok : ∀ k, ok k → k < w.heap.size) (ha : searchF z n L = some a) (he : a.2.1 ≠ 0) :
    Calls Try.prog 12 #[.pointer (some ⟨g, 0, none⟩), .int .i64 z, .int .i64 n] w fun e w' => Paired1 w w' g ok e (0, 0, a.2.1, a.2.2) := by
  obtain ⟨a1, a2, a3⟩ := a
  have HT := Aside0.mk hT
  have HA := Aside0.mk ha
  have HE := Aside0.mk he
  have HGW := Aside0.mk (show g < w.heap.size from hT.lt)
  have HB := Aside0.mk (Below.refl w.heap.size w)
  clear hT ha he
  go_enter Try.func12, Try.ntmps12
  go_wp2_with (first
    | ((with_reducible refine gate_dst (N := 6) rfl ?_); refine box_event ?hg (N := 6) ?hd (cs := #[.int .u64 0, .int .u64 0]) (t := 32) ?hr ?_; (case hd => rfl); (case hg => rfl); (case hr => first | (go_simp; done) | (go_simp; rfl)); intro gr hgr w1 hbox hb; have BK := Aside0.mk hbox; have GR := Aside0.mk (show w.heap.size ≤ gr from by have h := below_size (show Below w.heap.size w _ from uB); omega); have HB1 := Aside0.mk (below_step uB hb); have HGN := Aside0.mk (show gr ≠ g from by have := GR.out; have := HGW.out; omega); have HKN := Aside0.mk (show ∀ k, ok k → k ≠ gr from fun k hk => by have := hok k hk; have := GR.out; omega); clear HB hb hbox hgr)
    | ((with_reducible refine gate_dst (N := 8) rfl ?_); refine box_event ?hg (N := 8) ?hd (cs := #[.int .u64 0, .int .u64 0]) (t := 100) ?hr ?_; (case hd => rfl); (case hg => rfl); (case hr => first | (go_simp; done) | (go_simp; rfl)); intro gl hgl w2 hbox hb; have BL := Aside0.mk hbox; have GL := Aside0.mk (show w.heap.size ≤ gl from by have h := below_size (show Below w.heap.size w _ from HB1.out); omega); have HB2 := Aside0.mk (below_step HB1.out hb); have BK2 := Aside0.mk (blk_below BK.out hb); have GLR := Aside0.mk (show gl ≠ gr from by have := blk_lt BK.out; omega); have HGLN := Aside0.mk (show gl ≠ g from by have := GL.out; have := HGW.out; omega); have HKLN := Aside0.mk (show ∀ k, ok k → k ≠ gl from fun k hk => by have := hok k hk; have := GL.out; omega); clear HB1 BK hb hbox hgl))
  go_loopg [14] 2 (fun gg v14 wr => v14 = .int .i64 0 ∧ wr = w2)
  case atStart => exact ⟨rfl, rfl⟩
  case round =>
    obtain ⟨rfl, rfl⟩ := hrel
    go_wp2_with (first
      | (go_at_call 48; refine (search.calls g L z n ok (a1, a2, a3) _ (HT.out.below HB2.out) hg HA.out).mono ?_; rintro e w3 ⟨rfl, hT3, hS3⟩; have T3 := Aside0.mk hT3; have BK3 := Aside0.mk (blk_stay BK2.out hS3 HGN.out); have S3 := Aside0.mk ((Stay.of_below HB2.out g).trans hS3); have hc0 := (blk_cell BK3.out 0).trans rfl; have hc1 := (blk_cell BK3.out 1).trans rfl; have hf0 := blk_frozen BK3.out 0; have hf1 := blk_frozen BK3.out 1; clear hT3 hS3))
    all_goals first
      | (have h5 : (a2 != 0) = false := by assumption
         exact absurd (by simpa using h5) HE.out)
      | (refine bodyPost_ret (results_ct rfl _ _ gr 32 #[.int .u64 0, .int .u64 0] (0, 0) _ rfl (by refine blk_put (cs := #[.int .u64 0, .int .u64 0]) ?_ 1 _ rfl; refine blk_put (cs := #[.int .u64 0, .int .u64 0]) ?_ 0 _ rfl; exact BK3.out) Try.underlying32 rfl (by kernel_rfl)) rfl ?_; exact ⟨rfl, (T3.out.farP (p := ⟨gr, 0, none⟩) HGN.out HKN.out _).farP (p := ⟨gr, 1, none⟩) HGN.out HKN.out _, (S3.out.set_new (p := ⟨gr, 0, none⟩) GR.out _).set_new (p := ⟨gr, 1, none⟩) GR.out _⟩)
set_option maxHeartbeats 8000000 in
set_option maxRecDepth 100000 in
theorem pair.two (g : Nat) (L : List Int) (z n : Int) (ok : Nat → Prop) (a1 : Int) (a3 : List Int) (b : Int × Int × List Int) (w : World) (hT : Tp w g ok L) (hg : ¬ ok g) (hok : ∀ k, ok k → k < w.heap.size) (ha : searchF z n L = some (a1, 0, a3)) (hb : searchF z n a3 = some b) (he : b.2.1 ≠ 0) :
    Calls Try.prog 12 #[.pointer (some ⟨g, 0, none⟩), .int .i64 z, .int .i64 n] w fun e w' => Paired1 w w' g ok e (0, 0, b.2.1, b.2.2) := by
  obtain ⟨b1, b2, b3⟩ := b
  have HT := Aside0.mk hT
  have HA := Aside0.mk ha
  have HBB := Aside0.mk hb
  have HE := Aside0.mk he
  have HGW := Aside0.mk (show g < w.heap.size from hT.lt)
  have HB := Aside0.mk (Below.refl w.heap.size w)
  clear hT ha he hb
  go_enter Try.func12, Try.ntmps12
  go_wp2_with (first
    | ((with_reducible refine gate_dst (N := 6) rfl ?_); refine box_event ?hg (N := 6) ?hd (cs := #[.int .u64 0, .int .u64 0]) (t := 32) ?hr ?_; (case hd => rfl); (case hg => rfl); (case hr => first | (go_simp; done) | (go_simp; rfl)); intro gr hgr w1 hbox hb; have BK := Aside0.mk hbox; have GR := Aside0.mk (show w.heap.size ≤ gr from by have h := below_size (show Below w.heap.size w _ from uB); omega); have HB1 := Aside0.mk (below_step uB hb); have HGN := Aside0.mk (show gr ≠ g from by have := GR.out; have := HGW.out; omega); have HKN := Aside0.mk (show ∀ k, ok k → k ≠ gr from fun k hk => by have := hok k hk; have := GR.out; omega); clear HB hb hbox hgr)
    | ((with_reducible refine gate_dst (N := 8) rfl ?_); refine box_event ?hg (N := 8) ?hd (cs := #[.int .u64 0, .int .u64 0]) (t := 100) ?hr ?_; (case hd => rfl); (case hg => rfl); (case hr => first | (go_simp; done) | (go_simp; rfl)); intro gl hgl w2 hbox hb; have BL := Aside0.mk hbox; have GL := Aside0.mk (show w.heap.size ≤ gl from by have h := below_size (show Below w.heap.size w _ from HB1.out); omega); have HB2 := Aside0.mk (below_step HB1.out hb); have BK2 := Aside0.mk (blk_below BK.out hb); have GLR := Aside0.mk (show gl ≠ gr from by have := blk_lt BK.out; omega); have HGLN := Aside0.mk (show gl ≠ g from by have := GL.out; have := HGW.out; omega); have HKLN := Aside0.mk (show ∀ k, ok k → k ≠ gl from fun k hk => by have := hok k hk; have := GL.out; omega); clear HB1 BK hb hbox hgl))
  go_loopg [14] 2 (fun gg v14 wr => (v14 = .int .i64 0 ∧ wr = w2 ∧ 2 ≤ gg) ∨ (v14 = .int .i64 1 ∧ 1 ≤ gg ∧ Aside0 (Tp wr g ok a3) ∧ Aside0 (wr.heap[gr]? = some (.cells #[.int .u64 0, .int .u64 0] 32 (0, 0))) ∧ Aside0 (wr.heap[gl]? = some (.cells #[.int .u64 a1, .int .u64 0] 100 (0, 0))) ∧ Aside0 (Stay w wr g)))
  case atStart => exact .inl ⟨rfl, rfl, by omega⟩
  case round =>
    rcases hrel with ⟨rfl, rfl, hgg⟩ | ⟨rfl, hgg, HT1, HK1, HL1, HS1⟩
    · go_wp2_with (first
        | (go_at_call 48; refine (search.calls g L z n ok (a1, 0, a3) _ (HT.out.below HB2.out) hg HA.out).mono ?_; rintro e w3 ⟨rfl, hT3, hS3⟩; have T3 := Aside0.mk hT3; have BK3 := Aside0.mk (blk_stay BK2.out hS3 HGN.out); have BL3 := Aside0.mk (blk_stay BL.out hS3 HGLN.out); have S3 := Aside0.mk ((Stay.of_below HB2.out g).trans hS3); have hd0 := (blk_cell BL3.out 0).trans rfl; have hf0 := blk_frozen BL3.out 0; clear hT3 hS3))
      go_roundg 1
      case measure => omega
      case rel => exact .inr (⟨rfl, by omega, ⟨T3.out.farP (p := ⟨gl, 0, none⟩) HGLN.out HKLN.out _⟩, ⟨blk_farP (p := ⟨gl, 0, none⟩) BK3.out GLR.out _⟩, ⟨blk_put (cs := #[.int .u64 0, .int .u64 0]) BL3.out 0 _ rfl⟩, ⟨S3.out.set_new (p := ⟨gl, 0, none⟩) GL.out _⟩⟩)
    · go_wp2_with (first
        | (go_at_call 48; refine (search.calls g a3 z n ok (b1, b2, b3) _ HT1.out hg HBB.out).mono ?_; rintro e w4 ⟨rfl, hT4, hS4⟩; have T3 := Aside0.mk hT4; have BK3 := Aside0.mk (blk_stay HK1.out hS4 HGN.out); have S3 := Aside0.mk (HS1.out.trans hS4); have hc0 := (blk_cell BK3.out 0).trans rfl; have hc1 := (blk_cell BK3.out 1).trans rfl; have hf0 := blk_frozen BK3.out 0; have hf1 := blk_frozen BK3.out 1; clear hT4 hS4))
      all_goals first
        | (have h5 : (b2 != 0) = false := by assumption
           exact absurd (by simpa using h5) HE.out)
        | (refine bodyPost_ret (results_ct rfl _ _ gr 32 #[.int .u64 0, .int .u64 0] (0, 0) _ rfl (by refine blk_put (cs := #[.int .u64 0, .int .u64 0]) ?_ 1 _ rfl; refine blk_put (cs := #[.int .u64 0, .int .u64 0]) ?_ 0 _ rfl; exact BK3.out) Try.underlying32 rfl (by kernel_rfl)) rfl ?_; exact ⟨rfl, (T3.out.farP (p := ⟨gr, 0, none⟩) HGN.out HKN.out _).farP (p := ⟨gr, 1, none⟩) HGN.out HKN.out _, (S3.out.set_new (p := ⟨gr, 0, none⟩) GR.out _).set_new (p := ⟨gr, 1, none⟩) GR.out _⟩)
set_option maxHeartbeats 8000000 in
set_option maxRecDepth 100000 in
theorem pair.three (k : Nat) (g : Nat) (L : List Int) (z n : Int) (ok : Nat → Prop) (a1 : Int) (a3 : List Int) (b1 : Int) (b3 : List Int) (c : Int) (w : World) (hT : Tp w g ok L) (hg : ¬ ok g) (hok : ∀ k, ok k → k < w.heap.size) (ha : searchF z n L = some (a1, 0, a3)) (hb : searchF z n a3 = some (b1, 0, b3)) (hc : prime_Check.f k a1 b1 = some c) :
    Calls Try.prog 12 #[.pointer (some ⟨g, 0, none⟩), .int .i64 z, .int .i64 n] w fun e w' => Paired1 w w' g ok e (if c = 0 then (a1, b1, 0, b3) else (0, 0, c, b3)) := by
  have HT := Aside0.mk hT
  have HA := Aside0.mk ha
  have HBB := Aside0.mk hb
  have HC := Aside0.mk hc
  have HGW := Aside0.mk (show g < w.heap.size from hT.lt)
  have HB := Aside0.mk (Below.refl w.heap.size w)
  clear hT ha hb hc
  go_enter Try.func12, Try.ntmps12
  go_wp2_with (first
    | ((with_reducible refine gate_dst (N := 6) rfl ?_); refine box_event ?hg (N := 6) ?hd (cs := #[.int .u64 0, .int .u64 0]) (t := 32) ?hr ?_; (case hd => rfl); (case hg => rfl); (case hr => first | (go_simp; done) | (go_simp; rfl)); intro gr hgr w1 hbox hb; have BK := Aside0.mk hbox; have GR := Aside0.mk (show w.heap.size ≤ gr from by have h := below_size (show Below w.heap.size w _ from uB); omega); have HB1 := Aside0.mk (below_step uB hb); have HGN := Aside0.mk (show gr ≠ g from by have := GR.out; have := HGW.out; omega); have HKN := Aside0.mk (show ∀ k, ok k → k ≠ gr from fun k hk => by have := hok k hk; have := GR.out; omega); clear HB hb hbox hgr)
    | ((with_reducible refine gate_dst (N := 8) rfl ?_); refine box_event ?hg (N := 8) ?hd (cs := #[.int .u64 0, .int .u64 0]) (t := 100) ?hr ?_; (case hd => rfl); (case hg => rfl); (case hr => first | (go_simp; done) | (go_simp; rfl)); intro gl hgl w2 hbox hb; have BL := Aside0.mk hbox; have GL := Aside0.mk (show w.heap.size ≤ gl from by have h := below_size (show Below w.heap.size w _ from HB1.out); omega); have HB2 := Aside0.mk (below_step HB1.out hb); have BK2 := Aside0.mk (blk_below BK.out hb); have GLR := Aside0.mk (show gl ≠ gr from by have := blk_lt BK.out; omega); have HGLN := Aside0.mk (show gl ≠ g from by have := GL.out; have := HGW.out; omega); have HKLN := Aside0.mk (show ∀ k, ok k → k ≠ gl from fun k hk => by have := hok k hk; have := GL.out; omega); clear HB1 BK hb hbox hgl))
  go_loopg [14] 2 (fun gg v14 wr => (v14 = .int .i64 0 ∧ wr = w2 ∧ 2 ≤ gg) ∨ (v14 = .int .i64 1 ∧ 1 ≤ gg ∧ Aside0 (Tp wr g ok a3) ∧ Aside0 (wr.heap[gr]? = some (.cells #[.int .u64 0, .int .u64 0] 32 (0, 0))) ∧ Aside0 (wr.heap[gl]? = some (.cells #[.int .u64 a1, .int .u64 0] 100 (0, 0))) ∧ Aside0 (Stay w wr g)) ∨ (v14 = .int .i64 2 ∧ Aside0 (Tp wr g ok b3) ∧ Aside0 (wr.heap[gr]? = some (.cells #[.int .u64 0, .int .u64 0] 32 (0, 0))) ∧ Aside0 (wr.heap[gl]? = some (.cells #[.int .u64 a1, .int .u64 b1] 100 (0, 0))) ∧ Aside0 (Stay w wr g)))
  case atStart => exact .inl ⟨rfl, rfl, by omega⟩
  case round =>
    rcases hrel with ⟨rfl, rfl, hgg⟩ | ⟨rfl, hgg, HT1, HK1, HL1, HS1⟩ | ⟨rfl, HT1, HK1, HL1, HS1⟩
    · go_wp2_with (first
        | (go_at_call 48; refine (search.calls g L z n ok (a1, 0, a3) _ (HT.out.below HB2.out) hg HA.out).mono ?_; rintro e w3 ⟨rfl, hT3, hS3⟩; have T3 := Aside0.mk hT3; have BK3 := Aside0.mk (blk_stay BK2.out hS3 HGN.out); have BL3 := Aside0.mk (blk_stay BL.out hS3 HGLN.out); have S3 := Aside0.mk ((Stay.of_below HB2.out g).trans hS3); have hd0 := (blk_cell BL3.out 0).trans rfl; have hf0 := blk_frozen BL3.out 0; clear hT3 hS3))
      go_roundg 1
      case measure => omega
      case rel => exact .inr (.inl ⟨rfl, by omega, ⟨T3.out.farP (p := ⟨gl, 0, none⟩) HGLN.out HKLN.out _⟩, ⟨blk_farP (p := ⟨gl, 0, none⟩) BK3.out GLR.out _⟩, ⟨blk_put (cs := #[.int .u64 0, .int .u64 0]) BL3.out 0 _ rfl⟩, ⟨S3.out.set_new (p := ⟨gl, 0, none⟩) GL.out _⟩⟩)
    · go_wp2_with (first
        | (go_at_call 48; refine (search.calls g a3 z n ok (b1, 0, b3) _ HT1.out hg HBB.out).mono ?_; rintro e w4 ⟨rfl, hT4, hS4⟩; have T3 := Aside0.mk hT4; have BK3 := Aside0.mk (blk_stay HK1.out hS4 HGN.out); have BL3 := Aside0.mk (blk_stay HL1.out hS4 HGLN.out); have S3 := Aside0.mk (HS1.out.trans hS4); have hd1 := (blk_cell BL3.out 1).trans rfl; have hf1 := blk_frozen BL3.out 1; clear hT4 hS4))
      go_roundg 0
      case measure => omega
      case rel => exact .inr (.inr ⟨rfl, ⟨T3.out.farP (p := ⟨gl, 1, none⟩) HGLN.out HKLN.out _⟩, ⟨blk_farP (p := ⟨gl, 1, none⟩) BK3.out GLR.out _⟩, ⟨blk_put (cs := #[.int .u64 a1, .int .u64 0]) BL3.out 1 _ rfl⟩, ⟨S3.out.set_new (p := ⟨gl, 1, none⟩) GL.out _⟩⟩)
    · have hd0 := (blk_cell HL1.out 0).trans rfl
      have hd1 := (blk_cell HL1.out 1).trans rfl
      go_wp2_with (first
        | ((with_reducible refine gate_dst (N := 12) rfl ?_); refine box_event ?hg (N := 12) ?hd (cs := #[.int .u64 0, .int .u64 0]) (t := 32) ?hr ?_; (case hd => rfl); (case hg => rfl); (case hr => first | (go_simp; done) | (go_simp; rfl)); intro gk hgk w4 hbox hb; have BKK := Aside0.mk hbox; have T4 := Aside0.mk (HT1.out.below hb); have BK4 := Aside0.mk (blk_below HK1.out hb); have S4 := Aside0.mk (HS1.out.then hb); have GKR := Aside0.mk (show gk ≠ gr from by have := blk_lt HK1.out; omega); have GKG := Aside0.mk (show gk ≠ g from by have := HT1.out.ltP; omega); have GKW := Aside0.mk (show w.heap.size ≤ gk from by have := HS1.out.size; omega); have GKO := Aside0.mk (show ∀ k, ok k → k ≠ gk from fun k hk => by have := hok k hk; have := GKW.out; omega); have hk0 := (blk_cell BKK.out 0).trans rfl; have hk1 := (blk_cell BKK.out 1).trans rfl; have hkf0 := blk_frozen BKK.out 0; have hkf1 := blk_frozen BKK.out 1; clear hb hbox hgk HT1 HK1 HS1 hd0 hd1)
        | (go_at_call 16; refine (prime_Check.calls k a1 b1 c _ HC.out).mono ?_; rintro e w5 ⟨rfl, hb⟩; have T5 := Aside0.mk (((T4.out.farP (p := ⟨gk, 0, none⟩) GKG.out GKO.out _).farP (p := ⟨gk, 1, none⟩) GKG.out GKO.out _).below hb); have BK5 := Aside0.mk (blk_below (blk_farP (p := ⟨gk, 1, none⟩) (blk_farP (p := ⟨gk, 0, none⟩) BK4.out GKR.out _) GKR.out _) hb); have S5 := Aside0.mk (((S4.out.set_new (p := ⟨gk, 0, none⟩) GKW.out _).set_new (p := ⟨gk, 1, none⟩) GKW.out _).then hb); have BKK5 := Aside0.mk (blk_below (blk_put (cs := #[.int .u64 a1, .int .u64 0]) (blk_put (cs := #[.int .u64 0, .int .u64 0]) BKK.out 0 (.int .u64 a1) rfl) 1 (.int .u64 b1) rfl) hb); have hc0 := (blk_cell BK5.out 0).trans rfl; have hc1 := (blk_cell BK5.out 1).trans rfl; have hf0 := blk_frozen BK5.out 0; have hf1 := blk_frozen BK5.out 1; clear hk0 hk1 hkf0 hkf1; have hk0 := (blk_cell BKK5.out 0).trans rfl; have hk1 := (blk_cell BKK5.out 1).trans rfl; clear T4 BK4 S4 BKK hb))
      all_goals first
        | (exfalso; have h5 : (c != 0) = true := by assumption
           have h6 : c = 0 := by assumption
           rw [h6] at h5; exact absurd h5 (by decide))
        | (exfalso; have h5 : (c != 0) = false := by assumption
           have h6 : ¬ c = 0 := by assumption
           exact h6 (by simpa using h5))
        | (refine bodyPost_ret (results_ct rfl _ _ gr 32 #[.int .u64 a1, .int .u64 b1] (0, 0) _ rfl (by refine blk_put (cs := #[.int .u64 a1, .int .u64 0]) ?_ 1 _ rfl; refine blk_put (cs := #[.int .u64 0, .int .u64 0]) ?_ 0 _ rfl; exact BK5.out) Try.underlying32 rfl (by kernel_rfl)) rfl ?_; exact ⟨rfl, (T5.out.farP (p := ⟨gr, 0, none⟩) HGN.out HKN.out _).farP (p := ⟨gr, 1, none⟩) HGN.out HKN.out _, (S5.out.set_new (p := ⟨gr, 0, none⟩) GR.out _).set_new (p := ⟨gr, 1, none⟩) GR.out _⟩)
        | (refine bodyPost_ret (results_ct rfl _ _ gr 32 #[.int .u64 0, .int .u64 0] (0, 0) _ rfl (by refine blk_put (cs := #[.int .u64 0, .int .u64 0]) ?_ 1 _ rfl; refine blk_put (cs := #[.int .u64 0, .int .u64 0]) ?_ 0 _ rfl; exact BK5.out) Try.underlying32 rfl (by kernel_rfl)) rfl ?_; exact ⟨rfl, (T5.out.farP (p := ⟨gr, 0, none⟩) HGN.out HKN.out _).farP (p := ⟨gr, 1, none⟩) HGN.out HKN.out _, (S5.out.set_new (p := ⟨gr, 0, none⟩) GR.out _).set_new (p := ⟨gr, 1, none⟩) GR.out _⟩)
theorem pair.calls (k : Nat) (g : Nat) (L : List Int) (z n : Int) (ok : Nat → Prop) (x : Int × Int × Int × List Int) (w : World) (hT : Tp w g ok L) (hg : ¬ ok g) (hok : ∀ k, ok k → k < w.heap.size) (h : pair.f k z n L = some x) :
    Calls Try.prog 12 #[.pointer (some ⟨g, 0, none⟩), .int .i64 z, .int .i64 n] w fun e w' => Paired1 w w' g ok e x := by
  unfold pair.f at h
  obtain ⟨⟨a1, a2, a3⟩, ha, h⟩ := Option.bind_eq_some_iff.mp h
  simp only [] at h
  by_cases ha2 : a2 = 0
  · subst ha2
    rw [if_pos rfl] at h
    obtain ⟨⟨b1, b2, b3⟩, hb, h⟩ := Option.bind_eq_some_iff.mp h
    simp only [] at h
    by_cases hb2 : b2 = 0
    · subst hb2
      rw [if_pos rfl] at h
      obtain ⟨c, hc, h⟩ := Option.bind_eq_some_iff.mp h
      have hx : x = if c = 0 then (a1, b1, 0, b3) else (0, 0, c, b3) := by
        by_cases h0 : c = 0
        · rw [if_pos h0] at h ⊢
          exact (Option.some.inj h).symm
        · rw [if_neg h0] at h ⊢
          exact (Option.some.inj h).symm
      rw [hx]
      exact pair.three k g L z n ok a1 a3 b1 b3 c w hT hg hok ha hb hc
    · rw [if_neg hb2] at h
      obtain rfl := Option.some.inj h
      exact pair.two g L z n ok a1 a3 (b1, b2, b3) w hT hg hok ha hb hb2
  · rw [if_neg ha2] at h
    obtain rfl := Option.some.inj h
    exact pair.one g L z n ok (a1, a2, a3) w hT hg hok ha ha2
end Go.Proofs.Ytkgaejigpmkfkaa.F
end
section
namespace Go.Proofs.Ytkgaejigpmkfkaa.F
open Go.RowKit Go.Proofs.YtkgaejigpmkfkaaW.PrintWords Go.Proofs.YtkgaejigpmkfkaaW.PrintLast Go.Proofs.YtkgaejigpmkfkaaW.PrintMore
attribute [local go_sem] max2_int min2_int max_two min_two max_three min_three max_four min_four
set_option linter.unusedVariables false
set_option linter.unusedSimpArgs false
def windbreaklaw05_PrimePairs.Pure : Prop := ∀ (L : List Int) (z n : Int), L.length ≤ 65536 → (∀ x ∈ L, (Lit.int .u8 x).wf = true) → (Lit.int .i64 z).wf = true → (Lit.int .i64 n).wf = true → ∃ k p q er u', pair.f k z (min n 300) L = some (p, q, er, L.drop u') ∧ rpair.f k z (min n 300) L 0 = some (p, q, er, u') ∧ u' ≤ L.length ∧ (er = 0 → 8 ≤ z ∧ z ≤ 40 ∧ prime_Check.f k p q = some 0 ∧ p / (2 : Int) ^ (z.toNat - 1) = 1 ∧ q / (2 : Int) ^ (z.toNat - 1) = 1)
theorem Tp2.stayP {w w1 : World} {g g1 : Nat} {ok : Nat → Prop} {l : List Int} {u : Int} (h : Tp2 w g ok l u) (hs : Stay w w1 g1) (hg : g ≠ g1) (hok : ∀ k, ok k → k ≠ g1) : Tp2 w1 g ok l u := h.keep hs.1 hg hok
theorem Tp.stayP {w w1 : World} {g g1 : Nat} {ok : Nat → Prop} {l : List Int} (h : Tp w g ok l) (hs : Stay w w1 g1) (hg : g ≠ g1) (hok : ∀ k, ok k → k ≠ g1) : Tp w1 g ok l := h.keep hs.1 hg hok
set_option maxHeartbeats 16000000 in
set_option maxRecDepth 100000 in
theorem windbreaklaw05_PrimePairs.long (A0 : Option Addr) (c0 : Nat) (l0 : List Int) (z n : Int) (w : World) (hr0 : Kd.C (Kd.int .u8) w A0 l0.length l0) (hc0 : l0.length ≤ c0) (c2 : (l0.length : Int) > 65536) :
    Calls Try.prog 3 #[.slice A0 l0.length c0, .int .i64 z, .int .i64 n] w fun e w' => e = .returned (.bool true) ∧ Below w.heap.size w w' := by
  have HR0 := Aside0.mk hr0
  have HC0 := Aside0.mk hc0
  have HB := Aside0.mk (Below.refl w.heap.size w)
  have C2 := Aside0.mk c2
  clear hr0 hc0 c2
  go_enter Try.func3, Try.ntmps3
  go_wp2_with (first
    | (go_at_call 10; (with_reducible refine (tape_New.calls _ _ l0 _ ?side1 HC0.out).mono ?_); (case side1 => repeat (first | exact (Kd.C_below HR0.out HB.out) | (with_reducible refine Kd.C_alloc ?_ _) | (with_reducible refine Kd.C_drewN ?_ _) | (with_reducible refine Kd.C_drew ?_))); rintro e w1 ⟨p, rfl, hp, hb⟩; rw [if_pos C2.out] at hp ⊢; subst hp; have n1_ := Aside0.mk (below_step (by repeat (first | (with_reducible first | exact HB.out | apply below_alloc | apply pw_below_drewN | apply below_drew1) | exact HB.out)) hb); clear HB hb; have HB := n1_; clear n1_)
    | (go_at_call 11; (with_reducible refine (tape_New2.calls _ _ l0 _ ?side1 HC0.out).mono ?_); (case side1 => repeat (first | exact (Kd.C_below HR0.out HB.out) | (with_reducible refine Kd.C_alloc ?_ _) | (with_reducible refine Kd.C_drewN ?_ _) | (with_reducible refine Kd.C_drew ?_))); rintro e w2 ⟨p, rfl, hp, hb⟩; rw [if_pos C2.out] at hp ⊢; subst hp; have n1_ := Aside0.mk (below_step (by repeat (first | (with_reducible first | exact HB.out | apply below_alloc | apply pw_below_drewN | apply below_drew1) | exact HB.out)) hb); clear HB hb; have HB := n1_; clear n1_))
  all_goals
    go_ret
    exact ⟨rfl, uB⟩
set_option maxHeartbeats 16000000 in
set_option maxRecDepth 100000 in
theorem windbreaklaw05_PrimePairs.calls (A0 : Option Addr) (c0 : Nat) (l0 : List Int) (z n nn : Int) (k : Nat) (p q er : Int) (u' : Nat) (w : World) (hr0 : Kd.C (Kd.int .u8) w A0 l0.length l0) (hc0 : l0.length ≤ c0) (hL : l0.length ≤ 65536) (hnn : (n ≤ 300 ∧ nn = n) ∨ (300 < n ∧ nn = 300)) (k1 : pair.f k z nn l0 = some (p, q, er, l0.drop u')) (k2 : rpair.f k z nn l0 0 = some (p, q, er, u')) (hu : u' ≤ l0.length) (h0 : er = 0 → 8 ≤ z ∧ z ≤ 40 ∧ prime_Check.f k p q = some 0 ∧ p / (2 : Int) ^ (z.toNat - 1) = 1 ∧ q / (2 : Int) ^ (z.toNat - 1) = 1) :
    Calls Try.prog 3 #[.slice A0 l0.length c0, .int .i64 z, .int .i64 n] w fun e w' => e = .returned (.bool true) ∧ Below w.heap.size w w' := by
  have HR0 := Aside0.mk hr0
  have HC0 := Aside0.mk hc0
  have HL0 := Aside0.mk hL
  have HB := Aside0.mk (Below.refl w.heap.size w)
  have C2 := Aside0.mk (show ¬ (l0.length : Int) > 65536 from by omega)
  have K1 := Aside0.mk k1
  have K2 := Aside0.mk k2
  have HU := Aside0.mk hu
  obtain ⟨M, hM⟩ : ∃ M : Nat, M = l0.length - u' := ⟨_, rfl⟩
  have NM := Aside0.mk hM
  clear hr0 hc0 hL k1 k2 hu hM
  by_cases he0 : er = 0
  · obtain ⟨z1, z2, z3, z4, z5⟩ := h0 he0
    clear h0
    subst he0
    have Z3 := Aside0.mk z3
    have z6 : (p / (2 : Int) ^ (z.toNat - 1) == 1) = true := beq_iff_eq.mpr z4
    have z7 : (q / (2 : Int) ^ (z.toNat - 1) == 1) = true := beq_iff_eq.mpr z5
    clear z3 z4 z5
    rcases hnn with ⟨hle, rfl⟩ | ⟨hle, rfl⟩
    all_goals
     go_enter Try.func3, Try.ntmps3
     go_wp2_with (first
       | (go_at_call 10; (with_reducible refine (tape_New.calls _ _ l0 _ ?side1 HC0.out).mono ?_); (case side1 => repeat (first | exact (Kd.C_below HR0.out HB.out) | (with_reducible refine Kd.C_alloc ?_ _) | (with_reducible refine Kd.C_drewN ?_ _) | (with_reducible refine Kd.C_drew ?_))); rintro e w1 ⟨p, rfl, hp, hb⟩; rw [if_neg (c := (l0.length : Int) > 65536) (by have := C2.out; omega)] at hp; rw [if_neg (c := (l0.length : Int) > 65536) (by have := C2.out; omega)]; obtain ⟨g1, rfl, hg1, hT1⟩ := hp; have G1 := Aside0.mk (Nat.le_trans (below_size (by repeat (first | (with_reducible first | exact HB.out | apply below_alloc | apply pw_below_drewN | apply below_drew1) | exact HB.out))) hg1); have T1 := Aside0.mk (Tp.mono (ok' := fun k => k < g1) hT1 (fun k hk => hk.2)); have L1 := Aside0.mk (Tp.lt hT1); clear hg1 hT1; have n1_ := Aside0.mk (below_step (by repeat (first | (with_reducible first | exact HB.out | apply below_alloc | apply pw_below_drewN | apply below_drew1) | exact HB.out)) hb); clear HB hb; have HB := n1_; clear n1_)
       | (go_at_call 11; (with_reducible refine (tape_New2.calls _ _ l0 _ ?side1 HC0.out).mono ?_); (case side1 => repeat (first | exact (Kd.C_below HR0.out HB.out) | (with_reducible refine Kd.C_alloc ?_ _) | (with_reducible refine Kd.C_drewN ?_ _) | (with_reducible refine Kd.C_drew ?_))); rintro e w2 ⟨p, rfl, hp, hb⟩; rw [if_neg (c := (l0.length : Int) > 65536) (by have := C2.out; omega)] at hp; rw [if_neg (c := (l0.length : Int) > 65536) (by have := C2.out; omega)]; obtain ⟨g2, rfl, hg2, hT2⟩ := hp; have G2 := Aside0.mk (Nat.lt_of_lt_of_le L1.out hg2); have T2 := Aside0.mk (Tp2.mono (ok' := fun k => g1 < k ∧ k < g2) hT2 (fun k hk => ⟨Nat.lt_of_lt_of_le L1.out hk.1, hk.2⟩)); clear hg2 hT2 L1; have n2_ := Aside0.mk (T1.out.below hb); clear T1; have T1 := n2_; clear n2_; have n1_ := Aside0.mk (below_step (by repeat (first | (with_reducible first | exact HB.out | apply below_alloc | apply pw_below_drewN | apply below_drew1) | exact HB.out)) hb); clear HB hb; have HB := n1_; clear n1_)
       | (go_at_call 12; refine (pair.calls k g1 l0 z _ (fun k => k < g1) (p, q, 0, l0.drop u') _ T1.out (Nat.lt_irrefl _) (fun k hk => Nat.lt_trans hk T1.out.ltP) K1.out).mono ?_; rintro e w6 ⟨rfl, hT6, hS6⟩; have T6 := Aside0.mk hT6; have T26 := Aside0.mk (T2.out.stayP hS6 (Nat.ne_of_gt G2.out) (fun k hk => Nat.ne_of_gt hk.1)); have HB6 := Aside0.mk (hS6.below HB.out G1.out); clear T1 T2 HB hT6 hS6)
       | ((with_reducible refine gate_dst (N := 11) rfl ?_); refine box_event ?hg (N := 11) ?hd (cs := #[.int .u64 0, .int .u64 0]) (t := 32) ?hr ?_; (case hd => rfl); (case hg => rfl); (case hr => first | (go_simp; done) | (go_simp; rfl)); intro gk hgk w7 hbox hb; have BK := Aside0.mk hbox; have GK1 := Aside0.mk (show g1 < gk from by have := T6.out.ltP; omega); have GK2 := Aside0.mk (show g2 < gk from by have := T26.out.ltP; omega); have GKW := Aside0.mk (show w.heap.size ≤ gk from by have := below_size HB6.out; omega); have T7 := Aside0.mk (T6.out.below hb); have T27 := Aside0.mk (T26.out.below hb); have HB7 := Aside0.mk (below_step HB6.out hb); have hk0 := (blk_cell BK.out 0).trans rfl; have hk1 := (blk_cell BK.out 1).trans rfl; have hkf0 := blk_frozen BK.out 0; have hkf1 := blk_frozen BK.out 1; clear T6 T26 HB6 hb hbox hgk)
       | (go_at_call 13; have n1_ := Aside0.mk ((T27.out.farP (p := ⟨gk, 0, none⟩) (Nat.ne_of_gt GK2.out) (fun k hk => Nat.ne_of_lt (Nat.lt_trans hk.2 GK2.out)) (.int .u64 p)).farP (p := ⟨gk, 1, none⟩) (Nat.ne_of_gt GK2.out) (fun k hk => Nat.ne_of_lt (Nat.lt_trans hk.2 GK2.out)) (.int .u64 q)); refine (rpair.calls k g2 l0 0 z _ (fun k => g1 < k ∧ k < g2) (p, q, 0, u') _ n1_.out (fun h => Nat.lt_irrefl _ h.2) (fun k hk => Nat.lt_trans hk.2 n1_.out.ltP) (Nat.zero_le _) HL0.out K2.out).mono ?_; rintro e w8 ⟨rfl, hT8, hS8⟩; have T8 := Aside0.mk (((T7.out.farP (p := ⟨gk, 0, none⟩) (Nat.ne_of_gt GK1.out) (fun k hk => Nat.ne_of_lt (Nat.lt_trans hk GK1.out)) _).farP (p := ⟨gk, 1, none⟩) (Nat.ne_of_gt GK1.out) (fun k hk => Nat.ne_of_lt (Nat.lt_trans hk GK1.out)) _).stayP hS8 (Nat.ne_of_lt G2.out) (fun k hk => Nat.ne_of_lt (Nat.lt_trans hk G2.out))); have T28 := Aside0.mk hT8; have BK8 := Aside0.mk (blk_stay (blk_put (cs := #[.int .u64 p, .int .u64 0]) (blk_put (cs := #[.int .u64 0, .int .u64 0]) BK.out 0 (.int .u64 p) rfl) 1 (.int .u64 q) rfl) hS8 (Nat.ne_of_gt GK2.out)); have HB8 := Aside0.mk (hS8.below ((HB7.out.setCell (p := ⟨gk, 0, none⟩) GKW.out _).setCell (p := ⟨gk, 1, none⟩) GKW.out _) (Nat.le_of_lt (Nat.lt_of_le_of_lt G1.out G2.out))); clear T7 T27 HB7 BK n1_ hk0 hk1 hkf0 hkf1 hT8 hS8)
       | ((with_reducible refine gate_dst (N := 13) rfl ?_); refine box_event ?hg (N := 13) ?hd (cs := #[.int .u64 0, .int .u64 0]) (t := 32) ?hr ?_; (case hd => rfl); (case hg => rfl); (case hr => first | (go_simp; done) | (go_simp; rfl)); intro gh hgh w9 hbox hb; have BH := Aside0.mk hbox; have GH1 := Aside0.mk (show g1 < gh from by have := T8.out.ltP; omega); have GH2 := Aside0.mk (show g2 < gh from by have := T28.out.ltP; omega); have GHW := Aside0.mk (show w.heap.size ≤ gh from by have := below_size HB8.out; omega); have hne : gk ≠ gh := (by have := blk_lt BK8.out; omega); have T9 := Aside0.mk (T8.out.below hb); have T29 := Aside0.mk (T28.out.below hb); have BK9 := Aside0.mk (blk_below BK8.out hb); have HB9 := Aside0.mk (below_step HB8.out hb); have hk0 := (blk_cell BK9.out 0).trans rfl; have hk1 := (blk_cell BK9.out 1).trans rfl; have hh0 := (blk_cell BH.out 0).trans rfl; have hh1 := (blk_cell BH.out 1).trans rfl; have hhf0 := blk_frozen BH.out 0; have hhf1 := blk_frozen BH.out 1; clear T8 T28 BK8 HB8 hb hbox hgh)
       | (go_at_call 14; obtain ⟨Al_, cl_, hl_⟩ := ((T9.out.farP (p := ⟨gh, 0, none⟩) (Nat.ne_of_gt GH1.out) (fun k hk => Nat.ne_of_lt (Nat.lt_trans hk GH1.out)) (.int .u64 p)).farP (p := ⟨gh, 1, none⟩) (Nat.ne_of_gt GH1.out) (fun k hk => Nat.ne_of_lt (Nat.lt_trans hk GH1.out)) (.int .u64 q)).cell; rw [List.length_drop, ← NM.out] at hl_; (with_reducible refine (tape_Left.calls _ _ _ _ _ hl_).mono ?_); clear hl_; rintro e w10 ⟨rfl, hd⟩; have hb := hd.below; have T210 := Aside0.mk (((T29.out.farP (p := ⟨gh, 0, none⟩) (Nat.ne_of_gt GH2.out) (fun k hk => Nat.ne_of_lt (Nat.lt_trans hk.2 GH2.out)) _).farP (p := ⟨gh, 1, none⟩) (Nat.ne_of_gt GH2.out) (fun k hk => Nat.ne_of_lt (Nat.lt_trans hk.2 GH2.out)) _).below hb); have BK10 := Aside0.mk (blk_below (blk_farP (p := ⟨gh, 1, none⟩) (blk_farP (p := ⟨gh, 0, none⟩) BK9.out (Ne.symm hne) _) (Ne.symm hne) _) hb); have HB10 := Aside0.mk (below_step ((HB9.out.setCell (p := ⟨gh, 0, none⟩) GHW.out _).setCell (p := ⟨gh, 1, none⟩) GHW.out _) hb); clear T9 T29 BK9 HB9 hk0 hk1 hh0 hh1 hhf0 hhf1 hb hd)
       | (go_at_call 15; obtain ⟨Am_, cm_, hl_, hm_⟩ := T210.out.cell; (have tk_ := tape_Left2.calls _ _ _ _ _ _ hl_ hm_); rw [show wrap64 ((l0.length : Int) - (u' : Int)) = (M : Int) from by have := HU.out; have := NM.out; have := HL0.out; unfold wrap64; omega] at tk_; (with_reducible refine tk_.mono ?_); clear hl_ hm_ tk_; rintro e w11 ⟨rfl, hd⟩; have hb := hd.below; have BK11 := Aside0.mk (blk_below BK10.out hb); have HB11 := Aside0.mk (below_step HB10.out hb); have hk0 := (blk_cell BK11.out 0).trans rfl; have hk1 := (blk_cell BK11.out 1).trans rfl; clear T210 HB10 BK10 hb hd)
       | (go_at_call 16; refine (prime_Check.calls k p q 0 _ Z3.out).mono ?_; rintro e w12 ⟨rfl, hb⟩; have BK12 := Aside0.mk (blk_below BK11.out hb); have HB12 := Aside0.mk (below_step HB11.out hb); clear hk0 hk1; have hk0 := (blk_cell BK12.out 0).trans rfl; have hk1 := (blk_cell BK12.out 1).trans rfl; clear HB11 BK11 hb))
     go_ret
     exact ⟨rfl, uB⟩
  · have he1 : (er != 0) = true := by simpa using he0
    clear h0
    rcases hnn with ⟨hle, rfl⟩ | ⟨hle, rfl⟩
    all_goals
     go_enter Try.func3, Try.ntmps3
     go_wp2_with (first
       | (go_at_call 10; (with_reducible refine (tape_New.calls _ _ l0 _ ?side1 HC0.out).mono ?_); (case side1 => repeat (first | exact (Kd.C_below HR0.out HB.out) | (with_reducible refine Kd.C_alloc ?_ _) | (with_reducible refine Kd.C_drewN ?_ _) | (with_reducible refine Kd.C_drew ?_))); rintro e w1 ⟨p, rfl, hp, hb⟩; rw [if_neg (c := (l0.length : Int) > 65536) (by have := C2.out; omega)] at hp; rw [if_neg (c := (l0.length : Int) > 65536) (by have := C2.out; omega)]; obtain ⟨g1, rfl, hg1, hT1⟩ := hp; have G1 := Aside0.mk (Nat.le_trans (below_size (by repeat (first | (with_reducible first | exact HB.out | apply below_alloc | apply pw_below_drewN | apply below_drew1) | exact HB.out))) hg1); have T1 := Aside0.mk (Tp.mono (ok' := fun k => k < g1) hT1 (fun k hk => hk.2)); have L1 := Aside0.mk (Tp.lt hT1); clear hg1 hT1; have n1_ := Aside0.mk (below_step (by repeat (first | (with_reducible first | exact HB.out | apply below_alloc | apply pw_below_drewN | apply below_drew1) | exact HB.out)) hb); clear HB hb; have HB := n1_; clear n1_)
       | (go_at_call 11; (with_reducible refine (tape_New2.calls _ _ l0 _ ?side1 HC0.out).mono ?_); (case side1 => repeat (first | exact (Kd.C_below HR0.out HB.out) | (with_reducible refine Kd.C_alloc ?_ _) | (with_reducible refine Kd.C_drewN ?_ _) | (with_reducible refine Kd.C_drew ?_))); rintro e w2 ⟨p, rfl, hp, hb⟩; rw [if_neg (c := (l0.length : Int) > 65536) (by have := C2.out; omega)] at hp; rw [if_neg (c := (l0.length : Int) > 65536) (by have := C2.out; omega)]; obtain ⟨g2, rfl, hg2, hT2⟩ := hp; have G2 := Aside0.mk (Nat.lt_of_lt_of_le L1.out hg2); have T2 := Aside0.mk (Tp2.mono (ok' := fun k => g1 < k ∧ k < g2) hT2 (fun k hk => ⟨Nat.lt_of_lt_of_le L1.out hk.1, hk.2⟩)); clear hg2 hT2 L1; have n2_ := Aside0.mk (T1.out.below hb); clear T1; have T1 := n2_; clear n2_; have n1_ := Aside0.mk (below_step (by repeat (first | (with_reducible first | exact HB.out | apply below_alloc | apply pw_below_drewN | apply below_drew1) | exact HB.out)) hb); clear HB hb; have HB := n1_; clear n1_)
       | (go_at_call 12; refine (pair.calls k g1 l0 z _ (fun k => k < g1) (p, q, er, l0.drop u') _ T1.out (Nat.lt_irrefl _) (fun k hk => Nat.lt_trans hk T1.out.ltP) K1.out).mono ?_; rintro e w6 ⟨rfl, hT6, hS6⟩; have T6 := Aside0.mk hT6; have T26 := Aside0.mk (T2.out.stayP hS6 (Nat.ne_of_gt G2.out) (fun k hk => Nat.ne_of_gt hk.1)); have HB6 := Aside0.mk (hS6.below HB.out G1.out); clear T1 T2 HB hT6 hS6)
       | ((with_reducible refine gate_dst (N := 11) rfl ?_); refine box_event ?hg (N := 11) ?hd (cs := #[.int .u64 0, .int .u64 0]) (t := 32) ?hr ?_; (case hd => rfl); (case hg => rfl); (case hr => first | (go_simp; done) | (go_simp; rfl)); intro gk hgk w7 hbox hb; have BK := Aside0.mk hbox; have GK1 := Aside0.mk (show g1 < gk from by have := T6.out.ltP; omega); have GK2 := Aside0.mk (show g2 < gk from by have := T26.out.ltP; omega); have GKW := Aside0.mk (show w.heap.size ≤ gk from by have := below_size HB6.out; omega); have T7 := Aside0.mk (T6.out.below hb); have T27 := Aside0.mk (T26.out.below hb); have HB7 := Aside0.mk (below_step HB6.out hb); have hk0 := (blk_cell BK.out 0).trans rfl; have hk1 := (blk_cell BK.out 1).trans rfl; have hkf0 := blk_frozen BK.out 0; have hkf1 := blk_frozen BK.out 1; clear T6 T26 HB6 hb hbox hgk)
       | (go_at_call 13; have n1_ := Aside0.mk ((T27.out.farP (p := ⟨gk, 0, none⟩) (Nat.ne_of_gt GK2.out) (fun k hk => Nat.ne_of_lt (Nat.lt_trans hk.2 GK2.out)) (.int .u64 p)).farP (p := ⟨gk, 1, none⟩) (Nat.ne_of_gt GK2.out) (fun k hk => Nat.ne_of_lt (Nat.lt_trans hk.2 GK2.out)) (.int .u64 q)); refine (rpair.calls k g2 l0 0 z _ (fun k => g1 < k ∧ k < g2) (p, q, er, u') _ n1_.out (fun h => Nat.lt_irrefl _ h.2) (fun k hk => Nat.lt_trans hk.2 n1_.out.ltP) (Nat.zero_le _) HL0.out K2.out).mono ?_; rintro e w8 ⟨rfl, hT8, hS8⟩; have T8 := Aside0.mk (((T7.out.farP (p := ⟨gk, 0, none⟩) (Nat.ne_of_gt GK1.out) (fun k hk => Nat.ne_of_lt (Nat.lt_trans hk GK1.out)) _).farP (p := ⟨gk, 1, none⟩) (Nat.ne_of_gt GK1.out) (fun k hk => Nat.ne_of_lt (Nat.lt_trans hk GK1.out)) _).stayP hS8 (Nat.ne_of_lt G2.out) (fun k hk => Nat.ne_of_lt (Nat.lt_trans hk G2.out))); have T28 := Aside0.mk hT8; have BK8 := Aside0.mk (blk_stay (blk_put (cs := #[.int .u64 p, .int .u64 0]) (blk_put (cs := #[.int .u64 0, .int .u64 0]) BK.out 0 (.int .u64 p) rfl) 1 (.int .u64 q) rfl) hS8 (Nat.ne_of_gt GK2.out)); have HB8 := Aside0.mk (hS8.below ((HB7.out.setCell (p := ⟨gk, 0, none⟩) GKW.out _).setCell (p := ⟨gk, 1, none⟩) GKW.out _) (Nat.le_of_lt (Nat.lt_of_le_of_lt G1.out G2.out))); clear T7 T27 HB7 BK n1_ hk0 hk1 hkf0 hkf1 hT8 hS8)
       | ((with_reducible refine gate_dst (N := 13) rfl ?_); refine box_event ?hg (N := 13) ?hd (cs := #[.int .u64 0, .int .u64 0]) (t := 32) ?hr ?_; (case hd => rfl); (case hg => rfl); (case hr => first | (go_simp; done) | (go_simp; rfl)); intro gh hgh w9 hbox hb; have BH := Aside0.mk hbox; have GH1 := Aside0.mk (show g1 < gh from by have := T8.out.ltP; omega); have GH2 := Aside0.mk (show g2 < gh from by have := T28.out.ltP; omega); have GHW := Aside0.mk (show w.heap.size ≤ gh from by have := below_size HB8.out; omega); have hne : gk ≠ gh := (by have := blk_lt BK8.out; omega); have T9 := Aside0.mk (T8.out.below hb); have T29 := Aside0.mk (T28.out.below hb); have BK9 := Aside0.mk (blk_below BK8.out hb); have HB9 := Aside0.mk (below_step HB8.out hb); have hk0 := (blk_cell BK9.out 0).trans rfl; have hk1 := (blk_cell BK9.out 1).trans rfl; have hh0 := (blk_cell BH.out 0).trans rfl; have hh1 := (blk_cell BH.out 1).trans rfl; have hhf0 := blk_frozen BH.out 0; have hhf1 := blk_frozen BH.out 1; clear T8 T28 BK8 HB8 hb hbox hgh)
       | (go_at_call 14; obtain ⟨Al_, cl_, hl_⟩ := ((T9.out.farP (p := ⟨gh, 0, none⟩) (Nat.ne_of_gt GH1.out) (fun k hk => Nat.ne_of_lt (Nat.lt_trans hk GH1.out)) (.int .u64 p)).farP (p := ⟨gh, 1, none⟩) (Nat.ne_of_gt GH1.out) (fun k hk => Nat.ne_of_lt (Nat.lt_trans hk GH1.out)) (.int .u64 q)).cell; rw [List.length_drop, ← NM.out] at hl_; (with_reducible refine (tape_Left.calls _ _ _ _ _ hl_).mono ?_); clear hl_; rintro e w10 ⟨rfl, hd⟩; have hb := hd.below; have T210 := Aside0.mk (((T29.out.farP (p := ⟨gh, 0, none⟩) (Nat.ne_of_gt GH2.out) (fun k hk => Nat.ne_of_lt (Nat.lt_trans hk.2 GH2.out)) _).farP (p := ⟨gh, 1, none⟩) (Nat.ne_of_gt GH2.out) (fun k hk => Nat.ne_of_lt (Nat.lt_trans hk.2 GH2.out)) _).below hb); have BK10 := Aside0.mk (blk_below (blk_farP (p := ⟨gh, 1, none⟩) (blk_farP (p := ⟨gh, 0, none⟩) BK9.out (Ne.symm hne) _) (Ne.symm hne) _) hb); have HB10 := Aside0.mk (below_step ((HB9.out.setCell (p := ⟨gh, 0, none⟩) GHW.out _).setCell (p := ⟨gh, 1, none⟩) GHW.out _) hb); clear T9 T29 BK9 HB9 hk0 hk1 hh0 hh1 hhf0 hhf1 hb hd)
       | (go_at_call 15; obtain ⟨Am_, cm_, hl_, hm_⟩ := T210.out.cell; (have tk_ := tape_Left2.calls _ _ _ _ _ _ hl_ hm_); rw [show wrap64 ((l0.length : Int) - (u' : Int)) = (M : Int) from by have := HU.out; have := NM.out; have := HL0.out; unfold wrap64; omega] at tk_; (with_reducible refine tk_.mono ?_); clear hl_ hm_ tk_; rintro e w11 ⟨rfl, hd⟩; have hb := hd.below; have BK11 := Aside0.mk (blk_below BK10.out hb); have HB11 := Aside0.mk (below_step HB10.out hb); have hk0 := (blk_cell BK11.out 0).trans rfl; have hk1 := (blk_cell BK11.out 1).trans rfl; clear T210 HB10 BK10 hb hd))
     go_ret
     exact ⟨rfl, uB⟩
theorem windbreaklaw05_PrimePairs.row (hp : windbreaklaw05_PrimePairs.Pure) (w : World) (A0 : Option Addr) (n0 c0 : Nat) (x0 : List Int) (h0 : (Kd.slice 5 (Kd.int .u8)).K w x0 [.slice A0 n0 c0]) (o0 : x0.length ≤ maxLen ∧ ∀ x ∈ x0, (Lit.int .u8 x).wf = true) (z : Int) (x1 : Int) (h1 : (Kd.int .i64).K w x1 [.int .i64 z]) (o1 : (Lit.int .i64 x1).wf = true) (m : Int) (x2 : Int) (h2 : (Kd.int .i64).K w x2 [.int .i64 m]) (o2 : (Lit.int .i64 x2).wf = true) :
    Calls Try.prog 3 #[.slice A0 n0 c0, .int .i64 z, .int .i64 m] w fun e w' => e = .returned (.bool true) ∧ Below w.heap.size w w' := by
  obtain ⟨B0, d0, e0, l0, r0⟩ := h0
  have e1 : [Value.int .i64 z] = [.int .i64 x1] := h1
  have e2 : [Value.int .i64 m] = [.int .i64 x2] := h2
  simp only [List.cons.injEq, Value.slice.injEq, Value.int.injEq, and_true, true_and] at e0 e1 e2
  obtain ⟨rfl, rfl, rfl⟩ := e0
  subst e1
  subst e2
  by_cases hL : x0.length ≤ 65536
  · obtain ⟨k, p, q, er, u', k1, k2, hu, h0⟩ := hp x0 z m hL o0.2 o1 o2
    exact windbreaklaw05_PrimePairs.calls A0 c0 x0 z m (min m 300) k p q er u' w r0 l0 hL (by omega) k1 k2 hu h0
  · exact windbreaklaw05_PrimePairs.long A0 c0 x0 z m w r0 l0 (by omega)
end Go.Proofs.Ytkgaejigpmkfkaa.F
end
