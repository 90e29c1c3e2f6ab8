/- Proved: the law MontAdds of layer 2: a power to a sum is the product of the powers; for every input, without a condition. -/
import Derived.Test.YtlkinjhmgljapaaMMontAddsb
section
namespace Go.Proofs.Ytlkinjhmgljapaa.F
open Go.RowKit Go.Proofs.YtlkinjhmgljapaaW.PrintWords Go.Proofs.YtlkinjhmgljapaaW.PrintLast Go.Proofs.YtlkinjhmgljapaaW.PrintMore
attribute [local go_sem] max2_int min2_int max_two min_two max_three min_three max_four min_four
set_option linter.unusedVariables false
set_option linter.unusedSimpArgs false
mutual
def nat_long.l0 : Nat → Int → List Int → List Int → Int → List Int → Int → Option (List Int × List Int)
 | 0, _, _, _, _, _, _ => none
 | k + 1, x6, x7, x8, x9, x10, x11 => if x11 ≥ 0 then (if 0 ≤ (wrap64 (x11 + x9)) then (if (wrap64 (x11 + x9)) < (x7.length : Int) then (if 0 ≤ (wrap64 ((wrap64 (x11 + x9)) - 1)) then (if (wrap64 ((wrap64 (x11 + x9)) - 1)) < (x7.length : Int) then (if 0 ≤ (wrap64 ((wrap64 (x11 + x9)) - 2)) then (if (wrap64 ((wrap64 (x11 + x9)) - 2)) < (x7.length : Int) then (if 0 ≤ (wrap64 (x9 - 1)) then (if (wrap64 (x9 - 1)) < (x8.length : Int) then (if 0 ≤ (wrap64 (x9 - 2)) then (if (wrap64 (x9 - 2)) < (x8.length : Int) then ((nat_guess.f k (rd x7 (wrap64 (x11 + x9))) (rd x7 (wrap64 ((wrap64 (x11 + x9)) - 1))) (rd x7 (wrap64 ((wrap64 (x11 + x9)) - 2))) (rd x8 (wrap64 (x9 - 1))) (rd x8 (wrap64 (x9 - 2)))).bind fun t188 => (if 0 ≤ x11 then (if x11 ≤ (wrap64 ((wrap64 (x11 + x9)) + 1)) then (if (wrap64 ((wrap64 (x11 + x9)) + 1)) ≤ (x7.length : Int) then (nat_long.l1 k x6 x7 x8 x9 x10 x11 t188 ((x7.take ((wrap64 ((wrap64 (x11 + x9)) + 1)) : Int).toNat).drop (x11 : Int).toNat)) else (none)) else (none)) else (none))) else (none)) else (none)) else (none)) else (none)) else (none)) else (none)) else (none)) else (none)) else (none)) else (none)) else ((nat_trim.f k x7).bind fun t211 => (if 0 ≤ (t211.length : Int) then (if ((t211.length : Int) : Int).toNat ≤ 35184372088832 then (nat_long.l2 k x6 x10 t211 (List.replicate ((t211.length : Int) : Int).toNat 0) (t211.length : Int) 0) else (none)) else (none)))
def nat_long.l1 : Nat → Int → List Int → List Int → Int → List Int → Int → Int → List Int → Option (List Int × List Int)
 | 0, _, _, _, _, _, _, _, _ => none
 | k + 1, x6, x7, x8, x9, x10, x11, x12, x13 => (nat_Of.f k x12).bind fun t193 => ((nat_school.f k x8 t193).bind fun t196 => ((api_Nat_uint64.f x13).bind fun t199 => ((nat_trim.f k t199).bind fun t202 => ((nat_compare.f k t202 t196).bind fun t205 => (if t205 ≥ 0 then ((nat_less.f k x13 t196).bind fun t206 => (if t206.length = x13.length then (if 0 ≤ x11 then (if x11 < (x10.length : Int) then (nat_long.l0 k x6 (x7.take (x11 : Int).toNat ++ (t206 ++ x7.drop ((x11 : Int).toNat + x13.length))) x8 x9 (x10.set (x11 : Int).toNat x12) (wrap64 (x11 - 1))) else (none)) else (none)) else (none))) else (nat_long.l1 k x6 x7 x8 x9 x10 x11 (IntKind.u64.wrap (x12 - 1)) x13))))))
def nat_long.l2 : Nat → Int → List Int → List Int → List Int → Int → Int → Option (List Int × List Int)
 | 0, _, _, _, _, _, _ => none
 | k + 1, x6, x10, x15, x16, x112, x113 => if x113 < x112 then (if 0 ≤ x113 then (if x113 < (x15.length : Int) then (if 0 ≤ x6 then (if x113 < (x16.length : Int) then ((some (x16.set (x113 : Int).toNat (shr .u64 (rd x15 x113) x6) : List Int)).bind fun y218 => (if x6 > 0 then (if (wrap64 (x113 + 1)) < (x15.length : Int) then (if 0 ≤ (wrap64 (x113 + 1)) then (if 0 ≤ (IntKind.u64.wrap (64 - x6)) then (nat_long.l2 k x6 x10 x15 (y218.set (x113 : Int).toNat (Go.bits .or .u64 (rd y218 x113) (shl .u64 (rd x15 (wrap64 (x113 + 1))) (IntKind.u64.wrap (64 - x6))))) x112 (wrap64 (x113 + 1))) else (none)) else (none)) else (nat_long.l2 k x6 x10 x15 y218 x112 (wrap64 (x113 + 1)))) else (nat_long.l2 k x6 x10 x15 y218 x112 (wrap64 (x113 + 1))))) else (none)) else (none)) else (none)) else (none)) else ((nat_trim.f k x10).bind fun t222 => ((nat_trim.f k x16).bind fun t225 => (some (t222, t225))))
end
def nat_long.f (k : Nat) (l0 : List Int) (l1 : List Int) : Option (List Int × List Int) := if 0 ≤ (wrap64 ((l1.length : Int) - 1)) then (if (wrap64 ((l1.length : Int) - 1)) < (l1.length : Int) then ((bits_LeadingZeros64.f k (rd l1 (wrap64 ((l1.length : Int) - 1)))).bind fun t170 => ((nat_up.f k l0 (IntKind.u64.wrap (t170))).bind fun t171 => ((nat_up.f k l1 (IntKind.u64.wrap (t170))).bind fun t174 => ((nat_trim.f k t174).bind fun t177 => (if 0 ≤ (wrap64 ((t171.length : Int) - (t177.length : Int))) then (if (wrap64 ((t171.length : Int) - (t177.length : Int)) : Int).toNat ≤ 35184372088832 then ((some (List.replicate (wrap64 ((t171.length : Int) - (t177.length : Int)) : Int).toNat 0 : List Int)).bind fun y180 => (nat_long.l0 k (IntKind.u64.wrap (t170)) t171 t177 (t177.length : Int) y180 (wrap64 ((y180.length : Int) - 1)))) else (none)) else (none)))))) else (none)) else (none)
def nat_long.T8 : Bool × List (List Nat × List Nat) := (true, [([], []), ([], []), ([], []), ([1, 2], [1, 2]), ([0, 3], [0, 3]), ([4], [4]), ([], []), ([], []), ([], []), ([7, 8], [7, 8]), ([9], [9]), ([6, 10], [6, 10]), ([11], [11]), ([], []), ([], []), ([], []), ([14, 15], [14, 15]), ([16], [16]), ([13, 17], [13, 17]), ([18], [18]), ([], []), ([], []), ([21], [21]), ([20, 22], [20, 22]), ([23], [23]), ([], []), ([], []), ([26], [26]), ([25, 27], [25, 27]), ([28], [28]), ([5, 12, 19, 24, 29], [5, 12, 19, 24, 29]), ([30, 30, 0, 1, 2, 3, 4, 5, 6, 7, 8, 9, 10, 11, 12, 13, 14, 15, 16, 17, 18, 19, 20, 21, 22, 23, 24, 25, 26, 27, 28, 29, 30], [30])])
def nat_long.B8 : List Nat := [0, 0, 0, 6, 15, 31, 0, 0, 0, 384, 896, 1984, 4032, 0, 0, 0, 49152, 114688, 253952, 516096, 0, 0, 2097152, 7340032, 15728640, 0, 0, 67108864, 234881024, 503316480, 1073741823, 2147483647]
theorem nat_long.tab8 : rtab .any (opsOf Try.f107 8) = nat_long.T8 := by kernel_rfl
theorem nat_long.bits8 : waitsOk nat_long.T8.2 nat_long.B8 = true := by kernel_rfl
def nat_long.T22 : Bool × List (List Nat × List Nat) := (true, [([], []), ([], []), ([0, 1], [0, 1]), ([2], [2]), ([], []), ([], []), ([5], [5]), ([4, 6], [4, 6]), ([7], [7]), ([], []), ([9], [9]), ([8, 10], [8, 10]), ([3, 11], [3, 11]), ([0, 1, 0, 1, 2, 3, 4, 5, 6, 7, 8, 9, 10, 11, 12], [0, 1]), ([13, 12, 0, 1, 2, 3, 4, 5, 6, 7, 8, 9, 10, 11, 12], [12, 13])])
def nat_long.B22 : List Nat := [0, 0, 3, 7, 0, 0, 32, 112, 240, 0, 512, 2032, 4095, 8191, 16383]
theorem nat_long.tab22 : rtab .any (opsOf Try.f107 22) = nat_long.T22 := by kernel_rfl
theorem nat_long.bits22 : waitsOk nat_long.T22.2 nat_long.B22 = true := by kernel_rfl
set_option maxHeartbeats 8000000 in
set_option maxRecDepth 100000 in
theorem nat_long.calls (k : Nat) (A0 : Option Addr) (c0 : Nat) (l0 : List Int) (A1 : Option Addr) (c1 : Nat) (l1 : List Int) (r1 : List Int) (r2 : List Int) (w : World) (hr0 : Kd.C (Kd.int .u64) w A0 l0.length l0) (hc0 : l0.length ≤ c0) (hr1 : Kd.C (Kd.int .u64) w A1 l1.length l1) (hc1 : l1.length ≤ c1) (h : nat_long.f k l0 l1 = some (r1, r2)) :
  Calls Try.prog 107 #[.slice A0 l0.length c0, .slice A1 l1.length c1] w fun e w' => ∃ v0_ v1_ : Value, e = .returned (.tuple #[v0_, v1_]) ∧ Kd.R (Kd.int .u64) 50 w' w.heap.size (fun k_ => some k_ ≠ (v1_ : Value).ownBlock) v0_ r1 ∧ Kd.R (Kd.int .u64) 50 w' w.heap.size (fun k_ => some k_ ≠ (v0_ : Value).ownBlock) v1_ r2 ∧ Below w.heap.size w w' := by
 have HR0 := Aside0.mk hr0; have HC0 := Aside0.mk hc0; clear hr0 hc0; have HR1 := Aside0.mk hr1; have HC1 := Aside0.mk hc1; clear hr1 hc1
 have HB := Aside0.mk (Below.refl w.heap.size w)
 have H : (if 0 ≤ (wrap64 ((l1.length : Int) - 1)) then (if (wrap64 ((l1.length : Int) - 1)) < (l1.length : Int) then ((bits_LeadingZeros64.f k (rd l1 (wrap64 ((l1.length : Int) - 1)))).bind fun t170 => ((nat_up.f k l0 (IntKind.u64.wrap (t170))).bind fun t171 => ((nat_up.f k l1 (IntKind.u64.wrap (t170))).bind fun t174 => ((nat_trim.f k t174).bind fun t177 => (if 0 ≤ (wrap64 ((t171.length : Int) - (t177.length : Int))) then (if (wrap64 ((t171.length : Int) - (t177.length : Int)) : Int).toNat ≤ 35184372088832 then ((some (List.replicate (wrap64 ((t171.length : Int) - (t177.length : Int)) : Int).toNat 0 : List Int)).bind fun y180 => (nat_long.l0 k (IntKind.u64.wrap (t170)) t171 t177 (t177.length : Int) y180 (wrap64 ((y180.length : Int) - 1)))) else (none)) else (none)))))) else (none)) else (none)) = some (r1, r2) := h
 clear h
 obtain ⟨ji3, hji3⟩ : ∃ j_ : Int, (wrap64 ((l1.length : Int) - 1)) = j_ := ⟨_, rfl⟩
 first | rw [hji3] at H | simp only [hji3] at H
 have hji3w : (IntKind.i64.wrap ((l1.length : Int) - 1)) = ji3 := (i64_w _).trans hji3
 replace H := uT H; obtain ⟨c4, H⟩ := H
 have c4b0 : decide (0 ≤ (ji3)) = true := decide_eq_true c4
 clear c4
 replace H := uT H; obtain ⟨c5, H⟩ := H
 have c5b0 : decide ((ji3) < (l1.length : Int)) = true := decide_eq_true c5
 clear c5
 replace H := ub H; obtain ⟨t170, A6, H⟩ := H
 replace H := ub H; obtain ⟨t171, A7, H⟩ := H
 replace H := ub H; obtain ⟨t174, A8, H⟩ := H
 replace H := ub H; obtain ⟨t177, A9, H⟩ := H
 obtain ⟨ji10, hji10⟩ : ∃ j_ : Int, (wrap64 ((t171.length : Int) - (t177.length : Int))) = j_ := ⟨_, rfl⟩
 first | rw [hji10] at H | simp only [hji10] at H
 (try rw [hji10] at A6)
 (try rw [hji10] at A7)
 (try rw [hji10] at A8)
 (try rw [hji10] at A9)
 have hji10w : (IntKind.i64.wrap ((t171.length : Int) - (t177.length : Int))) = ji10 := (i64_w _).trans hji10
 replace H := uT H; obtain ⟨c11, H⟩ := H
 have c11b0 := eq_true c11
 have c11b1 : decide (0 ≤ (ji10)) = true := decide_eq_true c11
 clear c11
 replace H := uT H; obtain ⟨c12, H⟩ := H
 have c12b0 := eq_true c12
 have c12b1 : decide ((ji10 : Int).toNat ≤ 35184372088832) = true := decide_eq_true c12
 clear c12
 obtain ⟨y180, hy180⟩ : ∃ y_ : List Int, y_ = (List.replicate (ji10 : Int).toNat 0) := ⟨_, rfl⟩
 replace H : (nat_long.l0 k (IntKind.u64.wrap (t170)) t171 t177 (t177.length : Int) y180 (wrap64 ((y180.length : Int) - 1))) = some (r1, r2) := by first | (rw [hy180]; with_reducible exact H) | (have H2_ := (Option.bind_some _ _).symm.trans H; rw [hy180]; with_reducible exact H2_) | (have H2_ := (Option.bind_some _ _).symm.trans H; with_reducible exact H2_) | with_reducible exact H | (rw [hy180]; exact H) | exact H
 have Ny180 := Aside0.mk hy180; clear hy180
 have H' := Aside0.mk H
 clear H
 have p169 : 0 ≤ ((ji3) : Int) := uO
 have q169 : (ji3) < (l1.length : Int) := uO
 obtain ⟨ad169, e169, hx169_0⟩ := Kd.at_int HR1.out (ji3) p169 q169
 cases e169
 replace p169 := eq_true p169
 replace q169 := eq_true q169
 go_enter Try.func107, Try.ntmps107
 go_wp2_with (first | ((with_reducible refine gate_callee (f := 123) rfl ?_); refine goesL_ (some 24) rfl rfl Try.func123 (by kernel_rfl) rfl #[.int .u64 (rd l1 (ji3))] rfl (by (try simp only [List.map_toArray, List.map_cons, List.map_nil]); first | done | (simp only [hji3]; rfl) | rfl | (simp only [List.length_drop, List.length_take]; rfl)) ?_; (with_reducible refine (bits_LeadingZeros64.calls k (rd l1 (ji3)) t170 _ A6.out).mono ?_); rintro e w' ⟨rfl, ⟨nd, rfl⟩⟩; refine ⟨_, rfl, ?_⟩) | ((with_reducible refine gate_callee (f := 117) rfl ?_); refine goesL_ (some 28) rfl rfl Try.func117 (by kernel_rfl) rfl #[.slice A0 l0.length c0, .int .u64 (IntKind.u64.wrap (t170))] rfl uM ?_; (with_reducible refine (nat_up.calls k _ _ l0 (IntKind.u64.wrap (t170)) t171 _ ?side1 ?side2 A7.out).mono ?_); (case side1 => exact uC HR0.out); (case side2 => exact HC0.out); rintro e w13 ⟨v172, rfl, ho0, hb⟩; refine ⟨_, rfl, ?_⟩; have HO173 := Aside0.mk (Kd.R_lower ho0 (below_size uB)); replace HB := uy hb; (try clear hb ho0)) | ((with_reducible refine gate_callee (f := 117) rfl ?_); refine goesL_ (some 31) rfl rfl Try.func117 (by kernel_rfl) rfl #[.slice (some ad169) l1.length c1, .int .u64 (IntKind.u64.wrap (t170))] rfl uM ?_; (with_reducible refine (nat_up.calls k _ _ l1 (IntKind.u64.wrap (t170)) t174 _ ?side1 ?side2 A8.out).mono ?_); (case side1 => exact uC (Kd.C_below HR1.out HB.out)); (case side2 => exact HC1.out); rintro e w14 ⟨v175, rfl, ho0, hb⟩; refine ⟨_, rfl, ?_⟩; have HO176 := Aside0.mk (Kd.R_lower (Kd.R_new' ho0 (Kd.R_lt (uR HO173.out))) (below_size uB)); replace HO173 := ueR HO173 ho0 hb; replace HB := uy hb; (try clear hb ho0); obtain ⟨Ao15, co15, eo15⟩ := Kd.R_slice HO176.out; subst eo15) | ((with_reducible refine gate_callee (f := 116) rfl ?_); refine goesL_ (some 32) rfl rfl Try.func116 (by kernel_rfl) rfl #[.slice Ao15 t174.length co15] rfl uM ?_; (with_reducible refine (nat_trim.calls k (fun k_ => some k_ = (.slice Ao15 t174.length co15 : Value).ownBlock) (.slice Ao15 t174.length co15) t174 t177 w _ ?side1 ?side2 A9.out).mono ?_); (case side1 => repeat (first | (with_reducible first | exact HB.out | apply below_alloc | apply pw_below_drewN | apply below_drew1) | exact HB.out)); (case side2 => exact Kd.R_tight rfl HO176.out); rintro e w16 ⟨v178, rfl, ho0, hb, hkp⟩; refine ⟨_, rfl, ?_⟩; have HO179 := Aside0.mk (Kd.R_mono (ok' := fun k_ => some k_ ≠ (v172 : Value).ownBlock) ho0 (fun k_ hk_ => Or.elim hk_ (fun hs_ => fun e_ => (((HO173.out).1 k_ e_.symm).2) hs_) (fun hn_ => (Kd.fresh' (Kd.R_lt (uR HO173.out)) k_ hn_)))); replace HO173 := Aside0.mk (Kd.R_mono (ok' := fun k_ => some k_ ≠ (v178 : Value).ownBlock) (Kd.R_keptB (HO173.out) hkp (fun k_ hk_ hs_ => (hk_.2) hs_)) (fun k_ hk_ => fun e_ => Or.elim (ho0.1 k_ e_.symm) (fun hs_ => hk_.2.1 hs_) (fun hn_ => Nat.not_le.2 hk_.2.2 hn_))); replace HB := Aside0.mk (hb); clear HO176; (try clear hb); (try clear hkp); (try clear ho0); obtain ⟨Ao17, co17, eo17⟩ := Kd.R_slice HO179.out; subst eo17; obtain ⟨Ao18, co18, eo18⟩ := Kd.R_slice HO173.out; subst eo18) | ((with_reducible refine gate_dst (N := 39) rfl ?_); (try (refine gate_guard (by rfl) ?_; dsimp only)); refine Kd.R_make (Kd.int .u64) _ 50 rfl (N := 39) rfl 23 _ _ rfl ji10 rfl rfl Try.underlying23 (.int .u64 0) 8 info50 rfl (by decide) (by omega) 0 (ok := fun _ => True) (okp := fun _ => True) rfl (fun _ hk => hk) trivial uO (Nat.le_trans (Nat.mul_le_mul_right _ (uO : ji10.toNat ≤ 35184372088832)) (by omega)) (Below.refl _ _) (Nat.le_refl _) ?_; intro v181 w19 ho20 hb hg_ hnew_; clear hg_ hnew_; (first | rw [← Ny180.out] at ho20 | (simp only [Int.reduceToNat] at ho20; rw [← Ny180.out] at ho20)); have HO182 := Aside0.mk (Kd.R_lower (Kd.R_new' (Kd.R_new' ho20 (Kd.R_lt (uR HO173.out))) (Kd.R_lt (uR HO179.out))) (below_size uB)); replace HO173 := ueR HO173 ho20 hb; replace HO179 := ueR HO179 ho20 hb; replace HB := uy hb; clear hb ho20; obtain ⟨Ao21, co21, eo21⟩ := Kd.R_slice HO182.out; subst eo21))
 go_loopg [11] k (fun kq v11 w' => ∃ (x7_1 : List Int) (x10_1 : List Int) (x11_1 : Int), v11 = .int .i64 x11_1 ∧ Aside0 (nat_long.l0 kq (IntKind.u64.wrap (t170)) x7_1 t177 (t177.length : Int) x10_1 x11_1 = some (r1, r2)) ∧ Aside0 (kq ≤ k) ∧ Aside0 (Kd.R (Kd.int .u64) 50 w' w.heap.size (fun k_ => some k_ ≠ ((.slice Ao17 t177.length co17) : Value).ownBlock ∧ some k_ ≠ ((.slice Ao21 y180.length co21) : Value).ownBlock) (.slice Ao18 t171.length co18) x7_1) ∧ Aside0 (Kd.R (Kd.int .u64) 50 w' w.heap.size (fun k_ => some k_ ≠ ((.slice Ao18 t171.length co18) : Value).ownBlock ∧ some k_ ≠ ((.slice Ao21 y180.length co21) : Value).ownBlock) (.slice Ao17 t177.length co17) t177) ∧ Aside0 (Kd.R (Kd.int .u64) 50 w' w.heap.size (fun k_ => some k_ ≠ ((.slice Ao18 t171.length co18) : Value).ownBlock ∧ some k_ ≠ ((.slice Ao17 t177.length co17) : Value).ownBlock) (.slice Ao21 y180.length co21) x10_1) ∧ Aside0 (Below w.heap.size w w'))
 case atStart => exact ⟨(t171), (y180), (wrap64 ((y180.length : Int) - 1)), uG, H', ⟨Nat.le_refl _⟩, ⟨uR HO173.out⟩, ⟨uR HO179.out⟩, ⟨by (with_reducible repeat (first | apply Kd.R_alloc | apply Kd.R_drewN | apply Kd.R_drew)); exact Kd.R_mono HO182.out (fun _ hk => ⟨hk.1.2, hk.2⟩)⟩, ⟨uB⟩⟩
 case round =>
  clear H'
  (try clear c1); (try clear p1); (try clear q1); (try clear hx1); (try clear p2); (try clear c4); (try clear c4b0); (try clear c5); (try clear c5b0); (try clear p6); (try clear c10); (try clear c11); (try clear c11b0); (try clear c11b1); (try clear c12); (try clear c12b0); (try clear c12b1); (try clear p16); (try clear q16); (try clear hx16); (try clear hx169_0); (try clear p169); (try clear q169)
  obtain ⟨x7_1, x10_1, x11_1, rfl, HA, HK1, HO_7, HO_8, HO_10, HB⟩ := hrel
  have hl7_1 := (Kd.R_reads' HO_7.out).1
  rw [hl7_1] at HO_7
  (try simp only [hl7_1])
  (try simp only [hl7_1] at HO_8)
  (try simp only [hl7_1] at HO_10)
  have hl10_1 := (Kd.R_reads' HO_10.out).1
  rw [hl10_1] at HO_10
  (try simp only [hl10_1])
  (try simp only [hl10_1] at HO_7)
  (try simp only [hl10_1] at HO_8)
  cases gk with
  | zero => exact absurd HA.out (by simp [nat_long.l0])
  | succ k1 =>
   have H := HA.out
   clear HA
   simp only [nat_long.l0] at H
   by_cases c22 : x11_1 ≥ 0
   ·
    rw [if_pos c22] at H
    have c22b0 : decide (0 ≤ x11_1) = true := decide_eq_true c22
    clear c22
    obtain ⟨ji23, hji23⟩ : ∃ j_ : Int, (wrap64 (x11_1 + (t177.length : Int))) = j_ := ⟨_, rfl⟩
    first | rw [hji23] at H | simp only [hji23] at H
    have hji23w : (IntKind.i64.wrap (x11_1 + (t177.length : Int))) = ji23 := (i64_w _).trans hji23
    replace H := uT H; obtain ⟨c24, H⟩ := H
    have c24b0 : decide (0 ≤ (ji23)) = true := decide_eq_true c24
    clear c24
    replace H := uT H; obtain ⟨c25, H⟩ := H
    have c25b0 : decide ((ji23) < (x7_1.length : Int)) = true := decide_eq_true c25
    (try (have c25b0h0 := c25b0; simp only [hl7_1] at c25b0h0))
    (try (have c25b0h1 := c25b0; simp only [hl10_1] at c25b0h1))
    clear c25
    obtain ⟨ji26, hji26⟩ : ∃ j_ : Int, (wrap64 ((ji23) - 1)) = j_ := ⟨_, rfl⟩
    first | rw [hji26] at H | simp only [hji26] at H
    have hji26w : (IntKind.i64.wrap ((ji23) - 1)) = ji26 := (i64_w _).trans hji26
    replace H := uT H; obtain ⟨c27, H⟩ := H
    have c27b0 : decide (0 ≤ (ji26)) = true := decide_eq_true c27
    clear c27
    replace H := uT H; obtain ⟨c28, H⟩ := H
    have c28b0 : decide ((ji26) < (x7_1.length : Int)) = true := decide_eq_true c28
    (try (have c28b0h0 := c28b0; simp only [hl7_1] at c28b0h0))
    (try (have c28b0h1 := c28b0; simp only [hl10_1] at c28b0h1))
    clear c28
    obtain ⟨ji29, hji29⟩ : ∃ j_ : Int, (wrap64 ((ji23) - 2)) = j_ := ⟨_, rfl⟩
    first | rw [hji29] at H | simp only [hji29] at H
    have hji29w : (IntKind.i64.wrap ((ji23) - 2)) = ji29 := (i64_w _).trans hji29
    replace H := uT H; obtain ⟨c30, H⟩ := H
    have c30b0 : decide (0 ≤ (ji29)) = true := decide_eq_true c30
    clear c30
    replace H := uT H; obtain ⟨c31, H⟩ := H
    have c31b0 : decide ((ji29) < (x7_1.length : Int)) = true := decide_eq_true c31
    (try (have c31b0h0 := c31b0; simp only [hl7_1] at c31b0h0))
    (try (have c31b0h1 := c31b0; simp only [hl10_1] at c31b0h1))
    clear c31
    obtain ⟨ji32, hji32⟩ : ∃ j_ : Int, (wrap64 ((t177.length : Int) - 1)) = j_ := ⟨_, rfl⟩
    first | rw [hji32] at H | simp only [hji32] at H
    have hji32w : (IntKind.i64.wrap ((t177.length : Int) - 1)) = ji32 := (i64_w _).trans hji32
    replace H := uT H; obtain ⟨c33, H⟩ := H
    have c33b0 : decide (0 ≤ (ji32)) = true := decide_eq_true c33
    clear c33
    replace H := uT H; obtain ⟨c34, H⟩ := H
    have c34b0 : decide ((ji32) < (t177.length : Int)) = true := decide_eq_true c34
    (try (have c34b0h0 := c34b0; simp only [hl7_1] at c34b0h0))
    (try (have c34b0h1 := c34b0; simp only [hl10_1] at c34b0h1))
    clear c34
    obtain ⟨ji35, hji35⟩ : ∃ j_ : Int, (wrap64 ((t177.length : Int) - 2)) = j_ := ⟨_, rfl⟩
    first | rw [hji35] at H | simp only [hji35] at H
    have hji35w : (IntKind.i64.wrap ((t177.length : Int) - 2)) = ji35 := (i64_w _).trans hji35
    replace H := uT H; obtain ⟨c36, H⟩ := H
    have c36b0 : decide (0 ≤ (ji35)) = true := decide_eq_true c36
    clear c36
    replace H := uT H; obtain ⟨c37, H⟩ := H
    have c37b0 : decide ((ji35) < (t177.length : Int)) = true := decide_eq_true c37
    (try (have c37b0h0 := c37b0; simp only [hl7_1] at c37b0h0))
    (try (have c37b0h1 := c37b0; simp only [hl10_1] at c37b0h1))
    clear c37
    replace H := ub H; obtain ⟨t188, A38, H⟩ := H
    replace H := uT H; obtain ⟨c39, H⟩ := H
    have c39b0 := eq_true c39
    have c39b1 : decide (0 ≤ x11_1) = true := decide_eq_true c39
    clear c39
    replace H := uT H; obtain ⟨c40, H⟩ := H
    have c40b0 := eq_true c40
    have c40b1 : decide (x11_1 ≤ (wrap64 ((ji23) + 1))) = true := decide_eq_true c40
    replace H := uT H; obtain ⟨c41, H⟩ := H
    have c41b0 := eq_true c41
    have c41b1 : decide ((wrap64 ((ji23) + 1)) ≤ (x7_1.length : Int)) = true := decide_eq_true c41
    obtain ⟨y189, hy189⟩ : ∃ y_ : List Int, y_ = ((x7_1.take ((wrap64 ((ji23) + 1)) : Int).toNat).drop (x11_1 : Int).toNat) := ⟨_, rfl⟩
    replace H : (nat_long.l1 k1 (IntKind.u64.wrap (t170)) x7_1 t177 (t177.length : Int) x10_1 x11_1 t188 y189) = some (r1, r2) := by first | (rw [hy189]; with_reducible exact H) | (have H2_ := (Option.bind_some _ _).symm.trans H; rw [hy189]; with_reducible exact H2_) | (have H2_ := (Option.bind_some _ _).symm.trans H; with_reducible exact H2_) | with_reducible exact H | (rw [hy189]; exact H) | exact H
    have Ny189 := Aside0.mk hy189; clear hy189
    have H' := Aside0.mk H
    clear H
    try go_wp2
    replace HO_7 := Aside0.mk (Kd.R_drew HO_7.out); replace HO_8 := Aside0.mk (Kd.R_drew HO_8.out); replace HO_10 := Aside0.mk (Kd.R_drew HO_10.out); replace HB := Aside0.mk (below_drew1 HB.out)
    have p183 : 0 ≤ ((ji23) : Int) := uO
    have q183 : (ji23) < (x7_1.length : Int) := uO
    obtain ⟨ad183, e183, hx183_0⟩ := Kd.at_int (Kd.R_reads' HO_7.out).2.2 (ji23) p183 q183
    cases e183
    replace p183 := eq_true p183
    replace q183 := eq_true q183
    have p184 : 0 ≤ ((ji26) : Int) := uO
    have q184 : (ji26) < (x7_1.length : Int) := uO
    obtain ⟨ad184, e184, hx184_0⟩ := Kd.at_int (Kd.R_reads' HO_7.out).2.2 (ji26) p184 q184
    obtain rfl : ad183 = ad184 := (by injection e184)
    replace p184 := eq_true p184
    replace q184 := eq_true q184
    have p185 : 0 ≤ ((ji29) : Int) := uO
    have q185 : (ji29) < (x7_1.length : Int) := uO
    obtain ⟨ad185, e185, hx185_0⟩ := Kd.at_int (Kd.R_reads' HO_7.out).2.2 (ji29) p185 q185
    obtain rfl : ad183 = ad185 := (by injection e185)
    replace p185 := eq_true p185
    replace q185 := eq_true q185
    have p186 : 0 ≤ ((ji32) : Int) := uO
    have q186 : (ji32) < (t177.length : Int) := uO
    obtain ⟨ad186, e186, hx186_0⟩ := Kd.at_int (Kd.R_reads' HO_8.out).2.2 (ji32) p186 q186
    cases e186
    replace p186 := eq_true p186
    replace q186 := eq_true q186
    have p187 : 0 ≤ ((ji35) : Int) := uO
    have q187 : (ji35) < (t177.length : Int) := uO
    obtain ⟨ad187, e187, hx187_0⟩ := Kd.at_int (Kd.R_reads' HO_8.out).2.2 (ji35) p187 q187
    obtain rfl : ad186 = ad187 := (by injection e187)
    replace p187 := eq_true p187
    replace q187 := eq_true q187
    refine start_ (n := 32) (S := fun w' => w'.cell? (ad183.add ((ji23)).toNat) = some (.int .u64 (rd x7_1 (ji23))) ∧ w'.cell? (ad183.add ((ji26)).toNat) = some (.int .u64 (rd x7_1 (ji26))) ∧ w'.cell? (ad183.add ((ji29)).toNat) = some (.int .u64 (rd x7_1 (ji29))) ∧ w'.cell? (ad186.add ((ji32)).toNat) = some (.int .u64 (rd t177 (ji32))) ∧ w'.cell? (ad186.add ((ji35)).toNat) = some (.int .u64 (rd t177 (ji35)))) (ds := []) #[false,false,false,false,false,false,false,false,false,false,false,false,false,false,false,false,false,false,false,false,false,false,false,false,false,false,false,false,false,false,false,false] (by kernel_rfl) rfl rfl ⟨hx183_0, hx184_0, hx185_0, hx186_0, hx187_0⟩ (fun hHeld => ?_); refine with_tabW nat_long.tab8 nat_long.bits8 (fun HT_ HW_ => ?_)
    generalize wr.drew = w42 at HO_7 HO_8 HO_10 HB hx183_0 hx184_0 hx185_0 hx186_0 hx187_0 hHeld ⊢
    refine pure_ (i := 0) (N := some 47) (v := ?_) (a' := ?_) #[true,false,false,false,false,false,false,false,false,false,false,false,false,false,false,false,false,false,false,false,false,false,false,false,false,false,false,false,false,false,false,false] rfl rfl (any_of HT_.out (by kernel_rfl)) (fun _ _ _ h => h) (Or.inl ⟨by rfl, ?_⟩) ?_ ?_
    rotate_left
    ·
     intro w'
     go_simp
     with_reducible rfl
    rotate_left
    · exact uQ
    refine pure_ (i := 1) (N := some 48) (v := ?_) (a' := ?_) #[true,true,false,false,false,false,false,false,false,false,false,false,false,false,false,false,false,false,false,false,false,false,false,false,false,false,false,false,false,false,false,false] rfl rfl (any_of HT_.out (by kernel_rfl)) (fun _ _ _ h => h) (Or.inl ⟨by rfl, ?_⟩) ?_ ?_
    rotate_left
    ·
     intro w'
     go_simp
     with_reducible rfl
    rotate_left
    · exact uQ
    refine pure_ (i := 2) (N := some 49) (v := ?_) (a' := ?_) #[true,true,true,false,false,false,false,false,false,false,false,false,false,false,false,false,false,false,false,false,false,false,false,false,false,false,false,false,false,false,false,false] rfl rfl (any_of HT_.out (by kernel_rfl)) (fun _ _ _ h => h) (Or.inl ⟨by rfl, ?_⟩) ?_ ?_
    rotate_left
    ·
     intro w'
     go_simp
     with_reducible rfl
    rotate_left
    · exact uQ
    refine pure_ (i := 3) (N := some 50) (v := ?_) (a' := ?_) #[true,true,true,true,false,false,false,false,false,false,false,false,false,false,false,false,false,false,false,false,false,false,false,false,false,false,false,false,false,false,false,false] rfl rfl (any_of HT_.out (by kernel_rfl)) (fun _ _ _ h => h) (Or.inl ⟨by rfl, ?_⟩) ?_ ?_
    rotate_left
    ·
     intro w'
     go_simp
     with_reducible rfl
    rotate_left
    · exact uQ
    refine pure_ (i := 4) (N := some 51) (v := ?_) (a' := ?_) #[true,true,true,true,true,false,false,false,false,false,false,false,false,false,false,false,false,false,false,false,false,false,false,false,false,false,false,false,false,false,false,false] rfl rfl (any_of HT_.out (by kernel_rfl)) (fun _ _ _ h => h) (Or.inl ⟨by rfl, ?_⟩) ?_ ?_
    rotate_left
    ·
     intro w'
     go_simp
     with_reducible rfl
    rotate_left
    · exact uQ
    refine pure_ (i := 6) (N := some 53) (v := ?_) (a' := ?_) #[true,true,true,true,true,false,true,false,false,false,false,false,false,false,false,false,false,false,false,false,false,false,false,false,false,false,false,false,false,false,false,false] rfl rfl (any_of HT_.out (by kernel_rfl)) (fun _ _ _ h => h) (Or.inl ⟨by rfl, ?_⟩) ?_ ?_
    rotate_left
    ·
     intro w'
     go_simp
     with_reducible rfl
    rotate_left
    · exact uQ
    refine pure_ (i := 7) (N := some 54) (v := ?_) (a' := ?_) #[true,true,true,true,true,false,true,true,false,false,false,false,false,false,false,false,false,false,false,false,false,false,false,false,false,false,false,false,false,false,false,false] rfl rfl (any_of HT_.out (by kernel_rfl)) (fun _ _ _ h => h) (Or.inl ⟨by rfl, ?_⟩) ?_ ?_
    rotate_left
    ·
     intro w'
     go_simp
     with_reducible rfl
    rotate_left
    · exact uQ
    refine pure_ (i := 8) (N := some 55) (v := ?_) (a' := ?_) #[true,true,true,true,true,false,true,true,true,false,false,false,false,false,false,false,false,false,false,false,false,false,false,false,false,false,false,false,false,false,false,false] rfl rfl (any_of HT_.out (by kernel_rfl)) (fun _ _ _ h => h) (Or.inl ⟨by rfl, ?_⟩) ?_ ?_
    rotate_left
    ·
     intro w'
     go_simp
     with_reducible rfl
    rotate_left
    · exact uQ
    refine pure_ (i := 9) (N := some 56) (v := ?_) (a' := ?_) #[true,true,true,true,true,false,true,true,true,true,false,false,false,false,false,false,false,false,false,false,false,false,false,false,false,false,false,false,false,false,false,false] rfl rfl (any_of HT_.out (by kernel_rfl)) (fun _ _ _ h => h) (Or.inl ⟨by rfl, ?_⟩) ?_ ?_
    rotate_left
    ·
     intro w'
     go_simp
     with_reducible rfl
    rotate_left
    · exact uQ
    refine pure_ (i := 10) (N := some 57) (v := ?_) (a' := ?_) #[true,true,true,true,true,false,true,true,true,true,true,false,false,false,false,false,false,false,false,false,false,false,false,false,false,false,false,false,false,false,false,false] rfl rfl (any_of HT_.out (by kernel_rfl)) (fun _ _ _ h => h) (Or.inl ⟨by rfl, ?_⟩) ?_ ?_
    rotate_left
    ·
     intro w'
     go_simp
     with_reducible rfl
    rotate_left
    · exact uQ
    refine pure_ (i := 11) (N := some 58) (v := ?_) (a' := ?_) #[true,true,true,true,true,false,true,true,true,true,true,true,false,false,false,false,false,false,false,false,false,false,false,false,false,false,false,false,false,false,false,false] rfl rfl (any_of HT_.out (by kernel_rfl)) (fun _ _ _ h => h) (Or.inl ⟨by rfl, ?_⟩) ?_ ?_
    rotate_left
    ·
     intro w'
     go_simp
     with_reducible rfl
    rotate_left
    · exact uQ
    refine pure_ (i := 13) (N := some 60) (v := ?_) (a' := ?_) #[true,true,true,true,true,false,true,true,true,true,true,true,false,true,false,false,false,false,false,false,false,false,false,false,false,false,false,false,false,false,false,false] rfl rfl (any_of HT_.out (by kernel_rfl)) (fun _ _ _ h => h) (Or.inl ⟨by rfl, ?_⟩) ?_ ?_
    rotate_left
    ·
     intro w'
     go_simp
     with_reducible rfl
    rotate_left
    · exact uQ
    refine pure_ (i := 14) (N := some 61) (v := ?_) (a' := ?_) #[true,true,true,true,true,false,true,true,true,true,true,true,false,true,true,false,false,false,false,false,false,false,false,false,false,false,false,false,false,false,false,false] rfl rfl (any_of HT_.out (by kernel_rfl)) (fun _ _ _ h => h) (Or.inl ⟨by rfl, ?_⟩) ?_ ?_
    rotate_left
    ·
     intro w'
     go_simp
     with_reducible rfl
    rotate_left
    · exact uQ
    refine pure_ (i := 15) (N := some 62) (v := ?_) (a' := ?_) #[true,true,true,true,true,false,true,true,true,true,true,true,false,true,true,true,false,false,false,false,false,false,false,false,false,false,false,false,false,false,false,false] rfl rfl (any_of HT_.out (by kernel_rfl)) (fun _ _ _ h => h) (Or.inl ⟨by rfl, ?_⟩) ?_ ?_
    rotate_left
    ·
     intro w'
     go_simp
     with_reducible rfl
    rotate_left
    · exact uQ
    refine pure_ (i := 16) (N := some 63) (v := ?_) (a' := ?_) #[true,true,true,true,true,false,true,true,true,true,true,true,false,true,true,true,true,false,false,false,false,false,false,false,false,false,false,false,false,false,false,false] rfl rfl (any_of HT_.out (by kernel_rfl)) (fun _ _ _ h => h) (Or.inl ⟨by rfl, ?_⟩) ?_ ?_
    rotate_left
    ·
     intro w'
     go_simp
     with_reducible rfl
    rotate_left
    · exact uQ
    refine pure_ (i := 17) (N := some 64) (v := ?_) (a' := ?_) #[true,true,true,true,true,false,true,true,true,true,true,true,false,true,true,true,true,true,false,false,false,false,false,false,false,false,false,false,false,false,false,false] rfl rfl (any_of HT_.out (by kernel_rfl)) (fun _ _ _ h => h) (Or.inl ⟨by rfl, ?_⟩) ?_ ?_
    rotate_left
    ·
     intro w'
     go_simp
     with_reducible rfl
    rotate_left
    · exact uQ
    refine pure_ (i := 18) (N := some 65) (v := ?_) (a' := ?_) #[true,true,true,true,true,false,true,true,true,true,true,true,false,true,true,true,true,true,true,false,false,false,false,false,false,false,false,false,false,false,false,false] rfl rfl (any_of HT_.out (by kernel_rfl)) (fun _ _ _ h => h) (Or.inl ⟨by rfl, ?_⟩) ?_ ?_
    rotate_left
    ·
     intro w'
     go_simp
     with_reducible rfl
    rotate_left
    · exact uQ
    refine pure_ (i := 20) (N := some 67) (v := ?_) (a' := ?_) #[true,true,true,true,true,false,true,true,true,true,true,true,false,true,true,true,true,true,true,false,true,false,false,false,false,false,false,false,false,false,false,false] rfl rfl (any_of HT_.out (by kernel_rfl)) (fun _ _ _ h => h) (Or.inl ⟨by rfl, ?_⟩) ?_ ?_
    rotate_left
    ·
     intro w'
     go_simp
     with_reducible rfl
    rotate_left
    · exact uQ
    refine pure_ (i := 21) (N := some 68) (v := ?_) (a' := ?_) #[true,true,true,true,true,false,true,true,true,true,true,true,false,true,true,true,true,true,true,false,true,true,false,false,false,false,false,false,false,false,false,false] rfl rfl (any_of HT_.out (by kernel_rfl)) (fun _ _ _ h => h) (Or.inl ⟨by rfl, ?_⟩) ?_ ?_
    rotate_left
    ·
     intro w'
     go_simp
     with_reducible rfl
    rotate_left
    · exact uQ
    refine pure_ (i := 22) (N := some 69) (v := ?_) (a' := ?_) #[true,true,true,true,true,false,true,true,true,true,true,true,false,true,true,true,true,true,true,false,true,true,true,false,false,false,false,false,false,false,false,false] rfl rfl (any_of HT_.out (by kernel_rfl)) (fun _ _ _ h => h) (Or.inl ⟨by rfl, ?_⟩) ?_ ?_
    rotate_left
    ·
     intro w'
     go_simp
     with_reducible rfl
    rotate_left
    · exact uQ
    refine pure_ (i := 23) (N := some 70) (v := ?_) (a' := ?_) #[true,true,true,true,true,false,true,true,true,true,true,true,false,true,true,true,true,true,true,false,true,true,true,true,false,false,false,false,false,false,false,false] rfl rfl (any_of HT_.out (by kernel_rfl)) (fun _ _ _ h => h) (Or.inl ⟨by rfl, ?_⟩) ?_ ?_
    rotate_left
    ·
     intro w'
     go_simp
     with_reducible rfl
    rotate_left
    · exact uQ
    refine pure_ (i := 25) (N := some 72) (v := ?_) (a' := ?_) #[true,true,true,true,true,false,true,true,true,true,true,true,false,true,true,true,true,true,true,false,true,true,true,true,false,true,false,false,false,false,false,false] rfl rfl (any_of HT_.out (by kernel_rfl)) (fun _ _ _ h => h) (Or.inl ⟨by rfl, ?_⟩) ?_ ?_
    rotate_left
    ·
     intro w'
     go_simp
     with_reducible rfl
    rotate_left
    · exact uQ
    refine pure_ (i := 26) (N := some 73) (v := ?_) (a' := ?_) #[true,true,true,true,true,false,true,true,true,true,true,true,false,true,true,true,true,true,true,false,true,true,true,true,false,true,true,false,false,false,false,false] rfl rfl (any_of HT_.out (by kernel_rfl)) (fun _ _ _ h => h) (Or.inl ⟨by rfl, ?_⟩) ?_ ?_
    rotate_left
    ·
     intro w'
     go_simp
     with_reducible rfl
    rotate_left
    · exact uQ
    refine pure_ (i := 27) (N := some 74) (v := ?_) (a' := ?_) #[true,true,true,true,true,false,true,true,true,true,true,true,false,true,true,true,true,true,true,false,true,true,true,true,false,true,true,true,false,false,false,false] rfl rfl (any_of HT_.out (by kernel_rfl)) (fun _ _ _ h => h) (Or.inl ⟨by rfl, ?_⟩) ?_ ?_
    rotate_left
    ·
     intro w'
     go_simp
     with_reducible rfl
    rotate_left
    · exact uQ
    refine pure_ (i := 28) (N := some 75) (v := ?_) (a' := ?_) #[true,true,true,true,true,false,true,true,true,true,true,true,false,true,true,true,true,true,true,false,true,true,true,true,false,true,true,true,true,false,false,false] rfl rfl (any_of HT_.out (by kernel_rfl)) (fun _ _ _ h => h) (Or.inl ⟨by rfl, ?_⟩) ?_ ?_
    rotate_left
    ·
     intro w'
     go_simp
     with_reducible rfl
    rotate_left
    · exact uQ
    refine take_ (i := 5) (N := some 52) (v := ?_) (a' := ?_) #[true,true,true,true,true,true,true,true,true,true,true,true,false,true,true,true,true,true,true,false,true,true,true,true,false,true,true,true,true,false,false,false] rfl rfl (take_ofW HT_.out HW_.out (by kernel_rfl)) (fun _ _ _ h => h) (Or.inl ⟨by rfl, ?_⟩) hHeld ?_ ?_
    rotate_left
    ·
     rintro w' ⟨s0, s1, s2, s3, s4⟩
     go_simp
     with_reducible rfl
    rotate_left
    · exact uQ
    refine take_ (i := 12) (N := some 59) (v := ?_) (a' := ?_) #[true,true,true,true,true,true,true,true,true,true,true,true,true,true,true,true,true,true,true,false,true,true,true,true,false,true,true,true,true,false,false,false] rfl rfl (take_ofW HT_.out HW_.out (by kernel_rfl)) (fun _ _ _ h => h) (Or.inl ⟨by rfl, ?_⟩) hHeld ?_ ?_
    rotate_left
    ·
     rintro w' ⟨s0, s1, s2, s3, s4⟩
     go_simp
     with_reducible rfl
    rotate_left
    · exact uQ
    refine take_ (i := 19) (N := some 66) (v := ?_) (a' := ?_) #[true,true,true,true,true,true,true,true,true,true,true,true,true,true,true,true,true,true,true,true,true,true,true,true,false,true,true,true,true,false,false,false] rfl rfl (take_ofW HT_.out HW_.out (by kernel_rfl)) (fun _ _ _ h => h) (Or.inl ⟨by rfl, ?_⟩) hHeld ?_ ?_
    rotate_left
    ·
     rintro w' ⟨s0, s1, s2, s3, s4⟩
     go_simp
     with_reducible rfl
    rotate_left
    · exact uQ
    refine take_ (i := 24) (N := some 71) (v := ?_) (a' := ?_) #[true,true,true,true,true,true,true,true,true,true,true,true,true,true,true,true,true,true,true,true,true,true,true,true,true,true,true,true,true,false,false,false] rfl rfl (take_ofW HT_.out HW_.out (by kernel_rfl)) (fun _ _ _ h => h) (Or.inl ⟨by rfl, ?_⟩) hHeld ?_ ?_
    rotate_left
    ·
     rintro w' ⟨s0, s1, s2, s3, s4⟩
     go_simp
     with_reducible rfl
    rotate_left
    · exact uQ
    refine take_ (i := 29) (N := some 76) (v := ?_) (a' := ?_) #[true,true,true,true,true,true,true,true,true,true,true,true,true,true,true,true,true,true,true,true,true,true,true,true,true,true,true,true,true,true,false,false] rfl rfl (take_ofW HT_.out HW_.out (by kernel_rfl)) (fun _ _ _ h => h) (Or.inl ⟨by rfl, ?_⟩) hHeld ?_ ?_
    rotate_left
    ·
     rintro w' ⟨s0, s1, s2, s3, s4⟩
     go_simp
     with_reducible rfl
    rotate_left
    · exact uQ
    refine one_ (i := 30) (N := some 77) #[true,true,true,true,true,true,true,true,true,true,true,true,true,true,true,true,true,true,true,true,true,true,true,true,true,true,true,true,true,true,true,false] rfl rfl (one_of HT_.out (by kernel_rfl)) (by decide) (fun K hK => ?_)
    refine goes_ Try.func124 (by kernel_rfl) rfl #[.int .u64 (rd x7_1 (ji23)), .int .u64 (rd x7_1 (ji26)), .int .u64 (rd x7_1 (ji29)), .int .u64 (rd t177 (ji32)), .int .u64 (rd t177 (ji35))] (by rfl) rfl rfl (by (try simp only [List.map_toArray, List.map_cons, List.map_nil]); first | done | (simp only [hji23, hji26, hji29, hji32, hji35]; rfl) | rfl | (simp only [List.length_drop, List.length_take]; rfl)) ?_
    with_reducible refine (nat_guess.calls k1 (rd x7_1 (ji23)) (rd x7_1 (ji26)) (rd x7_1 (ji29)) (rd t177 (ji32)) (rd t177 (ji35)) t188 _ A38.out).mono ?_
    rintro e w' ⟨rfl, ⟨nd, rfl⟩⟩
    refine ⟨_, rfl, ?_⟩; refine hK.out _ _ ⟨hHeld.1, hHeld.2.1, hHeld.2.2.1, hHeld.2.2.2.1, hHeld.2.2.2.2⟩ (fun hHeld => ?_); clear hK K; refine norm_ (a' := ?_) ?_ ?_; rotate_left
    · exact (show Act.put _ (some 77) _ = _ from uQ)
    refine pure_ (i := 31) (N := some 12) (v := ?_) (a' := ?_) #[true,true,true,true,true,true,true,true,true,true,true,true,true,true,true,true,true,true,true,true,true,true,true,true,true,true,true,true,true,true,true,true] rfl rfl (any_of HT_.out (by kernel_rfl)) (fun _ _ _ h => h) (Or.inl ⟨by rfl, ?_⟩) ?_ ?_
    rotate_left
    ·
     intro w'
     go_simp
     with_reducible rfl
    rotate_left
    · exact uQ
    refine done_ (done_of HT_.out (by kernel_rfl)) ?_
    have q43 : ((wrap64 ((ji23) + 1)) : Int) ≤ ((x7_1.length : Int) : Int) := uO
    obtain ⟨i043, hi043, _, hsz43, _⟩ := info_parts info50
    have hroom43 : x7_1.length ≤ co18 := (Kd.R_reads' HO_7.out).2.1
    have hC43 : Kd.C (Kd.int .u64) _ (some ad183) x7_1.length x7_1 := (Kd.R_reads' HO_7.out).2.2
    have ql43 : (x11_1 : Int) ≤ ((wrap64 ((ji23) + 1)) : Int) := uO
    have q043 : (0 : Int) ≤ (x11_1 : Int) := uO
    have hcut43 := cut_mid (P := Try.prog) 23 50 .i64 .i64 Try.underlying23 hi043 1 hsz43 (some ad183) x7_1.length co18 x11_1 (wrap64 ((ji23) + 1)) q043 ql43 q43 hroom43
    have hr43 := Kd.C_mid (lo := (x11_1 : Int).toNat) (hi := ((wrap64 ((ji23) + 1)) : Int).toNat) (c := co18) hC43 (by omega) (by omega) hroom43
    obtain ⟨A43, hA43⟩ : ∃ A1, A1 = (if co18 = (x11_1 : Int).toNat then (some ad183) else ((some ad183) : Option Addr).map (·.add ((x11_1 : Int).toNat * 1))) := ⟨_, rfl⟩
    obtain ⟨c43, hc43⟩ : ∃ c1, c1 = co18 - (x11_1 : Int).toNat := ⟨_, rfl⟩
    have hy43 : y189.length = ((wrap64 ((ji23) + 1)) : Int).toNat - (x11_1 : Int).toNat := (by rw [Ny189.out, List.length_drop, List.length_take] <;> omega)
    rw [show ((x7_1).take ((wrap64 ((ji23) + 1)) : Int).toNat).drop (x11_1 : Int).toNat = y189 from Ny189.out.symm] at hr43
    replace hr43 : Kd.C (Kd.int .u64) _ A43 y189.length y189 := (by rw [hA43]; exact hr43)
    rw [← hy43, ← hA43, ← hc43] at hcut43
    have HR192 := Aside0.mk hr43
    have HC192 := Aside0.mk (show y189.length ≤ c43 from by rw [hy43, hc43]; exact Nat.sub_le_sub_right (Nat.le_trans (by omega) hroom43) _)
    clear hr43 hC43 hroom43 hi043 hsz43 hc43; have KY43 := Aside0.mk hy43; have KA43 := Aside0.mk hA43; clear hy43 hA43
    have KL43 := Aside0.mk (show ((wrap64 ((ji23) + 1)) : Int).toNat ≤ x7_1.length from by omega)
    have KM43 := Aside0.mk (show (x11_1 : Int).toNat ≤ ((wrap64 ((ji23) + 1)) : Int).toNat from by omega)
    replace q43 := eq_true q43
    try go_wp2
    go_loopg [12] k1 (fun kq v12 w' => ∃ (x12_2 : Int), v12 = .int .u64 x12_2 ∧ Aside0 (nat_long.l1 kq (IntKind.u64.wrap (t170)) x7_1 t177 (t177.length : Int) x10_1 x11_1 x12_2 y189 = some (r1, r2)) ∧ Aside0 (kq ≤ k1) ∧ Aside0 (Kd.R (Kd.int .u64) 50 w' w.heap.size (fun k_ => some k_ ≠ ((.slice (some ad186) t177.length co17) : Value).ownBlock ∧ some k_ ≠ ((.slice Ao21 x10_1.length co21) : Value).ownBlock) (.slice (some ad183) x7_1.length co18) x7_1) ∧ Aside0 (Kd.R (Kd.int .u64) 50 w' w.heap.size (fun k_ => some k_ ≠ ((.slice (some ad183) x7_1.length co18) : Value).ownBlock ∧ some k_ ≠ ((.slice Ao21 x10_1.length co21) : Value).ownBlock) (.slice (some ad186) t177.length co17) t177) ∧ Aside0 (Kd.R (Kd.int .u64) 50 w' w.heap.size (fun k_ => some k_ ≠ ((.slice (some ad183) x7_1.length co18) : Value).ownBlock ∧ some k_ ≠ ((.slice (some ad186) t177.length co17) : Value).ownBlock) (.slice Ao21 x10_1.length co21) x10_1) ∧ Aside0 (Kd.C (Kd.int .u64) w' A43 y189.length y189) ∧ Aside0 (Below w.heap.size w w'))
    case atStart => exact ⟨(t188), uG, H', ⟨Nat.le_refl _⟩, ⟨by (try simp only [hl7_1]); (try simp only [hl10_1]); (with_reducible repeat (first | apply Kd.R_alloc | apply Kd.R_drewN | apply Kd.R_drew)); exact HO_7.out⟩, ⟨by (try simp only [hl7_1]); (try simp only [hl10_1]); (with_reducible repeat (first | apply Kd.R_alloc | apply Kd.R_drewN | apply Kd.R_drew)); exact HO_8.out⟩, ⟨by (try simp only [hl7_1]); (try simp only [hl10_1]); (with_reducible repeat (first | apply Kd.R_alloc | apply Kd.R_drewN | apply Kd.R_drew)); exact HO_10.out⟩, ⟨by repeat (first | (with_reducible exact HR192.out) | (with_reducible refine Kd.C_alloc ?_ _) | (with_reducible refine Kd.C_drewN ?_ _) | (with_reducible refine Kd.C_drew ?_) | exact HR192.out)⟩, ⟨uB⟩⟩
    case round =>
     clear H'
     (try clear c1); (try clear p1 p1); (try clear q1 q1); (try clear hx1); (try clear c2); (try clear p2 p2); (try clear c3); (try clear c4); (try clear c4b0); (try clear q4); (try clear c5); (try clear c5b0); (try clear p6 p6); (try clear c10); (try clear c11); (try clear c11b0); (try clear c11b1); (try clear c12); (try clear c12b0); (try clear c12b1); (try clear p16 p16); (try clear q16 q16); (try clear hx16); (try clear p18); (try clear q18); (try clear hx18); (try clear c22); (try clear c22b0); (try clear c24); (try clear c24b0); (try clear c25); (try clear c25b0); (try clear c27); (try clear c27b0); (try clear c28); (try clear c28b0); (try clear c30); (try clear c30b0); (try clear c31); (try clear c31b0); (try clear c33); (try clear c33b0); (try clear c34); (try clear c34b0); (try clear c36); (try clear c36b0); (try clear c37); (try clear c37b0); (try clear c39); (try clear c39b0); (try clear c39b1); (try clear c40); (try clear c40b0); (try clear c40b1); (try clear c41); (try clear c41b0); (try clear c41b1); (try clear c43); (try clear q43 q43); (try clear hx169_0); (try clear hx183_0); (try clear hx184_0); (try clear hx185_0); (try clear hx186_0); (try clear hx187_0); (try clear p169); (try clear p183); (try clear p184); (try clear p185); (try clear p186); (try clear p187); (try clear q043); (try clear q169); (try clear q183); (try clear q184); (try clear q185); (try clear q186); (try clear q187)
     obtain ⟨x12_2, rfl, HA, HK2, HO_7, HO_8, HO_10, HR192, HB⟩ := hrel
     cases gk with
     | zero => exact absurd HA.out (by simp [nat_long.l1])
     | succ k2 =>
      have H := HA.out
      clear HA
      simp only [nat_long.l1] at H
      replace H := ub H; obtain ⟨t193, A44, H⟩ := H
      replace H := ub H; obtain ⟨t196, A45, H⟩ := H
      replace H := ub H; obtain ⟨t199, A46, H⟩ := H
      replace H := ub H; obtain ⟨t202, A47, H⟩ := H
      replace H := ub H; obtain ⟨t205, A48, H⟩ := H
      by_cases c49 : t205 ≥ 0
      ·
       rw [if_pos c49] at H
       have c49b0 : decide (0 ≤ t205) = true := decide_eq_true c49
       clear c49
       replace H := ub H; obtain ⟨t206, A50, H⟩ := H
       replace H := uT H; obtain ⟨c51, H⟩ := H
       have c51b0 := eq_true c51
       have c51b1 : decide (t206.length = y189.length) = true := decide_eq_true c51
       clear c51
       obtain ⟨y209, hy209⟩ : ∃ y_ : List Int, y_ = (x7_1.take (x11_1 : Int).toNat ++ (t206 ++ x7_1.drop ((x11_1 : Int).toNat + y189.length))) := ⟨_, rfl⟩
       replace H : (if 0 ≤ x11_1 then (if x11_1 < (x10_1.length : Int) then (nat_long.l0 k2 (IntKind.u64.wrap (t170)) y209 t177 (t177.length : Int) (x10_1.set (x11_1 : Int).toNat x12_2) (wrap64 (x11_1 - 1))) else (none)) else (none)) = some (r1, r2) := by first | (rw [hy209]; with_reducible exact H) | (have H2_ := (Option.bind_some _ _).symm.trans H; rw [hy209]; with_reducible exact H2_) | (have H2_ := (Option.bind_some _ _).symm.trans H; with_reducible exact H2_) | with_reducible exact H | (rw [hy209]; exact H) | exact H
       have Ny209 := Aside0.mk hy209; clear hy209
       replace H := uT H; obtain ⟨c52, H⟩ := H
       have c52b0 : decide (0 ≤ x11_1) = true := decide_eq_true c52
       clear c52
       replace H := uT H; obtain ⟨c53, H⟩ := H
       have c53b0 : decide (x11_1 < (x10_1.length : Int)) = true := decide_eq_true c53
       (try (have c53b0h0 := c53b0; simp only [hl7_1] at c53b0h0))
       (try (have c53b0h1 := c53b0; simp only [hl10_1] at c53b0h1))
       clear c53
       obtain ⟨y210, hy210⟩ : ∃ y_ : List Int, y_ = (x10_1.set (x11_1 : Int).toNat x12_2) := ⟨_, rfl⟩
       replace H : (nat_long.l0 k2 (IntKind.u64.wrap (t170)) y209 t177 (t177.length : Int) y210 (wrap64 (x11_1 - 1))) = some (r1, r2) := by first | (rw [hy210]; with_reducible exact H) | (have H2_ := (Option.bind_some _ _).symm.trans H; rw [hy210]; with_reducible exact H2_) | (have H2_ := (Option.bind_some _ _).symm.trans H; with_reducible exact H2_) | with_reducible exact H | (rw [hy210]; exact H) | exact H
       have Ny210 := Aside0.mk hy210; clear hy210
       have H' := Aside0.mk H
       clear H
       go_wp2_with (first | ((with_reducible refine gate_callee (f := 92) rfl ?_); refine goesL_ (some 87) rfl rfl Try.func92 (by kernel_rfl) rfl #[.int .u64 x12_2] rfl uM ?_; (with_reducible refine (nat_Of.calls k2 x12_2 t193 _ A44.out).mono ?_); rintro e w55 ⟨v194, rfl, ho0, hb⟩; refine ⟨_, rfl, ?_⟩; have HO195 := Aside0.mk (Kd.R_lower (Kd.R_new' (Kd.R_new' (Kd.R_new' ho0 (Kd.R_lt (uR HO_7.out))) (Kd.R_lt (uR HO_8.out))) (Kd.R_lt (uR HO_10.out))) (below_size uB)); replace HO_7 := ueR HO_7 ho0 hb; replace HO_8 := ueR HO_8 ho0 hb; replace HO_10 := ueR HO_10 ho0 hb; replace HR192 := Aside0.mk (Kd.C_below (by repeat (first | (with_reducible exact HR192.out) | (with_reducible refine Kd.C_alloc ?_ _) | (with_reducible refine Kd.C_drewN ?_ _) | (with_reducible refine Kd.C_drew ?_) | exact HR192.out)) hb); replace HB := uy hb; (try clear hb); (try clear hb2); (try clear hk); (try clear hi); (try clear ho0); obtain ⟨Ao56, co56, eo56⟩ := Kd.R_slice HO195.out; subst eo56) | ((with_reducible refine gate_callee (f := 125) rfl ?_); refine goesL_ (some 88) rfl rfl Try.func125 (by kernel_rfl) rfl #[.slice (some ad186) t177.length co17, .slice Ao56 t193.length co56] rfl uM ?_; (with_reducible refine (nat_school.calls k2 _ _ t177 _ _ t193 t196 _ ?side1 ?side2 ?side3 ?side4 A45.out).mono ?_); (case side1 => exact uC (Kd.R_reads' HO_8.out).2.2); (case side2 => exact (Kd.R_reads' HO_8.out).2.1); (case side3 => exact uC (Kd.R_reads' HO195.out).2.2); (case side4 => exact (Kd.R_reads' HO195.out).2.1); rintro e w57 ⟨v197, rfl, ho0, hb⟩; refine ⟨_, rfl, ?_⟩; have HO198 := Aside0.mk (Kd.R_lower (Kd.R_new' (Kd.R_new' (Kd.R_new' (Kd.R_new' ho0 (Kd.R_lt (uR HO_7.out))) (Kd.R_lt (uR HO_8.out))) (Kd.R_lt (uR HO_10.out))) (Kd.R_lt (uR HO195.out))) (below_size uB)); replace HO_7 := ueR HO_7 ho0 hb; replace HO_8 := ueR HO_8 ho0 hb; replace HO_10 := ueR HO_10 ho0 hb; replace HO195 := ueR HO195 ho0 hb; replace HR192 := Aside0.mk (Kd.C_below (by repeat (first | (with_reducible exact HR192.out) | (with_reducible refine Kd.C_alloc ?_ _) | (with_reducible refine Kd.C_drewN ?_ _) | (with_reducible refine Kd.C_drew ?_) | exact HR192.out)) hb); replace HB := uy hb; (try clear hb); (try clear hb2); (try clear hk); (try clear hi); (try clear ho0)) | ((with_reducible refine gate_callee (f := 68) rfl ?_); refine goesL_ (some 90) rfl rfl Try.func68 (by kernel_rfl) rfl #[.slice A43 y189.length c43] rfl uM ?_; (with_reducible refine (api_Nat_uint64.calls _ _ y189 t199 _ ?side1 ?side2 A46.out).mono ?_); (case side1 => repeat (first | exact (by repeat (first | (with_reducible exact HR192.out) | (with_reducible refine Kd.C_alloc ?_ _) | (with_reducible refine Kd.C_drewN ?_ _) | (with_reducible refine Kd.C_drew ?_) | exact HR192.out)) | (with_reducible refine Kd.C_alloc ?_ _) | (with_reducible refine Kd.C_drewN ?_ _) | (with_reducible refine Kd.C_drew ?_))); (case side2 => exact HC192.out); rintro e w58 ⟨v200, rfl, ho0, hb⟩; refine ⟨_, rfl, ?_⟩; have HO201 := Aside0.mk (Kd.R_lower (Kd.R_new' (Kd.R_new' (Kd.R_new' (Kd.R_new' (Kd.R_new' ho0 (Kd.R_lt (uR HO_7.out))) (Kd.R_lt (uR HO_8.out))) (Kd.R_lt (uR HO_10.out))) (Kd.R_lt (uR HO195.out))) (Kd.R_lt (uR HO198.out))) (below_size uB)); replace HO_7 := ueR HO_7 ho0 hb; replace HO_8 := ueR HO_8 ho0 hb; replace HO_10 := ueR HO_10 ho0 hb; replace HO195 := ueR HO195 ho0 hb; replace HO198 := ueR HO198 ho0 hb; replace HR192 := Aside0.mk (Kd.C_below (by repeat (first | (with_reducible exact HR192.out) | (with_reducible refine Kd.C_alloc ?_ _) | (with_reducible refine Kd.C_drewN ?_ _) | (with_reducible refine Kd.C_drew ?_) | exact HR192.out)) hb); replace HB := uy hb; (try clear hb); (try clear hb2); (try clear hk); (try clear hi); (try clear ho0); obtain ⟨Ao59, co59, eo59⟩ := Kd.R_slice HO201.out; subst eo59) | ((with_reducible refine gate_callee (f := 116) rfl ?_); refine goesL_ (some 91) rfl rfl Try.func116 (by kernel_rfl) rfl #[.slice Ao59 t199.length co59] rfl uM ?_; (with_reducible refine (nat_trim.calls k2 (fun k_ => some k_ = (.slice Ao59 t199.length co59 : Value).ownBlock) (.slice Ao59 t199.length co59) t199 t202 w _ ?side1 ?side2 A47.out).mono ?_); (case side1 => repeat (first | (with_reducible first | exact HB.out | apply below_alloc | apply pw_below_drewN | apply below_drew1) | exact HB.out)); (case side2 => exact Kd.R_tight rfl HO201.out); rintro e w60 ⟨v203, rfl, ho0, hb, hkp⟩; refine ⟨_, rfl, ?_⟩; have HO204 := Aside0.mk (Kd.R_mono (ok' := fun k_ => some k_ ≠ (.slice (some ad183) x7_1.length co18 : Value).ownBlock ∧ some k_ ≠ (.slice (some ad186) t177.length co17 : Value).ownBlock ∧ some k_ ≠ (.slice Ao21 x10_1.length co21 : Value).ownBlock ∧ some k_ ≠ (.slice Ao56 t193.length co56 : Value).ownBlock ∧ some k_ ≠ (v197 : Value).ownBlock) ho0 (fun k_ hk_ => ⟨Or.elim hk_ (fun hs_ => fun e_ => (((HO_7.out).1 k_ e_.symm).2) hs_) (fun hn_ => (Kd.fresh' (Kd.R_lt (uR HO_7.out)) k_ hn_)), Or.elim hk_ (fun hs_ => fun e_ => (((HO_8.out).1 k_ e_.symm).2) hs_) (fun hn_ => (Kd.fresh' (Kd.R_lt (uR HO_8.out)) k_ hn_)), Or.elim hk_ (fun hs_ => fun e_ => (((HO_10.out).1 k_ e_.symm).2) hs_) (fun hn_ => (Kd.fresh' (Kd.R_lt (uR HO_10.out)) k_ hn_)), Or.elim hk_ (fun hs_ => fun e_ => (((HO195.out).1 k_ e_.symm).2) hs_) (fun hn_ => (Kd.fresh' (Kd.R_lt (uR HO195.out)) k_ hn_)), Or.elim hk_ (fun hs_ => fun e_ => (((HO198.out).1 k_ e_.symm).2) hs_) (fun hn_ => (Kd.fresh' (Kd.R_lt (uR HO198.out)) k_ hn_))⟩)); replace HO_8 := Aside0.mk (Kd.R_mono (ok' := fun k_ => some k_ ≠ (.slice (some ad183) x7_1.length co18 : Value).ownBlock ∧ some k_ ≠ (.slice Ao21 x10_1.length co21 : Value).ownBlock ∧ some k_ ≠ (.slice Ao56 t193.length co56 : Value).ownBlock ∧ some k_ ≠ (v197 : Value).ownBlock ∧ some k_ ≠ (v203 : Value).ownBlock) (Kd.R_keptB (HO_8.out) hkp (fun k_ hk_ hs_ => (hk_.2) hs_)) (fun k_ hk_ => ⟨hk_.1.1.1.1.1, hk_.1.1.1.1.2, hk_.1.1.1.2, hk_.1.1.2, fun e_ => Or.elim (ho0.1 k_ e_.symm) (fun hs_ => hk_.2.1 hs_) (fun hn_ => Nat.not_le.2 hk_.2.2 hn_)⟩)); replace HO_10 := Aside0.mk (Kd.R_mono (ok' := fun k_ => some k_ ≠ (.slice (some ad183) x7_1.length co18 : Value).ownBlock ∧ some k_ ≠ (.slice (some ad186) t177.length co17 : Value).ownBlock ∧ some k_ ≠ (.slice Ao56 t193.length co56 : Value).ownBlock ∧ some k_ ≠ (v197 : Value).ownBlock ∧ some k_ ≠ (v203 : Value).ownBlock) (Kd.R_keptB (HO_10.out) hkp (fun k_ hk_ hs_ => (hk_.2) hs_)) (fun k_ hk_ => ⟨hk_.1.1.1.1.1, hk_.1.1.1.1.2, hk_.1.1.1.2, hk_.1.1.2, fun e_ => Or.elim (ho0.1 k_ e_.symm) (fun hs_ => hk_.2.1 hs_) (fun hn_ => Nat.not_le.2 hk_.2.2 hn_)⟩)); replace HO195 := Aside0.mk (Kd.R_mono (ok' := fun k_ => some k_ ≠ (.slice (some ad183) x7_1.length co18 : Value).ownBlock ∧ some k_ ≠ (.slice (some ad186) t177.length co17 : Value).ownBlock ∧ some k_ ≠ (.slice Ao21 x10_1.length co21 : Value).ownBlock ∧ some k_ ≠ (v197 : Value).ownBlock ∧ some k_ ≠ (v203 : Value).ownBlock) (Kd.R_keptB (HO195.out) hkp (fun k_ hk_ hs_ => (hk_.2) hs_)) (fun k_ hk_ => ⟨hk_.1.1.1.1.1.2, hk_.1.1.1.1.2, hk_.1.1.1.2, hk_.1.1.2, fun e_ => Or.elim (ho0.1 k_ e_.symm) (fun hs_ => hk_.2.1 hs_) (fun hn_ => Nat.not_le.2 hk_.2.2 hn_)⟩)); replace HO198 := Aside0.mk (Kd.R_mono (ok' := fun k_ => some k_ ≠ (.slice (some ad183) x7_1.length co18 : Value).ownBlock ∧ some k_ ≠ (.slice (some ad186) t177.length co17 : Value).ownBlock ∧ some k_ ≠ (.slice Ao21 x10_1.length co21 : Value).ownBlock ∧ some k_ ≠ (.slice Ao56 t193.length co56 : Value).ownBlock ∧ some k_ ≠ (v203 : Value).ownBlock) (Kd.R_keptB (HO198.out) hkp (fun k_ hk_ hs_ => (hk_.2) hs_)) (fun k_ hk_ => ⟨hk_.1.1.1.1.1.2, hk_.1.1.1.1.2, hk_.1.1.1.2, hk_.1.1.2, fun e_ => Or.elim (ho0.1 k_ e_.symm) (fun hs_ => hk_.2.1 hs_) (fun hn_ => Nat.not_le.2 hk_.2.2 hn_)⟩)); replace HR192 := Aside0.mk ((show Kd.C (Kd.int .u64) w60 A43 y189.length y189 from by rw [Ny189.out, KA43.out]; exact Kd.C_mid (lo := (x11_1 : Int).toNat) (hi := ((wrap64 ((ji23) + 1)) : Int).toNat) (c := co18) ((Kd.R_reads' (Kd.R_mono (ok' := fun k_ => some k_ ≠ (.slice (some ad186) t177.length co17 : Value).ownBlock ∧ some k_ ≠ (.slice Ao21 x10_1.length co21 : Value).ownBlock ∧ some k_ ≠ (.slice Ao56 t193.length co56 : Value).ownBlock ∧ some k_ ≠ (v197 : Value).ownBlock ∧ some k_ ≠ (v203 : Value).ownBlock) (Kd.R_keptB (HO_7.out) hkp (fun k_ hk_ hs_ => (hk_.2) hs_)) (fun k_ hk_ => ⟨hk_.1.1.1.1.1, hk_.1.1.1.1.2, hk_.1.1.1.2, hk_.1.1.2, fun e_ => Or.elim (ho0.1 k_ e_.symm) (fun hs_ => hk_.2.1 hs_) (fun hn_ => Nat.not_le.2 hk_.2.2 hn_)⟩))).2.2) KM43.out KL43.out ((Kd.R_reads' (Kd.R_mono (ok' := fun k_ => some k_ ≠ (.slice (some ad186) t177.length co17 : Value).ownBlock ∧ some k_ ≠ (.slice Ao21 x10_1.length co21 : Value).ownBlock ∧ some k_ ≠ (.slice Ao56 t193.length co56 : Value).ownBlock ∧ some k_ ≠ (v197 : Value).ownBlock ∧ some k_ ≠ (v203 : Value).ownBlock) (Kd.R_keptB (HO_7.out) hkp (fun k_ hk_ hs_ => (hk_.2) hs_)) (fun k_ hk_ => ⟨hk_.1.1.1.1.1, hk_.1.1.1.1.2, hk_.1.1.1.2, hk_.1.1.2, fun e_ => Or.elim (ho0.1 k_ e_.symm) (fun hs_ => hk_.2.1 hs_) (fun hn_ => Nat.not_le.2 hk_.2.2 hn_)⟩))).2.1))); replace HO_7 := Aside0.mk (Kd.R_mono (ok' := fun k_ => some k_ ≠ (.slice (some ad186) t177.length co17 : Value).ownBlock ∧ some k_ ≠ (.slice Ao21 x10_1.length co21 : Value).ownBlock ∧ some k_ ≠ (.slice Ao56 t193.length co56 : Value).ownBlock ∧ some k_ ≠ (v197 : Value).ownBlock ∧ some k_ ≠ (v203 : Value).ownBlock) (Kd.R_keptB (HO_7.out) hkp (fun k_ hk_ hs_ => (hk_.2) hs_)) (fun k_ hk_ => ⟨hk_.1.1.1.1.1, hk_.1.1.1.1.2, hk_.1.1.1.2, hk_.1.1.2, fun e_ => Or.elim (ho0.1 k_ e_.symm) (fun hs_ => hk_.2.1 hs_) (fun hn_ => Nat.not_le.2 hk_.2.2 hn_)⟩)); replace HB := Aside0.mk (hb); clear HO201; (try clear hb); (try clear hkp); (try clear ho0); obtain ⟨Ao61, co61, eo61⟩ := Kd.R_slice HO204.out; subst eo61; obtain ⟨Ao62, co62, eo62⟩ := Kd.R_slice HO198.out; subst eo62) | ((with_reducible refine gate_callee (f := 105) rfl ?_); refine goesL_ (some 93) rfl rfl Try.func105 (by kernel_rfl) rfl #[.slice Ao61 t202.length co61, .slice Ao62 t196.length co62] rfl uM ?_; (with_reducible refine (nat_compare.calls k2 _ _ t202 _ _ t196 t205 _ ?side1 ?side2 ?side3 ?side4 A48.out).mono ?_); (case side1 => exact uC (Kd.R_reads' HO204.out).2.2); (case side2 => exact (Kd.R_reads' HO204.out).2.1); (case side3 => exact uC (Kd.R_reads' HO198.out).2.2); (case side4 => exact (Kd.R_reads' HO198.out).2.1); rintro e w' ⟨rfl, ⟨nd, rfl⟩⟩; refine ⟨_, rfl, ?_⟩; (try (rw [drewN_self w60]; generalize hq_ : World.drewN w60 _ = w60; replace HO195 : Aside0 (Kd.R (Kd.int .u64) 50 w60 w.heap.size (fun k_ => (some k_ ≠ (.slice (some ad183) x7_1.length co18 : Value).ownBlock ∧ (some k_ ≠ (.slice (some ad186) t177.length co17 : Value).ownBlock ∧ (some k_ ≠ (.slice Ao21 x10_1.length co21 : Value).ownBlock ∧ (some k_ ≠ (.slice Ao62 t196.length co62 : Value).ownBlock ∧ some k_ ≠ (.slice Ao61 t202.length co61 : Value).ownBlock))))) (.slice Ao56 t193.length co56) t193) := ⟨by rw [← hq_]; exact (uR HO195.out)⟩; replace HO198 : Aside0 (Kd.R (Kd.int .u64) 50 w60 w.heap.size (fun k_ => (some k_ ≠ (.slice (some ad183) x7_1.length co18 : Value).ownBlock ∧ (some k_ ≠ (.slice (some ad186) t177.length co17 : Value).ownBlock ∧ (some k_ ≠ (.slice Ao21 x10_1.length co21 : Value).ownBlock ∧ (some k_ ≠ (.slice Ao56 t193.length co56 : Value).ownBlock ∧ some k_ ≠ (.slice Ao61 t202.length co61 : Value).ownBlock))))) (.slice Ao62 t196.length co62) t196) := ⟨by rw [← hq_]; exact (uR HO198.out)⟩; replace HO204 : Aside0 (Kd.R (Kd.int .u64) 50 w60 w.heap.size (fun k_ => (some k_ ≠ (.slice (some ad183) x7_1.length co18 : Value).ownBlock ∧ (some k_ ≠ (.slice (some ad186) t177.length co17 : Value).ownBlock ∧ (some k_ ≠ (.slice Ao21 x10_1.length co21 : Value).ownBlock ∧ (some k_ ≠ (.slice Ao56 t193.length co56 : Value).ownBlock ∧ some k_ ≠ (.slice Ao62 t196.length co62 : Value).ownBlock))))) (.slice Ao61 t202.length co61) t202) := ⟨by rw [← hq_]; exact (uR HO204.out)⟩; replace HO_10 : Aside0 (Kd.R (Kd.int .u64) 50 w60 w.heap.size (fun k_ => (some k_ ≠ (.slice (some ad183) x7_1.length co18 : Value).ownBlock ∧ (some k_ ≠ (.slice (some ad186) t177.length co17 : Value).ownBlock ∧ (some k_ ≠ (.slice Ao56 t193.length co56 : Value).ownBlock ∧ (some k_ ≠ (.slice Ao62 t196.length co62 : Value).ownBlock ∧ some k_ ≠ (.slice Ao61 t202.length co61 : Value).ownBlock))))) (.slice Ao21 x10_1.length co21) x10_1) := ⟨by rw [← hq_]; exact (uR HO_10.out)⟩; replace HO_7 : Aside0 (Kd.R (Kd.int .u64) 50 w60 w.heap.size (fun k_ => (some k_ ≠ (.slice (some ad186) t177.length co17 : Value).ownBlock ∧ (some k_ ≠ (.slice Ao21 x10_1.length co21 : Value).ownBlock ∧ (some k_ ≠ (.slice Ao56 t193.length co56 : Value).ownBlock ∧ (some k_ ≠ (.slice Ao62 t196.length co62 : Value).ownBlock ∧ some k_ ≠ (.slice Ao61 t202.length co61 : Value).ownBlock))))) (.slice (some ad183) x7_1.length co18) x7_1) := ⟨by rw [← hq_]; exact (uR HO_7.out)⟩; replace HO_8 : Aside0 (Kd.R (Kd.int .u64) 50 w60 w.heap.size (fun k_ => (some k_ ≠ (.slice (some ad183) x7_1.length co18 : Value).ownBlock ∧ (some k_ ≠ (.slice Ao21 x10_1.length co21 : Value).ownBlock ∧ (some k_ ≠ (.slice Ao56 t193.length co56 : Value).ownBlock ∧ (some k_ ≠ (.slice Ao62 t196.length co62 : Value).ownBlock ∧ some k_ ≠ (.slice Ao61 t202.length co61 : Value).ownBlock))))) (.slice (some ad186) t177.length co17) t177) := ⟨by rw [← hq_]; exact (uR HO_8.out)⟩; replace HB : Aside0 (Below w.heap.size w w60) := ⟨by rw [← hq_]; exact uB⟩; replace HR192 : Aside0 (Kd.C (Kd.int .u64) w60 A43 y189.length y189) := ⟨by rw [← hq_]; exact (by repeat (first | (with_reducible exact HR192.out) | (with_reducible refine Kd.C_alloc ?_ _) | (with_reducible refine Kd.C_drewN ?_ _) | (with_reducible refine Kd.C_drew ?_) | exact HR192.out))⟩; clear hq_))) | ((with_reducible refine gate_callee (f := 111) rfl ?_); refine goesL_ (some 98) rfl rfl Try.func111 (by kernel_rfl) rfl #[.slice A43 y189.length c43, .slice Ao62 t196.length co62] rfl uM ?_; (with_reducible refine (nat_less.calls k2 _ _ y189 _ _ t196 t206 _ ?side1 ?side2 ?side3 ?side4 A50.out).mono ?_); (case side1 => repeat (first | exact (by repeat (first | (with_reducible exact HR192.out) | (with_reducible refine Kd.C_alloc ?_ _) | (with_reducible refine Kd.C_drewN ?_ _) | (with_reducible refine Kd.C_drew ?_) | exact HR192.out)) | (with_reducible refine Kd.C_alloc ?_ _) | (with_reducible refine Kd.C_drewN ?_ _) | (with_reducible refine Kd.C_drew ?_))); (case side2 => exact HC192.out); (case side3 => exact uC (Kd.R_reads' HO198.out).2.2); (case side4 => exact (Kd.R_reads' HO198.out).2.1); rintro e w63 ⟨v207, rfl, ho0, hb⟩; refine ⟨_, rfl, ?_⟩; have HO208 := Aside0.mk (Kd.R_lower (Kd.R_new' (Kd.R_new' (Kd.R_new' (Kd.R_new' (Kd.R_new' (Kd.R_new' ho0 (Kd.R_lt (uR HO_7.out))) (Kd.R_lt (uR HO_8.out))) (Kd.R_lt (uR HO_10.out))) (Kd.R_lt (uR HO195.out))) (Kd.R_lt (uR HO198.out))) (Kd.R_lt (uR HO204.out))) (below_size uB)); replace HO_7 := ueR HO_7 ho0 hb; replace HO_8 := ueR HO_8 ho0 hb; replace HO_10 := ueR HO_10 ho0 hb; replace HO195 := ueR HO195 ho0 hb; replace HO198 := ueR HO198 ho0 hb; replace HO204 := ueR HO204 ho0 hb; replace HR192 := Aside0.mk (Kd.C_below (by repeat (first | (with_reducible exact HR192.out) | (with_reducible refine Kd.C_alloc ?_ _) | (with_reducible refine Kd.C_drewN ?_ _) | (with_reducible refine Kd.C_drew ?_) | exact HR192.out)) hb); replace HB := uy hb; (try clear hb); (try clear hb2); (try clear hk); (try clear hi); (try clear ho0); obtain ⟨Ao66, co66, eo66⟩ := Kd.R_slice HO208.out; subst eo66; have n_ := Aside0.mk (Kd.R_mono (ok' := (fun k_ => some k_ ≠ (.slice (some ad186) t177.length co17 : Value).ownBlock ∧ some k_ ≠ (.slice Ao21 x10_1.length co21 : Value).ownBlock ∧ some k_ ≠ (.slice Ao56 t193.length co56 : Value).ownBlock ∧ some k_ ≠ (.slice Ao62 t196.length co62 : Value).ownBlock ∧ some k_ ≠ (.slice Ao61 t202.length co61 : Value).ownBlock ∧ some k_ ≠ (.slice Ao66 t206.length co66 : Value).ownBlock)) HO_7.out (fun k_ hk => ⟨hk.1.1, ⟨hk.1.2.1, ⟨hk.1.2.2.1, ⟨hk.1.2.2.2.1, ⟨hk.1.2.2.2.2, hk.2⟩⟩⟩⟩⟩)); clear HO_7; have HO_7 := n_; clear n_) | ((with_reducible refine gate_builtin (b := .copy) (xs := #[.tmp 95, .tmp 98]) (ts := #[23, 23]) rfl ?_); (try (refine gate_guard (by rfl) ?_; dsimp only)); refine R_copyin (0 : Int) (w0 := w) w.heap.size rfl (.tmp 95) (.tmp 98) 23 23 50 rfl Try.underlying23 (by kernel_rfl) (A0 := (some ad183)) (n := x7_1.length) (c := co18) (k := (x11_1 : Int).toNat) (m := y189.length) (ys := t206) rfl rfl KA43.out (Kd.R_reads' HO208.out).2.2 uO (uR HO_7.out) ?hk uB (below_size uB) ?_; (case hk => have hy_ := KY43.out; have hl_ := KL43.out; have hm_ := KM43.out; omega); intro w64 ho hb hg; rw [← Ny209.out] at ho; replace HO_7 := Aside0.mk (ho); replace HO_8 := Aside0.mk (Kd.R_after (v := (.slice (some ad183) x7_1.length co18)) (v1 := (.slice (some ad183) x7_1.length co18)) (ok := (fun k_ => some k_ ≠ (.slice Ao21 x10_1.length co21 : Value).ownBlock ∧ some k_ ≠ (.slice Ao56 t193.length co56 : Value).ownBlock ∧ some k_ ≠ (.slice Ao62 t196.length co62 : Value).ownBlock ∧ some k_ ≠ (.slice Ao61 t202.length co61 : Value).ownBlock ∧ some k_ ≠ (.slice Ao66 t206.length co66 : Value).ownBlock)) (uR (Kd.R_mono HO_8.out (fun _ hk => ⟨⟨hk.1.2.1, ⟨hk.1.2.2.1, ⟨hk.1.2.2.2.1, ⟨hk.1.2.2.2.2, hk.2⟩⟩⟩⟩, hk.1.1⟩))) hg (.inl rfl)); replace HO_10 := Aside0.mk (Kd.R_after (v := (.slice (some ad183) x7_1.length co18)) (v1 := (.slice (some ad183) x7_1.length co18)) (ok := (fun k_ => some k_ ≠ (.slice (some ad186) t177.length co17 : Value).ownBlock ∧ some k_ ≠ (.slice Ao56 t193.length co56 : Value).ownBlock ∧ some k_ ≠ (.slice Ao62 t196.length co62 : Value).ownBlock ∧ some k_ ≠ (.slice Ao61 t202.length co61 : Value).ownBlock ∧ some k_ ≠ (.slice Ao66 t206.length co66 : Value).ownBlock)) (uR (Kd.R_mono HO_10.out (fun _ hk => ⟨⟨hk.1.2.1, ⟨hk.1.2.2.1, ⟨hk.1.2.2.2.1, ⟨hk.1.2.2.2.2, hk.2⟩⟩⟩⟩, hk.1.1⟩))) hg (.inl rfl)); replace HO195 := Aside0.mk (Kd.R_after (v := (.slice (some ad183) x7_1.length co18)) (v1 := (.slice (some ad183) x7_1.length co18)) (ok := (fun k_ => some k_ ≠ (.slice (some ad186) t177.length co17 : Value).ownBlock ∧ some k_ ≠ (.slice Ao21 x10_1.length co21 : Value).ownBlock ∧ some k_ ≠ (.slice Ao62 t196.length co62 : Value).ownBlock ∧ some k_ ≠ (.slice Ao61 t202.length co61 : Value).ownBlock ∧ some k_ ≠ (.slice Ao66 t206.length co66 : Value).ownBlock)) (uR (Kd.R_mono HO195.out (fun _ hk => ⟨⟨hk.1.2.1, ⟨hk.1.2.2.1, ⟨hk.1.2.2.2.1, ⟨hk.1.2.2.2.2, hk.2⟩⟩⟩⟩, hk.1.1⟩))) hg (.inl rfl)); replace HO198 := Aside0.mk (Kd.R_after (v := (.slice (some ad183) x7_1.length co18)) (v1 := (.slice (some ad183) x7_1.length co18)) (ok := (fun k_ => some k_ ≠ (.slice (some ad186) t177.length co17 : Value).ownBlock ∧ some k_ ≠ (.slice Ao21 x10_1.length co21 : Value).ownBlock ∧ some k_ ≠ (.slice Ao56 t193.length co56 : Value).ownBlock ∧ some k_ ≠ (.slice Ao61 t202.length co61 : Value).ownBlock ∧ some k_ ≠ (.slice Ao66 t206.length co66 : Value).ownBlock)) (uR (Kd.R_mono HO198.out (fun _ hk => ⟨⟨hk.1.2.1, ⟨hk.1.2.2.1, ⟨hk.1.2.2.2.1, ⟨hk.1.2.2.2.2, hk.2⟩⟩⟩⟩, hk.1.1⟩))) hg (.inl rfl)); replace HO204 := Aside0.mk (Kd.R_after (v := (.slice (some ad183) x7_1.length co18)) (v1 := (.slice (some ad183) x7_1.length co18)) (ok := (fun k_ => some k_ ≠ (.slice (some ad186) t177.length co17 : Value).ownBlock ∧ some k_ ≠ (.slice Ao21 x10_1.length co21 : Value).ownBlock ∧ some k_ ≠ (.slice Ao56 t193.length co56 : Value).ownBlock ∧ some k_ ≠ (.slice Ao62 t196.length co62 : Value).ownBlock ∧ some k_ ≠ (.slice Ao66 t206.length co66 : Value).ownBlock)) (uR (Kd.R_mono HO204.out (fun _ hk => ⟨⟨hk.1.2.1, ⟨hk.1.2.2.1, ⟨hk.1.2.2.2.1, ⟨hk.1.2.2.2.2, hk.2⟩⟩⟩⟩, hk.1.1⟩))) hg (.inl rfl)); replace HO208 := Aside0.mk (Kd.R_after (v := (.slice (some ad183) x7_1.length co18)) (v1 := (.slice (some ad183) x7_1.length co18)) (ok := (fun k_ => some k_ ≠ (.slice (some ad186) t177.length co17 : Value).ownBlock ∧ some k_ ≠ (.slice Ao21 x10_1.length co21 : Value).ownBlock ∧ some k_ ≠ (.slice Ao56 t193.length co56 : Value).ownBlock ∧ some k_ ≠ (.slice Ao62 t196.length co62 : Value).ownBlock ∧ some k_ ≠ (.slice Ao61 t202.length co61 : Value).ownBlock)) (uR (Kd.R_mono HO208.out (fun _ hk => ⟨⟨hk.1.1.1.1.2, ⟨hk.1.1.1.2, ⟨hk.1.1.2, ⟨hk.1.2, hk.2⟩⟩⟩⟩, hk.1.1.1.1.1.2⟩))) hg (.inl rfl)); replace HB := Aside0.mk (hb); clear ho hb hg; have p54 : 0 ≤ (x11_1 : Int) := uO; have q54 : (x11_1 : Int) < ((x10_1.length : Int) : Int) := uO; obtain ⟨go54, co54, eo54, gb54, gl54, cl54, HG54⟩ := Kd.R_form HO_10.out (by omega); (first | cases eo54 | (injection eo54 with ea_ en_ ec_; (first | subst ea_ | (injection ea_ with ea_; subst ea_)); subst ec_; clear en_)); have GB54 := Aside0.mk gb54; have GG54 := Aside0.mk HG54; clear gb54 gl54 HG54; obtain ⟨hx54_0, hf54_0⟩ := Kd.R_celln 0 HO_10.out (x11_1 : Int) p54 q54; replace p54 := eq_true p54; replace q54 := eq_true q54; have n_ := Aside0.mk (Kd.R_mono (ok' := (fun k_ => some k_ ≠ (.slice (some ad183) x7_1.length co18 : Value).ownBlock ∧ some k_ ≠ (.slice (some ad186) t177.length co17 : Value).ownBlock ∧ some k_ ≠ (.slice Ao56 t193.length co56 : Value).ownBlock ∧ some k_ ≠ (.slice Ao62 t196.length co62 : Value).ownBlock ∧ some k_ ≠ (.slice Ao61 t202.length co61 : Value).ownBlock ∧ some k_ ≠ (.slice Ao66 t206.length co66 : Value).ownBlock)) HO_10.out (fun k_ hk => ⟨hk.2, ⟨hk.1.1, ⟨hk.1.2.1, ⟨hk.1.2.2.1, ⟨hk.1.2.2.2.1, hk.1.2.2.2.2⟩⟩⟩⟩⟩)); clear HO_10; have HO_10 := n_; clear n_; obtain ⟨hy67_, hz67_⟩ := Kd.R_celln 0 HO_10.out (x11_1 : Int) uO uO; have HP67 := Kd.R_putg HO_10.out (x11_1 : Int) x12_2) | ((with_reducible refine gate_store (t := 50) (p := 105) rfl ?_); refine store_event (t := 50) (p := 105) (v := ?vo_w68) (w1 := (w64.setCell ⟨go54, (x11_1 : Int).toNat, none⟩ (.int .u64 x12_2))) ?hg ?ho ?hn ?hr ?_; (case ho => rfl); (case hg => rfl); (case hn => rfl); (case hr => first | (go_simp; done) | (go_simp; rfl) | (obtain ⟨hy_, hz_⟩ := Kd.R_celln 0 HO_10.out (x11_1 : Int) uO uO; (try simp only [Go.IntWalk.toNatUp] at hy_ hz_); (try simp only [Int.reduceToNat, Int.toNat_zero, Int.toNat_ofNat] at hy_ hz_); first | (go_simp; done) | (go_simp; rfl))); intro w68 hw; have hg : w64.grownBy w68 (some go54) := (by rw [hw]; exact HP67.2); have hp_ : Kd.R (Kd.int .u64) 50 w68 w.heap.size (fun k_ => some k_ ≠ (.slice (some ad183) x7_1.length co18 : Value).ownBlock ∧ some k_ ≠ (.slice (some ad186) t177.length co17 : Value).ownBlock ∧ some k_ ≠ (.slice Ao56 t193.length co56 : Value).ownBlock ∧ some k_ ≠ (.slice Ao62 t196.length co62 : Value).ownBlock ∧ some k_ ≠ (.slice Ao61 t202.length co61 : Value).ownBlock ∧ some k_ ≠ (.slice Ao66 t206.length co66 : Value).ownBlock) (.slice (some ⟨go54, 0, none⟩) x10_1.length co21) y210 := (by rw [hw, Ny210.out]; exact HP67.1); clear HP67; replace HO_7 := Aside0.mk (Kd.R_after (v := (.slice (some ⟨go54, 0, none⟩) x10_1.length co21)) (v1 := (.slice (some ⟨go54, 0, none⟩) x10_1.length co21)) (ok := (fun k_ => some k_ ≠ (.slice (some ad186) t177.length co17 : Value).ownBlock ∧ some k_ ≠ (.slice Ao56 t193.length co56 : Value).ownBlock ∧ some k_ ≠ (.slice Ao62 t196.length co62 : Value).ownBlock ∧ some k_ ≠ (.slice Ao61 t202.length co61 : Value).ownBlock ∧ some k_ ≠ (.slice Ao66 t206.length co66 : Value).ownBlock)) (uR (Kd.R_mono HO_7.out (fun _ hk => ⟨⟨hk.1, ⟨hk.2.2.1, ⟨hk.2.2.2.1, ⟨hk.2.2.2.2.1, hk.2.2.2.2.2⟩⟩⟩⟩, hk.2.1⟩))) hg (.inl rfl)); replace HO_8 := Aside0.mk (Kd.R_after (v := (.slice (some ⟨go54, 0, none⟩) x10_1.length co21)) (v1 := (.slice (some ⟨go54, 0, none⟩) x10_1.length co21)) (ok := (fun k_ => some k_ ≠ (.slice (some ad183) x7_1.length co18 : Value).ownBlock ∧ some k_ ≠ (.slice Ao56 t193.length co56 : Value).ownBlock ∧ some k_ ≠ (.slice Ao62 t196.length co62 : Value).ownBlock ∧ some k_ ≠ (.slice Ao61 t202.length co61 : Value).ownBlock ∧ some k_ ≠ (.slice Ao66 t206.length co66 : Value).ownBlock)) (uR (Kd.R_mono HO_8.out (fun _ hk => ⟨⟨hk.2, ⟨hk.1.2.1, ⟨hk.1.2.2.1, ⟨hk.1.2.2.2.1, hk.1.2.2.2.2⟩⟩⟩⟩, hk.1.1⟩))) hg (.inl rfl)); replace HO_10 := Aside0.mk (hp_); replace HO195 := Aside0.mk (Kd.R_after (v := (.slice (some ⟨go54, 0, none⟩) x10_1.length co21)) (v1 := (.slice (some ⟨go54, 0, none⟩) x10_1.length co21)) (ok := (fun k_ => some k_ ≠ (.slice (some ad183) x7_1.length co18 : Value).ownBlock ∧ some k_ ≠ (.slice (some ad186) t177.length co17 : Value).ownBlock ∧ some k_ ≠ (.slice Ao62 t196.length co62 : Value).ownBlock ∧ some k_ ≠ (.slice Ao61 t202.length co61 : Value).ownBlock ∧ some k_ ≠ (.slice Ao66 t206.length co66 : Value).ownBlock)) (uR (Kd.R_mono HO195.out (fun _ hk => ⟨⟨hk.2, ⟨hk.1.1, ⟨hk.1.2.2.1, ⟨hk.1.2.2.2.1, hk.1.2.2.2.2⟩⟩⟩⟩, hk.1.2.1⟩))) hg (.inl rfl)); replace HO198 := Aside0.mk (Kd.R_after (v := (.slice (some ⟨go54, 0, none⟩) x10_1.length co21)) (v1 := (.slice (some ⟨go54, 0, none⟩) x10_1.length co21)) (ok := (fun k_ => some k_ ≠ (.slice (some ad183) x7_1.length co18 : Value).ownBlock ∧ some k_ ≠ (.slice (some ad186) t177.length co17 : Value).ownBlock ∧ some k_ ≠ (.slice Ao56 t193.length co56 : Value).ownBlock ∧ some k_ ≠ (.slice Ao61 t202.length co61 : Value).ownBlock ∧ some k_ ≠ (.slice Ao66 t206.length co66 : Value).ownBlock)) (uR (Kd.R_mono HO198.out (fun _ hk => ⟨⟨hk.2, ⟨hk.1.1, ⟨hk.1.2.2.1, ⟨hk.1.2.2.2.1, hk.1.2.2.2.2⟩⟩⟩⟩, hk.1.2.1⟩))) hg (.inl rfl)); replace HO204 := Aside0.mk (Kd.R_after (v := (.slice (some ⟨go54, 0, none⟩) x10_1.length co21)) (v1 := (.slice (some ⟨go54, 0, none⟩) x10_1.length co21)) (ok := (fun k_ => some k_ ≠ (.slice (some ad183) x7_1.length co18 : Value).ownBlock ∧ some k_ ≠ (.slice (some ad186) t177.length co17 : Value).ownBlock ∧ some k_ ≠ (.slice Ao56 t193.length co56 : Value).ownBlock ∧ some k_ ≠ (.slice Ao62 t196.length co62 : Value).ownBlock ∧ some k_ ≠ (.slice Ao66 t206.length co66 : Value).ownBlock)) (uR (Kd.R_mono HO204.out (fun _ hk => ⟨⟨hk.2, ⟨hk.1.1, ⟨hk.1.2.2.1, ⟨hk.1.2.2.2.1, hk.1.2.2.2.2⟩⟩⟩⟩, hk.1.2.1⟩))) hg (.inl rfl)); replace HO208 := Aside0.mk (Kd.R_after (v := (.slice (some ⟨go54, 0, none⟩) x10_1.length co21)) (v1 := (.slice (some ⟨go54, 0, none⟩) x10_1.length co21)) (ok := (fun k_ => some k_ ≠ (.slice (some ad183) x7_1.length co18 : Value).ownBlock ∧ some k_ ≠ (.slice (some ad186) t177.length co17 : Value).ownBlock ∧ some k_ ≠ (.slice Ao56 t193.length co56 : Value).ownBlock ∧ some k_ ≠ (.slice Ao62 t196.length co62 : Value).ownBlock ∧ some k_ ≠ (.slice Ao61 t202.length co61 : Value).ownBlock)) (uR (Kd.R_mono HO208.out (fun _ hk => ⟨⟨hk.2, ⟨hk.1.1, ⟨hk.1.2.2.1, ⟨hk.1.2.2.2.1, hk.1.2.2.2.2⟩⟩⟩⟩, hk.1.2.1⟩))) hg (.inl rfl)); replace HB := Aside0.mk ((by rw [hw]; exact below_set (HB.out) GB54.out : Below w.heap.size w w68)); clear hg hw hp_))
       (try simp only [← hl7_1, ← hl10_1])
       first | go_roundg k2 | ((try simp only [← hji35] at H'); simp only [← hji35]; go_roundg k2) | ((try simp only [← hji32] at H'); simp only [← hji32]; go_roundg k2) | ((try simp only [← hji29] at H'); simp only [← hji29]; go_roundg k2) | ((try simp only [← hji26] at H'); simp only [← hji26]; go_roundg k2) | ((try simp only [← hji23] at H'); simp only [← hji23]; go_roundg k2) | ((try simp only [← hji10] at H'); simp only [← hji10]; go_roundg k2)
       case measure => have := HK1.out; have := HK2.out; omega
       case rel => first | exact ⟨(y209), (y210), (wrap64 (x11_1 - 1)), uG, H', ⟨by have := HK1.out; have := HK2.out; omega⟩, ⟨by (try simp only [hl7_1]); (try simp only [hl10_1]); (with_reducible repeat (first | apply Kd.R_alloc | apply Kd.R_drewN | apply Kd.R_drew)); exact Kd.R_mono HO_7.out (fun _ hk => ⟨hk.1.1, hk.2⟩)⟩, ⟨by (try simp only [hl7_1]); (try simp only [hl10_1]); (with_reducible repeat (first | apply Kd.R_alloc | apply Kd.R_drewN | apply Kd.R_drew)); exact Kd.R_mono HO_8.out (fun _ hk => ⟨hk.1.1, hk.2⟩)⟩, ⟨by (try simp only [hl7_1]); (try simp only [hl10_1]); (with_reducible repeat (first | apply Kd.R_alloc | apply Kd.R_drewN | apply Kd.R_drew)); exact Kd.R_mono HO_10.out (fun _ hk => ⟨hk.1, hk.2.1⟩)⟩, ⟨uB⟩⟩ | (simp only [← hji35] at H'; exact ⟨(y209), (y210), (wrap64 (x11_1 - 1)), uG, H', ⟨by have := HK1.out; have := HK2.out; omega⟩, ⟨by (try simp only [hl7_1]); (try simp only [hl10_1]); (with_reducible repeat (first | apply Kd.R_alloc | apply Kd.R_drewN | apply Kd.R_drew)); exact Kd.R_mono HO_7.out (fun _ hk => ⟨hk.1.1, hk.2⟩)⟩, ⟨by (try simp only [hl7_1]); (try simp only [hl10_1]); (with_reducible repeat (first | apply Kd.R_alloc | apply Kd.R_drewN | apply Kd.R_drew)); exact Kd.R_mono HO_8.out (fun _ hk => ⟨hk.1.1, hk.2⟩)⟩, ⟨by (try simp only [hl7_1]); (try simp only [hl10_1]); (with_reducible repeat (first | apply Kd.R_alloc | apply Kd.R_drewN | apply Kd.R_drew)); exact Kd.R_mono HO_10.out (fun _ hk => ⟨hk.1, hk.2.1⟩)⟩, ⟨uB⟩⟩) | (simp only [← hji32] at H'; exact ⟨(y209), (y210), (wrap64 (x11_1 - 1)), uG, H', ⟨by have := HK1.out; have := HK2.out; omega⟩, ⟨by (try simp only [hl7_1]); (try simp only [hl10_1]); (with_reducible repeat (first | apply Kd.R_alloc | apply Kd.R_drewN | apply Kd.R_drew)); exact Kd.R_mono HO_7.out (fun _ hk => ⟨hk.1.1, hk.2⟩)⟩, ⟨by (try simp only [hl7_1]); (try simp only [hl10_1]); (with_reducible repeat (first | apply Kd.R_alloc | apply Kd.R_drewN | apply Kd.R_drew)); exact Kd.R_mono HO_8.out (fun _ hk => ⟨hk.1.1, hk.2⟩)⟩, ⟨by (try simp only [hl7_1]); (try simp only [hl10_1]); (with_reducible repeat (first | apply Kd.R_alloc | apply Kd.R_drewN | apply Kd.R_drew)); exact Kd.R_mono HO_10.out (fun _ hk => ⟨hk.1, hk.2.1⟩)⟩, ⟨uB⟩⟩) | (simp only [← hji29] at H'; exact ⟨(y209), (y210), (wrap64 (x11_1 - 1)), uG, H', ⟨by have := HK1.out; have := HK2.out; omega⟩, ⟨by (try simp only [hl7_1]); (try simp only [hl10_1]); (with_reducible repeat (first | apply Kd.R_alloc | apply Kd.R_drewN | apply Kd.R_drew)); exact Kd.R_mono HO_7.out (fun _ hk => ⟨hk.1.1, hk.2⟩)⟩, ⟨by (try simp only [hl7_1]); (try simp only [hl10_1]); (with_reducible repeat (first | apply Kd.R_alloc | apply Kd.R_drewN | apply Kd.R_drew)); exact Kd.R_mono HO_8.out (fun _ hk => ⟨hk.1.1, hk.2⟩)⟩, ⟨by (try simp only [hl7_1]); (try simp only [hl10_1]); (with_reducible repeat (first | apply Kd.R_alloc | apply Kd.R_drewN | apply Kd.R_drew)); exact Kd.R_mono HO_10.out (fun _ hk => ⟨hk.1, hk.2.1⟩)⟩, ⟨uB⟩⟩) | (simp only [← hji26] at H'; exact ⟨(y209), (y210), (wrap64 (x11_1 - 1)), uG, H', ⟨by have := HK1.out; have := HK2.out; omega⟩, ⟨by (try simp only [hl7_1]); (try simp only [hl10_1]); (with_reducible repeat (first | apply Kd.R_alloc | apply Kd.R_drewN | apply Kd.R_drew)); exact Kd.R_mono HO_7.out (fun _ hk => ⟨hk.1.1, hk.2⟩)⟩, ⟨by (try simp only [hl7_1]); (try simp only [hl10_1]); (with_reducible repeat (first | apply Kd.R_alloc | apply Kd.R_drewN | apply Kd.R_drew)); exact Kd.R_mono HO_8.out (fun _ hk => ⟨hk.1.1, hk.2⟩)⟩, ⟨by (try simp only [hl7_1]); (try simp only [hl10_1]); (with_reducible repeat (first | apply Kd.R_alloc | apply Kd.R_drewN | apply Kd.R_drew)); exact Kd.R_mono HO_10.out (fun _ hk => ⟨hk.1, hk.2.1⟩)⟩, ⟨uB⟩⟩) | (simp only [← hji23] at H'; exact ⟨(y209), (y210), (wrap64 (x11_1 - 1)), uG, H', ⟨by have := HK1.out; have := HK2.out; omega⟩, ⟨by (try simp only [hl7_1]); (try simp only [hl10_1]); (with_reducible repeat (first | apply Kd.R_alloc | apply Kd.R_drewN | apply Kd.R_drew)); exact Kd.R_mono HO_7.out (fun _ hk => ⟨hk.1.1, hk.2⟩)⟩, ⟨by (try simp only [hl7_1]); (try simp only [hl10_1]); (with_reducible repeat (first | apply Kd.R_alloc | apply Kd.R_drewN | apply Kd.R_drew)); exact Kd.R_mono HO_8.out (fun _ hk => ⟨hk.1.1, hk.2⟩)⟩, ⟨by (try simp only [hl7_1]); (try simp only [hl10_1]); (with_reducible repeat (first | apply Kd.R_alloc | apply Kd.R_drewN | apply Kd.R_drew)); exact Kd.R_mono HO_10.out (fun _ hk => ⟨hk.1, hk.2.1⟩)⟩, ⟨uB⟩⟩) | (simp only [← hji10] at H'; exact ⟨(y209), (y210), (wrap64 (x11_1 - 1)), uG, H', ⟨by have := HK1.out; have := HK2.out; omega⟩, ⟨by (try simp only [hl7_1]); (try simp only [hl10_1]); (with_reducible repeat (first | apply Kd.R_alloc | apply Kd.R_drewN | apply Kd.R_drew)); exact Kd.R_mono HO_7.out (fun _ hk => ⟨hk.1.1, hk.2⟩)⟩, ⟨by (try simp only [hl7_1]); (try simp only [hl10_1]); (with_reducible repeat (first | apply Kd.R_alloc | apply Kd.R_drewN | apply Kd.R_drew)); exact Kd.R_mono HO_8.out (fun _ hk => ⟨hk.1.1, hk.2⟩)⟩, ⟨by (try simp only [hl7_1]); (try simp only [hl10_1]); (with_reducible repeat (first | apply Kd.R_alloc | apply Kd.R_drewN | apply Kd.R_drew)); exact Kd.R_mono HO_10.out (fun _ hk => ⟨hk.1, hk.2.1⟩)⟩, ⟨uB⟩⟩)
      rw [if_neg c49] at H
      have c49b0 : decide (0 ≤ t205) = false := decide_eq_false c49
      clear c49
      have H' := Aside0.mk H
      clear H
      go_wp2_with (first | ((with_reducible refine gate_callee (f := 92) rfl ?_); refine goesL_ (some 87) rfl rfl Try.func92 (by kernel_rfl) rfl #[.int .u64 x12_2] rfl uM ?_; (with_reducible refine (nat_Of.calls k2 x12_2 t193 _ A44.out).mono ?_); rintro e w69 ⟨v194, rfl, ho0, hb⟩; refine ⟨_, rfl, ?_⟩; have HO195 := Aside0.mk (Kd.R_lower (Kd.R_new' (Kd.R_new' (Kd.R_new' ho0 (Kd.R_lt (uR HO_7.out))) (Kd.R_lt (uR HO_8.out))) (Kd.R_lt (uR HO_10.out))) (below_size uB)); replace HO_7 := ueR HO_7 ho0 hb; replace HO_8 := ueR HO_8 ho0 hb; replace HO_10 := ueR HO_10 ho0 hb; replace HR192 := Aside0.mk (Kd.C_below (by repeat (first | (with_reducible exact HR192.out) | (with_reducible refine Kd.C_alloc ?_ _) | (with_reducible refine Kd.C_drewN ?_ _) | (with_reducible refine Kd.C_drew ?_) | exact HR192.out)) hb); replace HB := uy hb; (try clear hb); (try clear hb2); (try clear hk); (try clear hi); (try clear ho0); obtain ⟨Ao70, co70, eo70⟩ := Kd.R_slice HO195.out; subst eo70) | ((with_reducible refine gate_callee (f := 125) rfl ?_); refine goesL_ (some 88) rfl rfl Try.func125 (by kernel_rfl) rfl #[.slice (some ad186) t177.length co17, .slice Ao70 t193.length co70] rfl uM ?_; (with_reducible refine (nat_school.calls k2 _ _ t177 _ _ t193 t196 _ ?side1 ?side2 ?side3 ?side4 A45.out).mono ?_); (case side1 => exact uC (Kd.R_reads' HO_8.out).2.2); (case side2 => exact (Kd.R_reads' HO_8.out).2.1); (case side3 => exact uC (Kd.R_reads' HO195.out).2.2); (case side4 => exact (Kd.R_reads' HO195.out).2.1); rintro e w71 ⟨v197, rfl, ho0, hb⟩; refine ⟨_, rfl, ?_⟩; have HO198 := Aside0.mk (Kd.R_lower (Kd.R_new' (Kd.R_new' (Kd.R_new' (Kd.R_new' ho0 (Kd.R_lt (uR HO_7.out))) (Kd.R_lt (uR HO_8.out))) (Kd.R_lt (uR HO_10.out))) (Kd.R_lt (uR HO195.out))) (below_size uB)); replace HO_7 := ueR HO_7 ho0 hb; replace HO_8 := ueR HO_8 ho0 hb; replace HO_10 := ueR HO_10 ho0 hb; replace HO195 := ueR HO195 ho0 hb; replace HR192 := Aside0.mk (Kd.C_below (by repeat (first | (with_reducible exact HR192.out) | (with_reducible refine Kd.C_alloc ?_ _) | (with_reducible refine Kd.C_drewN ?_ _) | (with_reducible refine Kd.C_drew ?_) | exact HR192.out)) hb); replace HB := uy hb; (try clear hb); (try clear hb2); (try clear hk); (try clear hi); (try clear ho0)) | ((with_reducible refine gate_callee (f := 68) rfl ?_); refine goesL_ (some 90) rfl rfl Try.func68 (by kernel_rfl) rfl #[.slice A43 y189.length c43] rfl uM ?_; (with_reducible refine (api_Nat_uint64.calls _ _ y189 t199 _ ?side1 ?side2 A46.out).mono ?_); (case side1 => repeat (first | exact (by repeat (first | (with_reducible exact HR192.out) | (with_reducible refine Kd.C_alloc ?_ _) | (with_reducible refine Kd.C_drewN ?_ _) | (with_reducible refine Kd.C_drew ?_) | exact HR192.out)) | (with_reducible refine Kd.C_alloc ?_ _) | (with_reducible refine Kd.C_drewN ?_ _) | (with_reducible refine Kd.C_drew ?_))); (case side2 => exact HC192.out); rintro e w72 ⟨v200, rfl, ho0, hb⟩; refine ⟨_, rfl, ?_⟩; have HO201 := Aside0.mk (Kd.R_lower (Kd.R_new' (Kd.R_new' (Kd.R_new' (Kd.R_new' (Kd.R_new' ho0 (Kd.R_lt (uR HO_7.out))) (Kd.R_lt (uR HO_8.out))) (Kd.R_lt (uR HO_10.out))) (Kd.R_lt (uR HO195.out))) (Kd.R_lt (uR HO198.out))) (below_size uB)); replace HO_7 := ueR HO_7 ho0 hb; replace HO_8 := ueR HO_8 ho0 hb; replace HO_10 := ueR HO_10 ho0 hb; replace HO195 := ueR HO195 ho0 hb; replace HO198 := ueR HO198 ho0 hb; replace HR192 := Aside0.mk (Kd.C_below (by repeat (first | (with_reducible exact HR192.out) | (with_reducible refine Kd.C_alloc ?_ _) | (with_reducible refine Kd.C_drewN ?_ _) | (with_reducible refine Kd.C_drew ?_) | exact HR192.out)) hb); replace HB := uy hb; (try clear hb); (try clear hb2); (try clear hk); (try clear hi); (try clear ho0); obtain ⟨Ao73, co73, eo73⟩ := Kd.R_slice HO201.out; subst eo73) | ((with_reducible refine gate_callee (f := 116) rfl ?_); refine goesL_ (some 91) rfl rfl Try.func116 (by kernel_rfl) rfl #[.slice Ao73 t199.length co73] rfl uM ?_; (with_reducible refine (nat_trim.calls k2 (fun k_ => some k_ = (.slice Ao73 t199.length co73 : Value).ownBlock) (.slice Ao73 t199.length co73) t199 t202 w _ ?side1 ?side2 A47.out).mono ?_); (case side1 => repeat (first | (with_reducible first | exact HB.out | apply below_alloc | apply pw_below_drewN | apply below_drew1) | exact HB.out)); (case side2 => exact Kd.R_tight rfl HO201.out); rintro e w74 ⟨v203, rfl, ho0, hb, hkp⟩; refine ⟨_, rfl, ?_⟩; have HO204 := Aside0.mk (Kd.R_mono (ok' := fun k_ => some k_ ≠ (.slice (some ad183) x7_1.length co18 : Value).ownBlock ∧ some k_ ≠ (.slice (some ad186) t177.length co17 : Value).ownBlock ∧ some k_ ≠ (.slice Ao21 x10_1.length co21 : Value).ownBlock ∧ some k_ ≠ (.slice Ao70 t193.length co70 : Value).ownBlock ∧ some k_ ≠ (v197 : Value).ownBlock) ho0 (fun k_ hk_ => ⟨Or.elim hk_ (fun hs_ => fun e_ => (((HO_7.out).1 k_ e_.symm).2) hs_) (fun hn_ => (Kd.fresh' (Kd.R_lt (uR HO_7.out)) k_ hn_)), Or.elim hk_ (fun hs_ => fun e_ => (((HO_8.out).1 k_ e_.symm).2) hs_) (fun hn_ => (Kd.fresh' (Kd.R_lt (uR HO_8.out)) k_ hn_)), Or.elim hk_ (fun hs_ => fun e_ => (((HO_10.out).1 k_ e_.symm).2) hs_) (fun hn_ => (Kd.fresh' (Kd.R_lt (uR HO_10.out)) k_ hn_)), Or.elim hk_ (fun hs_ => fun e_ => (((HO195.out).1 k_ e_.symm).2) hs_) (fun hn_ => (Kd.fresh' (Kd.R_lt (uR HO195.out)) k_ hn_)), Or.elim hk_ (fun hs_ => fun e_ => (((HO198.out).1 k_ e_.symm).2) hs_) (fun hn_ => (Kd.fresh' (Kd.R_lt (uR HO198.out)) k_ hn_))⟩)); replace HO_8 := Aside0.mk (Kd.R_mono (ok' := fun k_ => some k_ ≠ (.slice (some ad183) x7_1.length co18 : Value).ownBlock ∧ some k_ ≠ (.slice Ao21 x10_1.length co21 : Value).ownBlock ∧ some k_ ≠ (.slice Ao70 t193.length co70 : Value).ownBlock ∧ some k_ ≠ (v197 : Value).ownBlock ∧ some k_ ≠ (v203 : Value).ownBlock) (Kd.R_keptB (HO_8.out) hkp (fun k_ hk_ hs_ => (hk_.2) hs_)) (fun k_ hk_ => ⟨hk_.1.1.1.1.1, hk_.1.1.1.1.2, hk_.1.1.1.2, hk_.1.1.2, fun e_ => Or.elim (ho0.1 k_ e_.symm) (fun hs_ => hk_.2.1 hs_) (fun hn_ => Nat.not_le.2 hk_.2.2 hn_)⟩)); replace HO_10 := Aside0.mk (Kd.R_mono (ok' := fun k_ => some k_ ≠ (.slice (some ad183) x7_1.length co18 : Value).ownBlock ∧ some k_ ≠ (.slice (some ad186) t177.length co17 : Value).ownBlock ∧ some k_ ≠ (.slice Ao70 t193.length co70 : Value).ownBlock ∧ some k_ ≠ (v197 : Value).ownBlock ∧ some k_ ≠ (v203 : Value).ownBlock) (Kd.R_keptB (HO_10.out) hkp (fun k_ hk_ hs_ => (hk_.2) hs_)) (fun k_ hk_ => ⟨hk_.1.1.1.1.1, hk_.1.1.1.1.2, hk_.1.1.1.2, hk_.1.1.2, fun e_ => Or.elim (ho0.1 k_ e_.symm) (fun hs_ => hk_.2.1 hs_) (fun hn_ => Nat.not_le.2 hk_.2.2 hn_)⟩)); replace HO195 := Aside0.mk (Kd.R_mono (ok' := fun k_ => some k_ ≠ (.slice (some ad183) x7_1.length co18 : Value).ownBlock ∧ some k_ ≠ (.slice (some ad186) t177.length co17 : Value).ownBlock ∧ some k_ ≠ (.slice Ao21 x10_1.length co21 : Value).ownBlock ∧ some k_ ≠ (v197 : Value).ownBlock ∧ some k_ ≠ (v203 : Value).ownBlock) (Kd.R_keptB (HO195.out) hkp (fun k_ hk_ hs_ => (hk_.2) hs_)) (fun k_ hk_ => ⟨hk_.1.1.1.1.1.2, hk_.1.1.1.1.2, hk_.1.1.1.2, hk_.1.1.2, fun e_ => Or.elim (ho0.1 k_ e_.symm) (fun hs_ => hk_.2.1 hs_) (fun hn_ => Nat.not_le.2 hk_.2.2 hn_)⟩)); replace HO198 := Aside0.mk (Kd.R_mono (ok' := fun k_ => some k_ ≠ (.slice (some ad183) x7_1.length co18 : Value).ownBlock ∧ some k_ ≠ (.slice (some ad186) t177.length co17 : Value).ownBlock ∧ some k_ ≠ (.slice Ao21 x10_1.length co21 : Value).ownBlock ∧ some k_ ≠ (.slice Ao70 t193.length co70 : Value).ownBlock ∧ some k_ ≠ (v203 : Value).ownBlock) (Kd.R_keptB (HO198.out) hkp (fun k_ hk_ hs_ => (hk_.2) hs_)) (fun k_ hk_ => ⟨hk_.1.1.1.1.1.2, hk_.1.1.1.1.2, hk_.1.1.1.2, hk_.1.1.2, fun e_ => Or.elim (ho0.1 k_ e_.symm) (fun hs_ => hk_.2.1 hs_) (fun hn_ => Nat.not_le.2 hk_.2.2 hn_)⟩)); replace HR192 := Aside0.mk ((show Kd.C (Kd.int .u64) w74 A43 y189.length y189 from by rw [Ny189.out, KA43.out]; exact Kd.C_mid (lo := (x11_1 : Int).toNat) (hi := ((wrap64 ((ji23) + 1)) : Int).toNat) (c := co18) ((Kd.R_reads' (Kd.R_mono (ok' := fun k_ => some k_ ≠ (.slice (some ad186) t177.length co17 : Value).ownBlock ∧ some k_ ≠ (.slice Ao21 x10_1.length co21 : Value).ownBlock ∧ some k_ ≠ (.slice Ao70 t193.length co70 : Value).ownBlock ∧ some k_ ≠ (v197 : Value).ownBlock ∧ some k_ ≠ (v203 : Value).ownBlock) (Kd.R_keptB (HO_7.out) hkp (fun k_ hk_ hs_ => (hk_.2) hs_)) (fun k_ hk_ => ⟨hk_.1.1.1.1.1, hk_.1.1.1.1.2, hk_.1.1.1.2, hk_.1.1.2, fun e_ => Or.elim (ho0.1 k_ e_.symm) (fun hs_ => hk_.2.1 hs_) (fun hn_ => Nat.not_le.2 hk_.2.2 hn_)⟩))).2.2) KM43.out KL43.out ((Kd.R_reads' (Kd.R_mono (ok' := fun k_ => some k_ ≠ (.slice (some ad186) t177.length co17 : Value).ownBlock ∧ some k_ ≠ (.slice Ao21 x10_1.length co21 : Value).ownBlock ∧ some k_ ≠ (.slice Ao70 t193.length co70 : Value).ownBlock ∧ some k_ ≠ (v197 : Value).ownBlock ∧ some k_ ≠ (v203 : Value).ownBlock) (Kd.R_keptB (HO_7.out) hkp (fun k_ hk_ hs_ => (hk_.2) hs_)) (fun k_ hk_ => ⟨hk_.1.1.1.1.1, hk_.1.1.1.1.2, hk_.1.1.1.2, hk_.1.1.2, fun e_ => Or.elim (ho0.1 k_ e_.symm) (fun hs_ => hk_.2.1 hs_) (fun hn_ => Nat.not_le.2 hk_.2.2 hn_)⟩))).2.1))); replace HO_7 := Aside0.mk (Kd.R_mono (ok' := fun k_ => some k_ ≠ (.slice (some ad186) t177.length co17 : Value).ownBlock ∧ some k_ ≠ (.slice Ao21 x10_1.length co21 : Value).ownBlock ∧ some k_ ≠ (.slice Ao70 t193.length co70 : Value).ownBlock ∧ some k_ ≠ (v197 : Value).ownBlock ∧ some k_ ≠ (v203 : Value).ownBlock) (Kd.R_keptB (HO_7.out) hkp (fun k_ hk_ hs_ => (hk_.2) hs_)) (fun k_ hk_ => ⟨hk_.1.1.1.1.1, hk_.1.1.1.1.2, hk_.1.1.1.2, hk_.1.1.2, fun e_ => Or.elim (ho0.1 k_ e_.symm) (fun hs_ => hk_.2.1 hs_) (fun hn_ => Nat.not_le.2 hk_.2.2 hn_)⟩)); replace HB := Aside0.mk (hb); clear HO201; (try clear hb); (try clear hkp); (try clear ho0); obtain ⟨Ao75, co75, eo75⟩ := Kd.R_slice HO204.out; subst eo75; obtain ⟨Ao76, co76, eo76⟩ := Kd.R_slice HO198.out; subst eo76) | ((with_reducible refine gate_callee (f := 105) rfl ?_); refine goesL_ (some 93) rfl rfl Try.func105 (by kernel_rfl) rfl #[.slice Ao75 t202.length co75, .slice Ao76 t196.length co76] rfl uM ?_; (with_reducible refine (nat_compare.calls k2 _ _ t202 _ _ t196 t205 _ ?side1 ?side2 ?side3 ?side4 A48.out).mono ?_); (case side1 => exact uC (Kd.R_reads' HO204.out).2.2); (case side2 => exact (Kd.R_reads' HO204.out).2.1); (case side3 => exact uC (Kd.R_reads' HO198.out).2.2); (case side4 => exact (Kd.R_reads' HO198.out).2.1); rintro e w' ⟨rfl, ⟨nd, rfl⟩⟩; refine ⟨_, rfl, ?_⟩))
      first | go_roundg k2 | ((try simp only [← hji35] at H'); simp only [← hji35]; go_roundg k2) | ((try simp only [← hji32] at H'); simp only [← hji32]; go_roundg k2) | ((try simp only [← hji29] at H'); simp only [← hji29]; go_roundg k2) | ((try simp only [← hji26] at H'); simp only [← hji26]; go_roundg k2) | ((try simp only [← hji23] at H'); simp only [← hji23]; go_roundg k2) | ((try simp only [← hji10] at H'); simp only [← hji10]; go_roundg k2)
      case measure => have := HK1.out; have := HK2.out; omega
      case rel => first | exact ⟨(IntKind.u64.wrap (x12_2 - 1)), uG, H', ⟨by have := HK1.out; have := HK2.out; omega⟩, ⟨by (try simp only [hl7_1]); (try simp only [hl10_1]); (with_reducible repeat (first | apply Kd.R_alloc | apply Kd.R_drewN | apply Kd.R_drew)); exact Kd.R_mono HO_7.out (fun _ hk => ⟨hk.1, hk.2.1⟩)⟩, ⟨by (try simp only [hl7_1]); (try simp only [hl10_1]); (with_reducible repeat (first | apply Kd.R_alloc | apply Kd.R_drewN | apply Kd.R_drew)); exact Kd.R_mono HO_8.out (fun _ hk => ⟨hk.1, hk.2.1⟩)⟩, ⟨by (try simp only [hl7_1]); (try simp only [hl10_1]); (with_reducible repeat (first | apply Kd.R_alloc | apply Kd.R_drewN | apply Kd.R_drew)); exact Kd.R_mono HO_10.out (fun _ hk => ⟨hk.1, hk.2.1⟩)⟩, ⟨by repeat (first | (with_reducible exact HR192.out) | (with_reducible refine Kd.C_alloc ?_ _) | (with_reducible refine Kd.C_drewN ?_ _) | (with_reducible refine Kd.C_drew ?_) | exact HR192.out)⟩, ⟨uB⟩⟩ | (simp only [← hji35] at H'; exact ⟨(IntKind.u64.wrap (x12_2 - 1)), uG, H', ⟨by have := HK1.out; have := HK2.out; omega⟩, ⟨by (try simp only [hl7_1]); (try simp only [hl10_1]); (with_reducible repeat (first | apply Kd.R_alloc | apply Kd.R_drewN | apply Kd.R_drew)); exact Kd.R_mono HO_7.out (fun _ hk => ⟨hk.1, hk.2.1⟩)⟩, ⟨by (try simp only [hl7_1]); (try simp only [hl10_1]); (with_reducible repeat (first | apply Kd.R_alloc | apply Kd.R_drewN | apply Kd.R_drew)); exact Kd.R_mono HO_8.out (fun _ hk => ⟨hk.1, hk.2.1⟩)⟩, ⟨by (try simp only [hl7_1]); (try simp only [hl10_1]); (with_reducible repeat (first | apply Kd.R_alloc | apply Kd.R_drewN | apply Kd.R_drew)); exact Kd.R_mono HO_10.out (fun _ hk => ⟨hk.1, hk.2.1⟩)⟩, ⟨by repeat (first | (with_reducible exact HR192.out) | (with_reducible refine Kd.C_alloc ?_ _) | (with_reducible refine Kd.C_drewN ?_ _) | (with_reducible refine Kd.C_drew ?_) | exact HR192.out)⟩, ⟨uB⟩⟩) | (simp only [← hji32] at H'; exact ⟨(IntKind.u64.wrap (x12_2 - 1)), uG, H', ⟨by have := HK1.out; have := HK2.out; omega⟩, ⟨by (try simp only [hl7_1]); (try simp only [hl10_1]); (with_reducible repeat (first | apply Kd.R_alloc | apply Kd.R_drewN | apply Kd.R_drew)); exact Kd.R_mono HO_7.out (fun _ hk => ⟨hk.1, hk.2.1⟩)⟩, ⟨by (try simp only [hl7_1]); (try simp only [hl10_1]); (with_reducible repeat (first | apply Kd.R_alloc | apply Kd.R_drewN | apply Kd.R_drew)); exact Kd.R_mono HO_8.out (fun _ hk => ⟨hk.1, hk.2.1⟩)⟩, ⟨by (try simp only [hl7_1]); (try simp only [hl10_1]); (with_reducible repeat (first | apply Kd.R_alloc | apply Kd.R_drewN | apply Kd.R_drew)); exact Kd.R_mono HO_10.out (fun _ hk => ⟨hk.1, hk.2.1⟩)⟩, ⟨by repeat (first | (with_reducible exact HR192.out) | (with_reducible refine Kd.C_alloc ?_ _) | (with_reducible refine Kd.C_drewN ?_ _) | (with_reducible refine Kd.C_drew ?_) | exact HR192.out)⟩, ⟨uB⟩⟩) | (simp only [← hji29] at H'; exact ⟨(IntKind.u64.wrap (x12_2 - 1)), uG, H', ⟨by have := HK1.out; have := HK2.out; omega⟩, ⟨by (try simp only [hl7_1]); (try simp only [hl10_1]); (with_reducible repeat (first | apply Kd.R_alloc | apply Kd.R_drewN | apply Kd.R_drew)); exact Kd.R_mono HO_7.out (fun _ hk => ⟨hk.1, hk.2.1⟩)⟩, ⟨by (try simp only [hl7_1]); (try simp only [hl10_1]); (with_reducible repeat (first | apply Kd.R_alloc | apply Kd.R_drewN | apply Kd.R_drew)); exact Kd.R_mono HO_8.out (fun _ hk => ⟨hk.1, hk.2.1⟩)⟩, ⟨by (try simp only [hl7_1]); (try simp only [hl10_1]); (with_reducible repeat (first | apply Kd.R_alloc | apply Kd.R_drewN | apply Kd.R_drew)); exact Kd.R_mono HO_10.out (fun _ hk => ⟨hk.1, hk.2.1⟩)⟩, ⟨by repeat (first | (with_reducible exact HR192.out) | (with_reducible refine Kd.C_alloc ?_ _) | (with_reducible refine Kd.C_drewN ?_ _) | (with_reducible refine Kd.C_drew ?_) | exact HR192.out)⟩, ⟨uB⟩⟩) | (simp only [← hji26] at H'; exact ⟨(IntKind.u64.wrap (x12_2 - 1)), uG, H', ⟨by have := HK1.out; have := HK2.out; omega⟩, ⟨by (try simp only [hl7_1]); (try simp only [hl10_1]); (with_reducible repeat (first | apply Kd.R_alloc | apply Kd.R_drewN | apply Kd.R_drew)); exact Kd.R_mono HO_7.out (fun _ hk => ⟨hk.1, hk.2.1⟩)⟩, ⟨by (try simp only [hl7_1]); (try simp only [hl10_1]); (with_reducible repeat (first | apply Kd.R_alloc | apply Kd.R_drewN | apply Kd.R_drew)); exact Kd.R_mono HO_8.out (fun _ hk => ⟨hk.1, hk.2.1⟩)⟩, ⟨by (try simp only [hl7_1]); (try simp only [hl10_1]); (with_reducible repeat (first | apply Kd.R_alloc | apply Kd.R_drewN | apply Kd.R_drew)); exact Kd.R_mono HO_10.out (fun _ hk => ⟨hk.1, hk.2.1⟩)⟩, ⟨by repeat (first | (with_reducible exact HR192.out) | (with_reducible refine Kd.C_alloc ?_ _) | (with_reducible refine Kd.C_drewN ?_ _) | (with_reducible refine Kd.C_drew ?_) | exact HR192.out)⟩, ⟨uB⟩⟩) | (simp only [← hji23] at H'; exact ⟨(IntKind.u64.wrap (x12_2 - 1)), uG, H', ⟨by have := HK1.out; have := HK2.out; omega⟩, ⟨by (try simp only [hl7_1]); (try simp only [hl10_1]); (with_reducible repeat (first | apply Kd.R_alloc | apply Kd.R_drewN | apply Kd.R_drew)); exact Kd.R_mono HO_7.out (fun _ hk => ⟨hk.1, hk.2.1⟩)⟩, ⟨by (try simp only [hl7_1]); (try simp only [hl10_1]); (with_reducible repeat (first | apply Kd.R_alloc | apply Kd.R_drewN | apply Kd.R_drew)); exact Kd.R_mono HO_8.out (fun _ hk => ⟨hk.1, hk.2.1⟩)⟩, ⟨by (try simp only [hl7_1]); (try simp only [hl10_1]); (with_reducible repeat (first | apply Kd.R_alloc | apply Kd.R_drewN | apply Kd.R_drew)); exact Kd.R_mono HO_10.out (fun _ hk => ⟨hk.1, hk.2.1⟩)⟩, ⟨by repeat (first | (with_reducible exact HR192.out) | (with_reducible refine Kd.C_alloc ?_ _) | (with_reducible refine Kd.C_drewN ?_ _) | (with_reducible refine Kd.C_drew ?_) | exact HR192.out)⟩, ⟨uB⟩⟩) | (simp only [← hji10] at H'; exact ⟨(IntKind.u64.wrap (x12_2 - 1)), uG, H', ⟨by have := HK1.out; have := HK2.out; omega⟩, ⟨by (try simp only [hl7_1]); (try simp only [hl10_1]); (with_reducible repeat (first | apply Kd.R_alloc | apply Kd.R_drewN | apply Kd.R_drew)); exact Kd.R_mono HO_7.out (fun _ hk => ⟨hk.1, hk.2.1⟩)⟩, ⟨by (try simp only [hl7_1]); (try simp only [hl10_1]); (with_reducible repeat (first | apply Kd.R_alloc | apply Kd.R_drewN | apply Kd.R_drew)); exact Kd.R_mono HO_8.out (fun _ hk => ⟨hk.1, hk.2.1⟩)⟩, ⟨by (try simp only [hl7_1]); (try simp only [hl10_1]); (with_reducible repeat (first | apply Kd.R_alloc | apply Kd.R_drewN | apply Kd.R_drew)); exact Kd.R_mono HO_10.out (fun _ hk => ⟨hk.1, hk.2.1⟩)⟩, ⟨by repeat (first | (with_reducible exact HR192.out) | (with_reducible refine Kd.C_alloc ?_ _) | (with_reducible refine Kd.C_drewN ?_ _) | (with_reducible refine Kd.C_drew ?_) | exact HR192.out)⟩, ⟨uB⟩⟩)
   rw [if_neg c22] at H
   have c22b0 : decide (0 ≤ x11_1) = false := decide_eq_false c22
   clear c22
   replace H := ub H; obtain ⟨t211, A77, H⟩ := H
   replace H := uT H; obtain ⟨c78, H⟩ := H
   have c78b0 := eq_true c78
   have c78b1 : decide (0 ≤ (t211.length : Int)) = true := decide_eq_true c78
   clear c78
   replace H := uT H; obtain ⟨c79, H⟩ := H
   have c79b0 := eq_true c79
   have c79b1 : decide (((t211.length : Int) : Int).toNat ≤ 35184372088832) = true := decide_eq_true c79
   clear c79
   obtain ⟨y214, hy214⟩ : ∃ y_ : List Int, y_ = (List.replicate ((t211.length : Int) : Int).toNat 0) := ⟨_, rfl⟩
   replace H : (nat_long.l2 k1 (IntKind.u64.wrap (t170)) x10_1 t211 y214 (t211.length : Int) 0) = some (r1, r2) := by first | (rw [hy214]; with_reducible exact H) | (have H2_ := (Option.bind_some _ _).symm.trans H; rw [hy214]; with_reducible exact H2_) | (have H2_ := (Option.bind_some _ _).symm.trans H; with_reducible exact H2_) | with_reducible exact H | (rw [hy214]; exact H) | exact H
   have Ny214 := Aside0.mk hy214; clear hy214
   have H' := Aside0.mk H
   clear H
   go_wp2_with (first | ((with_reducible refine gate_callee (f := 116) rfl ?_); refine goesL_ (some 107) rfl rfl Try.func116 (by kernel_rfl) rfl #[.slice Ao18 x7_1.length co18] rfl uM ?_; (with_reducible refine (nat_trim.calls k1 (fun k_ => some k_ = (.slice Ao18 x7_1.length co18 : Value).ownBlock) (.slice Ao18 x7_1.length co18) x7_1 t211 w _ ?side1 ?side2 A77.out).mono ?_); (case side1 => repeat (first | (with_reducible first | exact HB.out | apply below_alloc | apply pw_below_drewN | apply below_drew1) | exact HB.out)); (case side2 => exact Kd.R_tight rfl HO_7.out); rintro e w80 ⟨v212, rfl, ho0, hb, hkp⟩; refine ⟨_, rfl, ?_⟩; have HO213 := Aside0.mk (Kd.R_mono (ok' := fun k_ => some k_ ≠ (.slice Ao17 t177.length co17 : Value).ownBlock ∧ some k_ ≠ (.slice Ao21 x10_1.length co21 : Value).ownBlock) ho0 (fun k_ hk_ => ⟨Or.elim hk_ (fun hs_ => fun e_ => (((HO_8.out).1 k_ e_.symm).1) hs_) (fun hn_ => (Kd.fresh' (Kd.R_lt (uR HO_8.out)) k_ hn_)), Or.elim hk_ (fun hs_ => fun e_ => (((HO_10.out).1 k_ e_.symm).1) hs_) (fun hn_ => (Kd.fresh' (Kd.R_lt (uR HO_10.out)) k_ hn_))⟩)); replace HO_8 := Aside0.mk (Kd.R_mono (ok' := fun k_ => some k_ ≠ (.slice Ao21 x10_1.length co21 : Value).ownBlock ∧ some k_ ≠ (v212 : Value).ownBlock) (Kd.R_keptB (HO_8.out) hkp (fun k_ hk_ hs_ => (hk_.1) hs_)) (fun k_ hk_ => ⟨hk_.1.2, fun e_ => Or.elim (ho0.1 k_ e_.symm) (fun hs_ => hk_.2.1 hs_) (fun hn_ => Nat.not_le.2 hk_.2.2 hn_)⟩)); replace HO_10 := Aside0.mk (Kd.R_mono (ok' := fun k_ => some k_ ≠ (.slice Ao17 t177.length co17 : Value).ownBlock ∧ some k_ ≠ (v212 : Value).ownBlock) (Kd.R_keptB (HO_10.out) hkp (fun k_ hk_ hs_ => (hk_.1) hs_)) (fun k_ hk_ => ⟨hk_.1.2, fun e_ => Or.elim (ho0.1 k_ e_.symm) (fun hs_ => hk_.2.1 hs_) (fun hn_ => Nat.not_le.2 hk_.2.2 hn_)⟩)); replace HB := Aside0.mk (hb); clear HO_7; (try clear hb); (try clear hkp); (try clear ho0); obtain ⟨Ao81, co81, eo81⟩ := Kd.R_slice HO213.out; subst eo81) | ((with_reducible refine gate_dst (N := 110) rfl ?_); (try (refine gate_guard (by rfl) ?_; dsimp only)); refine Kd.R_make (Kd.int .u64) _ 50 rfl (N := 110) rfl 23 _ _ rfl (t211.length : Int) rfl rfl Try.underlying23 (.int .u64 0) 8 info50 rfl (by decide) (by omega) 0 (ok := fun _ => True) (okp := fun _ => True) rfl (fun _ hk => hk) trivial uO (Nat.le_trans (Nat.mul_le_mul_right _ (uO : (t211.length : Int).toNat ≤ 35184372088832)) (by omega)) (Below.refl _ _) (Nat.le_refl _) ?_; intro v215 w82 ho83 hb hg_ hnew_; clear hg_ hnew_; (first | rw [← Ny214.out] at ho83 | (simp only [Int.reduceToNat] at ho83; rw [← Ny214.out] at ho83)); have HO216 := Aside0.mk (Kd.R_lower (Kd.R_new' (Kd.R_new' (Kd.R_new' ho83 (Kd.R_lt (uR HO_8.out))) (Kd.R_lt (uR HO_10.out))) (Kd.R_lt (uR HO213.out))) (below_size uB)); replace HO_8 := ueR HO_8 ho83 hb; replace HO_10 := ueR HO_10 ho83 hb; replace HO213 := ueR HO213 ho83 hb; replace HB := uy hb; clear hb ho83))
   go_loopg [113] k1 (fun kq v113 w' => ∃ (x16_2 : List Int) (x113_2 : Int), v113 = .int .i64 x113_2 ∧ Aside0 (nat_long.l2 kq (IntKind.u64.wrap (t170)) x10_1 t211 x16_2 (t211.length : Int) x113_2 = some (r1, r2)) ∧ Aside0 (kq ≤ k1) ∧ Aside0 (Kd.R (Kd.int .u64) 50 w' w.heap.size (fun k_ => some k_ ≠ ((.slice Ao81 t211.length co81) : Value).ownBlock ∧ some k_ ≠ (v215 : Value).ownBlock) (.slice Ao21 x10_1.length co21) x10_1) ∧ Aside0 (Kd.R (Kd.int .u64) 50 w' w.heap.size (fun k_ => some k_ ≠ ((.slice Ao21 x10_1.length co21) : Value).ownBlock ∧ some k_ ≠ (v215 : Value).ownBlock) (.slice Ao81 t211.length co81) t211) ∧ Aside0 (Kd.R (Kd.int .u64) 50 w' w.heap.size (fun k_ => some k_ ≠ ((.slice Ao21 x10_1.length co21) : Value).ownBlock ∧ some k_ ≠ ((.slice Ao81 t211.length co81) : Value).ownBlock) v215 x16_2) ∧ Aside0 (Below w.heap.size w w'))
   case atStart => exact ⟨(y214), (0), uG, H', ⟨Nat.le_refl _⟩, ⟨by (try simp only [hl7_1]); (try simp only [hl10_1]); (with_reducible repeat (first | apply Kd.R_alloc | apply Kd.R_drewN | apply Kd.R_drew)); exact Kd.R_mono HO_10.out (fun _ hk => ⟨hk.1.2, hk.2⟩)⟩, ⟨by (try simp only [hl7_1]); (try simp only [hl10_1]); (with_reducible repeat (first | apply Kd.R_alloc | apply Kd.R_drewN | apply Kd.R_drew)); exact Kd.R_mono HO213.out (fun _ hk => ⟨hk.1.2, hk.2⟩)⟩, ⟨by (try simp only [hl7_1]); (try simp only [hl10_1]); (with_reducible repeat (first | apply Kd.R_alloc | apply Kd.R_drewN | apply Kd.R_drew)); exact Kd.R_mono HO216.out (fun _ hk => ⟨hk.1.2, hk.2⟩)⟩, ⟨uB⟩⟩
   case round =>
    clear H'
    (try clear c1); (try clear p1 p1); (try clear q1 q1); (try clear hx1); (try clear c2); (try clear p2 p2); (try clear c3); (try clear c4); (try clear c4b0); (try clear q4 q4); (try clear c5); (try clear c5b0); (try clear p5); (try clear q5); (try clear hx5); (try clear hf5); (try clear c6); (try clear p6 p6); (try clear c7); (try clear c9); (try clear c10); (try clear c11); (try clear c11b0); (try clear c11b1); (try clear c12); (try clear c12b0); (try clear c12b1); (try clear p16 p16); (try clear q16 q16); (try clear hx16); (try clear p18 p18); (try clear q18 q18); (try clear hx18); (try clear c22); (try clear c22b0); (try clear c24); (try clear c24b0); (try clear c25); (try clear c25b0); (try clear c27); (try clear c27b0); (try clear c28); (try clear c28b0); (try clear c30); (try clear c30b0); (try clear c31); (try clear c31b0); (try clear c33); (try clear c33b0); (try clear c34); (try clear c34b0); (try clear c36); (try clear c36b0); (try clear c37); (try clear c37b0); (try clear c39); (try clear c39b0); (try clear c39b1); (try clear c40); (try clear c40b0); (try clear c40b1); (try clear c41); (try clear c41b0); (try clear c41b1); (try clear c43); (try clear q43 q43); (try clear c49); (try clear c49b0); (try clear c51); (try clear c51b0); (try clear c51b1); (try clear c52); (try clear c52b0); (try clear c53); (try clear c53b0); (try clear p54 p54); (try clear q54 q54); (try clear hx54 hx54_0); (try clear hf54); (try clear p64); (try clear c68); (try clear c78); (try clear c78b0); (try clear c78b1); (try clear c79); (try clear c79b0); (try clear c79b1); (try clear hx169_0); (try clear hx183_0); (try clear hx184_0); (try clear hx185_0); (try clear hx186_0); (try clear hx187_0); (try clear p169); (try clear p183); (try clear p184); (try clear p185); (try clear p186); (try clear p187); (try clear q043); (try clear q169); (try clear q183); (try clear q184); (try clear q185); (try clear q186); (try clear q187)
    obtain ⟨x16_2, x113_2, rfl, HA, HK2, HO_10, HO_15, HO_16, HB⟩ := hrel
    cases gk with
    | zero => exact absurd HA.out (by simp [nat_long.l2])
    | succ k2 =>
     have H := HA.out
     clear HA
     simp only [nat_long.l2] at H
     by_cases c84 : x113_2 < (t211.length : Int)
     ·
      rw [if_pos c84] at H
      have c84b0 : decide (x113_2 < (t211.length : Int)) = true := decide_eq_true c84
      (try (have c84b0h0 := c84b0; simp only [hl7_1] at c84b0h0))
      (try (have c84b0h1 := c84b0; simp only [hl10_1] at c84b0h1))
      clear c84
      replace H := uT H; obtain ⟨c85, H⟩ := H
      have c85b0 : decide (0 ≤ x113_2) = true := decide_eq_true c85
      clear c85
      replace H := uT H; obtain ⟨c86, H⟩ := H
      have c86b0 : decide (x113_2 < (t211.length : Int)) = true := decide_eq_true c86
      (try (have c86b0h0 := c86b0; simp only [hl7_1] at c86b0h0))
      (try (have c86b0h1 := c86b0; simp only [hl10_1] at c86b0h1))
      clear c86
      obtain ⟨ji87, hji87⟩ : ∃ j_ : Int, (IntKind.u64.wrap (t170)) = j_ := ⟨_, rfl⟩
      first | rw [hji87] at H | simp only [hji87] at H
      replace H := uT H; obtain ⟨c88, H⟩ := H
      have c88b0 := eq_true c88
      have c88b1 : decide (0 ≤ (ji87)) = true := decide_eq_true c88
      clear c88
      obtain ⟨ji89, hji89⟩ : ∃ j_ : Int, (shr .u64 (rd t211 x113_2) (ji87)) = j_ := ⟨_, rfl⟩
      first | rw [hji89] at H | simp only [hji89] at H
      have hji89_ : ((rd t211 x113_2) / 2 ^ min (ji87).toNat 64) = ji89 := hji89
      have hji89z : (ji87) ≤ 64 → ((rd t211 x113_2) / 2 ^ (ji87).toNat) = ji89 := shr_small hji89
      replace H := uT H; obtain ⟨c90, H⟩ := H
      have c90b0 : decide (x113_2 < (x16_2.length : Int)) = true := decide_eq_true c90
      (try (have c90b0h0 := c90b0; simp only [hl7_1] at c90b0h0))
      (try (have c90b0h1 := c90b0; simp only [hl10_1] at c90b0h1))
      clear c90
      obtain ⟨y218, hy218⟩ : ∃ y_ : List Int, y_ = (x16_2.set (x113_2 : Int).toNat (ji89)) := ⟨_, rfl⟩
      replace H : (if (ji87) > 0 then (if (wrap64 (x113_2 + 1)) < (t211.length : Int) then (if 0 ≤ (wrap64 (x113_2 + 1)) then (if 0 ≤ (IntKind.u64.wrap (64 - (ji87))) then (nat_long.l2 k2 (ji87) x10_1 t211 (y218.set (x113_2 : Int).toNat (Go.bits .or .u64 (rd y218 x113_2) (shl .u64 (rd t211 (wrap64 (x113_2 + 1))) (IntKind.u64.wrap (64 - (ji87)))))) (t211.length : Int) (wrap64 (x113_2 + 1))) else (none)) else (none)) else (nat_long.l2 k2 (ji87) x10_1 t211 y218 (t211.length : Int) (wrap64 (x113_2 + 1)))) else (nat_long.l2 k2 (ji87) x10_1 t211 y218 (t211.length : Int) (wrap64 (x113_2 + 1)))) = some (r1, r2) := by first | (rw [hy218]; with_reducible exact H) | (have H2_ := (Option.bind_some _ _).symm.trans H; rw [hy218]; with_reducible exact H2_) | (have H2_ := (Option.bind_some _ _).symm.trans H; with_reducible exact H2_) | with_reducible exact H | (rw [hy218]; exact H) | exact H
      have Ny218 := Aside0.mk hy218; clear hy218
      by_cases c92 : (ji87) > 0
      ·
       rw [if_pos c92] at H
       have c92b0 : decide (0 < (ji87)) = true := decide_eq_true c92
       clear c92
       by_cases c93 : (wrap64 (x113_2 + 1)) < (t211.length : Int)
       ·
        rw [if_pos c93] at H
        have c93b0 : decide ((wrap64 (x113_2 + 1)) < (t211.length : Int)) = true := decide_eq_true c93
        (try (have c93b0h0 := c93b0; simp only [hl7_1] at c93b0h0))
        (try (have c93b0h1 := c93b0; simp only [hl10_1] at c93b0h1))
        clear c93
        obtain ⟨ji94, hji94⟩ : ∃ j_ : Int, (wrap64 (x113_2 + 1)) = j_ := ⟨_, rfl⟩
        first | rw [hji94] at H | simp only [hji94] at H
        (try rw [hji94] at c93b0)
        have hji94w : (IntKind.i64.wrap (x113_2 + 1)) = ji94 := (i64_w _).trans hji94
        replace H := uT H; obtain ⟨c95, H⟩ := H
        have c95b0 : decide (0 ≤ (ji94)) = true := decide_eq_true c95
        clear c95
        obtain ⟨ji96, hji96⟩ : ∃ j_ : Int, (IntKind.u64.wrap (64 - (ji87))) = j_ := ⟨_, rfl⟩
        first | rw [hji96] at H | simp only [hji96] at H
        replace H := uT H; obtain ⟨c97, H⟩ := H
        have c97b0 := eq_true c97
        have c97b1 : decide (0 ≤ (ji96)) = true := decide_eq_true c97
        clear c97
        obtain ⟨ji98, hji98⟩ : ∃ j_ : Int, (shl .u64 (rd t211 (ji94)) (ji96)) = j_ := ⟨_, rfl⟩
        first | rw [hji98] at H | simp only [hji98] at H
        have hji98_ : (IntKind.u64.wrap ((rd t211 (ji94)) * 2 ^ min (ji96).toNat 64)) = ji98 := hji98
        have hji98z : (ji96) ≤ 64 → (IntKind.u64.wrap ((rd t211 (ji94)) * 2 ^ (ji96).toNat)) = ji98 := shl_small hji98
        obtain ⟨y221, hy221⟩ : ∃ y_ : List Int, y_ = (y218.set (x113_2 : Int).toNat (Go.bits .or .u64 (rd y218 x113_2) (ji98))) := ⟨_, rfl⟩
        replace H : (nat_long.l2 k2 (ji87) x10_1 t211 y221 (t211.length : Int) ji94) = some (r1, r2) := by first | (rw [hy221]; with_reducible exact H) | (have H2_ := (Option.bind_some _ _).symm.trans H; rw [hy221]; with_reducible exact H2_) | (have H2_ := (Option.bind_some _ _).symm.trans H; with_reducible exact H2_) | with_reducible exact H | (rw [hy221]; exact H) | exact H
        have Ny221 := Aside0.mk hy221; clear hy221
        have H' := Aside0.mk H
        clear H
        have p217 : 0 ≤ (x113_2 : Int) := uO
        have q217 : x113_2 < (t211.length : Int) := uO
        obtain ⟨ad217, e217, hx217_0⟩ := Kd.at_int (Kd.R_reads' HO_15.out).2.2 x113_2 p217 q217
        cases e217
        replace p217 := eq_true p217
        replace q217 := eq_true q217
        have p91 : 0 ≤ (x113_2 : Int) := uO
        have q91 : (x113_2 : Int) < ((x16_2.length : Int) : Int) := uO
        obtain ⟨go91, co91, eo91, gb91, gl91, cl91, HG91⟩ := Kd.R_form HO_16.out (by omega)
        (first | cases eo91 | (injection eo91 with ea_ en_ ec_; (first | subst ea_ | (injection ea_ with ea_; subst ea_)); subst ec_; clear en_))
        have GB91 := Aside0.mk gb91; have GG91 := Aside0.mk HG91; clear gb91 gl91 HG91
        obtain ⟨hx91_0, hf91_0⟩ := Kd.R_celln 0 HO_16.out (x113_2 : Int) p91 q91
        replace p91 := eq_true p91
        replace q91 := eq_true q91
        have HP100 := Kd.R_putg HO_16.out (x113_2 : Int) ji89
        try go_wp2_with (first | ((with_reducible refine gate_store (t := 50) (p := 124) rfl ?_); refine store_event (t := 50) (p := 124) (v := ?vo_w101) (w1 := (wr.setCell ⟨go91, (x113_2 : Int).toNat, none⟩ (.int .u64 ji89))) ?hg ?ho ?hn ?hr ?_; (case ho => rfl); (case hg => rfl); (case hn => rfl); (case hr => first | (go_simp; done) | (go_simp; rfl) | (obtain ⟨hy_, hz_⟩ := Kd.R_celln 0 HO_16.out (x113_2 : Int) uO uO; (try simp only [Go.IntWalk.toNatUp] at hy_ hz_); (try simp only [Int.reduceToNat, Int.toNat_zero, Int.toNat_ofNat] at hy_ hz_); first | (go_simp; done) | (go_simp; rfl))); intro w101 hw; have hg : wr.grownBy w101 (some go91) := (by rw [hw]; exact HP100.2); have hp_ : Kd.R (Kd.int .u64) 50 w101 w.heap.size (fun k_ => some k_ ≠ (.slice Ao21 x10_1.length co21 : Value).ownBlock ∧ some k_ ≠ (.slice (some ad217) t211.length co81 : Value).ownBlock) (.slice (some ⟨go91, 0, none⟩) x16_2.length co91) y218 := (by rw [hw, Ny218.out]; exact HP100.1); clear HP100; replace HO_10 := Aside0.mk (Kd.R_after (v := (.slice (some ⟨go91, 0, none⟩) x16_2.length co91)) (v1 := (.slice (some ⟨go91, 0, none⟩) x16_2.length co91)) (ok := (fun k_ => some k_ ≠ (.slice (some ad217) t211.length co81 : Value).ownBlock)) (uR HO_10.out) hg (.inl rfl)); replace HO_15 := Aside0.mk (Kd.R_after (v := (.slice (some ⟨go91, 0, none⟩) x16_2.length co91)) (v1 := (.slice (some ⟨go91, 0, none⟩) x16_2.length co91)) (ok := (fun k_ => some k_ ≠ (.slice Ao21 x10_1.length co21 : Value).ownBlock)) (uR HO_15.out) hg (.inl rfl)); replace HO_16 := Aside0.mk (hp_); replace HB := Aside0.mk ((by rw [hw]; exact below_set (HB.out) GB91.out : Below w.heap.size w w101)); clear hg hw hp_))
        replace HO_10 := Aside0.mk (Kd.R_drew HO_10.out); replace HO_15 := Aside0.mk (Kd.R_drew HO_15.out); replace HO_16 := Aside0.mk (Kd.R_drew HO_16.out); replace HB := Aside0.mk (below_drew1 HB.out)
        have p219 : 0 ≤ (x113_2 : Int) := uO
        have q219 : x113_2 < (y218.length : Int) := (by have h_ : (x113_2 : Int) < ((x16_2.length : Int) : Int) := uO; first | (have e_ := (Kd.R_reads' HO_16.out).1; omega) | simpa only [Ny218.out, List.length_set] using h_)
        have ql219 : ((x113_2 : Int) < ((x16_2.length : Int) : Int)) = True := eq_true uO
        obtain ⟨ad219, e219, hx219_0⟩ := Kd.at_int (Kd.R_reads' HO_16.out).2.2 x113_2 p219 q219
        obtain rfl : (⟨go91, 0, none⟩ : Addr) = ad219 := (by injection e219)
        (first | simp only [add_plain] at hx219_0 | simp only [add_at] at hx219_0 | simp only [Addr.add, Nat.zero_add] at hx219_0 | skip)
        replace p219 := eq_true p219
        replace q219 := eq_true q219
        have p220 : 0 ≤ ((ji94) : Int) := uO
        have q220 : (ji94) < (t211.length : Int) := uO
        obtain ⟨ad220, e220, hx220_0⟩ := Kd.at_int (Kd.R_reads' HO_15.out).2.2 (ji94) p220 q220
        obtain rfl : ad217 = ad220 := (by injection e220)
        replace p220 := eq_true p220
        replace q220 := eq_true q220
        have p99 : 0 ≤ (x113_2 : Int) := uO
        have q99 : (x113_2 : Int) < ((x16_2.length : Int) : Int) := uO
        obtain ⟨hx99_0, hf99_0⟩ := Kd.R_celln 0 HO_16.out (x113_2 : Int) p99 q99
        replace p99 := eq_true p99
        replace q99 := eq_true q99
        have HP103 := Kd.R_putn HO_16.out (x113_2 : Int) (Go.bits .or .u64 (rd y218 x113_2) (ji98))
        rw [← Ny221.out] at HP103
        have HQ103 := Aside0.mk HP103; clear HP103
        refine start_ (n := 15) (S := fun w' => w'.cell? ⟨go91, (x113_2).toNat, none⟩ = some (.int .u64 (rd y218 x113_2)) ∧ w'.cell? (ad217.add ((ji94)).toNat) = some (.int .u64 (rd t211 (ji94)))) (ds := [14]) #[false,false,false,false,false,false,false,false,false,false,false,false,false,false,false] (by kernel_rfl) rfl rfl ⟨hx219_0, hx220_0⟩ (fun hHeld => ?_); refine with_tabW nat_long.tab22 nat_long.bits22 (fun HT_ HW_ => ?_)
        generalize w101.drew = w102 at HO_10 HO_15 HO_16 HB HQ103 hf99_0 hx219_0 hx220_0 hx99_0 hHeld ⊢
        refine pure_ (i := 0) (N := some 134) (v := ?_) (a' := ?_) #[true,false,false,false,false,false,false,false,false,false,false,false,false,false,false] rfl rfl (any_of HT_.out (by kernel_rfl)) (fun _ _ _ h => h) (Or.inl ⟨by rfl, ?_⟩) ?_ ?_
        rotate_left
        ·
         intro w'
         go_simp
         with_reducible rfl
        rotate_left
        · exact uQ
        refine pure_ (i := 1) (N := some 135) (v := ?_) (a' := ?_) #[true,true,false,false,false,false,false,false,false,false,false,false,false,false,false] rfl rfl (any_of HT_.out (by kernel_rfl)) (fun _ _ _ h => h) (Or.inl ⟨by rfl, ?_⟩) ?_ ?_
        rotate_left
        ·
         intro w'
         go_simp
         with_reducible rfl
        rotate_left
        · exact uQ
        refine pure_ (i := 2) (N := some 136) (v := ?_) (a' := ?_) #[true,true,true,false,false,false,false,false,false,false,false,false,false,false,false] rfl rfl (any_of HT_.out (by kernel_rfl)) (fun _ _ _ h => h) (Or.inl ⟨by rfl, ?_⟩) ?_ ?_
        rotate_left
        ·
         intro w'
         go_simp
         with_reducible rfl
        rotate_left
        · exact uQ
        refine pure_ (i := 4) (N := some 138) (v := ?_) (a' := ?_) #[true,true,true,false,true,false,false,false,false,false,false,false,false,false,false] rfl rfl (any_of HT_.out (by kernel_rfl)) (fun _ _ _ h => h) (Or.inl ⟨by rfl, ?_⟩) ?_ ?_
        rotate_left
        ·
         intro w'
         go_simp
         with_reducible rfl
        rotate_left
        · exact uQ
        refine pure_ (i := 5) (N := some 139) (v := ?_) (a' := ?_) #[true,true,true,false,true,true,false,false,false,false,false,false,false,false,false] rfl rfl (any_of HT_.out (by kernel_rfl)) (fun _ _ _ h => h) (Or.inl ⟨by rfl, ?_⟩) ?_ ?_
        rotate_left
        ·
         intro w'
         go_simp
         with_reducible rfl
        rotate_left
        · exact uQ
        refine pure_ (i := 6) (N := some 140) (v := ?_) (a' := ?_) #[true,true,true,false,true,true,true,false,false,false,false,false,false,false,false] rfl rfl (any_of HT_.out (by kernel_rfl)) (fun _ _ _ h => h) (Or.inl ⟨by rfl, ?_⟩) ?_ ?_
        rotate_left
        ·
         intro w'
         go_simp
         with_reducible rfl
        rotate_left
        · exact uQ
        refine pure_ (i := 7) (N := some 141) (v := ?_) (a' := ?_) #[true,true,true,false,true,true,true,true,false,false,false,false,false,false,false] rfl rfl (any_of HT_.out (by kernel_rfl)) (fun _ _ _ h => h) (Or.inl ⟨by rfl, ?_⟩) ?_ ?_
        rotate_left
        ·
         intro w'
         go_simp
         with_reducible rfl
        rotate_left
        · exact uQ
        refine pure_ (i := 9) (N := some 143) (v := ?_) (a' := ?_) #[true,true,true,false,true,true,true,true,false,true,false,false,false,false,false] rfl rfl (any_of HT_.out (by kernel_rfl)) (fun _ _ _ h => h) (Or.inl ⟨by rfl, ?_⟩) ?_ ?_
        rotate_left
        ·
         intro w'
         go_simp
         with_reducible rfl
        rotate_left
        · exact uQ
        refine pure_ (i := 10) (N := some 144) (v := ?_) (a' := ?_) #[true,true,true,false,true,true,true,true,false,true,true,false,false,false,false] rfl rfl (any_of HT_.out (by kernel_rfl)) (fun _ _ _ h => h) (Or.inl ⟨by rfl, ?_⟩) ?_ ?_
        rotate_left
        ·
         intro w'
         go_simp
         with_reducible rfl
        rotate_left
        · exact uQ
        refine take_ (i := 3) (N := some 137) (v := ?_) (a' := ?_) #[true,true,true,true,true,true,true,true,false,true,true,false,false,false,false] rfl rfl (take_ofW HT_.out HW_.out (by kernel_rfl)) (fun _ _ _ h => h) (Or.inl ⟨by rfl, ?_⟩) hHeld ?_ ?_
        rotate_left
        ·
         rintro w' ⟨s0, s1⟩
         go_simp
         with_reducible rfl
        rotate_left
        · exact uQ
        refine take_ (i := 8) (N := some 142) (v := ?_) (a' := ?_) #[true,true,true,true,true,true,true,true,true,true,true,false,false,false,false] rfl rfl (take_ofW HT_.out HW_.out (by kernel_rfl)) (fun _ _ _ h => h) (Or.inl ⟨by rfl, ?_⟩) hHeld ?_ ?_
        rotate_left
        ·
         rintro w' ⟨s0, s1⟩
         go_simp
         with_reducible rfl
        rotate_left
        · exact uQ
        refine pure_ (i := 11) (N := some 145) (v := ?_) (a' := ?_) #[true,true,true,true,true,true,true,true,true,true,true,true,false,false,false] rfl rfl (any_of HT_.out (by kernel_rfl)) (fun _ _ _ h => h) (Or.inl ⟨by rfl, ?_⟩) ?_ ?_
        rotate_left
        ·
         intro w'
         go_simp
         with_reducible rfl
        rotate_left
        · exact uQ
        refine pure_ (i := 12) (N := some 146) (v := ?_) (a' := ?_) #[true,true,true,true,true,true,true,true,true,true,true,true,true,false,false] rfl rfl (any_of HT_.out (by kernel_rfl)) (fun _ _ _ h => h) (Or.inl ⟨by rfl, ?_⟩) ?_ ?_
        rotate_left
        ·
         intro w'
         go_simp
         with_reducible rfl
        rotate_left
        · exact uQ
        refine pure_ (i := 13) (N := some 147) (v := ?_) (a' := ?_) #[true,true,true,true,true,true,true,true,true,true,true,true,true,true,false] rfl rfl (any_of HT_.out (by kernel_rfl)) (fun _ _ _ h => h) (Or.inl ⟨by rfl, ?_⟩) ?_ ?_
        rotate_left
        ·
         intro w'
         go_simp
         with_reducible rfl
        rotate_left
        · exact uQ
        refine last_ (i := 14) (N := none) #[true,true,true,true,true,true,true,true,true,true,true,true,true,true,true] rfl rfl (one_of HT_.out (by kernel_rfl)) (by decide) (fun K hK => ?_)
        refine skip_ (w1 := ?_) (by rfl) rfl ?_ ?_
        rotate_left
        ·
         go_simp
         rfl
        refine hK.out _ _ ?_; clear hK K
        refine done_ (done_of HT_.out (by kernel_rfl)) ?_
        try go_wp2
        first | go_roundg k2 | ((try simp only [← hji98] at H'); simp only [← hji98]; go_roundg k2) | ((try simp only [← hji96] at H'); simp only [← hji96]; go_roundg k2) | ((try simp only [← hji94] at H'); simp only [← hji94]; go_roundg k2) | ((try simp only [← hji89] at H'); simp only [← hji89]; go_roundg k2) | ((try simp only [← hji87] at H'); simp only [← hji87]; go_roundg k2) | ((try simp only [← hji35] at H'); simp only [← hji35]; go_roundg k2)
        case measure => have := HK1.out; have := HK2.out; omega
        case rel => first | exact ⟨(y221), (ji94), (by first | rfl | (simp; done) | (simp only [← hji94] <;> (first | rfl | simp)) | (simp [*]; done)), H', ⟨by have := HK1.out; have := HK2.out; omega⟩, ⟨by (try simp only [hl7_1]); (try simp only [hl10_1]); (with_reducible repeat (first | apply Kd.R_alloc | apply Kd.R_drewN | apply Kd.R_drew)); exact Kd.R_mono (Kd.R_far (p := ⟨go91, (x113_2 : Int).toNat, none⟩) (Kd.R_mono HO_10.out (fun k_ hk => (⟨hk, fun e_ => hk.2 (by rw [e_]; rfl)⟩ : _ ∧ k_ ≠ go91))) (fun _ hk => hk.2) (.int .u64 (Go.bits .or .u64 (rd y218 x113_2) (ji98)))) (fun _ hk => ⟨hk.1.1, hk.1.2⟩)⟩, ⟨by (try simp only [hl7_1]); (try simp only [hl10_1]); (with_reducible repeat (first | apply Kd.R_alloc | apply Kd.R_drewN | apply Kd.R_drew)); exact Kd.R_mono (Kd.R_far (p := ⟨go91, (x113_2 : Int).toNat, none⟩) (Kd.R_mono HO_15.out (fun k_ hk => (⟨hk, fun e_ => hk.2 (by rw [e_]; rfl)⟩ : _ ∧ k_ ≠ go91))) (fun _ hk => hk.2) (.int .u64 (Go.bits .or .u64 (rd y218 x113_2) (ji98)))) (fun _ hk => ⟨hk.1.1, hk.1.2⟩)⟩, ⟨by (try simp only [hl7_1]); (try simp only [hl10_1]); (with_reducible repeat (first | apply Kd.R_alloc | apply Kd.R_drewN | apply Kd.R_drew)); exact HQ103.out⟩, ⟨uB⟩⟩ | (simp only [← hji98] at H'; exact ⟨(y221), (ji94), (by first | rfl | (simp; done) | (simp only [← hji94] <;> (first | rfl | simp)) | (simp [*]; done)), H', ⟨by have := HK1.out; have := HK2.out; omega⟩, ⟨by (try simp only [hl7_1]); (try simp only [hl10_1]); (with_reducible repeat (first | apply Kd.R_alloc | apply Kd.R_drewN | apply Kd.R_drew)); exact Kd.R_mono (Kd.R_far (p := ⟨go91, (x113_2 : Int).toNat, none⟩) (Kd.R_mono HO_10.out (fun k_ hk => (⟨hk, fun e_ => hk.2 (by rw [e_]; rfl)⟩ : _ ∧ k_ ≠ go91))) (fun _ hk => hk.2) (.int .u64 (Go.bits .or .u64 (rd y218 x113_2) (ji98)))) (fun _ hk => ⟨hk.1.1, hk.1.2⟩)⟩, ⟨by (try simp only [hl7_1]); (try simp only [hl10_1]); (with_reducible repeat (first | apply Kd.R_alloc | apply Kd.R_drewN | apply Kd.R_drew)); exact Kd.R_mono (Kd.R_far (p := ⟨go91, (x113_2 : Int).toNat, none⟩) (Kd.R_mono HO_15.out (fun k_ hk => (⟨hk, fun e_ => hk.2 (by rw [e_]; rfl)⟩ : _ ∧ k_ ≠ go91))) (fun _ hk => hk.2) (.int .u64 (Go.bits .or .u64 (rd y218 x113_2) (ji98)))) (fun _ hk => ⟨hk.1.1, hk.1.2⟩)⟩, ⟨by (try simp only [hl7_1]); (try simp only [hl10_1]); (with_reducible repeat (first | apply Kd.R_alloc | apply Kd.R_drewN | apply Kd.R_drew)); exact HQ103.out⟩, ⟨uB⟩⟩) | (simp only [← hji96] at H'; exact ⟨(y221), (ji94), (by first | rfl | (simp; done) | (simp only [← hji94] <;> (first | rfl | simp)) | (simp [*]; done)), H', ⟨by have := HK1.out; have := HK2.out; omega⟩, ⟨by (try simp only [hl7_1]); (try simp only [hl10_1]); (with_reducible repeat (first | apply Kd.R_alloc | apply Kd.R_drewN | apply Kd.R_drew)); exact Kd.R_mono (Kd.R_far (p := ⟨go91, (x113_2 : Int).toNat, none⟩) (Kd.R_mono HO_10.out (fun k_ hk => (⟨hk, fun e_ => hk.2 (by rw [e_]; rfl)⟩ : _ ∧ k_ ≠ go91))) (fun _ hk => hk.2) (.int .u64 (Go.bits .or .u64 (rd y218 x113_2) (ji98)))) (fun _ hk => ⟨hk.1.1, hk.1.2⟩)⟩, ⟨by (try simp only [hl7_1]); (try simp only [hl10_1]); (with_reducible repeat (first | apply Kd.R_alloc | apply Kd.R_drewN | apply Kd.R_drew)); exact Kd.R_mono (Kd.R_far (p := ⟨go91, (x113_2 : Int).toNat, none⟩) (Kd.R_mono HO_15.out (fun k_ hk => (⟨hk, fun e_ => hk.2 (by rw [e_]; rfl)⟩ : _ ∧ k_ ≠ go91))) (fun _ hk => hk.2) (.int .u64 (Go.bits .or .u64 (rd y218 x113_2) (ji98)))) (fun _ hk => ⟨hk.1.1, hk.1.2⟩)⟩, ⟨by (try simp only [hl7_1]); (try simp only [hl10_1]); (with_reducible repeat (first | apply Kd.R_alloc | apply Kd.R_drewN | apply Kd.R_drew)); exact HQ103.out⟩, ⟨uB⟩⟩) | (simp only [← hji94] at H'; exact ⟨(y221), (ji94), (by first | rfl | (simp; done) | (simp only [← hji94] <;> (first | rfl | simp)) | (simp [*]; done)), H', ⟨by have := HK1.out; have := HK2.out; omega⟩, ⟨by (try simp only [hl7_1]); (try simp only [hl10_1]); (with_reducible repeat (first | apply Kd.R_alloc | apply Kd.R_drewN | apply Kd.R_drew)); exact Kd.R_mono (Kd.R_far (p := ⟨go91, (x113_2 : Int).toNat, none⟩) (Kd.R_mono HO_10.out (fun k_ hk => (⟨hk, fun e_ => hk.2 (by rw [e_]; rfl)⟩ : _ ∧ k_ ≠ go91))) (fun _ hk => hk.2) (.int .u64 (Go.bits .or .u64 (rd y218 x113_2) (ji98)))) (fun _ hk => ⟨hk.1.1, hk.1.2⟩)⟩, ⟨by (try simp only [hl7_1]); (try simp only [hl10_1]); (with_reducible repeat (first | apply Kd.R_alloc | apply Kd.R_drewN | apply Kd.R_drew)); exact Kd.R_mono (Kd.R_far (p := ⟨go91, (x113_2 : Int).toNat, none⟩) (Kd.R_mono HO_15.out (fun k_ hk => (⟨hk, fun e_ => hk.2 (by rw [e_]; rfl)⟩ : _ ∧ k_ ≠ go91))) (fun _ hk => hk.2) (.int .u64 (Go.bits .or .u64 (rd y218 x113_2) (ji98)))) (fun _ hk => ⟨hk.1.1, hk.1.2⟩)⟩, ⟨by (try simp only [hl7_1]); (try simp only [hl10_1]); (with_reducible repeat (first | apply Kd.R_alloc | apply Kd.R_drewN | apply Kd.R_drew)); exact HQ103.out⟩, ⟨uB⟩⟩) | (simp only [← hji89] at H'; exact ⟨(y221), (ji94), (by first | rfl | (simp; done) | (simp only [← hji94] <;> (first | rfl | simp)) | (simp [*]; done)), H', ⟨by have := HK1.out; have := HK2.out; omega⟩, ⟨by (try simp only [hl7_1]); (try simp only [hl10_1]); (with_reducible repeat (first | apply Kd.R_alloc | apply Kd.R_drewN | apply Kd.R_drew)); exact Kd.R_mono (Kd.R_far (p := ⟨go91, (x113_2 : Int).toNat, none⟩) (Kd.R_mono HO_10.out (fun k_ hk => (⟨hk, fun e_ => hk.2 (by rw [e_]; rfl)⟩ : _ ∧ k_ ≠ go91))) (fun _ hk => hk.2) (.int .u64 (Go.bits .or .u64 (rd y218 x113_2) (ji98)))) (fun _ hk => ⟨hk.1.1, hk.1.2⟩)⟩, ⟨by (try simp only [hl7_1]); (try simp only [hl10_1]); (with_reducible repeat (first | apply Kd.R_alloc | apply Kd.R_drewN | apply Kd.R_drew)); exact Kd.R_mono (Kd.R_far (p := ⟨go91, (x113_2 : Int).toNat, none⟩) (Kd.R_mono HO_15.out (fun k_ hk => (⟨hk, fun e_ => hk.2 (by rw [e_]; rfl)⟩ : _ ∧ k_ ≠ go91))) (fun _ hk => hk.2) (.int .u64 (Go.bits .or .u64 (rd y218 x113_2) (ji98)))) (fun _ hk => ⟨hk.1.1, hk.1.2⟩)⟩, ⟨by (try simp only [hl7_1]); (try simp only [hl10_1]); (with_reducible repeat (first | apply Kd.R_alloc | apply Kd.R_drewN | apply Kd.R_drew)); exact HQ103.out⟩, ⟨uB⟩⟩) | (simp only [← hji87] at H'; exact ⟨(y221), (ji94), (by first | rfl | (simp; done) | (simp only [← hji94] <;> (first | rfl | simp)) | (simp [*]; done)), H', ⟨by have := HK1.out; have := HK2.out; omega⟩, ⟨by (try simp only [hl7_1]); (try simp only [hl10_1]); (with_reducible repeat (first | apply Kd.R_alloc | apply Kd.R_drewN | apply Kd.R_drew)); exact Kd.R_mono (Kd.R_far (p := ⟨go91, (x113_2 : Int).toNat, none⟩) (Kd.R_mono HO_10.out (fun k_ hk => (⟨hk, fun e_ => hk.2 (by rw [e_]; rfl)⟩ : _ ∧ k_ ≠ go91))) (fun _ hk => hk.2) (.int .u64 (Go.bits .or .u64 (rd y218 x113_2) (ji98)))) (fun _ hk => ⟨hk.1.1, hk.1.2⟩)⟩, ⟨by (try simp only [hl7_1]); (try simp only [hl10_1]); (with_reducible repeat (first | apply Kd.R_alloc | apply Kd.R_drewN | apply Kd.R_drew)); exact Kd.R_mono (Kd.R_far (p := ⟨go91, (x113_2 : Int).toNat, none⟩) (Kd.R_mono HO_15.out (fun k_ hk => (⟨hk, fun e_ => hk.2 (by rw [e_]; rfl)⟩ : _ ∧ k_ ≠ go91))) (fun _ hk => hk.2) (.int .u64 (Go.bits .or .u64 (rd y218 x113_2) (ji98)))) (fun _ hk => ⟨hk.1.1, hk.1.2⟩)⟩, ⟨by (try simp only [hl7_1]); (try simp only [hl10_1]); (with_reducible repeat (first | apply Kd.R_alloc | apply Kd.R_drewN | apply Kd.R_drew)); exact HQ103.out⟩, ⟨uB⟩⟩) | (simp only [← hji35] at H'; exact ⟨(y221), (ji94), (by first | rfl | (simp; done) | (simp only [← hji94] <;> (first | rfl | simp)) | (simp [*]; done)), H', ⟨by have := HK1.out; have := HK2.out; omega⟩, ⟨by (try simp only [hl7_1]); (try simp only [hl10_1]); (with_reducible repeat (first | apply Kd.R_alloc | apply Kd.R_drewN | apply Kd.R_drew)); exact Kd.R_mono (Kd.R_far (p := ⟨go91, (x113_2 : Int).toNat, none⟩) (Kd.R_mono HO_10.out (fun k_ hk => (⟨hk, fun e_ => hk.2 (by rw [e_]; rfl)⟩ : _ ∧ k_ ≠ go91))) (fun _ hk => hk.2) (.int .u64 (Go.bits .or .u64 (rd y218 x113_2) (ji98)))) (fun _ hk => ⟨hk.1.1, hk.1.2⟩)⟩, ⟨by (try simp only [hl7_1]); (try simp only [hl10_1]); (with_reducible repeat (first | apply Kd.R_alloc | apply Kd.R_drewN | apply Kd.R_drew)); exact Kd.R_mono (Kd.R_far (p := ⟨go91, (x113_2 : Int).toNat, none⟩) (Kd.R_mono HO_15.out (fun k_ hk => (⟨hk, fun e_ => hk.2 (by rw [e_]; rfl)⟩ : _ ∧ k_ ≠ go91))) (fun _ hk => hk.2) (.int .u64 (Go.bits .or .u64 (rd y218 x113_2) (ji98)))) (fun _ hk => ⟨hk.1.1, hk.1.2⟩)⟩, ⟨by (try simp only [hl7_1]); (try simp only [hl10_1]); (with_reducible repeat (first | apply Kd.R_alloc | apply Kd.R_drewN | apply Kd.R_drew)); exact HQ103.out⟩, ⟨uB⟩⟩)
       rw [if_neg c93] at H
       have c93b0 : decide ((wrap64 (x113_2 + 1)) < (t211.length : Int)) = false := decide_eq_false c93
       (try (have c93b0h0 := c93b0; simp only [hl7_1] at c93b0h0))
       (try (have c93b0h1 := c93b0; simp only [hl10_1] at c93b0h1))
       clear c93
       have H' := Aside0.mk H
       clear H
       have p217 : 0 ≤ (x113_2 : Int) := uO
       have q217 : x113_2 < (t211.length : Int) := uO
       obtain ⟨ad217, e217, hx217_0⟩ := Kd.at_int (Kd.R_reads' HO_15.out).2.2 x113_2 p217 q217
       cases e217
       replace p217 := eq_true p217
       replace q217 := eq_true q217
       have p91 : 0 ≤ (x113_2 : Int) := uO
       have q91 : (x113_2 : Int) < ((x16_2.length : Int) : Int) := uO
       obtain ⟨go91, co91, eo91, gb91, gl91, cl91, HG91⟩ := Kd.R_form HO_16.out (by omega)
       (first | cases eo91 | (injection eo91 with ea_ en_ ec_; (first | subst ea_ | (injection ea_ with ea_; subst ea_)); subst ec_; clear en_))
       have GB91 := Aside0.mk gb91; have GG91 := Aside0.mk HG91; clear gb91 gl91 HG91
       obtain ⟨hx91_0, hf91_0⟩ := Kd.R_celln 0 HO_16.out (x113_2 : Int) p91 q91
       replace p91 := eq_true p91
       replace q91 := eq_true q91
       have HP104 := Kd.R_putg HO_16.out (x113_2 : Int) ji89
       go_wp2_with (first | ((with_reducible refine gate_store (t := 50) (p := 124) rfl ?_); refine store_event (t := 50) (p := 124) (v := ?vo_w105) (w1 := (wr.setCell ⟨go91, (x113_2 : Int).toNat, none⟩ (.int .u64 ji89))) ?hg ?ho ?hn ?hr ?_; (case ho => rfl); (case hg => rfl); (case hn => rfl); (case hr => first | (go_simp; done) | (go_simp; rfl) | (obtain ⟨hy_, hz_⟩ := Kd.R_celln 0 HO_16.out (x113_2 : Int) uO uO; (try simp only [Go.IntWalk.toNatUp] at hy_ hz_); (try simp only [Int.reduceToNat, Int.toNat_zero, Int.toNat_ofNat] at hy_ hz_); first | (go_simp; done) | (go_simp; rfl))); intro w105 hw; have hg : wr.grownBy w105 (some go91) := (by rw [hw]; exact HP104.2); have hp_ : Kd.R (Kd.int .u64) 50 w105 w.heap.size (fun k_ => some k_ ≠ (.slice Ao21 x10_1.length co21 : Value).ownBlock ∧ some k_ ≠ (.slice (some ad217) t211.length co81 : Value).ownBlock) (.slice (some ⟨go91, 0, none⟩) x16_2.length co91) y218 := (by rw [hw, Ny218.out]; exact HP104.1); clear HP104; replace HO_10 := Aside0.mk (Kd.R_after (v := (.slice (some ⟨go91, 0, none⟩) x16_2.length co91)) (v1 := (.slice (some ⟨go91, 0, none⟩) x16_2.length co91)) (ok := (fun k_ => some k_ ≠ (.slice (some ad217) t211.length co81 : Value).ownBlock)) (uR HO_10.out) hg (.inl rfl)); replace HO_15 := Aside0.mk (Kd.R_after (v := (.slice (some ⟨go91, 0, none⟩) x16_2.length co91)) (v1 := (.slice (some ⟨go91, 0, none⟩) x16_2.length co91)) (ok := (fun k_ => some k_ ≠ (.slice Ao21 x10_1.length co21 : Value).ownBlock)) (uR HO_15.out) hg (.inl rfl)); replace HO_16 := Aside0.mk (hp_); replace HB := Aside0.mk ((by rw [hw]; exact below_set (HB.out) GB91.out : Below w.heap.size w w105)); clear hg hw hp_))
       first | go_roundg k2 | ((try simp only [← hji98] at H'); simp only [← hji98]; go_roundg k2) | ((try simp only [← hji96] at H'); simp only [← hji96]; go_roundg k2) | ((try simp only [← hji94] at H'); simp only [← hji94]; go_roundg k2) | ((try simp only [← hji89] at H'); simp only [← hji89]; go_roundg k2) | ((try simp only [← hji87] at H'); simp only [← hji87]; go_roundg k2) | ((try simp only [← hji35] at H'); simp only [← hji35]; go_roundg k2)
       case measure => have := HK1.out; have := HK2.out; omega
       case rel => first | exact ⟨(y218), (wrap64 (x113_2 + 1)), uG, H', ⟨by have := HK1.out; have := HK2.out; omega⟩, ⟨by (try simp only [hl7_1]); (try simp only [hl10_1]); (with_reducible repeat (first | apply Kd.R_alloc | apply Kd.R_drewN | apply Kd.R_drew)); exact HO_10.out⟩, ⟨by (try simp only [hl7_1]); (try simp only [hl10_1]); (with_reducible repeat (first | apply Kd.R_alloc | apply Kd.R_drewN | apply Kd.R_drew)); exact HO_15.out⟩, ⟨by (try simp only [hl7_1]); (try simp only [hl10_1]); (with_reducible repeat (first | apply Kd.R_alloc | apply Kd.R_drewN | apply Kd.R_drew)); exact HO_16.out⟩, ⟨uB⟩⟩ | (simp only [← hji98] at H'; exact ⟨(y218), (wrap64 (x113_2 + 1)), uG, H', ⟨by have := HK1.out; have := HK2.out; omega⟩, ⟨by (try simp only [hl7_1]); (try simp only [hl10_1]); (with_reducible repeat (first | apply Kd.R_alloc | apply Kd.R_drewN | apply Kd.R_drew)); exact HO_10.out⟩, ⟨by (try simp only [hl7_1]); (try simp only [hl10_1]); (with_reducible repeat (first | apply Kd.R_alloc | apply Kd.R_drewN | apply Kd.R_drew)); exact HO_15.out⟩, ⟨by (try simp only [hl7_1]); (try simp only [hl10_1]); (with_reducible repeat (first | apply Kd.R_alloc | apply Kd.R_drewN | apply Kd.R_drew)); exact HO_16.out⟩, ⟨uB⟩⟩) | (simp only [← hji96] at H'; exact ⟨(y218), (wrap64 (x113_2 + 1)), uG, H', ⟨by have := HK1.out; have := HK2.out; omega⟩, ⟨by (try simp only [hl7_1]); (try simp only [hl10_1]); (with_reducible repeat (first | apply Kd.R_alloc | apply Kd.R_drewN | apply Kd.R_drew)); exact HO_10.out⟩, ⟨by (try simp only [hl7_1]); (try simp only [hl10_1]); (with_reducible repeat (first | apply Kd.R_alloc | apply Kd.R_drewN | apply Kd.R_drew)); exact HO_15.out⟩, ⟨by (try simp only [hl7_1]); (try simp only [hl10_1]); (with_reducible repeat (first | apply Kd.R_alloc | apply Kd.R_drewN | apply Kd.R_drew)); exact HO_16.out⟩, ⟨uB⟩⟩) | (simp only [← hji94] at H'; exact ⟨(y218), (wrap64 (x113_2 + 1)), uG, H', ⟨by have := HK1.out; have := HK2.out; omega⟩, ⟨by (try simp only [hl7_1]); (try simp only [hl10_1]); (with_reducible repeat (first | apply Kd.R_alloc | apply Kd.R_drewN | apply Kd.R_drew)); exact HO_10.out⟩, ⟨by (try simp only [hl7_1]); (try simp only [hl10_1]); (with_reducible repeat (first | apply Kd.R_alloc | apply Kd.R_drewN | apply Kd.R_drew)); exact HO_15.out⟩, ⟨by (try simp only [hl7_1]); (try simp only [hl10_1]); (with_reducible repeat (first | apply Kd.R_alloc | apply Kd.R_drewN | apply Kd.R_drew)); exact HO_16.out⟩, ⟨uB⟩⟩) | (simp only [← hji89] at H'; exact ⟨(y218), (wrap64 (x113_2 + 1)), uG, H', ⟨by have := HK1.out; have := HK2.out; omega⟩, ⟨by (try simp only [hl7_1]); (try simp only [hl10_1]); (with_reducible repeat (first | apply Kd.R_alloc | apply Kd.R_drewN | apply Kd.R_drew)); exact HO_10.out⟩, ⟨by (try simp only [hl7_1]); (try simp only [hl10_1]); (with_reducible repeat (first | apply Kd.R_alloc | apply Kd.R_drewN | apply Kd.R_drew)); exact HO_15.out⟩, ⟨by (try simp only [hl7_1]); (try simp only [hl10_1]); (with_reducible repeat (first | apply Kd.R_alloc | apply Kd.R_drewN | apply Kd.R_drew)); exact HO_16.out⟩, ⟨uB⟩⟩) | (simp only [← hji87] at H'; exact ⟨(y218), (wrap64 (x113_2 + 1)), uG, H', ⟨by have := HK1.out; have := HK2.out; omega⟩, ⟨by (try simp only [hl7_1]); (try simp only [hl10_1]); (with_reducible repeat (first | apply Kd.R_alloc | apply Kd.R_drewN | apply Kd.R_drew)); exact HO_10.out⟩, ⟨by (try simp only [hl7_1]); (try simp only [hl10_1]); (with_reducible repeat (first | apply Kd.R_alloc | apply Kd.R_drewN | apply Kd.R_drew)); exact HO_15.out⟩, ⟨by (try simp only [hl7_1]); (try simp only [hl10_1]); (with_reducible repeat (first | apply Kd.R_alloc | apply Kd.R_drewN | apply Kd.R_drew)); exact HO_16.out⟩, ⟨uB⟩⟩) | (simp only [← hji35] at H'; exact ⟨(y218), (wrap64 (x113_2 + 1)), uG, H', ⟨by have := HK1.out; have := HK2.out; omega⟩, ⟨by (try simp only [hl7_1]); (try simp only [hl10_1]); (with_reducible repeat (first | apply Kd.R_alloc | apply Kd.R_drewN | apply Kd.R_drew)); exact HO_10.out⟩, ⟨by (try simp only [hl7_1]); (try simp only [hl10_1]); (with_reducible repeat (first | apply Kd.R_alloc | apply Kd.R_drewN | apply Kd.R_drew)); exact HO_15.out⟩, ⟨by (try simp only [hl7_1]); (try simp only [hl10_1]); (with_reducible repeat (first | apply Kd.R_alloc | apply Kd.R_drewN | apply Kd.R_drew)); exact HO_16.out⟩, ⟨uB⟩⟩)
      rw [if_neg c92] at H
      have c92b0 : decide (0 < (ji87)) = false := decide_eq_false c92
      clear c92
      have H' := Aside0.mk H
      clear H
      have p217 : 0 ≤ (x113_2 : Int) := uO
      have q217 : x113_2 < (t211.length : Int) := uO
      obtain ⟨ad217, e217, hx217_0⟩ := Kd.at_int (Kd.R_reads' HO_15.out).2.2 x113_2 p217 q217
      cases e217
      replace p217 := eq_true p217
      replace q217 := eq_true q217
      have p91 : 0 ≤ (x113_2 : Int) := uO
      have q91 : (x113_2 : Int) < ((x16_2.length : Int) : Int) := uO
      obtain ⟨go91, co91, eo91, gb91, gl91, cl91, HG91⟩ := Kd.R_form HO_16.out (by omega)
      (first | cases eo91 | (injection eo91 with ea_ en_ ec_; (first | subst ea_ | (injection ea_ with ea_; subst ea_)); subst ec_; clear en_))
      have GB91 := Aside0.mk gb91; have GG91 := Aside0.mk HG91; clear gb91 gl91 HG91
      obtain ⟨hx91_0, hf91_0⟩ := Kd.R_celln 0 HO_16.out (x113_2 : Int) p91 q91
      replace p91 := eq_true p91
      replace q91 := eq_true q91
      have HP106 := Kd.R_putg HO_16.out (x113_2 : Int) ji89
      go_wp2_with (first | ((with_reducible refine gate_store (t := 50) (p := 124) rfl ?_); refine store_event (t := 50) (p := 124) (v := ?vo_w107) (w1 := (wr.setCell ⟨go91, (x113_2 : Int).toNat, none⟩ (.int .u64 ji89))) ?hg ?ho ?hn ?hr ?_; (case ho => rfl); (case hg => rfl); (case hn => rfl); (case hr => first | (go_simp; done) | (go_simp; rfl) | (obtain ⟨hy_, hz_⟩ := Kd.R_celln 0 HO_16.out (x113_2 : Int) uO uO; (try simp only [Go.IntWalk.toNatUp] at hy_ hz_); (try simp only [Int.reduceToNat, Int.toNat_zero, Int.toNat_ofNat] at hy_ hz_); first | (go_simp; done) | (go_simp; rfl))); intro w107 hw; have hg : wr.grownBy w107 (some go91) := (by rw [hw]; exact HP106.2); have hp_ : Kd.R (Kd.int .u64) 50 w107 w.heap.size (fun k_ => some k_ ≠ (.slice Ao21 x10_1.length co21 : Value).ownBlock ∧ some k_ ≠ (.slice (some ad217) t211.length co81 : Value).ownBlock) (.slice (some ⟨go91, 0, none⟩) x16_2.length co91) y218 := (by rw [hw, Ny218.out]; exact HP106.1); clear HP106; replace HO_10 := Aside0.mk (Kd.R_after (v := (.slice (some ⟨go91, 0, none⟩) x16_2.length co91)) (v1 := (.slice (some ⟨go91, 0, none⟩) x16_2.length co91)) (ok := (fun k_ => some k_ ≠ (.slice (some ad217) t211.length co81 : Value).ownBlock)) (uR HO_10.out) hg (.inl rfl)); replace HO_15 := Aside0.mk (Kd.R_after (v := (.slice (some ⟨go91, 0, none⟩) x16_2.length co91)) (v1 := (.slice (some ⟨go91, 0, none⟩) x16_2.length co91)) (ok := (fun k_ => some k_ ≠ (.slice Ao21 x10_1.length co21 : Value).ownBlock)) (uR HO_15.out) hg (.inl rfl)); replace HO_16 := Aside0.mk (hp_); replace HB := Aside0.mk ((by rw [hw]; exact below_set (HB.out) GB91.out : Below w.heap.size w w107)); clear hg hw hp_))
      first | go_roundg k2 | ((try simp only [← hji98] at H'); simp only [← hji98]; go_roundg k2) | ((try simp only [← hji96] at H'); simp only [← hji96]; go_roundg k2) | ((try simp only [← hji94] at H'); simp only [← hji94]; go_roundg k2) | ((try simp only [← hji89] at H'); simp only [← hji89]; go_roundg k2) | ((try simp only [← hji87] at H'); simp only [← hji87]; go_roundg k2) | ((try simp only [← hji35] at H'); simp only [← hji35]; go_roundg k2)
      case measure => have := HK1.out; have := HK2.out; omega
      case rel => first | exact ⟨(y218), (wrap64 (x113_2 + 1)), uG, H', ⟨by have := HK1.out; have := HK2.out; omega⟩, ⟨by (try simp only [hl7_1]); (try simp only [hl10_1]); (with_reducible repeat (first | apply Kd.R_alloc | apply Kd.R_drewN | apply Kd.R_drew)); exact HO_10.out⟩, ⟨by (try simp only [hl7_1]); (try simp only [hl10_1]); (with_reducible repeat (first | apply Kd.R_alloc | apply Kd.R_drewN | apply Kd.R_drew)); exact HO_15.out⟩, ⟨by (try simp only [hl7_1]); (try simp only [hl10_1]); (with_reducible repeat (first | apply Kd.R_alloc | apply Kd.R_drewN | apply Kd.R_drew)); exact HO_16.out⟩, ⟨uB⟩⟩ | (simp only [← hji98] at H'; exact ⟨(y218), (wrap64 (x113_2 + 1)), uG, H', ⟨by have := HK1.out; have := HK2.out; omega⟩, ⟨by (try simp only [hl7_1]); (try simp only [hl10_1]); (with_reducible repeat (first | apply Kd.R_alloc | apply Kd.R_drewN | apply Kd.R_drew)); exact HO_10.out⟩, ⟨by (try simp only [hl7_1]); (try simp only [hl10_1]); (with_reducible repeat (first | apply Kd.R_alloc | apply Kd.R_drewN | apply Kd.R_drew)); exact HO_15.out⟩, ⟨by (try simp only [hl7_1]); (try simp only [hl10_1]); (with_reducible repeat (first | apply Kd.R_alloc | apply Kd.R_drewN | apply Kd.R_drew)); exact HO_16.out⟩, ⟨uB⟩⟩) | (simp only [← hji96] at H'; exact ⟨(y218), (wrap64 (x113_2 + 1)), uG, H', ⟨by have := HK1.out; have := HK2.out; omega⟩, ⟨by (try simp only [hl7_1]); (try simp only [hl10_1]); (with_reducible repeat (first | apply Kd.R_alloc | apply Kd.R_drewN | apply Kd.R_drew)); exact HO_10.out⟩, ⟨by (try simp only [hl7_1]); (try simp only [hl10_1]); (with_reducible repeat (first | apply Kd.R_alloc | apply Kd.R_drewN | apply Kd.R_drew)); exact HO_15.out⟩, ⟨by (try simp only [hl7_1]); (try simp only [hl10_1]); (with_reducible repeat (first | apply Kd.R_alloc | apply Kd.R_drewN | apply Kd.R_drew)); exact HO_16.out⟩, ⟨uB⟩⟩) | (simp only [← hji94] at H'; exact ⟨(y218), (wrap64 (x113_2 + 1)), uG, H', ⟨by have := HK1.out; have := HK2.out; omega⟩, ⟨by (try simp only [hl7_1]); (try simp only [hl10_1]); (with_reducible repeat (first | apply Kd.R_alloc | apply Kd.R_drewN | apply Kd.R_drew)); exact HO_10.out⟩, ⟨by (try simp only [hl7_1]); (try simp only [hl10_1]); (with_reducible repeat (first | apply Kd.R_alloc | apply Kd.R_drewN | apply Kd.R_drew)); exact HO_15.out⟩, ⟨by (try simp only [hl7_1]); (try simp only [hl10_1]); (with_reducible repeat (first | apply Kd.R_alloc | apply Kd.R_drewN | apply Kd.R_drew)); exact HO_16.out⟩, ⟨uB⟩⟩) | (simp only [← hji89] at H'; exact ⟨(y218), (wrap64 (x113_2 + 1)), uG, H', ⟨by have := HK1.out; have := HK2.out; omega⟩, ⟨by (try simp only [hl7_1]); (try simp only [hl10_1]); (with_reducible repeat (first | apply Kd.R_alloc | apply Kd.R_drewN | apply Kd.R_drew)); exact HO_10.out⟩, ⟨by (try simp only [hl7_1]); (try simp only [hl10_1]); (with_reducible repeat (first | apply Kd.R_alloc | apply Kd.R_drewN | apply Kd.R_drew)); exact HO_15.out⟩, ⟨by (try simp only [hl7_1]); (try simp only [hl10_1]); (with_reducible repeat (first | apply Kd.R_alloc | apply Kd.R_drewN | apply Kd.R_drew)); exact HO_16.out⟩, ⟨uB⟩⟩) | (simp only [← hji87] at H'; exact ⟨(y218), (wrap64 (x113_2 + 1)), uG, H', ⟨by have := HK1.out; have := HK2.out; omega⟩, ⟨by (try simp only [hl7_1]); (try simp only [hl10_1]); (with_reducible repeat (first | apply Kd.R_alloc | apply Kd.R_drewN | apply Kd.R_drew)); exact HO_10.out⟩, ⟨by (try simp only [hl7_1]); (try simp only [hl10_1]); (with_reducible repeat (first | apply Kd.R_alloc | apply Kd.R_drewN | apply Kd.R_drew)); exact HO_15.out⟩, ⟨by (try simp only [hl7_1]); (try simp only [hl10_1]); (with_reducible repeat (first | apply Kd.R_alloc | apply Kd.R_drewN | apply Kd.R_drew)); exact HO_16.out⟩, ⟨uB⟩⟩) | (simp only [← hji35] at H'; exact ⟨(y218), (wrap64 (x113_2 + 1)), uG, H', ⟨by have := HK1.out; have := HK2.out; omega⟩, ⟨by (try simp only [hl7_1]); (try simp only [hl10_1]); (with_reducible repeat (first | apply Kd.R_alloc | apply Kd.R_drewN | apply Kd.R_drew)); exact HO_10.out⟩, ⟨by (try simp only [hl7_1]); (try simp only [hl10_1]); (with_reducible repeat (first | apply Kd.R_alloc | apply Kd.R_drewN | apply Kd.R_drew)); exact HO_15.out⟩, ⟨by (try simp only [hl7_1]); (try simp only [hl10_1]); (with_reducible repeat (first | apply Kd.R_alloc | apply Kd.R_drewN | apply Kd.R_drew)); exact HO_16.out⟩, ⟨uB⟩⟩)
     rw [if_neg c84] at H
     have c84b0 : decide (x113_2 < (t211.length : Int)) = false := decide_eq_false c84
     (try (have c84b0h0 := c84b0; simp only [hl7_1] at c84b0h0))
     (try (have c84b0h1 := c84b0; simp only [hl10_1] at c84b0h1))
     clear c84
     replace H := ub H; obtain ⟨t222, A108, H⟩ := H
     replace H := ub H; obtain ⟨t225, A109, H⟩ := H
     simp only [Option.some.injEq, Prod.mk.injEq] at H
     obtain ⟨rfl, rfl⟩ := H
     go_wp2_with (first | ((with_reducible refine gate_callee (f := 116) rfl ?_); refine goesL_ (some 150) rfl rfl Try.func116 (by kernel_rfl) rfl #[.slice Ao21 x10_1.length co21] rfl uM ?_; (with_reducible refine (nat_trim.calls k2 (fun k_ => some k_ = (.slice Ao21 x10_1.length co21 : Value).ownBlock) (.slice Ao21 x10_1.length co21) x10_1 t222 w _ ?side1 ?side2 A108.out).mono ?_); (case side1 => repeat (first | (with_reducible first | exact HB.out | apply below_alloc | apply pw_below_drewN | apply below_drew1) | exact HB.out)); (case side2 => exact Kd.R_tight rfl HO_10.out); rintro e w110 ⟨v223, rfl, ho0, hb, hkp⟩; refine ⟨_, rfl, ?_⟩; have HO224 := Aside0.mk (Kd.R_mono (ok' := fun k_ => some k_ ≠ (.slice Ao81 t211.length co81 : Value).ownBlock ∧ some k_ ≠ (v215 : Value).ownBlock) ho0 (fun k_ hk_ => ⟨Or.elim hk_ (fun hs_ => fun e_ => (((HO_15.out).1 k_ e_.symm).1) hs_) (fun hn_ => (Kd.fresh' (Kd.R_lt (uR HO_15.out)) k_ hn_)), Or.elim hk_ (fun hs_ => fun e_ => (((HO_16.out).1 k_ e_.symm).1) hs_) (fun hn_ => (Kd.fresh' (Kd.R_lt (uR HO_16.out)) k_ hn_))⟩)); replace HO_15 := Aside0.mk (Kd.R_mono (ok' := fun k_ => some k_ ≠ (v215 : Value).ownBlock ∧ some k_ ≠ (v223 : Value).ownBlock) (Kd.R_keptB (HO_15.out) hkp (fun k_ hk_ hs_ => (hk_.1) hs_)) (fun k_ hk_ => ⟨hk_.1.2, fun e_ => Or.elim (ho0.1 k_ e_.symm) (fun hs_ => hk_.2.1 hs_) (fun hn_ => Nat.not_le.2 hk_.2.2 hn_)⟩)); replace HO_16 := Aside0.mk (Kd.R_mono (ok' := fun k_ => some k_ ≠ (.slice Ao81 t211.length co81 : Value).ownBlock ∧ some k_ ≠ (v223 : Value).ownBlock) (Kd.R_keptB (HO_16.out) hkp (fun k_ hk_ hs_ => (hk_.1) hs_)) (fun k_ hk_ => ⟨hk_.1.2, fun e_ => Or.elim (ho0.1 k_ e_.symm) (fun hs_ => hk_.2.1 hs_) (fun hn_ => Nat.not_le.2 hk_.2.2 hn_)⟩)); replace HB := Aside0.mk (hb); clear HO_10; (try clear hb); (try clear hkp); (try clear ho0); obtain ⟨Ao111, co111, eo111⟩ := Kd.R_slice HO_16.out; subst eo111) | ((with_reducible refine gate_callee (f := 116) rfl ?_); refine goesL_ (some 152) rfl rfl Try.func116 (by kernel_rfl) rfl #[.slice Ao111 x16_2.length co111] rfl uM ?_; (with_reducible refine (nat_trim.calls k2 (fun k_ => some k_ = (.slice Ao111 x16_2.length co111 : Value).ownBlock) (.slice Ao111 x16_2.length co111) x16_2 t225 w _ ?side1 ?side2 A109.out).mono ?_); (case side1 => repeat (first | (with_reducible first | exact HB.out | apply below_alloc | apply pw_below_drewN | apply below_drew1) | exact HB.out)); (case side2 => exact Kd.R_tight rfl HO_16.out); rintro e w112 ⟨v226, rfl, ho0, hb, hkp⟩; refine ⟨_, rfl, ?_⟩; have HO227 := Aside0.mk (Kd.R_mono (ok' := fun k_ => some k_ ≠ (.slice Ao81 t211.length co81 : Value).ownBlock ∧ some k_ ≠ (v223 : Value).ownBlock) ho0 (fun k_ hk_ => ⟨Or.elim hk_ (fun hs_ => fun e_ => (((HO_15.out).1 k_ e_.symm).1) hs_) (fun hn_ => (Kd.fresh' (Kd.R_lt (uR HO_15.out)) k_ hn_)), Or.elim hk_ (fun hs_ => fun e_ => (((HO224.out).1 k_ e_.symm).2) hs_) (fun hn_ => (Kd.fresh' (Kd.R_lt (uR HO224.out)) k_ hn_))⟩)); replace HO_15 := Aside0.mk (Kd.R_mono (ok' := fun k_ => some k_ ≠ (v223 : Value).ownBlock ∧ some k_ ≠ (v226 : Value).ownBlock) (Kd.R_keptB (HO_15.out) hkp (fun k_ hk_ hs_ => (hk_.1) hs_)) (fun k_ hk_ => ⟨hk_.1.2, fun e_ => Or.elim (ho0.1 k_ e_.symm) (fun hs_ => hk_.2.1 hs_) (fun hn_ => Nat.not_le.2 hk_.2.2 hn_)⟩)); replace HO224 := Aside0.mk (Kd.R_mono (ok' := fun k_ => some k_ ≠ (.slice Ao81 t211.length co81 : Value).ownBlock ∧ some k_ ≠ (v226 : Value).ownBlock) (Kd.R_keptB (HO224.out) hkp (fun k_ hk_ hs_ => (hk_.2) hs_)) (fun k_ hk_ => ⟨hk_.1.1, fun e_ => Or.elim (ho0.1 k_ e_.symm) (fun hs_ => hk_.2.1 hs_) (fun hn_ => Nat.not_le.2 hk_.2.2 hn_)⟩)); replace HB := Aside0.mk (hb); clear HO_16; (try clear hb); (try clear hkp); (try clear ho0)))
     go_ret2
     exact ⟨_, _, by first | rfl | (simp [errW_none, errW_some] <;> rfl) | (simp only [← hji3, ← hji10]; first | rfl | (simp [errW_none, errW_some] <;> rfl)) | (simp [*, errW_none, errW_some] <;> rfl), by (with_reducible repeat (first | apply Kd.R_alloc | apply Kd.R_drewN | apply Kd.R_drew)); exact Kd.R_mono HO224.out (fun _ hk => hk.2), by (with_reducible repeat (first | apply Kd.R_alloc | apply Kd.R_drewN | apply Kd.R_drew)); exact Kd.R_mono HO227.out (fun _ hk => hk.2), uB⟩
end Go.Proofs.Ytlkinjhmgljapaa.F
end
section
namespace Go.Proofs.Ytlkinjhmgljapaa.F
open Go.RowKit Go.Proofs.YtlkinjhmgljapaaW.PrintWords Go.Proofs.YtlkinjhmgljapaaW.PrintLast Go.Proofs.YtlkinjhmgljapaaW.PrintMore
attribute [local go_sem] max2_int min2_int max_two min_two max_three min_three max_four min_four
set_option linter.unusedVariables false
set_option linter.unusedSimpArgs false
def nat_Div.f (k : Nat) (l0 : List Int) (l1 : List Int) : Option (List Int × List Int × Int) := (nat_right.f (([l0, l1] : List (List Int)))).bind fun t231 => (if t231 = true then (if (l1.length : Int) = 0 then (some (([] : List Int), ([] : List Int), 3)) else ((nat_compare.f k l0 l1).bind fun t232 => (if t232 < 0 then ((api_Nat_uint64.f l0).bind fun t233 => (some (([] : List Int), t233, 0))) else (if (l1.length : Int) = 1 then (if 0 < (l1.length : Int) then ((nat_short.f k l0 (rd l1 0)).bind fun bt237 => ((nat_Of.f k bt237.2).bind fun t241 => (some (bt237.1, t241, 0)))) else (none)) else ((nat_long.f k l0 l1).bind fun bt244 => (some (bt244.1, bt244.2, 0))))))) else (some (([] : List Int), ([] : List Int), 1)))
set_option maxHeartbeats 8000000 in
set_option maxRecDepth 100000 in
theorem nat_Div.calls (k : Nat) (P0_ : Nat → Prop) (A0 : Option Addr) (c0 : Nat) (l0 : List Int) (P1_ : Nat → Prop) (A1 : Option Addr) (c1 : Nat) (l1 : List Int) (r1 : List Int) (r2 : List Int) (r3 : Int) (w : World) (hs0 : Kd.V (Kd.int .u64) 50 w w.heap.size (fun k_ => P0_ k_) (.slice A0 l0.length c0) l0) (hs1 : Kd.V (Kd.int .u64) 50 w w.heap.size (fun k_ => P1_ k_) (.slice A1 l1.length c1) l1) (h : nat_Div.f k l0 l1 = some (r1, r2, r3)) :
  Calls Try.prog 71 #[.slice A0 l0.length c0, .slice A1 l1.length c1] w fun e w' => ∃ v0_ v1_ : Value, e = .returned (.tuple #[v0_, v1_, .int .i64 r3]) ∧ Kd.R (Kd.int .u64) 50 w' w.heap.size (fun k_ => (w.heap.size ≤ k_) ∧ some k_ ≠ (v1_ : Value).ownBlock) v0_ r1 ∧ Kd.R (Kd.int .u64) 50 w' w.heap.size (fun k_ => (w.heap.size ≤ k_) ∧ some k_ ≠ (v0_ : Value).ownBlock) v1_ r2 ∧ Below w.heap.size w w' := by
 have HO0 := Aside0.mk (show Kd.V (Kd.int .u64) 50 w w.heap.size (fun k_ => ((P0_ k_ ∨ P1_ k_) ∨ w.heap.size ≤ k_)) (.slice A0 l0.length c0) l0 from Kd.V_mono hs0 (fun k_ hk => .inl (.inl hk)))
 have HO1 := Aside0.mk (show Kd.V (Kd.int .u64) 50 w w.heap.size (fun k_ => ((P0_ k_ ∨ P1_ k_) ∨ w.heap.size ≤ k_)) (.slice A1 l1.length c1) l1 from Kd.V_mono hs1 (fun k_ hk => .inl (.inr hk)))
 have HB := Aside0.mk (Below.refl w.heap.size w)
 have H : ((nat_right.f (([l0, l1] : List (List Int)))).bind fun t231 => (if t231 = true then (if (l1.length : Int) = 0 then (some (([] : List Int), ([] : List Int), 3)) else ((nat_compare.f k l0 l1).bind fun t232 => (if t232 < 0 then ((api_Nat_uint64.f l0).bind fun t233 => (some (([] : List Int), t233, 0))) else (if (l1.length : Int) = 1 then (if 0 < (l1.length : Int) then ((nat_short.f k l0 (rd l1 0)).bind fun bt237 => ((nat_Of.f k bt237.2).bind fun t241 => (some (bt237.1, t241, 0)))) else (none)) else ((nat_long.f k l0 l1).bind fun bt244 => (some (bt244.1, bt244.2, 0))))))) else (some (([] : List Int), ([] : List Int), 1)))) = some (r1, r2, r3) := h
 clear h
 obtain ⟨y228, hy228⟩ : ∃ y_ : List (List Int), y_ = (([l0, l1] : List (List Int))) := ⟨_, rfl⟩
 replace H : ((nat_right.f y228).bind fun t231 => (if t231 = true then (if (l1.length : Int) = 0 then (some (([] : List Int), ([] : List Int), 3)) else ((nat_compare.f k l0 l1).bind fun t232 => (if t232 < 0 then ((api_Nat_uint64.f l0).bind fun t233 => (some (([] : List Int), t233, 0))) else (if (l1.length : Int) = 1 then (if 0 < (l1.length : Int) then ((nat_short.f k l0 (rd l1 0)).bind fun bt237 => ((nat_Of.f k bt237.2).bind fun t241 => (some (bt237.1, t241, 0)))) else (none)) else ((nat_long.f k l0 l1).bind fun bt244 => (some (bt244.1, bt244.2, 0))))))) else (some (([] : List Int), ([] : List Int), 1)))) = some (r1, r2, r3) := by first | (rw [hy228]; with_reducible exact H) | (have H2_ := (Option.bind_some _ _).symm.trans H; rw [hy228]; with_reducible exact H2_) | (have H2_ := (Option.bind_some _ _).symm.trans H; with_reducible exact H2_) | with_reducible exact H | (rw [hy228]; exact H) | exact H
 have Ny228 := Aside0.mk hy228; clear hy228
 replace H := ub H; obtain ⟨t231, A3, H⟩ := H
 by_cases c4 : t231 = true
 ·
  subst c4
  have H1 : (if (l1.length : Int) = 0 then (some (([] : List Int), ([] : List Int), 3)) else ((nat_compare.f k l0 l1).bind fun t232 => (if t232 < 0 then ((api_Nat_uint64.f l0).bind fun t233 => (some (([] : List Int), t233, 0))) else (if (l1.length : Int) = 1 then (if 0 < (l1.length : Int) then ((nat_short.f k l0 (rd l1 0)).bind fun bt237 => ((nat_Of.f k bt237.2).bind fun t241 => (some (bt237.1, t241, 0)))) else (none)) else ((nat_long.f k l0 l1).bind fun bt244 => (some (bt244.1, bt244.2, 0))))))) = some (r1, r2, r3) := by rw [if_pos rfl] at H; exact H
  clear H; have H := H1; clear H1
  by_cases c5 : (l1.length : Int) = 0
  ·
   rw [if_pos c5] at H
   have c5b0 : ((l1.length : Int) == 0) = true := beq_iff_eq.mpr c5
   have c5b1 : ((l1.length : Int) != 0) = false := bne_eq_false_iff_eq.mpr c5
   clear c5
   simp only [Option.some.injEq, Prod.mk.injEq] at H
   obtain ⟨rfl, rfl, rfl⟩ := H
   go_enter Try.func71, Try.ntmps71
   go_wp2_with (first | ((with_reducible refine gate_dst (N := 14) rfl ?_); refine Kd.N_lit (Kd.slice 50 (Kd.int .u64)) _ 23 ?hg (N' := 14) ?hd (xs := ([l0, l1] : List (List Int))) (inner := [.slice A0 l0.length c0, .slice A1 l1.length c1]) (ok := (fun k_ => ((P0_ k_ ∨ P1_ k_) ∨ w.heap.size ≤ k_))) (okp := (fun k_ => ((P0_ k_ ∨ P1_ k_) ∨ w.heap.size ≤ k_))) ?hr ?hp (fun _ hk => hk) ((show ∀ k_, w.heap.size ≤ k_ → (fun k_ => ((P0_ k_ ∨ P1_ k_) ∨ w.heap.size ≤ k_)) k_ from fun k_ hk => (.inr (Nat.le_trans (below_size uB) hk))) _ (Nat.le_refl _)) (Below.refl _ _) (Nat.le_refl _) (by simp) ?_; (case hd => rfl); (case hg => rfl); (case hr => first | (go_simp; done) | (go_simp; rfl) | (go_simp; simp only [u64_u8]; done) | (go_simp; simp only [u64_u8]; rfl)); (case hp => exact (Reps.one (show Kd.FK (Kd.slice 50 (Kd.int .u64)) _ _ l0 [.slice A0 l0.length c0] from (Kd.FK_slice_mk (Kd.V_reads' (Kd.V_mono (ok' := (fun k_ => ((P0_ k_ ∨ P1_ k_) ∨ w.heap.size ≤ k_))) (HO0.out) (fun k_ hk => hk))).2.1 (Kd.V_F (Kd.V_mono (ok' := (fun k_ => ((P0_ k_ ∨ P1_ k_) ∨ w.heap.size ≤ k_))) (HO0.out) (fun k_ hk => hk))))) (Reps.one (show Kd.FK (Kd.slice 50 (Kd.int .u64)) _ _ l1 [.slice A1 l1.length c1] from (Kd.FK_slice_mk (Kd.V_reads' (Kd.V_mono (ok' := (fun k_ => ((P0_ k_ ∨ P1_ k_) ∨ w.heap.size ≤ k_))) (HO1.out) (fun k_ hk => hk))).2.1 (Kd.V_F (Kd.V_mono (ok' := (fun k_ => ((P0_ k_ ∨ P1_ k_) ∨ w.heap.size ≤ k_))) (HO1.out) (fun k_ hk => hk))))) (Reps.none _ _)))); intro v229 w6 ho7 hb hg_ hnew_; clear hg_ hnew_; (first | rw [← Ny228.out] at ho7 | (simp only [Int.reduceToNat] at ho7; rw [← Ny228.out] at ho7)); replace HO0 := Aside0.mk (Kd.V_elder' (uV HO0.out) (Kd.N_base ho7) hb); replace HO1 := Aside0.mk (Kd.V_elder' (uV HO1.out) (Kd.N_base ho7) hb); have HO230 := Aside0.mk (Kd.N_lower ho7 (below_size uB)); replace HB := uy hb; clear hb ho7; obtain ⟨Ao8, co8, eo8⟩ := Kd.N_slice HO230.out; subst eo8) | ((with_reducible refine gate_callee (f := 104) rfl ?_); refine goesL_ (some 15) rfl rfl Try.func104 (by kernel_rfl) rfl #[.slice Ao8 y228.length co8] rfl uM ?_; (with_reducible refine (nat_right.calls _ _ y228 true _ ?side1 ?side2 A3.out).mono ?_); (case side1 => exact uC (Kd.N_reads' HO230.out).2.2); (case side2 => exact (Kd.N_reads' HO230.out).2.1); rintro e w' ⟨rfl, ⟨nd, rfl⟩⟩; refine ⟨_, rfl, ?_⟩))
   go_ret3
   exact ⟨_, _, by first | rfl | (simp [errW_none, errW_some] <;> rfl) | (simp [*, errW_none, errW_some] <;> rfl), by first | exact Kd.R_nil _ _ _ _ _ | exact Kd.N_nil _ _ _ _ _ | exact Kd.V_nil _ _ _ _ _ | exact Kd.Q_nil _ _ _ _ _ | exact Kd.S_nil _ _ _ _ _, by first | exact Kd.R_nil _ _ _ _ _ | exact Kd.N_nil _ _ _ _ _ | exact Kd.V_nil _ _ _ _ _ | exact Kd.Q_nil _ _ _ _ _ | exact Kd.S_nil _ _ _ _ _, uB⟩
  rw [if_neg c5] at H
  have c5b0 : ((l1.length : Int) == 0) = false := beq_eq_false_iff_ne.mpr c5
  have c5b1 : ((l1.length : Int) != 0) = true := bne_iff_ne.mpr c5
  have c5b2 : ¬ (l1 = []) := fun h_ => c5 (by rw [h_]; rfl)
  replace H := ub H; obtain ⟨t232, A9, H⟩ := H
  by_cases c10 : t232 < 0
  ·
   rw [if_pos c10] at H
   have c10b0 : decide (t232 < 0) = true := decide_eq_true c10
   clear c10
   replace H := ub H; obtain ⟨t233, A11, H⟩ := H
   simp only [Option.some.injEq, Prod.mk.injEq] at H
   obtain ⟨rfl, rfl, rfl⟩ := H
   go_enter Try.func71, Try.ntmps71
   go_wp2_with (first | ((with_reducible refine gate_dst (N := 14) rfl ?_); refine Kd.N_lit (Kd.slice 50 (Kd.int .u64)) _ 23 ?hg (N' := 14) ?hd (xs := ([l0, l1] : List (List Int))) (inner := [.slice A0 l0.length c0, .slice A1 l1.length c1]) (ok := (fun k_ => ((P0_ k_ ∨ P1_ k_) ∨ w.heap.size ≤ k_))) (okp := (fun k_ => ((P0_ k_ ∨ P1_ k_) ∨ w.heap.size ≤ k_))) ?hr ?hp (fun _ hk => hk) ((show ∀ k_, w.heap.size ≤ k_ → (fun k_ => ((P0_ k_ ∨ P1_ k_) ∨ w.heap.size ≤ k_)) k_ from fun k_ hk => (.inr (Nat.le_trans (below_size uB) hk))) _ (Nat.le_refl _)) (Below.refl _ _) (Nat.le_refl _) (by simp) ?_; (case hd => rfl); (case hg => rfl); (case hr => first | (go_simp; done) | (go_simp; rfl) | (go_simp; simp only [u64_u8]; done) | (go_simp; simp only [u64_u8]; rfl)); (case hp => exact (Reps.one (show Kd.FK (Kd.slice 50 (Kd.int .u64)) _ _ l0 [.slice A0 l0.length c0] from (Kd.FK_slice_mk (Kd.V_reads' (Kd.V_mono (ok' := (fun k_ => ((P0_ k_ ∨ P1_ k_) ∨ w.heap.size ≤ k_))) (HO0.out) (fun k_ hk => hk))).2.1 (Kd.V_F (Kd.V_mono (ok' := (fun k_ => ((P0_ k_ ∨ P1_ k_) ∨ w.heap.size ≤ k_))) (HO0.out) (fun k_ hk => hk))))) (Reps.one (show Kd.FK (Kd.slice 50 (Kd.int .u64)) _ _ l1 [.slice A1 l1.length c1] from (Kd.FK_slice_mk (Kd.V_reads' (Kd.V_mono (ok' := (fun k_ => ((P0_ k_ ∨ P1_ k_) ∨ w.heap.size ≤ k_))) (HO1.out) (fun k_ hk => hk))).2.1 (Kd.V_F (Kd.V_mono (ok' := (fun k_ => ((P0_ k_ ∨ P1_ k_) ∨ w.heap.size ≤ k_))) (HO1.out) (fun k_ hk => hk))))) (Reps.none _ _)))); intro v229 w12 ho13 hb hg_ hnew_; clear hg_ hnew_; (first | rw [← Ny228.out] at ho13 | (simp only [Int.reduceToNat] at ho13; rw [← Ny228.out] at ho13)); replace HO0 := Aside0.mk (Kd.V_elder' (uV HO0.out) (Kd.N_base ho13) hb); replace HO1 := Aside0.mk (Kd.V_elder' (uV HO1.out) (Kd.N_base ho13) hb); have HO230 := Aside0.mk (Kd.N_lower ho13 (below_size uB)); replace HB := uy hb; clear hb ho13; obtain ⟨Ao14, co14, eo14⟩ := Kd.N_slice HO230.out; subst eo14) | ((with_reducible refine gate_callee (f := 104) rfl ?_); refine goesL_ (some 15) rfl rfl Try.func104 (by kernel_rfl) rfl #[.slice Ao14 y228.length co14] rfl uM ?_; (with_reducible refine (nat_right.calls _ _ y228 true _ ?side1 ?side2 A3.out).mono ?_); (case side1 => exact uC (Kd.N_reads' HO230.out).2.2); (case side2 => exact (Kd.N_reads' HO230.out).2.1); rintro e w' ⟨rfl, ⟨nd, rfl⟩⟩; refine ⟨_, rfl, ?_⟩) | ((with_reducible refine gate_callee (f := 105) rfl ?_); refine goesL_ (some 24) rfl rfl Try.func105 (by kernel_rfl) rfl #[.slice A0 l0.length c0, .slice A1 l1.length c1] rfl uM ?_; (with_reducible refine (nat_compare.calls k _ _ l0 _ _ l1 t232 _ ?side1 ?side2 ?side3 ?side4 A9.out).mono ?_); (case side1 => exact uC (Kd.V_reads' HO0.out).2.2); (case side2 => exact (Kd.V_reads' HO0.out).2.1); (case side3 => exact uC (Kd.V_reads' HO1.out).2.2); (case side4 => exact (Kd.V_reads' HO1.out).2.1); rintro e w' ⟨rfl, ⟨nd, rfl⟩⟩; refine ⟨_, rfl, ?_⟩) | ((with_reducible refine gate_callee (f := 68) rfl ?_); refine goesL_ (some 27) rfl rfl Try.func68 (by kernel_rfl) rfl #[.slice A0 l0.length c0] rfl uM ?_; (with_reducible refine (api_Nat_uint64.calls _ _ l0 t233 _ ?side1 ?side2 A11.out).mono ?_); (case side1 => exact uC (Kd.V_reads' HO0.out).2.2); (case side2 => exact (Kd.V_reads' HO0.out).2.1); rintro e w15 ⟨v234, rfl, ho0, hb⟩; refine ⟨_, rfl, ?_⟩; replace HO0 := ueV HO0 ho0 hb; replace HO1 := ueV HO1 ho0 hb; replace HO230 := ueN HO230 ho0 hb; have HO235 := Aside0.mk (Kd.R_lower (Kd.R_newM (M := fun k_ => (w.heap.size ≤ k_)) ho0 (below_size uB) (fun k_ h_ => h_)) (below_size uB)); replace HB := uy hb; (try clear hb ho0)))
   go_ret3
   exact ⟨_, _, by first | rfl | (simp [errW_none, errW_some] <;> rfl) | (simp [*, errW_none, errW_some] <;> rfl), by first | exact Kd.R_nil _ _ _ _ _ | exact Kd.N_nil _ _ _ _ _ | exact Kd.V_nil _ _ _ _ _ | exact Kd.Q_nil _ _ _ _ _ | exact Kd.S_nil _ _ _ _ _, by (with_reducible repeat (first | apply Kd.R_alloc | apply Kd.R_drewN | apply Kd.R_drew)); exact Kd.R_mono HO235.out (fun _ hk => ⟨hk.1, (by simp [Value.ownBlock])⟩), uB⟩
  rw [if_neg c10] at H
  have c10b0 : decide (t232 < 0) = false := decide_eq_false c10
  clear c10
  by_cases c16 : (l1.length : Int) = 1
  ·
   rw [if_pos c16] at H
   have c16b0 : ((l1.length : Int) == 1) = true := beq_iff_eq.mpr c16
   have c16b1 : ((l1.length : Int) != 1) = false := bne_eq_false_iff_eq.mpr c16
   clear c16
   replace H := uT H; obtain ⟨c17, H⟩ := H
   have c17b0 : decide (0 < (l1.length : Int)) = true := decide_eq_true c17
   have c17b1 : decide (0 < l1.length) = true := decide_eq_true (by omega)
   clear c17
   replace H := ub H; obtain ⟨⟨t237, t238⟩, A18, H⟩ := H
   (try dsimp only at H)
   replace H := ub H; obtain ⟨t241, A19, H⟩ := H
   simp only [Option.some.injEq, Prod.mk.injEq] at H
   obtain ⟨rfl, rfl, rfl⟩ := H
   go_enter Try.func71, Try.ntmps71
   go_wp2_with (first | ((with_reducible refine gate_dst (N := 14) rfl ?_); refine Kd.N_lit (Kd.slice 50 (Kd.int .u64)) _ 23 ?hg (N' := 14) ?hd (xs := ([l0, l1] : List (List Int))) (inner := [.slice A0 l0.length c0, .slice A1 l1.length c1]) (ok := (fun k_ => ((P0_ k_ ∨ P1_ k_) ∨ w.heap.size ≤ k_))) (okp := (fun k_ => ((P0_ k_ ∨ P1_ k_) ∨ w.heap.size ≤ k_))) ?hr ?hp (fun _ hk => hk) ((show ∀ k_, w.heap.size ≤ k_ → (fun k_ => ((P0_ k_ ∨ P1_ k_) ∨ w.heap.size ≤ k_)) k_ from fun k_ hk => (.inr (Nat.le_trans (below_size uB) hk))) _ (Nat.le_refl _)) (Below.refl _ _) (Nat.le_refl _) (by simp) ?_; (case hd => rfl); (case hg => rfl); (case hr => first | (go_simp; done) | (go_simp; rfl) | (go_simp; simp only [u64_u8]; done) | (go_simp; simp only [u64_u8]; rfl)); (case hp => exact (Reps.one (show Kd.FK (Kd.slice 50 (Kd.int .u64)) _ _ l0 [.slice A0 l0.length c0] from (Kd.FK_slice_mk (Kd.V_reads' (Kd.V_mono (ok' := (fun k_ => ((P0_ k_ ∨ P1_ k_) ∨ w.heap.size ≤ k_))) (HO0.out) (fun k_ hk => hk))).2.1 (Kd.V_F (Kd.V_mono (ok' := (fun k_ => ((P0_ k_ ∨ P1_ k_) ∨ w.heap.size ≤ k_))) (HO0.out) (fun k_ hk => hk))))) (Reps.one (show Kd.FK (Kd.slice 50 (Kd.int .u64)) _ _ l1 [.slice A1 l1.length c1] from (Kd.FK_slice_mk (Kd.V_reads' (Kd.V_mono (ok' := (fun k_ => ((P0_ k_ ∨ P1_ k_) ∨ w.heap.size ≤ k_))) (HO1.out) (fun k_ hk => hk))).2.1 (Kd.V_F (Kd.V_mono (ok' := (fun k_ => ((P0_ k_ ∨ P1_ k_) ∨ w.heap.size ≤ k_))) (HO1.out) (fun k_ hk => hk))))) (Reps.none _ _)))); intro v229 w20 ho21 hb hg_ hnew_; clear hg_ hnew_; (first | rw [← Ny228.out] at ho21 | (simp only [Int.reduceToNat] at ho21; rw [← Ny228.out] at ho21)); replace HO0 := Aside0.mk (Kd.V_elder' (uV HO0.out) (Kd.N_base ho21) hb); replace HO1 := Aside0.mk (Kd.V_elder' (uV HO1.out) (Kd.N_base ho21) hb); have HO230 := Aside0.mk (Kd.N_lower ho21 (below_size uB)); replace HB := uy hb; clear hb ho21; obtain ⟨Ao22, co22, eo22⟩ := Kd.N_slice HO230.out; subst eo22) | ((with_reducible refine gate_callee (f := 104) rfl ?_); refine goesL_ (some 15) rfl rfl Try.func104 (by kernel_rfl) rfl #[.slice Ao22 y228.length co22] rfl uM ?_; (with_reducible refine (nat_right.calls _ _ y228 true _ ?side1 ?side2 A3.out).mono ?_); (case side1 => exact uC (Kd.N_reads' HO230.out).2.2); (case side2 => exact (Kd.N_reads' HO230.out).2.1); rintro e w' ⟨rfl, ⟨nd, rfl⟩⟩; refine ⟨_, rfl, ?_⟩) | ((with_reducible refine gate_callee (f := 105) rfl ?_); refine goesL_ (some 24) rfl rfl Try.func105 (by kernel_rfl) rfl #[.slice A0 l0.length c0, .slice A1 l1.length c1] rfl uM ?_; (with_reducible refine (nat_compare.calls k _ _ l0 _ _ l1 t232 _ ?side1 ?side2 ?side3 ?side4 A9.out).mono ?_); (case side1 => exact uC (Kd.V_reads' HO0.out).2.2); (case side2 => exact (Kd.V_reads' HO0.out).2.1); (case side3 => exact uC (Kd.V_reads' HO1.out).2.2); (case side4 => exact (Kd.V_reads' HO1.out).2.1); rintro e w' ⟨rfl, ⟨nd, rfl⟩⟩; refine ⟨_, rfl, ?_⟩; have p236 : 0 ≤ (0 : Int) := (by omega); have q236 : 0 < (l1.length : Int) := uO; obtain ⟨ad236, e236, hx236_0⟩ := Kd.at_int (Kd.V_reads' HO1.out).2.2 0 p236 q236; cases e236; have qi236 : (0 < l1.length) = True := eq_true (by omega); (try rw [show ((0 : Int)).toNat = 0 from rfl] at hx236_0); (try rw [Addr.add_zero'] at hx236_0); replace p236 := eq_true p236; replace q236 := eq_true q236) | ((with_reducible refine gate_callee (f := 106) rfl ?_); refine goesL_ (some 37) rfl rfl Try.func106 (by kernel_rfl) rfl #[.slice A0 l0.length c0, .int .u64 (rd l1 0)] rfl uM ?_; (with_reducible refine (nat_short.calls k _ _ l0 (rd l1 0) t237 t238 _ ?side1 ?side2 A18.out).mono ?_); (case side1 => exact uC (Kd.V_reads' HO0.out).2.2); (case side2 => exact (Kd.V_reads' HO0.out).2.1); rintro e w23 ⟨v239, rfl, ho0, hb⟩; refine ⟨_, rfl, ?_⟩; replace HO0 := ueV HO0 ho0 hb; replace HO1 := ueV HO1 ho0 hb; replace HO230 := ueN HO230 ho0 hb; have HO240 := Aside0.mk (Kd.R_lower (Kd.R_newM (M := fun k_ => (w.heap.size ≤ k_)) ho0 (below_size uB) (fun k_ h_ => h_)) (below_size uB)); replace HB := uy hb; (try clear hb ho0)) | ((with_reducible refine gate_callee (f := 92) rfl ?_); refine goesL_ (some 42) rfl rfl Try.func92 (by kernel_rfl) rfl #[.int .u64 t238] rfl uM ?_; (with_reducible refine (nat_Of.calls k t238 t241 _ A19.out).mono ?_); rintro e w24 ⟨v242, rfl, ho0, hb⟩; refine ⟨_, rfl, ?_⟩; replace HO0 := ueV HO0 ho0 hb; replace HO1 := ueV HO1 ho0 hb; replace HO230 := ueN HO230 ho0 hb; have HO243 := Aside0.mk (Kd.R_lower (Kd.R_new' (Kd.R_newM (M := fun k_ => (w.heap.size ≤ k_)) ho0 (below_size uB) (fun k_ h_ => h_)) (Kd.R_lt (uR HO240.out))) (below_size uB)); replace HO240 := ueR HO240 ho0 hb; replace HB := uy hb; (try clear hb ho0)))
   go_ret3
   exact ⟨_, _, uF, by (with_reducible repeat (first | apply Kd.R_alloc | apply Kd.R_drewN | apply Kd.R_drew)); exact Kd.R_mono HO240.out (fun _ hk => ⟨hk.1.1, hk.2⟩), by (with_reducible repeat (first | apply Kd.R_alloc | apply Kd.R_drewN | apply Kd.R_drew)); exact Kd.R_mono HO243.out (fun _ hk => ⟨hk.1.1, hk.2⟩), uB⟩
  rw [if_neg c16] at H
  have c16b0 : ((l1.length : Int) == 1) = false := beq_eq_false_iff_ne.mpr c16
  have c16b1 : ((l1.length : Int) != 1) = true := bne_iff_ne.mpr c16
  replace H := ub H; obtain ⟨⟨t244, t245⟩, A25, H⟩ := H
  (try dsimp only at H)
  simp only [Option.some.injEq, Prod.mk.injEq] at H
  obtain ⟨rfl, rfl, rfl⟩ := H
  go_enter Try.func71, Try.ntmps71
  go_wp2_with (first | ((with_reducible refine gate_dst (N := 14) rfl ?_); refine Kd.N_lit (Kd.slice 50 (Kd.int .u64)) _ 23 ?hg (N' := 14) ?hd (xs := ([l0, l1] : List (List Int))) (inner := [.slice A0 l0.length c0, .slice A1 l1.length c1]) (ok := (fun k_ => ((P0_ k_ ∨ P1_ k_) ∨ w.heap.size ≤ k_))) (okp := (fun k_ => ((P0_ k_ ∨ P1_ k_) ∨ w.heap.size ≤ k_))) ?hr ?hp (fun _ hk => hk) ((show ∀ k_, w.heap.size ≤ k_ → (fun k_ => ((P0_ k_ ∨ P1_ k_) ∨ w.heap.size ≤ k_)) k_ from fun k_ hk => (.inr (Nat.le_trans (below_size uB) hk))) _ (Nat.le_refl _)) (Below.refl _ _) (Nat.le_refl _) (by simp) ?_; (case hd => rfl); (case hg => rfl); (case hr => first | (go_simp; done) | (go_simp; rfl) | (go_simp; simp only [u64_u8]; done) | (go_simp; simp only [u64_u8]; rfl)); (case hp => exact (Reps.one (show Kd.FK (Kd.slice 50 (Kd.int .u64)) _ _ l0 [.slice A0 l0.length c0] from (Kd.FK_slice_mk (Kd.V_reads' (Kd.V_mono (ok' := (fun k_ => ((P0_ k_ ∨ P1_ k_) ∨ w.heap.size ≤ k_))) (HO0.out) (fun k_ hk => hk))).2.1 (Kd.V_F (Kd.V_mono (ok' := (fun k_ => ((P0_ k_ ∨ P1_ k_) ∨ w.heap.size ≤ k_))) (HO0.out) (fun k_ hk => hk))))) (Reps.one (show Kd.FK (Kd.slice 50 (Kd.int .u64)) _ _ l1 [.slice A1 l1.length c1] from (Kd.FK_slice_mk (Kd.V_reads' (Kd.V_mono (ok' := (fun k_ => ((P0_ k_ ∨ P1_ k_) ∨ w.heap.size ≤ k_))) (HO1.out) (fun k_ hk => hk))).2.1 (Kd.V_F (Kd.V_mono (ok' := (fun k_ => ((P0_ k_ ∨ P1_ k_) ∨ w.heap.size ≤ k_))) (HO1.out) (fun k_ hk => hk))))) (Reps.none _ _)))); intro v229 w26 ho27 hb hg_ hnew_; clear hg_ hnew_; (first | rw [← Ny228.out] at ho27 | (simp only [Int.reduceToNat] at ho27; rw [← Ny228.out] at ho27)); replace HO0 := Aside0.mk (Kd.V_elder' (uV HO0.out) (Kd.N_base ho27) hb); replace HO1 := Aside0.mk (Kd.V_elder' (uV HO1.out) (Kd.N_base ho27) hb); have HO230 := Aside0.mk (Kd.N_lower ho27 (below_size uB)); replace HB := uy hb; clear hb ho27; obtain ⟨Ao28, co28, eo28⟩ := Kd.N_slice HO230.out; subst eo28) | ((with_reducible refine gate_callee (f := 104) rfl ?_); refine goesL_ (some 15) rfl rfl Try.func104 (by kernel_rfl) rfl #[.slice Ao28 y228.length co28] rfl uM ?_; (with_reducible refine (nat_right.calls _ _ y228 true _ ?side1 ?side2 A3.out).mono ?_); (case side1 => exact uC (Kd.N_reads' HO230.out).2.2); (case side2 => exact (Kd.N_reads' HO230.out).2.1); rintro e w' ⟨rfl, ⟨nd, rfl⟩⟩; refine ⟨_, rfl, ?_⟩) | ((with_reducible refine gate_callee (f := 105) rfl ?_); refine goesL_ (some 24) rfl rfl Try.func105 (by kernel_rfl) rfl #[.slice A0 l0.length c0, .slice A1 l1.length c1] rfl uM ?_; (with_reducible refine (nat_compare.calls k _ _ l0 _ _ l1 t232 _ ?side1 ?side2 ?side3 ?side4 A9.out).mono ?_); (case side1 => exact uC (Kd.V_reads' HO0.out).2.2); (case side2 => exact (Kd.V_reads' HO0.out).2.1); (case side3 => exact uC (Kd.V_reads' HO1.out).2.2); (case side4 => exact (Kd.V_reads' HO1.out).2.1); rintro e w' ⟨rfl, ⟨nd, rfl⟩⟩; refine ⟨_, rfl, ?_⟩) | ((with_reducible refine gate_callee (f := 107) rfl ?_); refine goesL_ (some 46) rfl rfl Try.func107 (by kernel_rfl) rfl #[.slice A0 l0.length c0, .slice A1 l1.length c1] rfl uM ?_; (with_reducible refine (nat_long.calls k _ _ l0 _ _ l1 t244 t245 _ ?side1 ?side2 ?side3 ?side4 A25.out).mono ?_); (case side1 => exact uC (Kd.V_reads' HO0.out).2.2); (case side2 => exact (Kd.V_reads' HO0.out).2.1); (case side3 => exact uC (Kd.V_reads' HO1.out).2.2); (case side4 => exact (Kd.V_reads' HO1.out).2.1); rintro e w29 ⟨v246, v248, rfl, ho0, ho1, hb⟩; refine ⟨_, rfl, ?_⟩; replace HO0 := Aside0.mk (Kd.V_mono (Kd.V_told (Kd.V_told (Kd.V_old (uV HO0.out) hb) (Kd.R_base ho0)) (Kd.R_base ho1)) (fun _ h_ => h_.1)); replace HO1 := Aside0.mk (Kd.V_mono (Kd.V_told (Kd.V_told (Kd.V_old (uV HO1.out) hb) (Kd.R_base ho0)) (Kd.R_base ho1)) (fun _ h_ => h_.1)); replace HO230 := Aside0.mk (Kd.N_mono (Kd.N_told (Kd.N_told (Kd.N_old (uN HO230.out) hb) (Kd.R_base ho0)) (Kd.R_base ho1)) (fun _ h_ => h_.1)); have HO247 := Aside0.mk (Kd.R_lower (Kd.R_newM (M := fun k_ => (w.heap.size ≤ k_)) ho0 (below_size uB) (fun k_ h_ => h_)) (below_size uB)); have HO249 := Aside0.mk (Kd.R_lower (Kd.R_newM (M := fun k_ => (w.heap.size ≤ k_)) ho1 (below_size uB) (fun k_ h_ => h_)) (below_size uB)); replace HB := uy hb; (try clear hb ho0 ho1)))
  go_ret3
  exact ⟨_, _, uF, uR HO247.out, uR HO249.out, uB⟩
 replace c4 := Bool.eq_false_iff.mpr c4
 subst c4
 have H1 : (some (([] : List Int), ([] : List Int), 1)) = some (r1, r2, r3) := by rw [if_neg (show ¬ (false = true) by decide)] at H; exact H
 clear H; have H := H1; clear H1
 simp only [Option.some.injEq, Prod.mk.injEq] at H
 obtain ⟨rfl, rfl, rfl⟩ := H
 go_enter Try.func71, Try.ntmps71
 go_wp2_with (first | ((with_reducible refine gate_dst (N := 14) rfl ?_); refine Kd.N_lit (Kd.slice 50 (Kd.int .u64)) _ 23 ?hg (N' := 14) ?hd (xs := ([l0, l1] : List (List Int))) (inner := [.slice A0 l0.length c0, .slice A1 l1.length c1]) (ok := (fun k_ => ((P0_ k_ ∨ P1_ k_) ∨ w.heap.size ≤ k_))) (okp := (fun k_ => ((P0_ k_ ∨ P1_ k_) ∨ w.heap.size ≤ k_))) ?hr ?hp (fun _ hk => hk) ((show ∀ k_, w.heap.size ≤ k_ → (fun k_ => ((P0_ k_ ∨ P1_ k_) ∨ w.heap.size ≤ k_)) k_ from fun k_ hk => (.inr (Nat.le_trans (below_size uB) hk))) _ (Nat.le_refl _)) (Below.refl _ _) (Nat.le_refl _) (by simp) ?_; (case hd => rfl); (case hg => rfl); (case hr => first | (go_simp; done) | (go_simp; rfl) | (go_simp; simp only [u64_u8]; done) | (go_simp; simp only [u64_u8]; rfl)); (case hp => exact (Reps.one (show Kd.FK (Kd.slice 50 (Kd.int .u64)) _ _ l0 [.slice A0 l0.length c0] from (Kd.FK_slice_mk (Kd.V_reads' (Kd.V_mono (ok' := (fun k_ => ((P0_ k_ ∨ P1_ k_) ∨ w.heap.size ≤ k_))) (HO0.out) (fun k_ hk => hk))).2.1 (Kd.V_F (Kd.V_mono (ok' := (fun k_ => ((P0_ k_ ∨ P1_ k_) ∨ w.heap.size ≤ k_))) (HO0.out) (fun k_ hk => hk))))) (Reps.one (show Kd.FK (Kd.slice 50 (Kd.int .u64)) _ _ l1 [.slice A1 l1.length c1] from (Kd.FK_slice_mk (Kd.V_reads' (Kd.V_mono (ok' := (fun k_ => ((P0_ k_ ∨ P1_ k_) ∨ w.heap.size ≤ k_))) (HO1.out) (fun k_ hk => hk))).2.1 (Kd.V_F (Kd.V_mono (ok' := (fun k_ => ((P0_ k_ ∨ P1_ k_) ∨ w.heap.size ≤ k_))) (HO1.out) (fun k_ hk => hk))))) (Reps.none _ _)))); intro v229 w30 ho31 hb hg_ hnew_; clear hg_ hnew_; (first | rw [← Ny228.out] at ho31 | (simp only [Int.reduceToNat] at ho31; rw [← Ny228.out] at ho31)); replace HO0 := Aside0.mk (Kd.V_elder' (uV HO0.out) (Kd.N_base ho31) hb); replace HO1 := Aside0.mk (Kd.V_elder' (uV HO1.out) (Kd.N_base ho31) hb); have HO230 := Aside0.mk (Kd.N_lower ho31 (below_size uB)); replace HB := uy hb; clear hb ho31; obtain ⟨Ao32, co32, eo32⟩ := Kd.N_slice HO230.out; subst eo32) | ((with_reducible refine gate_callee (f := 104) rfl ?_); refine goesL_ (some 15) rfl rfl Try.func104 (by kernel_rfl) rfl #[.slice Ao32 y228.length co32] rfl uM ?_; (with_reducible refine (nat_right.calls _ _ y228 false _ ?side1 ?side2 A3.out).mono ?_); (case side1 => exact uC (Kd.N_reads' HO230.out).2.2); (case side2 => exact (Kd.N_reads' HO230.out).2.1); rintro e w' ⟨rfl, ⟨nd, rfl⟩⟩; refine ⟨_, rfl, ?_⟩))
 go_ret3
 exact ⟨_, _, by first | rfl | (simp [errW_none, errW_some] <;> rfl) | (simp [*, errW_none, errW_some] <;> rfl), by first | exact Kd.R_nil _ _ _ _ _ | exact Kd.N_nil _ _ _ _ _ | exact Kd.V_nil _ _ _ _ _ | exact Kd.Q_nil _ _ _ _ _ | exact Kd.S_nil _ _ _ _ _, by first | exact Kd.R_nil _ _ _ _ _ | exact Kd.N_nil _ _ _ _ _ | exact Kd.V_nil _ _ _ _ _ | exact Kd.Q_nil _ _ _ _ _ | exact Kd.S_nil _ _ _ _ _, uB⟩
end Go.Proofs.Ytlkinjhmgljapaa.F
end
section
namespace Go.Proofs.Ytlkinjhmgljapaa.F
open Go.RowKit Go.Proofs.YtlkinjhmgljapaaW.PrintWords Go.Proofs.YtlkinjhmgljapaaW.PrintLast Go.Proofs.YtlkinjhmgljapaaW.PrintMore
set_option linter.unusedVariables false
set_option linter.unusedSimpArgs false
def mont_rest.f (k : Nat) (n : List Int) (p : Nat) : Option (List Int) := (nat_Div.f k (List.replicate (p * n.length) 0 ++ [1]) n).bind fun q => some q.2.1
theorem Rd.of' {w : World} {A : Option Addr} {n c e base : Nat} {ok : Nat → Prop} {l : List Int} (h : Kd.R (Kd.int .u64) e w base ok (.slice A n c) l) : Rd w A c l := by
  obtain ⟨h1, h2, h3⟩ := Kd.R_reads' h
  exact ⟨h3, by omega⟩
theorem set_last (m : Nat) : (List.replicate (m + 1) (0 : Int)).set m 1 = List.replicate m 0 ++ [1] := by
  rw [List.replicate_succ', List.set_append, if_neg (by simp), List.length_replicate, Nat.sub_self]
  rfl
theorem put_last {e gt m ct base : Nat} {ok : Nat → Prop} {w : World} (h : Kd.R (Kd.int .u64) e w base ok (.slice (some ⟨gt, 0, none⟩) (m + 1) ct) (List.replicate (m + 1) 0)) : Rd (w.setCell ⟨gt, m, none⟩ (.int .u64 1)) (some ⟨gt, 0, none⟩) ct (List.replicate m 0 ++ [1]) := by
  have h2 := (Kd.R_putg h (m : Int) 1).1
  rw [Int.toNat_natCast, set_last] at h2
  exact Rd.of' h2
set_option maxHeartbeats 8000000 in
set_option maxRecDepth 100000 in
theorem mont_rest.calls (k : Nat) (g : Nat) (n one next : List Int) (minus : Int) (p : Nat) (r : List Int) (w : World) (hR : RingAt w g n one next minus) (hn : n.length ≤ 1000) (hp : p ≤ 2) (h : mont_rest.f k n p = some r) :
    Calls Try.prog 69 #[.pointer (some ⟨g, 0, none⟩), .int .i64 (p : Int)] w fun e w' => ∃ A c, e = .returned (.slice A r.length c) ∧ Kd.R (Kd.int .u64) 50 w' w.heap.size (fun _ => True) (.slice A r.length c) r ∧ Below w.heap.size w w' := by
  obtain ⟨An, cn, Ao, co, Aq, cq, h1, h2, h3, h4⟩ := hR
  unfold mont_rest.f at h
  obtain ⟨⟨q1, q2, q3⟩, hq, h⟩ := Option.bind_eq_some_iff.mp h
  obtain rfl : q2 = r := Option.some.inj h
  clear h
  have hcg : w.cell? ⟨g, 0, none⟩ = some (.slice An n.length cn) := (blk_cell h1 0).trans rfl
  have hle : p * n.length ≤ 2000 := Nat.le_trans (Nat.mul_le_mul hp hn) (by omega)
  have H1 := Aside0.mk h1
  have H2 := Aside0.mk h2
  have HQ := Aside0.mk hq
  have HB := Aside0.mk (Below.refl w.heap.size w)
  clear h1 h2 h3 h4 hq
  obtain ⟨m, hm⟩ : ∃ m : Nat, m = p * n.length := ⟨_, rfl⟩
  rw [← hm] at hle HQ
  have hmc : (p : Int) * (n.length : Int) = (m : Int) := by rw [hm]; simp
  have hmz : wrap64 ((p : Int) * (n.length : Int)) = (m : Int) := by
    rw [hmc]
    unfold wrap64
    omega
  have hmw : IntKind.i64.wrap ((p : Int) * (n.length : Int)) = (m : Int) := (i64_w _).trans hmz
  have hm1 : ((m : Int) + 1).toNat = m + 1 := by omega
  have hm0 : (0 : Int) ≤ (m : Int) := by omega
  have hm2 : (m : Int) < (m : Int) + 1 := by omega
  clear hm
  have HD := Aside0.mk (show ∀ (W : World) (A : Option Addr) (c : Nat), Rd W A c (List.replicate m 0 ++ [1]) → Rd W An cn n → Calls Try.prog 71 #[.slice A (m + 1) c, .slice An n.length cn] W fun e w' => ∃ A2 c2 v1, e = .returned (.tuple #[v1, .slice A2 q2.length c2, .int .i64 q3]) ∧ Kd.R (Kd.int .u64) 50 w' W.heap.size (fun _ => True) (.slice A2 q2.length c2) q2 ∧ Below W.heap.size W w' from fun W A c h1 h2 => by
    have h := nat_Div.calls k _ A c (List.replicate m 0 ++ [1]) _ An cn n q1 q2 q3 W h1.V h2.V HQ.out
    have e : (List.replicate m (0 : Int) ++ [1]).length = m + 1 := by simp
    rw [e] at h
    refine h.mono ?_
    rintro e w' ⟨v0, v1, rfl, hR0, hR1, hb⟩
    obtain ⟨A2, c2, e2⟩ := Kd.R_slice hR1
    subst e2
    exact ⟨_, _, _, rfl, Kd.R_mono hR1 (fun _ _ => trivial), hb⟩)
  go_enter Try.func69, Try.ntmps69
  go_wp2_with (first
    | ((with_reducible refine gate_dst (N := 17) rfl ?_); refine Kd.R_make (Kd.int .u64) _ 50 rfl (N := 17) rfl 23 _ _ rfl ((m : Int) + 1) rfl rfl Try.underlying23 (.int .u64 0) 8 info50 rfl (by decide) (by omega) 0 (ok := fun _ => True) (okp := fun _ => True) rfl (fun _ hk => hk) trivial (by omega) (by omega) (Below.refl _ _) (Nat.le_refl _) ?_; intro v0 w1 ho1 hb hg_ hnew_; clear hg_ hnew_; rw [hm1] at ho1; have HB1 := Aside0.mk (below_step (by repeat (first | exact Below.refl _ _ | apply pw_below_drewN)) hb); obtain ⟨gt, ct, ev, hgt, hgl, _⟩ := Kd.R_form ho1 (by simp); rw [List.length_replicate] at ev; subst ev; have HO1 := Aside0.mk (Kd.R_lower (base' := w.heap.size) ho1 (by first | exact Nat.le_refl _ | simp)); have HGT := Aside0.mk (Nat.le_trans (below_size HB.out) hgt); obtain ⟨hy_, hz_⟩ := Kd.R_celln 0 HO1.out (m : Int) (by omega) (by omega); rw [Int.toNat_natCast] at hy_ hz_; have hcg1 : w1.cell? ⟨g, 0, none⟩ = some (.slice An n.length cn) := (blk_cell (blk_below H1.out HB1.out) 0).trans rfl; have HB5 := Aside0.mk (below_set (g := gt) (j := m) (v := .int .u64 1) HB1.out HGT.out); have HX5 := Aside0.mk (put_last HO1.out); have hcg5 : (w1.setCell ⟨gt, m, none⟩ (.int .u64 1)).cell? ⟨g, 0, none⟩ = some (.slice An n.length cn) := (blk_cell (blk_below H1.out HB5.out) 0).trans rfl; clear HB hb ho1 hgt hgl)
    | (go_at_call 71; refine (HD.out _ _ _ HX5.out (H2.out.below HB5.out)).mono ?_; rintro e w6 ⟨A2, c2, v1, rfl, h6, hd⟩; have HO6 := Aside0.mk (Kd.R_lower h6 (below_size HB5.out)); have HB6 := Aside0.mk (below_step HB5.out hd); clear HB5 hd h6))
  go_ret
  exact ⟨_, _, rfl, HO6.out, HB6.out⟩
theorem R_off {α : Type} {d : Kd α} {e base g i : Nat} {ok : Nat → Prop} {v u : Value} {xs : List α} {w : World} (h : d.R e w base ok v xs) (hg : g < base) : d.R e (w.setCell ⟨g, i, none⟩ u) base (fun _ => True) v xs :=
  Kd.R_mono (Kd.R_far (p := ⟨g, i, none⟩) (Kd.R_mono (Kd.R_bound h) (ok' := fun k => base ≤ k) (fun k hk => hk.2.1)) (fun k hk => by show k ≠ g; have : base ≤ k := hk; omega) u) (fun _ _ => trivial)
def invL (a : Int) : Nat → Int
  | 0 => a
  | i + 1 => IntKind.u64.wrap (invL a i * IntKind.u64.wrap (2 - IntKind.u64.wrap (a * invL a i)))
set_option maxHeartbeats 8000000 in
set_option maxRecDepth 100000 in
theorem mont_New.good (k : Nat) (n one next : List Int) (A0 : Option Addr) (c0 : Nat) (w : World) (h0 : Rd w A0 c0 n) (hr : nat_Right.f n = some true) (hl0 : 0 < n.length) (hl8 : n.length ≤ 8) (hodd : Go.bits .and .u64 (n.getD 0 0) 1 ≠ 0) (hone : ¬ (n.length = 1 ∧ n.getD 0 0 = 1)) (hcl : api_Nat_uint64.f n = some n) (h1 : mont_rest.f k n 1 = some one) (h2 : mont_rest.f k n 2 = some next) :
    Calls Try.prog 32 #[.slice A0 n.length c0] w fun e w' => ∃ g, e = .returned (.tuple #[.pointer (some ⟨g, 0, none⟩), .int .i64 0]) ∧ RingAt w' g n one next (IntKind.u64.wrap (-(invL (n.getD 0 0) 6))) ∧ Below w.heap.size w w' := by
  have hz0 : (0 : Int) < (n.length : Int) := by omega
  obtain ⟨ad, hA, hcell⟩ := Kd.at_int h0.1 (0 : Int) (by omega) hz0
  subst hA
  obtain ⟨a, ha⟩ : ∃ a : Int, a = n.getD 0 0 := ⟨_, rfl⟩
  rw [show rd n (0 : Int) = a from ha.symm] at hcell
  simp only [Int.toNat_zero] at hcell
  rw [show ad.add 0 = ad from rfl] at hcell
  rw [← ha] at hodd hone ⊢
  have hb0 : (Go.bits .and .u64 a 1 == 0) = false := beq_eq_false_iff_ne.mpr hodd
  have hl1 : ((n.length : Int) == 0) = false := beq_eq_false_iff_ne.mpr (by omega)
  have hl2 : decide ((8 : Int) < (n.length : Int)) = false := decide_eq_false (by omega)
  have key : ((n.length : Int) == 1) = false ∨ (((n.length : Int) == 1) = true ∧ (a == 1) = false) := by
    by_cases hL : n.length = 1
    · right
      exact ⟨by rw [hL]; rfl, beq_eq_false_iff_ne.mpr (fun e => hone ⟨hL, e⟩)⟩
    · left
      exact beq_eq_false_iff_ne.mpr (by omega)
  have H0 := Aside0.mk h0
  have HQ := Aside0.mk hr
  have H1 := Aside0.mk h1
  have H2 := Aside0.mk h2
  have HCL := Aside0.mk hcl
  have HB := Aside0.mk (Below.refl w.heap.size w)
  clear h0 hr h1 h2 hcl ha hodd hone
  rcases key with hk | ⟨hk, hk2⟩
  all_goals
    go_enter Try.func32, Try.ntmps32
    go_wp2_with (go_at_call 42; refine (nat_Right.calls (some ad) c0 n true _ (uC H0.out.1) H0.out.2 HQ.out).mono ?_; rintro e w' ⟨rfl, ⟨q, rfl⟩⟩)
    go_loopg [4, 40] 6 (fun gg v4 v40 wr => ∃ i : Nat, v4 = .int .u64 (invL a i) ∧ v40 = .int .i64 (i : Int) ∧ i ≤ 6 ∧ 6 - i ≤ gg ∧ Aside0 (Below w.heap.size w wr))
    case atStart => exact ⟨0, rfl, rfl, by omega, by omega, ⟨uB⟩⟩
    case round =>
      obtain ⟨i, rfl, rfl, hi, hg, HB⟩ := hrel
      have hcell2 : wr.cell? ad = some (.int .u64 a) := pw_cell_below HB.out hcell
      by_cases hlt : i < 6
      · have hltz : (i : Int) < 6 := by omega
        go_wp2
        go_roundg (6 - (i + 1))
        case measure => omega
        case rel => exact ⟨i + 1, rfl, by go_num, by omega, by omega, ⟨uB⟩⟩
      · have hltz : ¬ (i : Int) < 6 := by omega
        obtain rfl : i = 6 := by omega
        go_wp2_with (first
          | (go_at_call 68; refine (api_Nat_uint64.calls (some ad) c0 n n _ (Kd.C_below H0.out.1 uB) H0.out.2 HCL.out).mono ?_; rintro e w2 ⟨v2, rfl, hR, hb⟩; obtain ⟨Az, cz, ez⟩ := Kd.R_slice hR; subst ez; have HZ := Aside0.mk (Rd.of (n := 0) hR); have HB2 := Aside0.mk (below_step uB hb); have HG := Aside0.mk (below_size HB2.out); have BK1 := Aside0.mk (blk_new w2 (.cells #[.slice Az n.length cz, .int .u64 (IntKind.u64.wrap (-invL a 6)), .slice none 0 0, .slice none 0 0] 57)); have BW := Aside0.mk (below_alloc (Below.refl w2.heap.size w2) (.cells #[.slice Az n.length cz, .int .u64 (IntKind.u64.wrap (-invL a 6)), .slice none 0 0, .slice none 0 0] 57)); clear hR hb HB)
          | (go_at_call 69; refine (mont_rest.calls k w2.heap.size n [] [] (IntKind.u64.wrap (-invL a 6)) 1 one _ ⟨Az, cz, none, 0, none, 0, BK1.out, HZ.out.below BW.out, Rd.nil _, Rd.nil _⟩ (by omega) (by omega) H1.out).mono ?_; rintro e w3 ⟨A1, c1, rfl, hR, hb⟩; have HO3 := Aside0.mk hR; have BK3 := Aside0.mk (blk_below BK1.out hb); have BW3 := Aside0.mk (below_step BW.out hb); have hcz2 := (blk_cell BK3.out 2).trans rfl; have hfz2 := blk_frozen BK3.out 2; have HO4 := Aside0.mk (R_off (g := w2.heap.size) (i := 2) (u := .slice A1 one.length c1) HO3.out (by rw [World.size_alloc]; omega)); have BK4 := Aside0.mk (blk_put BK3.out 2 (.slice A1 one.length c1) rfl); have BW4 := Aside0.mk (below_set (g := w2.heap.size) (j := 2) (v := .slice A1 one.length c1) BW3.out (Nat.le_refl _)); have HL4 := Aside0.mk (blk_lt BK4.out); clear hR hb HO3 BK3 BW3 BK1 BW)
          | (go_at_call 69; refine (mont_rest.calls k w2.heap.size n one [] (IntKind.u64.wrap (-invL a 6)) 2 next _ ⟨Az, cz, A1, c1, none, 0, BK4.out, HZ.out.below BW4.out, Rd.of (n := 0) HO4.out, Rd.nil _⟩ (by omega) (by omega) H2.out).mono ?_; rintro e w5 ⟨A2, c2, rfl, hR, hb⟩; have HO5 := Aside0.mk hR; have BK5 := Aside0.mk (blk_below BK4.out hb); have BW5 := Aside0.mk (below_step BW4.out hb); have hcz3 := (blk_cell BK5.out 3).trans rfl; have hfz3 := blk_frozen BK5.out 3; have HOO := Aside0.mk (Kd.R_below HO4.out hb); clear hR hb HO4 BK4 BW4))
        have BW6 := below_set (g := w2.heap.size) (j := 3) (v := .slice A2 next.length c2) BW5.out (Nat.le_refl _)
        have HO6 := R_off (g := w2.heap.size) (i := 3) (u := .slice A2 next.length c2) HOO.out (by rw [World.size_alloc]; omega)
        have HO7 := R_off (g := w2.heap.size) (i := 3) (u := .slice A2 next.length c2) HO5.out HL4.out
        go_ret2
        exact ⟨w2.heap.size, rfl, ⟨Az, cz, A1, c1, A2, c2, blk_put BK5.out 3 (.slice A2 next.length c2) rfl, HZ.out.below BW6, Rd.of (n := 0) HO6, Rd.of (n := 0) HO7⟩, below_step HB2.out BW6⟩
set_option maxHeartbeats 8000000 in
set_option maxRecDepth 100000 in
theorem mont_New.bad (n : List Int) (A0 : Option Addr) (c0 : Nat) (b : Bool) (w : World) (h0 : Rd w A0 c0 n) (hr : nat_Right.f n = some b) (hbad : b = false ∨ n.length = 0 ∨ 8 < n.length ∨ Go.bits .and .u64 (n.getD 0 0) 1 = 0 ∨ (n.length = 1 ∧ n.getD 0 0 = 1)) :
    Calls Try.prog 32 #[.slice A0 n.length c0] w fun e w' => e = .returned (.tuple #[.pointer none, .int .i64 1]) ∧ Below w.heap.size w w' := by
  have H0 := Aside0.mk h0
  have HQ := Aside0.mk hr
  cases b with
  | false =>
    clear h0 hr hbad
    go_enter Try.func32, Try.ntmps32
    go_wp2_with (go_at_call 42; refine (nat_Right.calls A0 c0 n false _ (uC H0.out.1) H0.out.2 HQ.out).mono ?_; rintro e w' ⟨rfl, ⟨q, rfl⟩⟩)
    go_ret2
    exact ⟨rfl, by repeat (first | exact Below.refl _ _ | apply pw_below_drewN)⟩
  | true =>
    by_cases hl : n.length = 0
    · obtain rfl : n = [] := List.eq_nil_of_length_eq_zero hl
      clear h0 hr hbad hl
      show Calls Try.prog 32 #[.slice A0 0 c0] w _
      go_enter Try.func32, Try.ntmps32
      go_wp2_with (go_at_call 42; refine (nat_Right.calls A0 c0 [] true _ (uC H0.out.1) H0.out.2 HQ.out).mono ?_; rintro e w' ⟨rfl, ⟨q, rfl⟩⟩)
      go_ret2
      exact ⟨rfl, by repeat (first | exact Below.refl _ _ | apply pw_below_drewN)⟩
    · have hl1 : ((n.length : Int) == 0) = false := beq_eq_false_iff_ne.mpr (by omega)
      by_cases hl8 : 8 < n.length
      · have hl2 : decide ((8 : Int) < (n.length : Int)) = true := decide_eq_true (by omega)
        clear h0 hr hbad
        go_enter Try.func32, Try.ntmps32
        go_wp2_with (go_at_call 42; refine (nat_Right.calls A0 c0 n true _ (uC H0.out.1) H0.out.2 HQ.out).mono ?_; rintro e w' ⟨rfl, ⟨q, rfl⟩⟩)
        go_ret2
        exact ⟨rfl, by repeat (first | exact Below.refl _ _ | apply pw_below_drewN)⟩
      · have hl2 : decide ((8 : Int) < (n.length : Int)) = false := decide_eq_false (by omega)
        have hz0 : (0 : Int) < (n.length : Int) := by omega
        obtain ⟨ad, hA, hcell⟩ := Kd.at_int h0.1 (0 : Int) (by omega) hz0
        subst hA
        obtain ⟨a, ha⟩ : ∃ a : Int, a = n.getD 0 0 := ⟨_, rfl⟩
        rw [show rd n (0 : Int) = a from ha.symm] at hcell
        simp only [Int.toNat_zero] at hcell
        rw [show ad.add 0 = ad from rfl] at hcell
        rw [← ha] at hbad
        by_cases he : Go.bits .and .u64 a 1 = 0
        · have hb0 : (Go.bits .and .u64 a 1 == 0) = true := beq_iff_eq.mpr he
          clear h0 hr hbad ha he
          go_enter Try.func32, Try.ntmps32
          go_wp2_with (go_at_call 42; refine (nat_Right.calls (some ad) c0 n true _ (uC H0.out.1) H0.out.2 HQ.out).mono ?_; rintro e w' ⟨rfl, ⟨q, rfl⟩⟩)
          go_ret2
          exact ⟨rfl, by repeat (first | exact Below.refl _ _ | apply pw_below_drewN)⟩
        · have hb0 : (Go.bits .and .u64 a 1 == 0) = false := beq_eq_false_iff_ne.mpr he
          have hone : n.length = 1 ∧ a = 1 := by
            rcases hbad with h | h | h | h | h
            · cases h
            · exact absurd h hl
            · exact absurd h hl8
            · exact absurd h he
            · exact h
          have hk1 : ((n.length : Int) == 1) = true := by rw [hone.1]; rfl
          have hk2 : (a == 1) = true := beq_iff_eq.mpr hone.2
          clear h0 hr hbad ha he hone
          go_enter Try.func32, Try.ntmps32
          go_wp2_with (go_at_call 42; refine (nat_Right.calls (some ad) c0 n true _ (uC H0.out.1) H0.out.2 HQ.out).mono ?_; rintro e w' ⟨rfl, ⟨q, rfl⟩⟩)
          go_ret2
          exact ⟨rfl, by repeat (first | exact Below.refl _ _ | apply pw_below_drewN)⟩
def mont_New.ok (n : List Int) : Bool := decide (0 < n.length) && decide (n.length ≤ 8) && decide (Go.bits .and .u64 (n.getD 0 0) 1 ≠ 0) && !(decide (n.length = 1) && decide (n.getD 0 0 = 1))
def mont_minus (n : List Int) : Int := IntKind.u64.wrap (-(invL (n.getD 0 0) 6))
def mont_New.f (k : Nat) (n : List Int) : Option (Option (List Int × List Int)) :=
  (nat_Right.f n).bind fun b => if b = true ∧ mont_New.ok n = true then (mont_rest.f k n 1).bind fun one => (mont_rest.f k n 2).bind fun next => some (some (one, next)) else some none
def RingV (w : World) (n : List Int) (r : Option (List Int × List Int)) (v : Value) : Prop :=
  match r with
  | none => v = .pointer none
  | some (one, next) => ∃ g, v = .pointer (some ⟨g, 0, none⟩) ∧ RingAt w g n one next (mont_minus n)
theorem mont_New.calls (k : Nat) (n : List Int) (A0 : Option Addr) (c0 : Nat) (r : Option (List Int × List Int)) (w : World) (h0 : Rd w A0 c0 n) (h : mont_New.f k n = some r) :
    Calls Try.prog 32 #[.slice A0 n.length c0] w fun e w' => ∃ v, e = .returned (.tuple #[v, .int .i64 (if r.isSome then 0 else 1)]) ∧ RingV w' n r v ∧ (r.isSome = true → n.length ≤ 8) ∧ Below w.heap.size w w' := by
  unfold mont_New.f at h
  obtain ⟨b, hb, h⟩ := Option.bind_eq_some_iff.mp h
  by_cases hc : b = true ∧ mont_New.ok n = true
  · rw [if_pos hc] at h
    obtain ⟨one, h1, h⟩ := Option.bind_eq_some_iff.mp h
    obtain ⟨next, h2, h⟩ := Option.bind_eq_some_iff.mp h
    obtain rfl := Option.some.inj h
    obtain ⟨rfl, ho⟩ := hc
    unfold mont_New.ok at ho
    simp only [Bool.and_eq_true, decide_eq_true_eq, Bool.not_eq_true', Bool.and_eq_false_iff, decide_eq_false_iff_not] at ho
    obtain ⟨⟨⟨o1, o2⟩, o3⟩, o4⟩ := ho
    have hcl : api_Nat_uint64.f n = some n := by
      unfold api_Nat_uint64.f
      simp only [Option.bind_some, List.length_nil, List.nil_append, Nat.zero_add]
      rw [if_pos (by omega)]
    refine (mont_New.good k n one next A0 c0 w h0 hb o1 o2 o3 (fun ⟨a, b⟩ => by rcases o4 with h | h; exact h a; exact h b) hcl h1 h2).mono ?_
    rintro e w' ⟨g, rfl, hR, hd⟩
    exact ⟨_, rfl, ⟨g, rfl, hR⟩, fun _ => o2, hd⟩
  · rw [if_neg hc] at h
    obtain rfl := Option.some.inj h
    refine (mont_New.bad n A0 c0 b w h0 hb ?_).mono ?_
    · cases b with
      | false => exact Or.inl rfl
      | true =>
        have ho : ¬ mont_New.ok n = true := fun h => hc ⟨rfl, h⟩
        unfold mont_New.ok at ho
        simp only [Bool.and_eq_true, decide_eq_true_eq, Bool.not_eq_true', Bool.and_eq_false_iff, decide_eq_false_iff_not] at ho
        by_cases q1 : n.length = 0
        · exact Or.inr (Or.inl q1)
        · by_cases q2 : 8 < n.length
          · exact Or.inr (Or.inr (Or.inl q2))
          · by_cases q3 : Go.bits .and .u64 (n.getD 0 0) 1 = 0
            · exact Or.inr (Or.inr (Or.inr (Or.inl q3)))
            · refine Or.inr (Or.inr (Or.inr (Or.inr ?_)))
              by_cases q4 : n.length = 1
              · by_cases q5 : n.getD 0 0 = 1
                · exact ⟨q4, q5⟩
                · exact absurd ⟨⟨⟨by omega, by omega⟩, q3⟩, Or.inr q5⟩ ho
              · exact absurd ⟨⟨⟨by omega, by omega⟩, q3⟩, Or.inl q4⟩ ho
    · rintro e w' ⟨rfl, hd⟩
      exact ⟨_, rfl, rfl, fun h => (by cases h), hd⟩
def windbreaklaw02_fresh.f (k : Nat) (n : List Int) : Option (Option (List Int × List Int) × Bool) :=
  (mont_New.f k n).bind fun r => (windbreakref02_May.f n).bind fun m => some (if m = true then (r, r.isSome) else (none, r.isNone))
set_option maxHeartbeats 4000000 in
set_option maxRecDepth 100000 in
theorem windbreaklaw02_fresh.calls (k : Nat) (n : List Int) (A0 : Option Addr) (c0 : Nat) (r : Option (List Int × List Int)) (ok : Bool) (w : World) (h0 : Rd w A0 c0 n) (h : windbreaklaw02_fresh.f k n = some (r, ok)) :
    Calls Try.prog 12 #[.slice A0 n.length c0] w fun e w' => ∃ v, e = .returned (.tuple #[v, .bool ok]) ∧ RingV w' n r v ∧ (r.isSome = true → n.length ≤ 8) ∧ Below w.heap.size w w' := by
  unfold windbreaklaw02_fresh.f at h
  obtain ⟨q, hq, h⟩ := Option.bind_eq_some_iff.mp h
  obtain ⟨m, hm, h⟩ := Option.bind_eq_some_iff.mp h
  have H0 := Aside0.mk h0
  have HQ := Aside0.mk hq
  have HM := Aside0.mk hm
  have HB := Aside0.mk (Below.refl w.heap.size w)
  clear h0 hq hm
  cases m with
  | true =>
    simp only [if_true, Option.some.injEq, Prod.mk.injEq] at h
    obtain ⟨rfl, rfl⟩ := h
    cases q with
    | none =>
      go_enter Try.func12, Try.ntmps12
      go_wp2_with (first
        | (go_at_call 32; refine (mont_New.calls k n A0 c0 none _ (H0.out.below uB) HQ.out).mono ?_; rintro e w2 ⟨v, rfl, rfl, hl, hd⟩; have HB2 := Aside0.mk (below_step uB hd); clear HB hd hl)
        | (go_at_call 35; refine (windbreakref02_May.calls A0 c0 n true _ (H0.out.below uB).1 H0.out.2 HM.out).mono ?_; rintro e w3 ⟨rfl, ⟨q, rfl⟩⟩))
      go_ret2
      exact ⟨_, rfl, rfl, fun h => (by cases h), uB⟩
    | some on =>
      obtain ⟨one, next⟩ := on
      go_enter Try.func12, Try.ntmps12
      go_wp2_with (first
        | (go_at_call 32; refine (mont_New.calls k n A0 c0 (some (one, next)) _ (H0.out.below uB) HQ.out).mono ?_; rintro e w2 ⟨v, rfl, ⟨g, rfl, hR⟩, hl, hd⟩; have HR := Aside0.mk hR; have HLL := Aside0.mk hl; have HB2 := Aside0.mk (below_step uB hd); clear HB hd hl hR)
        | (go_at_call 35; refine (windbreakref02_May.calls A0 c0 n true _ (H0.out.below uB).1 H0.out.2 HM.out).mono ?_; rintro e w3 ⟨rfl, ⟨q, rfl⟩⟩))
      go_ret2
      exact ⟨_, rfl, ⟨g, rfl, HR.out.below (by repeat (first | exact Below.refl _ _ | apply pw_below_drewN))⟩, HLL.out, uB⟩
  | false =>
    simp only [Bool.false_eq_true, if_false, Option.some.injEq, Prod.mk.injEq] at h
    obtain ⟨rfl, rfl⟩ := h
    cases q with
    | none =>
      go_enter Try.func12, Try.ntmps12
      go_wp2_with (first
        | (go_at_call 32; refine (mont_New.calls k n A0 c0 none _ (H0.out.below uB) HQ.out).mono ?_; rintro e w2 ⟨v, rfl, rfl, hl, hd⟩; have HB2 := Aside0.mk (below_step uB hd); clear HB hd hl)
        | (go_at_call 35; refine (windbreakref02_May.calls A0 c0 n false _ (H0.out.below uB).1 H0.out.2 HM.out).mono ?_; rintro e w3 ⟨rfl, ⟨q, rfl⟩⟩))
      go_ret2
      exact ⟨_, rfl, rfl, fun h => (by cases h), uB⟩
    | some on =>
      obtain ⟨one, next⟩ := on
      go_enter Try.func12, Try.ntmps12
      go_wp2_with (first
        | (go_at_call 32; refine (mont_New.calls k n A0 c0 (some (one, next)) _ (H0.out.below uB) HQ.out).mono ?_; rintro e w2 ⟨v, rfl, ⟨g, rfl, hR⟩, hl, hd⟩; have HB2 := Aside0.mk (below_step uB hd); clear HB hd hl hR)
        | (go_at_call 35; refine (windbreakref02_May.calls A0 c0 n false _ (H0.out.below uB).1 H0.out.2 HM.out).mono ?_; rintro e w3 ⟨rfl, ⟨q, rfl⟩⟩))
      go_ret2
      exact ⟨_, rfl, rfl, fun h => (by cases h), uB⟩
end Go.Proofs.Ytlkinjhmgljapaa.F
end
section
namespace Go.Proofs.Ytlkinjhmgljapaa.F
open Go.RowKit Go.Proofs.YtlkinjhmgljapaaW.PrintWords Go.Proofs.YtlkinjhmgljapaaW.PrintLast Go.Proofs.YtlkinjhmgljapaaW.PrintMore
attribute [local go_sem] max2_int min2_int max_two min_two max_three min_three max_four min_four
set_option linter.unusedVariables false
set_option linter.unusedSimpArgs false
mutual
def windbreakref01_In.l0 : Nat → List Int → List Int → Int → Option (List Int)
 | 0, _, _, _ => none
 | k + 1, x0, x3, x4 => if x4 < (x0.length : Int) then (if 0 ≤ x4 then (windbreakref01_In.l1 k x0 x3 x4 (rd x0 x4) 0) else (none)) else ((windbreakref01_cut.f k x3).bind fun t320 => (some t320))
def windbreakref01_In.l1 : Nat → List Int → List Int → Int → Int → Int → Option (List Int)
 | 0, _, _, _, _, _ => none
 | k + 1, x0, x3, x4, x5, x6 => if x6 < 4 then (if x3.length < 17592186044416 then (windbreakref01_In.l1 k x0 (x3 ++ [Int.tmod x5 65536]) x4 (IntKind.u64.wrap (Int.tdiv x5 65536)) (wrap64 (x6 + 1))) else (none)) else (windbreakref01_In.l0 k x0 x3 (wrap64 (x4 + 1)))
end
def windbreakref01_In.f (k : Nat) (l0 : List Int) : Option (List Int) := windbreakref01_In.l0 k l0 ([] : List Int) 0
set_option maxHeartbeats 8000000 in
set_option maxRecDepth 100000 in
theorem windbreakref01_In.calls (k : Nat) (A0 : Option Addr) (c0 : Nat) (l0 : List Int) (r : List Int) (w : World) (hr0 : Kd.C (Kd.int .u64) w A0 l0.length l0) (hc0 : l0.length ≤ c0) (h : windbreakref01_In.f k l0 = some r) :
  Calls Try.prog 48 #[.slice A0 l0.length c0] w fun e w' => ∃ v0_ : Value, e = .returned (v0_) ∧ Kd.R (Kd.int .u64) 50 w' w.heap.size (fun _ => True) v0_ r ∧ Below w.heap.size w w' := by
 have HR0 := Aside0.mk hr0; have HC0 := Aside0.mk hc0; clear hr0 hc0
 have HB := Aside0.mk (Below.refl w.heap.size w)
 have H : (windbreakref01_In.l0 k l0 ([] : List Int) 0) = some r := h
 clear h
 have H' := Aside0.mk H
 clear H
 go_enter Try.func48, Try.ntmps48
 go_wp2
 go_loopg [3, 4] k (fun kq v3 v4 w' => ∃ (x3_1 : List Int) (x4_1 : Int), v4 = .int .i64 x4_1 ∧ Aside0 (windbreakref01_In.l0 kq l0 x3_1 x4_1 = some r) ∧ Aside0 (kq ≤ k) ∧ Aside0 (Kd.R (Kd.int .u64) 50 w' w.heap.size (fun _ => True) v3 x3_1) ∧ Aside0 (Below w.heap.size w w'))
 case atStart => exact ⟨(([] : List Int)), (0), uG, H', ⟨Nat.le_refl _⟩, ⟨by first | exact Kd.R_nil _ _ _ _ _ | exact Kd.N_nil _ _ _ _ _ | exact Kd.V_nil _ _ _ _ _ | exact Kd.Q_nil _ _ _ _ _ | exact Kd.S_nil _ _ _ _ _⟩, ⟨uB⟩⟩
 case round =>
  clear H'
  obtain ⟨x3_1, x4_1, rfl, HA, HK1, HO_3, HB⟩ := hrel
  cases gk with
  | zero => exact absurd HA.out (by simp [windbreakref01_In.l0])
  | succ k1 =>
   have H := HA.out
   clear HA
   simp only [windbreakref01_In.l0] at H
   by_cases c2 : x4_1 < (l0.length : Int)
   ·
    rw [if_pos c2] at H
    have c2b0 : decide (x4_1 < (l0.length : Int)) = true := decide_eq_true c2
    clear c2
    replace H := uT H; obtain ⟨c3, H⟩ := H
    have c3b0 : decide (0 ≤ x4_1) = true := decide_eq_true c3
    clear c3
    have H' := Aside0.mk H
    clear H
    have p323 : 0 ≤ (x4_1 : Int) := uO
    have q323 : x4_1 < (l0.length : Int) := uO
    obtain ⟨ad323, e323, hx323_0⟩ := Kd.at_int HR0.out x4_1 p323 q323
    cases e323
    replace hx323_0 := (HB.out.cell (World.block_lt_of_cell? w _ hx323_0)).trans hx323_0
    replace p323 := eq_true p323
    replace q323 := eq_true q323
    go_wp2
    go_loopg [3, 5, 6] k1 (fun kq v3 v5 v6 w' => ∃ (x3_2 : List Int) (x5_2 : Int) (x6_2 : Int), v5 = .int .u64 x5_2 ∧ v6 = .int .i64 x6_2 ∧ Aside0 (windbreakref01_In.l1 kq l0 x3_2 x4_1 x5_2 x6_2 = some r) ∧ Aside0 (kq ≤ k1) ∧ Aside0 (Kd.R (Kd.int .u64) 50 w' w.heap.size (fun _ => True) v3 x3_2) ∧ Aside0 (Below w.heap.size w w'))
    case atStart => exact ⟨(x3_1), (rd l0 x4_1), (0), uG, uG, H', ⟨Nat.le_refl _⟩, ⟨uR HO_3.out⟩, ⟨uB⟩⟩
    case round =>
     clear H'
     (try clear c2); (try clear c2b0); (try clear p2); (try clear c3); (try clear c3b0); (try clear p3); (try clear q3); (try clear hx3); (try clear hx323_0); (try clear p323); (try clear q323)
     obtain ⟨x3_2, x5_2, x6_2, rfl, rfl, HA, HK2, HO_3, HB⟩ := hrel
     cases gk with
     | zero => exact absurd HA.out (by simp [windbreakref01_In.l1])
     | succ k2 =>
      have H := HA.out
      clear HA
      simp only [windbreakref01_In.l1] at H
      by_cases c4 : x6_2 < 4
      ·
       rw [if_pos c4] at H
       have c4b0 : decide (x6_2 < 4) = true := decide_eq_true c4
       clear c4
       replace H := uT H; obtain ⟨c5, H⟩ := H
       have LMc5 := Aside0.mk c5; clear c5
       obtain ⟨y324, hy324⟩ : ∃ y_ : List Int, y_ = (x3_2 ++ [Int.tmod x5_2 65536]) := ⟨_, rfl⟩
       replace H : (windbreakref01_In.l1 k2 l0 y324 x4_1 (IntKind.u64.wrap (Int.tdiv x5_2 65536)) (wrap64 (x6_2 + 1))) = some r := by first | (rw [hy324]; with_reducible exact H) | (have H2_ := (Option.bind_some _ _).symm.trans H; rw [hy324]; with_reducible exact H2_) | (have H2_ := (Option.bind_some _ _).symm.trans H; with_reducible exact H2_) | with_reducible exact H | (rw [hy324]; exact H) | exact H
       have Ny324 := Aside0.mk hy324; clear hy324
       have H' := Aside0.mk H
       clear H
       go_wp2_with (first | ((with_reducible refine gate_builtin (b := .append) (xs := #[.tmp 21, .tmp 24]) rfl ?_); at_builtin; refine Kd.R_append (Kd.int .u64) (w0 := w) w.heap.size rfl (.tmp 21) (.tmp 24) 63 50 (.int .u64 0) 8 rfl Try.underlying63 info50 rfl (by decide) (by omega) u3 x3_2 (Int.tmod x5_2 65536) [.int .u64 (Int.tmod x5_2 65536)] (fun _ => True) (fun _ => False) rfl rfl ?aP (fun _ hk => hk.elim) ?aF ?aO ?aB ?aS ?aL ?_; (case aP => exact rfl); (case aB => exact uB); (case aF => exact (fun _ _ => trivial)); (case aO => exact (uR HO_3.out)); (case aS => exact (below_size uB)); (case aL => have := LMc5.out; omega); intro v325 w6 ho hb hg hat; rw [← Ny324.out] at ho; replace HB := Aside0.mk (hb); have HO326 := Aside0.mk (ho); clear HO_3; clear ho hb hg hat))
       go_roundg k2
       case measure => have := HK1.out; have := HK2.out; omega
       case rel => exact ⟨(y324), (IntKind.u64.wrap (Int.tdiv x5_2 65536)), (wrap64 (x6_2 + 1)), uG, uG, H', ⟨by have := HK1.out; have := HK2.out; omega⟩, ⟨uR HO326.out⟩, ⟨uB⟩⟩
      rw [if_neg c4] at H
      have c4b0 : decide (x6_2 < 4) = false := decide_eq_false c4
      clear c4
      have H' := Aside0.mk H
      clear H
      go_wp2
      go_roundg k2
      case measure => have := HK1.out; have := HK2.out; omega
      case rel => exact ⟨(x3_2), (wrap64 (x4_1 + 1)), uG, H', ⟨by have := HK1.out; have := HK2.out; omega⟩, ⟨uR HO_3.out⟩, ⟨uB⟩⟩
   rw [if_neg c2] at H
   have c2b0 : decide (x4_1 < (l0.length : Int)) = false := decide_eq_false c2
   clear c2
   replace H := ub H; obtain ⟨t320, A7, H⟩ := H
   obtain rfl := Option.some.inj H
   obtain ⟨Ao8, co8, eo8⟩ := Kd.R_slice HO_3.out
   subst eo8
   go_wp2_with (first | ((with_reducible refine gate_callee (f := 88) rfl ?_); refine goesL_ (some 29) rfl rfl Try.func88 (by kernel_rfl) rfl #[.slice Ao8 x3_1.length co8] rfl uM ?_; (with_reducible refine (windbreakref01_cut.calls k1 (fun k_ => some k_ = (.slice Ao8 x3_1.length co8 : Value).ownBlock) (.slice Ao8 x3_1.length co8) x3_1 t320 w _ ?side1 ?side2 A7.out).mono ?_); (case side1 => repeat (first | (with_reducible first | exact HB.out | apply below_alloc | apply pw_below_drewN | apply below_drew1) | exact HB.out)); (case side2 => exact Kd.R_tight rfl HO_3.out); rintro e w9 ⟨v321, rfl, ho0, hb, hkp⟩; refine ⟨_, rfl, ?_⟩; have HO322 := Aside0.mk (Kd.R_mono (ok' := fun k_ => True) ho0 (fun k_ hk_ => trivial)); replace HB := Aside0.mk (hb); clear HO_3; (try clear hb); (try clear hkp); (try clear ho0)))
   go_ret
   exact ⟨_, uF, uR HO322.out, uB⟩
end Go.Proofs.Ytlkinjhmgljapaa.F
end
section
namespace Go.Proofs.Ytlkinjhmgljapaa.F
open Go.RowKit Go.Proofs.YtlkinjhmgljapaaW.PrintWords Go.Proofs.YtlkinjhmgljapaaW.PrintLast Go.Proofs.YtlkinjhmgljapaaW.PrintMore
attribute [local go_sem] max2_int min2_int max_two min_two max_three min_three max_four min_four
set_option linter.unusedVariables false
set_option linter.unusedSimpArgs false
mutual
def windbreakref01_Out.l0 : Nat → List Int → List Int → Int → Option (List Int × Bool)
 | 0, _, _, _ => none
 | k + 1, x0, x4, x5 => if x5 < (x0.length : Int) then (windbreakref01_Out.l1 k x0 x4 x5 0 3) else (some (x4, decide ((x4.length : Int) ≤ 64)))
def windbreakref01_Out.l1 : Nat → List Int → List Int → Int → Int → Int → Option (List Int × Bool)
 | 0, _, _, _, _, _ => none
 | k + 1, x0, x4, x5, x6, x7 => if x7 ≥ 0 then (if (wrap64 (x5 + x7)) < (x0.length : Int) then (if 0 ≤ (wrap64 (x5 + x7)) then (windbreakref01_Out.l1 k x0 x4 x5 (IntKind.u64.wrap ((IntKind.u64.wrap (x6 * 65536)) + (rd x0 (wrap64 (x5 + x7))))) (wrap64 (x7 - 1))) else (none)) else (windbreakref01_Out.l1 k x0 x4 x5 (IntKind.u64.wrap (x6 * 65536)) (wrap64 (x7 - 1)))) else (if x4.length < 17592186044416 then (windbreakref01_Out.l0 k x0 (x4 ++ [x6]) (wrap64 (x5 + 4))) else (none))
end
def windbreakref01_Out.f (k : Nat) (l0 : List Int) : Option (List Int × Bool) := windbreakref01_Out.l0 k l0 ([] : List Int) 0
set_option maxHeartbeats 8000000 in
set_option maxRecDepth 100000 in
theorem windbreakref01_Out.calls (k : Nat) (A0 : Option Addr) (c0 : Nat) (l0 : List Int) (r1 : List Int) (r2 : Bool) (w : World) (hr0 : Kd.C (Kd.int .u64) w A0 l0.length l0) (hc0 : l0.length ≤ c0) (h : windbreakref01_Out.f k l0 = some (r1, r2)) :
  Calls Try.prog 86 #[.slice A0 l0.length c0] w fun e w' => ∃ v0_ : Value, e = .returned (.tuple #[v0_, .bool r2]) ∧ Kd.R (Kd.int .u64) 50 w' w.heap.size (fun _ => True) v0_ r1 ∧ Below w.heap.size w w' := by
 have HR0 := Aside0.mk hr0; have HC0 := Aside0.mk hc0; clear hr0 hc0
 have HB := Aside0.mk (Below.refl w.heap.size w)
 have H : (windbreakref01_Out.l0 k l0 ([] : List Int) 0) = some (r1, r2) := h
 clear h
 have H' := Aside0.mk H
 clear H
 go_enter Try.func86, Try.ntmps86
 go_wp2
 go_loopg [4, 5] k (fun kq v4 v5 w' => ∃ (x4_1 : List Int) (x5_1 : Int), v5 = .int .i64 x5_1 ∧ Aside0 (windbreakref01_Out.l0 kq l0 x4_1 x5_1 = some (r1, r2)) ∧ Aside0 (kq ≤ k) ∧ Aside0 (Kd.R (Kd.int .u64) 50 w' w.heap.size (fun _ => True) v4 x4_1) ∧ Aside0 (Below w.heap.size w w'))
 case atStart => exact ⟨(([] : List Int)), (0), uG, H', ⟨Nat.le_refl _⟩, ⟨by first | exact Kd.R_nil _ _ _ _ _ | exact Kd.N_nil _ _ _ _ _ | exact Kd.V_nil _ _ _ _ _ | exact Kd.Q_nil _ _ _ _ _ | exact Kd.S_nil _ _ _ _ _⟩, ⟨uB⟩⟩
 case round =>
  clear H'
  obtain ⟨x4_1, x5_1, rfl, HA, HK1, HO_4, HB⟩ := hrel
  cases gk with
  | zero => exact absurd HA.out (by simp [windbreakref01_Out.l0])
  | succ k1 =>
   have H := HA.out
   clear HA
   simp only [windbreakref01_Out.l0] at H
   by_cases c2 : x5_1 < (l0.length : Int)
   ·
    rw [if_pos c2] at H
    have c2b0 : decide (x5_1 < (l0.length : Int)) = true := decide_eq_true c2
    clear c2
    have H' := Aside0.mk H
    clear H
    go_wp2
    go_loopg [6, 7] k1 (fun kq v6 v7 w' => ∃ (x6_2 : Int) (x7_2 : Int), v6 = .int .u64 x6_2 ∧ v7 = .int .i64 x7_2 ∧ Aside0 (windbreakref01_Out.l1 kq l0 x4_1 x5_1 x6_2 x7_2 = some (r1, r2)) ∧ Aside0 (kq ≤ k1) ∧ Aside0 (Kd.R (Kd.int .u64) 50 w' w.heap.size (fun _ => True) u4 x4_1) ∧ Aside0 (Below w.heap.size w w'))
    case atStart => exact ⟨(0), (3), uG, uG, H', ⟨Nat.le_refl _⟩, ⟨uR HO_4.out⟩, ⟨uB⟩⟩
    case round =>
     clear H'
     (try clear c2); (try clear c2b0); (try clear p2)
     obtain ⟨x6_2, x7_2, rfl, rfl, HA, HK2, HO_4, HB⟩ := hrel
     cases gk with
     | zero => exact absurd HA.out (by simp [windbreakref01_Out.l1])
     | succ k2 =>
      have H := HA.out
      clear HA
      simp only [windbreakref01_Out.l1] at H
      by_cases c3 : x7_2 ≥ 0
      ·
       rw [if_pos c3] at H
       have c3b0 : decide (0 ≤ x7_2) = true := decide_eq_true c3
       clear c3
       by_cases c4 : (wrap64 (x5_1 + x7_2)) < (l0.length : Int)
       ·
        rw [if_pos c4] at H
        have c4b0 : decide ((wrap64 (x5_1 + x7_2)) < (l0.length : Int)) = true := decide_eq_true c4
        clear c4
        obtain ⟨ji5, hji5⟩ : ∃ j_ : Int, (wrap64 (x5_1 + x7_2)) = j_ := ⟨_, rfl⟩
        first | rw [hji5] at H | simp only [hji5] at H
        (try rw [hji5] at c4b0)
        have hji5w : (IntKind.i64.wrap (x5_1 + x7_2)) = ji5 := (i64_w _).trans hji5
        replace H := uT H; obtain ⟨c6, H⟩ := H
        have c6b0 : decide (0 ≤ (ji5)) = true := decide_eq_true c6
        clear c6
        have H' := Aside0.mk H
        clear H
        have p342 : 0 ≤ ((ji5) : Int) := uO
        have q342 : (ji5) < (l0.length : Int) := uO
        obtain ⟨ad342, e342, hx342_0⟩ := Kd.at_int HR0.out (ji5) p342 q342
        cases e342
        replace hx342_0 := (HB.out.cell (World.block_lt_of_cell? w _ hx342_0)).trans hx342_0
        replace p342 := eq_true p342
        replace q342 := eq_true q342
        go_wp2
        first | go_roundg k2 | ((try simp only [← hji5] at H'); simp only [← hji5]; go_roundg k2)
        case measure => have := HK1.out; have := HK2.out; omega
        case rel => first | exact ⟨(IntKind.u64.wrap ((IntKind.u64.wrap (x6_2 * 65536)) + (rd l0 (ji5)))), (wrap64 (x7_2 - 1)), (by first | rfl | (simp; done) | (simp only [← hji5] <;> (first | rfl | simp)) | (simp [*]; done)), uG, H', ⟨by have := HK1.out; have := HK2.out; omega⟩, ⟨uR HO_4.out⟩, ⟨uB⟩⟩ | (simp only [← hji5] at H'; exact ⟨(IntKind.u64.wrap ((IntKind.u64.wrap (x6_2 * 65536)) + (rd l0 (ji5)))), (wrap64 (x7_2 - 1)), (by first | rfl | (simp; done) | (simp only [← hji5] <;> (first | rfl | simp)) | (simp [*]; done)), uG, H', ⟨by have := HK1.out; have := HK2.out; omega⟩, ⟨uR HO_4.out⟩, ⟨uB⟩⟩)
       rw [if_neg c4] at H
       have c4b0 : decide ((wrap64 (x5_1 + x7_2)) < (l0.length : Int)) = false := decide_eq_false c4
       clear c4
       have H' := Aside0.mk H
       clear H
       go_wp2
       first | go_roundg k2 | ((try simp only [← hji5] at H'); simp only [← hji5]; go_roundg k2)
       case measure => have := HK1.out; have := HK2.out; omega
       case rel => first | exact ⟨(IntKind.u64.wrap (x6_2 * 65536)), (wrap64 (x7_2 - 1)), uG, uG, H', ⟨by have := HK1.out; have := HK2.out; omega⟩, ⟨uR HO_4.out⟩, ⟨uB⟩⟩ | (simp only [← hji5] at H'; exact ⟨(IntKind.u64.wrap (x6_2 * 65536)), (wrap64 (x7_2 - 1)), uG, uG, H', ⟨by have := HK1.out; have := HK2.out; omega⟩, ⟨uR HO_4.out⟩, ⟨uB⟩⟩)
      rw [if_neg c3] at H
      have c3b0 : decide (0 ≤ x7_2) = false := decide_eq_false c3
      clear c3
      replace H := uT H; obtain ⟨c7, H⟩ := H
      have LMc7 := Aside0.mk c7; clear c7
      obtain ⟨y343, hy343⟩ : ∃ y_ : List Int, y_ = (x4_1 ++ [x6_2]) := ⟨_, rfl⟩
      replace H : (windbreakref01_Out.l0 k2 l0 y343 (wrap64 (x5_1 + 4))) = some (r1, r2) := by first | (rw [hy343]; with_reducible exact H) | (have H2_ := (Option.bind_some _ _).symm.trans H; rw [hy343]; with_reducible exact H2_) | (have H2_ := (Option.bind_some _ _).symm.trans H; with_reducible exact H2_) | with_reducible exact H | (rw [hy343]; exact H) | exact H
      have Ny343 := Aside0.mk hy343; clear hy343
      have H' := Aside0.mk H
      clear H
      go_wp2_with (first | ((with_reducible refine gate_builtin (b := .append) (xs := #[.tmp 34, .tmp 36]) rfl ?_); at_builtin; refine Kd.R_append (Kd.int .u64) (w0 := w) w.heap.size rfl (.tmp 34) (.tmp 36) 23 50 (.int .u64 0) 8 rfl Try.underlying23 info50 rfl (by decide) (by omega) u4 x4_1 x6_2 [.int .u64 x6_2] (fun _ => True) (fun _ => False) rfl rfl ?aP (fun _ hk => hk.elim) ?aF ?aO ?aB ?aS ?aL ?_; (case aP => exact rfl); (case aB => exact uB); (case aF => exact (fun _ _ => trivial)); (case aO => exact (uR HO_4.out)); (case aS => exact (below_size uB)); (case aL => have := LMc7.out; omega); intro v344 w8 ho hb hg hat; rw [← Ny343.out] at ho; replace HB := Aside0.mk (hb); have HO345 := Aside0.mk (ho); clear HO_4; clear ho hb hg hat))
      first | go_roundg k2 | ((try simp only [← hji5] at H'); simp only [← hji5]; go_roundg k2)
      case measure => have := HK1.out; have := HK2.out; omega
      case rel => first | exact ⟨(y343), (wrap64 (x5_1 + 4)), uG, H', ⟨by have := HK1.out; have := HK2.out; omega⟩, ⟨uR HO345.out⟩, ⟨uB⟩⟩ | (simp only [← hji5] at H'; exact ⟨(y343), (wrap64 (x5_1 + 4)), uG, H', ⟨by have := HK1.out; have := HK2.out; omega⟩, ⟨uR HO345.out⟩, ⟨uB⟩⟩)
   rw [if_neg c2] at H
   have c2b0 : decide (x5_1 < (l0.length : Int)) = false := decide_eq_false c2
   clear c2
   simp only [Option.some.injEq, Prod.mk.injEq] at H
   obtain ⟨rfl, rfl⟩ := H
   obtain ⟨Ao9, co9, eo9⟩ := Kd.R_slice HO_4.out
   subst eo9
   go_wp2
   go_ret2
   exact ⟨_, uF, uR HO_4.out, uB⟩
end Go.Proofs.Ytlkinjhmgljapaa.F
end
section
namespace Go.Proofs.Ytlkinjhmgljapaa.F
open Go.RowKit Go.Proofs.YtlkinjhmgljapaaW.PrintWords Go.Proofs.YtlkinjhmgljapaaW.PrintLast Go.Proofs.YtlkinjhmgljapaaW.PrintMore
attribute [local go_sem] max2_int min2_int max_two min_two max_three min_three max_four min_four
set_option linter.unusedVariables false
set_option linter.unusedSimpArgs false
mutual
def windbreakref01_mul.l0 : Nat → List Int → List Int → List Int → Int → Option (List Int)
 | 0, _, _, _, _ => none
 | k + 1, x0, x1, x5, x6 => if x6 < (x0.length : Int) then (windbreakref01_mul.l1 k x0 x1 x5 x6 0 0) else ((windbreakref01_cut.f k x5).bind fun t386 => (some t386))
def windbreakref01_mul.l1 : Nat → List Int → List Int → List Int → Int → Int → Int → Option (List Int)
 | 0, _, _, _, _, _, _ => none
 | k + 1, x0, x1, x5, x6, x7, x8 => if x8 < (x1.length : Int) then (if 0 ≤ (wrap64 (x6 + x8)) then (if (wrap64 (x6 + x8)) < (x5.length : Int) then (if 0 ≤ x6 then (if x6 < (x0.length : Int) then (if 0 ≤ x8 then (windbreakref01_mul.l1 k x0 x1 (x5.set ((wrap64 (x6 + x8)) : Int).toNat (Int.tmod (IntKind.u64.wrap ((IntKind.u64.wrap ((rd x5 (wrap64 (x6 + x8))) + (IntKind.u64.wrap ((rd x0 x6) * (rd x1 x8))))) + x7)) 65536)) x6 (IntKind.u64.wrap (Int.tdiv (IntKind.u64.wrap ((IntKind.u64.wrap ((rd x5 (wrap64 (x6 + x8))) + (IntKind.u64.wrap ((rd x0 x6) * (rd x1 x8))))) + x7)) 65536)) (wrap64 (x8 + 1))) else (none)) else (none)) else (none)) else (none)) else (none)) else (if 0 ≤ (wrap64 (x6 + (x1.length : Int))) then (if (wrap64 (x6 + (x1.length : Int))) < (x5.length : Int) then (windbreakref01_mul.l0 k x0 x1 (x5.set ((wrap64 (x6 + (x1.length : Int))) : Int).toNat x7) (wrap64 (x6 + 1))) else (none)) else (none))
end
def windbreakref01_mul.f (k : Nat) (l0 : List Int) (l1 : List Int) : Option (List Int) := if 0 ≤ (wrap64 ((l0.length : Int) + (l1.length : Int))) then (if (wrap64 ((l0.length : Int) + (l1.length : Int)) : Int).toNat ≤ 35184372088832 then (windbreakref01_mul.l0 k l0 l1 (List.replicate (wrap64 ((l0.length : Int) + (l1.length : Int)) : Int).toNat 0) 0) else (none)) else (none)
set_option maxHeartbeats 8000000 in
set_option maxRecDepth 100000 in
theorem windbreakref01_mul.calls (k : Nat) (A0 : Option Addr) (c0 : Nat) (l0 : List Int) (A1 : Option Addr) (c1 : Nat) (l1 : List Int) (r : List Int) (w : World) (hr0 : Kd.C (Kd.int .u64) w A0 l0.length l0) (hc0 : l0.length ≤ c0) (hr1 : Kd.C (Kd.int .u64) w A1 l1.length l1) (hc1 : l1.length ≤ c1) (h : windbreakref01_mul.f k l0 l1 = some r) :
  Calls Try.prog 80 #[.slice A0 l0.length c0, .slice A1 l1.length c1] w fun e w' => ∃ v0_ : Value, e = .returned (v0_) ∧ Kd.R (Kd.int .u64) 50 w' w.heap.size (fun _ => True) v0_ r ∧ Below w.heap.size w w' := by
 have HR0 := Aside0.mk hr0; have HC0 := Aside0.mk hc0; clear hr0 hc0; have HR1 := Aside0.mk hr1; have HC1 := Aside0.mk hc1; clear hr1 hc1
 have HB := Aside0.mk (Below.refl w.heap.size w)
 have H : (if 0 ≤ (wrap64 ((l0.length : Int) + (l1.length : Int))) then (if (wrap64 ((l0.length : Int) + (l1.length : Int)) : Int).toNat ≤ 35184372088832 then (windbreakref01_mul.l0 k l0 l1 (List.replicate (wrap64 ((l0.length : Int) + (l1.length : Int)) : Int).toNat 0) 0) else (none)) else (none)) = some r := h
 clear h
 obtain ⟨ji3, hji3⟩ : ∃ j_ : Int, (wrap64 ((l0.length : Int) + (l1.length : Int))) = j_ := ⟨_, rfl⟩
 first | rw [hji3] at H | simp only [hji3] at H
 have hji3w : (IntKind.i64.wrap ((l0.length : Int) + (l1.length : Int))) = ji3 := (i64_w _).trans hji3
 replace H := uT H; obtain ⟨c4, H⟩ := H
 have c4b0 := eq_true c4
 have c4b1 : decide (0 ≤ (ji3)) = true := decide_eq_true c4
 clear c4
 replace H := uT H; obtain ⟨c5, H⟩ := H
 have c5b0 := eq_true c5
 have c5b1 : decide ((ji3 : Int).toNat ≤ 35184372088832) = true := decide_eq_true c5
 clear c5
 obtain ⟨y383, hy383⟩ : ∃ y_ : List Int, y_ = (List.replicate (ji3 : Int).toNat 0) := ⟨_, rfl⟩
 replace H : (windbreakref01_mul.l0 k l0 l1 y383 0) = some r := by first | (rw [hy383]; with_reducible exact H) | (have H2_ := (Option.bind_some _ _).symm.trans H; rw [hy383]; with_reducible exact H2_) | (have H2_ := (Option.bind_some _ _).symm.trans H; with_reducible exact H2_) | with_reducible exact H | (rw [hy383]; exact H) | exact H
 have Ny383 := Aside0.mk hy383; clear hy383
 have H' := Aside0.mk H
 clear H
 go_enter Try.func80, Try.ntmps80
 go_wp2_with (first | ((with_reducible refine gate_dst (N := 15) rfl ?_); refine Kd.R_make (Kd.int .u64) _ 50 rfl (N := 15) rfl 63 _ _ rfl ji3 rfl rfl Try.underlying63 (.int .u64 0) 8 info50 rfl (by decide) (by omega) 0 (ok := fun _ => True) (okp := fun _ => True) rfl (fun _ hk => hk) trivial uO (Nat.le_trans (Nat.mul_le_mul_right _ (uO : ji3.toNat ≤ 35184372088832)) (by omega)) (Below.refl _ _) (Nat.le_refl _) ?_; intro v384 w6 ho7 hb hg_ hnew_; clear hg_ hnew_; (first | rw [← Ny383.out] at ho7 | (simp only [Int.reduceToNat] at ho7; rw [← Ny383.out] at ho7)); have HO385 := Aside0.mk (Kd.R_lower ho7 (below_size uB)); replace HB := uy hb; clear hb ho7))
 repeat (go_quiet (first | ((with_reducible refine gate_dst (N := 15) rfl ?_); refine Kd.R_make (Kd.int .u64) _ 50 rfl (N := 15) rfl 63 _ _ rfl ji3 rfl rfl Try.underlying63 (.int .u64 0) 8 info50 rfl (by decide) (by omega) 0 (ok := fun _ => True) (okp := fun _ => True) rfl (fun _ hk => hk) trivial uO (Nat.le_trans (Nat.mul_le_mul_right _ (uO : ji3.toNat ≤ 35184372088832)) (by omega)) (Below.refl _ _) (Nat.le_refl _) ?_; intro v384 w6 ho7 hb hg_ hnew_; clear hg_ hnew_; (first | rw [← Ny383.out] at ho7 | (simp only [Int.reduceToNat] at ho7; rw [← Ny383.out] at ho7)); have HO385 := Aside0.mk (Kd.R_lower ho7 (below_size uB)); replace HB := uy hb; clear hb ho7)); try go_wp2_with (first | ((with_reducible refine gate_dst (N := 15) rfl ?_); refine Kd.R_make (Kd.int .u64) _ 50 rfl (N := 15) rfl 63 _ _ rfl ji3 rfl rfl Try.underlying63 (.int .u64 0) 8 info50 rfl (by decide) (by omega) 0 (ok := fun _ => True) (okp := fun _ => True) rfl (fun _ hk => hk) trivial uO (Nat.le_trans (Nat.mul_le_mul_right _ (uO : ji3.toNat ≤ 35184372088832)) (by omega)) (Below.refl _ _) (Nat.le_refl _) ?_; intro v384 w6 ho7 hb hg_ hnew_; clear hg_ hnew_; (first | rw [← Ny383.out] at ho7 | (simp only [Int.reduceToNat] at ho7; rw [← Ny383.out] at ho7)); have HO385 := Aside0.mk (Kd.R_lower ho7 (below_size uB)); replace HB := uy hb; clear hb ho7)))
 go_loopg [6] k (fun kq v6 w' => ∃ (x5_1 : List Int) (x6_1 : Int), v6 = .int .i64 x6_1 ∧ Aside0 (windbreakref01_mul.l0 kq l0 l1 x5_1 x6_1 = some r) ∧ Aside0 (kq ≤ k) ∧ Aside0 (Kd.R (Kd.int .u64) 50 w' w.heap.size (fun _ => True) v384 x5_1) ∧ Aside0 (Below w.heap.size w w'))
 case atStart => exact ⟨(y383), (0), uG, H', ⟨Nat.le_refl _⟩, ⟨uR HO385.out⟩, ⟨uB⟩⟩
 case round =>
  clear H'
  (try clear c1); (try clear p2); (try clear c4); (try clear c4b0); (try clear c4b1); (try clear c5); (try clear c5b0); (try clear c5b1); (try clear p6)
  obtain ⟨x5_1, x6_1, rfl, HA, HK1, HO_5, HB⟩ := hrel
  cases gk with
  | zero => exact absurd HA.out (by simp [windbreakref01_mul.l0])
  | succ k1 =>
   have H := HA.out
   clear HA
   simp only [windbreakref01_mul.l0] at H
   by_cases c8 : x6_1 < (l0.length : Int)
   ·
    rw [if_pos c8] at H
    have c8b0 : decide (x6_1 < (l0.length : Int)) = true := decide_eq_true c8
    clear c8
    have H' := Aside0.mk H
    clear H
    go_wp2
    repeat (go_quiet (fail); try go_wp2)
    go_loopg [7, 8] k1 (fun kq v7 v8 w' => ∃ (x5_2 : List Int) (x7_2 : Int) (x8_2 : Int), v7 = .int .u64 x7_2 ∧ v8 = .int .i64 x8_2 ∧ Aside0 (windbreakref01_mul.l1 kq l0 l1 x5_2 x6_1 x7_2 x8_2 = some r) ∧ Aside0 (kq ≤ k1) ∧ Aside0 (Kd.R (Kd.int .u64) 50 w' w.heap.size (fun _ => True) v384 x5_2) ∧ Aside0 (Below w.heap.size w w'))
    case atStart => exact ⟨(x5_1), (0), (0), uG, uG, H', ⟨Nat.le_refl _⟩, ⟨uR HO_5.out⟩, ⟨uB⟩⟩
    case round =>
     clear H'
     (try clear c1); (try clear p2); (try clear c4); (try clear c4b0); (try clear c4b1); (try clear c5); (try clear c5b0); (try clear c5b1); (try clear p6); (try clear c8); (try clear c8b0); (try clear p2); (try clear p6)
     obtain ⟨x5_2, x7_2, x8_2, rfl, rfl, HA, HK2, HO_5, HB⟩ := hrel
     cases gk with
     | zero => exact absurd HA.out (by simp [windbreakref01_mul.l1])
     | succ k2 =>
      have H := HA.out
      clear HA
      simp only [windbreakref01_mul.l1] at H
      by_cases c9 : x8_2 < (l1.length : Int)
      ·
       rw [if_pos c9] at H
       have c9b0 : decide (x8_2 < (l1.length : Int)) = true := decide_eq_true c9
       clear c9
       obtain ⟨ji10, hji10⟩ : ∃ j_ : Int, (wrap64 (x6_1 + x8_2)) = j_ := ⟨_, rfl⟩
       first | rw [hji10] at H | simp only [hji10] at H
       have hji10w : (IntKind.i64.wrap (x6_1 + x8_2)) = ji10 := (i64_w _).trans hji10
       replace H := uT H; obtain ⟨c11, H⟩ := H
       have c11b0 : decide (0 ≤ (ji10)) = true := decide_eq_true c11
       clear c11
       replace H := uT H; obtain ⟨c12, H⟩ := H
       have c12b0 : decide ((ji10) < (x5_2.length : Int)) = true := decide_eq_true c12
       clear c12
       replace H := uT H; obtain ⟨c13, H⟩ := H
       have c13b0 : decide (0 ≤ x6_1) = true := decide_eq_true c13
       clear c13
       replace H := uT H; obtain ⟨c14, H⟩ := H
       have c14b0 : decide (x6_1 < (l0.length : Int)) = true := decide_eq_true c14
       clear c14
       replace H := uT H; obtain ⟨c15, H⟩ := H
       have c15b0 : decide (0 ≤ x8_2) = true := decide_eq_true c15
       clear c15
       obtain ⟨y392, hy392⟩ : ∃ y_ : List Int, y_ = (x5_2.set ((ji10) : Int).toNat (Int.tmod (IntKind.u64.wrap ((IntKind.u64.wrap ((rd x5_2 (ji10)) + (IntKind.u64.wrap ((rd l0 x6_1) * (rd l1 x8_2))))) + x7_2)) 65536)) := ⟨_, rfl⟩
       replace H : (windbreakref01_mul.l1 k2 l0 l1 y392 x6_1 (IntKind.u64.wrap (Int.tdiv (IntKind.u64.wrap ((IntKind.u64.wrap ((rd x5_2 (ji10)) + (IntKind.u64.wrap ((rd l0 x6_1) * (rd l1 x8_2))))) + x7_2)) 65536)) (wrap64 (x8_2 + 1))) = some r := by first | (rw [hy392]; with_reducible exact H) | (have H2_ := (Option.bind_some _ _).symm.trans H; rw [hy392]; with_reducible exact H2_) | (have H2_ := (Option.bind_some _ _).symm.trans H; with_reducible exact H2_) | with_reducible exact H | (rw [hy392]; exact H) | exact H
       have Ny392 := Aside0.mk hy392; clear hy392
       have H' := Aside0.mk H
       clear H
       obtain ⟨Ao17, co17, eo17⟩ := Kd.R_slice HO_5.out
       subst eo17
       have p389 : 0 ≤ ((ji10) : Int) := uO
       have q389 : (ji10) < (x5_2.length : Int) := uO
       obtain ⟨ad389, e389, hx389_0⟩ := Kd.at_int (Kd.R_reads' HO_5.out).2.2 (ji10) p389 q389
       cases e389
       replace p389 := eq_true p389
       replace q389 := eq_true q389
       have p390 : 0 ≤ (x6_1 : Int) := uO
       have q390 : x6_1 < (l0.length : Int) := uO
       obtain ⟨ad390, e390, hx390_0⟩ := Kd.at_int HR0.out x6_1 p390 q390
       cases e390
       replace hx390_0 := (HB.out.cell (World.block_lt_of_cell? w _ hx390_0)).trans hx390_0
       replace p390 := eq_true p390
       replace q390 := eq_true q390
       have p391 : 0 ≤ (x8_2 : Int) := uO
       have q391 : x8_2 < (l1.length : Int) := uO
       obtain ⟨ad391, e391, hx391_0⟩ := Kd.at_int HR1.out x8_2 p391 q391
       cases e391
       replace hx391_0 := (HB.out.cell (World.block_lt_of_cell? w _ hx391_0)).trans hx391_0
       replace p391 := eq_true p391
       replace q391 := eq_true q391
       have p16 : 0 ≤ ((ji10) : Int) := uO
       have q16 : ((ji10) : Int) < ((x5_2.length : Int) : Int) := uO
       obtain ⟨go16, co16, eo16, gb16, gl16, cl16, HG16⟩ := Kd.R_form HO_5.out (by omega)
       (first | cases eo16 | (injection eo16 with ea_ en_ ec_; (first | subst ea_ | (injection ea_ with ea_; subst ea_)); subst ec_; clear en_))
       have GB16 := Aside0.mk gb16; have GG16 := Aside0.mk HG16; clear gb16 gl16 HG16
       (first | simp only [add_plain] at hx389_0 | skip)
       obtain ⟨hx16_0, hf16_0⟩ := Kd.R_celln 0 HO_5.out ((ji10) : Int) p16 q16
       replace p16 := eq_true p16
       replace q16 := eq_true q16
       have HP18 := Kd.R_putg HO_5.out ((ji10) : Int) (Int.tmod (IntKind.u64.wrap ((IntKind.u64.wrap ((rd x5_2 (ji10)) + (IntKind.u64.wrap ((rd l0 x6_1) * (rd l1 x8_2))))) + x7_2)) 65536)
       go_wp2_with (first | ((with_reducible refine gate_store (t := 50) (p := 52) rfl ?_); (try (rw [drewN_self wr]; generalize hq_ : World.drewN wr _ = wr; replace HO_5 := Aside0.mk (Kd.R_at hq_ HO_5.out); replace HB := Aside0.mk (below_at hq_ HB.out); clear hq_; (try (have HP18 := Kd.R_putg HO_5.out ((ji10) : Int) (Int.tmod (IntKind.u64.wrap ((IntKind.u64.wrap ((rd x5_2 (ji10)) + (IntKind.u64.wrap ((rd l0 x6_1) * (rd l1 x8_2))))) + x7_2)) 65536))))); refine store_event (t := 50) (p := 52) (v := ?vo_w19) (w1 := (wr.setCell ⟨go16, ((ji10) : Int).toNat, none⟩ (.int .u64 (Int.tmod (IntKind.u64.wrap ((IntKind.u64.wrap ((rd x5_2 (ji10)) + (IntKind.u64.wrap ((rd l0 x6_1) * (rd l1 x8_2))))) + x7_2)) 65536)))) ?hg ?ho ?hn ?hr ?_; (case ho => rfl); (case hg => rfl); (case hn => rfl); (case hr => first | (go_simp; done) | (go_simp; rfl) | (obtain ⟨hy_, hz_⟩ := Kd.R_celln 0 HO_5.out ((ji10) : Int) uO uO; (try simp only [Go.IntWalk.toNatUp] at hy_ hz_); (try simp only [Int.reduceToNat, Int.toNat_zero, Int.toNat_ofNat] at hy_ hz_); first | (go_simp; done) | (go_simp; rfl))); intro w19 hw; have hg : wr.grownBy w19 (some go16) := (by rw [hw]; exact HP18.2); have hp_ : Kd.R (Kd.int .u64) 50 w19 w.heap.size (fun _ => True) (.slice (some ⟨go16, 0, none⟩) x5_2.length co17) y392 := (by rw [hw, Ny392.out]; exact HP18.1); clear HP18; replace HO_5 := Aside0.mk (hp_); replace HB := Aside0.mk ((by rw [hw]; exact below_set (HB.out) GB16.out : Below w.heap.size w w19)); clear hg hw hp_))
       repeat (go_quiet (first | ((with_reducible refine gate_store (t := 50) (p := 52) rfl ?_); (try (rw [drewN_self wr]; generalize hq_ : World.drewN wr _ = wr; replace HO_5 := Aside0.mk (Kd.R_at hq_ HO_5.out); replace HB := Aside0.mk (below_at hq_ HB.out); clear hq_; (try (have HP18 := Kd.R_putg HO_5.out ((ji10) : Int) (Int.tmod (IntKind.u64.wrap ((IntKind.u64.wrap ((rd x5_2 (ji10)) + (IntKind.u64.wrap ((rd l0 x6_1) * (rd l1 x8_2))))) + x7_2)) 65536))))); refine store_event (t := 50) (p := 52) (v := ?vo_w19) (w1 := (wr.setCell ⟨go16, ((ji10) : Int).toNat, none⟩ (.int .u64 (Int.tmod (IntKind.u64.wrap ((IntKind.u64.wrap ((rd x5_2 (ji10)) + (IntKind.u64.wrap ((rd l0 x6_1) * (rd l1 x8_2))))) + x7_2)) 65536)))) ?hg ?ho ?hn ?hr ?_; (case ho => rfl); (case hg => rfl); (case hn => rfl); (case hr => first | (go_simp; done) | (go_simp; rfl) | (obtain ⟨hy_, hz_⟩ := Kd.R_celln 0 HO_5.out ((ji10) : Int) uO uO; (try simp only [Go.IntWalk.toNatUp] at hy_ hz_); (try simp only [Int.reduceToNat, Int.toNat_zero, Int.toNat_ofNat] at hy_ hz_); first | (go_simp; done) | (go_simp; rfl))); intro w19 hw; have hg : wr.grownBy w19 (some go16) := (by rw [hw]; exact HP18.2); have hp_ : Kd.R (Kd.int .u64) 50 w19 w.heap.size (fun _ => True) (.slice (some ⟨go16, 0, none⟩) x5_2.length co17) y392 := (by rw [hw, Ny392.out]; exact HP18.1); clear HP18; replace HO_5 := Aside0.mk (hp_); replace HB := Aside0.mk ((by rw [hw]; exact below_set (HB.out) GB16.out : Below w.heap.size w w19)); clear hg hw hp_)); try go_wp2_with (first | ((with_reducible refine gate_store (t := 50) (p := 52) rfl ?_); (try (rw [drewN_self wr]; generalize hq_ : World.drewN wr _ = wr; replace HO_5 := Aside0.mk (Kd.R_at hq_ HO_5.out); replace HB := Aside0.mk (below_at hq_ HB.out); clear hq_; (try (have HP18 := Kd.R_putg HO_5.out ((ji10) : Int) (Int.tmod (IntKind.u64.wrap ((IntKind.u64.wrap ((rd x5_2 (ji10)) + (IntKind.u64.wrap ((rd l0 x6_1) * (rd l1 x8_2))))) + x7_2)) 65536))))); refine store_event (t := 50) (p := 52) (v := ?vo_w19) (w1 := (wr.setCell ⟨go16, ((ji10) : Int).toNat, none⟩ (.int .u64 (Int.tmod (IntKind.u64.wrap ((IntKind.u64.wrap ((rd x5_2 (ji10)) + (IntKind.u64.wrap ((rd l0 x6_1) * (rd l1 x8_2))))) + x7_2)) 65536)))) ?hg ?ho ?hn ?hr ?_; (case ho => rfl); (case hg => rfl); (case hn => rfl); (case hr => first | (go_simp; done) | (go_simp; rfl) | (obtain ⟨hy_, hz_⟩ := Kd.R_celln 0 HO_5.out ((ji10) : Int) uO uO; (try simp only [Go.IntWalk.toNatUp] at hy_ hz_); (try simp only [Int.reduceToNat, Int.toNat_zero, Int.toNat_ofNat] at hy_ hz_); first | (go_simp; done) | (go_simp; rfl))); intro w19 hw; have hg : wr.grownBy w19 (some go16) := (by rw [hw]; exact HP18.2); have hp_ : Kd.R (Kd.int .u64) 50 w19 w.heap.size (fun _ => True) (.slice (some ⟨go16, 0, none⟩) x5_2.length co17) y392 := (by rw [hw, Ny392.out]; exact HP18.1); clear HP18; replace HO_5 := Aside0.mk (hp_); replace HB := Aside0.mk ((by rw [hw]; exact below_set (HB.out) GB16.out : Below w.heap.size w w19)); clear hg hw hp_)))
       first | go_roundg k2 | ((try simp only [← hji10] at H'); simp only [← hji10]; go_roundg k2) | ((try simp only [← hji3] at H'); simp only [← hji3]; go_roundg k2)
       case measure => have := HK1.out; have := HK2.out; omega
       case rel => first | exact ⟨(y392), (IntKind.u64.wrap (Int.tdiv (IntKind.u64.wrap ((IntKind.u64.wrap ((rd x5_2 (ji10)) + (IntKind.u64.wrap ((rd l0 x6_1) * (rd l1 x8_2))))) + x7_2)) 65536)), (wrap64 (x8_2 + 1)), (by first | rfl | (simp; done) | (simp only [← hji10] <;> (first | rfl | simp)) | (simp [*]; done)), uG, H', ⟨by have := HK1.out; have := HK2.out; omega⟩, ⟨uR HO_5.out⟩, ⟨uB⟩⟩ | (simp only [← hji10] at H'; exact ⟨(y392), (IntKind.u64.wrap (Int.tdiv (IntKind.u64.wrap ((IntKind.u64.wrap ((rd x5_2 (ji10)) + (IntKind.u64.wrap ((rd l0 x6_1) * (rd l1 x8_2))))) + x7_2)) 65536)), (wrap64 (x8_2 + 1)), (by first | rfl | (simp; done) | (simp only [← hji10] <;> (first | rfl | simp)) | (simp [*]; done)), uG, H', ⟨by have := HK1.out; have := HK2.out; omega⟩, ⟨uR HO_5.out⟩, ⟨uB⟩⟩) | (simp only [← hji3] at H'; exact ⟨(y392), (IntKind.u64.wrap (Int.tdiv (IntKind.u64.wrap ((IntKind.u64.wrap ((rd x5_2 (ji10)) + (IntKind.u64.wrap ((rd l0 x6_1) * (rd l1 x8_2))))) + x7_2)) 65536)), (wrap64 (x8_2 + 1)), (by first | rfl | (simp; done) | (simp only [← hji10] <;> (first | rfl | simp)) | (simp [*]; done)), uG, H', ⟨by have := HK1.out; have := HK2.out; omega⟩, ⟨uR HO_5.out⟩, ⟨uB⟩⟩)
      rw [if_neg c9] at H
      have c9b0 : decide (x8_2 < (l1.length : Int)) = false := decide_eq_false c9
      clear c9
      obtain ⟨ji20, hji20⟩ : ∃ j_ : Int, (wrap64 (x6_1 + (l1.length : Int))) = j_ := ⟨_, rfl⟩
      first | rw [hji20] at H | simp only [hji20] at H
      have hji20w : (IntKind.i64.wrap (x6_1 + (l1.length : Int))) = ji20 := (i64_w _).trans hji20
      replace H := uT H; obtain ⟨c21, H⟩ := H
      have c21b0 : decide (0 ≤ (ji20)) = true := decide_eq_true c21
      clear c21
      replace H := uT H; obtain ⟨c22, H⟩ := H
      have c22b0 : decide ((ji20) < (x5_2.length : Int)) = true := decide_eq_true c22
      clear c22
      obtain ⟨y393, hy393⟩ : ∃ y_ : List Int, y_ = (x5_2.set ((ji20) : Int).toNat x7_2) := ⟨_, rfl⟩
      replace H : (windbreakref01_mul.l0 k2 l0 l1 y393 (wrap64 (x6_1 + 1))) = some r := by first | (rw [hy393]; with_reducible exact H) | (have H2_ := (Option.bind_some _ _).symm.trans H; rw [hy393]; with_reducible exact H2_) | (have H2_ := (Option.bind_some _ _).symm.trans H; with_reducible exact H2_) | with_reducible exact H | (rw [hy393]; exact H) | exact H
      have Ny393 := Aside0.mk hy393; clear hy393
      have H' := Aside0.mk H
      clear H
      have p23 : 0 ≤ ((ji20) : Int) := uO
      have q23 : ((ji20) : Int) < ((x5_2.length : Int) : Int) := uO
      obtain ⟨go23, co23, eo23, gb23, gl23, cl23, HG23⟩ := Kd.R_form HO_5.out (by omega)
      (first | cases eo23 | (injection eo23 with ea_ en_ ec_; (first | subst ea_ | (injection ea_ with ea_; subst ea_)); subst ec_; clear en_))
      have GB23 := Aside0.mk gb23; have GG23 := Aside0.mk HG23; clear gb23 gl23 HG23
      obtain ⟨hx23_0, hf23_0⟩ := Kd.R_celln 0 HO_5.out ((ji20) : Int) p23 q23
      replace p23 := eq_true p23
      replace q23 := eq_true q23
      have HP24 := Kd.R_putg HO_5.out ((ji20) : Int) x7_2
      go_wp2_with (first | ((with_reducible refine gate_store (t := 50) (p := 61) rfl ?_); (try (rw [drewN_self wr]; generalize hq_ : World.drewN wr _ = wr; replace HO_5 := Aside0.mk (Kd.R_at hq_ HO_5.out); replace HB := Aside0.mk (below_at hq_ HB.out); clear hq_; (try (have HP24 := Kd.R_putg HO_5.out ((ji20) : Int) x7_2)))); refine store_event (t := 50) (p := 61) (v := ?vo_w25) (w1 := (wr.setCell ⟨go23, ((ji20) : Int).toNat, none⟩ (.int .u64 x7_2))) ?hg ?ho ?hn ?hr ?_; (case ho => rfl); (case hg => rfl); (case hn => rfl); (case hr => first | (go_simp; done) | (go_simp; rfl) | (obtain ⟨hy_, hz_⟩ := Kd.R_celln 0 HO_5.out ((ji20) : Int) uO uO; (try simp only [Go.IntWalk.toNatUp] at hy_ hz_); (try simp only [Int.reduceToNat, Int.toNat_zero, Int.toNat_ofNat] at hy_ hz_); first | (go_simp; done) | (go_simp; rfl))); intro w25 hw; have hg : wr.grownBy w25 (some go23) := (by rw [hw]; exact HP24.2); have hp_ : Kd.R (Kd.int .u64) 50 w25 w.heap.size (fun _ => True) (.slice (some ⟨go23, 0, none⟩) x5_2.length co23) y393 := (by rw [hw, Ny393.out]; exact HP24.1); clear HP24; replace HO_5 := Aside0.mk (hp_); replace HB := Aside0.mk ((by rw [hw]; exact below_set (HB.out) GB23.out : Below w.heap.size w w25)); clear hg hw hp_))
      repeat (go_quiet (first | ((with_reducible refine gate_store (t := 50) (p := 61) rfl ?_); (try (rw [drewN_self wr]; generalize hq_ : World.drewN wr _ = wr; replace HO_5 := Aside0.mk (Kd.R_at hq_ HO_5.out); replace HB := Aside0.mk (below_at hq_ HB.out); clear hq_; (try (have HP24 := Kd.R_putg HO_5.out ((ji20) : Int) x7_2)))); refine store_event (t := 50) (p := 61) (v := ?vo_w25) (w1 := (wr.setCell ⟨go23, ((ji20) : Int).toNat, none⟩ (.int .u64 x7_2))) ?hg ?ho ?hn ?hr ?_; (case ho => rfl); (case hg => rfl); (case hn => rfl); (case hr => first | (go_simp; done) | (go_simp; rfl) | (obtain ⟨hy_, hz_⟩ := Kd.R_celln 0 HO_5.out ((ji20) : Int) uO uO; (try simp only [Go.IntWalk.toNatUp] at hy_ hz_); (try simp only [Int.reduceToNat, Int.toNat_zero, Int.toNat_ofNat] at hy_ hz_); first | (go_simp; done) | (go_simp; rfl))); intro w25 hw; have hg : wr.grownBy w25 (some go23) := (by rw [hw]; exact HP24.2); have hp_ : Kd.R (Kd.int .u64) 50 w25 w.heap.size (fun _ => True) (.slice (some ⟨go23, 0, none⟩) x5_2.length co23) y393 := (by rw [hw, Ny393.out]; exact HP24.1); clear HP24; replace HO_5 := Aside0.mk (hp_); replace HB := Aside0.mk ((by rw [hw]; exact below_set (HB.out) GB23.out : Below w.heap.size w w25)); clear hg hw hp_)); try go_wp2_with (first | ((with_reducible refine gate_store (t := 50) (p := 61) rfl ?_); (try (rw [drewN_self wr]; generalize hq_ : World.drewN wr _ = wr; replace HO_5 := Aside0.mk (Kd.R_at hq_ HO_5.out); replace HB := Aside0.mk (below_at hq_ HB.out); clear hq_; (try (have HP24 := Kd.R_putg HO_5.out ((ji20) : Int) x7_2)))); refine store_event (t := 50) (p := 61) (v := ?vo_w25) (w1 := (wr.setCell ⟨go23, ((ji20) : Int).toNat, none⟩ (.int .u64 x7_2))) ?hg ?ho ?hn ?hr ?_; (case ho => rfl); (case hg => rfl); (case hn => rfl); (case hr => first | (go_simp; done) | (go_simp; rfl) | (obtain ⟨hy_, hz_⟩ := Kd.R_celln 0 HO_5.out ((ji20) : Int) uO uO; (try simp only [Go.IntWalk.toNatUp] at hy_ hz_); (try simp only [Int.reduceToNat, Int.toNat_zero, Int.toNat_ofNat] at hy_ hz_); first | (go_simp; done) | (go_simp; rfl))); intro w25 hw; have hg : wr.grownBy w25 (some go23) := (by rw [hw]; exact HP24.2); have hp_ : Kd.R (Kd.int .u64) 50 w25 w.heap.size (fun _ => True) (.slice (some ⟨go23, 0, none⟩) x5_2.length co23) y393 := (by rw [hw, Ny393.out]; exact HP24.1); clear HP24; replace HO_5 := Aside0.mk (hp_); replace HB := Aside0.mk ((by rw [hw]; exact below_set (HB.out) GB23.out : Below w.heap.size w w25)); clear hg hw hp_)))
      first | go_roundg k2 | ((try simp only [← hji20] at H'); simp only [← hji20]; go_roundg k2) | ((try simp only [← hji10] at H'); simp only [← hji10]; go_roundg k2) | ((try simp only [← hji3] at H'); simp only [← hji3]; go_roundg k2)
      case measure => have := HK1.out; have := HK2.out; omega
      case rel => first | exact ⟨(y393), (wrap64 (x6_1 + 1)), uG, H', ⟨by have := HK1.out; have := HK2.out; omega⟩, ⟨uR HO_5.out⟩, ⟨uB⟩⟩ | (simp only [← hji20] at H'; exact ⟨(y393), (wrap64 (x6_1 + 1)), uG, H', ⟨by have := HK1.out; have := HK2.out; omega⟩, ⟨uR HO_5.out⟩, ⟨uB⟩⟩) | (simp only [← hji10] at H'; exact ⟨(y393), (wrap64 (x6_1 + 1)), uG, H', ⟨by have := HK1.out; have := HK2.out; omega⟩, ⟨uR HO_5.out⟩, ⟨uB⟩⟩) | (simp only [← hji3] at H'; exact ⟨(y393), (wrap64 (x6_1 + 1)), uG, H', ⟨by have := HK1.out; have := HK2.out; omega⟩, ⟨uR HO_5.out⟩, ⟨uB⟩⟩)
   rw [if_neg c8] at H
   have c8b0 : decide (x6_1 < (l0.length : Int)) = false := decide_eq_false c8
   clear c8
   replace H := ub H; obtain ⟨t386, A26, H⟩ := H
   obtain rfl := Option.some.inj H
   obtain ⟨Ao27, co27, eo27⟩ := Kd.R_slice HO_5.out
   subst eo27
   go_wp2_with (first | (go_at_call 88; (with_reducible refine (windbreakref01_cut.calls k1 (fun k_ => some k_ = (.slice Ao27 x5_1.length co27 : Value).ownBlock) (.slice Ao27 x5_1.length co27) x5_1 t386 w _ ?side1 ?side2 A26.out).mono ?_); (case side1 => repeat (first | (with_reducible first | exact HB.out | apply below_alloc | apply pw_below_drewN | apply below_drew1) | exact HB.out)); (case side2 => exact Kd.R_tight rfl HO_5.out); rintro e w28 ⟨v387, rfl, ho0, hb, hkp⟩; have HO388 := Aside0.mk (Kd.R_mono (ok' := fun k_ => True) ho0 (fun k_ hk_ => trivial)); replace HB := Aside0.mk (hb); clear HO_5; (try clear hb); (try clear hkp); (try clear ho0)))
   repeat (go_quiet (first | (go_at_call 88; (with_reducible refine (windbreakref01_cut.calls k1 (fun k_ => some k_ = (.slice Ao27 x5_1.length co27 : Value).ownBlock) (.slice Ao27 x5_1.length co27) x5_1 t386 w _ ?side1 ?side2 A26.out).mono ?_); (case side1 => repeat (first | (with_reducible first | exact HB.out | apply below_alloc | apply pw_below_drewN | apply below_drew1) | exact HB.out)); (case side2 => exact Kd.R_tight rfl HO_5.out); rintro e w28 ⟨v387, rfl, ho0, hb, hkp⟩; have HO388 := Aside0.mk (Kd.R_mono (ok' := fun k_ => True) ho0 (fun k_ hk_ => trivial)); replace HB := Aside0.mk (hb); clear HO_5; (try clear hb); (try clear hkp); (try clear ho0))); try go_wp2_with (first | (go_at_call 88; (with_reducible refine (windbreakref01_cut.calls k1 (fun k_ => some k_ = (.slice Ao27 x5_1.length co27 : Value).ownBlock) (.slice Ao27 x5_1.length co27) x5_1 t386 w _ ?side1 ?side2 A26.out).mono ?_); (case side1 => repeat (first | (with_reducible first | exact HB.out | apply below_alloc | apply pw_below_drewN | apply below_drew1) | exact HB.out)); (case side2 => exact Kd.R_tight rfl HO_5.out); rintro e w28 ⟨v387, rfl, ho0, hb, hkp⟩; have HO388 := Aside0.mk (Kd.R_mono (ok' := fun k_ => True) ho0 (fun k_ hk_ => trivial)); replace HB := Aside0.mk (hb); clear HO_5; (try clear hb); (try clear hkp); (try clear ho0))))
   go_ret
   exact ⟨_, by first | rfl | (simp [errW_none, errW_some] <;> rfl) | (simp only [← hji3]; first | rfl | (simp [errW_none, errW_some] <;> rfl)) | (simp [*, errW_none, errW_some] <;> rfl), uR HO388.out, uB⟩
end Go.Proofs.Ytlkinjhmgljapaa.F
end
section
namespace Go.Proofs.Ytlkinjhmgljapaa.F
open Go.RowKit Go.Proofs.YtlkinjhmgljapaaW.PrintWords Go.Proofs.YtlkinjhmgljapaaW.PrintLast Go.Proofs.YtlkinjhmgljapaaW.PrintMore
attribute [local go_sem] max2_int min2_int max_two min_two max_three min_three max_four min_four
set_option linter.unusedVariables false
set_option linter.unusedSimpArgs false
mutual
def windbreakref01_div.l0 : Nat → List Int → List Int → List Int → List Int → Int → Option (List Int × List Int)
 | 0, _, _, _, _, _ => none
 | k + 1, x0, x1, x6, x7, x8 => if x8 ≥ 0 then (if 0 ≤ x8 then (if x8 < (x0.length : Int) then ((some (([rd x0 x8] : List Int) : List Int)).bind fun y409 => (if y409.length + x7.length < 17592186044416 then ((windbreakref01_cut.f k (y409 ++ x7)).bind fun t415 => (windbreakref01_div.l1 k x0 x1 x6 t415 x8 0 65535)) else (none))) else (none)) else (none)) else ((windbreakref01_cut.f k x6).bind fun t405 => (some (t405, x7)))
def windbreakref01_div.l1 : Nat → List Int → List Int → List Int → List Int → Int → Int → Int → Option (List Int × List Int)
 | 0, _, _, _, _, _, _, _ => none
 | k + 1, x0, x1, x6, x7, x8, x9, x10 => if x9 < x10 then ((windbreakref01_mul.f k x1 (([IntKind.u64.wrap (Int.tdiv (IntKind.u64.wrap ((IntKind.u64.wrap (x9 + x10)) + 1)) 2)] : List Int))).bind fun t431 => ((windbreakref01_compare.f k t431 x7).bind fun t434 => (if t434 ≤ 0 then (windbreakref01_div.l1 k x0 x1 x6 x7 x8 (IntKind.u64.wrap (Int.tdiv (IntKind.u64.wrap ((IntKind.u64.wrap (x9 + x10)) + 1)) 2)) x10) else (windbreakref01_div.l1 k x0 x1 x6 x7 x8 x9 (IntKind.u64.wrap ((IntKind.u64.wrap (Int.tdiv (IntKind.u64.wrap ((IntKind.u64.wrap (x9 + x10)) + 1)) 2)) - 1)))))) else (if 0 ≤ x8 then (if x8 < (x6.length : Int) then ((windbreakref01_mul.f k x1 (([x9] : List Int))).bind fun t422 => ((windbreakref01_sub.f k x7 t422).bind fun t425 => (windbreakref01_div.l0 k x0 x1 (x6.set (x8 : Int).toNat x9) t425 (wrap64 (x8 - 1))))) else (none)) else (none))
end
def windbreakref01_div.f (k : Nat) (l0 : List Int) (l1 : List Int) : Option (List Int × List Int) := if 0 ≤ (l0.length : Int) then (if ((l0.length : Int) : Int).toNat ≤ 35184372088832 then (windbreakref01_div.l0 k l0 l1 (List.replicate ((l0.length : Int) : Int).toNat 0) ([] : List Int) (wrap64 ((l0.length : Int) - 1))) else (none)) else (none)
set_option maxHeartbeats 8000000 in
set_option maxRecDepth 100000 in
theorem windbreakref01_div.calls (k : Nat) (A0 : Option Addr) (c0 : Nat) (l0 : List Int) (A1 : Option Addr) (c1 : Nat) (l1 : List Int) (r1 : List Int) (r2 : List Int) (w : World) (hr0 : Kd.C (Kd.int .u64) w A0 l0.length l0) (hc0 : l0.length ≤ c0) (hr1 : Kd.C (Kd.int .u64) w A1 l1.length l1) (hc1 : l1.length ≤ c1) (h : windbreakref01_div.f k l0 l1 = some (r1, r2)) :
  Calls Try.prog 103 #[.slice A0 l0.length c0, .slice A1 l1.length c1] w fun e w' => ∃ v0_ v1_ : Value, e = .returned (.tuple #[v0_, v1_]) ∧ Kd.R (Kd.int .u64) 50 w' w.heap.size (fun k_ => some k_ ≠ (v1_ : Value).ownBlock) v0_ r1 ∧ Kd.R (Kd.int .u64) 50 w' w.heap.size (fun k_ => some k_ ≠ (v0_ : Value).ownBlock) v1_ r2 ∧ Below w.heap.size w w' := by
 have HR0 := Aside0.mk hr0; have HC0 := Aside0.mk hc0; clear hr0 hc0; have HR1 := Aside0.mk hr1; have HC1 := Aside0.mk hc1; clear hr1 hc1
 have HB := Aside0.mk (Below.refl w.heap.size w)
 have H : (if 0 ≤ (l0.length : Int) then (if ((l0.length : Int) : Int).toNat ≤ 35184372088832 then (windbreakref01_div.l0 k l0 l1 (List.replicate ((l0.length : Int) : Int).toNat 0) ([] : List Int) (wrap64 ((l0.length : Int) - 1))) else (none)) else (none)) = some (r1, r2) := h
 clear h
 replace H := uT H; obtain ⟨c3, H⟩ := H
 have c3b0 := eq_true c3
 have c3b1 : decide (0 ≤ (l0.length : Int)) = true := decide_eq_true c3
 clear c3
 replace H := uT H; obtain ⟨c4, H⟩ := H
 have c4b0 := eq_true c4
 have c4b1 : decide (((l0.length : Int) : Int).toNat ≤ 35184372088832) = true := decide_eq_true c4
 clear c4
 obtain ⟨y402, hy402⟩ : ∃ y_ : List Int, y_ = (List.replicate ((l0.length : Int) : Int).toNat 0) := ⟨_, rfl⟩
 replace H : (windbreakref01_div.l0 k l0 l1 y402 ([] : List Int) (wrap64 ((l0.length : Int) - 1))) = some (r1, r2) := by first | (rw [hy402]; with_reducible exact H) | (have H2_ := (Option.bind_some _ _).symm.trans H; rw [hy402]; with_reducible exact H2_) | (have H2_ := (Option.bind_some _ _).symm.trans H; with_reducible exact H2_) | with_reducible exact H | (rw [hy402]; exact H) | exact H
 have Ny402 := Aside0.mk hy402; clear hy402
 have H' := Aside0.mk H
 clear H
 go_enter Try.func103, Try.ntmps103
 go_wp2_with (first | ((with_reducible refine gate_dst (N := 14) rfl ?_); refine Kd.R_make (Kd.int .u64) _ 50 rfl (N := 14) rfl 63 _ _ rfl (l0.length : Int) rfl rfl Try.underlying63 (.int .u64 0) 8 info50 rfl (by decide) (by omega) 0 (ok := fun _ => True) (okp := fun _ => True) rfl (fun _ hk => hk) trivial uO (Nat.le_trans (Nat.mul_le_mul_right _ (uO : (l0.length : Int).toNat ≤ 35184372088832)) (by omega)) (Below.refl _ _) (Nat.le_refl _) ?_; intro v403 w5 ho6 hb hg_ hnew_; clear hg_ hnew_; (first | rw [← Ny402.out] at ho6 | (simp only [Int.reduceToNat] at ho6; rw [← Ny402.out] at ho6)); have HO404 := Aside0.mk (Kd.R_lower ho6 (below_size uB)); replace HB := uy hb; clear hb ho6))
 go_loopg [7, 8] k (fun kq v7 v8 w' => ∃ (x6_1 : List Int) (x7_1 : List Int) (x8_1 : Int), v8 = .int .i64 x8_1 ∧ Aside0 (windbreakref01_div.l0 kq l0 l1 x6_1 x7_1 x8_1 = some (r1, r2)) ∧ Aside0 (kq ≤ k) ∧ Aside0 (Kd.R (Kd.int .u64) 50 w' w.heap.size (fun k_ => some k_ ≠ (v7 : Value).ownBlock) v403 x6_1) ∧ Aside0 (Kd.R (Kd.int .u64) 50 w' w.heap.size (fun k_ => some k_ ≠ (v403 : Value).ownBlock) v7 x7_1) ∧ Aside0 (Below w.heap.size w w'))
 case atStart => exact ⟨(y402), (([] : List Int)), (wrap64 ((l0.length : Int) - 1)), uG, H', ⟨Nat.le_refl _⟩, ⟨by (with_reducible repeat (first | apply Kd.R_alloc | apply Kd.R_drewN | apply Kd.R_drew)); exact Kd.R_mono HO404.out (fun _ hk => (by simp [Value.ownBlock]))⟩, ⟨by first | exact Kd.R_nil _ _ _ _ _ | exact Kd.N_nil _ _ _ _ _ | exact Kd.V_nil _ _ _ _ _ | exact Kd.Q_nil _ _ _ _ _ | exact Kd.S_nil _ _ _ _ _⟩, ⟨uB⟩⟩
 case round =>
  clear H'
  (try clear c1); (try clear p2); (try clear c3); (try clear c3b0); (try clear c3b1); (try clear c4); (try clear c4b0); (try clear c4b1); (try clear p6)
  obtain ⟨x6_1, x7_1, x8_1, rfl, HA, HK1, HO_6, HO_7, HB⟩ := hrel
  cases gk with
  | zero => exact absurd HA.out (by simp [windbreakref01_div.l0])
  | succ k1 =>
   have H := HA.out
   clear HA
   simp only [windbreakref01_div.l0] at H
   by_cases c7 : x8_1 ≥ 0
   ·
    rw [if_pos c7] at H
    have c7b0 : decide (0 ≤ x8_1) = true := decide_eq_true c7
    clear c7
    replace H := uT H; obtain ⟨c8, H⟩ := H
    have c8b0 : decide (0 ≤ x8_1) = true := decide_eq_true c8
    clear c8
    replace H := uT H; obtain ⟨c9, H⟩ := H
    have c9b0 : decide (x8_1 < (l0.length : Int)) = true := decide_eq_true c9
    clear c9
    obtain ⟨y409, hy409⟩ : ∃ y_ : List Int, y_ = (([rd l0 x8_1] : List Int)) := ⟨_, rfl⟩
    replace H : (if y409.length + x7_1.length < 17592186044416 then ((windbreakref01_cut.f k1 (y409 ++ x7_1)).bind fun t415 => (windbreakref01_div.l1 k1 l0 l1 x6_1 t415 x8_1 0 65535)) else (none)) = some (r1, r2) := by first | (rw [hy409]; with_reducible exact H) | (have H2_ := (Option.bind_some _ _).symm.trans H; rw [hy409]; with_reducible exact H2_) | (have H2_ := (Option.bind_some _ _).symm.trans H; with_reducible exact H2_) | with_reducible exact H | (rw [hy409]; exact H) | exact H
    have Ny409 := Aside0.mk hy409; clear hy409
    replace H := uT H; obtain ⟨c10, H⟩ := H
    have LMc10 := Aside0.mk c10; clear c10
    obtain ⟨y412, hy412⟩ : ∃ y_ : List Int, y_ = (y409 ++ x7_1) := ⟨_, rfl⟩
    replace H : ((windbreakref01_cut.f k1 y412).bind fun t415 => (windbreakref01_div.l1 k1 l0 l1 x6_1 t415 x8_1 0 65535)) = some (r1, r2) := by first | (rw [hy412]; with_reducible exact H) | (have H2_ := (Option.bind_some _ _).symm.trans H; rw [hy412]; with_reducible exact H2_) | (have H2_ := (Option.bind_some _ _).symm.trans H; with_reducible exact H2_) | with_reducible exact H | (rw [hy412]; exact H) | exact H
    have Ny412 := Aside0.mk hy412; clear hy412
    replace H := ub H; obtain ⟨t415, A11, H⟩ := H
    have H' := Aside0.mk H
    clear H
    have p408 : 0 ≤ (x8_1 : Int) := uO
    have q408 : x8_1 < (l0.length : Int) := uO
    obtain ⟨ad408, e408, hx408_0⟩ := Kd.at_int HR0.out x8_1 p408 q408
    cases e408
    replace hx408_0 := (HB.out.cell (World.block_lt_of_cell? w _ hx408_0)).trans hx408_0
    replace p408 := eq_true p408
    replace q408 := eq_true q408
    go_wp2_with (first | ((with_reducible refine gate_dst (N := 26) rfl ?_); refine Kd.R_lit (Kd.int .u64) _ 50 ?hg (N := 26) ?hd (xs := ([rd l0 x8_1] : List Int)) (inner := [.int .u64 (rd l0 x8_1)]) (ok := fun _ => True) (okp := fun _ => True) ?hr ?hp (fun _ hk => hk) trivial (Below.refl _ _) (Nat.le_refl _) (by simp) ?_; (case hd => rfl); (case hg => rfl); (case hr => first | (go_simp; done) | (go_simp; rfl) | (go_simp; simp only [u64_u8]; done) | (go_simp; simp only [u64_u8]; rfl)); (case hp => exact (Reps.one (show Kd.M (Kd.int .u64) _ _ _ (rd l0 x8_1) [.int .u64 (rd l0 x8_1)] from rfl) (Reps.none _ _))); intro v410 w12 ho13 hb hg_ hnew_; clear hg_ hnew_; (first | rw [← Ny409.out] at ho13 | (simp only [Int.reduceToNat] at ho13; rw [← Ny409.out] at ho13)); have HO411 := Aside0.mk (Kd.R_lower (Kd.R_new' (Kd.R_new' ho13 (Kd.R_lt (uR HO_6.out))) (Kd.R_lt (uR HO_7.out))) (below_size uB)); replace HO_6 := ueR HO_6 ho13 hb; replace HO_7 := ueR HO_7 ho13 hb; replace HB := uy hb; clear hb ho13; obtain ⟨Ao15, co15, eo15⟩ := Kd.R_slice HO_7.out; subst eo15) | ((with_reducible refine gate_builtin (b := .append) (xs := #[.tmp 26, .tmp 27]) rfl ?_); at_builtin; refine Kd.R_append_rows (Kd.int .u64) (w0 := w) w.heap.size rfl (.tmp 26) (.tmp 27) 63 50 (.int .u64 0) 8 rfl Try.underlying63 info50 rfl (by decide) (by omega) v410 y409 x7_1 _ _ _ (fun k_ => some k_ ≠ (v403 : Value).ownBlock ∧ some k_ ≠ (.slice Ao15 x7_1.length co15 : Value).ownBlock) (fun _ => False) rfl rfl ?aO ?aR (fun _ _ h => h) (fun _ h => h.elim) ?aF ?aB ?aS ?aL ?_; (case aR => exact uC (Kd.R_reads' HO_7.out).2.2); (case aB => exact uB); (case aF => exact (fun k_ hk => ⟨Kd.fresh' (Kd.R_lt (uR HO_6.out)) k_ hk, Kd.fresh' (Kd.R_lt (uR HO_7.out)) k_ hk⟩)); (case aO => exact (uR (Kd.R_mono HO411.out (fun _ hk => ⟨hk.1.2, hk.2⟩)))); (case aS => exact (below_size uB)); (case aL => have := LMc10.out; omega); intro v413 w14 ho hb hg hat; rw [← Ny412.out] at ho; replace HO_6 := Aside0.mk (Kd.R_after (ok := (fun k_ => some k_ ≠ (.slice Ao15 x7_1.length co15 : Value).ownBlock)) (uR HO_6.out) hg hat); replace HO_7 := Aside0.mk (Kd.R_after (ok := (fun k_ => some k_ ≠ (v403 : Value).ownBlock)) (uR HO_7.out) hg hat); replace HB := Aside0.mk (hb); have HO414 := Aside0.mk (ho); clear HO411; clear ho hb hg hat; obtain ⟨Ao16, co16, eo16⟩ := Kd.R_slice HO414.out; subst eo16) | ((with_reducible refine gate_callee (f := 88) rfl ?_); refine goesL_ (some 29) rfl rfl Try.func88 (by kernel_rfl) rfl #[.slice Ao16 y412.length co16] rfl uM ?_; (with_reducible refine (windbreakref01_cut.calls k1 (fun k_ => some k_ = (.slice Ao16 y412.length co16 : Value).ownBlock) (.slice Ao16 y412.length co16) y412 t415 w _ ?side1 ?side2 A11.out).mono ?_); (case side1 => repeat (first | (with_reducible first | exact HB.out | apply below_alloc | apply pw_below_drewN | apply below_drew1) | exact HB.out)); (case side2 => exact Kd.R_tight rfl HO414.out); rintro e w17 ⟨v416, rfl, ho0, hb, hkp⟩; refine ⟨_, rfl, ?_⟩; have HO417 := Aside0.mk (Kd.R_mono (ok' := fun k_ => some k_ ≠ (v403 : Value).ownBlock ∧ some k_ ≠ (.slice Ao15 x7_1.length co15 : Value).ownBlock) ho0 (fun k_ hk_ => ⟨Or.elim hk_ (fun hs_ => fun e_ => (((HO_6.out).1 k_ e_.symm).2) hs_) (fun hn_ => (Kd.fresh' (Kd.R_lt (uR HO_6.out)) k_ hn_)), Or.elim hk_ (fun hs_ => fun e_ => (((HO_7.out).1 k_ e_.symm).2) hs_) (fun hn_ => (Kd.fresh' (Kd.R_lt (uR HO_7.out)) k_ hn_))⟩)); replace HO_6 := Aside0.mk (Kd.R_mono (ok' := fun k_ => some k_ ≠ (.slice Ao15 x7_1.length co15 : Value).ownBlock ∧ some k_ ≠ (v416 : Value).ownBlock) (Kd.R_keptB (HO_6.out) hkp (fun k_ hk_ hs_ => (hk_.2) hs_)) (fun k_ hk_ => ⟨hk_.1.1, fun e_ => Or.elim (ho0.1 k_ e_.symm) (fun hs_ => hk_.2.1 hs_) (fun hn_ => Nat.not_le.2 hk_.2.2 hn_)⟩)); replace HO_7 := Aside0.mk (Kd.R_mono (ok' := fun k_ => some k_ ≠ (v403 : Value).ownBlock ∧ some k_ ≠ (v416 : Value).ownBlock) (Kd.R_keptB (HO_7.out) hkp (fun k_ hk_ hs_ => (hk_.2) hs_)) (fun k_ hk_ => ⟨hk_.1.1, fun e_ => Or.elim (ho0.1 k_ e_.symm) (fun hs_ => hk_.2.1 hs_) (fun hn_ => Nat.not_le.2 hk_.2.2 hn_)⟩)); replace HB := Aside0.mk (hb); clear HO414; (try clear hb); (try clear hkp); (try clear ho0)))
    go_loopg [9, 10] k1 (fun kq v9 v10 w' => ∃ (x9_2 : Int) (x10_2 : Int), v9 = .int .u64 x9_2 ∧ v10 = .int .u64 x10_2 ∧ Aside0 (windbreakref01_div.l1 kq l0 l1 x6_1 t415 x8_1 x9_2 x10_2 = some (r1, r2)) ∧ Aside0 (kq ≤ k1) ∧ Aside0 (Kd.R (Kd.int .u64) 50 w' w.heap.size (fun k_ => some k_ ≠ (v416 : Value).ownBlock) v403 x6_1) ∧ Aside0 (Kd.R (Kd.int .u64) 50 w' w.heap.size (fun k_ => some k_ ≠ (v403 : Value).ownBlock) v416 t415) ∧ Aside0 (Below w.heap.size w w'))
    case atStart => exact ⟨(0), (65535), uG, uG, H', ⟨Nat.le_refl _⟩, ⟨by (with_reducible repeat (first | apply Kd.R_alloc | apply Kd.R_drewN | apply Kd.R_drew)); exact Kd.R_mono HO_6.out (fun _ hk => hk.2)⟩, ⟨by (with_reducible repeat (first | apply Kd.R_alloc | apply Kd.R_drewN | apply Kd.R_drew)); exact Kd.R_mono HO417.out (fun _ hk => hk.1)⟩, ⟨uB⟩⟩
    case round =>
     clear H'
     (try clear c1); (try clear p2 p2); (try clear c3); (try clear c3b0); (try clear c3b1); (try clear c4); (try clear c4b0); (try clear c4b1); (try clear p4); (try clear q4); (try clear hx4); (try clear p6 p6); (try clear c7); (try clear c7b0); (try clear c8); (try clear c8b0); (try clear c9); (try clear c9b0); (try clear c10); (try clear hx408_0); (try clear p408); (try clear q408)
     obtain ⟨x9_2, x10_2, rfl, rfl, HA, HK2, HO_6, HO_7, HB⟩ := hrel
     cases gk with
     | zero => exact absurd HA.out (by simp [windbreakref01_div.l1])
     | succ k2 =>
      have H := HA.out
      clear HA
      simp only [windbreakref01_div.l1] at H
      by_cases c18 : x9_2 < x10_2
      ·
       rw [if_pos c18] at H
       have c18b0 : decide (x9_2 < x10_2) = true := decide_eq_true c18
       clear c18
       obtain ⟨y428, hy428⟩ : ∃ y_ : List Int, y_ = (([IntKind.u64.wrap (Int.tdiv (IntKind.u64.wrap ((IntKind.u64.wrap (x9_2 + x10_2)) + 1)) 2)] : List Int)) := ⟨_, rfl⟩
       replace H : ((windbreakref01_mul.f k2 l1 y428).bind fun t431 => ((windbreakref01_compare.f k2 t431 t415).bind fun t434 => (if t434 ≤ 0 then (windbreakref01_div.l1 k2 l0 l1 x6_1 t415 x8_1 (IntKind.u64.wrap (Int.tdiv (IntKind.u64.wrap ((IntKind.u64.wrap (x9_2 + x10_2)) + 1)) 2)) x10_2) else (windbreakref01_div.l1 k2 l0 l1 x6_1 t415 x8_1 x9_2 (IntKind.u64.wrap ((IntKind.u64.wrap (Int.tdiv (IntKind.u64.wrap ((IntKind.u64.wrap (x9_2 + x10_2)) + 1)) 2)) - 1)))))) = some (r1, r2) := by first | (rw [hy428]; with_reducible exact H) | (have H2_ := (Option.bind_some _ _).symm.trans H; rw [hy428]; with_reducible exact H2_) | (have H2_ := (Option.bind_some _ _).symm.trans H; with_reducible exact H2_) | with_reducible exact H | (rw [hy428]; exact H) | exact H
       have Ny428 := Aside0.mk hy428; clear hy428
       replace H := ub H; obtain ⟨t431, A19, H⟩ := H
       replace H := ub H; obtain ⟨t434, A20, H⟩ := H
       by_cases c21 : t434 ≤ 0
       ·
        rw [if_pos c21] at H
        have c21b0 : decide (t434 ≤ 0) = true := decide_eq_true c21
        clear c21
        have H' := Aside0.mk H
        clear H
        go_wp2_with (first | ((with_reducible refine gate_dst (N := 40) rfl ?_); refine Kd.R_lit (Kd.int .u64) _ 50 ?hg (N := 40) ?hd (xs := ([IntKind.u64.wrap (Int.tdiv (IntKind.u64.wrap ((IntKind.u64.wrap (x9_2 + x10_2)) + 1)) 2)] : List Int)) (inner := [.int .u64 (IntKind.u64.wrap (Int.tdiv (IntKind.u64.wrap ((IntKind.u64.wrap (x9_2 + x10_2)) + 1)) 2))]) (ok := fun _ => True) (okp := fun _ => True) ?hr ?hp (fun _ hk => hk) trivial (Below.refl _ _) (Nat.le_refl _) (by simp) ?_; (case hd => rfl); (case hg => rfl); (case hr => first | (go_simp; done) | (go_simp; rfl) | (go_simp; simp only [u64_u8]; done) | (go_simp; simp only [u64_u8]; rfl)); (case hp => exact (Reps.one (show Kd.M (Kd.int .u64) _ _ _ (IntKind.u64.wrap (Int.tdiv (IntKind.u64.wrap ((IntKind.u64.wrap (x9_2 + x10_2)) + 1)) 2)) [.int .u64 (IntKind.u64.wrap (Int.tdiv (IntKind.u64.wrap ((IntKind.u64.wrap (x9_2 + x10_2)) + 1)) 2))] from rfl) (Reps.none _ _))); intro v429 w22 ho23 hb hg_ hnew_; clear hg_ hnew_; (first | rw [← Ny428.out] at ho23 | (simp only [Int.reduceToNat] at ho23; rw [← Ny428.out] at ho23)); have HO430 := Aside0.mk (Kd.R_lower (Kd.R_new' (Kd.R_new' ho23 (Kd.R_lt (uR HO_6.out))) (Kd.R_lt (uR HO_7.out))) (below_size uB)); replace HO_6 := ueR HO_6 ho23 hb; replace HO_7 := ueR HO_7 ho23 hb; replace HB := uy hb; clear hb ho23; obtain ⟨Ao24, co24, eo24⟩ := Kd.R_slice HO430.out; subst eo24) | ((with_reducible refine gate_callee (f := 80) rfl ?_); refine goesL_ (some 41) rfl rfl Try.func80 (by kernel_rfl) rfl #[.slice A1 l1.length c1, .slice Ao24 y428.length co24] rfl uM ?_; (with_reducible refine (windbreakref01_mul.calls k2 _ _ l1 _ _ y428 t431 _ ?side1 ?side2 ?side3 ?side4 A19.out).mono ?_); (case side1 => exact uC (Kd.C_below HR1.out HB.out)); (case side2 => exact HC1.out); (case side3 => exact uC (Kd.R_reads' HO430.out).2.2); (case side4 => exact (Kd.R_reads' HO430.out).2.1); rintro e w25 ⟨v432, rfl, ho0, hb⟩; refine ⟨_, rfl, ?_⟩; have HO433 := Aside0.mk (Kd.R_lower (Kd.R_new' (Kd.R_new' (Kd.R_new' ho0 (Kd.R_lt (uR HO_6.out))) (Kd.R_lt (uR HO_7.out))) (Kd.R_lt (uR HO430.out))) (below_size uB)); replace HO_6 := ueR HO_6 ho0 hb; replace HO_7 := ueR HO_7 ho0 hb; replace HO430 := ueR HO430 ho0 hb; replace HB := uy hb; (try clear hb ho0); obtain ⟨Ao26, co26, eo26⟩ := Kd.R_slice HO433.out; subst eo26; obtain ⟨Ao27, co27, eo27⟩ := Kd.R_slice HO_7.out; subst eo27) | ((with_reducible refine gate_callee (f := 112) rfl ?_); refine goesL_ (some 43) rfl rfl Try.func112 (by kernel_rfl) rfl #[.slice Ao26 t431.length co26, .slice Ao27 t415.length co27] rfl uM ?_; (with_reducible refine (windbreakref01_compare.calls k2 _ _ t431 _ _ t415 t434 _ ?side1 ?side2 ?side3 ?side4 A20.out).mono ?_); (case side1 => exact uC (Kd.R_reads' HO433.out).2.2); (case side2 => exact (Kd.R_reads' HO433.out).2.1); (case side3 => exact uC (Kd.R_reads' HO_7.out).2.2); (case side4 => exact (Kd.R_reads' HO_7.out).2.1); rintro e w' ⟨rfl, ⟨nd, rfl⟩⟩; refine ⟨_, rfl, ?_⟩))
        go_roundg k2
        case measure => have := HK1.out; have := HK2.out; omega
        case rel => exact ⟨(IntKind.u64.wrap (Int.tdiv (IntKind.u64.wrap ((IntKind.u64.wrap (x9_2 + x10_2)) + 1)) 2)), (x10_2), uG, uG, H', ⟨by have := HK1.out; have := HK2.out; omega⟩, ⟨by (with_reducible repeat (first | apply Kd.R_alloc | apply Kd.R_drewN | apply Kd.R_drew)); exact Kd.R_mono HO_6.out (fun _ hk => hk.1.1)⟩, ⟨by (with_reducible repeat (first | apply Kd.R_alloc | apply Kd.R_drewN | apply Kd.R_drew)); exact Kd.R_mono HO_7.out (fun _ hk => hk.1.1)⟩, ⟨uB⟩⟩
       rw [if_neg c21] at H
       have c21b0 : decide (t434 ≤ 0) = false := decide_eq_false c21
       clear c21
       have H' := Aside0.mk H
       clear H
       go_wp2_with (first | ((with_reducible refine gate_dst (N := 40) rfl ?_); refine Kd.R_lit (Kd.int .u64) _ 50 ?hg (N := 40) ?hd (xs := ([IntKind.u64.wrap (Int.tdiv (IntKind.u64.wrap ((IntKind.u64.wrap (x9_2 + x10_2)) + 1)) 2)] : List Int)) (inner := [.int .u64 (IntKind.u64.wrap (Int.tdiv (IntKind.u64.wrap ((IntKind.u64.wrap (x9_2 + x10_2)) + 1)) 2))]) (ok := fun _ => True) (okp := fun _ => True) ?hr ?hp (fun _ hk => hk) trivial (Below.refl _ _) (Nat.le_refl _) (by simp) ?_; (case hd => rfl); (case hg => rfl); (case hr => first | (go_simp; done) | (go_simp; rfl) | (go_simp; simp only [u64_u8]; done) | (go_simp; simp only [u64_u8]; rfl)); (case hp => exact (Reps.one (show Kd.M (Kd.int .u64) _ _ _ (IntKind.u64.wrap (Int.tdiv (IntKind.u64.wrap ((IntKind.u64.wrap (x9_2 + x10_2)) + 1)) 2)) [.int .u64 (IntKind.u64.wrap (Int.tdiv (IntKind.u64.wrap ((IntKind.u64.wrap (x9_2 + x10_2)) + 1)) 2))] from rfl) (Reps.none _ _))); intro v429 w28 ho29 hb hg_ hnew_; clear hg_ hnew_; (first | rw [← Ny428.out] at ho29 | (simp only [Int.reduceToNat] at ho29; rw [← Ny428.out] at ho29)); have HO430 := Aside0.mk (Kd.R_lower (Kd.R_new' (Kd.R_new' ho29 (Kd.R_lt (uR HO_6.out))) (Kd.R_lt (uR HO_7.out))) (below_size uB)); replace HO_6 := ueR HO_6 ho29 hb; replace HO_7 := ueR HO_7 ho29 hb; replace HB := uy hb; clear hb ho29; obtain ⟨Ao30, co30, eo30⟩ := Kd.R_slice HO430.out; subst eo30) | ((with_reducible refine gate_callee (f := 80) rfl ?_); refine goesL_ (some 41) rfl rfl Try.func80 (by kernel_rfl) rfl #[.slice A1 l1.length c1, .slice Ao30 y428.length co30] rfl uM ?_; (with_reducible refine (windbreakref01_mul.calls k2 _ _ l1 _ _ y428 t431 _ ?side1 ?side2 ?side3 ?side4 A19.out).mono ?_); (case side1 => exact uC (Kd.C_below HR1.out HB.out)); (case side2 => exact HC1.out); (case side3 => exact uC (Kd.R_reads' HO430.out).2.2); (case side4 => exact (Kd.R_reads' HO430.out).2.1); rintro e w31 ⟨v432, rfl, ho0, hb⟩; refine ⟨_, rfl, ?_⟩; have HO433 := Aside0.mk (Kd.R_lower (Kd.R_new' (Kd.R_new' (Kd.R_new' ho0 (Kd.R_lt (uR HO_6.out))) (Kd.R_lt (uR HO_7.out))) (Kd.R_lt (uR HO430.out))) (below_size uB)); replace HO_6 := ueR HO_6 ho0 hb; replace HO_7 := ueR HO_7 ho0 hb; replace HO430 := ueR HO430 ho0 hb; replace HB := uy hb; (try clear hb ho0); obtain ⟨Ao32, co32, eo32⟩ := Kd.R_slice HO433.out; subst eo32; obtain ⟨Ao33, co33, eo33⟩ := Kd.R_slice HO_7.out; subst eo33) | ((with_reducible refine gate_callee (f := 112) rfl ?_); refine goesL_ (some 43) rfl rfl Try.func112 (by kernel_rfl) rfl #[.slice Ao32 t431.length co32, .slice Ao33 t415.length co33] rfl uM ?_; (with_reducible refine (windbreakref01_compare.calls k2 _ _ t431 _ _ t415 t434 _ ?side1 ?side2 ?side3 ?side4 A20.out).mono ?_); (case side1 => exact uC (Kd.R_reads' HO433.out).2.2); (case side2 => exact (Kd.R_reads' HO433.out).2.1); (case side3 => exact uC (Kd.R_reads' HO_7.out).2.2); (case side4 => exact (Kd.R_reads' HO_7.out).2.1); rintro e w' ⟨rfl, ⟨nd, rfl⟩⟩; refine ⟨_, rfl, ?_⟩))
       go_roundg k2
       case measure => have := HK1.out; have := HK2.out; omega
       case rel => exact ⟨(x9_2), (IntKind.u64.wrap ((IntKind.u64.wrap (Int.tdiv (IntKind.u64.wrap ((IntKind.u64.wrap (x9_2 + x10_2)) + 1)) 2)) - 1)), uG, uG, H', ⟨by have := HK1.out; have := HK2.out; omega⟩, ⟨by (with_reducible repeat (first | apply Kd.R_alloc | apply Kd.R_drewN | apply Kd.R_drew)); exact Kd.R_mono HO_6.out (fun _ hk => hk.1.1)⟩, ⟨by (with_reducible repeat (first | apply Kd.R_alloc | apply Kd.R_drewN | apply Kd.R_drew)); exact Kd.R_mono HO_7.out (fun _ hk => hk.1.1)⟩, ⟨uB⟩⟩
      rw [if_neg c18] at H
      have c18b0 : decide (x9_2 < x10_2) = false := decide_eq_false c18
      clear c18
      replace H := uT H; obtain ⟨c34, H⟩ := H
      have c34b0 : decide (0 ≤ x8_1) = true := decide_eq_true c34
      clear c34
      replace H := uT H; obtain ⟨c35, H⟩ := H
      have c35b0 : decide (x8_1 < (x6_1.length : Int)) = true := decide_eq_true c35
      clear c35
      obtain ⟨y418, hy418⟩ : ∃ y_ : List Int, y_ = (x6_1.set (x8_1 : Int).toNat x9_2) := ⟨_, rfl⟩
      replace H : ((windbreakref01_mul.f k2 l1 (([x9_2] : List Int))).bind fun t422 => ((windbreakref01_sub.f k2 t415 t422).bind fun t425 => (windbreakref01_div.l0 k2 l0 l1 y418 t425 (wrap64 (x8_1 - 1))))) = some (r1, r2) := by first | (rw [hy418]; with_reducible exact H) | (have H2_ := (Option.bind_some _ _).symm.trans H; rw [hy418]; with_reducible exact H2_) | (have H2_ := (Option.bind_some _ _).symm.trans H; with_reducible exact H2_) | with_reducible exact H | (rw [hy418]; exact H) | exact H
      have Ny418 := Aside0.mk hy418; clear hy418
      obtain ⟨y419, hy419⟩ : ∃ y_ : List Int, y_ = (([x9_2] : List Int)) := ⟨_, rfl⟩
      replace H : ((windbreakref01_mul.f k2 l1 y419).bind fun t422 => ((windbreakref01_sub.f k2 t415 t422).bind fun t425 => (windbreakref01_div.l0 k2 l0 l1 y418 t425 (wrap64 (x8_1 - 1))))) = some (r1, r2) := by first | (rw [hy419]; with_reducible exact H) | (have H2_ := (Option.bind_some _ _).symm.trans H; rw [hy419]; with_reducible exact H2_) | (have H2_ := (Option.bind_some _ _).symm.trans H; with_reducible exact H2_) | with_reducible exact H | (rw [hy419]; exact H) | exact H
      have Ny419 := Aside0.mk hy419; clear hy419
      replace H := ub H; obtain ⟨t422, A37, H⟩ := H
      replace H := ub H; obtain ⟨t425, A38, H⟩ := H
      have H' := Aside0.mk H
      clear H
      have p36 : 0 ≤ (x8_1 : Int) := uO
      have q36 : (x8_1 : Int) < ((x6_1.length : Int) : Int) := uO
      obtain ⟨go36, co36, eo36, gb36, gl36, cl36, HG36⟩ := Kd.R_form HO_6.out (by omega)
      (first | cases eo36 | (injection eo36 with ea_ en_ ec_; (first | subst ea_ | (injection ea_ with ea_; subst ea_)); subst ec_; clear en_))
      have GB36 := Aside0.mk gb36; have GG36 := Aside0.mk HG36; clear gb36 gl36 HG36
      obtain ⟨hx36_0, hf36_0⟩ := Kd.R_celln 0 HO_6.out (x8_1 : Int) p36 q36
      replace p36 := eq_true p36
      replace q36 := eq_true q36
      have HP39 := Kd.R_putg HO_6.out (x8_1 : Int) x9_2
      go_wp2_with (first | ((with_reducible refine gate_store (t := 50) (p := 51) rfl ?_); refine store_event (t := 50) (p := 51) (v := ?vo_w40) (w1 := (wr.setCell ⟨go36, (x8_1 : Int).toNat, none⟩ (.int .u64 x9_2))) ?hg ?ho ?hn ?hr ?_; (case ho => rfl); (case hg => rfl); (case hn => rfl); (case hr => first | (go_simp; done) | (go_simp; rfl) | (obtain ⟨hy_, hz_⟩ := Kd.R_celln 0 HO_6.out (x8_1 : Int) uO uO; (try simp only [Go.IntWalk.toNatUp] at hy_ hz_); (try simp only [Int.reduceToNat, Int.toNat_zero, Int.toNat_ofNat] at hy_ hz_); first | (go_simp; done) | (go_simp; rfl))); intro w40 hw; have hg : wr.grownBy w40 (some go36) := (by rw [hw]; exact HP39.2); have hp_ : Kd.R (Kd.int .u64) 50 w40 w.heap.size (fun k_ => some k_ ≠ (v416 : Value).ownBlock) (.slice (some ⟨go36, 0, none⟩) x6_1.length co36) y418 := (by rw [hw, Ny418.out]; exact HP39.1); clear HP39; replace HO_6 := Aside0.mk (hp_); replace HO_7 := Aside0.mk (Kd.R_after (v := (.slice (some ⟨go36, 0, none⟩) x6_1.length co36)) (v1 := (.slice (some ⟨go36, 0, none⟩) x6_1.length co36)) (ok := (fun _ => True)) (uR (Kd.R_mono HO_7.out (fun _ hk => ⟨trivial, hk⟩))) hg (.inl rfl)); replace HB := Aside0.mk ((by rw [hw]; exact below_set (HB.out) GB36.out : Below w.heap.size w w40)); clear hg hw hp_) | ((with_reducible refine gate_dst (N := 55) rfl ?_); refine Kd.R_lit (Kd.int .u64) _ 50 ?hg (N := 55) ?hd (xs := ([x9_2] : List Int)) (inner := [.int .u64 x9_2]) (ok := fun _ => True) (okp := fun _ => True) ?hr ?hp (fun _ hk => hk) trivial (Below.refl _ _) (Nat.le_refl _) (by simp) ?_; (case hd => rfl); (case hg => rfl); (case hr => first | (go_simp; done) | (go_simp; rfl) | (go_simp; simp only [u64_u8]; done) | (go_simp; simp only [u64_u8]; rfl)); (case hp => exact (Reps.one (show Kd.M (Kd.int .u64) _ _ _ x9_2 [.int .u64 x9_2] from rfl) (Reps.none _ _))); intro v420 w41 ho42 hb hg_ hnew_; clear hg_ hnew_; (first | rw [← Ny419.out] at ho42 | (simp only [Int.reduceToNat] at ho42; rw [← Ny419.out] at ho42)); have HO421 := Aside0.mk (Kd.R_lower (Kd.R_new' (Kd.R_new' ho42 (Kd.R_lt (uR HO_6.out))) (Kd.R_lt (uR HO_7.out))) (below_size uB)); replace HO_6 := ueR HO_6 ho42 hb; replace HO_7 := ueR HO_7 ho42 hb; replace HB := uy hb; clear hb ho42; obtain ⟨Ao43, co43, eo43⟩ := Kd.R_slice HO421.out; subst eo43) | ((with_reducible refine gate_callee (f := 80) rfl ?_); refine goesL_ (some 56) rfl rfl Try.func80 (by kernel_rfl) rfl #[.slice A1 l1.length c1, .slice Ao43 y419.length co43] rfl uM ?_; (with_reducible refine (windbreakref01_mul.calls k2 _ _ l1 _ _ y419 t422 _ ?side1 ?side2 ?side3 ?side4 A37.out).mono ?_); (case side1 => exact uC (Kd.C_below HR1.out HB.out)); (case side2 => exact HC1.out); (case side3 => exact uC (Kd.R_reads' HO421.out).2.2); (case side4 => exact (Kd.R_reads' HO421.out).2.1); rintro e w44 ⟨v423, rfl, ho0, hb⟩; refine ⟨_, rfl, ?_⟩; have HO424 := Aside0.mk (Kd.R_lower (Kd.R_new' (Kd.R_new' (Kd.R_new' ho0 (Kd.R_lt (uR HO_6.out))) (Kd.R_lt (uR HO_7.out))) (Kd.R_lt (uR HO421.out))) (below_size uB)); replace HO_6 := ueR HO_6 ho0 hb; replace HO_7 := ueR HO_7 ho0 hb; replace HO421 := ueR HO421 ho0 hb; replace HB := uy hb; (try clear hb ho0); obtain ⟨Ao45, co45, eo45⟩ := Kd.R_slice HO_7.out; subst eo45; obtain ⟨Ao46, co46, eo46⟩ := Kd.R_slice HO424.out; subst eo46) | ((with_reducible refine gate_callee (f := 118) rfl ?_); refine goesL_ (some 57) rfl rfl Try.func118 (by kernel_rfl) rfl #[.slice Ao45 t415.length co45, .slice Ao46 t422.length co46] rfl uM ?_; (with_reducible refine (windbreakref01_sub.calls k2 _ _ t415 _ _ t422 t425 _ ?side1 ?side2 ?side3 ?side4 A38.out).mono ?_); (case side1 => exact uC (Kd.R_reads' HO_7.out).2.2); (case side2 => exact (Kd.R_reads' HO_7.out).2.1); (case side3 => exact uC (Kd.R_reads' HO424.out).2.2); (case side4 => exact (Kd.R_reads' HO424.out).2.1); rintro e w47 ⟨v426, rfl, ho0, hb⟩; refine ⟨_, rfl, ?_⟩; have HO427 := Aside0.mk (Kd.R_lower (Kd.R_new' (Kd.R_new' (Kd.R_new' (Kd.R_new' ho0 (Kd.R_lt (uR HO_6.out))) (Kd.R_lt (uR HO_7.out))) (Kd.R_lt (uR HO421.out))) (Kd.R_lt (uR HO424.out))) (below_size uB)); replace HO_6 := ueR HO_6 ho0 hb; replace HO_7 := ueR HO_7 ho0 hb; replace HO421 := ueR HO421 ho0 hb; replace HO424 := ueR HO424 ho0 hb; replace HB := uy hb; (try clear hb ho0)))
      go_roundg k2
      case measure => have := HK1.out; have := HK2.out; omega
      case rel => exact ⟨(y418), (t425), (wrap64 (x8_1 - 1)), uG, H', ⟨by have := HK1.out; have := HK2.out; omega⟩, ⟨by (with_reducible repeat (first | apply Kd.R_alloc | apply Kd.R_drewN | apply Kd.R_drew)); exact Kd.R_mono HO_6.out (fun _ hk => hk.2)⟩, ⟨by (with_reducible repeat (first | apply Kd.R_alloc | apply Kd.R_drewN | apply Kd.R_drew)); exact Kd.R_mono HO427.out (fun _ hk => hk.1.1.1.2)⟩, ⟨uB⟩⟩
   rw [if_neg c7] at H
   have c7b0 : decide (0 ≤ x8_1) = false := decide_eq_false c7
   clear c7
   replace H := ub H; obtain ⟨t405, A48, H⟩ := H
   simp only [Option.some.injEq, Prod.mk.injEq] at H
   obtain ⟨rfl, rfl⟩ := H
   obtain ⟨Ao49, co49, eo49⟩ := Kd.R_slice HO_6.out
   subst eo49
   go_wp2_with (first | ((with_reducible refine gate_callee (f := 88) rfl ?_); refine goesL_ (some 59) rfl rfl Try.func88 (by kernel_rfl) rfl #[.slice Ao49 x6_1.length co49] rfl uM ?_; (with_reducible refine (windbreakref01_cut.calls k1 (fun k_ => some k_ = (.slice Ao49 x6_1.length co49 : Value).ownBlock) (.slice Ao49 x6_1.length co49) x6_1 t405 w _ ?side1 ?side2 A48.out).mono ?_); (case side1 => repeat (first | (with_reducible first | exact HB.out | apply below_alloc | apply pw_below_drewN | apply below_drew1) | exact HB.out)); (case side2 => exact Kd.R_tight rfl HO_6.out); rintro e w50 ⟨v406, rfl, ho0, hb, hkp⟩; refine ⟨_, rfl, ?_⟩; have HO407 := Aside0.mk (Kd.R_mono (ok' := fun k_ => some k_ ≠ (u7 : Value).ownBlock) ho0 (fun k_ hk_ => Or.elim hk_ (fun hs_ => fun e_ => (((HO_7.out).1 k_ e_.symm)) hs_) (fun hn_ => (Kd.fresh' (Kd.R_lt (uR HO_7.out)) k_ hn_)))); replace HO_7 := Aside0.mk (Kd.R_mono (ok' := fun k_ => some k_ ≠ (v406 : Value).ownBlock) (Kd.R_keptB (HO_7.out) hkp (fun k_ hk_ hs_ => (hk_) hs_)) (fun k_ hk_ => fun e_ => Or.elim (ho0.1 k_ e_.symm) (fun hs_ => hk_.2.1 hs_) (fun hn_ => Nat.not_le.2 hk_.2.2 hn_))); replace HB := Aside0.mk (hb); clear HO_6; (try clear hb); (try clear hkp); (try clear ho0)))
   go_ret2
   exact ⟨_, _, uF, uR HO407.out, uR HO_7.out, uB⟩
end Go.Proofs.Ytlkinjhmgljapaa.F
end
section
namespace Go.Proofs.Ytlkinjhmgljapaa.F
open Go.RowKit Go.Proofs.YtlkinjhmgljapaaW.PrintWords Go.Proofs.YtlkinjhmgljapaaW.PrintLast Go.Proofs.YtlkinjhmgljapaaW.PrintMore
attribute [local go_sem] max2_int min2_int max_two min_two max_three min_three max_four min_four
set_option linter.unusedVariables false
set_option linter.unusedSimpArgs false
def windbreakref01_Div.j0 : Nat → List Int → List Int → Bool → Option (List Int × List Int × Int)
 | 0, _, _, _ => none
 | k + 1, x0, x1, x24 => if x24 = true then (some (([] : List Int), ([] : List Int), 1)) else (if (x1.length : Int) = 0 then (some (([] : List Int), ([] : List Int), 3)) else ((windbreakref01_In.f k x0).bind fun t471 => ((windbreakref01_In.f k x1).bind fun t474 => ((windbreakref01_div.f k t471 t474).bind fun bt477 => ((windbreakref01_Out.f k bt477.1).bind fun bt483 => ((windbreakref01_Out.f k bt477.2).bind fun bt487 => (some (bt483.1, bt487.1, 0))))))))
def windbreakref01_Div.f (k : Nat) (l0 : List Int) (l1 : List Int) : Option (List Int × List Int × Int) := (windbreakref01_Right.f l0).bind fun t469 => ((windbreakref01_Right.f l1).bind fun t470 => (if t469 = true then (windbreakref01_Div.j0 k l0 l1 (!t470)) else (windbreakref01_Div.j0 k l0 l1 true)))
set_option maxHeartbeats 8000000 in
set_option maxRecDepth 100000 in
theorem windbreakref01_Div.calls (k : Nat) (A0 : Option Addr) (c0 : Nat) (l0 : List Int) (A1 : Option Addr) (c1 : Nat) (l1 : List Int) (r1 : List Int) (r2 : List Int) (r3 : Int) (w : World) (hr0 : Kd.C (Kd.int .u64) w A0 l0.length l0) (hc0 : l0.length ≤ c0) (hr1 : Kd.C (Kd.int .u64) w A1 l1.length l1) (hc1 : l1.length ≤ c1) (h : windbreakref01_Div.f k l0 l1 = some (r1, r2, r3)) :
  Calls Try.prog 67 #[.slice A0 l0.length c0, .slice A1 l1.length c1] w fun e w' => ∃ v0_ v1_ : Value, e = .returned (.tuple #[v0_, v1_, .int .i64 r3]) ∧ Kd.R (Kd.int .u64) 50 w' w.heap.size (fun k_ => some k_ ≠ (v1_ : Value).ownBlock) v0_ r1 ∧ Kd.R (Kd.int .u64) 50 w' w.heap.size (fun k_ => some k_ ≠ (v0_ : Value).ownBlock) v1_ r2 ∧ Below w.heap.size w w' := by
 have HR0 := Aside0.mk hr0; have HC0 := Aside0.mk hc0; clear hr0 hc0; have HR1 := Aside0.mk hr1; have HC1 := Aside0.mk hc1; clear hr1 hc1
 have HB := Aside0.mk (Below.refl w.heap.size w)
 have H : ((windbreakref01_Right.f l0).bind fun t469 => ((windbreakref01_Right.f l1).bind fun t470 => (if t469 = true then (windbreakref01_Div.j0 k l0 l1 (!t470)) else (windbreakref01_Div.j0 k l0 l1 true)))) = some (r1, r2, r3) := h
 clear h
 replace H := ub H; obtain ⟨t469, A3, H⟩ := H
 replace H := ub H; obtain ⟨t470, A4, H⟩ := H
 have HC5 := Aside0.mk H; clear H
 go_enter Try.func67, Try.ntmps67
 go_upto_region 3 with (first | ((with_reducible refine gate_callee (f := 33) rfl ?_); refine goesL_ (some 16) rfl rfl Try.func33 (by kernel_rfl) rfl #[.slice A0 l0.length c0] rfl uM ?_; (with_reducible refine (windbreakref01_Right.calls _ _ l0 t469 _ ?side1 ?side2 A3.out).mono ?_); (case side1 => exact uC HR0.out); (case side2 => exact HC0.out); rintro e w' ⟨rfl, ⟨nd, rfl⟩⟩; refine ⟨_, rfl, ?_⟩) | ((with_reducible refine gate_callee (f := 33) rfl ?_); refine goesL_ (some 18) rfl rfl Try.func33 (by kernel_rfl) rfl #[.slice A1 l1.length c1] rfl uM ?_; (with_reducible refine (windbreakref01_Right.calls _ _ l1 t470 _ ?side1 ?side2 A4.out).mono ?_); (case side1 => exact uC HR1.out); (case side2 => exact HC1.out); rintro e w' ⟨rfl, ⟨nd, rfl⟩⟩; refine ⟨_, rfl, ?_⟩))
 (try simp only [Act.put, List.setIfInBounds_toArray, List.set_cons_zero, List.set_cons_succ])
 go_cut [24] (fun v24 wc => ∃ (kq : Nat) (x24_4 : Bool), v24 = .bool x24_4 ∧ Aside0 (windbreakref01_Div.j0 kq l0 l1 x24_4 = some (r1, r2, r3)) ∧ Aside0 (kq ≤ k) ∧ Aside0 (Below w.heap.size w wc))
 case first =>
  have H := HC5.out
  clear HC5
  by_cases c6 : t469 = true
  ·
   subst c6
   have H1 : (windbreakref01_Div.j0 k l0 l1 (!t470)) = some (r1, r2, r3) := by rw [if_pos rfl] at H; exact H
   clear H; have H := H1; clear H1
   have H' := Aside0.mk H
   clear H
   go_wp2
   go_meet
   case rel => exact ⟨_, (!t470), uG, H', ⟨uW⟩, ⟨uB⟩⟩
  replace c6 := Bool.eq_false_iff.mpr c6
  subst c6
  have H1 : (windbreakref01_Div.j0 k l0 l1 true) = some (r1, r2, r3) := by rw [if_neg (show ¬ (false = true) by decide)] at H; exact H
  clear H; have H := H1; clear H1
  have H' := Aside0.mk H
  clear H
  go_wp2
  go_meet
  case rel => exact ⟨_, (true), uG, H', ⟨uW⟩, ⟨uB⟩⟩
 case rest =>
  clear HC5; (try clear c1); (try clear p2); (try clear c3); (try clear c6)
  obtain ⟨kq, x24_4, rfl, HA, HJ4, HB⟩ := hcut
  cases kq with
  | zero => exact absurd HA.out (by simp [windbreakref01_Div.j0])
  | succ kj4 =>
   have H := HA.out
   clear HA
   simp only [windbreakref01_Div.j0] at H
   by_cases c7 : x24_4 = true
   ·
    subst c7
    have H1 : (some (([] : List Int), ([] : List Int), 1)) = some (r1, r2, r3) := by rw [if_pos rfl] at H; exact H
    clear H; have H := H1; clear H1
    simp only [Option.some.injEq, Prod.mk.injEq] at H
    obtain ⟨rfl, rfl, rfl⟩ := H
    go_wp2
    go_ret3
    exact ⟨_, _, by first | rfl | (simp [errW_none, errW_some] <;> rfl) | (simp [*, errW_none, errW_some] <;> rfl), by first | exact Kd.R_nil _ _ _ _ _ | exact Kd.N_nil _ _ _ _ _ | exact Kd.V_nil _ _ _ _ _ | exact Kd.Q_nil _ _ _ _ _ | exact Kd.S_nil _ _ _ _ _, by first | exact Kd.R_nil _ _ _ _ _ | exact Kd.N_nil _ _ _ _ _ | exact Kd.V_nil _ _ _ _ _ | exact Kd.Q_nil _ _ _ _ _ | exact Kd.S_nil _ _ _ _ _, uB⟩
   replace c7 := Bool.eq_false_iff.mpr c7
   subst c7
   have H1 : (if (l1.length : Int) = 0 then (some (([] : List Int), ([] : List Int), 3)) else ((windbreakref01_In.f kj4 l0).bind fun t471 => ((windbreakref01_In.f kj4 l1).bind fun t474 => ((windbreakref01_div.f kj4 t471 t474).bind fun bt477 => ((windbreakref01_Out.f kj4 bt477.1).bind fun bt483 => ((windbreakref01_Out.f kj4 bt477.2).bind fun bt487 => (some (bt483.1, bt487.1, 0)))))))) = some (r1, r2, r3) := by rw [if_neg (show ¬ (false = true) by decide)] at H; exact H
   clear H; have H := H1; clear H1
   by_cases c8 : (l1.length : Int) = 0
   ·
    rw [if_pos c8] at H
    have c8b0 : ((l1.length : Int) == 0) = true := beq_iff_eq.mpr c8
    have c8b1 : ((l1.length : Int) != 0) = false := bne_eq_false_iff_eq.mpr c8
    clear c8
    simp only [Option.some.injEq, Prod.mk.injEq] at H
    obtain ⟨rfl, rfl, rfl⟩ := H
    go_wp2
    go_ret3
    exact ⟨_, _, by first | rfl | (simp [errW_none, errW_some] <;> rfl) | (simp [*, errW_none, errW_some] <;> rfl), by first | exact Kd.R_nil _ _ _ _ _ | exact Kd.N_nil _ _ _ _ _ | exact Kd.V_nil _ _ _ _ _ | exact Kd.Q_nil _ _ _ _ _ | exact Kd.S_nil _ _ _ _ _, by first | exact Kd.R_nil _ _ _ _ _ | exact Kd.N_nil _ _ _ _ _ | exact Kd.V_nil _ _ _ _ _ | exact Kd.Q_nil _ _ _ _ _ | exact Kd.S_nil _ _ _ _ _, uB⟩
   rw [if_neg c8] at H
   have c8b0 : ((l1.length : Int) == 0) = false := beq_eq_false_iff_ne.mpr c8
   have c8b1 : ((l1.length : Int) != 0) = true := bne_iff_ne.mpr c8
   have c8b2 : ¬ (l1 = []) := fun h_ => c8 (by rw [h_]; rfl)
   replace H := ub H; obtain ⟨t471, A9, H⟩ := H
   replace H := ub H; obtain ⟨t474, A10, H⟩ := H
   replace H := ub H; obtain ⟨⟨t477, t478⟩, A11, H⟩ := H
   (try dsimp only at H)
   replace H := ub H; obtain ⟨⟨t483, t484⟩, A12, H⟩ := H
   (try dsimp only at H)
   replace H := ub H; obtain ⟨⟨t487, t488⟩, A13, H⟩ := H
   (try dsimp only at H)
   simp only [Option.some.injEq, Prod.mk.injEq] at H
   obtain ⟨rfl, rfl, rfl⟩ := H
   go_wp2_with (first | ((with_reducible refine gate_callee (f := 48) rfl ?_); refine goesL_ (some 30) rfl rfl Try.func48 (by kernel_rfl) rfl #[.slice A0 l0.length c0] rfl uM ?_; (with_reducible refine (windbreakref01_In.calls kj4 _ _ l0 t471 _ ?side1 ?side2 A9.out).mono ?_); (case side1 => exact uC (Kd.C_below HR0.out HB.out)); (case side2 => exact HC0.out); rintro e w14 ⟨v472, rfl, ho0, hb⟩; refine ⟨_, rfl, ?_⟩; have HO473 := Aside0.mk (Kd.R_lower ho0 (below_size uB)); replace HB := uy hb; (try clear hb ho0)) | ((with_reducible refine gate_callee (f := 48) rfl ?_); refine goesL_ (some 32) rfl rfl Try.func48 (by kernel_rfl) rfl #[.slice A1 l1.length c1] rfl uM ?_; (with_reducible refine (windbreakref01_In.calls kj4 _ _ l1 t474 _ ?side1 ?side2 A10.out).mono ?_); (case side1 => exact uC (Kd.C_below HR1.out HB.out)); (case side2 => exact HC1.out); rintro e w15 ⟨v475, rfl, ho0, hb⟩; refine ⟨_, rfl, ?_⟩; have HO476 := Aside0.mk (Kd.R_lower (Kd.R_new' ho0 (Kd.R_lt (uR HO473.out))) (below_size uB)); replace HO473 := ueR HO473 ho0 hb; replace HB := uy hb; (try clear hb ho0); obtain ⟨Ao16, co16, eo16⟩ := Kd.R_slice HO473.out; subst eo16; obtain ⟨Ao17, co17, eo17⟩ := Kd.R_slice HO476.out; subst eo17) | ((with_reducible refine gate_callee (f := 103) rfl ?_); refine goesL_ (some 33) rfl rfl Try.func103 (by kernel_rfl) rfl #[.slice Ao16 t471.length co16, .slice Ao17 t474.length co17] rfl uM ?_; (with_reducible refine (windbreakref01_div.calls kj4 _ _ t471 _ _ t474 t477 t478 _ ?side1 ?side2 ?side3 ?side4 A11.out).mono ?_); (case side1 => exact uC (Kd.R_reads' HO473.out).2.2); (case side2 => exact (Kd.R_reads' HO473.out).2.1); (case side3 => exact uC (Kd.R_reads' HO476.out).2.2); (case side4 => exact (Kd.R_reads' HO476.out).2.1); rintro e w18 ⟨v479, v481, rfl, ho0, ho1, hb⟩; refine ⟨_, rfl, ?_⟩; have HO480 := Aside0.mk (Kd.R_lower (Kd.R_new' (Kd.R_new' ho0 (Kd.R_lt (uR HO473.out))) (Kd.R_lt (uR HO476.out))) (below_size uB)); have HO482 := Aside0.mk (Kd.R_lower (Kd.R_new' (Kd.R_new' ho1 (Kd.R_lt (uR HO473.out))) (Kd.R_lt (uR HO476.out))) (below_size uB)); replace HO473 := Aside0.mk (Kd.R_mono (Kd.R_told (Kd.R_told (Kd.R_old (uR HO473.out) hb) (Kd.R_base ho0)) (Kd.R_base ho1)) (fun _ h_ => h_.1)); replace HO476 := Aside0.mk (Kd.R_mono (Kd.R_told (Kd.R_told (Kd.R_old (uR HO476.out) hb) (Kd.R_base ho0)) (Kd.R_base ho1)) (fun _ h_ => h_.1)); replace HB := uy hb; (try clear hb ho0 ho1); obtain ⟨Ao19, co19, eo19⟩ := Kd.R_slice HO480.out; subst eo19) | ((with_reducible refine gate_callee (f := 86) rfl ?_); refine goesL_ (some 38) rfl rfl Try.func86 (by kernel_rfl) rfl #[.slice Ao19 t477.length co19] rfl uM ?_; (with_reducible refine (windbreakref01_Out.calls kj4 _ _ t477 t483 t484 _ ?side1 ?side2 A12.out).mono ?_); (case side1 => exact uC (Kd.R_reads' HO480.out).2.2); (case side2 => exact (Kd.R_reads' HO480.out).2.1); rintro e w20 ⟨v485, rfl, ho0, hb⟩; refine ⟨_, rfl, ?_⟩; have HO486 := Aside0.mk (Kd.R_lower (Kd.R_new' (Kd.R_new' (Kd.R_new' (Kd.R_new' ho0 (Kd.R_lt (uR HO473.out))) (Kd.R_lt (uR HO476.out))) (Kd.R_lt (uR HO480.out))) (Kd.R_lt (uR HO482.out))) (below_size uB)); replace HO473 := ueR HO473 ho0 hb; replace HO476 := ueR HO476 ho0 hb; replace HO480 := ueR HO480 ho0 hb; replace HO482 := ueR HO482 ho0 hb; replace HB := uy hb; (try clear hb ho0); obtain ⟨Ao21, co21, eo21⟩ := Kd.R_slice HO482.out; subst eo21) | ((with_reducible refine gate_callee (f := 86) rfl ?_); refine goesL_ (some 43) rfl rfl Try.func86 (by kernel_rfl) rfl #[.slice Ao21 t478.length co21] rfl uM ?_; (with_reducible refine (windbreakref01_Out.calls kj4 _ _ t478 t487 t488 _ ?side1 ?side2 A13.out).mono ?_); (case side1 => exact uC (Kd.R_reads' HO482.out).2.2); (case side2 => exact (Kd.R_reads' HO482.out).2.1); rintro e w22 ⟨v489, rfl, ho0, hb⟩; refine ⟨_, rfl, ?_⟩; have HO490 := Aside0.mk (Kd.R_lower (Kd.R_new' (Kd.R_new' (Kd.R_new' (Kd.R_new' (Kd.R_new' ho0 (Kd.R_lt (uR HO473.out))) (Kd.R_lt (uR HO476.out))) (Kd.R_lt (uR HO480.out))) (Kd.R_lt (uR HO482.out))) (Kd.R_lt (uR HO486.out))) (below_size uB)); replace HO473 := ueR HO473 ho0 hb; replace HO476 := ueR HO476 ho0 hb; replace HO480 := ueR HO480 ho0 hb; replace HO482 := ueR HO482 ho0 hb; replace HO486 := ueR HO486 ho0 hb; replace HB := uy hb; (try clear hb ho0)))
   go_ret3
   exact ⟨_, _, uF, by (with_reducible repeat (first | apply Kd.R_alloc | apply Kd.R_drewN | apply Kd.R_drew)); exact Kd.R_mono HO486.out (fun _ hk => hk.2), by (with_reducible repeat (first | apply Kd.R_alloc | apply Kd.R_drewN | apply Kd.R_drew)); exact Kd.R_mono HO490.out (fun _ hk => hk.2), uB⟩
end Go.Proofs.Ytlkinjhmgljapaa.F
end
