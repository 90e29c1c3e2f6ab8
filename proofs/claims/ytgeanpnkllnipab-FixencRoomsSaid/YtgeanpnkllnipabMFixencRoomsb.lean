/- Proved: the law FixencRooms of layer 7: how far the first one is moved so that any sums fit is the document's; for every input, without a condition. -/
import Derived.Test.YtgeanpnkllnipabMFixencRoomsa
section
namespace Go.Proofs.Ytgeanpnkllnipab.F
open Go.RowKit Go.Proofs.YtgeanpnkllnipabW.PrintWords Go.Proofs.YtgeanpnkllnipabW.PrintLast Go.Proofs.YtgeanpnkllnipabW.PrintMore
attribute [local go_sem] max2_int min2_int max_two min_two max_three min_three max_four min_four
set_option linter.unusedVariables false
set_option linter.unusedSimpArgs false
def nat_Shl.j0 : Nat → List Int → Int → Bool → Option (List Int × Int)
 | 0, _, _, _ => none
 | k + 1, x0, x1, x6 => if x6 = true then (some (([] : List Int), 1)) else (if (x0.length : Int) = 0 then (some (([] : List Int), 0)) else (if x1 > 4096 then (some (([] : List Int), 4)) else (if 0 ≤ (wrap64 (Int.tdiv x1 64)) then (if (wrap64 (Int.tdiv x1 64) : Int).toNat ≤ 35184372088832 then ((some (List.replicate (wrap64 (Int.tdiv x1 64) : Int).toNat 0 : List Int)).bind fun y715 => ((nat_up.f k x0 (IntKind.u64.wrap (Int.tmod x1 64))).bind fun t718 => (if y715.length + t718.length < 17592186044416 then ((nat_told.f k (y715 ++ t718)).bind fun bt724 => (some (bt724.1, bt724.2))) else (none)))) else (none)) else (none))))
def nat_Shl.f (k : Nat) (l0 : List Int) (a1 : Int) : Option (List Int × Int) := (nat_Right.f l0).bind fun t714 => (if t714 = true then (nat_Shl.j0 k l0 a1 (decide (a1 < 0))) else (nat_Shl.j0 k l0 a1 true))
def nat_Shl.T7 : Bool × List (List Nat × List Nat) := (true, [([], []), ([0], [0]), ([1, 1], [1]), ([], []), ([], []), ([4], [4]), ([5], [5]), ([3, 6], [3, 6]), ([2, 7, 7], [2, 7]), ([8, 8], [8]), ([9], [9]), ([9], [9]), ([10, 9, 0, 1, 2, 3, 4, 5, 6, 7, 8, 9, 10, 11], [10]), ([11, 12, 0, 1, 2, 3, 4, 5, 6, 7, 8, 9, 10, 11, 12], [11])])
def nat_Shl.B7 : List Nat := [0, 1, 3, 0, 0, 16, 48, 120, 255, 511, 1023, 1023, 4095, 8191]
theorem nat_Shl.tab7 : rtab .any (opsOf Try.f101 7) = nat_Shl.T7 := by kernel_rfl
theorem nat_Shl.bits7 : waitsOk nat_Shl.T7.2 nat_Shl.B7 = true := by kernel_rfl
set_option maxHeartbeats 8000000 in
set_option maxRecDepth 100000 in
theorem nat_Shl.calls (k : Nat) (A0 : Option Addr) (c0 : Nat) (l0 : List Int) (a1 : Int) (r1 : List Int) (r2 : Int) (w : World) (hr0 : Kd.C (Kd.int .u64) w A0 l0.length l0) (hc0 : l0.length ≤ c0) (h : nat_Shl.f k l0 a1 = some (r1, r2)) :
  Calls Try.prog 101 #[.slice A0 l0.length c0, .int .i64 a1] w fun e w' => ∃ v0_ : Value, e = .returned (.tuple #[v0_, .int .i64 r2]) ∧ Kd.R (Kd.int .u64) 27 w' w.heap.size (fun _ => True) v0_ r1 ∧ Below w.heap.size w w' := by
 have HR0 := Aside0.mk hr0; have HC0 := Aside0.mk hc0; clear hr0 hc0
 have HB := Aside0.mk (Below.refl w.heap.size w)
 have H : ((nat_Right.f l0).bind fun t714 => (if t714 = true then (nat_Shl.j0 k l0 a1 (decide (a1 < 0))) else (nat_Shl.j0 k l0 a1 true))) = some (r1, r2) := h
 clear h; have HC3 := Aside0.mk H; clear H
 go_enter Try.func101, Try.ntmps101
 go_upto_region 1 with (fail)
 go_cut [6] (fun v6 wc => ∃ (kq : Nat) (x6_2 : Bool), v6 = .bool x6_2 ∧ Aside0 (nat_Shl.j0 kq l0 a1 x6_2 = some (r1, r2)) ∧ Aside0 (kq ≤ k) ∧ Aside0 (Below w.heap.size w wc))
 case first =>
  have H := HC3.out
  clear HC3
  replace H := ub H; obtain ⟨t714, A4, H⟩ := H
  by_cases c5 : t714 = true
  ·
   subst c5
   have H1 : (nat_Shl.j0 k l0 a1 (decide (a1 < 0))) = some (r1, r2) := by rw [if_pos rfl] at H; exact H
   clear H; have H := H1; clear H1
   have H' := Aside0.mk H
   clear H
   go_wp2_with (first | ((with_reducible refine gate_callee (f := 47) rfl ?_); refine goesL_ (some 8) rfl rfl Try.func47 (by kernel_rfl) rfl #[.slice A0 l0.length c0] rfl uM ?_; (with_reducible refine (nat_Right.calls _ _ l0 true _ ?side1 ?side2 A4.out).mono ?_); (case side1 => exact uC (Kd.C_below HR0.out HB.out)); (case side2 => exact HC0.out); rintro e w' ⟨rfl, ⟨nd, rfl⟩⟩; refine ⟨_, rfl, ?_⟩))
   go_meet
   case rel => exact ⟨_, (decide (a1 < 0)), uG, H', ⟨uW⟩, ⟨uB⟩⟩
  replace c5 := Bool.eq_false_iff.mpr c5
  subst c5
  have H1 : (nat_Shl.j0 k l0 a1 true) = some (r1, r2) := by rw [if_neg (show ¬ (false = true) by decide)] at H; exact H
  clear H; have H := H1; clear H1
  have H' := Aside0.mk H
  clear H
  go_wp2_with (first | ((with_reducible refine gate_callee (f := 47) rfl ?_); refine goesL_ (some 8) rfl rfl Try.func47 (by kernel_rfl) rfl #[.slice A0 l0.length c0] rfl uM ?_; (with_reducible refine (nat_Right.calls _ _ l0 false _ ?side1 ?side2 A4.out).mono ?_); (case side1 => exact uC (Kd.C_below HR0.out HB.out)); (case side2 => exact HC0.out); rintro e w' ⟨rfl, ⟨nd, rfl⟩⟩; refine ⟨_, rfl, ?_⟩))
  go_meet
  case rel => exact ⟨_, (true), uG, H', ⟨uW⟩, ⟨uB⟩⟩
 case rest =>
  clear HC3; (try clear c1); (try clear p2); (try clear c4); (try clear c5)
  obtain ⟨kq, x6_2, rfl, HA, HJ2, HB⟩ := hcut
  cases kq with
  | zero => exact absurd HA.out (by simp [nat_Shl.j0])
  | succ kj2 =>
   have H := HA.out
   clear HA
   simp only [nat_Shl.j0] at H
   by_cases c6 : x6_2 = true
   ·
    subst c6
    have H1 : (some (([] : List Int), 1)) = some (r1, r2) := by rw [if_pos rfl] at H; exact H
    clear H; have H := H1; clear H1
    simp only [Option.some.injEq, Prod.mk.injEq] at H
    obtain ⟨rfl, rfl⟩ := H
    go_wp2
    go_ret2
    exact ⟨_, uF, uI, uB⟩
   replace c6 := Bool.eq_false_iff.mpr c6
   subst c6
   have H1 : (if (l0.length : Int) = 0 then (some (([] : List Int), 0)) else (if a1 > 4096 then (some (([] : List Int), 4)) else (if 0 ≤ (wrap64 (Int.tdiv a1 64)) then (if (wrap64 (Int.tdiv a1 64) : Int).toNat ≤ 35184372088832 then ((some (List.replicate (wrap64 (Int.tdiv a1 64) : Int).toNat 0 : List Int)).bind fun y715 => ((nat_up.f kj2 l0 (IntKind.u64.wrap (Int.tmod a1 64))).bind fun t718 => (if y715.length + t718.length < 17592186044416 then ((nat_told.f kj2 (y715 ++ t718)).bind fun bt724 => (some (bt724.1, bt724.2))) else (none)))) else (none)) else (none)))) = some (r1, r2) := by rw [if_neg (show ¬ (false = true) by decide)] at H; exact H
   clear H; have H := H1; clear H1
   by_cases c7 : (l0.length : Int) = 0
   ·
    rw [if_pos c7] at H
    have c7b0 : ((l0.length : Int) == 0) = true := beq_iff_eq.mpr c7
    have c7b1 : ((l0.length : Int) != 0) = false := bne_eq_false_iff_eq.mpr c7
    clear c7
    simp only [Option.some.injEq, Prod.mk.injEq] at H
    obtain ⟨rfl, rfl⟩ := H
    go_wp2
    go_ret2
    exact ⟨_, uF, uI, uB⟩
   rw [if_neg c7] at H
   have c7b0 : ((l0.length : Int) == 0) = false := beq_eq_false_iff_ne.mpr c7
   have c7b1 : ((l0.length : Int) != 0) = true := bne_iff_ne.mpr c7
   have c7b2 : ¬ (l0 = []) := fun h_ => c7 (by rw [h_]; rfl)
   by_cases c8 : a1 > 4096
   ·
    rw [if_pos c8] at H
    have c8b0 : decide (4096 < a1) = true := decide_eq_true c8
    clear c8
    simp only [Option.some.injEq, Prod.mk.injEq] at H
    obtain ⟨rfl, rfl⟩ := H
    go_wp2
    go_ret2
    exact ⟨_, uF, uI, uB⟩
   rw [if_neg c8] at H
   have c8b0 : decide (4096 < a1) = false := decide_eq_false c8
   clear c8
   obtain ⟨ji9, hji9⟩ : ∃ j_ : Int, (wrap64 (Int.tdiv a1 64)) = j_ := ⟨_, rfl⟩
   first | rw [hji9] at H | simp only [hji9] at H
   have hji9w : (IntKind.i64.wrap (Int.tdiv a1 64)) = ji9 := (i64_w _).trans hji9
   replace H := uT H; obtain ⟨c10, H⟩ := H
   have c10b0 := eq_true c10
   have c10b1 : decide (0 ≤ (ji9)) = true := decide_eq_true c10
   clear c10
   replace H := uT H; obtain ⟨c11, H⟩ := H
   have c11b0 := eq_true c11
   have c11b1 : decide ((ji9 : Int).toNat ≤ 35184372088832) = true := decide_eq_true c11
   clear c11
   obtain ⟨y715, hy715⟩ : ∃ y_ : List Int, y_ = (List.replicate (ji9 : Int).toNat 0) := ⟨_, rfl⟩
   replace H : ((nat_up.f kj2 l0 (IntKind.u64.wrap (Int.tmod a1 64))).bind fun t718 => (if y715.length + t718.length < 17592186044416 then ((nat_told.f kj2 (y715 ++ t718)).bind fun bt724 => (some (bt724.1, bt724.2))) else (none))) = some (r1, r2) := by first | (rw [hy715]; with_reducible exact H) | (have H2_ := (Option.bind_some _ _).symm.trans H; rw [hy715]; with_reducible exact H2_) | (have H2_ := (Option.bind_some _ _).symm.trans H; with_reducible exact H2_) | with_reducible exact H | (rw [hy715]; exact H) | exact H
   have Ny715 := Aside0.mk hy715; clear hy715
   replace H := ub H; obtain ⟨t718, A12, H⟩ := H
   replace H := uT H; obtain ⟨c13, H⟩ := H
   have LMc13 := Aside0.mk c13; clear c13
   obtain ⟨y721, hy721⟩ : ∃ y_ : List Int, y_ = (y715 ++ t718) := ⟨_, rfl⟩
   replace H : ((nat_told.f kj2 y721).bind fun bt724 => (some (bt724.1, bt724.2))) = some (r1, r2) := by first | (rw [hy721]; with_reducible exact H) | (have H2_ := (Option.bind_some _ _).symm.trans H; rw [hy721]; with_reducible exact H2_) | (have H2_ := (Option.bind_some _ _).symm.trans H; with_reducible exact H2_) | with_reducible exact H | (rw [hy721]; exact H) | exact H
   have Ny721 := Aside0.mk hy721; clear hy721
   replace H := ub H; obtain ⟨⟨t724, t727⟩, A14, H⟩ := H
   (try dsimp only at H)
   simp only [Option.some.injEq, Prod.mk.injEq] at H
   obtain ⟨rfl, rfl⟩ := H
   try go_wp2
   replace HB := Aside0.mk (below_drew1 HB.out)
   refine start_ (n := 14) (S := fun w' => True) (ds := []) #[false,false,false,false,false,false,false,false,false,false,false,false,false,false] (by kernel_rfl) rfl rfl trivial (fun hHeld => ?_); refine with_tabW nat_Shl.tab7 nat_Shl.bits7 (fun HT_ HW_ => ?_)
   generalize wc.drew = w15 at HB hHeld ⊢
   refine pure_ (i := 0) (N := some 21) (v := ?_) (a' := ?_) #[true,false,false,false,false,false,false,false,false,false,false,false,false,false] rfl rfl (any_of HT_.out (by kernel_rfl)) (fun _ _ _ h => h) (Or.inl ⟨by rfl, ?_⟩) ?_ ?_
   rotate_left
   ·
    intro w'
    go_simp
    with_reducible rfl
   rotate_left
   · exact uQ
   refine pure_ (i := 1) (N := some 22) (v := ?_) (a' := ?_) #[true,true,false,false,false,false,false,false,false,false,false,false,false,false] rfl rfl (any_of HT_.out (by kernel_rfl)) (fun _ _ _ h => h) (Or.inl ⟨by rfl, ?_⟩) ?_ ?_
   rotate_left
   ·
    intro w'
    go_simp
    with_reducible rfl
   rotate_left
   · exact uQ
   refine pure_ (i := 3) (N := some 24) (v := ?_) (a' := ?_) #[true,true,false,true,false,false,false,false,false,false,false,false,false,false] rfl rfl (any_of HT_.out (by kernel_rfl)) (fun _ _ _ h => h) (Or.inl ⟨by rfl, ?_⟩) ?_ ?_
   rotate_left
   ·
    intro w'
    go_simp
    with_reducible rfl
   rotate_left
   · exact uQ
   refine pure_ (i := 4) (N := some 25) (v := ?_) (a' := ?_) #[true,true,false,true,true,false,false,false,false,false,false,false,false,false] rfl rfl (any_of HT_.out (by kernel_rfl)) (fun _ _ _ h => h) (Or.inl ⟨by rfl, ?_⟩) ?_ ?_
   rotate_left
   ·
    intro w'
    go_simp
    with_reducible rfl
   rotate_left
   · exact uQ
   refine pure_ (i := 5) (N := some 26) (v := ?_) (a' := ?_) #[true,true,false,true,true,true,false,false,false,false,false,false,false,false] rfl rfl (any_of HT_.out (by kernel_rfl)) (fun _ _ _ h => h) (Or.inl ⟨by rfl, ?_⟩) ?_ ?_
   rotate_left
   ·
    intro w'
    go_simp
    with_reducible rfl
   rotate_left
   · exact uQ
   refine pure_ (i := 6) (N := some 27) (v := ?_) (a' := ?_) #[true,true,false,true,true,true,true,false,false,false,false,false,false,false] rfl rfl (any_of HT_.out (by kernel_rfl)) (fun _ _ _ h => h) (Or.inl ⟨by rfl, ?_⟩) ?_ ?_
   rotate_left
   ·
    intro w'
    go_simp
    with_reducible rfl
   rotate_left
   · exact uQ
   refine join_ (σ := Value × Value) 6 #[true,true,true,true,true,true,true,true,false,false,false,false,false,false] (fun s_ => [(23, s_.1), (28, s_.2)]) (fun s_ w' => (Kd.R (Kd.int .u64) 27 w' w.heap.size (fun k_ => some k_ ≠ (s_.2 : Value).ownBlock) s_.1 y715) ∧ (Kd.R (Kd.int .u64) 27 w' w.heap.size (fun k_ => some k_ ≠ (s_.1 : Value).ownBlock) s_.2 t718) ∧ (Below w.heap.size w w')) ?_ ?_
   rotate_left
   ·
    intro hCont
    refine two_ (i := 2) (j := 7) (Ni := some 23) (Nj := some 28) #[true,true,true,true,true,true,true,false,false,false,false,false,false,false] #[true,true,false,true,true,true,true,true,false,false,false,false,false,false] rfl rfl rfl rfl (two_of HT_.out (by kernel_rfl)) (by decide) (by decide) (fun K hK => ?_) (fun K hK => ?_)
    ·
     refine Kd.R_make_step (Kd.int .u64) _ 27 (by rfl) (N := 23) rfl 23 _ _ rfl ji9 rfl rfl Try.underlying23 (.int .u64 0) 8 info27 rfl (by decide) (by omega) 0 (ok := fun _ => True) (okp := fun _ => True) rfl (fun _ hk => hk) trivial uO (Nat.le_trans (Nat.mul_le_mul_right _ (uO : ji9.toNat ≤ 35184372088832)) (by omega)) (Below.refl _ _) (Nat.le_refl _) ?_
     intro v716 w16 ho17 hb hg_ hnew_; clear hg_ hnew_
     (first | rw [← Ny715.out] at ho17 | (simp only [Int.reduceToNat] at ho17; rw [← Ny715.out] at ho17))
     have HO717 := Aside0.mk (Kd.R_lower ho17 (below_size uB)); replace HB := uy hb; clear hb ho17; refine hK.out _ _ trivial (fun hHeld => ?_); clear hK K; refine norm_ (a' := ?_) ?_ ?_; rotate_left
     · exact (show Act.put _ (some 23) _ = _ from uQ)
     refine one_ (i := 7) (N := some 28) #[true,true,true,true,true,true,true,true,false,false,false,false,false,false] rfl rfl (one_of HT_.out (by kernel_rfl)) (by decide) (fun K hK => ?_)
     refine goes_ Try.func124 (by kernel_rfl) rfl #[.slice A0 l0.length c0, .int .u64 (IntKind.u64.wrap (Int.tmod a1 64))] (by rfl) rfl rfl uM ?_
     with_reducible refine (nat_up.calls kj2 _ _ l0 (IntKind.u64.wrap (Int.tmod a1 64)) t718 _ ?side1 ?side2 A12.out).mono ?_
     (case side1 => exact uC (Kd.C_below HR0.out HB.out))
     (case side2 => exact HC0.out)
     rintro e w18 ⟨v719, rfl, ho0, hb⟩
     refine ⟨_, rfl, ?_⟩; have HO720 := Aside0.mk (Kd.R_lower (Kd.R_new' ho0 (Kd.R_lt (uR HO717.out))) (below_size uB)); replace HO717 := ueR HO717 ho0 hb; replace HB := uy hb; (try clear hb ho0); refine hK.out _ _ trivial (fun hHeld => ?_); clear hK K; refine norm_ (a' := ?_) ?_ ?_; rotate_left
     · exact (show Act.put _ (some 28) _ = _ from uQ)
     exact norm_ (by simp only [putAll, Act.put, List.setIfInBounds_toArray, List.set_cons_zero, List.set_cons_succ]) (hCont (v716, v719) _ ⟨(uR (Kd.R_mono HO717.out (fun _ hk => hk.2))), (uR (Kd.R_mono HO720.out (fun _ hk => hk.2))), uB⟩)
    refine goes_ Try.func124 (by kernel_rfl) rfl #[.slice A0 l0.length c0, .int .u64 (IntKind.u64.wrap (Int.tmod a1 64))] (by rfl) rfl rfl uM ?_
    with_reducible refine (nat_up.calls kj2 _ _ l0 (IntKind.u64.wrap (Int.tmod a1 64)) t718 _ ?side1 ?side2 A12.out).mono ?_
    (case side1 => exact uC (Kd.C_below HR0.out HB.out))
    (case side2 => exact HC0.out)
    rintro e w16 ⟨v719, rfl, ho0, hb⟩
    refine ⟨_, rfl, ?_⟩; have HO720 := Aside0.mk (Kd.R_lower ho0 (below_size uB)); replace HB := uy hb; (try clear hb ho0); refine hK.out _ _ trivial (fun hHeld => ?_); clear hK K; refine norm_ (a' := ?_) ?_ ?_; rotate_left
    · exact (show Act.put _ (some 28) _ = _ from uQ)
    refine one_ (i := 2) (N := some 23) #[true,true,true,true,true,true,true,true,false,false,false,false,false,false] rfl rfl (one_of HT_.out (by kernel_rfl)) (by decide) (fun K hK => ?_)
    refine Kd.R_make_step (Kd.int .u64) _ 27 (by rfl) (N := 23) rfl 23 _ _ rfl ji9 rfl rfl Try.underlying23 (.int .u64 0) 8 info27 rfl (by decide) (by omega) 0 (ok := fun _ => True) (okp := fun _ => True) rfl (fun _ hk => hk) trivial uO (Nat.le_trans (Nat.mul_le_mul_right _ (uO : ji9.toNat ≤ 35184372088832)) (by omega)) (Below.refl _ _) (Nat.le_refl _) ?_
    intro v716 w17 ho18 hb hg_ hnew_; clear hg_ hnew_
    (first | rw [← Ny715.out] at ho18 | (simp only [Int.reduceToNat] at ho18; rw [← Ny715.out] at ho18))
    have HO717 := Aside0.mk (Kd.R_lower (Kd.R_new' ho18 (Kd.R_lt (uR HO720.out))) (below_size uB)); replace HO720 := ueR HO720 ho18 hb; replace HB := uy hb; clear hb ho18; refine hK.out _ _ trivial (fun hHeld => ?_); clear hK K; refine norm_ (a' := ?_) ?_ ?_; rotate_left
    · exact (show Act.put _ (some 23) _ = _ from uQ)
    exact norm_ (by simp only [putAll, Act.put, List.setIfInBounds_toArray, List.set_cons_zero, List.set_cons_succ]) (hCont (v716, v719) _ ⟨(uR (Kd.R_mono HO717.out (fun _ hk => hk.2))), (uR (Kd.R_mono HO720.out (fun _ hk => hk.2))), uB⟩)
   rintro ⟨v716, v719⟩ w19 ⟨h0_, h1_, h2_⟩
   have HO717 : Aside0 (Kd.R (Kd.int .u64) 27 w19 w.heap.size (fun k_ => some k_ ≠ (v719 : Value).ownBlock) v716 y715) := ⟨h0_⟩; have HO720 : Aside0 (Kd.R (Kd.int .u64) 27 w19 w.heap.size (fun k_ => some k_ ≠ (v716 : Value).ownBlock) v719 t718) := ⟨h1_⟩; replace HB : Aside0 (Below w.heap.size w w19) := ⟨h2_⟩; clear h0_ h1_ h2_
   have hHeld := trivial
   obtain ⟨Ao21, co21, eo21⟩ := Kd.R_slice HO720.out
   (first | subst eo21 | (injection eo21 with f1_ f2_ f3_; have f4_ := f1_.symm; have f5_ := f3_.symm; clear f1_ f2_ f3_; subst f4_; subst f5_))
   refine norm_ (a' := ?_) ?_ ?_; rotate_left
   ·
    simp only [putAll, Act.put, List.setIfInBounds_toArray, List.set_cons_zero, List.set_cons_succ]
    rfl
   refine one_ (i := 8) (N := some 29) #[true,true,true,true,true,true,true,true,true,false,false,false,false,false] rfl rfl (one_of HT_.out (by kernel_rfl)) (by decide) (fun K hK => ?_)
   refine Kd.R_append_rows_step (Kd.int .u64) (w0 := w) w.heap.size (by rfl) (.tmp 23) (.tmp 28) 23 27 (.int .u64 0) 8 rfl Try.underlying23 info27 rfl (by decide) (by omega) v716 y715 t718 _ _ _ (fun k_ => some k_ ≠ (.slice Ao21 t718.length co21 : Value).ownBlock) (fun _ => False) rfl rfl ?aO ?aR (fun _ _ h => h) (fun _ h => h.elim) ?aF ?aB ?aS ?aL ?_
   (case aR => exact uC (Kd.R_reads' HO720.out).2.2)
   (case aB => exact uB)
   (case aF => exact (fun k_ hk => Kd.fresh' (Kd.R_lt (uR HO720.out)) k_ hk))
   (case aO => exact (uR HO717.out))
   (case aS => exact (below_size uB))
   (case aL => have := LMc13.out; omega)
   intro v722 w20 ho hb hg hat
   rw [← Ny721.out] at ho
   replace HO720 := Aside0.mk (Kd.R_after (ok := (fun _ => True)) (uR (Kd.R_mono HO720.out (fun _ hk => ⟨trivial, hk⟩))) hg hat); replace HB := Aside0.mk (hb); have HO723 := Aside0.mk (ho); clear HO717; clear ho hb hg hat
   obtain ⟨Ao22, co22, eo22⟩ := Kd.R_slice HO723.out
   (first | subst eo22 | (injection eo22 with f1_ f2_ f3_; have f4_ := f1_.symm; have f5_ := f3_.symm; clear f1_ f2_ f3_; subst f4_; subst f5_))
   refine hK.out _ _ trivial (fun hHeld => ?_); clear hK K; refine norm_ (a' := ?_) ?_ ?_; rotate_left
   · exact (show Act.put _ (some 29) _ = _ from uQ)
   refine one_ (i := 9) (N := some 30) #[true,true,true,true,true,true,true,true,true,true,false,false,false,false] rfl rfl (one_of HT_.out (by kernel_rfl)) (by decide) (fun K hK => ?_)
   refine goes_ Try.func116 (by kernel_rfl) rfl #[.slice Ao22 y721.length co22] (by rfl) rfl rfl uM ?_
   with_reducible refine (nat_told.calls kj2 (fun k_ => some k_ = (.slice Ao22 y721.length co22 : Value).ownBlock) (.slice Ao22 y721.length co22) y721 t724 t727 w _ ?side1 ?side2 A14.out).mono ?_
   (case side1 => repeat (first | (with_reducible first | exact HB.out | apply below_alloc | apply pw_below_drewN | apply below_drew1) | exact HB.out))
   (case side2 => exact Kd.R_tight rfl HO723.out)
   rintro e w23 ⟨v725, rfl, ho0, hb, hkp⟩
   refine ⟨_, rfl, ?_⟩; have HO726 := Aside0.mk (Kd.R_mono (ok' := fun k_ => some k_ ≠ (.slice Ao21 t718.length co21 : Value).ownBlock) ho0 (fun k_ hk_ => Or.elim hk_ (fun hs_ => fun e_ => (((HO720.out).1 k_ e_.symm).2) hs_) (fun hn_ => (Kd.fresh' (Kd.R_lt (uR HO720.out)) k_ hn_)))); replace HO720 := Aside0.mk (Kd.R_mono (ok' := fun k_ => some k_ ≠ (v725 : Value).ownBlock) (Kd.R_keptB (HO720.out) hkp (fun k_ hk_ hs_ => (hk_.2) hs_)) (fun k_ hk_ => fun e_ => Or.elim (ho0.1 k_ e_.symm) (fun hs_ => hk_.2.1 hs_) (fun hn_ => Nat.not_le.2 hk_.2.2 hn_))); replace HB := Aside0.mk (hb); clear HO723; (try clear hb); (try clear hkp); (try clear ho0); refine hK.out _ _ trivial (fun hHeld => ?_); clear hK K; refine norm_ (a' := ?_) ?_ ?_; rotate_left
   · exact (show Act.put _ (some 30) _ = _ from uQ)
   refine pure_ (i := 10) (N := some 31) (v := ?_) (a' := ?_) #[true,true,true,true,true,true,true,true,true,true,true,false,false,false] rfl rfl (any_of HT_.out (by kernel_rfl)) (fun _ _ _ h => h) (Or.inl ⟨by rfl, ?_⟩) ?_ ?_
   rotate_left
   ·
    intro w'
    go_simp
    with_reducible rfl
   rotate_left
   · exact uQ
   refine pure_ (i := 11) (N := some 32) (v := ?_) (a' := ?_) #[true,true,true,true,true,true,true,true,true,true,true,true,false,false] rfl rfl (any_of HT_.out (by kernel_rfl)) (fun _ _ _ h => h) (Or.inl ⟨by rfl, ?_⟩) ?_ ?_
   rotate_left
   ·
    intro w'
    go_simp
    with_reducible rfl
   rotate_left
   · exact uQ
   refine pure_ (i := 12) (N := some 4) (v := ?_) (a' := ?_) #[true,true,true,true,true,true,true,true,true,true,true,true,true,false] rfl rfl (any_of HT_.out (by kernel_rfl)) (fun _ _ _ h => h) (Or.inl ⟨by rfl, ?_⟩) ?_ ?_
   rotate_left
   ·
    intro w'
    go_simp
    with_reducible rfl
   rotate_left
   · exact uQ
   refine pure_ (i := 13) (N := some 5) (v := ?_) (a' := ?_) #[true,true,true,true,true,true,true,true,true,true,true,true,true,true] rfl rfl (any_of HT_.out (by kernel_rfl)) (fun _ _ _ h => h) (Or.inl ⟨by rfl, ?_⟩) ?_ ?_
   rotate_left
   ·
    intro w'
    go_simp
    with_reducible rfl
   rotate_left
   · exact uQ
   refine done_ (done_of HT_.out (by kernel_rfl)) ?_
   try go_wp2
   go_ret2
   exact ⟨_, by first | rfl | (simp [errW_none, errW_some] <;> rfl) | (simp only [← hji9]; first | rfl | (simp [errW_none, errW_some] <;> rfl)) | (simp [*, errW_none, errW_some] <;> rfl), by (with_reducible repeat (first | apply Kd.R_alloc | apply Kd.R_drewN | apply Kd.R_drew)); exact Kd.R_mono HO726.out (fun _ hk => trivial), uB⟩
def fixenc_times2.f (k : Nat) (a0_0 : Bool) (l0_1 : List Int) (a1 : Int) : Option (Bool × List Int) := (nat_Shl.f k l0_1 a1).bind fun bt730 => ((modint_From.f a0_0 bt730.1).bind fun bt734 => (some (bt734.1, bt734.2)))
set_option maxHeartbeats 8000000 in
set_option maxRecDepth 100000 in
theorem fixenc_times2.calls (k : Nat) (a0_0 : Bool) (A0_1 : Option Addr) (c0_1 : Nat) (l0_1 : List Int) (a1 : Int) (r1 : Bool) (r2 : List Int) (w : World) (hr0_1 : Kd.C (Kd.int .u64) w A0_1 l0_1.length l0_1) (hc0_1 : l0_1.length ≤ c0_1) (h : fixenc_times2.f k a0_0 l0_1 a1 = some (r1, r2)) :
  Calls Try.prog 57 #[.agg #[.bool a0_0, .slice A0_1 l0_1.length c0_1], .int .i64 a1] w fun e w' => ∃ v1_ : Value, e = .returned (.agg #[.bool r1, v1_]) ∧ Kd.R (Kd.int .u64) 27 w' w.heap.size (fun _ => True) v1_ r2 ∧ Below w.heap.size w w' := by
 have hu52 := Try.underlying52
 have HR0_1 := Aside0.mk hr0_1; have HC0_1 := Aside0.mk hc0_1; clear hr0_1 hc0_1
 have HB := Aside0.mk (Below.refl w.heap.size w)
 have H : ((nat_Shl.f k l0_1 a1).bind fun bt730 => ((modint_From.f a0_0 bt730.1).bind fun bt734 => (some (bt734.1, bt734.2)))) = some (r1, r2) := h
 clear h
 replace H := ub H; obtain ⟨⟨t730, t731⟩, A3, H⟩ := H
 (try dsimp only at H)
 replace H := ub H; obtain ⟨⟨t734, t735⟩, A4, H⟩ := H
 (try dsimp only at H)
 simp only [Option.some.injEq, Prod.mk.injEq] at H
 obtain ⟨rfl, rfl⟩ := H
 go_enter Try.func57, Try.ntmps57
 go_wp2_with (first | ((with_reducible refine gate_dst (N := 2) rfl ?_); refine box_event ?hg (N := 2) ?hd (cs := #[.bool a0_0, .slice A0_1 l0_1.length c0_1]) (t := 52) ?hr ?_; (case hd => rfl); (case hg => rfl); (case hr => first | (go_simp; done) | (go_simp; rfl)); intro gb728 hg w5 hbox hb; have BK728 := Aside0.mk (hbox); have GW728 := us hg; have GE728 := us hg; replace HB := uy hb; clear hb hbox hg) | ((with_reducible refine gate_dst (N := 4) rfl ?_); refine box_event ?hg (N := 4) ?hd (cs := #[.bool false, .slice none 0 0]) (t := 52) ?hr ?_; (case hd => rfl); (case hg => rfl); (case hr => first | (go_simp; done) | (go_simp; rfl)); intro gb729 hg w6 hbox hb; have BK729 := Aside0.mk (hbox); have GW729 := us hg; have GE729 := us hg; replace HB := uy hb; have NB728_729 := Aside0.mk ((by rw [hg]; exact Nat.ne_of_lt (blk_lt (uK BK728.out)) : gb728 ≠ gb729)); have NB729_728 := Aside0.mk ((by rw [hg]; exact Nat.ne_of_gt (blk_lt (uK BK728.out)) : gb729 ≠ gb728)); replace BK728 := ux BK728 hb; clear hb hbox hg; have hnb7 := NB728_729.out; have hnc7 := NB729_728.out; have hcz8_0 : w6.cell? ⟨gb728, 0, none⟩ = some (.bool a0_0) := (blk_cell BK728.out 0).trans rfl; have hcz8_1 : w6.cell? ⟨gb728, 1, none⟩ = some (.slice A0_1 l0_1.length c0_1) := (blk_cell BK728.out 1).trans rfl; have hfz8_0 := blk_frozen BK728.out 0; have hfz8_1 := blk_frozen BK728.out 1) | ((with_reducible refine gate_callee (f := 101) rfl ?_); refine goesL_ (some 11) rfl rfl Try.func101 (by kernel_rfl) rfl #[.slice A0_1 l0_1.length c0_1, .int .i64 a1] rfl uM ?_; (with_reducible refine (nat_Shl.calls k _ _ l0_1 a1 t730 t731 _ ?side1 ?side2 A3.out).mono ?_); (case side1 => exact uC (Kd.C_below HR0_1.out HB.out)); (case side2 => exact HC0_1.out); rintro e w9 ⟨v732, rfl, ho0, hb⟩; refine ⟨_, rfl, ?_⟩; have HO733 := Aside0.mk (Kd.R_lower ho0 (below_size uB)); replace BK728 := ux BK728 hb; replace BK729 := ux BK729 hb; replace HB := uy hb; (try clear hb ho0); have hcz10_0 : w9.cell? ⟨gb728, 0, none⟩ = some (.bool a0_0) := (blk_cell BK728.out 0).trans rfl; have hcz10_1 : w9.cell? ⟨gb728, 1, none⟩ = some (.slice A0_1 l0_1.length c0_1) := (blk_cell BK728.out 1).trans rfl; have hfz10_0 := blk_frozen BK728.out 0; have hfz10_1 := blk_frozen BK728.out 1; obtain ⟨Ao11, co11, eo11⟩ := Kd.R_slice HO733.out; subst eo11) | ((with_reducible refine gate_callee (f := 83) rfl ?_); refine goesL_ (some 17) rfl rfl Try.func83 (by kernel_rfl) rfl #[.bool a0_0, .slice Ao11 t730.length co11] rfl uM ?_; (with_reducible refine (modint_From.calls a0_0 _ _ t730 t734 t735 _ ?side1 ?side2 A4.out).mono ?_); (case side1 => exact uC (Kd.R_reads' HO733.out).2.2); (case side2 => exact (Kd.R_reads' HO733.out).2.1); rintro e w12 ⟨v736, rfl, ho0, hb⟩; refine ⟨_, rfl, ?_⟩; have HO737 := Aside0.mk (Kd.R_lower (Kd.R_new' ho0 (Kd.R_lt (uR HO733.out))) (below_size uB)); replace HO733 := ueR HO733 ho0 hb; replace BK728 := ux BK728 hb; replace BK729 := ux BK729 hb; replace HB := uy hb; (try clear hb ho0); have hcz13_0 : w12.cell? ⟨gb729, 0, none⟩ = some (.bool false) := (blk_cell BK729.out 0).trans rfl; have hcz13_1 : w12.cell? ⟨gb729, 1, none⟩ = some (.slice none 0 0) := (blk_cell BK729.out 1).trans rfl; have hfz13_0 := blk_frozen BK729.out 0; have hfz13_1 := blk_frozen BK729.out 1; obtain ⟨Ao14, co14, eo14⟩ := Kd.R_slice HO737.out; subst eo14))
 refine bodyPost_ret (results_cell_row rfl _ _ gb729 52 #[.bool t734, .slice Ao14 t735.length co14] (0, 0) _ rfl (by (with_reducible repeat (first | refine blk_drewN ?_ _ | refine blk_drew ?_ | refine blk_alloc ?_ _)); refine blk_put (cs := #[.bool t734, .slice none 0 0]) ?_ 1 _ rfl; (with_reducible repeat (first | refine blk_drewN ?_ _ | refine blk_drew ?_ | refine blk_alloc ?_ _)); refine blk_put (cs := #[.bool false, .slice none 0 0]) ?_ 0 _ rfl; (with_reducible repeat (first | refine blk_drewN ?_ _ | refine blk_drew ?_ | refine blk_alloc ?_ _)); exact BK729.out) Try.underlying52 rfl (by kernel_rfl)) rfl ?_
 exact ⟨_, uF, by (with_reducible repeat (first | apply Kd.R_alloc | apply Kd.R_drewN | apply Kd.R_drew)); exact Kd.R_mono (Kd.R_far (p := ⟨gb729, 1, none⟩) (Kd.R_far (p := ⟨gb729, 0, none⟩) (Kd.R_types HO737.out BK729.out (by decide)) (fun _ hk => hk.2) (.bool t734)) (fun _ hk => hk.2) (.slice Ao14 t735.length co14)) (fun _ hk => trivial), uB⟩
def nat_Of.f (k : Nat) (a0 : Int) : Option (List Int) := (nat_trim.f k (([a0] : List Int))).bind fun t118 => (some t118)
set_option maxHeartbeats 8000000 in
set_option maxRecDepth 100000 in
theorem nat_Of.calls (k : Nat) (a0 : Int) (r : List Int) (w : World) (h : nat_Of.f k a0 = some r) :
  Calls Try.prog 102 #[.int .u64 a0] w fun e w' => ∃ v0_ : Value, e = .returned (v0_) ∧ Kd.R (Kd.int .u64) 27 w' w.heap.size (fun _ => True) v0_ r ∧ Below w.heap.size w w' := by
 have HB := Aside0.mk (Below.refl w.heap.size w)
 have H : ((nat_trim.f k (([a0] : List Int))).bind fun t118 => (some t118)) = some r := h
 clear h
 obtain ⟨y115, hy115⟩ : ∃ y_ : List Int, y_ = (([a0] : List Int)) := ⟨_, rfl⟩
 replace H : ((nat_trim.f k y115).bind fun t118 => (some t118)) = some r := by first | (rw [hy115]; with_reducible exact H) | (have H2_ := (Option.bind_some _ _).symm.trans H; rw [hy115]; with_reducible exact H2_) | (have H2_ := (Option.bind_some _ _).symm.trans H; with_reducible exact H2_) | with_reducible exact H | (rw [hy115]; exact H) | exact H
 have Ny115 := Aside0.mk hy115; clear hy115
 replace H := ub H; obtain ⟨t118, A2, H⟩ := H
 obtain rfl := Option.some.inj H
 go_enter Try.func102, Try.ntmps102
 go_wp2_with (first | ((with_reducible refine gate_dst (N := 4) rfl ?_); refine Kd.R_lit (Kd.int .u64) _ 27 ?hg (N := 4) ?hd (xs := ([a0] : List Int)) (inner := [.int .u64 a0]) (ok := fun _ => True) (okp := fun _ => True) ?hr ?hp (fun _ hk => hk) trivial (Below.refl _ _) (Nat.le_refl _) (by simp) ?_; (case hd => rfl); (case hg => rfl); (case hr => first | (go_simp; done) | (go_simp; rfl) | (go_simp; simp only [u64_u8]; done) | (go_simp; simp only [u64_u8]; rfl)); (case hp => exact (Reps.one (show Kd.M (Kd.int .u64) _ _ _ a0 [.int .u64 a0] from rfl) (Reps.none _ _))); intro v116 w3 ho4 hb hg_ hnew_; clear hg_ hnew_; (first | rw [← Ny115.out] at ho4 | (simp only [Int.reduceToNat] at ho4; rw [← Ny115.out] at ho4)); have HO117 := Aside0.mk (Kd.R_lower ho4 (below_size uB)); replace HB := uy hb; clear hb ho4; obtain ⟨Ao5, co5, eo5⟩ := Kd.R_slice HO117.out; subst eo5) | ((with_reducible refine gate_callee (f := 125) rfl ?_); refine goesL_ (some 5) rfl rfl Try.func125 (by kernel_rfl) rfl #[.slice Ao5 y115.length co5] rfl uM ?_; (with_reducible refine (nat_trim.calls k (fun k_ => some k_ = (.slice Ao5 y115.length co5 : Value).ownBlock) (.slice Ao5 y115.length co5) y115 t118 w _ ?side1 ?side2 A2.out).mono ?_); (case side1 => repeat (first | (with_reducible first | exact HB.out | apply below_alloc | apply pw_below_drewN | apply below_drew1) | exact HB.out)); (case side2 => exact Kd.R_tight rfl HO117.out); rintro e w6 ⟨v119, rfl, ho0, hb, hkp⟩; refine ⟨_, rfl, ?_⟩; have HO120 := Aside0.mk (Kd.R_mono (ok' := fun k_ => True) ho0 (fun k_ hk_ => trivial)); replace HB := Aside0.mk (hb); clear HO117; (try clear hb); (try clear hkp); (try clear ho0)))
 go_ret
 exact ⟨_, uF, uR HO120.out, uB⟩
def modint_Of.f (k : Nat) (a0 : Int) : Option (Bool × List Int) := if a0 < 0 then ((nat_Of.f k (IntKind.u64.wrap (-(IntKind.u64.wrap (a0))))).bind fun t739 => ((modint_From.f true t739).bind fun bt742 => (some (bt742.1, bt742.2)))) else ((nat_Of.f k (IntKind.u64.wrap (a0))).bind fun t746 => ((modint_From.f false t746).bind fun bt749 => (some (bt749.1, bt749.2))))
set_option maxHeartbeats 8000000 in
set_option maxRecDepth 100000 in
theorem modint_Of.calls (k : Nat) (a0 : Int) (r1 : Bool) (r2 : List Int) (w : World) (h : modint_Of.f k a0 = some (r1, r2)) :
  Calls Try.prog 58 #[.int .i64 a0] w fun e w' => ∃ v1_ : Value, e = .returned (.agg #[.bool r1, v1_]) ∧ Kd.R (Kd.int .u64) 27 w' w.heap.size (fun _ => True) v1_ r2 ∧ Below w.heap.size w w' := by
 have hu52 := Try.underlying52
 have HB := Aside0.mk (Below.refl w.heap.size w)
 have H : (if a0 < 0 then ((nat_Of.f k (IntKind.u64.wrap (-(IntKind.u64.wrap (a0))))).bind fun t739 => ((modint_From.f true t739).bind fun bt742 => (some (bt742.1, bt742.2)))) else ((nat_Of.f k (IntKind.u64.wrap (a0))).bind fun t746 => ((modint_From.f false t746).bind fun bt749 => (some (bt749.1, bt749.2))))) = some (r1, r2) := h
 clear h
 by_cases c2 : a0 < 0
 ·
  rw [if_pos c2] at H
  have c2b0 : decide (a0 < 0) = true := decide_eq_true c2
  clear c2
  replace H := ub H; obtain ⟨t739, A3, H⟩ := H
  replace H := ub H; obtain ⟨⟨t742, t743⟩, A4, H⟩ := H
  (try dsimp only at H)
  simp only [Option.some.injEq, Prod.mk.injEq] at H
  obtain ⟨rfl, rfl⟩ := H
  go_enter Try.func58, Try.ntmps58
  go_wp2_with (first | ((with_reducible refine gate_dst (N := 2) rfl ?_); refine box_event ?hg (N := 2) ?hd (cs := #[.bool false, .slice none 0 0]) (t := 52) ?hr ?_; (case hd => rfl); (case hg => rfl); (case hr => first | (go_simp; done) | (go_simp; rfl)); intro gb738 hg w5 hbox hb; have BK738 := Aside0.mk (hbox); have GW738 := us hg; have GE738 := us hg; replace HB := uy hb; clear hb hbox hg) | ((with_reducible refine gate_callee (f := 102) rfl ?_); refine goesL_ (some 8) rfl rfl Try.func102 (by kernel_rfl) rfl #[.int .u64 (IntKind.u64.wrap (-(IntKind.u64.wrap (a0))))] rfl uM ?_; (with_reducible refine (nat_Of.calls k (IntKind.u64.wrap (-(IntKind.u64.wrap (a0)))) t739 _ A3.out).mono ?_); rintro e w6 ⟨v740, rfl, ho0, hb⟩; refine ⟨_, rfl, ?_⟩; have HO741 := Aside0.mk (Kd.R_lower ho0 (below_size uB)); replace BK738 := ux BK738 hb; replace HB := uy hb; (try clear hb ho0); obtain ⟨Ao7, co7, eo7⟩ := Kd.R_slice HO741.out; subst eo7) | ((with_reducible refine gate_callee (f := 83) rfl ?_); refine goesL_ (some 9) rfl rfl Try.func83 (by kernel_rfl) rfl #[.bool true, .slice Ao7 t739.length co7] rfl uM ?_; (with_reducible refine (modint_From.calls true _ _ t739 t742 t743 _ ?side1 ?side2 A4.out).mono ?_); (case side1 => exact uC (Kd.R_reads' HO741.out).2.2); (case side2 => exact (Kd.R_reads' HO741.out).2.1); rintro e w8 ⟨v744, rfl, ho0, hb⟩; refine ⟨_, rfl, ?_⟩; have HO745 := Aside0.mk (Kd.R_lower (Kd.R_new' ho0 (Kd.R_lt (uR HO741.out))) (below_size uB)); replace HO741 := ueR HO741 ho0 hb; replace BK738 := ux BK738 hb; replace HB := uy hb; (try clear hb ho0); have hcz9_0 : w8.cell? ⟨gb738, 0, none⟩ = some (.bool false) := (blk_cell BK738.out 0).trans rfl; have hcz9_1 : w8.cell? ⟨gb738, 1, none⟩ = some (.slice none 0 0) := (blk_cell BK738.out 1).trans rfl; have hfz9_0 := blk_frozen BK738.out 0; have hfz9_1 := blk_frozen BK738.out 1; obtain ⟨Ao10, co10, eo10⟩ := Kd.R_slice HO745.out; subst eo10))
  refine bodyPost_ret (results_cell_row rfl _ _ gb738 52 #[.bool t742, .slice Ao10 t743.length co10] (0, 0) _ rfl (by (with_reducible repeat (first | refine blk_drewN ?_ _ | refine blk_drew ?_ | refine blk_alloc ?_ _)); refine blk_put (cs := #[.bool t742, .slice none 0 0]) ?_ 1 _ rfl; (with_reducible repeat (first | refine blk_drewN ?_ _ | refine blk_drew ?_ | refine blk_alloc ?_ _)); refine blk_put (cs := #[.bool false, .slice none 0 0]) ?_ 0 _ rfl; (with_reducible repeat (first | refine blk_drewN ?_ _ | refine blk_drew ?_ | refine blk_alloc ?_ _)); exact BK738.out) Try.underlying52 rfl (by kernel_rfl)) rfl ?_
  exact ⟨_, uF, by (with_reducible repeat (first | apply Kd.R_alloc | apply Kd.R_drewN | apply Kd.R_drew)); exact Kd.R_mono (Kd.R_far (p := ⟨gb738, 1, none⟩) (Kd.R_far (p := ⟨gb738, 0, none⟩) (Kd.R_types HO745.out BK738.out (by decide)) (fun _ hk => hk.2) (.bool t742)) (fun _ hk => hk.2) (.slice Ao10 t743.length co10)) (fun _ hk => trivial), uB⟩
 rw [if_neg c2] at H
 have c2b0 : decide (a0 < 0) = false := decide_eq_false c2
 clear c2
 replace H := ub H; obtain ⟨t746, A11, H⟩ := H
 replace H := ub H; obtain ⟨⟨t749, t750⟩, A12, H⟩ := H
 (try dsimp only at H)
 simp only [Option.some.injEq, Prod.mk.injEq] at H
 obtain ⟨rfl, rfl⟩ := H
 go_enter Try.func58, Try.ntmps58
 go_wp2_with (first | ((with_reducible refine gate_dst (N := 2) rfl ?_); refine box_event ?hg (N := 2) ?hd (cs := #[.bool false, .slice none 0 0]) (t := 52) ?hr ?_; (case hd => rfl); (case hg => rfl); (case hr => first | (go_simp; done) | (go_simp; rfl)); intro gb738 hg w13 hbox hb; have BK738 := Aside0.mk (hbox); have GW738 := us hg; have GE738 := us hg; replace HB := uy hb; clear hb hbox hg) | ((with_reducible refine gate_callee (f := 102) rfl ?_); refine goesL_ (some 12) rfl rfl Try.func102 (by kernel_rfl) rfl #[.int .u64 (IntKind.u64.wrap (a0))] rfl uM ?_; (with_reducible refine (nat_Of.calls k (IntKind.u64.wrap (a0)) t746 _ A11.out).mono ?_); rintro e w14 ⟨v747, rfl, ho0, hb⟩; refine ⟨_, rfl, ?_⟩; have HO748 := Aside0.mk (Kd.R_lower ho0 (below_size uB)); replace BK738 := ux BK738 hb; replace HB := uy hb; (try clear hb ho0); obtain ⟨Ao15, co15, eo15⟩ := Kd.R_slice HO748.out; subst eo15) | ((with_reducible refine gate_callee (f := 83) rfl ?_); refine goesL_ (some 13) rfl rfl Try.func83 (by kernel_rfl) rfl #[.bool false, .slice Ao15 t746.length co15] rfl uM ?_; (with_reducible refine (modint_From.calls false _ _ t746 t749 t750 _ ?side1 ?side2 A12.out).mono ?_); (case side1 => exact uC (Kd.R_reads' HO748.out).2.2); (case side2 => exact (Kd.R_reads' HO748.out).2.1); rintro e w16 ⟨v751, rfl, ho0, hb⟩; refine ⟨_, rfl, ?_⟩; have HO752 := Aside0.mk (Kd.R_lower (Kd.R_new' ho0 (Kd.R_lt (uR HO748.out))) (below_size uB)); replace HO748 := ueR HO748 ho0 hb; replace BK738 := ux BK738 hb; replace HB := uy hb; (try clear hb ho0); have hcz17_0 : w16.cell? ⟨gb738, 0, none⟩ = some (.bool false) := (blk_cell BK738.out 0).trans rfl; have hcz17_1 : w16.cell? ⟨gb738, 1, none⟩ = some (.slice none 0 0) := (blk_cell BK738.out 1).trans rfl; have hfz17_0 := blk_frozen BK738.out 0; have hfz17_1 := blk_frozen BK738.out 1; obtain ⟨Ao18, co18, eo18⟩ := Kd.R_slice HO752.out; subst eo18))
 refine bodyPost_ret (results_cell_row rfl _ _ gb738 52 #[.bool t749, .slice Ao18 t750.length co18] (0, 0) _ rfl (by (with_reducible repeat (first | refine blk_drewN ?_ _ | refine blk_drew ?_ | refine blk_alloc ?_ _)); refine blk_put (cs := #[.bool t749, .slice none 0 0]) ?_ 1 _ rfl; (with_reducible repeat (first | refine blk_drewN ?_ _ | refine blk_drew ?_ | refine blk_alloc ?_ _)); refine blk_put (cs := #[.bool false, .slice none 0 0]) ?_ 0 _ rfl; (with_reducible repeat (first | refine blk_drewN ?_ _ | refine blk_drew ?_ | refine blk_alloc ?_ _)); exact BK738.out) Try.underlying52 rfl (by kernel_rfl)) rfl ?_
 exact ⟨_, uF, by (with_reducible repeat (first | apply Kd.R_alloc | apply Kd.R_drewN | apply Kd.R_drew)); exact Kd.R_mono (Kd.R_far (p := ⟨gb738, 1, none⟩) (Kd.R_far (p := ⟨gb738, 0, none⟩) (Kd.R_types HO752.out BK738.out (by decide)) (fun _ hk => hk.2) (.bool t749)) (fun _ hk => hk.2) (.slice Ao18 t750.length co18)) (fun _ hk => trivial), uB⟩
def modint_Neg.f (a0_0 : Bool) (l0_1 : List Int) : Option (Bool × List Int) := (modint_Right.f a0_0 l0_1).bind fun t996 => (if t996 = true then ((modint_From.f (!a0_0) l0_1).bind fun bt997 => (some (bt997.1, bt997.2))) else (some (false, ([] : List Int))))
set_option maxHeartbeats 8000000 in
set_option maxRecDepth 100000 in
theorem modint_Neg.calls (a0_0 : Bool) (A0_1 : Option Addr) (c0_1 : Nat) (l0_1 : List Int) (r1 : Bool) (r2 : List Int) (w : World) (hr0_1 : Kd.C (Kd.int .u64) w A0_1 l0_1.length l0_1) (hc0_1 : l0_1.length ≤ c0_1) (h : modint_Neg.f a0_0 l0_1 = some (r1, r2)) :
  Calls Try.prog 107 #[.agg #[.bool a0_0, .slice A0_1 l0_1.length c0_1]] w fun e w' => ∃ v1_ : Value, e = .returned (.agg #[.bool r1, v1_]) ∧ Kd.R (Kd.int .u64) 27 w' w.heap.size (fun _ => True) v1_ r2 ∧ Below w.heap.size w w' := by
 have hu52 := Try.underlying52
 have HR0_1 := Aside0.mk hr0_1; have HC0_1 := Aside0.mk hc0_1; clear hr0_1 hc0_1
 have HB := Aside0.mk (Below.refl w.heap.size w)
 have H : ((modint_Right.f a0_0 l0_1).bind fun t996 => (if t996 = true then ((modint_From.f (!a0_0) l0_1).bind fun bt997 => (some (bt997.1, bt997.2))) else (some (false, ([] : List Int))))) = some (r1, r2) := h
 clear h
 replace H := ub H; obtain ⟨t996, A2, H⟩ := H
 by_cases c3 : t996 = true
 ·
  subst c3
  have H1 : ((modint_From.f (!a0_0) l0_1).bind fun bt997 => (some (bt997.1, bt997.2))) = some (r1, r2) := by rw [if_pos rfl] at H; exact H
  clear H; have H := H1; clear H1
  replace H := ub H; obtain ⟨⟨t997, t998⟩, A4, H⟩ := H
  (try dsimp only at H)
  simp only [Option.some.injEq, Prod.mk.injEq] at H
  obtain ⟨rfl, rfl⟩ := H
  go_enter Try.func107, Try.ntmps107
  go_wp2_with (first | ((with_reducible refine gate_dst (N := 1) rfl ?_); refine box_event ?hg (N := 1) ?hd (cs := #[.bool a0_0, .slice A0_1 l0_1.length c0_1]) (t := 52) ?hr ?_; (case hd => rfl); (case hg => rfl); (case hr => first | (go_simp; done) | (go_simp; rfl)); intro gb994 hg w5 hbox hb; have BK994 := Aside0.mk (hbox); have GW994 := us hg; have GE994 := us hg; replace HB := uy hb; clear hb hbox hg) | ((with_reducible refine gate_dst (N := 2) rfl ?_); refine box_event ?hg (N := 2) ?hd (cs := #[.bool false, .slice none 0 0]) (t := 52) ?hr ?_; (case hd => rfl); (case hg => rfl); (case hr => first | (go_simp; done) | (go_simp; rfl)); intro gb995 hg w6 hbox hb; have BK995 := Aside0.mk (hbox); have GW995 := us hg; have GE995 := us hg; replace HB := uy hb; have NB994_995 := Aside0.mk ((by rw [hg]; exact Nat.ne_of_lt (blk_lt (uK BK994.out)) : gb994 ≠ gb995)); have NB995_994 := Aside0.mk ((by rw [hg]; exact Nat.ne_of_gt (blk_lt (uK BK994.out)) : gb995 ≠ gb994)); replace BK994 := ux BK994 hb; clear hb hbox hg; have hnb7 := NB994_995.out; have hnc7 := NB995_994.out; have hcz8_0 : w6.cell? ⟨gb994, 0, none⟩ = some (.bool a0_0) := (blk_cell BK994.out 0).trans rfl; have hcz8_1 : w6.cell? ⟨gb994, 1, none⟩ = some (.slice A0_1 l0_1.length c0_1) := (blk_cell BK994.out 1).trans rfl; have hfz8_0 := blk_frozen BK994.out 0; have hfz8_1 := blk_frozen BK994.out 1) | ((with_reducible refine gate_callee (f := 79) rfl ?_); refine goesL_ (some 4) rfl rfl Try.func79 (by kernel_rfl) rfl #[.agg #[.bool a0_0, .slice A0_1 l0_1.length c0_1]] rfl uM ?_; (with_reducible refine (modint_Right.calls a0_0 _ _ l0_1 true _ ?side1 ?side2 A2.out).mono ?_); (case side1 => exact uC (Kd.C_below HR0_1.out HB.out)); (case side2 => exact HC0_1.out); rintro e w9 ⟨rfl, hb⟩; refine ⟨_, rfl, ?_⟩; replace BK994 := ux BK994 hb; replace BK995 := ux BK995 hb; replace HB := uy hb; (try clear hb); have hcz10_0 : w9.cell? ⟨gb994, 0, none⟩ = some (.bool a0_0) := (blk_cell BK994.out 0).trans rfl; have hcz10_1 : w9.cell? ⟨gb994, 1, none⟩ = some (.slice A0_1 l0_1.length c0_1) := (blk_cell BK994.out 1).trans rfl; have hfz10_0 := blk_frozen BK994.out 0; have hfz10_1 := blk_frozen BK994.out 1) | ((with_reducible refine gate_callee (f := 83) rfl ?_); refine goesL_ (some 12) rfl rfl Try.func83 (by kernel_rfl) rfl #[.bool (!a0_0), .slice A0_1 l0_1.length c0_1] rfl uM ?_; (with_reducible refine (modint_From.calls (!a0_0) _ _ l0_1 t997 t998 _ ?side1 ?side2 A4.out).mono ?_); (case side1 => exact uC (Kd.C_below HR0_1.out HB.out)); (case side2 => exact HC0_1.out); rintro e w11 ⟨v999, rfl, ho0, hb⟩; refine ⟨_, rfl, ?_⟩; have HO1000 := Aside0.mk (Kd.R_lower ho0 (below_size uB)); replace BK994 := ux BK994 hb; replace BK995 := ux BK995 hb; replace HB := uy hb; (try clear hb ho0); have hcz12_0 : w11.cell? ⟨gb995, 0, none⟩ = some (.bool false) := (blk_cell BK995.out 0).trans rfl; have hcz12_1 : w11.cell? ⟨gb995, 1, none⟩ = some (.slice none 0 0) := (blk_cell BK995.out 1).trans rfl; have hfz12_0 := blk_frozen BK995.out 0; have hfz12_1 := blk_frozen BK995.out 1; obtain ⟨Ao13, co13, eo13⟩ := Kd.R_slice HO1000.out; subst eo13))
  refine bodyPost_ret (results_cell_row rfl _ _ gb995 52 #[.bool t997, .slice Ao13 t998.length co13] (0, 0) _ rfl (by (with_reducible repeat (first | refine blk_drewN ?_ _ | refine blk_drew ?_ | refine blk_alloc ?_ _)); refine blk_put (cs := #[.bool t997, .slice none 0 0]) ?_ 1 _ rfl; (with_reducible repeat (first | refine blk_drewN ?_ _ | refine blk_drew ?_ | refine blk_alloc ?_ _)); refine blk_put (cs := #[.bool false, .slice none 0 0]) ?_ 0 _ rfl; (with_reducible repeat (first | refine blk_drewN ?_ _ | refine blk_drew ?_ | refine blk_alloc ?_ _)); exact BK995.out) Try.underlying52 rfl (by kernel_rfl)) rfl ?_
  exact ⟨_, uF, by (with_reducible repeat (first | apply Kd.R_alloc | apply Kd.R_drewN | apply Kd.R_drew)); exact Kd.R_mono (Kd.R_far (p := ⟨gb995, 1, none⟩) (Kd.R_far (p := ⟨gb995, 0, none⟩) (Kd.R_types HO1000.out BK995.out (by decide)) (fun _ hk => hk.2) (.bool t997)) (fun _ hk => hk.2) (.slice Ao13 t998.length co13)) (fun _ hk => trivial), uB⟩
 replace c3 := Bool.eq_false_iff.mpr c3
 subst c3
 have H1 : (some (false, ([] : List Int))) = some (r1, r2) := by rw [if_neg (show ¬ (false = true) by decide)] at H; exact H
 clear H; have H := H1; clear H1
 simp only [Option.some.injEq, Prod.mk.injEq] at H
 obtain ⟨rfl, rfl⟩ := H
 go_enter Try.func107, Try.ntmps107
 go_wp2_with (first | ((with_reducible refine gate_dst (N := 1) rfl ?_); refine box_event ?hg (N := 1) ?hd (cs := #[.bool a0_0, .slice A0_1 l0_1.length c0_1]) (t := 52) ?hr ?_; (case hd => rfl); (case hg => rfl); (case hr => first | (go_simp; done) | (go_simp; rfl)); intro gb994 hg w14 hbox hb; have BK994 := Aside0.mk (hbox); have GW994 := us hg; have GE994 := us hg; replace HB := uy hb; clear hb hbox hg) | ((with_reducible refine gate_dst (N := 2) rfl ?_); refine box_event ?hg (N := 2) ?hd (cs := #[.bool false, .slice none 0 0]) (t := 52) ?hr ?_; (case hd => rfl); (case hg => rfl); (case hr => first | (go_simp; done) | (go_simp; rfl)); intro gb995 hg w15 hbox hb; have BK995 := Aside0.mk (hbox); have GW995 := us hg; have GE995 := us hg; replace HB := uy hb; have NB994_995 := Aside0.mk ((by rw [hg]; exact Nat.ne_of_lt (blk_lt (uK BK994.out)) : gb994 ≠ gb995)); have NB995_994 := Aside0.mk ((by rw [hg]; exact Nat.ne_of_gt (blk_lt (uK BK994.out)) : gb995 ≠ gb994)); replace BK994 := ux BK994 hb; clear hb hbox hg; have hnb16 := NB994_995.out; have hnc16 := NB995_994.out; have hcz17_0 : w15.cell? ⟨gb994, 0, none⟩ = some (.bool a0_0) := (blk_cell BK994.out 0).trans rfl; have hcz17_1 : w15.cell? ⟨gb994, 1, none⟩ = some (.slice A0_1 l0_1.length c0_1) := (blk_cell BK994.out 1).trans rfl; have hfz17_0 := blk_frozen BK994.out 0; have hfz17_1 := blk_frozen BK994.out 1) | ((with_reducible refine gate_callee (f := 79) rfl ?_); refine goesL_ (some 4) rfl rfl Try.func79 (by kernel_rfl) rfl #[.agg #[.bool a0_0, .slice A0_1 l0_1.length c0_1]] rfl uM ?_; (with_reducible refine (modint_Right.calls a0_0 _ _ l0_1 false _ ?side1 ?side2 A2.out).mono ?_); (case side1 => exact uC (Kd.C_below HR0_1.out HB.out)); (case side2 => exact HC0_1.out); rintro e w18 ⟨rfl, hb⟩; refine ⟨_, rfl, ?_⟩; replace BK994 := ux BK994 hb; replace BK995 := ux BK995 hb; replace HB := uy hb; (try clear hb); have hcz19_0 : w18.cell? ⟨gb995, 0, none⟩ = some (.bool false) := (blk_cell BK995.out 0).trans rfl; have hcz19_1 : w18.cell? ⟨gb995, 1, none⟩ = some (.slice none 0 0) := (blk_cell BK995.out 1).trans rfl; have hfz19_0 := blk_frozen BK995.out 0; have hfz19_1 := blk_frozen BK995.out 1))
 refine bodyPost_ret (results_cell_row rfl _ _ gb995 52 #[.bool false, .slice none 0 0] (0, 0) _ rfl (by (with_reducible repeat (first | refine blk_drewN ?_ _ | refine blk_drew ?_ | refine blk_alloc ?_ _)); refine blk_put (cs := #[.bool false, .slice none 0 0]) ?_ 1 _ rfl; (with_reducible repeat (first | refine blk_drewN ?_ _ | refine blk_drew ?_ | refine blk_alloc ?_ _)); refine blk_put (cs := #[.bool false, .slice none 0 0]) ?_ 0 _ rfl; (with_reducible repeat (first | refine blk_drewN ?_ _ | refine blk_drew ?_ | refine blk_alloc ?_ _)); exact BK995.out) Try.underlying52 rfl (by kernel_rfl)) rfl ?_
 exact ⟨_, uF, uI, uB⟩
def windbreakref01_Right.f (l0 : List Int) : Option (Bool) := if (l0.length : Int) ≤ 64 then (if (l0.length : Int) = 0 then (some true) else (if 0 ≤ (wrap64 ((l0.length : Int) - 1)) then (if (wrap64 ((l0.length : Int) - 1)) < (l0.length : Int) then (some ((rd l0 (wrap64 ((l0.length : Int) - 1))) != 0)) else (none)) else (none))) else (some false)
set_option maxHeartbeats 8000000 in
set_option maxRecDepth 100000 in
theorem windbreakref01_Right.calls (A0 : Option Addr) (c0 : Nat) (l0 : List Int) (r : Bool) (w : World) (hr0 : Kd.C (Kd.int .u64) w A0 l0.length l0) (hc0 : l0.length ≤ c0) (h : windbreakref01_Right.f l0 = some r) :
  Calls Try.prog 50 #[.slice A0 l0.length c0] w fun e w' => e = .returned (.bool r) ∧ Drawn0 w w' := by
 have HR0 := Aside0.mk hr0; have HC0 := Aside0.mk hc0; clear hr0 hc0
 have H : (if (l0.length : Int) ≤ 64 then (if (l0.length : Int) = 0 then (some true) else (if 0 ≤ (wrap64 ((l0.length : Int) - 1)) then (if (wrap64 ((l0.length : Int) - 1)) < (l0.length : Int) then (some ((rd l0 (wrap64 ((l0.length : Int) - 1))) != 0)) else (none)) else (none))) else (some false)) = some r := h
 clear h
 by_cases c2 : (l0.length : Int) ≤ 64
 ·
  rw [if_pos c2] at H
  have c2b0 : decide ((l0.length : Int) ≤ 64) = true := decide_eq_true c2
  have c2b1 : decide (l0.length ≤ 64) = true := decide_eq_true (by omega)
  clear c2
  by_cases c3 : (l0.length : Int) = 0
  ·
   rw [if_pos c3] at H
   have c3b0 : ((l0.length : Int) == 0) = true := beq_iff_eq.mpr c3
   have c3b1 : ((l0.length : Int) != 0) = false := bne_eq_false_iff_eq.mpr c3
   clear c3
   obtain rfl := Option.some.inj H
   go_enter Try.func50, Try.ntmps50
   go_wp2
   go_ret
   exact ⟨by first | rfl | (simp; done) | (simp [*]; done), by repeat (first | exact Drawn0.refl _ | apply Drawn0.step)⟩
  rw [if_neg c3] at H
  have c3b0 : ((l0.length : Int) == 0) = false := beq_eq_false_iff_ne.mpr c3
  have c3b1 : ((l0.length : Int) != 0) = true := bne_iff_ne.mpr c3
  have c3b2 : ¬ (l0 = []) := fun h_ => c3 (by rw [h_]; rfl)
  obtain ⟨ji4, hji4⟩ : ∃ j_ : Int, (wrap64 ((l0.length : Int) - 1)) = j_ := ⟨_, rfl⟩
  first | rw [hji4] at H | simp only [hji4] at H
  have hji4w : (IntKind.i64.wrap ((l0.length : Int) - 1)) = ji4 := (i64_w _).trans hji4
  replace H := uT H; obtain ⟨c5, H⟩ := H
  have c5b0 : decide (0 ≤ (ji4)) = true := decide_eq_true c5
  clear c5
  replace H := uT H; obtain ⟨c6, H⟩ := H
  have c6b0 : decide ((ji4) < (l0.length : Int)) = true := decide_eq_true c6
  clear c6
  obtain rfl := Option.some.inj H
  have p261 : 0 ≤ ((ji4) : Int) := uO
  have q261 : (ji4) < (l0.length : Int) := uO
  obtain ⟨ad261, e261, hx261_0⟩ := Kd.at_int HR0.out (ji4) p261 q261
  cases e261
  replace p261 := eq_true p261
  replace q261 := eq_true q261
  go_enter Try.func50, Try.ntmps50
  go_wp2
  go_ret
  exact ⟨by first | rfl | (simp; done) | (simp only [← hji4] <;> (first | rfl | simp)) | (simp [*]; done), by repeat (first | exact Drawn0.refl _ | apply Drawn0.step)⟩
 rw [if_neg c2] at H
 have c2b0 : decide ((l0.length : Int) ≤ 64) = false := decide_eq_false c2
 have c2b1 : decide (l0.length ≤ 64) = false := decide_eq_false (by omega)
 clear c2
 obtain rfl := Option.some.inj H
 go_enter Try.func50, Try.ntmps50
 go_wp2
 go_ret
 exact ⟨by first | rfl | (simp; done) | (simp [*]; done), by repeat (first | exact Drawn0.refl _ | apply Drawn0.step)⟩
def windbreakref01_cut.l0 : Nat → List Int → Int → Option (List Int)
 | 0, _, _ => none
 | k + 1, x0, x3 => if x3 > 0 then (if 0 ≤ (wrap64 (x3 - 1)) then (if (wrap64 (x3 - 1)) < (x0.length : Int) then (if (rd x0 (wrap64 (x3 - 1))) = 0 then (windbreakref01_cut.l0 k x0 (wrap64 (x3 - 1))) else (if 0 ≤ x3 then (if x3 ≤ (x0.length : Int) then (some (x0.take (x3 : Int).toNat)) else (none)) else (none))) else (none)) else (none)) else (if 0 ≤ x3 then (if x3 ≤ (x0.length : Int) then (some (x0.take (x3 : Int).toNat)) else (none)) else (none))
def windbreakref01_cut.f (k : Nat) (l0 : List Int) : Option (List Int) := windbreakref01_cut.l0 k l0 (l0.length : Int)
set_option maxHeartbeats 8000000 in
set_option maxRecDepth 100000 in
theorem windbreakref01_cut.calls (k : Nat) (P0_ : Nat → Prop) (u9000_ : Value) (l0 : List Int) (r : List Int) (w0 w : World) (hB : Below w0.heap.size w0 w) (ho0 : Kd.R (Kd.int .u64) 27 w w0.heap.size P0_ u9000_ l0) (h : windbreakref01_cut.f k l0 = some r) :
  Calls Try.prog 99 #[u9000_] w fun e w' => ∃ v0_ : Value, e = .returned (v0_) ∧ Kd.R (Kd.int .u64) 27 w' w0.heap.size (fun k_ => (P0_ k_ ∨ w.heap.size ≤ k_)) v0_ r ∧ Below w0.heap.size w0 w' ∧ Kept w w' (fun k_ => P0_ k_) := by
 have HO0 := Aside0.mk (show Kd.R (Kd.int .u64) 27 w w0.heap.size (fun k_ => (P0_ k_ ∨ w.heap.size ≤ k_)) u9000_ l0 from Kd.R_mono ho0 (fun k_ hk => (.inl hk)))
 have HK := Aside0.mk (Kept.refl w (fun k_ => P0_ k_))
 have HW0 := Aside0.mk hB.size
 have HB := Aside0.mk hB; clear hB
 have H : (windbreakref01_cut.l0 k l0 (l0.length : Int)) = some r := h
 clear h
 have H' := Aside0.mk H
 clear H
 obtain ⟨Ao2, co2, eo2⟩ := Kd.R_slice HO0.out
 subst eo2
 go_enter Try.func99, Try.ntmps99
 go_wp2
 go_loopg [3] k (fun kq v3 w' => ∃ (x3_1 : Int), v3 = .int .i64 x3_1 ∧ Aside0 (windbreakref01_cut.l0 kq l0 x3_1 = some r) ∧ Aside0 (kq ≤ k) ∧ Aside0 (Kd.R (Kd.int .u64) 27 w' w0.heap.size (fun k_ => (P0_ k_ ∨ w.heap.size ≤ k_)) (.slice Ao2 l0.length co2) l0) ∧ Aside0 (Kept w w' (fun k_ => P0_ k_)) ∧ Aside0 (Below w0.heap.size w0 w'))
 case atStart => exact ⟨((l0.length : Int)), uG, H', ⟨Nat.le_refl _⟩, ⟨uR HO0.out⟩, ⟨by repeat (first | (with_reducible first | exact HK.out | apply Kept.alloc | apply Kept.drewN | apply Kept.drew) | exact HK.out)⟩, ⟨uB⟩⟩
 case round =>
  clear H'
  (try clear p2)
  obtain ⟨x3_1, rfl, HA, HK1, HO_0, HK, HB⟩ := hrel
  cases gk with
  | zero => exact absurd HA.out (by simp [windbreakref01_cut.l0])
  | succ k1 =>
   have H := HA.out
   clear HA
   simp only [windbreakref01_cut.l0] at H
   by_cases c3 : x3_1 > 0
   ·
    rw [if_pos c3] at H
    have c3b0 : decide (0 < x3_1) = true := decide_eq_true c3
    clear c3
    obtain ⟨ji4, hji4⟩ : ∃ j_ : Int, (wrap64 (x3_1 - 1)) = j_ := ⟨_, rfl⟩
    first | rw [hji4] at H | simp only [hji4] at H
    have hji4w : (IntKind.i64.wrap (x3_1 - 1)) = ji4 := (i64_w _).trans hji4
    replace H := uT H; obtain ⟨c5, H⟩ := H
    have c5b0 : decide (0 ≤ (ji4)) = true := decide_eq_true c5
    clear c5
    replace H := uT H; obtain ⟨c6, H⟩ := H
    have c6b0 : decide ((ji4) < (l0.length : Int)) = true := decide_eq_true c6
    clear c6
    by_cases c7 : (rd l0 (ji4)) = 0
    ·
     rw [if_pos c7] at H
     have c7b0 : ((rd l0 (ji4)) == 0) = true := beq_iff_eq.mpr c7
     have c7b1 : ((rd l0 (ji4)) != 0) = false := bne_eq_false_iff_eq.mpr c7
     clear c7
     have H' := Aside0.mk H
     clear H
     have p316 : 0 ≤ ((ji4) : Int) := uO
     have q316 : (ji4) < (l0.length : Int) := uO
     obtain ⟨ad316, e316, hx316_0⟩ := Kd.at_int (Kd.R_reads' HO_0.out).2.2 (ji4) p316 q316
     cases e316
     replace p316 := eq_true p316
     replace q316 := eq_true q316
     go_wp2
     first | go_roundg k1 | ((try simp only [← hji4] at H'); simp only [← hji4]; go_roundg k1)
     case measure => have := HK1.out; omega
     case rel => first | exact ⟨(ji4), (by first | rfl | (simp; done) | (simp only [← hji4] <;> (first | rfl | simp)) | (simp [*]; done)), H', ⟨by have := HK1.out; omega⟩, ⟨uR HO_0.out⟩, ⟨by repeat (first | (with_reducible first | exact HK.out | apply Kept.alloc | apply Kept.drewN | apply Kept.drew) | exact HK.out)⟩, ⟨uB⟩⟩ | (simp only [← hji4] at H'; exact ⟨(ji4), (by first | rfl | (simp; done) | (simp only [← hji4] <;> (first | rfl | simp)) | (simp [*]; done)), H', ⟨by have := HK1.out; omega⟩, ⟨uR HO_0.out⟩, ⟨by repeat (first | (with_reducible first | exact HK.out | apply Kept.alloc | apply Kept.drewN | apply Kept.drew) | exact HK.out)⟩, ⟨uB⟩⟩)
    rw [if_neg c7] at H
    have c7b0 : ((rd l0 (ji4)) == 0) = false := beq_eq_false_iff_ne.mpr c7
    have c7b1 : ((rd l0 (ji4)) != 0) = true := bne_iff_ne.mpr c7
    replace H := uT H; obtain ⟨c8, H⟩ := H
    have c8b0 := eq_true c8
    have c8b1 : decide (0 ≤ x3_1) = true := decide_eq_true c8
    clear c8
    replace H := uT H; obtain ⟨c9, H⟩ := H
    have c9b0 := eq_true c9
    have c9b1 : decide (x3_1 ≤ (l0.length : Int)) = true := decide_eq_true c9
    clear c9
    obtain ⟨y317, hy317⟩ : ∃ y_ : List Int, y_ = (l0.take (x3_1 : Int).toNat) := ⟨_, rfl⟩
    replace H : (some y317) = some r := by first | (rw [hy317]; with_reducible exact H) | (have H2_ := (Option.bind_some _ _).symm.trans H; rw [hy317]; with_reducible exact H2_) | (have H2_ := (Option.bind_some _ _).symm.trans H; with_reducible exact H2_) | with_reducible exact H | (rw [hy317]; exact H) | exact H
    have Ny317 := Aside0.mk hy317; clear hy317
    obtain rfl := Option.some.inj H
    have p316 : 0 ≤ ((ji4) : Int) := uO
    have q316 : (ji4) < (l0.length : Int) := uO
    obtain ⟨ad316, e316, hx316_0⟩ := Kd.at_int (Kd.R_reads' HO_0.out).2.2 (ji4) p316 q316
    cases e316
    replace p316 := eq_true p316
    replace q316 := eq_true q316
    have q10 : (x3_1 : Int) ≤ ((l0.length : Int) : Int) := uO
    obtain ⟨i010, hi010, _, hsz10, _⟩ := info_parts info27
    have hcut10 := cut_to (P := Try.prog) 70 27 .i64 Try.underlying70 hi010 (some ad316) l0.length co2 x3_1 uO q10 (Kd.R_reads' HO_0.out).2.1
    have hr10 := Kd.R_take (m := (x3_1 : Int).toNat) HO_0.out (by omega)
    have hy10 : y317.length = (x3_1 : Int).toNat := (by rw [Ny317.out, List.length_take]; omega)
    rw [← Ny317.out] at hr10
    rw [← hy10] at hr10 hcut10
    clear hy10 hi010 hsz10 HO_0; have HO319 := Aside0.mk hr10; clear hr10
    replace q10 := eq_true q10
    go_wp2
    go_ret
    exact ⟨_, by first | rfl | (simp [errW_none, errW_some] <;> rfl) | (simp only [← hji4]; first | rfl | (simp [errW_none, errW_some] <;> rfl)) | (simp [*, errW_none, errW_some] <;> rfl), uR HO319.out, uB, by repeat (first | (with_reducible first | exact HK.out | apply Kept.alloc | apply Kept.drewN | apply Kept.drew) | exact HK.out)⟩
   rw [if_neg c3] at H
   have c3b0 : decide (0 < x3_1) = false := decide_eq_false c3
   clear c3
   replace H := uT H; obtain ⟨c11, H⟩ := H
   have c11b0 := eq_true c11
   have c11b1 : decide (0 ≤ x3_1) = true := decide_eq_true c11
   clear c11
   replace H := uT H; obtain ⟨c12, H⟩ := H
   have c12b0 := eq_true c12
   have c12b1 : decide (x3_1 ≤ (l0.length : Int)) = true := decide_eq_true c12
   clear c12
   obtain ⟨y320, hy320⟩ : ∃ y_ : List Int, y_ = (l0.take (x3_1 : Int).toNat) := ⟨_, rfl⟩
   replace H : (some y320) = some r := by first | (rw [hy320]; with_reducible exact H) | (have H2_ := (Option.bind_some _ _).symm.trans H; rw [hy320]; with_reducible exact H2_) | (have H2_ := (Option.bind_some _ _).symm.trans H; with_reducible exact H2_) | with_reducible exact H | (rw [hy320]; exact H) | exact H
   have Ny320 := Aside0.mk hy320; clear hy320
   obtain rfl := Option.some.inj H
   have q13 : (x3_1 : Int) ≤ ((l0.length : Int) : Int) := uO
   obtain ⟨i013, hi013, _, hsz13, _⟩ := info_parts info27
   have hcut13 := cut_to (P := Try.prog) 70 27 .i64 Try.underlying70 hi013 Ao2 l0.length co2 x3_1 uO q13 (Kd.R_reads' HO_0.out).2.1
   have hr13 := Kd.R_take (m := (x3_1 : Int).toNat) HO_0.out (by omega)
   have hy13 : y320.length = (x3_1 : Int).toNat := (by rw [Ny320.out, List.length_take]; omega)
   rw [← Ny320.out] at hr13
   rw [← hy13] at hr13 hcut13
   clear hy13 hi013 hsz13 HO_0; have HO322 := Aside0.mk hr13; clear hr13
   replace q13 := eq_true q13
   go_wp2
   go_ret
   exact ⟨_, uF, uR HO322.out, uB, by repeat (first | (with_reducible first | exact HK.out | apply Kept.alloc | apply Kept.drewN | apply Kept.drew) | exact HK.out)⟩
def windbreakref01_compare.l0 : Nat → List Int → List Int → Int → Option (Int)
 | 0, _, _, _ => none
 | k + 1, x0, x1, x5 => if x5 ≥ 0 then (if 0 ≤ x5 then (if x5 < (x0.length : Int) then (if x5 < (x1.length : Int) then (if (rd x0 x5) < (rd x1 x5) then (some (-1)) else (if (rd x0 x5) > (rd x1 x5) then (some 1) else (windbreakref01_compare.l0 k x0 x1 (wrap64 (x5 - 1))))) else (none)) else (none)) else (none)) else (some 0)
def windbreakref01_compare.f (k : Nat) (l0 : List Int) (l1 : List Int) : Option (Int) := if (l0.length : Int) = (l1.length : Int) then (windbreakref01_compare.l0 k l0 l1 (wrap64 ((l0.length : Int) - 1))) else (if (l0.length : Int) < (l1.length : Int) then (some (-1)) else (some 1))
set_option maxHeartbeats 8000000 in
set_option maxRecDepth 100000 in
theorem windbreakref01_compare.calls (k : Nat) (A0 : Option Addr) (c0 : Nat) (l0 : List Int) (A1 : Option Addr) (c1 : Nat) (l1 : List Int) (r : Int) (w : World) (hr0 : Kd.C (Kd.int .u64) w A0 l0.length l0) (hc0 : l0.length ≤ c0) (hr1 : Kd.C (Kd.int .u64) w A1 l1.length l1) (hc1 : l1.length ≤ c1) (h : windbreakref01_compare.f k l0 l1 = some r) :
  Calls Try.prog 110 #[.slice A0 l0.length c0, .slice A1 l1.length c1] w fun e w' => e = .returned (.int .i64 r) ∧ Drawn0 w w' := by
 have HR0 := Aside0.mk hr0; have HC0 := Aside0.mk hc0; clear hr0 hc0; have HR1 := Aside0.mk hr1; have HC1 := Aside0.mk hc1; clear hr1 hc1
 have H : (if (l0.length : Int) = (l1.length : Int) then (windbreakref01_compare.l0 k l0 l1 (wrap64 ((l0.length : Int) - 1))) else (if (l0.length : Int) < (l1.length : Int) then (some (-1)) else (some 1))) = some r := h
 clear h
 by_cases c3 : (l0.length : Int) = (l1.length : Int)
 ·
  rw [if_pos c3] at H
  have c3b0 : ((l0.length : Int) == (l1.length : Int)) = true := beq_iff_eq.mpr c3
  have c3b1 : ((l0.length : Int) != (l1.length : Int)) = false := bne_eq_false_iff_eq.mpr c3
  have c3b2 : (l0.length == l1.length) = true := by first | simpa using c3 | (simp at c3 ⊢; omega)
  clear c3
  have H' := Aside0.mk H
  clear H
  go_enter Try.func110, Try.ntmps110
  go_wp2
  repeat (go_quiet (fail); try go_wp2)
  go_loopg [5] k (fun kq v5 w' => ∃ (x5_1 : Int), v5 = .int .i64 x5_1 ∧ Aside0 (windbreakref01_compare.l0 kq l0 l1 x5_1 = some r) ∧ Aside0 (kq ≤ k) ∧ Drawn0 w w')
  case atStart => exact ⟨(wrap64 ((l0.length : Int) - 1)), uG, H', ⟨Nat.le_refl _⟩, by repeat (first | exact Drawn0.refl _ | apply Drawn0.step)⟩
  case round =>
   clear H'
   (try clear c1); (try clear p2); (try clear c3); (try clear c3b0); (try clear c3b1); (try clear c3b2)
   obtain ⟨x5_1, rfl, HA, HK1, ⟨m1, rfl⟩⟩ := hrel
   cases gk with
   | zero => exact absurd HA.out (by simp [windbreakref01_compare.l0])
   | succ k1 =>
    have H := HA.out
    clear HA
    simp only [windbreakref01_compare.l0] at H
    by_cases c4 : x5_1 ≥ 0
    ·
     rw [if_pos c4] at H
     have c4b0 : decide (0 ≤ x5_1) = true := decide_eq_true c4
     clear c4
     replace H := uT H; obtain ⟨c5, H⟩ := H
     have c5b0 : decide (0 ≤ x5_1) = true := decide_eq_true c5
     clear c5
     replace H := uT H; obtain ⟨c6, H⟩ := H
     have c6b0 : decide (x5_1 < (l0.length : Int)) = true := decide_eq_true c6
     clear c6
     replace H := uT H; obtain ⟨c7, H⟩ := H
     have c7b0 : decide (x5_1 < (l1.length : Int)) = true := decide_eq_true c7
     clear c7
     by_cases c8 : (rd l0 x5_1) < (rd l1 x5_1)
     ·
      rw [if_pos c8] at H
      have c8b0 : decide ((rd l0 x5_1) < (rd l1 x5_1)) = true := decide_eq_true c8
      clear c8
      obtain rfl := Option.some.inj H
      have p330 : 0 ≤ (x5_1 : Int) := uO
      have q330 : x5_1 < (l0.length : Int) := uO
      obtain ⟨ad330, e330, hx330_0⟩ := Kd.at_int HR0.out x5_1 p330 q330
      cases e330
      replace p330 := eq_true p330
      replace q330 := eq_true q330
      have p331 : 0 ≤ (x5_1 : Int) := uO
      have q331 : x5_1 < (l1.length : Int) := uO
      obtain ⟨ad331, e331, hx331_0⟩ := Kd.at_int HR1.out x5_1 p331 q331
      cases e331
      replace p331 := eq_true p331
      replace q331 := eq_true q331
      go_wp2
      repeat (go_quiet (fail); try go_wp2)
      go_ret
      exact ⟨by first | rfl | (simp; done) | (simp [*]; done), by repeat (first | exact Drawn0.refl _ | apply Drawn0.step)⟩
     rw [if_neg c8] at H
     have c8b0 : decide ((rd l0 x5_1) < (rd l1 x5_1)) = false := decide_eq_false c8
     clear c8
     by_cases c9 : (rd l0 x5_1) > (rd l1 x5_1)
     ·
      rw [if_pos c9] at H
      have c9b0 : decide ((rd l1 x5_1) < (rd l0 x5_1)) = true := decide_eq_true c9
      clear c9
      obtain rfl := Option.some.inj H
      have p330 : 0 ≤ (x5_1 : Int) := uO
      have q330 : x5_1 < (l0.length : Int) := uO
      obtain ⟨ad330, e330, hx330_0⟩ := Kd.at_int HR0.out x5_1 p330 q330
      cases e330
      replace p330 := eq_true p330
      replace q330 := eq_true q330
      have p331 : 0 ≤ (x5_1 : Int) := uO
      have q331 : x5_1 < (l1.length : Int) := uO
      obtain ⟨ad331, e331, hx331_0⟩ := Kd.at_int HR1.out x5_1 p331 q331
      cases e331
      replace p331 := eq_true p331
      replace q331 := eq_true q331
      have p332 : 0 ≤ (x5_1 : Int) := uO
      have q332 : x5_1 < (l0.length : Int) := uO
      obtain ⟨ad332, e332, hx332_0⟩ := Kd.at_int HR0.out x5_1 p332 q332
      obtain rfl : ad330 = ad332 := (by injection e332)
      replace p332 := eq_true p332
      replace q332 := eq_true q332
      have p333 : 0 ≤ (x5_1 : Int) := uO
      have q333 : x5_1 < (l1.length : Int) := uO
      obtain ⟨ad333, e333, hx333_0⟩ := Kd.at_int HR1.out x5_1 p333 q333
      obtain rfl : ad331 = ad333 := (by injection e333)
      replace p333 := eq_true p333
      replace q333 := eq_true q333
      go_wp2
      repeat (go_quiet (fail); try go_wp2)
      go_ret
      exact ⟨by first | rfl | (simp; done) | (simp [*]; done), by repeat (first | exact Drawn0.refl _ | apply Drawn0.step)⟩
     rw [if_neg c9] at H
     have c9b0 : decide ((rd l1 x5_1) < (rd l0 x5_1)) = false := decide_eq_false c9
     clear c9
     have H' := Aside0.mk H
     clear H
     have p330 : 0 ≤ (x5_1 : Int) := uO
     have q330 : x5_1 < (l0.length : Int) := uO
     obtain ⟨ad330, e330, hx330_0⟩ := Kd.at_int HR0.out x5_1 p330 q330
     cases e330
     replace p330 := eq_true p330
     replace q330 := eq_true q330
     have p331 : 0 ≤ (x5_1 : Int) := uO
     have q331 : x5_1 < (l1.length : Int) := uO
     obtain ⟨ad331, e331, hx331_0⟩ := Kd.at_int HR1.out x5_1 p331 q331
     cases e331
     replace p331 := eq_true p331
     replace q331 := eq_true q331
     have p332 : 0 ≤ (x5_1 : Int) := uO
     have q332 : x5_1 < (l0.length : Int) := uO
     obtain ⟨ad332, e332, hx332_0⟩ := Kd.at_int HR0.out x5_1 p332 q332
     obtain rfl : ad330 = ad332 := (by injection e332)
     replace p332 := eq_true p332
     replace q332 := eq_true q332
     have p333 : 0 ≤ (x5_1 : Int) := uO
     have q333 : x5_1 < (l1.length : Int) := uO
     obtain ⟨ad333, e333, hx333_0⟩ := Kd.at_int HR1.out x5_1 p333 q333
     obtain rfl : ad331 = ad333 := (by injection e333)
     replace p333 := eq_true p333
     replace q333 := eq_true q333
     go_wp2
     repeat (go_quiet (fail); try go_wp2)
     go_roundg k1
     case measure => have := HK1.out; omega
     case rel => exact ⟨(wrap64 (x5_1 - 1)), uG, H', ⟨by have := HK1.out; omega⟩, by repeat (first | exact Drawn0.refl _ | apply Drawn0.step)⟩
    rw [if_neg c4] at H
    have c4b0 : decide (0 ≤ x5_1) = false := decide_eq_false c4
    clear c4
    obtain rfl := Option.some.inj H
    go_wp2
    repeat (go_quiet (fail); try go_wp2)
    go_ret
    exact ⟨by first | rfl | (simp; done) | (simp [*]; done), by repeat (first | exact Drawn0.refl _ | apply Drawn0.step)⟩
 rw [if_neg c3] at H
 have c3b0 : ((l0.length : Int) == (l1.length : Int)) = false := beq_eq_false_iff_ne.mpr c3
 have c3b1 : ((l0.length : Int) != (l1.length : Int)) = true := bne_iff_ne.mpr c3
 have c3b2 : (l0.length == l1.length) = false := by first | simpa using c3 | (simp at c3 ⊢; omega)
 by_cases c10 : (l0.length : Int) < (l1.length : Int)
 ·
  rw [if_pos c10] at H
  have c10b0 : decide ((l0.length : Int) < (l1.length : Int)) = true := decide_eq_true c10
  have c10b1 : decide (l0.length < l1.length) = true := decide_eq_true (Int.ofNat_lt.mp c10)
  clear c10
  obtain rfl := Option.some.inj H
  go_enter Try.func110, Try.ntmps110
  go_wp2
  repeat (go_quiet (fail); try go_wp2)
  go_ret
  exact ⟨by first | rfl | (simp; done) | (simp [*]; done), by repeat (first | exact Drawn0.refl _ | apply Drawn0.step)⟩
 rw [if_neg c10] at H
 have c10b0 : decide ((l0.length : Int) < (l1.length : Int)) = false := decide_eq_false c10
 have c10b1 : decide (l0.length < l1.length) = false := decide_eq_false (fun h => c10 (Int.ofNat_lt.mpr h))
 clear c10
 obtain rfl := Option.some.inj H
 go_enter Try.func110, Try.ntmps110
 go_wp2
 repeat (go_quiet (fail); try go_wp2)
 go_ret
 exact ⟨by first | rfl | (simp; done) | (simp [*]; done), by repeat (first | exact Drawn0.refl _ | apply Drawn0.step)⟩
def windbreakref01_Of.f (a0 : Int) : Option (List Int) := if a0 = 0 then (some ([] : List Int)) else (some (([a0] : List Int)))
set_option maxHeartbeats 8000000 in
set_option maxRecDepth 100000 in
theorem windbreakref01_Of.calls (a0 : Int) (r : List Int) (w : World) (h : windbreakref01_Of.f a0 = some r) :
  Calls Try.prog 94 #[.int .u64 a0] w fun e w' => ∃ v0_ : Value, e = .returned (v0_) ∧ Kd.R (Kd.int .u64) 27 w' w.heap.size (fun _ => True) v0_ r ∧ Below w.heap.size w w' := by
 have HB := Aside0.mk (Below.refl w.heap.size w)
 have H : (if a0 = 0 then (some ([] : List Int)) else (some (([a0] : List Int)))) = some r := h
 clear h
 by_cases c2 : a0 = 0
 ·
  rw [if_pos c2] at H
  have c2b0 : (a0 == 0) = true := beq_iff_eq.mpr c2
  have c2b1 : (a0 != 0) = false := bne_eq_false_iff_eq.mpr c2
  clear c2
  obtain rfl := Option.some.inj H
  go_enter Try.func94, Try.ntmps94
  go_wp2
  go_ret
  exact ⟨_, uF, uI, uB⟩
 rw [if_neg c2] at H
 have c2b0 : (a0 == 0) = false := beq_eq_false_iff_ne.mpr c2
 have c2b1 : (a0 != 0) = true := bne_iff_ne.mpr c2
 obtain ⟨y567, hy567⟩ : ∃ y_ : List Int, y_ = (([a0] : List Int)) := ⟨_, rfl⟩
 replace H : (some y567) = some r := by first | (rw [hy567]; with_reducible exact H) | (have H2_ := (Option.bind_some _ _).symm.trans H; rw [hy567]; with_reducible exact H2_) | (have H2_ := (Option.bind_some _ _).symm.trans H; with_reducible exact H2_) | with_reducible exact H | (rw [hy567]; exact H) | exact H
 have Ny567 := Aside0.mk hy567; clear hy567
 obtain rfl := Option.some.inj H
 go_enter Try.func94, Try.ntmps94
 go_wp2_with (first | ((with_reducible refine gate_dst (N := 6) rfl ?_); refine Kd.R_lit (Kd.int .u64) _ 27 ?hg (N := 6) ?hd (xs := ([a0] : List Int)) (inner := [.int .u64 a0]) (ok := fun _ => True) (okp := fun _ => True) ?hr ?hp (fun _ hk => hk) trivial (Below.refl _ _) (Nat.le_refl _) (by simp) ?_; (case hd => rfl); (case hg => rfl); (case hr => first | (go_simp; done) | (go_simp; rfl) | (go_simp; simp only [u64_u8]; done) | (go_simp; simp only [u64_u8]; rfl)); (case hp => exact (Reps.one (show Kd.M (Kd.int .u64) _ _ _ a0 [.int .u64 a0] from rfl) (Reps.none _ _))); intro v568 w3 ho4 hb hg_ hnew_; clear hg_ hnew_; (first | rw [← Ny567.out] at ho4 | (simp only [Int.reduceToNat] at ho4; rw [← Ny567.out] at ho4)); have HO569 := Aside0.mk (Kd.R_lower ho4 (below_size uB)); replace HB := uy hb; clear hb ho4))
 go_ret
 exact ⟨_, uF, uR HO569.out, uB⟩
def windbreakref03_Right.f (a0_0 : Bool) (l0_1 : List Int) : Option (Bool) := (windbreakref01_Right.f l0_1).bind fun t782 => (if t782 = true then (if a0_0 = true then (some (decide ((l0_1.length : Int) > 0))) else (some true)) else (some false))
set_option maxHeartbeats 8000000 in
set_option maxRecDepth 100000 in
theorem windbreakref03_Right.calls (a0_0 : Bool) (A0_1 : Option Addr) (c0_1 : Nat) (l0_1 : List Int) (r : Bool) (w : World) (hr0_1 : Kd.C (Kd.int .u64) w A0_1 l0_1.length l0_1) (hc0_1 : l0_1.length ≤ c0_1) (h : windbreakref03_Right.f a0_0 l0_1 = some r) :
  Calls Try.prog 103 #[.agg #[.bool a0_0, .slice A0_1 l0_1.length c0_1]] w fun e w' => e = .returned (.bool r) ∧ Below w.heap.size w w' := by
 have hu52 := Try.underlying52
 have HR0_1 := Aside0.mk hr0_1; have HC0_1 := Aside0.mk hc0_1; clear hr0_1 hc0_1
 have HB := Aside0.mk (Below.refl w.heap.size w)
 have H : ((windbreakref01_Right.f l0_1).bind fun t782 => (if t782 = true then (if a0_0 = true then (some (decide ((l0_1.length : Int) > 0))) else (some true)) else (some false))) = some r := h
 clear h
 replace H := ub H; obtain ⟨t782, A2, H⟩ := H
 by_cases c3 : t782 = true
 ·
  subst c3
  have H1 : (if a0_0 = true then (some (decide ((l0_1.length : Int) > 0))) else (some true)) = some r := by rw [if_pos rfl] at H; exact H
  clear H; have H := H1; clear H1
  by_cases c4 : a0_0 = true
  ·
   subst c4
   have H1 : (some (decide ((l0_1.length : Int) > 0))) = some r := by rw [if_pos rfl] at H; exact H
   clear H; have H := H1; clear H1
   obtain rfl := Option.some.inj H
   go_enter Try.func103, Try.ntmps103
   go_wp2_with (first | ((with_reducible refine gate_dst (N := 1) rfl ?_); (try (refine gate_guard (by rfl) ?_; dsimp only)); refine box_event ?hg (N := 1) ?hd (cs := #[.bool true, .slice A0_1 l0_1.length c0_1]) (t := 52) ?hr ?_; (case hd => rfl); (case hg => rfl); (case hr => first | (go_simp; done) | (go_simp; rfl)); intro gb781 hg w5 hbox hb; have BK781 := Aside0.mk (hbox); have GW781 := us hg; have GE781 := us hg; replace HB := uy hb; clear hb hbox hg; have hcz6_0 : w5.cell? ⟨gb781, 0, none⟩ = some (.bool true) := (blk_cell BK781.out 0).trans rfl; have hcz6_1 : w5.cell? ⟨gb781, 1, none⟩ = some (.slice A0_1 l0_1.length c0_1) := (blk_cell BK781.out 1).trans rfl; have hfz6_0 := blk_frozen BK781.out 0; have hfz6_1 := blk_frozen BK781.out 1) | ((with_reducible refine gate_callee (f := 50) rfl ?_); refine goesL_ (some 6) rfl rfl Try.func50 (by kernel_rfl) rfl #[.slice A0_1 l0_1.length c0_1] rfl uM ?_; (with_reducible refine (windbreakref01_Right.calls _ _ l0_1 true _ ?side1 ?side2 A2.out).mono ?_); (case side1 => exact uC (Kd.C_below HR0_1.out HB.out)); (case side2 => exact HC0_1.out); rintro e w' ⟨rfl, ⟨nd, rfl⟩⟩; refine ⟨_, rfl, ?_⟩))
   go_ret
   exact ⟨uF, uB⟩
  replace c4 := Bool.eq_false_iff.mpr c4
  subst c4
  have H1 : (some true) = some r := by rw [if_neg (show ¬ (false = true) by decide)] at H; exact H
  clear H; have H := H1; clear H1
  obtain rfl := Option.some.inj H
  go_enter Try.func103, Try.ntmps103
  go_wp2_with (first | ((with_reducible refine gate_dst (N := 1) rfl ?_); (try (refine gate_guard (by rfl) ?_; dsimp only)); refine box_event ?hg (N := 1) ?hd (cs := #[.bool false, .slice A0_1 l0_1.length c0_1]) (t := 52) ?hr ?_; (case hd => rfl); (case hg => rfl); (case hr => first | (go_simp; done) | (go_simp; rfl)); intro gb781 hg w7 hbox hb; have BK781 := Aside0.mk (hbox); have GW781 := us hg; have GE781 := us hg; replace HB := uy hb; clear hb hbox hg; have hcz8_0 : w7.cell? ⟨gb781, 0, none⟩ = some (.bool false) := (blk_cell BK781.out 0).trans rfl; have hcz8_1 : w7.cell? ⟨gb781, 1, none⟩ = some (.slice A0_1 l0_1.length c0_1) := (blk_cell BK781.out 1).trans rfl; have hfz8_0 := blk_frozen BK781.out 0; have hfz8_1 := blk_frozen BK781.out 1) | ((with_reducible refine gate_callee (f := 50) rfl ?_); refine goesL_ (some 6) rfl rfl Try.func50 (by kernel_rfl) rfl #[.slice A0_1 l0_1.length c0_1] rfl uM ?_; (with_reducible refine (windbreakref01_Right.calls _ _ l0_1 true _ ?side1 ?side2 A2.out).mono ?_); (case side1 => exact uC (Kd.C_below HR0_1.out HB.out)); (case side2 => exact HC0_1.out); rintro e w' ⟨rfl, ⟨nd, rfl⟩⟩; refine ⟨_, rfl, ?_⟩))
  go_ret
  exact ⟨uF, uB⟩
 replace c3 := Bool.eq_false_iff.mpr c3
 subst c3
 have H1 : (some false) = some r := by rw [if_neg (show ¬ (false = true) by decide)] at H; exact H
 clear H; have H := H1; clear H1
 obtain rfl := Option.some.inj H
 go_enter Try.func103, Try.ntmps103
 go_wp2_with (first | ((with_reducible refine gate_dst (N := 1) rfl ?_); (try (refine gate_guard (by rfl) ?_; dsimp only)); refine box_event ?hg (N := 1) ?hd (cs := #[.bool a0_0, .slice A0_1 l0_1.length c0_1]) (t := 52) ?hr ?_; (case hd => rfl); (case hg => rfl); (case hr => first | (go_simp; done) | (go_simp; rfl)); intro gb781 hg w9 hbox hb; have BK781 := Aside0.mk (hbox); have GW781 := us hg; have GE781 := us hg; replace HB := uy hb; clear hb hbox hg; have hcz10_0 : w9.cell? ⟨gb781, 0, none⟩ = some (.bool a0_0) := (blk_cell BK781.out 0).trans rfl; have hcz10_1 : w9.cell? ⟨gb781, 1, none⟩ = some (.slice A0_1 l0_1.length c0_1) := (blk_cell BK781.out 1).trans rfl; have hfz10_0 := blk_frozen BK781.out 0; have hfz10_1 := blk_frozen BK781.out 1) | ((with_reducible refine gate_callee (f := 50) rfl ?_); refine goesL_ (some 6) rfl rfl Try.func50 (by kernel_rfl) rfl #[.slice A0_1 l0_1.length c0_1] rfl uM ?_; (with_reducible refine (windbreakref01_Right.calls _ _ l0_1 false _ ?side1 ?side2 A2.out).mono ?_); (case side1 => exact uC (Kd.C_below HR0_1.out HB.out)); (case side2 => exact HC0_1.out); rintro e w' ⟨rfl, ⟨nd, rfl⟩⟩; refine ⟨_, rfl, ?_⟩))
 go_ret
 exact ⟨uF, uB⟩
def windbreakref03_From.f (a0 : Bool) (l1 : List Int) : Option (Bool × List Int) := (windbreakref01_Right.f l1).bind fun t790 => (if t790 = true then (if (l1.length : Int) = 0 then (some (false, ([] : List Int))) else ((some (([] : List Int) : List Int)).bind fun y791 => (if y791.length + l1.length < 17592186044416 then (some (a0, (y791 ++ l1))) else (none)))) else (some (false, ([] : List Int))))
set_option maxHeartbeats 8000000 in
set_option maxRecDepth 100000 in
theorem windbreakref03_From.calls (a0 : Bool) (A1 : Option Addr) (c1 : Nat) (l1 : List Int) (r1 : Bool) (r2 : List Int) (w : World) (hr1 : Kd.C (Kd.int .u64) w A1 l1.length l1) (hc1 : l1.length ≤ c1) (h : windbreakref03_From.f a0 l1 = some (r1, r2)) :
  Calls Try.prog 104 #[.bool a0, .slice A1 l1.length c1] w fun e w' => ∃ v1_ : Value, e = .returned (.agg #[.bool r1, v1_]) ∧ Kd.R (Kd.int .u64) 27 w' w.heap.size (fun _ => True) v1_ r2 ∧ Below w.heap.size w w' := by
 have hu52 := Try.underlying52
 have HR1 := Aside0.mk hr1; have HC1 := Aside0.mk hc1; clear hr1 hc1
 have HB := Aside0.mk (Below.refl w.heap.size w)
 have H : ((windbreakref01_Right.f l1).bind fun t790 => (if t790 = true then (if (l1.length : Int) = 0 then (some (false, ([] : List Int))) else ((some (([] : List Int) : List Int)).bind fun y791 => (if y791.length + l1.length < 17592186044416 then (some (a0, (y791 ++ l1))) else (none)))) else (some (false, ([] : List Int))))) = some (r1, r2) := h
 clear h
 replace H := ub H; obtain ⟨t790, A3, H⟩ := H
 by_cases c4 : t790 = true
 ·
  subst c4
  have H1 : (if (l1.length : Int) = 0 then (some (false, ([] : List Int))) else ((some (([] : List Int) : List Int)).bind fun y791 => (if y791.length + l1.length < 17592186044416 then (some (a0, (y791 ++ l1))) else (none)))) = some (r1, r2) := by rw [if_pos rfl] at H; exact H
  clear H; have H := H1; clear H1
  by_cases c5 : (l1.length : Int) = 0
  ·
   rw [if_pos c5] at H
   have c5b0 : ((l1.length : Int) == 0) = true := beq_iff_eq.mpr c5
   have c5b1 : ((l1.length : Int) != 0) = false := bne_eq_false_iff_eq.mpr c5
   clear c5
   simp only [Option.some.injEq, Prod.mk.injEq] at H
   obtain ⟨rfl, rfl⟩ := H
   go_enter Try.func104, Try.ntmps104
   go_wp2_with (first | ((with_reducible refine gate_dst (N := 4) rfl ?_); (try (refine gate_guard (by rfl) ?_; dsimp only)); refine box_event ?hg (N := 4) ?hd (cs := #[.bool false, .slice none 0 0]) (t := 52) ?hr ?_; (case hd => rfl); (case hg => rfl); (case hr => first | (go_simp; done) | (go_simp; rfl)); intro gb789 hg w6 hbox hb; have BK789 := Aside0.mk (hbox); have GW789 := us hg; have GE789 := us hg; replace HB := uy hb; clear hb hbox hg) | ((with_reducible refine gate_callee (f := 50) rfl ?_); refine goesL_ (some 7) rfl rfl Try.func50 (by kernel_rfl) rfl #[.slice A1 l1.length c1] rfl uM ?_; (with_reducible refine (windbreakref01_Right.calls _ _ l1 true _ ?side1 ?side2 A3.out).mono ?_); (case side1 => exact uC (Kd.C_below HR1.out HB.out)); (case side2 => exact HC1.out); rintro e w' ⟨rfl, ⟨nd, rfl⟩⟩; refine ⟨_, rfl, ?_⟩; (try (rw [drewN_self w6]; generalize hq_ : World.drewN w6 _ = w6; replace BK789 : Aside0 (w6.heap[gb789]? = some (.cells #[.bool false, .slice none 0 0] 52 (0, 0))) := ⟨by rw [← hq_]; exact (uK BK789.out)⟩; replace HB : Aside0 (Below w.heap.size w w6) := ⟨by rw [← hq_]; exact uB⟩; clear hq_)); have hcz7_0 : w6.cell? ⟨gb789, 0, none⟩ = some (.bool false) := (blk_cell BK789.out 0).trans rfl; have hcz7_1 : w6.cell? ⟨gb789, 1, none⟩ = some (.slice none 0 0) := (blk_cell BK789.out 1).trans rfl; have hfz7_0 := blk_frozen BK789.out 0; have hfz7_1 := blk_frozen BK789.out 1))
   refine bodyPost_ret (results_cell_row rfl _ _ gb789 52 #[.bool false, .slice none 0 0] (0, 0) _ rfl (by (with_reducible repeat (first | refine blk_drewN ?_ _ | refine blk_drew ?_ | refine blk_alloc ?_ _)); refine blk_put (cs := #[.bool false, .slice none 0 0]) ?_ 1 _ rfl; (with_reducible repeat (first | refine blk_drewN ?_ _ | refine blk_drew ?_ | refine blk_alloc ?_ _)); refine blk_put (cs := #[.bool false, .slice none 0 0]) ?_ 0 _ rfl; (with_reducible repeat (first | refine blk_drewN ?_ _ | refine blk_drew ?_ | refine blk_alloc ?_ _)); exact BK789.out) Try.underlying52 rfl (by kernel_rfl)) rfl ?_
   exact ⟨_, uF, uI, uB⟩
  rw [if_neg c5] at H
  have c5b0 : ((l1.length : Int) == 0) = false := beq_eq_false_iff_ne.mpr c5
  have c5b1 : ((l1.length : Int) != 0) = true := bne_iff_ne.mpr c5
  have c5b2 : ¬ (l1 = []) := fun h_ => c5 (by rw [h_]; rfl)
  obtain ⟨y791, hy791⟩ : ∃ y_ : List Int, y_ = (([] : List Int)) := ⟨_, rfl⟩
  replace H : (if y791.length + l1.length < 17592186044416 then (some (a0, (y791 ++ l1))) else (none)) = some (r1, r2) := by first | (rw [hy791]; with_reducible exact H) | (have H2_ := (Option.bind_some _ _).symm.trans H; rw [hy791]; with_reducible exact H2_) | (have H2_ := (Option.bind_some _ _).symm.trans H; with_reducible exact H2_) | with_reducible exact H | (rw [hy791]; exact H) | exact H
  have Ny791 := Aside0.mk hy791; clear hy791
  replace H := uT H; obtain ⟨c8, H⟩ := H
  have LMc8 := Aside0.mk c8; clear c8
  obtain ⟨y794, hy794⟩ : ∃ y_ : List Int, y_ = (y791 ++ l1) := ⟨_, rfl⟩
  replace H : (some (a0, y794)) = some (r1, r2) := by first | (rw [hy794]; with_reducible exact H) | (have H2_ := (Option.bind_some _ _).symm.trans H; rw [hy794]; with_reducible exact H2_) | (have H2_ := (Option.bind_some _ _).symm.trans H; with_reducible exact H2_) | with_reducible exact H | (rw [hy794]; exact H) | exact H
  have Ny794 := Aside0.mk hy794; clear hy794
  simp only [Option.some.injEq, Prod.mk.injEq] at H
  obtain ⟨rfl, rfl⟩ := H
  go_enter Try.func104, Try.ntmps104
  go_wp2_with (first | ((with_reducible refine gate_dst (N := 4) rfl ?_); (try (refine gate_guard (by rfl) ?_; dsimp only)); refine box_event ?hg (N := 4) ?hd (cs := #[.bool false, .slice none 0 0]) (t := 52) ?hr ?_; (case hd => rfl); (case hg => rfl); (case hr => first | (go_simp; done) | (go_simp; rfl)); intro gb789 hg w9 hbox hb; have BK789 := Aside0.mk (hbox); have GW789 := us hg; have GE789 := us hg; replace HB := uy hb; clear hb hbox hg) | ((with_reducible refine gate_callee (f := 50) rfl ?_); refine goesL_ (some 7) rfl rfl Try.func50 (by kernel_rfl) rfl #[.slice A1 l1.length c1] rfl uM ?_; (with_reducible refine (windbreakref01_Right.calls _ _ l1 true _ ?side1 ?side2 A3.out).mono ?_); (case side1 => exact uC (Kd.C_below HR1.out HB.out)); (case side2 => exact HC1.out); rintro e w' ⟨rfl, ⟨nd, rfl⟩⟩; refine ⟨_, rfl, ?_⟩; (try (rw [drewN_self w9]; generalize hq_ : World.drewN w9 _ = w9; replace BK789 : Aside0 (w9.heap[gb789]? = some (.cells #[.bool false, .slice none 0 0] 52 (0, 0))) := ⟨by rw [← hq_]; exact (uK BK789.out)⟩; replace HB : Aside0 (Below w.heap.size w w9) := ⟨by rw [← hq_]; exact uB⟩; clear hq_))) | ((with_reducible refine gate_dst (N := 17) rfl ?_); (try (refine gate_guard (by rfl) ?_; dsimp only)); refine Kd.R_lit (Kd.int .u64) _ 27 ?hg (N := 17) ?hd (xs := ([] : List Int)) (inner := []) (ok := fun _ => True) (okp := fun _ => True) ?hr ?hp (fun _ hk => hk) trivial (Below.refl _ _) (Nat.le_refl _) (by simp) ?_; (case hd => rfl); (case hg => rfl); (case hr => first | (go_simp; done) | (go_simp; rfl) | (go_simp; simp only [u64_u8]; done) | (go_simp; simp only [u64_u8]; rfl)); (case hp => exact (Reps.none _ _)); intro v792 w10 ho11 hb hg_ hnew_; clear hg_ hnew_; (first | rw [← Ny791.out] at ho11 | (simp only [Int.reduceToNat] at ho11; rw [← Ny791.out] at ho11)); have HO793 := Aside0.mk (Kd.R_lower ho11 (below_size uB)); replace BK789 := ux BK789 hb; replace HB := uy hb; clear hb ho11) | ((with_reducible refine gate_builtin (b := .append) (xs := #[.tmp 17, .tmp 18]) rfl ?_); (try (refine gate_guard (by rfl) ?_; dsimp only)); at_builtin; refine Kd.R_append_rows (Kd.int .u64) (w0 := w) w.heap.size rfl (.tmp 17) (.tmp 18) 23 27 (.int .u64 0) 8 rfl Try.underlying23 info27 rfl (by decide) (by omega) v792 y791 l1 _ _ _ (fun _ => True) (fun _ => False) rfl rfl ?aO ?aR (fun _ _ h => h) (fun _ h => h.elim) ?aF ?aB ?aS ?aL ?_; (case aR => exact uC (Kd.C_below HR1.out HB.out)); (case aB => exact uB); (case aF => exact (fun _ _ => trivial)); (case aO => exact (uR HO793.out)); (case aS => exact (below_size uB)); (case aL => have := LMc8.out; omega); intro v795 w12 ho hb hg hat; rw [← Ny794.out] at ho; replace BK789 := Aside0.mk (blk_grown (g := gb789) (o := .cells #[.bool false, .slice none 0 0] 52 (0, 0)) (uK BK789.out) hg (Kd.R_ne HO793.out BK789.out (by decide))); replace HB := Aside0.mk (hb); have HO796 := Aside0.mk (ho); clear HO793; clear ho hb hg hat; obtain ⟨Ao13, co13, eo13⟩ := Kd.R_slice HO796.out; subst eo13; have hcz14_0 : w12.cell? ⟨gb789, 0, none⟩ = some (.bool false) := (blk_cell BK789.out 0).trans rfl; have hcz14_1 : w12.cell? ⟨gb789, 1, none⟩ = some (.slice none 0 0) := (blk_cell BK789.out 1).trans rfl; have hfz14_0 := blk_frozen BK789.out 0; have hfz14_1 := blk_frozen BK789.out 1))
  refine bodyPost_ret (results_cell_row rfl _ _ gb789 52 #[.bool a0, .slice Ao13 y794.length co13] (0, 0) _ rfl (by (with_reducible repeat (first | refine blk_drewN ?_ _ | refine blk_drew ?_ | refine blk_alloc ?_ _)); refine blk_put (cs := #[.bool a0, .slice none 0 0]) ?_ 1 _ rfl; (with_reducible repeat (first | refine blk_drewN ?_ _ | refine blk_drew ?_ | refine blk_alloc ?_ _)); refine blk_put (cs := #[.bool false, .slice none 0 0]) ?_ 0 _ rfl; (with_reducible repeat (first | refine blk_drewN ?_ _ | refine blk_drew ?_ | refine blk_alloc ?_ _)); exact BK789.out) Try.underlying52 rfl (by kernel_rfl)) rfl ?_
  exact ⟨_, uF, by (with_reducible repeat (first | apply Kd.R_alloc | apply Kd.R_drewN | apply Kd.R_drew)); exact Kd.R_mono (Kd.R_far (p := ⟨gb789, 1, none⟩) (Kd.R_far (p := ⟨gb789, 0, none⟩) (Kd.R_types HO796.out BK789.out (by decide)) (fun _ hk => hk.2) (.bool a0)) (fun _ hk => hk.2) (.slice Ao13 y794.length co13)) (fun _ hk => trivial), uB⟩
 replace c4 := Bool.eq_false_iff.mpr c4
 subst c4
 have H1 : (some (false, ([] : List Int))) = some (r1, r2) := by rw [if_neg (show ¬ (false = true) by decide)] at H; exact H
 clear H; have H := H1; clear H1
 simp only [Option.some.injEq, Prod.mk.injEq] at H
 obtain ⟨rfl, rfl⟩ := H
 go_enter Try.func104, Try.ntmps104
 go_wp2_with (first | ((with_reducible refine gate_dst (N := 4) rfl ?_); (try (refine gate_guard (by rfl) ?_; dsimp only)); refine box_event ?hg (N := 4) ?hd (cs := #[.bool false, .slice none 0 0]) (t := 52) ?hr ?_; (case hd => rfl); (case hg => rfl); (case hr => first | (go_simp; done) | (go_simp; rfl)); intro gb789 hg w15 hbox hb; have BK789 := Aside0.mk (hbox); have GW789 := us hg; have GE789 := us hg; replace HB := uy hb; clear hb hbox hg) | ((with_reducible refine gate_callee (f := 50) rfl ?_); refine goesL_ (some 7) rfl rfl Try.func50 (by kernel_rfl) rfl #[.slice A1 l1.length c1] rfl uM ?_; (with_reducible refine (windbreakref01_Right.calls _ _ l1 false _ ?side1 ?side2 A3.out).mono ?_); (case side1 => exact uC (Kd.C_below HR1.out HB.out)); (case side2 => exact HC1.out); rintro e w' ⟨rfl, ⟨nd, rfl⟩⟩; refine ⟨_, rfl, ?_⟩; (try (rw [drewN_self w15]; generalize hq_ : World.drewN w15 _ = w15; replace BK789 : Aside0 (w15.heap[gb789]? = some (.cells #[.bool false, .slice none 0 0] 52 (0, 0))) := ⟨by rw [← hq_]; exact (uK BK789.out)⟩; replace HB : Aside0 (Below w.heap.size w w15) := ⟨by rw [← hq_]; exact uB⟩; clear hq_)); have hcz16_0 : w15.cell? ⟨gb789, 0, none⟩ = some (.bool false) := (blk_cell BK789.out 0).trans rfl; have hcz16_1 : w15.cell? ⟨gb789, 1, none⟩ = some (.slice none 0 0) := (blk_cell BK789.out 1).trans rfl; have hfz16_0 := blk_frozen BK789.out 0; have hfz16_1 := blk_frozen BK789.out 1))
 refine bodyPost_ret (results_cell_row rfl _ _ gb789 52 #[.bool false, .slice none 0 0] (0, 0) _ rfl (by (with_reducible repeat (first | refine blk_drewN ?_ _ | refine blk_drew ?_ | refine blk_alloc ?_ _)); refine blk_put (cs := #[.bool false, .slice none 0 0]) ?_ 1 _ rfl; (with_reducible repeat (first | refine blk_drewN ?_ _ | refine blk_drew ?_ | refine blk_alloc ?_ _)); refine blk_put (cs := #[.bool false, .slice none 0 0]) ?_ 0 _ rfl; (with_reducible repeat (first | refine blk_drewN ?_ _ | refine blk_drew ?_ | refine blk_alloc ?_ _)); exact BK789.out) Try.underlying52 rfl (by kernel_rfl)) rfl ?_
 exact ⟨_, uF, uI, uB⟩
def windbreakref03_Of.f (a0 : Int) : Option (Bool × List Int) := if a0 < 0 then ((windbreakref01_Of.f (IntKind.u64.wrap ((IntKind.u64.wrap (wrap64 (-(wrap64 (a0 + 1))))) + 1))).bind fun t798 => ((windbreakref03_From.f true t798).bind fun bt801 => (some (bt801.1, bt801.2)))) else ((windbreakref01_Of.f (IntKind.u64.wrap (a0))).bind fun t805 => ((windbreakref03_From.f false t805).bind fun bt808 => (some (bt808.1, bt808.2))))
set_option maxHeartbeats 8000000 in
set_option maxRecDepth 100000 in
theorem windbreakref03_Of.calls (a0 : Int) (r1 : Bool) (r2 : List Int) (w : World) (h : windbreakref03_Of.f a0 = some (r1, r2)) :
  Calls Try.prog 61 #[.int .i64 a0] w fun e w' => ∃ v1_ : Value, e = .returned (.agg #[.bool r1, v1_]) ∧ Kd.R (Kd.int .u64) 27 w' w.heap.size (fun _ => True) v1_ r2 ∧ Below w.heap.size w w' := by
 have hu52 := Try.underlying52
 have HB := Aside0.mk (Below.refl w.heap.size w)
 have H : (if a0 < 0 then ((windbreakref01_Of.f (IntKind.u64.wrap ((IntKind.u64.wrap (wrap64 (-(wrap64 (a0 + 1))))) + 1))).bind fun t798 => ((windbreakref03_From.f true t798).bind fun bt801 => (some (bt801.1, bt801.2)))) else ((windbreakref01_Of.f (IntKind.u64.wrap (a0))).bind fun t805 => ((windbreakref03_From.f false t805).bind fun bt808 => (some (bt808.1, bt808.2))))) = some (r1, r2) := h
 clear h
 by_cases c2 : a0 < 0
 ·
  rw [if_pos c2] at H
  have c2b0 : decide (a0 < 0) = true := decide_eq_true c2
  clear c2
  replace H := ub H; obtain ⟨t798, A3, H⟩ := H
  replace H := ub H; obtain ⟨⟨t801, t802⟩, A4, H⟩ := H
  (try dsimp only at H)
  simp only [Option.some.injEq, Prod.mk.injEq] at H
  obtain ⟨rfl, rfl⟩ := H
  go_enter Try.func61, Try.ntmps61
  go_wp2_with (first | ((with_reducible refine gate_dst (N := 2) rfl ?_); refine box_event ?hg (N := 2) ?hd (cs := #[.bool false, .slice none 0 0]) (t := 52) ?hr ?_; (case hd => rfl); (case hg => rfl); (case hr => first | (go_simp; done) | (go_simp; rfl)); intro gb797 hg w5 hbox hb; have BK797 := Aside0.mk (hbox); have GW797 := us hg; have GE797 := us hg; replace HB := uy hb; clear hb hbox hg) | ((with_reducible refine gate_callee (f := 94) rfl ?_); refine goesL_ (some 10) rfl rfl Try.func94 (by kernel_rfl) rfl #[.int .u64 (IntKind.u64.wrap ((IntKind.u64.wrap (wrap64 (-(wrap64 (a0 + 1))))) + 1))] rfl uM ?_; (with_reducible refine (windbreakref01_Of.calls (IntKind.u64.wrap ((IntKind.u64.wrap (wrap64 (-(wrap64 (a0 + 1))))) + 1)) t798 _ A3.out).mono ?_); rintro e w6 ⟨v799, rfl, ho0, hb⟩; refine ⟨_, rfl, ?_⟩; have HO800 := Aside0.mk (Kd.R_lower ho0 (below_size uB)); replace BK797 := ux BK797 hb; replace HB := uy hb; (try clear hb ho0); obtain ⟨Ao7, co7, eo7⟩ := Kd.R_slice HO800.out; subst eo7) | ((with_reducible refine gate_callee (f := 104) rfl ?_); refine goesL_ (some 11) rfl rfl Try.func104 (by kernel_rfl) rfl #[.bool true, .slice Ao7 t798.length co7] rfl uM ?_; (with_reducible refine (windbreakref03_From.calls true _ _ t798 t801 t802 _ ?side1 ?side2 A4.out).mono ?_); (case side1 => exact uC (Kd.R_reads' HO800.out).2.2); (case side2 => exact (Kd.R_reads' HO800.out).2.1); rintro e w8 ⟨v803, rfl, ho0, hb⟩; refine ⟨_, rfl, ?_⟩; have HO804 := Aside0.mk (Kd.R_lower (Kd.R_new' ho0 (Kd.R_lt (uR HO800.out))) (below_size uB)); replace HO800 := ueR HO800 ho0 hb; replace BK797 := ux BK797 hb; replace HB := uy hb; (try clear hb ho0); have hcz9_0 : w8.cell? ⟨gb797, 0, none⟩ = some (.bool false) := (blk_cell BK797.out 0).trans rfl; have hcz9_1 : w8.cell? ⟨gb797, 1, none⟩ = some (.slice none 0 0) := (blk_cell BK797.out 1).trans rfl; have hfz9_0 := blk_frozen BK797.out 0; have hfz9_1 := blk_frozen BK797.out 1; obtain ⟨Ao10, co10, eo10⟩ := Kd.R_slice HO804.out; subst eo10))
  refine bodyPost_ret (results_cell_row rfl _ _ gb797 52 #[.bool t801, .slice Ao10 t802.length co10] (0, 0) _ rfl (by (with_reducible repeat (first | refine blk_drewN ?_ _ | refine blk_drew ?_ | refine blk_alloc ?_ _)); refine blk_put (cs := #[.bool t801, .slice none 0 0]) ?_ 1 _ rfl; (with_reducible repeat (first | refine blk_drewN ?_ _ | refine blk_drew ?_ | refine blk_alloc ?_ _)); refine blk_put (cs := #[.bool false, .slice none 0 0]) ?_ 0 _ rfl; (with_reducible repeat (first | refine blk_drewN ?_ _ | refine blk_drew ?_ | refine blk_alloc ?_ _)); exact BK797.out) Try.underlying52 rfl (by kernel_rfl)) rfl ?_
  exact ⟨_, uF, by (with_reducible repeat (first | apply Kd.R_alloc | apply Kd.R_drewN | apply Kd.R_drew)); exact Kd.R_mono (Kd.R_far (p := ⟨gb797, 1, none⟩) (Kd.R_far (p := ⟨gb797, 0, none⟩) (Kd.R_types HO804.out BK797.out (by decide)) (fun _ hk => hk.2) (.bool t801)) (fun _ hk => hk.2) (.slice Ao10 t802.length co10)) (fun _ hk => trivial), uB⟩
 rw [if_neg c2] at H
 have c2b0 : decide (a0 < 0) = false := decide_eq_false c2
 clear c2
 replace H := ub H; obtain ⟨t805, A11, H⟩ := H
 replace H := ub H; obtain ⟨⟨t808, t809⟩, A12, H⟩ := H
 (try dsimp only at H)
 simp only [Option.some.injEq, Prod.mk.injEq] at H
 obtain ⟨rfl, rfl⟩ := H
 go_enter Try.func61, Try.ntmps61
 go_wp2_with (first | ((with_reducible refine gate_dst (N := 2) rfl ?_); refine box_event ?hg (N := 2) ?hd (cs := #[.bool false, .slice none 0 0]) (t := 52) ?hr ?_; (case hd => rfl); (case hg => rfl); (case hr => first | (go_simp; done) | (go_simp; rfl)); intro gb797 hg w13 hbox hb; have BK797 := Aside0.mk (hbox); have GW797 := us hg; have GE797 := us hg; replace HB := uy hb; clear hb hbox hg) | ((with_reducible refine gate_callee (f := 94) rfl ?_); refine goesL_ (some 14) rfl rfl Try.func94 (by kernel_rfl) rfl #[.int .u64 (IntKind.u64.wrap (a0))] rfl uM ?_; (with_reducible refine (windbreakref01_Of.calls (IntKind.u64.wrap (a0)) t805 _ A11.out).mono ?_); rintro e w14 ⟨v806, rfl, ho0, hb⟩; refine ⟨_, rfl, ?_⟩; have HO807 := Aside0.mk (Kd.R_lower ho0 (below_size uB)); replace BK797 := ux BK797 hb; replace HB := uy hb; (try clear hb ho0); obtain ⟨Ao15, co15, eo15⟩ := Kd.R_slice HO807.out; subst eo15) | ((with_reducible refine gate_callee (f := 104) rfl ?_); refine goesL_ (some 15) rfl rfl Try.func104 (by kernel_rfl) rfl #[.bool false, .slice Ao15 t805.length co15] rfl uM ?_; (with_reducible refine (windbreakref03_From.calls false _ _ t805 t808 t809 _ ?side1 ?side2 A12.out).mono ?_); (case side1 => exact uC (Kd.R_reads' HO807.out).2.2); (case side2 => exact (Kd.R_reads' HO807.out).2.1); rintro e w16 ⟨v810, rfl, ho0, hb⟩; refine ⟨_, rfl, ?_⟩; have HO811 := Aside0.mk (Kd.R_lower (Kd.R_new' ho0 (Kd.R_lt (uR HO807.out))) (below_size uB)); replace HO807 := ueR HO807 ho0 hb; replace BK797 := ux BK797 hb; replace HB := uy hb; (try clear hb ho0); have hcz17_0 : w16.cell? ⟨gb797, 0, none⟩ = some (.bool false) := (blk_cell BK797.out 0).trans rfl; have hcz17_1 : w16.cell? ⟨gb797, 1, none⟩ = some (.slice none 0 0) := (blk_cell BK797.out 1).trans rfl; have hfz17_0 := blk_frozen BK797.out 0; have hfz17_1 := blk_frozen BK797.out 1; obtain ⟨Ao18, co18, eo18⟩ := Kd.R_slice HO811.out; subst eo18))
 refine bodyPost_ret (results_cell_row rfl _ _ gb797 52 #[.bool t808, .slice Ao18 t809.length co18] (0, 0) _ rfl (by (with_reducible repeat (first | refine blk_drewN ?_ _ | refine blk_drew ?_ | refine blk_alloc ?_ _)); refine blk_put (cs := #[.bool t808, .slice none 0 0]) ?_ 1 _ rfl; (with_reducible repeat (first | refine blk_drewN ?_ _ | refine blk_drew ?_ | refine blk_alloc ?_ _)); refine blk_put (cs := #[.bool false, .slice none 0 0]) ?_ 0 _ rfl; (with_reducible repeat (first | refine blk_drewN ?_ _ | refine blk_drew ?_ | refine blk_alloc ?_ _)); exact BK797.out) Try.underlying52 rfl (by kernel_rfl)) rfl ?_
 exact ⟨_, uF, by (with_reducible repeat (first | apply Kd.R_alloc | apply Kd.R_drewN | apply Kd.R_drew)); exact Kd.R_mono (Kd.R_far (p := ⟨gb797, 1, none⟩) (Kd.R_far (p := ⟨gb797, 0, none⟩) (Kd.R_types HO811.out BK797.out (by decide)) (fun _ hk => hk.2) (.bool t808)) (fun _ hk => hk.2) (.slice Ao18 t809.length co18)) (fun _ hk => trivial), uB⟩
def windbreakref01_power.l0 : Nat → Int → List Int → Int → Option (List Int)
 | 0, _, _, _ => none
 | k + 1, x0, x3, x4 => if x4 < (Int.tmod x0 16) then (if 0 ≤ (wrap64 (Int.tdiv x0 16)) then (if (wrap64 (Int.tdiv x0 16)) < (x3.length : Int) then (windbreakref01_power.l0 k x0 (x3.set ((wrap64 (Int.tdiv x0 16)) : Int).toNat (IntKind.u64.wrap ((rd x3 (wrap64 (Int.tdiv x0 16))) * 2))) (wrap64 (x4 + 1))) else (none)) else (none)) else (some x3)
def windbreakref01_power.f (k : Nat) (a0 : Int) : Option (List Int) := if 0 ≤ (wrap64 ((wrap64 (Int.tdiv a0 16)) + 1)) then (if (wrap64 ((wrap64 (Int.tdiv a0 16)) + 1) : Int).toNat ≤ 35184372088832 then ((some (List.replicate (wrap64 ((wrap64 (Int.tdiv a0 16)) + 1) : Int).toNat 0 : List Int)).bind fun y380 => (if 0 ≤ (wrap64 (Int.tdiv a0 16)) then (if (wrap64 (Int.tdiv a0 16)) < (y380.length : Int) then (windbreakref01_power.l0 k a0 (y380.set ((wrap64 (Int.tdiv a0 16)) : Int).toNat 1) 0) else (none)) else (none))) else (none)) else (none)
set_option maxHeartbeats 8000000 in
set_option maxRecDepth 100000 in
theorem windbreakref01_power.calls (k : Nat) (a0 : Int) (r : List Int) (w : World) (h : windbreakref01_power.f k a0 = some r) :
  Calls Try.prog 92 #[.int .i64 a0] w fun e w' => ∃ v0_ : Value, e = .returned (v0_) ∧ Kd.R (Kd.int .u64) 27 w' w.heap.size (fun _ => True) v0_ r ∧ Below w.heap.size w w' := by
 have HB := Aside0.mk (Below.refl w.heap.size w)
 have H : (if 0 ≤ (wrap64 ((wrap64 (Int.tdiv a0 16)) + 1)) then (if (wrap64 ((wrap64 (Int.tdiv a0 16)) + 1) : Int).toNat ≤ 35184372088832 then ((some (List.replicate (wrap64 ((wrap64 (Int.tdiv a0 16)) + 1) : Int).toNat 0 : List Int)).bind fun y380 => (if 0 ≤ (wrap64 (Int.tdiv a0 16)) then (if (wrap64 (Int.tdiv a0 16)) < (y380.length : Int) then (windbreakref01_power.l0 k a0 (y380.set ((wrap64 (Int.tdiv a0 16)) : Int).toNat 1) 0) else (none)) else (none))) else (none)) else (none)) = some r := h
 clear h
 obtain ⟨ji2, hji2⟩ : ∃ j_ : Int, (wrap64 ((wrap64 (Int.tdiv a0 16)) + 1)) = j_ := ⟨_, rfl⟩
 first | rw [hji2] at H | simp only [hji2] at H
 have hji2w : (IntKind.i64.wrap ((wrap64 (Int.tdiv a0 16)) + 1)) = ji2 := (i64_w _).trans hji2
 replace H := uT H; obtain ⟨c3, H⟩ := H
 have c3b0 := eq_true c3
 have c3b1 : decide (0 ≤ (ji2)) = true := decide_eq_true c3
 clear c3
 replace H := uT H; obtain ⟨c4, H⟩ := H
 have c4b0 := eq_true c4
 have c4b1 : decide ((ji2 : Int).toNat ≤ 35184372088832) = true := decide_eq_true c4
 clear c4
 obtain ⟨y380, hy380⟩ : ∃ y_ : List Int, y_ = (List.replicate (ji2 : Int).toNat 0) := ⟨_, rfl⟩
 replace H : (if 0 ≤ (wrap64 (Int.tdiv a0 16)) then (if (wrap64 (Int.tdiv a0 16)) < (y380.length : Int) then (windbreakref01_power.l0 k a0 (y380.set ((wrap64 (Int.tdiv a0 16)) : Int).toNat 1) 0) else (none)) else (none)) = some r := by first | (rw [hy380]; with_reducible exact H) | (have H2_ := (Option.bind_some _ _).symm.trans H; rw [hy380]; with_reducible exact H2_) | (have H2_ := (Option.bind_some _ _).symm.trans H; with_reducible exact H2_) | with_reducible exact H | (rw [hy380]; exact H) | exact H
 have Ny380 := Aside0.mk hy380; clear hy380
 obtain ⟨ji5, hji5⟩ : ∃ j_ : Int, (wrap64 (Int.tdiv a0 16)) = j_ := ⟨_, rfl⟩
 first | rw [hji5] at H | simp only [hji5] at H
 have hji5w : (IntKind.i64.wrap (Int.tdiv a0 16)) = ji5 := (i64_w _).trans hji5
 (try simp only [hji5] at hji2)
 (try simp only [hji5] at hji2w)
 replace H := uT H; obtain ⟨c6, H⟩ := H
 have c6b0 : decide (0 ≤ (ji5)) = true := decide_eq_true c6
 clear c6
 replace H := uT H; obtain ⟨c7, H⟩ := H
 have c7b0 : decide ((ji5) < (y380.length : Int)) = true := decide_eq_true c7
 clear c7
 obtain ⟨y383, hy383⟩ : ∃ y_ : List Int, y_ = (y380.set ((ji5) : Int).toNat 1) := ⟨_, rfl⟩
 replace H : (windbreakref01_power.l0 k a0 y383 0) = some r := by first | (rw [hy383]; with_reducible exact H) | (have H2_ := (Option.bind_some _ _).symm.trans H; rw [hy383]; with_reducible exact H2_) | (have H2_ := (Option.bind_some _ _).symm.trans H; with_reducible exact H2_) | with_reducible exact H | (rw [hy383]; exact H) | exact H
 have Ny383 := Aside0.mk hy383; clear hy383
 have H' := Aside0.mk H
 clear H
 go_enter Try.func92, Try.ntmps92
 go_wp2_with (first | ((with_reducible refine gate_dst (N := 8) rfl ?_); refine Kd.R_make (Kd.int .u64) _ 27 rfl (N := 8) rfl 70 _ _ rfl ji2 rfl rfl Try.underlying70 (.int .u64 0) 8 info27 rfl (by decide) (by omega) 0 (ok := fun _ => True) (okp := fun _ => True) rfl (fun _ hk => hk) trivial uO (Nat.le_trans (Nat.mul_le_mul_right _ (uO : ji2.toNat ≤ 35184372088832)) (by omega)) (Below.refl _ _) (Nat.le_refl _) ?_; intro v381 w9 ho10 hb hg_ hnew_; clear hg_ hnew_; (first | rw [← Ny380.out] at ho10 | (simp only [Int.reduceToNat] at ho10; rw [← Ny380.out] at ho10)); have HO382 := Aside0.mk (Kd.R_lower ho10 (below_size uB)); replace HB := uy hb; clear hb ho10; have p8 : 0 ≤ ((ji5) : Int) := uO; have q8 : ((ji5) : Int) < ((y380.length : Int) : Int) := uO; obtain ⟨go8, co8, eo8, gb8, gl8, cl8, HG8⟩ := Kd.R_form HO382.out (by omega); (first | cases eo8 | (injection eo8 with ea_ en_ ec_; (first | subst ea_ | (injection ea_ with ea_; subst ea_)); subst ec_; clear en_)); have GB8 := Aside0.mk gb8; have GG8 := Aside0.mk HG8; clear gb8 gl8 HG8; obtain ⟨hx8_0, hf8_0⟩ := Kd.R_celln 0 HO382.out ((ji5) : Int) p8 q8; replace p8 := eq_true p8; replace q8 := eq_true q8; obtain ⟨hy11_, hz11_⟩ := Kd.R_celln 0 HO382.out ((ji5) : Int) uO uO; have HP11 := Kd.R_putg HO382.out ((ji5) : Int) 1) | ((with_reducible refine gate_store (t := 27) (p := 12) rfl ?_); refine store_event (t := 27) (p := 12) (v := ?vo_w12) (w1 := (w9.setCell ⟨go8, ((ji5) : Int).toNat, none⟩ (.int .u64 1))) ?hg ?ho ?hn ?hr ?_; (case ho => rfl); (case hg => rfl); (case hn => rfl); (case hr => first | (go_simp; done) | (go_simp; rfl) | (obtain ⟨hy_, hz_⟩ := Kd.R_celln 0 HO382.out ((ji5) : Int) uO uO; (try simp only [Go.IntWalk.toNatUp] at hy_ hz_); (try simp only [Int.reduceToNat, Int.toNat_zero, Int.toNat_ofNat] at hy_ hz_); first | (go_simp; done) | (go_simp; rfl))); intro w12 hw; have hg : w9.grownBy w12 (some go8) := (by rw [hw]; exact HP11.2); have hp_ : Kd.R (Kd.int .u64) 27 w12 w.heap.size (fun _ => True) (.slice (some ⟨go8, 0, none⟩) y380.length co8) y383 := (by rw [hw, Ny383.out]; exact HP11.1); clear HP11; replace HO382 := Aside0.mk (hp_); replace HB := Aside0.mk ((by rw [hw]; exact below_set (HB.out) GB8.out : Below w.heap.size w w12)); clear hg hw hp_))
 go_loopg [4] k (fun kq v4 w' => ∃ (x3_1 : List Int) (x4_1 : Int), v4 = .int .i64 x4_1 ∧ Aside0 (windbreakref01_power.l0 kq a0 x3_1 x4_1 = some r) ∧ Aside0 (kq ≤ k) ∧ Aside0 (Kd.R (Kd.int .u64) 27 w' w.heap.size (fun _ => True) (.slice (some ⟨go8, 0, none⟩) y380.length co8) x3_1) ∧ Aside0 (Below w.heap.size w w'))
 case atStart => exact ⟨(y383), (0), uG, H', ⟨Nat.le_refl _⟩, ⟨uR HO382.out⟩, ⟨uB⟩⟩
 case round =>
  clear H'
  (try clear p2); (try clear c3); (try clear c3b0); (try clear c3b1); (try clear c4); (try clear c4b0); (try clear c4b1); (try clear c6); (try clear c6b0); (try clear p6); (try clear c7); (try clear c7b0); (try clear p8 p8); (try clear q8 q8); (try clear hx8 hx8_0); (try clear hf8); (try clear c9)
  obtain ⟨x3_1, x4_1, rfl, HA, HK1, HO_3, HB⟩ := hrel
  have hl3_1 := (Kd.R_reads' HO_3.out).1
  rw [hl3_1] at HO_3
  (try simp only [hl3_1])
  cases gk with
  | zero => exact absurd HA.out (by simp [windbreakref01_power.l0])
  | succ k1 =>
   have H := HA.out
   clear HA
   simp only [windbreakref01_power.l0] at H
   by_cases c13 : x4_1 < (Int.tmod a0 16)
   ·
    rw [if_pos c13] at H
    have c13b0 : decide (x4_1 < (Int.tmod a0 16)) = true := decide_eq_true c13
    clear c13
    obtain ⟨ji14, hji14⟩ : ∃ j_ : Int, (wrap64 (Int.tdiv a0 16)) = j_ := ⟨_, rfl⟩
    first | rw [hji14] at H | simp only [hji14] at H
    have hji14w : (IntKind.i64.wrap (Int.tdiv a0 16)) = ji14 := (i64_w _).trans hji14
    (try simp only [hji14] at hji2)
    (try simp only [hji14] at hji2w)
    (try (have e_ : ji14 = ji5 := hji14.symm.trans hji5; subst e_))
    replace H := uT H; obtain ⟨c15, H⟩ := H
    have c15b0 : decide (0 ≤ (ji14)) = true := decide_eq_true c15
    clear c15
    replace H := uT H; obtain ⟨c16, H⟩ := H
    have c16b0 : decide ((ji14) < (x3_1.length : Int)) = true := decide_eq_true c16
    (try (have c16b0h0 := c16b0; simp only [hl3_1] at c16b0h0))
    clear c16
    obtain ⟨y385, hy385⟩ : ∃ y_ : List Int, y_ = (x3_1.set ((ji14) : Int).toNat (IntKind.u64.wrap ((rd x3_1 (ji14)) * 2))) := ⟨_, rfl⟩
    replace H : (windbreakref01_power.l0 k1 a0 y385 (wrap64 (x4_1 + 1))) = some r := by first | (rw [hy385]; with_reducible exact H) | (have H2_ := (Option.bind_some _ _).symm.trans H; rw [hy385]; with_reducible exact H2_) | (have H2_ := (Option.bind_some _ _).symm.trans H; with_reducible exact H2_) | with_reducible exact H | (rw [hy385]; exact H) | exact H
    have Ny385 := Aside0.mk hy385; clear hy385
    have H' := Aside0.mk H
    clear H
    have p384 : 0 ≤ ((ji14) : Int) := uO
    have q384 : (ji14) < (x3_1.length : Int) := uO
    obtain ⟨ad384, e384, hx384_0⟩ := Kd.at_int (Kd.R_reads' HO_3.out).2.2 (ji14) p384 q384
    obtain rfl : (⟨go8, 0, none⟩ : Addr) = ad384 := (by injection e384)
    (first | simp only [add_plain] at hx384_0 | simp only [add_at] at hx384_0 | simp only [Addr.add, Nat.zero_add] at hx384_0 | skip)
    replace p384 := eq_true p384
    replace q384 := eq_true q384
    have p17 : 0 ≤ ((ji14) : Int) := uO
    have q17 : ((ji14) : Int) < ((x3_1.length : Int) : Int) := uO
    obtain ⟨hx17_0, hf17_0⟩ := Kd.R_celln 0 HO_3.out ((ji14) : Int) p17 q17
    replace p17 := eq_true p17
    replace q17 := eq_true q17
    have HP18 := Kd.R_putg HO_3.out ((ji14) : Int) (IntKind.u64.wrap ((rd x3_1 (ji14)) * 2))
    go_wp2_with (first | ((with_reducible refine gate_store (t := 27) (p := 28) rfl ?_); refine store_event (t := 27) (p := 28) (v := ?vo_w19) (w1 := (wr.setCell ⟨go8, ((ji14) : Int).toNat, none⟩ (.int .u64 (IntKind.u64.wrap ((rd x3_1 (ji14)) * 2))))) ?hg ?ho ?hn ?hr ?_; (case ho => rfl); (case hg => rfl); (case hn => rfl); (case hr => first | (go_simp; done) | (go_simp; rfl) | (obtain ⟨hy_, hz_⟩ := Kd.R_celln 0 HO_3.out ((ji14) : Int) uO uO; (try simp only [Go.IntWalk.toNatUp] at hy_ hz_); (try simp only [Int.reduceToNat, Int.toNat_zero, Int.toNat_ofNat] at hy_ hz_); first | (go_simp; done) | (go_simp; rfl))); intro w19 hw; have hg : wr.grownBy w19 (some go8) := (by rw [hw]; exact HP18.2); have hp_ : Kd.R (Kd.int .u64) 27 w19 w.heap.size (fun _ => True) (.slice (some ⟨go8, 0, none⟩) x3_1.length co8) y385 := (by rw [hw, Ny385.out]; exact HP18.1); clear HP18; replace HO_3 := Aside0.mk (hp_); replace HB := Aside0.mk ((by rw [hw]; exact below_set (HB.out) GB8.out : Below w.heap.size w w19)); clear hg hw hp_))
    (try simp only [← hl3_1])
    first | go_roundg k1 | ((try simp only [← hji14] at H'); simp only [← hji14]; go_roundg k1) | ((try simp only [← hji5] at H'); simp only [← hji5]; go_roundg k1) | ((try simp only [← hji2] at H'); simp only [← hji2]; go_roundg k1)
    case measure => have := HK1.out; omega
    case rel => first | exact ⟨(y385), (wrap64 (x4_1 + 1)), uG, H', ⟨by have := HK1.out; omega⟩, ⟨by (try simp only [hl3_1]); (with_reducible repeat (first | apply Kd.R_alloc | apply Kd.R_drewN | apply Kd.R_drew)); exact HO_3.out⟩, ⟨uB⟩⟩ | (simp only [← hji14] at H'; exact ⟨(y385), (wrap64 (x4_1 + 1)), uG, H', ⟨by have := HK1.out; omega⟩, ⟨by (try simp only [hl3_1]); (with_reducible repeat (first | apply Kd.R_alloc | apply Kd.R_drewN | apply Kd.R_drew)); exact HO_3.out⟩, ⟨uB⟩⟩) | (simp only [← hji5] at H'; exact ⟨(y385), (wrap64 (x4_1 + 1)), uG, H', ⟨by have := HK1.out; omega⟩, ⟨by (try simp only [hl3_1]); (with_reducible repeat (first | apply Kd.R_alloc | apply Kd.R_drewN | apply Kd.R_drew)); exact HO_3.out⟩, ⟨uB⟩⟩) | (simp only [← hji2] at H'; exact ⟨(y385), (wrap64 (x4_1 + 1)), uG, H', ⟨by have := HK1.out; omega⟩, ⟨by (try simp only [hl3_1]); (with_reducible repeat (first | apply Kd.R_alloc | apply Kd.R_drewN | apply Kd.R_drew)); exact HO_3.out⟩, ⟨uB⟩⟩)
   rw [if_neg c13] at H
   have c13b0 : decide (x4_1 < (Int.tmod a0 16)) = false := decide_eq_false c13
   clear c13
   obtain rfl := Option.some.inj H
   go_wp2
   go_ret
   exact ⟨_, by first | rfl | (simp [errW_none, errW_some] <;> rfl) | (simp only [← hji2, ← hji5]; first | rfl | (simp [errW_none, errW_some] <;> rfl)) | (simp [*, errW_none, errW_some] <;> rfl), uR HO_3.out, uB⟩
def windbreakref01_digit.f (l0 : List Int) (a1 : Int) : Option (Int) := if a1 < (l0.length : Int) then (if 0 ≤ a1 then (some (rd l0 a1)) else (none)) else (some 0)
set_option maxHeartbeats 8000000 in
set_option maxRecDepth 100000 in
theorem windbreakref01_digit.calls (A0 : Option Addr) (c0 : Nat) (l0 : List Int) (a1 : Int) (r : Int) (w : World) (hr0 : Kd.C (Kd.int .u64) w A0 l0.length l0) (hc0 : l0.length ≤ c0) (h : windbreakref01_digit.f l0 a1 = some r) :
  Calls Try.prog 98 #[.slice A0 l0.length c0, .int .i64 a1] w fun e w' => e = .returned (.int .u64 r) ∧ Drawn0 w w' := by
 have HR0 := Aside0.mk hr0; have HC0 := Aside0.mk hc0; clear hr0 hc0
 have H : (if a1 < (l0.length : Int) then (if 0 ≤ a1 then (some (rd l0 a1)) else (none)) else (some 0)) = some r := h
 clear h
 by_cases c3 : a1 < (l0.length : Int)
 ·
  rw [if_pos c3] at H
  have c3b0 : decide (a1 < (l0.length : Int)) = true := decide_eq_true c3
  clear c3
  replace H := uT H; obtain ⟨c4, H⟩ := H
  have c4b0 : decide (0 ≤ a1) = true := decide_eq_true c4
  clear c4
  obtain rfl := Option.some.inj H
  have p353 : 0 ≤ (a1 : Int) := uO
  have q353 : a1 < (l0.length : Int) := uO
  obtain ⟨ad353, e353, hx353_0⟩ := Kd.at_int HR0.out a1 p353 q353
  cases e353
  replace p353 := eq_true p353
  replace q353 := eq_true q353
  go_enter Try.func98, Try.ntmps98
  go_wp2
  go_ret
  exact ⟨by first | rfl | (simp; done) | (simp [*]; done), by repeat (first | exact Drawn0.refl _ | apply Drawn0.step)⟩
 rw [if_neg c3] at H
 have c3b0 : decide (a1 < (l0.length : Int)) = false := decide_eq_false c3
 clear c3
 obtain rfl := Option.some.inj H
 go_enter Try.func98, Try.ntmps98
 go_wp2
 go_ret
 exact ⟨by first | rfl | (simp; done) | (simp [*]; done), by repeat (first | exact Drawn0.refl _ | apply Drawn0.step)⟩
def windbreakref01_sub.l0 : Nat → List Int → List Int → List Int → Int → Int → Option (List Int)
 | 0, _, _, _, _, _ => none
 | k + 1, x0, x1, x5, x6, x7 => if x7 < (x0.length : Int) then (if 0 ≤ x7 then ((windbreakref01_digit.f x1 x7).bind fun t398 => (if x5.length < 17592186044416 then (windbreakref01_sub.l0 k x0 x1 (x5 ++ [Int.tmod (IntKind.u64.wrap ((IntKind.u64.wrap ((IntKind.u64.wrap (65536 + (rd x0 x7))) - t398)) - x6)) 65536]) (IntKind.u64.wrap (1 - (IntKind.u64.wrap (Int.tdiv (IntKind.u64.wrap ((IntKind.u64.wrap ((IntKind.u64.wrap (65536 + (rd x0 x7))) - t398)) - x6)) 65536)))) (wrap64 (x7 + 1))) else (none))) else (none)) else ((windbreakref01_cut.f k x5).bind fun t402 => (some t402))
def windbreakref01_sub.f (k : Nat) (l0 : List Int) (l1 : List Int) : Option (List Int) := windbreakref01_sub.l0 k l0 l1 ([] : List Int) 0 0
set_option maxHeartbeats 8000000 in
set_option maxRecDepth 100000 in
theorem windbreakref01_sub.calls (k : Nat) (A0 : Option Addr) (c0 : Nat) (l0 : List Int) (A1 : Option Addr) (c1 : Nat) (l1 : List Int) (r : List Int) (w : World) (hr0 : Kd.C (Kd.int .u64) w A0 l0.length l0) (hc0 : l0.length ≤ c0) (hr1 : Kd.C (Kd.int .u64) w A1 l1.length l1) (hc1 : l1.length ≤ c1) (h : windbreakref01_sub.f k l0 l1 = some r) :
  Calls Try.prog 126 #[.slice A0 l0.length c0, .slice A1 l1.length c1] w fun e w' => ∃ v0_ : Value, e = .returned (v0_) ∧ Kd.R (Kd.int .u64) 27 w' w.heap.size (fun _ => True) v0_ r ∧ Below w.heap.size w w' := by
 have HR0 := Aside0.mk hr0; have HC0 := Aside0.mk hc0; clear hr0 hc0; have HR1 := Aside0.mk hr1; have HC1 := Aside0.mk hc1; clear hr1 hc1
 have HB := Aside0.mk (Below.refl w.heap.size w)
 have H : (windbreakref01_sub.l0 k l0 l1 ([] : List Int) 0 0) = some r := h
 clear h
 have H' := Aside0.mk H
 clear H
 go_enter Try.func126, Try.ntmps126
 go_wp2
 repeat (go_quiet (fail); try go_wp2)
 go_loopg [5, 6, 7] k (fun kq v5 v6 v7 w' => ∃ (x5_1 : List Int) (x6_1 : Int) (x7_1 : Int), v6 = .int .u64 x6_1 ∧ v7 = .int .i64 x7_1 ∧ Aside0 (windbreakref01_sub.l0 kq l0 l1 x5_1 x6_1 x7_1 = some r) ∧ Aside0 (kq ≤ k) ∧ Aside0 (Kd.R (Kd.int .u64) 27 w' w.heap.size (fun _ => True) v5 x5_1) ∧ Aside0 (Below w.heap.size w w'))
 case atStart => exact ⟨(([] : List Int)), (0), (0), uG, uG, H', ⟨Nat.le_refl _⟩, ⟨uI⟩, ⟨uB⟩⟩
 case round =>
  clear H'
  (try clear c1); (try clear p2)
  obtain ⟨x5_1, x6_1, x7_1, rfl, rfl, HA, HK1, HO_5, HB⟩ := hrel
  cases gk with
  | zero => exact absurd HA.out (by simp [windbreakref01_sub.l0])
  | succ k1 =>
   have H := HA.out
   clear HA
   simp only [windbreakref01_sub.l0] at H
   by_cases c3 : x7_1 < (l0.length : Int)
   ·
    rw [if_pos c3] at H
    have c3b0 : decide (x7_1 < (l0.length : Int)) = true := decide_eq_true c3
    clear c3
    replace H := uT H; obtain ⟨c4, H⟩ := H
    have c4b0 : decide (0 ≤ x7_1) = true := decide_eq_true c4
    clear c4
    replace H := ub H; obtain ⟨t398, A5, H⟩ := H
    replace H := uT H; obtain ⟨c6, H⟩ := H
    have LMc6 := Aside0.mk c6; clear c6
    obtain ⟨y399, hy399⟩ : ∃ y_ : List Int, y_ = (x5_1 ++ [Int.tmod (IntKind.u64.wrap ((IntKind.u64.wrap ((IntKind.u64.wrap (65536 + (rd l0 x7_1))) - t398)) - x6_1)) 65536]) := ⟨_, rfl⟩
    replace H : (windbreakref01_sub.l0 k1 l0 l1 y399 (IntKind.u64.wrap (1 - (IntKind.u64.wrap (Int.tdiv (IntKind.u64.wrap ((IntKind.u64.wrap ((IntKind.u64.wrap (65536 + (rd l0 x7_1))) - t398)) - x6_1)) 65536)))) (wrap64 (x7_1 + 1))) = some r := by first | (rw [hy399]; with_reducible exact H) | (have H2_ := (Option.bind_some _ _).symm.trans H; rw [hy399]; with_reducible exact H2_) | (have H2_ := (Option.bind_some _ _).symm.trans H; with_reducible exact H2_) | with_reducible exact H | (rw [hy399]; exact H) | exact H
    have Ny399 := Aside0.mk hy399; clear hy399
    have H' := Aside0.mk H
    clear H
    have p397 : 0 ≤ (x7_1 : Int) := uO
    have q397 : x7_1 < (l0.length : Int) := uO
    obtain ⟨ad397, e397, hx397_0⟩ := Kd.at_int HR0.out x7_1 p397 q397
    cases e397
    replace hx397_0 := (HB.out.cell (World.block_lt_of_cell? w _ hx397_0)).trans hx397_0
    replace p397 := eq_true p397
    replace q397 := eq_true q397
    go_wp2_with (first | (go_at_call 98; (with_reducible refine (windbreakref01_digit.calls _ _ l1 x7_1 t398 _ ?side1 ?side2 A5.out).mono ?_); (case side1 => exact uC (Kd.C_below HR1.out HB.out)); (case side2 => exact HC1.out); rintro e w' ⟨rfl, ⟨nd, rfl⟩⟩; (try first | exact ⟨rfl, _, World.drewN_drewN _ _ _⟩ | exact ⟨rfl, _, Eq.trans (World.drewN_drewN _ _ _) (congrArg (World.drewN _) (Nat.add_assoc _ _ _))⟩)) | ((with_reducible refine gate_builtin (b := .append) (xs := #[.tmp 26, .tmp 29]) rfl ?_); at_builtin; refine Kd.R_append (Kd.int .u64) (w0 := w) w.heap.size rfl (.tmp 26) (.tmp 29) 70 27 (.int .u64 0) 8 rfl Try.underlying70 info27 rfl (by decide) (by omega) u5 x5_1 (Int.tmod (IntKind.u64.wrap ((IntKind.u64.wrap ((IntKind.u64.wrap (65536 + (rd l0 x7_1))) - t398)) - x6_1)) 65536) [.int .u64 (Int.tmod (IntKind.u64.wrap ((IntKind.u64.wrap ((IntKind.u64.wrap (65536 + (rd l0 x7_1))) - t398)) - x6_1)) 65536)] (fun _ => True) (fun _ => False) rfl rfl ?aP (fun _ hk => hk.elim) ?aF ?aO ?aB ?aS ?aL ?_; (case aP => exact rfl); (case aB => exact uB); (case aF => exact (fun _ _ => trivial)); (case aO => exact (uR HO_5.out)); (case aS => exact (below_size uB)); (case aL => have := LMc6.out; omega); intro v400 w7 ho hb hg hat; rw [← Ny399.out] at ho; replace HB := Aside0.mk (hb); have HO401 := Aside0.mk (ho); clear HO_5; clear ho hb hg hat))
    repeat (go_quiet (first | (go_at_call 98; (with_reducible refine (windbreakref01_digit.calls _ _ l1 x7_1 t398 _ ?side1 ?side2 A5.out).mono ?_); (case side1 => exact uC (Kd.C_below HR1.out HB.out)); (case side2 => exact HC1.out); rintro e w' ⟨rfl, ⟨nd, rfl⟩⟩; (try first | exact ⟨rfl, _, World.drewN_drewN _ _ _⟩ | exact ⟨rfl, _, Eq.trans (World.drewN_drewN _ _ _) (congrArg (World.drewN _) (Nat.add_assoc _ _ _))⟩)) | ((with_reducible refine gate_builtin (b := .append) (xs := #[.tmp 26, .tmp 29]) rfl ?_); at_builtin; refine Kd.R_append (Kd.int .u64) (w0 := w) w.heap.size rfl (.tmp 26) (.tmp 29) 70 27 (.int .u64 0) 8 rfl Try.underlying70 info27 rfl (by decide) (by omega) u5 x5_1 (Int.tmod (IntKind.u64.wrap ((IntKind.u64.wrap ((IntKind.u64.wrap (65536 + (rd l0 x7_1))) - t398)) - x6_1)) 65536) [.int .u64 (Int.tmod (IntKind.u64.wrap ((IntKind.u64.wrap ((IntKind.u64.wrap (65536 + (rd l0 x7_1))) - t398)) - x6_1)) 65536)] (fun _ => True) (fun _ => False) rfl rfl ?aP (fun _ hk => hk.elim) ?aF ?aO ?aB ?aS ?aL ?_; (case aP => exact rfl); (case aB => exact uB); (case aF => exact (fun _ _ => trivial)); (case aO => exact (uR HO_5.out)); (case aS => exact (below_size uB)); (case aL => have := LMc6.out; omega); intro v400 w7 ho hb hg hat; rw [← Ny399.out] at ho; replace HB := Aside0.mk (hb); have HO401 := Aside0.mk (ho); clear HO_5; clear ho hb hg hat)); try go_wp2_with (first | (go_at_call 98; (with_reducible refine (windbreakref01_digit.calls _ _ l1 x7_1 t398 _ ?side1 ?side2 A5.out).mono ?_); (case side1 => exact uC (Kd.C_below HR1.out HB.out)); (case side2 => exact HC1.out); rintro e w' ⟨rfl, ⟨nd, rfl⟩⟩; (try first | exact ⟨rfl, _, World.drewN_drewN _ _ _⟩ | exact ⟨rfl, _, Eq.trans (World.drewN_drewN _ _ _) (congrArg (World.drewN _) (Nat.add_assoc _ _ _))⟩)) | ((with_reducible refine gate_builtin (b := .append) (xs := #[.tmp 26, .tmp 29]) rfl ?_); at_builtin; refine Kd.R_append (Kd.int .u64) (w0 := w) w.heap.size rfl (.tmp 26) (.tmp 29) 70 27 (.int .u64 0) 8 rfl Try.underlying70 info27 rfl (by decide) (by omega) u5 x5_1 (Int.tmod (IntKind.u64.wrap ((IntKind.u64.wrap ((IntKind.u64.wrap (65536 + (rd l0 x7_1))) - t398)) - x6_1)) 65536) [.int .u64 (Int.tmod (IntKind.u64.wrap ((IntKind.u64.wrap ((IntKind.u64.wrap (65536 + (rd l0 x7_1))) - t398)) - x6_1)) 65536)] (fun _ => True) (fun _ => False) rfl rfl ?aP (fun _ hk => hk.elim) ?aF ?aO ?aB ?aS ?aL ?_; (case aP => exact rfl); (case aB => exact uB); (case aF => exact (fun _ _ => trivial)); (case aO => exact (uR HO_5.out)); (case aS => exact (below_size uB)); (case aL => have := LMc6.out; omega); intro v400 w7 ho hb hg hat; rw [← Ny399.out] at ho; replace HB := Aside0.mk (hb); have HO401 := Aside0.mk (ho); clear HO_5; clear ho hb hg hat)))
    go_roundg k1
    case measure => have := HK1.out; omega
    case rel => exact ⟨(y399), (IntKind.u64.wrap (1 - (IntKind.u64.wrap (Int.tdiv (IntKind.u64.wrap ((IntKind.u64.wrap ((IntKind.u64.wrap (65536 + (rd l0 x7_1))) - t398)) - x6_1)) 65536)))), (wrap64 (x7_1 + 1)), uG, uG, H', ⟨by have := HK1.out; omega⟩, ⟨uR HO401.out⟩, ⟨uB⟩⟩
   rw [if_neg c3] at H
   have c3b0 : decide (x7_1 < (l0.length : Int)) = false := decide_eq_false c3
   clear c3
   replace H := ub H; obtain ⟨t402, A8, H⟩ := H
   obtain rfl := Option.some.inj H
   obtain ⟨Ao9, co9, eo9⟩ := Kd.R_slice HO_5.out
   subst eo9
   go_wp2_with (first | (go_at_call 99; (with_reducible refine (windbreakref01_cut.calls k1 (fun k_ => some k_ = (.slice Ao9 x5_1.length co9 : Value).ownBlock) (.slice Ao9 x5_1.length co9) x5_1 t402 w _ ?side1 ?side2 A8.out).mono ?_); (case side1 => repeat (first | (with_reducible first | exact HB.out | apply below_alloc | apply pw_below_drewN | apply below_drew1) | exact HB.out)); (case side2 => exact Kd.R_tight rfl HO_5.out); rintro e w10 ⟨v403, rfl, ho0, hb, hkp⟩; have HO404 := Aside0.mk (Kd.R_mono (ok' := fun k_ => True) ho0 (fun k_ hk_ => trivial)); replace HB := Aside0.mk (hb); clear HO_5; (try clear hb); (try clear hkp); (try clear ho0)))
   repeat (go_quiet (first | (go_at_call 99; (with_reducible refine (windbreakref01_cut.calls k1 (fun k_ => some k_ = (.slice Ao9 x5_1.length co9 : Value).ownBlock) (.slice Ao9 x5_1.length co9) x5_1 t402 w _ ?side1 ?side2 A8.out).mono ?_); (case side1 => repeat (first | (with_reducible first | exact HB.out | apply below_alloc | apply pw_below_drewN | apply below_drew1) | exact HB.out)); (case side2 => exact Kd.R_tight rfl HO_5.out); rintro e w10 ⟨v403, rfl, ho0, hb, hkp⟩; have HO404 := Aside0.mk (Kd.R_mono (ok' := fun k_ => True) ho0 (fun k_ hk_ => trivial)); replace HB := Aside0.mk (hb); clear HO_5; (try clear hb); (try clear hkp); (try clear ho0))); try go_wp2_with (first | (go_at_call 99; (with_reducible refine (windbreakref01_cut.calls k1 (fun k_ => some k_ = (.slice Ao9 x5_1.length co9 : Value).ownBlock) (.slice Ao9 x5_1.length co9) x5_1 t402 w _ ?side1 ?side2 A8.out).mono ?_); (case side1 => repeat (first | (with_reducible first | exact HB.out | apply below_alloc | apply pw_below_drewN | apply below_drew1) | exact HB.out)); (case side2 => exact Kd.R_tight rfl HO_5.out); rintro e w10 ⟨v403, rfl, ho0, hb, hkp⟩; have HO404 := Aside0.mk (Kd.R_mono (ok' := fun k_ => True) ho0 (fun k_ hk_ => trivial)); replace HB := Aside0.mk (hb); clear HO_5; (try clear hb); (try clear hkp); (try clear ho0))))
   go_ret
   exact ⟨_, uF, uR HO404.out, uB⟩
def windbreakref03_Neg.f (a0_0 : Bool) (l0_1 : List Int) : Option (Bool × List Int) := (windbreakref03_Right.f a0_0 l0_1).bind fun t1061 => (if t1061 = true then ((windbreakref03_From.f (!a0_0) l0_1).bind fun bt1062 => (some (bt1062.1, bt1062.2))) else (some (false, ([] : List Int))))
set_option maxHeartbeats 8000000 in
set_option maxRecDepth 100000 in
theorem windbreakref03_Neg.calls (a0_0 : Bool) (A0_1 : Option Addr) (c0_1 : Nat) (l0_1 : List Int) (r1 : Bool) (r2 : List Int) (w : World) (hr0_1 : Kd.C (Kd.int .u64) w A0_1 l0_1.length l0_1) (hc0_1 : l0_1.length ≤ c0_1) (h : windbreakref03_Neg.f a0_0 l0_1 = some (r1, r2)) :
  Calls Try.prog 109 #[.agg #[.bool a0_0, .slice A0_1 l0_1.length c0_1]] w fun e w' => ∃ v1_ : Value, e = .returned (.agg #[.bool r1, v1_]) ∧ Kd.R (Kd.int .u64) 27 w' w.heap.size (fun _ => True) v1_ r2 ∧ Below w.heap.size w w' := by
 have hu52 := Try.underlying52
 have HR0_1 := Aside0.mk hr0_1; have HC0_1 := Aside0.mk hc0_1; clear hr0_1 hc0_1
 have HB := Aside0.mk (Below.refl w.heap.size w)
 have H : ((windbreakref03_Right.f a0_0 l0_1).bind fun t1061 => (if t1061 = true then ((windbreakref03_From.f (!a0_0) l0_1).bind fun bt1062 => (some (bt1062.1, bt1062.2))) else (some (false, ([] : List Int))))) = some (r1, r2) := h
 clear h
 replace H := ub H; obtain ⟨t1061, A2, H⟩ := H
 by_cases c3 : t1061 = true
 ·
  subst c3
  have H1 : ((windbreakref03_From.f (!a0_0) l0_1).bind fun bt1062 => (some (bt1062.1, bt1062.2))) = some (r1, r2) := by rw [if_pos rfl] at H; exact H
  clear H; have H := H1; clear H1
  replace H := ub H; obtain ⟨⟨t1062, t1063⟩, A4, H⟩ := H
  (try dsimp only at H)
  simp only [Option.some.injEq, Prod.mk.injEq] at H
  obtain ⟨rfl, rfl⟩ := H
  go_enter Try.func109, Try.ntmps109
  go_wp2_with (first | ((with_reducible refine gate_dst (N := 1) rfl ?_); refine box_event ?hg (N := 1) ?hd (cs := #[.bool a0_0, .slice A0_1 l0_1.length c0_1]) (t := 52) ?hr ?_; (case hd => rfl); (case hg => rfl); (case hr => first | (go_simp; done) | (go_simp; rfl)); intro gb1059 hg w5 hbox hb; have BK1059 := Aside0.mk (hbox); have GW1059 := us hg; have GE1059 := us hg; replace HB := uy hb; clear hb hbox hg) | ((with_reducible refine gate_dst (N := 2) rfl ?_); refine box_event ?hg (N := 2) ?hd (cs := #[.bool false, .slice none 0 0]) (t := 52) ?hr ?_; (case hd => rfl); (case hg => rfl); (case hr => first | (go_simp; done) | (go_simp; rfl)); intro gb1060 hg w6 hbox hb; have BK1060 := Aside0.mk (hbox); have GW1060 := us hg; have GE1060 := us hg; replace HB := uy hb; have NB1059_1060 := Aside0.mk ((by rw [hg]; exact Nat.ne_of_lt (blk_lt (uK BK1059.out)) : gb1059 ≠ gb1060)); have NB1060_1059 := Aside0.mk ((by rw [hg]; exact Nat.ne_of_gt (blk_lt (uK BK1059.out)) : gb1060 ≠ gb1059)); replace BK1059 := ux BK1059 hb; clear hb hbox hg; have hnb7 := NB1059_1060.out; have hnc7 := NB1060_1059.out; have hcz8_0 : w6.cell? ⟨gb1059, 0, none⟩ = some (.bool a0_0) := (blk_cell BK1059.out 0).trans rfl; have hcz8_1 : w6.cell? ⟨gb1059, 1, none⟩ = some (.slice A0_1 l0_1.length c0_1) := (blk_cell BK1059.out 1).trans rfl; have hfz8_0 := blk_frozen BK1059.out 0; have hfz8_1 := blk_frozen BK1059.out 1) | ((with_reducible refine gate_callee (f := 103) rfl ?_); refine goesL_ (some 5) rfl rfl Try.func103 (by kernel_rfl) rfl #[.agg #[.bool a0_0, .slice A0_1 l0_1.length c0_1]] rfl uM ?_; (with_reducible refine (windbreakref03_Right.calls a0_0 _ _ l0_1 true _ ?side1 ?side2 A2.out).mono ?_); (case side1 => exact uC (Kd.C_below HR0_1.out HB.out)); (case side2 => exact HC0_1.out); rintro e w9 ⟨rfl, hb⟩; refine ⟨_, rfl, ?_⟩; replace BK1059 := ux BK1059 hb; replace BK1060 := ux BK1060 hb; replace HB := uy hb; (try clear hb); have hcz10_0 : w9.cell? ⟨gb1059, 0, none⟩ = some (.bool a0_0) := (blk_cell BK1059.out 0).trans rfl; have hcz10_1 : w9.cell? ⟨gb1059, 1, none⟩ = some (.slice A0_1 l0_1.length c0_1) := (blk_cell BK1059.out 1).trans rfl; have hfz10_0 := blk_frozen BK1059.out 0; have hfz10_1 := blk_frozen BK1059.out 1) | ((with_reducible refine gate_callee (f := 104) rfl ?_); refine goesL_ (some 14) rfl rfl Try.func104 (by kernel_rfl) rfl #[.bool (!a0_0), .slice A0_1 l0_1.length c0_1] rfl uM ?_; (with_reducible refine (windbreakref03_From.calls (!a0_0) _ _ l0_1 t1062 t1063 _ ?side1 ?side2 A4.out).mono ?_); (case side1 => exact uC (Kd.C_below HR0_1.out HB.out)); (case side2 => exact HC0_1.out); rintro e w11 ⟨v1064, rfl, ho0, hb⟩; refine ⟨_, rfl, ?_⟩; have HO1065 := Aside0.mk (Kd.R_lower ho0 (below_size uB)); replace BK1059 := ux BK1059 hb; replace BK1060 := ux BK1060 hb; replace HB := uy hb; (try clear hb ho0); have hcz12_0 : w11.cell? ⟨gb1060, 0, none⟩ = some (.bool false) := (blk_cell BK1060.out 0).trans rfl; have hcz12_1 : w11.cell? ⟨gb1060, 1, none⟩ = some (.slice none 0 0) := (blk_cell BK1060.out 1).trans rfl; have hfz12_0 := blk_frozen BK1060.out 0; have hfz12_1 := blk_frozen BK1060.out 1; obtain ⟨Ao13, co13, eo13⟩ := Kd.R_slice HO1065.out; subst eo13))
  refine bodyPost_ret (results_cell_row rfl _ _ gb1060 52 #[.bool t1062, .slice Ao13 t1063.length co13] (0, 0) _ rfl (by (with_reducible repeat (first | refine blk_drewN ?_ _ | refine blk_drew ?_ | refine blk_alloc ?_ _)); refine blk_put (cs := #[.bool t1062, .slice none 0 0]) ?_ 1 _ rfl; (with_reducible repeat (first | refine blk_drewN ?_ _ | refine blk_drew ?_ | refine blk_alloc ?_ _)); refine blk_put (cs := #[.bool false, .slice none 0 0]) ?_ 0 _ rfl; (with_reducible repeat (first | refine blk_drewN ?_ _ | refine blk_drew ?_ | refine blk_alloc ?_ _)); exact BK1060.out) Try.underlying52 rfl (by kernel_rfl)) rfl ?_
  exact ⟨_, uF, by (with_reducible repeat (first | apply Kd.R_alloc | apply Kd.R_drewN | apply Kd.R_drew)); exact Kd.R_mono (Kd.R_far (p := ⟨gb1060, 1, none⟩) (Kd.R_far (p := ⟨gb1060, 0, none⟩) (Kd.R_types HO1065.out BK1060.out (by decide)) (fun _ hk => hk.2) (.bool t1062)) (fun _ hk => hk.2) (.slice Ao13 t1063.length co13)) (fun _ hk => trivial), uB⟩
 replace c3 := Bool.eq_false_iff.mpr c3
 subst c3
 have H1 : (some (false, ([] : List Int))) = some (r1, r2) := by rw [if_neg (show ¬ (false = true) by decide)] at H; exact H
 clear H; have H := H1; clear H1
 simp only [Option.some.injEq, Prod.mk.injEq] at H
 obtain ⟨rfl, rfl⟩ := H
 go_enter Try.func109, Try.ntmps109
 go_wp2_with (first | ((with_reducible refine gate_dst (N := 1) rfl ?_); refine box_event ?hg (N := 1) ?hd (cs := #[.bool a0_0, .slice A0_1 l0_1.length c0_1]) (t := 52) ?hr ?_; (case hd => rfl); (case hg => rfl); (case hr => first | (go_simp; done) | (go_simp; rfl)); intro gb1059 hg w14 hbox hb; have BK1059 := Aside0.mk (hbox); have GW1059 := us hg; have GE1059 := us hg; replace HB := uy hb; clear hb hbox hg) | ((with_reducible refine gate_dst (N := 2) rfl ?_); refine box_event ?hg (N := 2) ?hd (cs := #[.bool false, .slice none 0 0]) (t := 52) ?hr ?_; (case hd => rfl); (case hg => rfl); (case hr => first | (go_simp; done) | (go_simp; rfl)); intro gb1060 hg w15 hbox hb; have BK1060 := Aside0.mk (hbox); have GW1060 := us hg; have GE1060 := us hg; replace HB := uy hb; have NB1059_1060 := Aside0.mk ((by rw [hg]; exact Nat.ne_of_lt (blk_lt (uK BK1059.out)) : gb1059 ≠ gb1060)); have NB1060_1059 := Aside0.mk ((by rw [hg]; exact Nat.ne_of_gt (blk_lt (uK BK1059.out)) : gb1060 ≠ gb1059)); replace BK1059 := ux BK1059 hb; clear hb hbox hg; have hnb16 := NB1059_1060.out; have hnc16 := NB1060_1059.out; have hcz17_0 : w15.cell? ⟨gb1059, 0, none⟩ = some (.bool a0_0) := (blk_cell BK1059.out 0).trans rfl; have hcz17_1 : w15.cell? ⟨gb1059, 1, none⟩ = some (.slice A0_1 l0_1.length c0_1) := (blk_cell BK1059.out 1).trans rfl; have hfz17_0 := blk_frozen BK1059.out 0; have hfz17_1 := blk_frozen BK1059.out 1) | ((with_reducible refine gate_callee (f := 103) rfl ?_); refine goesL_ (some 5) rfl rfl Try.func103 (by kernel_rfl) rfl #[.agg #[.bool a0_0, .slice A0_1 l0_1.length c0_1]] rfl uM ?_; (with_reducible refine (windbreakref03_Right.calls a0_0 _ _ l0_1 false _ ?side1 ?side2 A2.out).mono ?_); (case side1 => exact uC (Kd.C_below HR0_1.out HB.out)); (case side2 => exact HC0_1.out); rintro e w18 ⟨rfl, hb⟩; refine ⟨_, rfl, ?_⟩; replace BK1059 := ux BK1059 hb; replace BK1060 := ux BK1060 hb; replace HB := uy hb; (try clear hb); have hcz19_0 : w18.cell? ⟨gb1060, 0, none⟩ = some (.bool false) := (blk_cell BK1060.out 0).trans rfl; have hcz19_1 : w18.cell? ⟨gb1060, 1, none⟩ = some (.slice none 0 0) := (blk_cell BK1060.out 1).trans rfl; have hfz19_0 := blk_frozen BK1060.out 0; have hfz19_1 := blk_frozen BK1060.out 1))
 refine bodyPost_ret (results_cell_row rfl _ _ gb1060 52 #[.bool false, .slice none 0 0] (0, 0) _ rfl (by (with_reducible repeat (first | refine blk_drewN ?_ _ | refine blk_drew ?_ | refine blk_alloc ?_ _)); refine blk_put (cs := #[.bool false, .slice none 0 0]) ?_ 1 _ rfl; (with_reducible repeat (first | refine blk_drewN ?_ _ | refine blk_drew ?_ | refine blk_alloc ?_ _)); refine blk_put (cs := #[.bool false, .slice none 0 0]) ?_ 0 _ rfl; (with_reducible repeat (first | refine blk_drewN ?_ _ | refine blk_drew ?_ | refine blk_alloc ?_ _)); exact BK1060.out) Try.underlying52 rfl (by kernel_rfl)) rfl ?_
 exact ⟨_, uF, uI, uB⟩
def windbreakref01_Same.l0 : Nat → List Int → List Int → Int → Option (Bool)
 | 0, _, _, _ => none
 | k + 1, x0, x1, x5 => if x5 < (x0.length : Int) then (if 0 ≤ x5 then (if x5 < (x1.length : Int) then (if (rd x0 x5) = (rd x1 x5) then (windbreakref01_Same.l0 k x0 x1 (wrap64 (x5 + 1))) else (some false)) else (none)) else (none)) else (some true)
def windbreakref01_Same.f (k : Nat) (l0 : List Int) (l1 : List Int) : Option (Bool) := if (l0.length : Int) = (l1.length : Int) then (windbreakref01_Same.l0 k l0 l1 0) else (some false)
def windbreakref03_Same.f (k : Nat) (a0_0 : Bool) (l0_1 : List Int) (a1_0 : Bool) (l1_1 : List Int) : Option (Bool) := (windbreakref01_Same.f k l0_1 l1_1).bind fun t1360 => (if (a0_0 == a1_0) = true then (some t1360) else (some false))
end Go.Proofs.Ytgeanpnkllnipab.F
end
section
namespace Go.Proofs.Ytgeanpnkllnipab.F
open Go.RowKit Go.Proofs.YtgeanpnkllnipabW.PrintWords Go.Proofs.YtgeanpnkllnipabW.PrintLast Go.Proofs.YtgeanpnkllnipabW.PrintMore
attribute [local go_sem] max2_int min2_int max_two min_two max_three min_three max_four min_four
set_option linter.unusedVariables false
set_option linter.unusedSimpArgs false
attribute [local go_sem] sub64_run
def nat_less.l0 : Nat → List Int → List Int → List Int → Int → Int → Int → Option (List Int)
 | 0, _, _, _, _, _, _ => none
 | k + 1, x0, x1, x5, x6, x13, x14 => if x14 < x13 then (if x14 < (x1.length : Int) then (if 0 ≤ x14 then (if x14 < (x0.length : Int) then (if carry01 x6 = true then (if x14 < (x5.length : Int) then (nat_less.l0 k x0 x1 (x5.set (x14 : Int).toNat (sub64_s (rd x0 x14) (rd x1 x14) x6)) (sub64_c (rd x0 x14) (rd x1 x14) x6) x13 (wrap64 (x14 + 1))) else (none)) else (none)) else (none)) else (none)) else (if 0 ≤ x14 then (if x14 < (x0.length : Int) then (if carry01 x6 = true then (if x14 < (x5.length : Int) then (nat_less.l0 k x0 x1 (x5.set (x14 : Int).toNat (sub64_s (rd x0 x14) 0 x6)) (sub64_c (rd x0 x14) 0 x6) x13 (wrap64 (x14 + 1))) else (none)) else (none)) else (none)) else (none))) else (some x5)
def nat_less.f (k : Nat) (l0 : List Int) (l1 : List Int) : Option (List Int) := if 0 ≤ (l0.length : Int) then (if ((l0.length : Int) : Int).toNat ≤ 35184372088832 then (nat_less.l0 k l0 l1 (List.replicate ((l0.length : Int) : Int).toNat 0) 0 (l0.length : Int) 0) else (none)) else (none)
set_option maxHeartbeats 8000000 in
set_option maxRecDepth 100000 in
theorem nat_less.calls (k : Nat) (A0 : Option Addr) (c0 : Nat) (l0 : List Int) (A1 : Option Addr) (c1 : Nat) (l1 : List Int) (r : List Int) (w : World) (hr0 : Kd.C (Kd.int .u64) w A0 l0.length l0) (hc0 : l0.length ≤ c0) (hr1 : Kd.C (Kd.int .u64) w A1 l1.length l1) (hc1 : l1.length ≤ c1) (h : nat_less.f k l0 l1 = some r) :
  Calls Try.prog 117 #[.slice A0 l0.length c0, .slice A1 l1.length c1] w fun e w' => ∃ v0_ : Value, e = .returned (v0_) ∧ Kd.R (Kd.int .u64) 27 w' w.heap.size (fun _ => True) v0_ r ∧ Below w.heap.size w w' := by
 have HR0 := Aside0.mk hr0; have HC0 := Aside0.mk hc0; clear hr0 hc0; have HR1 := Aside0.mk hr1; have HC1 := Aside0.mk hc1; clear hr1 hc1
 have HB := Aside0.mk (Below.refl w.heap.size w)
 have H : (if 0 ≤ (l0.length : Int) then (if ((l0.length : Int) : Int).toNat ≤ 35184372088832 then (nat_less.l0 k l0 l1 (List.replicate ((l0.length : Int) : Int).toNat 0) 0 (l0.length : Int) 0) else (none)) else (none)) = some r := h
 clear h
 replace H := uT H; obtain ⟨c3, H⟩ := H
 have c3b0 := eq_true c3
 have c3b1 : decide (0 ≤ (l0.length : Int)) = true := decide_eq_true c3
 clear c3
 replace H := uT H; obtain ⟨c4, H⟩ := H
 have c4b0 := eq_true c4
 have c4b1 : decide (((l0.length : Int) : Int).toNat ≤ 35184372088832) = true := decide_eq_true c4
 clear c4
 obtain ⟨y137, hy137⟩ : ∃ y_ : List Int, y_ = (List.replicate ((l0.length : Int) : Int).toNat 0) := ⟨_, rfl⟩
 replace H : (nat_less.l0 k l0 l1 y137 0 (l0.length : Int) 0) = some r := by first | (rw [hy137]; with_reducible exact H) | (have H2_ := (Option.bind_some _ _).symm.trans H; rw [hy137]; with_reducible exact H2_) | (have H2_ := (Option.bind_some _ _).symm.trans H; with_reducible exact H2_) | with_reducible exact H | (rw [hy137]; exact H) | exact H
 have Ny137 := Aside0.mk hy137; clear hy137
 have H' := Aside0.mk H
 clear H
 go_enter Try.func117, Try.ntmps117
 go_wp2_with (first | ((with_reducible refine gate_dst (N := 11) rfl ?_); refine Kd.R_make (Kd.int .u64) _ 27 rfl (N := 11) rfl 23 _ _ rfl (l0.length : Int) rfl rfl Try.underlying23 (.int .u64 0) 8 info27 rfl (by decide) (by omega) 0 (ok := fun _ => True) (okp := fun _ => True) rfl (fun _ hk => hk) trivial uO (Nat.le_trans (Nat.mul_le_mul_right _ (uO : (l0.length : Int).toNat ≤ 35184372088832)) (by omega)) (Below.refl _ _) (Nat.le_refl _) ?_; intro v138 w5 ho6 hb hg_ hnew_; clear hg_ hnew_; (first | rw [← Ny137.out] at ho6 | (simp only [Int.reduceToNat] at ho6; rw [← Ny137.out] at ho6)); have HO139 := Aside0.mk (Kd.R_lower ho6 (below_size uB)); replace HB := uy hb; clear hb ho6))
 go_loopg [6, 14] k (fun kq v6 v14 w' => ∃ (x5_1 : List Int) (x6_1 : Int) (x14_1 : Int), v6 = .int .u64 x6_1 ∧ v14 = .int .i64 x14_1 ∧ Aside0 (nat_less.l0 kq l0 l1 x5_1 x6_1 (l0.length : Int) x14_1 = some r) ∧ Aside0 (kq ≤ k) ∧ Aside0 (Kd.R (Kd.int .u64) 27 w' w.heap.size (fun _ => True) v138 x5_1) ∧ Aside0 (Below w.heap.size w w'))
 case atStart => exact ⟨(y137), (0), (0), uG, uG, H', ⟨Nat.le_refl _⟩, ⟨uR HO139.out⟩, ⟨uB⟩⟩
 case round =>
  clear H'
  (try clear c1); (try clear p2); (try clear c3); (try clear c3b0); (try clear c3b1); (try clear c4); (try clear c4b0); (try clear c4b1)
  obtain ⟨x5_1, x6_1, x14_1, rfl, rfl, HA, HK1, HO_5, HB⟩ := hrel
  cases gk with
  | zero => exact absurd HA.out (by simp [nat_less.l0])
  | succ k1 =>
   have H := HA.out
   clear HA
   simp only [nat_less.l0] at H
   by_cases c7 : x14_1 < (l0.length : Int)
   ·
    rw [if_pos c7] at H
    have c7b0 : decide (x14_1 < (l0.length : Int)) = true := decide_eq_true c7
    clear c7
    by_cases c8 : x14_1 < (l1.length : Int)
    ·
     rw [if_pos c8] at H
     have c8b0 : decide (x14_1 < (l1.length : Int)) = true := decide_eq_true c8
     clear c8
     replace H := uT H; obtain ⟨c9, H⟩ := H
     have c9b0 : decide (0 ≤ x14_1) = true := decide_eq_true c9
     clear c9
     replace H := uT H; obtain ⟨c10, H⟩ := H
     have c10b0 : decide (x14_1 < (l0.length : Int)) = true := decide_eq_true c10
     clear c10
     replace H := uT H; obtain ⟨c11, H⟩ := H
     have c11b0 : carry01 x6_1 = true := c11
     clear c11
     replace H := uT H; obtain ⟨c12, H⟩ := H
     have c12b0 : decide (x14_1 < (x5_1.length : Int)) = true := decide_eq_true c12
     clear c12
     obtain ⟨y142, hy142⟩ : ∃ y_ : List Int, y_ = (x5_1.set (x14_1 : Int).toNat (sub64_s (rd l0 x14_1) (rd l1 x14_1) x6_1)) := ⟨_, rfl⟩
     replace H : (nat_less.l0 k1 l0 l1 y142 (sub64_c (rd l0 x14_1) (rd l1 x14_1) x6_1) (l0.length : Int) (wrap64 (x14_1 + 1))) = some r := by first | (rw [hy142]; with_reducible exact H) | (have H2_ := (Option.bind_some _ _).symm.trans H; rw [hy142]; with_reducible exact H2_) | (have H2_ := (Option.bind_some _ _).symm.trans H; with_reducible exact H2_) | with_reducible exact H | (rw [hy142]; exact H) | exact H
     have Ny142 := Aside0.mk hy142; clear hy142
     have H' := Aside0.mk H
     clear H
     have p140 : 0 ≤ (x14_1 : Int) := uO
     have q140 : x14_1 < (l1.length : Int) := uO
     obtain ⟨ad140, e140, hx140_0⟩ := Kd.at_int HR1.out x14_1 p140 q140
     cases e140
     replace hx140_0 := (HB.out.cell (World.block_lt_of_cell? w _ hx140_0)).trans hx140_0
     replace p140 := eq_true p140
     replace q140 := eq_true q140
     have p141 : 0 ≤ (x14_1 : Int) := uO
     have q141 : x14_1 < (l0.length : Int) := uO
     obtain ⟨ad141, e141, hx141_0⟩ := Kd.at_int HR0.out x14_1 p141 q141
     cases e141
     replace hx141_0 := (HB.out.cell (World.block_lt_of_cell? w _ hx141_0)).trans hx141_0
     replace p141 := eq_true p141
     replace q141 := eq_true q141
     have p13 : 0 ≤ (x14_1 : Int) := uO
     have q13 : (x14_1 : Int) < ((x5_1.length : Int) : Int) := uO
     obtain ⟨go13, co13, eo13, gb13, gl13, cl13, HG13⟩ := Kd.R_form HO_5.out (by omega)
     (first | cases eo13 | (injection eo13 with ea_ en_ ec_; (first | subst ea_ | (injection ea_ with ea_; subst ea_)); subst ec_; clear en_))
     have GB13 := Aside0.mk gb13; have GG13 := Aside0.mk HG13; clear gb13 gl13 HG13
     obtain ⟨hx13_0, hf13_0⟩ := Kd.R_celln 0 HO_5.out (x14_1 : Int) p13 q13
     replace p13 := eq_true p13
     replace q13 := eq_true q13
     have HP14 := Kd.R_putg HO_5.out (x14_1 : Int) (sub64_s (rd l0 x14_1) (rd l1 x14_1) x6_1)
     go_wp2_with (first | ((with_reducible refine gate_store (t := 27) (p := 37) rfl ?_); refine store_event (t := 27) (p := 37) (v := ?vo_w15) (w1 := (wr.setCell ⟨go13, (x14_1 : Int).toNat, none⟩ (.int .u64 (sub64_s (rd l0 x14_1) (rd l1 x14_1) x6_1)))) ?hg ?ho ?hn ?hr ?_; (case ho => rfl); (case hg => rfl); (case hn => rfl); (case hr => first | (go_simp; done) | (go_simp; rfl) | (obtain ⟨hy_, hz_⟩ := Kd.R_celln 0 HO_5.out (x14_1 : Int) uO uO; (try simp only [Go.IntWalk.toNatUp] at hy_ hz_); (try simp only [Int.reduceToNat, Int.toNat_zero, Int.toNat_ofNat] at hy_ hz_); first | (go_simp; done) | (go_simp; rfl))); intro w15 hw; have hg : wr.grownBy w15 (some go13) := (by rw [hw]; exact HP14.2); have hp_ : Kd.R (Kd.int .u64) 27 w15 w.heap.size (fun _ => True) (.slice (some ⟨go13, 0, none⟩) x5_1.length co13) y142 := (by rw [hw, Ny142.out]; exact HP14.1); clear HP14; replace HO_5 := Aside0.mk (hp_); replace HB := Aside0.mk ((by rw [hw]; exact below_set (HB.out) GB13.out : Below w.heap.size w w15)); clear hg hw hp_))
     go_roundg k1
     case measure => have := HK1.out; omega
     case rel => exact ⟨(y142), (sub64_c (rd l0 x14_1) (rd l1 x14_1) x6_1), (wrap64 (x14_1 + 1)), uG, uG, H', ⟨by have := HK1.out; omega⟩, ⟨uR HO_5.out⟩, ⟨uB⟩⟩
    rw [if_neg c8] at H
    have c8b0 : decide (x14_1 < (l1.length : Int)) = false := decide_eq_false c8
    clear c8
    replace H := uT H; obtain ⟨c16, H⟩ := H
    have c16b0 : decide (0 ≤ x14_1) = true := decide_eq_true c16
    clear c16
    replace H := uT H; obtain ⟨c17, H⟩ := H
    have c17b0 : decide (x14_1 < (l0.length : Int)) = true := decide_eq_true c17
    clear c17
    replace H := uT H; obtain ⟨c18, H⟩ := H
    have c18b0 : carry01 x6_1 = true := c18
    clear c18
    replace H := uT H; obtain ⟨c19, H⟩ := H
    have c19b0 : decide (x14_1 < (x5_1.length : Int)) = true := decide_eq_true c19
    clear c19
    obtain ⟨y144, hy144⟩ : ∃ y_ : List Int, y_ = (x5_1.set (x14_1 : Int).toNat (sub64_s (rd l0 x14_1) 0 x6_1)) := ⟨_, rfl⟩
    replace H : (nat_less.l0 k1 l0 l1 y144 (sub64_c (rd l0 x14_1) 0 x6_1) (l0.length : Int) (wrap64 (x14_1 + 1))) = some r := by first | (rw [hy144]; with_reducible exact H) | (have H2_ := (Option.bind_some _ _).symm.trans H; rw [hy144]; with_reducible exact H2_) | (have H2_ := (Option.bind_some _ _).symm.trans H; with_reducible exact H2_) | with_reducible exact H | (rw [hy144]; exact H) | exact H
    have Ny144 := Aside0.mk hy144; clear hy144
    have H' := Aside0.mk H
    clear H
    have p143 : 0 ≤ (x14_1 : Int) := uO
    have q143 : x14_1 < (l0.length : Int) := uO
    obtain ⟨ad143, e143, hx143_0⟩ := Kd.at_int HR0.out x14_1 p143 q143
    cases e143
    replace hx143_0 := (HB.out.cell (World.block_lt_of_cell? w _ hx143_0)).trans hx143_0
    replace p143 := eq_true p143
    replace q143 := eq_true q143
    have p20 : 0 ≤ (x14_1 : Int) := uO
    have q20 : (x14_1 : Int) < ((x5_1.length : Int) : Int) := uO
    obtain ⟨go20, co20, eo20, gb20, gl20, cl20, HG20⟩ := Kd.R_form HO_5.out (by omega)
    (first | cases eo20 | (injection eo20 with ea_ en_ ec_; (first | subst ea_ | (injection ea_ with ea_; subst ea_)); subst ec_; clear en_))
    have GB20 := Aside0.mk gb20; have GG20 := Aside0.mk HG20; clear gb20 gl20 HG20
    obtain ⟨hx20_0, hf20_0⟩ := Kd.R_celln 0 HO_5.out (x14_1 : Int) p20 q20
    replace p20 := eq_true p20
    replace q20 := eq_true q20
    have HP21 := Kd.R_putg HO_5.out (x14_1 : Int) (sub64_s (rd l0 x14_1) 0 x6_1)
    go_wp2_with (first | ((with_reducible refine gate_store (t := 27) (p := 37) rfl ?_); refine store_event (t := 27) (p := 37) (v := ?vo_w22) (w1 := (wr.setCell ⟨go20, (x14_1 : Int).toNat, none⟩ (.int .u64 (sub64_s (rd l0 x14_1) 0 x6_1)))) ?hg ?ho ?hn ?hr ?_; (case ho => rfl); (case hg => rfl); (case hn => rfl); (case hr => first | (go_simp; done) | (go_simp; rfl) | (obtain ⟨hy_, hz_⟩ := Kd.R_celln 0 HO_5.out (x14_1 : Int) uO uO; (try simp only [Go.IntWalk.toNatUp] at hy_ hz_); (try simp only [Int.reduceToNat, Int.toNat_zero, Int.toNat_ofNat] at hy_ hz_); first | (go_simp; done) | (go_simp; rfl))); intro w22 hw; have hg : wr.grownBy w22 (some go20) := (by rw [hw]; exact HP21.2); have hp_ : Kd.R (Kd.int .u64) 27 w22 w.heap.size (fun _ => True) (.slice (some ⟨go20, 0, none⟩) x5_1.length co20) y144 := (by rw [hw, Ny144.out]; exact HP21.1); clear HP21; replace HO_5 := Aside0.mk (hp_); replace HB := Aside0.mk ((by rw [hw]; exact below_set (HB.out) GB20.out : Below w.heap.size w w22)); clear hg hw hp_))
    go_roundg k1
    case measure => have := HK1.out; omega
    case rel => exact ⟨(y144), (sub64_c (rd l0 x14_1) 0 x6_1), (wrap64 (x14_1 + 1)), uG, uG, H', ⟨by have := HK1.out; omega⟩, ⟨uR HO_5.out⟩, ⟨uB⟩⟩
   rw [if_neg c7] at H
   have c7b0 : decide (x14_1 < (l0.length : Int)) = false := decide_eq_false c7
   clear c7
   obtain rfl := Option.some.inj H
   go_wp2
   go_ret
   exact ⟨_, uF, uR HO_5.out, uB⟩
end Go.Proofs.Ytgeanpnkllnipab.F
end
section
namespace Go.Proofs.Ytgeanpnkllnipab.F
open Go.RowKit Go.Proofs.YtgeanpnkllnipabW.PrintWords Go.Proofs.YtgeanpnkllnipabW.PrintLast Go.Proofs.YtgeanpnkllnipabW.PrintMore
set_option linter.unusedVariables false
set_option linter.unusedSimpArgs false
def nat_right.f : List (List Int) → Option Bool
  | [] => some true
  | a :: l => (nat_Right.f a).bind fun b => if b = true then nat_right.f l else some false
def nat_right.ix : List (List Int) → Option Nat
  | [] => some 0
  | a :: l => (nat_Right.f a).bind fun b => if b = true then (nat_right.ix l).map (· + 1) else some 0
theorem nat_right.ix_of {l : List (List Int)} {r : Bool} (h : nat_right.f l = some r) : ∃ k, nat_right.ix l = some k ∧ k ≤ l.length ∧ (r = true ↔ k = l.length) ∧ (∀ j, j < k → nat_Right.f (l.getD j []) = some true) ∧ (k < l.length → nat_Right.f (l.getD k []) = some false) := by
  induction l generalizing r with
  | nil =>
    simp only [nat_right.f, Option.some.injEq] at h
    exact ⟨0, rfl, Nat.le_refl _, by simp [← h], fun j hj => absurd hj (Nat.not_lt_zero _), fun hj => absurd hj (Nat.not_lt_zero _)⟩
  | cons a l ih =>
    simp only [nat_right.f] at h
    cases hb : nat_Right.f a with
    | none => rw [hb] at h; simp at h
    | some b =>
      rw [hb] at h
      simp only [Option.bind_some] at h
      cases b with
      | true =>
        simp only [if_true] at h
        obtain ⟨k, hk, hle, hr, hj, hl⟩ := ih h
        refine ⟨k + 1, by simp [nat_right.ix, hb, hk], by simp; omega, by simp [hr], ?_, ?_⟩
        · intro j hjk
          cases j with
          | zero => simpa using hb
          | succ j => simpa using hj j (by omega)
        · intro hlt
          simpa using hl (by simpa using hlt)
      | false =>
        simp at h
        refine ⟨0, by simp [nat_right.ix, hb], Nat.zero_le _, ?_, fun j hj => absurd hj (Nat.not_lt_zero _), fun _ => by simpa using hb⟩
        simp [← h]
set_option maxHeartbeats 1000000 in
theorem nat_right.closure (A0 : Option Addr) (c0 : Nat) (l0 : List Int) (r : Bool) (w : World) (hr0 : Kd.C (Kd.int .u64) w A0 l0.length l0) (hc0 : l0.length ≤ c0) (h : nat_Right.f l0 = some r) :
    Calls Try.prog 131 #[.slice A0 l0.length c0] w fun e w' => e = .returned (.bool (!r)) ∧ Drawn0 w w' := by
  have hcall := nat_Right.calls A0 c0 l0 r w hr0 hc0 h
  clear hr0 hc0 h
  have HC := Aside0.mk hcall
  clear hcall
  go_enter Try.func131, Try.ntmps131
  go_wp2_with (go_at_call 47; refine HC.out.mono ?_; rintro e w' ⟨rfl, hd⟩)
  go_ret
  exact ⟨rfl, hd⟩
set_option maxHeartbeats 8000000 in
set_option maxRecDepth 100000 in
theorem nat_right.index (A0 : Option Addr) (c0 : Nat) (l0 : List (List Int)) (r : Bool) (w : World) (hr0 : Kd.C (Kd.slice 27 (Kd.int .u64)) w A0 l0.length l0) (hc0 : l0.length ≤ c0) (h : nat_right.f l0 = some r) :
    Calls Try.prog 120 #[.slice A0 l0.length c0, .func (.func 131) #[] #[]] w fun e w' => (∃ k : Int, e = .returned (.int .i64 k) ∧ decide (0 ≤ k) = !r) ∧ Drawn0 w w' := by
  have HR0 := Aside0.mk hr0
  obtain ⟨k, hk, hle, hr, hj, hl⟩ := nat_right.ix_of h
  have hbig : l0.length ≤ 9223372036854775807 := hr0.2.1
  have HJ := Aside0.mk hj
  have HL := Aside0.mk hl
  have HRR := Aside0.mk hr
  clear hr0 hc0 hj hl hk h hr
  go_enter Try.func120, Try.ntmps120
  go_wp2
  go_loopg [5, 8] l0.length (fun gg _ s8 wr => ∃ kk : Nat, kk ≤ k ∧ l0.length - kk ≤ gg ∧ s8 = .int .i64 kk ∧ Aside0 (Drawn0 w wr))
  case atStart => exact ⟨0, Nat.zero_le _, by omega, rfl, ⟨Drawn0.refl _⟩⟩
  case round =>
    obtain ⟨kk, hkk, hg, rfl, D⟩ := hrel
    by_cases hlt : kk < l0.length
    · have hltz : (kk : Int) < (l0.length : Int) := by omega
      have hC1 : Kd.C (Kd.slice 27 (Kd.int .u64)) wr A0 l0.length l0 := Kd.C_below HR0.out D.out.below
      have h0k : (0 : Int) ≤ (kk : Int) := Int.natCast_nonneg kk
      obtain ⟨ad, c, hA, _, hK, hc⟩ := Kd.C_get hC1 ([] : List Int) (kk : Int) h0k hltz
      obtain ⟨A1, c1, rfl, hl1, hi1⟩ := hK
      subst hA
      have hcell := hc 0 _ rfl
      rw [Nat.add_zero, show (Kd.slice 27 (Kd.int .u64)).sz = 1 from rfl, Nat.mul_one] at hcell
      simp only [Go.IntWalk.toNatUp] at hcell hl1 hi1
      have HX := HJ.out kk
      have HY := HL.out
      clear hc hC1
      generalize hx : l0.getD kk [] = x at hcell hl1 hi1 HX
      by_cases hlast : kk < k
      · have hcall := Aside0.mk (nat_right.closure A1 c1 x true wr hi1 hl1 (HX hlast))
        have D2 := D
        clear D hi1 HX HY hx
        go_wp2_with (go_at_call 131; refine hcall.out.mono ?_; rintro e w' ⟨rfl, ⟨q, rfl⟩⟩)
        go_roundg (l0.length - (kk + 1))
        case measure => omega
        case rel => exact ⟨kk + 1, by omega, by omega, by go_num, ⟨D2.out.step _⟩⟩
      · have hkk' : kk = k := by omega
        subst hkk'
        have HZ := HY hlt
        rw [hx] at HZ
        have hcall := Aside0.mk (nat_right.closure A1 c1 x false wr hi1 hl1 HZ)
        have hr : r = false := by
          cases r with
          | false => rfl
          | true => have := HRR.out.1 rfl; omega
        have HR := Aside0.mk hr
        have D2 := D
        clear D hi1 HX HY hx HZ hr
        go_wp2_with (go_at_call 131; refine hcall.out.mono ?_; rintro e w' ⟨rfl, ⟨q, rfl⟩⟩)
        go_ret
        exact ⟨⟨_, rfl, by rw [HR.out]; simp⟩, D2.out.step _⟩
    · have hltz : ¬ (kk : Int) < (l0.length : Int) := by omega
      have hr : r = true := HRR.out.2 (by omega)
      have HR := Aside0.mk hr
      clear hr
      go_wp2
      go_ret
      exact ⟨⟨_, rfl, by rw [HR.out]; simp⟩, D.out⟩
set_option maxHeartbeats 8000000 in
set_option maxRecDepth 100000 in
theorem nat_right.contains (A0 : Option Addr) (c0 : Nat) (l0 : List (List Int)) (r : Bool) (w : World) (hr0 : Kd.C (Kd.slice 27 (Kd.int .u64)) w A0 l0.length l0) (hc0 : l0.length ≤ c0) (h : nat_right.f l0 = some r) :
    Calls Try.prog 87 #[.slice A0 l0.length c0, .func (.func 131) #[] #[]] w fun e w' => e = .returned (.bool (!r)) ∧ Drawn0 w w' := by
  have hcall := Aside0.mk (nat_right.index A0 c0 l0 r w hr0 hc0 h)
  clear hr0 hc0 h
  go_enter Try.func87, Try.ntmps87
  go_wp2_with (go_at_call 120; refine hcall.out.mono ?_; rintro e w' ⟨⟨k, rfl, hk⟩, hd⟩; have HK := Aside0.mk hk; have HD := Aside0.mk hd; clear hk hd)
  go_ret
  exact ⟨by rw [← HK.out]; rfl, HD.out⟩
set_option maxHeartbeats 8000000 in
set_option maxRecDepth 100000 in
theorem nat_right.calls (A0 : Option Addr) (c0 : Nat) (l0 : List (List Int)) (r : Bool) (w : World) (hr0 : Kd.C (Kd.slice 27 (Kd.int .u64)) w A0 l0.length l0) (hc0 : l0.length ≤ c0) (h : nat_right.f l0 = some r) :
    Calls Try.prog 114 #[.slice A0 l0.length c0] w fun e w' => e = .returned (.bool r) ∧ Drawn0 w w' := by
  have hcall := Aside0.mk (nat_right.contains A0 c0 l0 r w hr0 hc0 h)
  clear hr0 hc0 h
  go_enter Try.func114, Try.ntmps114
  go_wp2_with (go_at_call 87; refine hcall.out.mono ?_; rintro e w' ⟨rfl, hd⟩; have HD := Aside0.mk hd; clear hd)
  go_ret
  exact ⟨by cases r <;> rfl, HD.out⟩
def modint_right.f : List S52 → Option Bool
  | [] => some true
  | a :: l => (modint_Right.f a.f0 a.f1).bind fun b => if b = true then modint_right.f l else some false
def modint_right.ix : List S52 → Option Nat
  | [] => some 0
  | a :: l => (modint_Right.f a.f0 a.f1).bind fun b => if b = true then (modint_right.ix l).map (· + 1) else some 0
theorem modint_right.ix_of {l : List S52} {r : Bool} (h : modint_right.f l = some r) : ∃ k, modint_right.ix l = some k ∧ k ≤ l.length ∧ (r = true ↔ k = l.length) ∧ (∀ j, j < k → modint_Right.f (l.getD j z52).f0 (l.getD j z52).f1 = some true) ∧ (k < l.length → modint_Right.f (l.getD k z52).f0 (l.getD k z52).f1 = some false) := by
  induction l generalizing r with
  | nil =>
    simp only [modint_right.f, Option.some.injEq] at h
    exact ⟨0, rfl, Nat.le_refl _, by simp [← h], fun j hj => absurd hj (Nat.not_lt_zero _), fun hj => absurd hj (Nat.not_lt_zero _)⟩
  | cons a l ih =>
    simp only [modint_right.f] at h
    cases hb : modint_Right.f a.f0 a.f1 with
    | none => rw [hb] at h; simp at h
    | some b =>
      rw [hb] at h
      simp only [Option.bind_some] at h
      cases b with
      | true =>
        simp only [if_true] at h
        obtain ⟨k, hk, hle, hr, hj, hl⟩ := ih h
        refine ⟨k + 1, by simp [modint_right.ix, hb, hk], by simp; omega, by simp [hr], ?_, ?_⟩
        · intro j hjk
          cases j with
          | zero => simpa using hb
          | succ j => simpa using hj j (by omega)
        · intro hlt
          simpa using hl (by simpa using hlt)
      | false =>
        simp at h
        refine ⟨0, by simp [modint_right.ix, hb], Nat.zero_le _, ?_, fun j hj => absurd hj (Nat.not_lt_zero _), fun _ => by simpa using hb⟩
        simp [← h]
set_option maxHeartbeats 1000000 in
theorem modint_right.closure (b0 : Bool) (A0 : Option Addr) (c0 : Nat) (l0 : List Int) (r : Bool) (w : World) (hr0 : Kd.C (Kd.int .u64) w A0 l0.length l0) (hc0 : l0.length ≤ c0) (h : modint_Right.f b0 l0 = some r) :
    Calls Try.prog 123 #[.agg #[.bool b0, .slice A0 l0.length c0]] w fun e w' => e = .returned (.bool (!r)) ∧ Below w.heap.size w w' := by
  have HR0 := Aside0.mk hr0
  have HC0 := Aside0.mk hc0
  have HH := Aside0.mk h
  have HB := Aside0.mk (Below.refl w.heap.size w)
  clear hr0 hc0 h
  go_enter Try.func123, Try.ntmps123
  go_wp2_with (first | ((with_reducible refine gate_dst (N := 1) rfl ?_); (try (refine gate_guard (by rfl) ?_; dsimp only)); refine box_event ?hg (N := 1) ?hd (cs := #[.bool b0, .slice A0 l0.length c0]) (t := 52) ?hr ?_; (case hd => rfl); (case hg => rfl); (case hr => first | (go_simp; done) | (go_simp; rfl)); intro gb622 hg w5 hbox hb; have n0_ := Aside0.mk (below_step HB.out hb); have n1_ := Aside0.mk hbox; clear HB; have HB := n0_; have BK622 := n1_; clear n0_ n1_; clear hb hbox hg; have hcz6_0 : w5.cell? ⟨gb622, 0, none⟩ = some (.bool b0) := (blk_cell BK622.out 0).trans rfl; have hcz6_1 : w5.cell? ⟨gb622, 1, none⟩ = some (.slice A0 l0.length c0) := (blk_cell BK622.out 1).trans rfl; have hfz6_0 := blk_frozen BK622.out 0; have hfz6_1 := blk_frozen BK622.out 1) | (go_at_call 79; refine (modint_Right.calls b0 A0 c0 l0 r _ ?side1 HC0.out HH.out).mono ?_; (case side1 => repeat (first | exact (Kd.C_below HR0.out HB.out) | (with_reducible refine Kd.C_alloc ?_ _) | (with_reducible refine Kd.C_drewN ?_ _) | (with_reducible refine Kd.C_drew ?_))); rintro e w' ⟨rfl, hd⟩; have n0_ := Aside0.mk (below_step (by repeat (first | (with_reducible first | exact HB.out | apply below_alloc | apply pw_below_drewN | apply below_drew1) | exact HB.out)) hd); clear HB hd; have HB := n0_; clear n0_))
  go_ret
  exact ⟨rfl, by repeat (first | (with_reducible first | exact HB.out | apply below_alloc | apply pw_below_drewN | apply below_drew1) | exact HB.out)⟩
set_option maxHeartbeats 8000000 in
set_option maxRecDepth 100000 in
theorem modint_right.index (A0 : Option Addr) (c0 : Nat) (l0 : List S52) (r : Bool) (w : World) (hr0 : Kd.C k52 w A0 l0.length l0) (hc0 : l0.length ≤ c0) (h : modint_right.f l0 = some r) :
    Calls Try.prog 133 #[.slice A0 l0.length c0, .func (.func 123) #[] #[]] w fun e w' => (∃ k : Int, e = .returned (.int .i64 k) ∧ decide (0 ≤ k) = !r) ∧ Below w.heap.size w w' := by
  have HR0 := Aside0.mk hr0
  obtain ⟨k, hk, hle, hr, hj, hl⟩ := modint_right.ix_of h
  have hbig : l0.length ≤ 9223372036854775807 := hr0.2.1
  have HJ := Aside0.mk hj
  have HL := Aside0.mk hl
  have HRR := Aside0.mk hr
  clear hr0 hc0 hj hl hk h hr
  go_enter Try.func133, Try.ntmps133
  go_wp2
  go_loopg [5, 8] l0.length (fun gg _ s8 wr => ∃ kk : Nat, kk ≤ k ∧ l0.length - kk ≤ gg ∧ s8 = .int .i64 kk ∧ Aside0 (Below w.heap.size w wr))
  case atStart => exact ⟨0, Nat.zero_le _, by omega, rfl, ⟨Below.refl _ _⟩⟩
  case round =>
    obtain ⟨kk, hkk, hg, rfl, D⟩ := hrel
    by_cases hlt : kk < l0.length
    · have hltz : (kk : Int) < (l0.length : Int) := by omega
      have hC1 : Kd.C k52 wr A0 l0.length l0 := Kd.C_below HR0.out D.out
      have h0k : (0 : Int) ≤ (kk : Int) := Int.natCast_nonneg kk
      obtain ⟨ad, A1, c1, hA, hcell, hcell1, hl1, hi1⟩ := at_T52 hC1 (kk : Int) h0k hltz
      subst hA
      simp only [Go.IntWalk.toNatUp, rd_T52] at hcell hcell1 hl1 hi1
      have HX := HJ.out kk
      have HY := HL.out
      clear hC1
      generalize hx : l0.getD kk z52 = x at hcell hcell1 hl1 hi1 HX
      obtain ⟨x0, x1⟩ := x
      by_cases hlast : kk < k
      · have hcall := Aside0.mk (modint_right.closure x0 A1 c1 x1 true wr hi1 hl1 (HX hlast))
        have D2 := D
        clear D hi1 HX HY hx
        go_wp2_with (go_at_call 123; refine hcall.out.mono ?_; rintro e w' ⟨rfl, hb⟩; have D3 := Aside0.mk (below_step D2.out hb); clear hb)
        go_roundg (l0.length - (kk + 1))
        case measure => omega
        case rel => exact ⟨kk + 1, by omega, by omega, by go_num, D3⟩
      · have hkk' : kk = k := by omega
        subst hkk'
        have HZ := HY hlt
        rw [hx] at HZ
        have hcall := Aside0.mk (modint_right.closure x0 A1 c1 x1 false wr hi1 hl1 HZ)
        have hr : r = false := by
          cases r with
          | false => rfl
          | true => have := HRR.out.1 rfl; omega
        have HR := Aside0.mk hr
        have D2 := D
        clear D hi1 HX HY hx HZ hr
        go_wp2_with (go_at_call 123; refine hcall.out.mono ?_; rintro e w' ⟨rfl, hb⟩; have D3 := Aside0.mk (below_step D2.out hb); clear hb)
        go_ret
        exact ⟨⟨_, rfl, by rw [HR.out]; simp⟩, D3.out⟩
    · have hltz : ¬ (kk : Int) < (l0.length : Int) := by omega
      have hr : r = true := HRR.out.2 (by omega)
      have HR := Aside0.mk hr
      clear hr
      go_wp2
      go_ret
      exact ⟨⟨_, rfl, by rw [HR.out]; simp⟩, D.out⟩
set_option maxHeartbeats 8000000 in
set_option maxRecDepth 100000 in
theorem modint_right.contains (A0 : Option Addr) (c0 : Nat) (l0 : List S52) (r : Bool) (w : World) (hr0 : Kd.C k52 w A0 l0.length l0) (hc0 : l0.length ≤ c0) (h : modint_right.f l0 = some r) :
    Calls Try.prog 122 #[.slice A0 l0.length c0, .func (.func 123) #[] #[]] w fun e w' => e = .returned (.bool (!r)) ∧ Below w.heap.size w w' := by
  have hcall := Aside0.mk (modint_right.index A0 c0 l0 r w hr0 hc0 h)
  clear hr0 hc0 h
  go_enter Try.func122, Try.ntmps122
  go_wp2_with (go_at_call 133; refine hcall.out.mono ?_; rintro e w' ⟨⟨k, rfl, hk⟩, hd⟩; have HK := Aside0.mk hk; have HD := Aside0.mk hd; clear hk hd)
  go_ret
  exact ⟨by rw [← HK.out]; rfl, HD.out⟩
set_option maxHeartbeats 8000000 in
set_option maxRecDepth 100000 in
theorem modint_right.calls (A0 : Option Addr) (c0 : Nat) (l0 : List S52) (r : Bool) (w : World) (hr0 : Kd.C k52 w A0 l0.length l0) (hc0 : l0.length ≤ c0) (h : modint_right.f l0 = some r) :
    Calls Try.prog 100 #[.slice A0 l0.length c0] w fun e w' => e = .returned (.bool r) ∧ Below w.heap.size w w' := by
  have hcall := Aside0.mk (modint_right.contains A0 c0 l0 r w hr0 hc0 h)
  clear hr0 hc0 h
  go_enter Try.func100, Try.ntmps100
  go_wp2_with (go_at_call 122; refine hcall.out.mono ?_; rintro e w' ⟨rfl, hd⟩; have HD := Aside0.mk hd; clear hd)
  go_ret
  exact ⟨by cases r <;> rfl, HD.out⟩
end Go.Proofs.Ytgeanpnkllnipab.F
end
section
namespace Go.Proofs.Ytgeanpnkllnipab.F
open Go.RowKit Go.Proofs.YtgeanpnkllnipabW.PrintWords Go.Proofs.YtgeanpnkllnipabW.PrintLast Go.Proofs.YtgeanpnkllnipabW.PrintMore
attribute [local go_sem] max2_int min2_int max_two min_two max_three min_three max_four min_four
set_option linter.unusedVariables false
set_option linter.unusedSimpArgs false
def nat_Sub.f (k : Nat) (l0 : List Int) (l1 : List Int) : Option (List Int × Int) := (nat_right.f (([l0, l1] : List (List Int)))).bind fun t279 => (if t279 = true then ((nat_compare.f k l0 l1).bind fun t280 => (if t280 < 0 then (some (([] : List Int), 2)) else ((nat_less.f k l0 l1).bind fun t281 => ((nat_told.f k t281).bind fun bt284 => (some (bt284.1, bt284.2)))))) else (some (([] : List Int), 1)))
set_option maxHeartbeats 8000000 in
set_option maxRecDepth 100000 in
theorem nat_Sub.calls (k : Nat) (P0_ : Nat → Prop) (A0 : Option Addr) (c0 : Nat) (l0 : List Int) (P1_ : Nat → Prop) (A1 : Option Addr) (c1 : Nat) (l1 : List Int) (r1 : List Int) (r2 : Int) (w : World) (hs0 : Kd.V (Kd.int .u64) 27 w w.heap.size (fun k_ => P0_ k_) (.slice A0 l0.length c0) l0) (hs1 : Kd.V (Kd.int .u64) 27 w w.heap.size (fun k_ => P1_ k_) (.slice A1 l1.length c1) l1) (h : nat_Sub.f k l0 l1 = some (r1, r2)) :
  Calls Try.prog 80 #[.slice A0 l0.length c0, .slice A1 l1.length c1] w fun e w' => ∃ v0_ : Value, e = .returned (.tuple #[v0_, .int .i64 r2]) ∧ Kd.R (Kd.int .u64) 27 w' w.heap.size (fun k_ => (w.heap.size ≤ k_)) v0_ r1 ∧ Below w.heap.size w w' := by
 have HO0 := Aside0.mk (show Kd.V (Kd.int .u64) 27 w w.heap.size (fun k_ => ((P0_ k_ ∨ P1_ k_) ∨ w.heap.size ≤ k_)) (.slice A0 l0.length c0) l0 from Kd.V_mono hs0 (fun k_ hk => .inl (.inl hk)))
 have HO1 := Aside0.mk (show Kd.V (Kd.int .u64) 27 w w.heap.size (fun k_ => ((P0_ k_ ∨ P1_ k_) ∨ w.heap.size ≤ k_)) (.slice A1 l1.length c1) l1 from Kd.V_mono hs1 (fun k_ hk => .inl (.inr hk)))
 have HB := Aside0.mk (Below.refl w.heap.size w)
 have H : ((nat_right.f (([l0, l1] : List (List Int)))).bind fun t279 => (if t279 = true then ((nat_compare.f k l0 l1).bind fun t280 => (if t280 < 0 then (some (([] : List Int), 2)) else ((nat_less.f k l0 l1).bind fun t281 => ((nat_told.f k t281).bind fun bt284 => (some (bt284.1, bt284.2)))))) else (some (([] : List Int), 1)))) = some (r1, r2) := h
 clear h
 obtain ⟨y276, hy276⟩ : ∃ y_ : List (List Int), y_ = (([l0, l1] : List (List Int))) := ⟨_, rfl⟩
 replace H : ((nat_right.f y276).bind fun t279 => (if t279 = true then ((nat_compare.f k l0 l1).bind fun t280 => (if t280 < 0 then (some (([] : List Int), 2)) else ((nat_less.f k l0 l1).bind fun t281 => ((nat_told.f k t281).bind fun bt284 => (some (bt284.1, bt284.2)))))) else (some (([] : List Int), 1)))) = some (r1, r2) := by first | (rw [hy276]; with_reducible exact H) | (have H2_ := (Option.bind_some _ _).symm.trans H; rw [hy276]; with_reducible exact H2_) | (have H2_ := (Option.bind_some _ _).symm.trans H; with_reducible exact H2_) | with_reducible exact H | (rw [hy276]; exact H) | exact H
 have Ny276 := Aside0.mk hy276; clear hy276
 replace H := ub H; obtain ⟨t279, A3, H⟩ := H
 by_cases c4 : t279 = true
 ·
  subst c4
  have H1 : ((nat_compare.f k l0 l1).bind fun t280 => (if t280 < 0 then (some (([] : List Int), 2)) else ((nat_less.f k l0 l1).bind fun t281 => ((nat_told.f k t281).bind fun bt284 => (some (bt284.1, bt284.2)))))) = some (r1, r2) := by rw [if_pos rfl] at H; exact H
  clear H; have H := H1; clear H1
  replace H := ub H; obtain ⟨t280, A5, H⟩ := H
  by_cases c6 : t280 < 0
  ·
   rw [if_pos c6] at H
   have c6b0 : decide (t280 < 0) = true := decide_eq_true c6
   clear c6
   simp only [Option.some.injEq, Prod.mk.injEq] at H
   obtain ⟨rfl, rfl⟩ := H
   go_enter Try.func80, Try.ntmps80
   go_wp2_with (first | ((with_reducible refine gate_dst (N := 9) rfl ?_); refine Kd.N_lit (Kd.slice 27 (Kd.int .u64)) _ 23 ?hg (N' := 9) ?hd (xs := ([l0, l1] : List (List Int))) (inner := [.slice A0 l0.length c0, .slice A1 l1.length c1]) (ok := (fun k_ => ((P0_ k_ ∨ P1_ k_) ∨ w.heap.size ≤ k_))) (okp := (fun k_ => ((P0_ k_ ∨ P1_ k_) ∨ w.heap.size ≤ k_))) ?hr ?hp (fun _ hk => hk) ((show ∀ k_, w.heap.size ≤ k_ → (fun k_ => ((P0_ k_ ∨ P1_ k_) ∨ w.heap.size ≤ k_)) k_ from fun k_ hk => (.inr (Nat.le_trans (below_size uB) hk))) _ (Nat.le_refl _)) (Below.refl _ _) (Nat.le_refl _) (by simp) ?_; (case hd => rfl); (case hg => rfl); (case hr => first | (go_simp; done) | (go_simp; rfl) | (go_simp; simp only [u64_u8]; done) | (go_simp; simp only [u64_u8]; rfl)); (case hp => exact (Reps.one (show Kd.FK (Kd.slice 27 (Kd.int .u64)) _ _ l0 [.slice A0 l0.length c0] from (Kd.FK_slice_mk (Kd.V_reads' (Kd.V_mono (ok' := (fun k_ => ((P0_ k_ ∨ P1_ k_) ∨ w.heap.size ≤ k_))) (HO0.out) (fun k_ hk => hk))).2.1 (Kd.V_F (Kd.V_mono (ok' := (fun k_ => ((P0_ k_ ∨ P1_ k_) ∨ w.heap.size ≤ k_))) (HO0.out) (fun k_ hk => hk))))) (Reps.one (show Kd.FK (Kd.slice 27 (Kd.int .u64)) _ _ l1 [.slice A1 l1.length c1] from (Kd.FK_slice_mk (Kd.V_reads' (Kd.V_mono (ok' := (fun k_ => ((P0_ k_ ∨ P1_ k_) ∨ w.heap.size ≤ k_))) (HO1.out) (fun k_ hk => hk))).2.1 (Kd.V_F (Kd.V_mono (ok' := (fun k_ => ((P0_ k_ ∨ P1_ k_) ∨ w.heap.size ≤ k_))) (HO1.out) (fun k_ hk => hk))))) (Reps.none _ _)))); intro v277 w7 ho8 hb hg_ hnew_; clear hg_ hnew_; (first | rw [← Ny276.out] at ho8 | (simp only [Int.reduceToNat] at ho8; rw [← Ny276.out] at ho8)); replace HO0 := Aside0.mk (Kd.V_elder' (uV HO0.out) (Kd.N_base ho8) hb); replace HO1 := Aside0.mk (Kd.V_elder' (uV HO1.out) (Kd.N_base ho8) hb); have HO278 := Aside0.mk (Kd.N_lower ho8 (below_size uB)); replace HB := uy hb; clear hb ho8; obtain ⟨Ao9, co9, eo9⟩ := Kd.N_slice HO278.out; subst eo9) | ((with_reducible refine gate_callee (f := 114) rfl ?_); refine goesL_ (some 10) rfl rfl Try.func114 (by kernel_rfl) rfl #[.slice Ao9 y276.length co9] rfl uM ?_; (with_reducible refine (nat_right.calls _ _ y276 true _ ?side1 ?side2 A3.out).mono ?_); (case side1 => exact uC (Kd.N_reads' HO278.out).2.2); (case side2 => exact (Kd.N_reads' HO278.out).2.1); rintro e w' ⟨rfl, ⟨nd, rfl⟩⟩; refine ⟨_, rfl, ?_⟩) | ((with_reducible refine gate_callee (f := 115) rfl ?_); refine goesL_ (some 15) rfl rfl Try.func115 (by kernel_rfl) rfl #[.slice A0 l0.length c0, .slice A1 l1.length c1] rfl uM ?_; (with_reducible refine (nat_compare.calls k _ _ l0 _ _ l1 t280 _ ?side1 ?side2 ?side3 ?side4 A5.out).mono ?_); (case side1 => exact uC (Kd.V_reads' HO0.out).2.2); (case side2 => exact (Kd.V_reads' HO0.out).2.1); (case side3 => exact uC (Kd.V_reads' HO1.out).2.2); (case side4 => exact (Kd.V_reads' HO1.out).2.1); rintro e w' ⟨rfl, ⟨nd, rfl⟩⟩; refine ⟨_, rfl, ?_⟩))
   go_ret2
   exact ⟨_, uF, uI, uB⟩
  rw [if_neg c6] at H
  have c6b0 : decide (t280 < 0) = false := decide_eq_false c6
  clear c6
  replace H := ub H; obtain ⟨t281, A10, H⟩ := H
  replace H := ub H; obtain ⟨⟨t284, t287⟩, A11, H⟩ := H
  (try dsimp only at H)
  simp only [Option.some.injEq, Prod.mk.injEq] at H
  obtain ⟨rfl, rfl⟩ := H
  go_enter Try.func80, Try.ntmps80
  go_wp2_with (first | ((with_reducible refine gate_dst (N := 9) rfl ?_); refine Kd.N_lit (Kd.slice 27 (Kd.int .u64)) _ 23 ?hg (N' := 9) ?hd (xs := ([l0, l1] : List (List Int))) (inner := [.slice A0 l0.length c0, .slice A1 l1.length c1]) (ok := (fun k_ => ((P0_ k_ ∨ P1_ k_) ∨ w.heap.size ≤ k_))) (okp := (fun k_ => ((P0_ k_ ∨ P1_ k_) ∨ w.heap.size ≤ k_))) ?hr ?hp (fun _ hk => hk) ((show ∀ k_, w.heap.size ≤ k_ → (fun k_ => ((P0_ k_ ∨ P1_ k_) ∨ w.heap.size ≤ k_)) k_ from fun k_ hk => (.inr (Nat.le_trans (below_size uB) hk))) _ (Nat.le_refl _)) (Below.refl _ _) (Nat.le_refl _) (by simp) ?_; (case hd => rfl); (case hg => rfl); (case hr => first | (go_simp; done) | (go_simp; rfl) | (go_simp; simp only [u64_u8]; done) | (go_simp; simp only [u64_u8]; rfl)); (case hp => exact (Reps.one (show Kd.FK (Kd.slice 27 (Kd.int .u64)) _ _ l0 [.slice A0 l0.length c0] from (Kd.FK_slice_mk (Kd.V_reads' (Kd.V_mono (ok' := (fun k_ => ((P0_ k_ ∨ P1_ k_) ∨ w.heap.size ≤ k_))) (HO0.out) (fun k_ hk => hk))).2.1 (Kd.V_F (Kd.V_mono (ok' := (fun k_ => ((P0_ k_ ∨ P1_ k_) ∨ w.heap.size ≤ k_))) (HO0.out) (fun k_ hk => hk))))) (Reps.one (show Kd.FK (Kd.slice 27 (Kd.int .u64)) _ _ l1 [.slice A1 l1.length c1] from (Kd.FK_slice_mk (Kd.V_reads' (Kd.V_mono (ok' := (fun k_ => ((P0_ k_ ∨ P1_ k_) ∨ w.heap.size ≤ k_))) (HO1.out) (fun k_ hk => hk))).2.1 (Kd.V_F (Kd.V_mono (ok' := (fun k_ => ((P0_ k_ ∨ P1_ k_) ∨ w.heap.size ≤ k_))) (HO1.out) (fun k_ hk => hk))))) (Reps.none _ _)))); intro v277 w12 ho13 hb hg_ hnew_; clear hg_ hnew_; (first | rw [← Ny276.out] at ho13 | (simp only [Int.reduceToNat] at ho13; rw [← Ny276.out] at ho13)); replace HO0 := Aside0.mk (Kd.V_elder' (uV HO0.out) (Kd.N_base ho13) hb); replace HO1 := Aside0.mk (Kd.V_elder' (uV HO1.out) (Kd.N_base ho13) hb); have HO278 := Aside0.mk (Kd.N_lower ho13 (below_size uB)); replace HB := uy hb; clear hb ho13; obtain ⟨Ao14, co14, eo14⟩ := Kd.N_slice HO278.out; subst eo14) | ((with_reducible refine gate_callee (f := 114) rfl ?_); refine goesL_ (some 10) rfl rfl Try.func114 (by kernel_rfl) rfl #[.slice Ao14 y276.length co14] rfl uM ?_; (with_reducible refine (nat_right.calls _ _ y276 true _ ?side1 ?side2 A3.out).mono ?_); (case side1 => exact uC (Kd.N_reads' HO278.out).2.2); (case side2 => exact (Kd.N_reads' HO278.out).2.1); rintro e w' ⟨rfl, ⟨nd, rfl⟩⟩; refine ⟨_, rfl, ?_⟩) | ((with_reducible refine gate_callee (f := 115) rfl ?_); refine goesL_ (some 15) rfl rfl Try.func115 (by kernel_rfl) rfl #[.slice A0 l0.length c0, .slice A1 l1.length c1] rfl uM ?_; (with_reducible refine (nat_compare.calls k _ _ l0 _ _ l1 t280 _ ?side1 ?side2 ?side3 ?side4 A5.out).mono ?_); (case side1 => exact uC (Kd.V_reads' HO0.out).2.2); (case side2 => exact (Kd.V_reads' HO0.out).2.1); (case side3 => exact uC (Kd.V_reads' HO1.out).2.2); (case side4 => exact (Kd.V_reads' HO1.out).2.1); rintro e w' ⟨rfl, ⟨nd, rfl⟩⟩; refine ⟨_, rfl, ?_⟩) | ((with_reducible refine gate_callee (f := 117) rfl ?_); refine goesL_ (some 19) rfl rfl Try.func117 (by kernel_rfl) rfl #[.slice A0 l0.length c0, .slice A1 l1.length c1] rfl uM ?_; (with_reducible refine (nat_less.calls k _ _ l0 _ _ l1 t281 _ ?side1 ?side2 ?side3 ?side4 A10.out).mono ?_); (case side1 => exact uC (Kd.V_reads' HO0.out).2.2); (case side2 => exact (Kd.V_reads' HO0.out).2.1); (case side3 => exact uC (Kd.V_reads' HO1.out).2.2); (case side4 => exact (Kd.V_reads' HO1.out).2.1); rintro e w15 ⟨v282, rfl, ho0, hb⟩; refine ⟨_, rfl, ?_⟩; replace HO0 := ueV HO0 ho0 hb; replace HO1 := ueV HO1 ho0 hb; replace HO278 := ueN HO278 ho0 hb; have HO283 := Aside0.mk (Kd.R_lower (Kd.R_newM (M := fun k_ => (w.heap.size ≤ k_)) ho0 (below_size uB) (fun k_ h_ => h_)) (below_size uB)); replace HB := uy hb; (try clear hb ho0); obtain ⟨Ao16, co16, eo16⟩ := Kd.R_slice HO283.out; subst eo16) | ((with_reducible refine gate_callee (f := 116) rfl ?_); refine goesL_ (some 20) rfl rfl Try.func116 (by kernel_rfl) rfl #[.slice Ao16 t281.length co16] rfl uM ?_; (with_reducible refine (nat_told.calls k (fun k_ => some k_ = (.slice Ao16 t281.length co16 : Value).ownBlock) (.slice Ao16 t281.length co16) t281 t284 t287 w _ ?side1 ?side2 A11.out).mono ?_); (case side1 => repeat (first | (with_reducible first | exact HB.out | apply below_alloc | apply pw_below_drewN | apply below_drew1) | exact HB.out)); (case side2 => exact Kd.R_tight rfl HO283.out); rintro e w17 ⟨v285, rfl, ho0, hb, hkp⟩; refine ⟨_, rfl, ?_⟩; replace HO0 := Aside0.mk (Kd.V_mono (ok' := fun k_ => ((P0_ k_ ∨ P1_ k_) ∨ w.heap.size ≤ k_) ∧ some k_ ≠ (.slice Ao14 y276.length co14 : Value).ownBlock ∧ some k_ ≠ (v285 : Value).ownBlock) (Kd.V_keptB (HO0.out) hkp (fun k_ hk_ hs_ => (hk_.2) hs_)) (fun k_ hk_ => ⟨hk_.1.1.1, hk_.1.1.2, fun e_ => Or.elim (ho0.1 k_ e_.symm) (fun hs_ => hk_.2.1 hs_) (fun hn_ => Nat.not_le.2 hk_.2.2 hn_)⟩)); replace HO1 := Aside0.mk (Kd.V_mono (ok' := fun k_ => ((P0_ k_ ∨ P1_ k_) ∨ w.heap.size ≤ k_) ∧ some k_ ≠ (.slice Ao14 y276.length co14 : Value).ownBlock ∧ some k_ ≠ (v285 : Value).ownBlock) (Kd.V_keptB (HO1.out) hkp (fun k_ hk_ hs_ => (hk_.2) hs_)) (fun k_ hk_ => ⟨hk_.1.1.1, hk_.1.1.2, fun e_ => Or.elim (ho0.1 k_ e_.symm) (fun hs_ => hk_.2.1 hs_) (fun hn_ => Nat.not_le.2 hk_.2.2 hn_)⟩)); replace HO278 := Aside0.mk (Kd.N_mono (ok' := fun k_ => ((P0_ k_ ∨ P1_ k_) ∨ w.heap.size ≤ k_) ∧ some k_ ≠ (v285 : Value).ownBlock) (Kd.N_keptB (HO278.out) hkp (fun k_ hk_ hs_ => (hk_.2) hs_)) (fun k_ hk_ => ⟨hk_.1.1, fun e_ => Or.elim (ho0.1 k_ e_.symm) (fun hs_ => hk_.2.1 hs_) (fun hn_ => Nat.not_le.2 hk_.2.2 hn_)⟩)); have HO286 := Aside0.mk (Kd.R_mono (ok' := fun k_ => (w.heap.size ≤ k_)) ho0 (fun k_ hk_ => Or.elim hk_ (fun hs_ => (HO283.out.1 k_ (hs_).symm).1) (fun hn_ => (Nat.le_trans (below_size uB) hn_)))); replace HB := Aside0.mk (hb); clear HO283; (try clear hb); (try clear hkp); (try clear ho0)))
  go_ret2
  exact ⟨_, uF, uR HO286.out, uB⟩
 replace c4 := Bool.eq_false_iff.mpr c4
 subst c4
 have H1 : (some (([] : List Int), 1)) = some (r1, r2) := by rw [if_neg (show ¬ (false = true) by decide)] at H; exact H
 clear H; have H := H1; clear H1
 simp only [Option.some.injEq, Prod.mk.injEq] at H
 obtain ⟨rfl, rfl⟩ := H
 go_enter Try.func80, Try.ntmps80
 go_wp2_with (first | ((with_reducible refine gate_dst (N := 9) rfl ?_); refine Kd.N_lit (Kd.slice 27 (Kd.int .u64)) _ 23 ?hg (N' := 9) ?hd (xs := ([l0, l1] : List (List Int))) (inner := [.slice A0 l0.length c0, .slice A1 l1.length c1]) (ok := (fun k_ => ((P0_ k_ ∨ P1_ k_) ∨ w.heap.size ≤ k_))) (okp := (fun k_ => ((P0_ k_ ∨ P1_ k_) ∨ w.heap.size ≤ k_))) ?hr ?hp (fun _ hk => hk) ((show ∀ k_, w.heap.size ≤ k_ → (fun k_ => ((P0_ k_ ∨ P1_ k_) ∨ w.heap.size ≤ k_)) k_ from fun k_ hk => (.inr (Nat.le_trans (below_size uB) hk))) _ (Nat.le_refl _)) (Below.refl _ _) (Nat.le_refl _) (by simp) ?_; (case hd => rfl); (case hg => rfl); (case hr => first | (go_simp; done) | (go_simp; rfl) | (go_simp; simp only [u64_u8]; done) | (go_simp; simp only [u64_u8]; rfl)); (case hp => exact (Reps.one (show Kd.FK (Kd.slice 27 (Kd.int .u64)) _ _ l0 [.slice A0 l0.length c0] from (Kd.FK_slice_mk (Kd.V_reads' (Kd.V_mono (ok' := (fun k_ => ((P0_ k_ ∨ P1_ k_) ∨ w.heap.size ≤ k_))) (HO0.out) (fun k_ hk => hk))).2.1 (Kd.V_F (Kd.V_mono (ok' := (fun k_ => ((P0_ k_ ∨ P1_ k_) ∨ w.heap.size ≤ k_))) (HO0.out) (fun k_ hk => hk))))) (Reps.one (show Kd.FK (Kd.slice 27 (Kd.int .u64)) _ _ l1 [.slice A1 l1.length c1] from (Kd.FK_slice_mk (Kd.V_reads' (Kd.V_mono (ok' := (fun k_ => ((P0_ k_ ∨ P1_ k_) ∨ w.heap.size ≤ k_))) (HO1.out) (fun k_ hk => hk))).2.1 (Kd.V_F (Kd.V_mono (ok' := (fun k_ => ((P0_ k_ ∨ P1_ k_) ∨ w.heap.size ≤ k_))) (HO1.out) (fun k_ hk => hk))))) (Reps.none _ _)))); intro v277 w18 ho19 hb hg_ hnew_; clear hg_ hnew_; (first | rw [← Ny276.out] at ho19 | (simp only [Int.reduceToNat] at ho19; rw [← Ny276.out] at ho19)); replace HO0 := Aside0.mk (Kd.V_elder' (uV HO0.out) (Kd.N_base ho19) hb); replace HO1 := Aside0.mk (Kd.V_elder' (uV HO1.out) (Kd.N_base ho19) hb); have HO278 := Aside0.mk (Kd.N_lower ho19 (below_size uB)); replace HB := uy hb; clear hb ho19; obtain ⟨Ao20, co20, eo20⟩ := Kd.N_slice HO278.out; subst eo20) | ((with_reducible refine gate_callee (f := 114) rfl ?_); refine goesL_ (some 10) rfl rfl Try.func114 (by kernel_rfl) rfl #[.slice Ao20 y276.length co20] rfl uM ?_; (with_reducible refine (nat_right.calls _ _ y276 false _ ?side1 ?side2 A3.out).mono ?_); (case side1 => exact uC (Kd.N_reads' HO278.out).2.2); (case side2 => exact (Kd.N_reads' HO278.out).2.1); rintro e w' ⟨rfl, ⟨nd, rfl⟩⟩; refine ⟨_, rfl, ?_⟩))
 go_ret2
 exact ⟨_, uF, uI, uB⟩
def nat_Cmp.f (k : Nat) (l0 : List Int) (l1 : List Int) : Option (Int) := (nat_right.f (([l0, l1] : List (List Int)))).bind fun t271 => (if t271 = true then ((nat_compare.f k l0 l1).bind fun t272 => (some t272)) else (some 0))
set_option maxHeartbeats 8000000 in
set_option maxRecDepth 100000 in
theorem nat_Cmp.calls (k : Nat) (P0_ : Nat → Prop) (A0 : Option Addr) (c0 : Nat) (l0 : List Int) (P1_ : Nat → Prop) (A1 : Option Addr) (c1 : Nat) (l1 : List Int) (r : Int) (w : World) (hs0 : Kd.V (Kd.int .u64) 27 w w.heap.size (fun k_ => P0_ k_) (.slice A0 l0.length c0) l0) (hs1 : Kd.V (Kd.int .u64) 27 w w.heap.size (fun k_ => P1_ k_) (.slice A1 l1.length c1) l1) (h : nat_Cmp.f k l0 l1 = some r) :
  Calls Try.prog 82 #[.slice A0 l0.length c0, .slice A1 l1.length c1] w fun e w' => e = .returned (.int .i64 r) ∧ Below w.heap.size w w' := by
 have HO0 := Aside0.mk (show Kd.V (Kd.int .u64) 27 w w.heap.size (fun k_ => ((P0_ k_ ∨ P1_ k_) ∨ w.heap.size ≤ k_)) (.slice A0 l0.length c0) l0 from Kd.V_mono hs0 (fun k_ hk => .inl (.inl hk)))
 have HO1 := Aside0.mk (show Kd.V (Kd.int .u64) 27 w w.heap.size (fun k_ => ((P0_ k_ ∨ P1_ k_) ∨ w.heap.size ≤ k_)) (.slice A1 l1.length c1) l1 from Kd.V_mono hs1 (fun k_ hk => .inl (.inr hk)))
 have HB := Aside0.mk (Below.refl w.heap.size w)
 have H : ((nat_right.f (([l0, l1] : List (List Int)))).bind fun t271 => (if t271 = true then ((nat_compare.f k l0 l1).bind fun t272 => (some t272)) else (some 0))) = some r := h
 clear h
 obtain ⟨y268, hy268⟩ : ∃ y_ : List (List Int), y_ = (([l0, l1] : List (List Int))) := ⟨_, rfl⟩
 replace H : ((nat_right.f y268).bind fun t271 => (if t271 = true then ((nat_compare.f k l0 l1).bind fun t272 => (some t272)) else (some 0))) = some r := by first | (rw [hy268]; with_reducible exact H) | (have H2_ := (Option.bind_some _ _).symm.trans H; rw [hy268]; with_reducible exact H2_) | (have H2_ := (Option.bind_some _ _).symm.trans H; with_reducible exact H2_) | with_reducible exact H | (rw [hy268]; exact H) | exact H
 have Ny268 := Aside0.mk hy268; clear hy268
 replace H := ub H; obtain ⟨t271, A3, H⟩ := H
 by_cases c4 : t271 = true
 ·
  subst c4
  have H1 : ((nat_compare.f k l0 l1).bind fun t272 => (some t272)) = some r := by rw [if_pos rfl] at H; exact H
  clear H; have H := H1; clear H1
  replace H := ub H; obtain ⟨t272, A5, H⟩ := H
  obtain rfl := Option.some.inj H
  go_enter Try.func82, Try.ntmps82
  go_wp2_with (first | ((with_reducible refine gate_dst (N := 7) rfl ?_); refine Kd.N_lit (Kd.slice 27 (Kd.int .u64)) _ 23 ?hg (N' := 7) ?hd (xs := ([l0, l1] : List (List Int))) (inner := [.slice A0 l0.length c0, .slice A1 l1.length c1]) (ok := (fun k_ => ((P0_ k_ ∨ P1_ k_) ∨ w.heap.size ≤ k_))) (okp := (fun k_ => ((P0_ k_ ∨ P1_ k_) ∨ w.heap.size ≤ k_))) ?hr ?hp (fun _ hk => hk) ((show ∀ k_, w.heap.size ≤ k_ → (fun k_ => ((P0_ k_ ∨ P1_ k_) ∨ w.heap.size ≤ k_)) k_ from fun k_ hk => (.inr (Nat.le_trans (below_size uB) hk))) _ (Nat.le_refl _)) (Below.refl _ _) (Nat.le_refl _) (by simp) ?_; (case hd => rfl); (case hg => rfl); (case hr => first | (go_simp; done) | (go_simp; rfl) | (go_simp; simp only [u64_u8]; done) | (go_simp; simp only [u64_u8]; rfl)); (case hp => exact (Reps.one (show Kd.FK (Kd.slice 27 (Kd.int .u64)) _ _ l0 [.slice A0 l0.length c0] from (Kd.FK_slice_mk (Kd.V_reads' (Kd.V_mono (ok' := (fun k_ => ((P0_ k_ ∨ P1_ k_) ∨ w.heap.size ≤ k_))) (HO0.out) (fun k_ hk => hk))).2.1 (Kd.V_F (Kd.V_mono (ok' := (fun k_ => ((P0_ k_ ∨ P1_ k_) ∨ w.heap.size ≤ k_))) (HO0.out) (fun k_ hk => hk))))) (Reps.one (show Kd.FK (Kd.slice 27 (Kd.int .u64)) _ _ l1 [.slice A1 l1.length c1] from (Kd.FK_slice_mk (Kd.V_reads' (Kd.V_mono (ok' := (fun k_ => ((P0_ k_ ∨ P1_ k_) ∨ w.heap.size ≤ k_))) (HO1.out) (fun k_ hk => hk))).2.1 (Kd.V_F (Kd.V_mono (ok' := (fun k_ => ((P0_ k_ ∨ P1_ k_) ∨ w.heap.size ≤ k_))) (HO1.out) (fun k_ hk => hk))))) (Reps.none _ _)))); intro v269 w6 ho7 hb hg_ hnew_; clear hg_ hnew_; (first | rw [← Ny268.out] at ho7 | (simp only [Int.reduceToNat] at ho7; rw [← Ny268.out] at ho7)); replace HO0 := Aside0.mk (Kd.V_elder' (uV HO0.out) (Kd.N_base ho7) hb); replace HO1 := Aside0.mk (Kd.V_elder' (uV HO1.out) (Kd.N_base ho7) hb); have HO270 := Aside0.mk (Kd.N_lower ho7 (below_size uB)); replace HB := uy hb; clear hb ho7; obtain ⟨Ao8, co8, eo8⟩ := Kd.N_slice HO270.out; subst eo8) | ((with_reducible refine gate_callee (f := 114) rfl ?_); refine goesL_ (some 8) rfl rfl Try.func114 (by kernel_rfl) rfl #[.slice Ao8 y268.length co8] rfl uM ?_; (with_reducible refine (nat_right.calls _ _ y268 true _ ?side1 ?side2 A3.out).mono ?_); (case side1 => exact uC (Kd.N_reads' HO270.out).2.2); (case side2 => exact (Kd.N_reads' HO270.out).2.1); rintro e w' ⟨rfl, ⟨nd, rfl⟩⟩; refine ⟨_, rfl, ?_⟩) | ((with_reducible refine gate_callee (f := 115) rfl ?_); refine goesL_ (some 12) rfl rfl Try.func115 (by kernel_rfl) rfl #[.slice A0 l0.length c0, .slice A1 l1.length c1] rfl uM ?_; (with_reducible refine (nat_compare.calls k _ _ l0 _ _ l1 t272 _ ?side1 ?side2 ?side3 ?side4 A5.out).mono ?_); (case side1 => exact uC (Kd.V_reads' HO0.out).2.2); (case side2 => exact (Kd.V_reads' HO0.out).2.1); (case side3 => exact uC (Kd.V_reads' HO1.out).2.2); (case side4 => exact (Kd.V_reads' HO1.out).2.1); rintro e w' ⟨rfl, ⟨nd, rfl⟩⟩; refine ⟨_, rfl, ?_⟩))
  go_ret
  exact ⟨uF, uB⟩
 replace c4 := Bool.eq_false_iff.mpr c4
 subst c4
 have H1 : (some 0) = some r := by rw [if_neg (show ¬ (false = true) by decide)] at H; exact H
 clear H; have H := H1; clear H1
 obtain rfl := Option.some.inj H
 go_enter Try.func82, Try.ntmps82
 go_wp2_with (first | ((with_reducible refine gate_dst (N := 7) rfl ?_); refine Kd.N_lit (Kd.slice 27 (Kd.int .u64)) _ 23 ?hg (N' := 7) ?hd (xs := ([l0, l1] : List (List Int))) (inner := [.slice A0 l0.length c0, .slice A1 l1.length c1]) (ok := (fun k_ => ((P0_ k_ ∨ P1_ k_) ∨ w.heap.size ≤ k_))) (okp := (fun k_ => ((P0_ k_ ∨ P1_ k_) ∨ w.heap.size ≤ k_))) ?hr ?hp (fun _ hk => hk) ((show ∀ k_, w.heap.size ≤ k_ → (fun k_ => ((P0_ k_ ∨ P1_ k_) ∨ w.heap.size ≤ k_)) k_ from fun k_ hk => (.inr (Nat.le_trans (below_size uB) hk))) _ (Nat.le_refl _)) (Below.refl _ _) (Nat.le_refl _) (by simp) ?_; (case hd => rfl); (case hg => rfl); (case hr => first | (go_simp; done) | (go_simp; rfl) | (go_simp; simp only [u64_u8]; done) | (go_simp; simp only [u64_u8]; rfl)); (case hp => exact (Reps.one (show Kd.FK (Kd.slice 27 (Kd.int .u64)) _ _ l0 [.slice A0 l0.length c0] from (Kd.FK_slice_mk (Kd.V_reads' (Kd.V_mono (ok' := (fun k_ => ((P0_ k_ ∨ P1_ k_) ∨ w.heap.size ≤ k_))) (HO0.out) (fun k_ hk => hk))).2.1 (Kd.V_F (Kd.V_mono (ok' := (fun k_ => ((P0_ k_ ∨ P1_ k_) ∨ w.heap.size ≤ k_))) (HO0.out) (fun k_ hk => hk))))) (Reps.one (show Kd.FK (Kd.slice 27 (Kd.int .u64)) _ _ l1 [.slice A1 l1.length c1] from (Kd.FK_slice_mk (Kd.V_reads' (Kd.V_mono (ok' := (fun k_ => ((P0_ k_ ∨ P1_ k_) ∨ w.heap.size ≤ k_))) (HO1.out) (fun k_ hk => hk))).2.1 (Kd.V_F (Kd.V_mono (ok' := (fun k_ => ((P0_ k_ ∨ P1_ k_) ∨ w.heap.size ≤ k_))) (HO1.out) (fun k_ hk => hk))))) (Reps.none _ _)))); intro v269 w9 ho10 hb hg_ hnew_; clear hg_ hnew_; (first | rw [← Ny268.out] at ho10 | (simp only [Int.reduceToNat] at ho10; rw [← Ny268.out] at ho10)); replace HO0 := Aside0.mk (Kd.V_elder' (uV HO0.out) (Kd.N_base ho10) hb); replace HO1 := Aside0.mk (Kd.V_elder' (uV HO1.out) (Kd.N_base ho10) hb); have HO270 := Aside0.mk (Kd.N_lower ho10 (below_size uB)); replace HB := uy hb; clear hb ho10; obtain ⟨Ao11, co11, eo11⟩ := Kd.N_slice HO270.out; subst eo11) | ((with_reducible refine gate_callee (f := 114) rfl ?_); refine goesL_ (some 8) rfl rfl Try.func114 (by kernel_rfl) rfl #[.slice Ao11 y268.length co11] rfl uM ?_; (with_reducible refine (nat_right.calls _ _ y268 false _ ?side1 ?side2 A3.out).mono ?_); (case side1 => exact uC (Kd.N_reads' HO270.out).2.2); (case side2 => exact (Kd.N_reads' HO270.out).2.1); rintro e w' ⟨rfl, ⟨nd, rfl⟩⟩; refine ⟨_, rfl, ?_⟩))
 go_ret
 exact ⟨uF, uB⟩
def fixenc_modulus_may.f (k : Nat) (l0 : List Int) : Option (Bool) := (nat_Right.f l0).bind fun t592 => (if t592 = true then (if (l0.length : Int) ≤ 8 then ((nat_Cmp.f k l0 (([3] : List Int))).bind fun t596 => (some (decide (t596 ≥ 0)))) else (some false)) else (some false))
set_option maxHeartbeats 8000000 in
set_option maxRecDepth 100000 in
theorem fixenc_modulus_may.calls (k : Nat) (A0 : Option Addr) (c0 : Nat) (l0 : List Int) (r : Bool) (w : World) (hr0 : Kd.C (Kd.int .u64) w A0 l0.length l0) (hc0 : l0.length ≤ c0) (h : fixenc_modulus_may.f k l0 = some r) :
  Calls Try.prog 55 #[.slice A0 l0.length c0] w fun e w' => e = .returned (.bool r) ∧ Below w.heap.size w w' := by
 have HR0 := Aside0.mk hr0; have HC0 := Aside0.mk hc0; clear hr0 hc0
 have HB := Aside0.mk (Below.refl w.heap.size w)
 have H : ((nat_Right.f l0).bind fun t592 => (if t592 = true then (if (l0.length : Int) ≤ 8 then ((nat_Cmp.f k l0 (([3] : List Int))).bind fun t596 => (some (decide (t596 ≥ 0)))) else (some false)) else (some false))) = some r := h
 clear h
 replace H := ub H; obtain ⟨t592, A2, H⟩ := H
 by_cases c3 : t592 = true
 ·
  subst c3
  have H1 : (if (l0.length : Int) ≤ 8 then ((nat_Cmp.f k l0 (([3] : List Int))).bind fun t596 => (some (decide (t596 ≥ 0)))) else (some false)) = some r := by rw [if_pos rfl] at H; exact H
  clear H; have H := H1; clear H1
  by_cases c4 : (l0.length : Int) ≤ 8
  ·
   rw [if_pos c4] at H
   have c4b0 : decide ((l0.length : Int) ≤ 8) = true := decide_eq_true c4
   have c4b1 : decide (l0.length ≤ 8) = true := decide_eq_true (by omega)
   clear c4
   obtain ⟨y593, hy593⟩ : ∃ y_ : List Int, y_ = (([3] : List Int)) := ⟨_, rfl⟩
   replace H : ((nat_Cmp.f k l0 y593).bind fun t596 => (some (decide (t596 ≥ 0)))) = some r := by first | (rw [hy593]; with_reducible exact H) | (have H2_ := (Option.bind_some _ _).symm.trans H; rw [hy593]; with_reducible exact H2_) | (have H2_ := (Option.bind_some _ _).symm.trans H; with_reducible exact H2_) | with_reducible exact H | (rw [hy593]; exact H) | exact H
   have Ny593 := Aside0.mk hy593; clear hy593
   replace H := ub H; obtain ⟨t596, A5, H⟩ := H
   obtain rfl := Option.some.inj H
   go_enter Try.func55, Try.ntmps55
   go_wp2_with (first | ((with_reducible refine gate_callee (f := 47) rfl ?_); refine goesL_ (some 4) rfl rfl Try.func47 (by kernel_rfl) rfl #[.slice A0 l0.length c0] rfl uM ?_; (with_reducible refine (nat_Right.calls _ _ l0 true _ ?side1 ?side2 A2.out).mono ?_); (case side1 => exact uC HR0.out); (case side2 => exact HC0.out); rintro e w' ⟨rfl, ⟨nd, rfl⟩⟩; refine ⟨_, rfl, ?_⟩) | ((with_reducible refine gate_dst (N := 12) rfl ?_); (try (refine gate_guard (by rfl) ?_; dsimp only)); refine Kd.R_lit (Kd.int .u64) _ 27 ?hg (N := 12) ?hd (xs := ([3] : List Int)) (inner := [.int .u64 3]) (ok := fun _ => True) (okp := fun _ => True) ?hr ?hp (fun _ hk => hk) trivial (Below.refl _ _) (Nat.le_refl _) (by simp) ?_; (case hd => rfl); (case hg => rfl); (case hr => first | (go_simp; done) | (go_simp; rfl) | (go_simp; simp only [u64_u8]; done) | (go_simp; simp only [u64_u8]; rfl)); (case hp => exact (Reps.one (show Kd.M (Kd.int .u64) _ _ _ 3 [.int .u64 3] from rfl) (Reps.none _ _))); intro v594 w6 ho7 hb hg_ hnew_; clear hg_ hnew_; (first | rw [← Ny593.out] at ho7 | (simp only [Int.reduceToNat] at ho7; rw [← Ny593.out] at ho7)); have HO595 := Aside0.mk (Kd.R_lower ho7 (below_size uB)); replace HB := uy hb; clear hb ho7; obtain ⟨Ao8, co8, eo8⟩ := Kd.R_slice HO595.out; subst eo8) | (go_at_call 82; (with_reducible refine (nat_Cmp.calls k (fun k_ => k_ < w.heap.size) _ _ l0 (fun k_ => some k_ = (.slice Ao8 y593.length co8 : Value).ownBlock) _ _ y593 t596 _ ?side1 ?side2 A5.out).mono ?_); (case side1 => exact Kd.V_mk HC0.out (Kd.F_below (Kd.C_F (Kd.heap_int .u64) HR0.out) uB)); (case side2 => exact Kd.R_V (Kd.R_tight rfl (HO595.out))); rintro e w9 ⟨rfl, hb⟩; replace HO595 := Aside0.mk (Kd.R_below (uR HO595.out) hb); replace HB := uy hb; (try clear hb)))
   go_ret
   exact ⟨uF, uB⟩
  rw [if_neg c4] at H
  have c4b0 : decide ((l0.length : Int) ≤ 8) = false := decide_eq_false c4
  have c4b1 : decide (l0.length ≤ 8) = false := decide_eq_false (by omega)
  clear c4
  obtain rfl := Option.some.inj H
  go_enter Try.func55, Try.ntmps55
  go_wp2_with (first | ((with_reducible refine gate_callee (f := 47) rfl ?_); refine goesL_ (some 4) rfl rfl Try.func47 (by kernel_rfl) rfl #[.slice A0 l0.length c0] rfl uM ?_; (with_reducible refine (nat_Right.calls _ _ l0 true _ ?side1 ?side2 A2.out).mono ?_); (case side1 => exact uC HR0.out); (case side2 => exact HC0.out); rintro e w' ⟨rfl, ⟨nd, rfl⟩⟩; refine ⟨_, rfl, ?_⟩))
  go_ret
  exact ⟨uF, uB⟩
 replace c3 := Bool.eq_false_iff.mpr c3
 subst c3
 have H1 : (some false) = some r := by rw [if_neg (show ¬ (false = true) by decide)] at H; exact H
 clear H; have H := H1; clear H1
 obtain rfl := Option.some.inj H
 go_enter Try.func55, Try.ntmps55
 go_wp2_with (first | ((with_reducible refine gate_callee (f := 47) rfl ?_); refine goesL_ (some 4) rfl rfl Try.func47 (by kernel_rfl) rfl #[.slice A0 l0.length c0] rfl uM ?_; (with_reducible refine (nat_Right.calls _ _ l0 false _ ?side1 ?side2 A2.out).mono ?_); (case side1 => exact uC HR0.out); (case side2 => exact HC0.out); rintro e w' ⟨rfl, ⟨nd, rfl⟩⟩; refine ⟨_, rfl, ?_⟩))
 go_ret
 exact ⟨uF, uB⟩
end Go.Proofs.Ytgeanpnkllnipab.F
end
section
namespace Go.Proofs.Ytgeanpnkllnipab.F
open Go.RowKit Go.Proofs.YtgeanpnkllnipabW.PrintWords Go.Proofs.YtgeanpnkllnipabW.PrintLast Go.Proofs.YtgeanpnkllnipabW.PrintMore
attribute [local go_sem] max2_int min2_int max_two min_two max_three min_three max_four min_four
set_option linter.unusedVariables false
set_option linter.unusedSimpArgs false
attribute [local go_sem] add64_run
mutual
def nat_sum.l0 : Nat → List Int → List Int → List Int → Int → Int → Int → Option (List Int)
 | 0, _, _, _, _, _, _ => none
 | k + 1, x0, x1, x5, x6, x21, x22 => if x22 < x21 then (if x22 < (x1.length : Int) then (if 0 ≤ x22 then (if x22 < (x0.length : Int) then (if carry01 x6 = true then (if x22 < (x5.length : Int) then (nat_sum.l0 k x0 x1 (x5.set (x22 : Int).toNat (add64_s (rd x0 x22) (rd x1 x22) x6)) (add64_c (rd x0 x22) (rd x1 x22) x6) x21 (wrap64 (x22 + 1))) else (none)) else (none)) else (none)) else (none)) else (if 0 ≤ x22 then (if x22 < (x0.length : Int) then (if carry01 x6 = true then (if x22 < (x5.length : Int) then (nat_sum.l0 k x0 x1 (x5.set (x22 : Int).toNat (add64_s (rd x0 x22) 0 x6)) (add64_c (rd x0 x22) 0 x6) x21 (wrap64 (x22 + 1))) else (none)) else (none)) else (none)) else (none))) else (if 0 ≤ (x0.length : Int) then (if (x0.length : Int) < (x5.length : Int) then (some (x5.set ((x0.length : Int) : Int).toNat x6)) else (none)) else (none))
def nat_sum.l51 : Nat → List Int → List Int → List Int → Int → Int → Int → Option (List Int)
 | 0, _, _, _, _, _, _ => none
 | k + 1, x0, x1, x5, x6, x21, x22 => if x22 < x21 then (if x22 < (x1.length : Int) then (if 0 ≤ x22 then (if x22 < (x0.length : Int) then (if carry01 x6 = true then (if x22 < (x5.length : Int) then (nat_sum.l51 k x0 x1 (x5.set (x22 : Int).toNat (add64_s (rd x0 x22) (rd x1 x22) x6)) (add64_c (rd x0 x22) (rd x1 x22) x6) x21 (wrap64 (x22 + 1))) else (none)) else (none)) else (none)) else (none)) else (if 0 ≤ x22 then (if x22 < (x0.length : Int) then (if carry01 x6 = true then (if x22 < (x5.length : Int) then (nat_sum.l51 k x0 x1 (x5.set (x22 : Int).toNat (add64_s (rd x0 x22) 0 x6)) (add64_c (rd x0 x22) 0 x6) x21 (wrap64 (x22 + 1))) else (none)) else (none)) else (none)) else (none))) else (if 0 ≤ (x0.length : Int) then (if (x0.length : Int) < (x5.length : Int) then (some (x5.set ((x0.length : Int) : Int).toNat x6)) else (none)) else (none))
end
def nat_sum.f (k : Nat) (l0 : List Int) (l1 : List Int) : Option (List Int) := if (l0.length : Int) < (l1.length : Int) then (if 0 ≤ (wrap64 ((l1.length : Int) + 1)) then (if (wrap64 ((l1.length : Int) + 1) : Int).toNat ≤ 35184372088832 then (nat_sum.l0 k l1 l0 (List.replicate (wrap64 ((l1.length : Int) + 1) : Int).toNat 0) 0 (l1.length : Int) 0) else (none)) else (none)) else (if 0 ≤ (wrap64 ((l0.length : Int) + 1)) then (if (wrap64 ((l0.length : Int) + 1) : Int).toNat ≤ 35184372088832 then (nat_sum.l51 k l0 l1 (List.replicate (wrap64 ((l0.length : Int) + 1) : Int).toNat 0) 0 (l0.length : Int) 0) else (none)) else (none))
set_option maxHeartbeats 8000000 in
set_option maxRecDepth 100000 in
theorem nat_sum.calls (k : Nat) (A0 : Option Addr) (c0 : Nat) (l0 : List Int) (A1 : Option Addr) (c1 : Nat) (l1 : List Int) (r : List Int) (w : World) (hr0 : Kd.C (Kd.int .u64) w A0 l0.length l0) (hc0 : l0.length ≤ c0) (hr1 : Kd.C (Kd.int .u64) w A1 l1.length l1) (hc1 : l1.length ≤ c1) (h : nat_sum.f k l0 l1 = some r) :
  Calls Try.prog 118 #[.slice A0 l0.length c0, .slice A1 l1.length c1] w fun e w' => ∃ v0_ : Value, e = .returned (v0_) ∧ Kd.R (Kd.int .u64) 27 w' w.heap.size (fun _ => True) v0_ r ∧ Below w.heap.size w w' := by
 have HR0 := Aside0.mk hr0; have HC0 := Aside0.mk hc0; clear hr0 hc0; have HR1 := Aside0.mk hr1; have HC1 := Aside0.mk hc1; clear hr1 hc1
 have HB := Aside0.mk (Below.refl w.heap.size w)
 have H : (if (l0.length : Int) < (l1.length : Int) then (if 0 ≤ (wrap64 ((l1.length : Int) + 1)) then (if (wrap64 ((l1.length : Int) + 1) : Int).toNat ≤ 35184372088832 then (nat_sum.l0 k l1 l0 (List.replicate (wrap64 ((l1.length : Int) + 1) : Int).toNat 0) 0 (l1.length : Int) 0) else (none)) else (none)) else (if 0 ≤ (wrap64 ((l0.length : Int) + 1)) then (if (wrap64 ((l0.length : Int) + 1) : Int).toNat ≤ 35184372088832 then (nat_sum.l51 k l0 l1 (List.replicate (wrap64 ((l0.length : Int) + 1) : Int).toNat 0) 0 (l0.length : Int) 0) else (none)) else (none))) = some r := h
 clear h
 by_cases c3 : (l0.length : Int) < (l1.length : Int)
 ·
  rw [if_pos c3] at H
  have c3b0 : decide ((l0.length : Int) < (l1.length : Int)) = true := decide_eq_true c3
  have c3b1 : decide (l0.length < l1.length) = true := decide_eq_true (Int.ofNat_lt.mp c3)
  clear c3
  obtain ⟨ji4, hji4⟩ : ∃ j_ : Int, (wrap64 ((l1.length : Int) + 1)) = j_ := ⟨_, rfl⟩
  first | rw [hji4] at H | simp only [hji4] at H
  have hji4w : (IntKind.i64.wrap ((l1.length : Int) + 1)) = ji4 := (i64_w _).trans hji4
  replace H := uT H; obtain ⟨c5, H⟩ := H
  have c5b0 := eq_true c5
  have c5b1 : decide (0 ≤ (ji4)) = true := decide_eq_true c5
  clear c5
  replace H := uT H; obtain ⟨c6, H⟩ := H
  have c6b0 := eq_true c6
  have c6b1 : decide ((ji4 : Int).toNat ≤ 35184372088832) = true := decide_eq_true c6
  clear c6
  obtain ⟨y625, hy625⟩ : ∃ y_ : List Int, y_ = (List.replicate (ji4 : Int).toNat 0) := ⟨_, rfl⟩
  replace H : (nat_sum.l0 k l1 l0 y625 0 (l1.length : Int) 0) = some r := by first | (rw [hy625]; with_reducible exact H) | (have H2_ := (Option.bind_some _ _).symm.trans H; rw [hy625]; with_reducible exact H2_) | (have H2_ := (Option.bind_some _ _).symm.trans H; with_reducible exact H2_) | with_reducible exact H | (rw [hy625]; exact H) | exact H
  have Ny625 := Aside0.mk hy625; clear hy625
  have H' := Aside0.mk H
  clear H
  go_enter Try.func118, Try.ntmps118
  go_wp2_with (first | ((with_reducible refine gate_dst (N := 19) rfl ?_); refine Kd.R_make (Kd.int .u64) _ 27 rfl (N := 19) rfl 23 _ _ rfl ji4 rfl rfl Try.underlying23 (.int .u64 0) 8 info27 rfl (by decide) (by omega) 0 (ok := fun _ => True) (okp := fun _ => True) rfl (fun _ hk => hk) trivial uO (Nat.le_trans (Nat.mul_le_mul_right _ (uO : ji4.toNat ≤ 35184372088832)) (by omega)) (Below.refl _ _) (Nat.le_refl _) ?_; intro v626 w7 ho8 hb hg_ hnew_; clear hg_ hnew_; (first | rw [← Ny625.out] at ho8 | (simp only [Int.reduceToNat] at ho8; rw [← Ny625.out] at ho8)); have HO627 := Aside0.mk (Kd.R_lower ho8 (below_size uB)); replace HB := uy hb; clear hb ho8))
  go_loopg [6, 22] k (fun kq v6 v22 w' => ∃ (x5_1 : List Int) (x6_1 : Int) (x22_1 : Int), v6 = .int .u64 x6_1 ∧ v22 = .int .i64 x22_1 ∧ Aside0 (nat_sum.l0 kq l1 l0 x5_1 x6_1 (l1.length : Int) x22_1 = some r) ∧ Aside0 (kq ≤ k) ∧ Aside0 (Kd.R (Kd.int .u64) 27 w' w.heap.size (fun _ => True) v626 x5_1) ∧ Aside0 (Below w.heap.size w w'))
  case atStart => exact ⟨(y625), (0), (0), uG, uG, H', ⟨Nat.le_refl _⟩, ⟨uR HO627.out⟩, ⟨uB⟩⟩
  case round =>
   clear H'
   (try clear c1); (try clear p2); (try clear c3); (try clear c3b0); (try clear c3b1); (try clear c5); (try clear c5b0); (try clear c5b1); (try clear c6); (try clear c6b0); (try clear c6b1); (try clear p6)
   obtain ⟨x5_1, x6_1, x22_1, rfl, rfl, HA, HK1, HO_5, HB⟩ := hrel
   cases gk with
   | zero => exact absurd HA.out (by simp [nat_sum.l0])
   | succ k1 =>
    have H := HA.out
    clear HA
    simp only [nat_sum.l0] at H
    by_cases c9 : x22_1 < (l1.length : Int)
    ·
     rw [if_pos c9] at H
     have c9b0 : decide (x22_1 < (l1.length : Int)) = true := decide_eq_true c9
     clear c9
     by_cases c10 : x22_1 < (l0.length : Int)
     ·
      rw [if_pos c10] at H
      have c10b0 : decide (x22_1 < (l0.length : Int)) = true := decide_eq_true c10
      clear c10
      replace H := uT H; obtain ⟨c11, H⟩ := H
      have c11b0 : decide (0 ≤ x22_1) = true := decide_eq_true c11
      clear c11
      replace H := uT H; obtain ⟨c12, H⟩ := H
      have c12b0 : decide (x22_1 < (l1.length : Int)) = true := decide_eq_true c12
      clear c12
      replace H := uT H; obtain ⟨c13, H⟩ := H
      have c13b0 : carry01 x6_1 = true := c13
      clear c13
      replace H := uT H; obtain ⟨c14, H⟩ := H
      have c14b0 : decide (x22_1 < (x5_1.length : Int)) = true := decide_eq_true c14
      clear c14
      obtain ⟨y630, hy630⟩ : ∃ y_ : List Int, y_ = (x5_1.set (x22_1 : Int).toNat (add64_s (rd l1 x22_1) (rd l0 x22_1) x6_1)) := ⟨_, rfl⟩
      replace H : (nat_sum.l0 k1 l1 l0 y630 (add64_c (rd l1 x22_1) (rd l0 x22_1) x6_1) (l1.length : Int) (wrap64 (x22_1 + 1))) = some r := by first | (rw [hy630]; with_reducible exact H) | (have H2_ := (Option.bind_some _ _).symm.trans H; rw [hy630]; with_reducible exact H2_) | (have H2_ := (Option.bind_some _ _).symm.trans H; with_reducible exact H2_) | with_reducible exact H | (rw [hy630]; exact H) | exact H
      have Ny630 := Aside0.mk hy630; clear hy630
      have H' := Aside0.mk H
      clear H
      have p628 : 0 ≤ (x22_1 : Int) := uO
      have q628 : x22_1 < (l0.length : Int) := uO
      obtain ⟨ad628, e628, hx628_0⟩ := Kd.at_int HR0.out x22_1 p628 q628
      cases e628
      replace hx628_0 := (HB.out.cell (World.block_lt_of_cell? w _ hx628_0)).trans hx628_0
      replace p628 := eq_true p628
      replace q628 := eq_true q628
      have p629 : 0 ≤ (x22_1 : Int) := uO
      have q629 : x22_1 < (l1.length : Int) := uO
      obtain ⟨ad629, e629, hx629_0⟩ := Kd.at_int HR1.out x22_1 p629 q629
      cases e629
      replace hx629_0 := (HB.out.cell (World.block_lt_of_cell? w _ hx629_0)).trans hx629_0
      replace p629 := eq_true p629
      replace q629 := eq_true q629
      have p15 : 0 ≤ (x22_1 : Int) := uO
      have q15 : (x22_1 : Int) < ((x5_1.length : Int) : Int) := uO
      obtain ⟨go15, co15, eo15, gb15, gl15, cl15, HG15⟩ := Kd.R_form HO_5.out (by omega)
      (first | cases eo15 | (injection eo15 with ea_ en_ ec_; (first | subst ea_ | (injection ea_ with ea_; subst ea_)); subst ec_; clear en_))
      have GB15 := Aside0.mk gb15; have GG15 := Aside0.mk HG15; clear gb15 gl15 HG15
      obtain ⟨hx15_0, hf15_0⟩ := Kd.R_celln 0 HO_5.out (x22_1 : Int) p15 q15
      replace p15 := eq_true p15
      replace q15 := eq_true q15
      have HP16 := Kd.R_putg HO_5.out (x22_1 : Int) (add64_s (rd l1 x22_1) (rd l0 x22_1) x6_1)
      go_wp2_with (first | ((with_reducible refine gate_store (t := 27) (p := 45) rfl ?_); refine store_event (t := 27) (p := 45) (v := ?vo_w17) (w1 := (wr.setCell ⟨go15, (x22_1 : Int).toNat, none⟩ (.int .u64 (add64_s (rd l1 x22_1) (rd l0 x22_1) x6_1)))) ?hg ?ho ?hn ?hr ?_; (case ho => rfl); (case hg => rfl); (case hn => rfl); (case hr => first | (go_simp; done) | (go_simp; rfl) | (obtain ⟨hy_, hz_⟩ := Kd.R_celln 0 HO_5.out (x22_1 : Int) uO uO; (try simp only [Go.IntWalk.toNatUp] at hy_ hz_); (try simp only [Int.reduceToNat, Int.toNat_zero, Int.toNat_ofNat] at hy_ hz_); first | (go_simp; done) | (go_simp; rfl))); intro w17 hw; have hg : wr.grownBy w17 (some go15) := (by rw [hw]; exact HP16.2); have hp_ : Kd.R (Kd.int .u64) 27 w17 w.heap.size (fun _ => True) (.slice (some ⟨go15, 0, none⟩) x5_1.length co15) y630 := (by rw [hw, Ny630.out]; exact HP16.1); clear HP16; replace HO_5 := Aside0.mk (hp_); replace HB := Aside0.mk ((by rw [hw]; exact below_set (HB.out) GB15.out : Below w.heap.size w w17)); clear hg hw hp_))
      first | go_roundg k1 | ((try simp only [← hji4] at H'); simp only [← hji4]; go_roundg k1)
      case measure => have := HK1.out; omega
      case rel => first | exact ⟨(y630), (add64_c (rd l1 x22_1) (rd l0 x22_1) x6_1), (wrap64 (x22_1 + 1)), uG, uG, H', ⟨by have := HK1.out; omega⟩, ⟨uR HO_5.out⟩, ⟨uB⟩⟩ | (simp only [← hji4] at H'; exact ⟨(y630), (add64_c (rd l1 x22_1) (rd l0 x22_1) x6_1), (wrap64 (x22_1 + 1)), uG, uG, H', ⟨by have := HK1.out; omega⟩, ⟨uR HO_5.out⟩, ⟨uB⟩⟩)
     rw [if_neg c10] at H
     have c10b0 : decide (x22_1 < (l0.length : Int)) = false := decide_eq_false c10
     clear c10
     replace H := uT H; obtain ⟨c18, H⟩ := H
     have c18b0 : decide (0 ≤ x22_1) = true := decide_eq_true c18
     clear c18
     replace H := uT H; obtain ⟨c19, H⟩ := H
     have c19b0 : decide (x22_1 < (l1.length : Int)) = true := decide_eq_true c19
     clear c19
     replace H := uT H; obtain ⟨c20, H⟩ := H
     have c20b0 : carry01 x6_1 = true := c20
     clear c20
     replace H := uT H; obtain ⟨c21, H⟩ := H
     have c21b0 : decide (x22_1 < (x5_1.length : Int)) = true := decide_eq_true c21
     clear c21
     obtain ⟨y632, hy632⟩ : ∃ y_ : List Int, y_ = (x5_1.set (x22_1 : Int).toNat (add64_s (rd l1 x22_1) 0 x6_1)) := ⟨_, rfl⟩
     replace H : (nat_sum.l0 k1 l1 l0 y632 (add64_c (rd l1 x22_1) 0 x6_1) (l1.length : Int) (wrap64 (x22_1 + 1))) = some r := by first | (rw [hy632]; with_reducible exact H) | (have H2_ := (Option.bind_some _ _).symm.trans H; rw [hy632]; with_reducible exact H2_) | (have H2_ := (Option.bind_some _ _).symm.trans H; with_reducible exact H2_) | with_reducible exact H | (rw [hy632]; exact H) | exact H
     have Ny632 := Aside0.mk hy632; clear hy632
     have H' := Aside0.mk H
     clear H
     have p631 : 0 ≤ (x22_1 : Int) := uO
     have q631 : x22_1 < (l1.length : Int) := uO
     obtain ⟨ad631, e631, hx631_0⟩ := Kd.at_int HR1.out x22_1 p631 q631
     cases e631
     replace hx631_0 := (HB.out.cell (World.block_lt_of_cell? w _ hx631_0)).trans hx631_0
     replace p631 := eq_true p631
     replace q631 := eq_true q631
     have p22 : 0 ≤ (x22_1 : Int) := uO
     have q22 : (x22_1 : Int) < ((x5_1.length : Int) : Int) := uO
     obtain ⟨go22, co22, eo22, gb22, gl22, cl22, HG22⟩ := Kd.R_form HO_5.out (by omega)
     (first | cases eo22 | (injection eo22 with ea_ en_ ec_; (first | subst ea_ | (injection ea_ with ea_; subst ea_)); subst ec_; clear en_))
     have GB22 := Aside0.mk gb22; have GG22 := Aside0.mk HG22; clear gb22 gl22 HG22
     obtain ⟨hx22_0, hf22_0⟩ := Kd.R_celln 0 HO_5.out (x22_1 : Int) p22 q22
     replace p22 := eq_true p22
     replace q22 := eq_true q22
     have HP23 := Kd.R_putg HO_5.out (x22_1 : Int) (add64_s (rd l1 x22_1) 0 x6_1)
     go_wp2_with (first | ((with_reducible refine gate_store (t := 27) (p := 45) rfl ?_); refine store_event (t := 27) (p := 45) (v := ?vo_w24) (w1 := (wr.setCell ⟨go22, (x22_1 : Int).toNat, none⟩ (.int .u64 (add64_s (rd l1 x22_1) 0 x6_1)))) ?hg ?ho ?hn ?hr ?_; (case ho => rfl); (case hg => rfl); (case hn => rfl); (case hr => first | (go_simp; done) | (go_simp; rfl) | (obtain ⟨hy_, hz_⟩ := Kd.R_celln 0 HO_5.out (x22_1 : Int) uO uO; (try simp only [Go.IntWalk.toNatUp] at hy_ hz_); (try simp only [Int.reduceToNat, Int.toNat_zero, Int.toNat_ofNat] at hy_ hz_); first | (go_simp; done) | (go_simp; rfl))); intro w24 hw; have hg : wr.grownBy w24 (some go22) := (by rw [hw]; exact HP23.2); have hp_ : Kd.R (Kd.int .u64) 27 w24 w.heap.size (fun _ => True) (.slice (some ⟨go22, 0, none⟩) x5_1.length co22) y632 := (by rw [hw, Ny632.out]; exact HP23.1); clear HP23; replace HO_5 := Aside0.mk (hp_); replace HB := Aside0.mk ((by rw [hw]; exact below_set (HB.out) GB22.out : Below w.heap.size w w24)); clear hg hw hp_))
     first | go_roundg k1 | ((try simp only [← hji4] at H'); simp only [← hji4]; go_roundg k1)
     case measure => have := HK1.out; omega
     case rel => first | exact ⟨(y632), (add64_c (rd l1 x22_1) 0 x6_1), (wrap64 (x22_1 + 1)), uG, uG, H', ⟨by have := HK1.out; omega⟩, ⟨uR HO_5.out⟩, ⟨uB⟩⟩ | (simp only [← hji4] at H'; exact ⟨(y632), (add64_c (rd l1 x22_1) 0 x6_1), (wrap64 (x22_1 + 1)), uG, uG, H', ⟨by have := HK1.out; omega⟩, ⟨uR HO_5.out⟩, ⟨uB⟩⟩)
    rw [if_neg c9] at H
    have c9b0 : decide (x22_1 < (l1.length : Int)) = false := decide_eq_false c9
    clear c9
    replace H := uT H; obtain ⟨c25, H⟩ := H
    have c25b0 : decide (0 ≤ (l1.length : Int)) = true := decide_eq_true c25
    have c25b1 : decide (0 ≤ l1.length) = true := decide_eq_true (by omega)
    clear c25
    replace H := uT H; obtain ⟨c26, H⟩ := H
    have c26b0 : decide ((l1.length : Int) < (x5_1.length : Int)) = true := decide_eq_true c26
    have c26b1 : decide (l1.length < x5_1.length) = true := decide_eq_true (Int.ofNat_lt.mp c26)
    clear c26
    obtain ⟨y633, hy633⟩ : ∃ y_ : List Int, y_ = (x5_1.set ((l1.length : Int) : Int).toNat x6_1) := ⟨_, rfl⟩
    replace H : (some y633) = some r := by first | (rw [hy633]; with_reducible exact H) | (have H2_ := (Option.bind_some _ _).symm.trans H; rw [hy633]; with_reducible exact H2_) | (have H2_ := (Option.bind_some _ _).symm.trans H; with_reducible exact H2_) | with_reducible exact H | (rw [hy633]; exact H) | exact H
    have Ny633 := Aside0.mk hy633; clear hy633
    obtain rfl := Option.some.inj H
    have p27 : 0 ≤ ((l1.length : Int) : Int) := uO
    have q27 : ((l1.length : Int) : Int) < ((x5_1.length : Int) : Int) := uO
    obtain ⟨go27, co27, eo27, gb27, gl27, cl27, HG27⟩ := Kd.R_form HO_5.out (by omega)
    (first | cases eo27 | (injection eo27 with ea_ en_ ec_; (first | subst ea_ | (injection ea_ with ea_; subst ea_)); subst ec_; clear en_))
    have GB27 := Aside0.mk gb27; have GG27 := Aside0.mk HG27; clear gb27 gl27 HG27
    obtain ⟨hx27_0, hf27_0⟩ := Kd.R_celln 0 HO_5.out ((l1.length : Int) : Int) p27 q27
    (try simp only [Go.IntWalk.toNatUp] at hx27_0 hf27_0)
    replace p27 := eq_true p27
    replace q27 := eq_true q27
    have HP28 := Kd.R_putg HO_5.out ((l1.length : Int) : Int) x6_1
    go_wp2_with (first | ((with_reducible refine gate_store (t := 27) (p := 51) rfl ?_); refine store_event (t := 27) (p := 51) (v := ?vo_w29) (w1 := (wr.setCell ⟨go27, ((l1.length : Int) : Int).toNat, none⟩ (.int .u64 x6_1))) ?hg ?ho ?hn ?hr ?_; (case ho => rfl); (case hg => rfl); (case hn => rfl); (case hr => first | (go_simp; done) | (go_simp; rfl) | (obtain ⟨hy_, hz_⟩ := Kd.R_celln 0 HO_5.out ((l1.length : Int) : Int) uO uO; (try simp only [Go.IntWalk.toNatUp] at hy_ hz_); (try simp only [Int.reduceToNat, Int.toNat_zero, Int.toNat_ofNat] at hy_ hz_); first | (go_simp; done) | (go_simp; rfl))); intro w29 hw; have hg : wr.grownBy w29 (some go27) := (by rw [hw]; exact HP28.2); have hp_ : Kd.R (Kd.int .u64) 27 w29 w.heap.size (fun _ => True) (.slice (some ⟨go27, 0, none⟩) x5_1.length co27) y633 := (by rw [hw, Ny633.out]; exact HP28.1); clear HP28; replace HO_5 := Aside0.mk (hp_); replace HB := Aside0.mk ((by rw [hw]; exact below_set (HB.out) GB27.out : Below w.heap.size w w29)); clear hg hw hp_))
    go_ret
    exact ⟨_, by first | rfl | (simp [errW_none, errW_some] <;> rfl) | (simp only [← hji4]; first | rfl | (simp [errW_none, errW_some] <;> rfl)) | (simp [*, errW_none, errW_some] <;> rfl), uR HO_5.out, uB⟩
 rw [if_neg c3] at H
 have c3b0 : decide ((l0.length : Int) < (l1.length : Int)) = false := decide_eq_false c3
 have c3b1 : decide (l0.length < l1.length) = false := decide_eq_false (fun h => c3 (Int.ofNat_lt.mpr h))
 clear c3
 obtain ⟨ji30, hji30⟩ : ∃ j_ : Int, (wrap64 ((l0.length : Int) + 1)) = j_ := ⟨_, rfl⟩
 first | rw [hji30] at H | simp only [hji30] at H
 have hji30w : (IntKind.i64.wrap ((l0.length : Int) + 1)) = ji30 := (i64_w _).trans hji30
 replace H := uT H; obtain ⟨c31, H⟩ := H
 have c31b0 := eq_true c31
 have c31b1 : decide (0 ≤ (ji30)) = true := decide_eq_true c31
 clear c31
 replace H := uT H; obtain ⟨c32, H⟩ := H
 have c32b0 := eq_true c32
 have c32b1 : decide ((ji30 : Int).toNat ≤ 35184372088832) = true := decide_eq_true c32
 clear c32
 obtain ⟨y634, hy634⟩ : ∃ y_ : List Int, y_ = (List.replicate (ji30 : Int).toNat 0) := ⟨_, rfl⟩
 replace H : (nat_sum.l51 k l0 l1 y634 0 (l0.length : Int) 0) = some r := by first | (rw [hy634]; with_reducible exact H) | (have H2_ := (Option.bind_some _ _).symm.trans H; rw [hy634]; with_reducible exact H2_) | (have H2_ := (Option.bind_some _ _).symm.trans H; with_reducible exact H2_) | with_reducible exact H | (rw [hy634]; exact H) | exact H
 have Ny634 := Aside0.mk hy634; clear hy634
 have H' := Aside0.mk H
 clear H
 go_enter Try.func118, Try.ntmps118
 go_wp2_with (first | ((with_reducible refine gate_dst (N := 19) rfl ?_); refine Kd.R_make (Kd.int .u64) _ 27 rfl (N := 19) rfl 23 _ _ rfl ji30 rfl rfl Try.underlying23 (.int .u64 0) 8 info27 rfl (by decide) (by omega) 0 (ok := fun _ => True) (okp := fun _ => True) rfl (fun _ hk => hk) trivial uO (Nat.le_trans (Nat.mul_le_mul_right _ (uO : ji30.toNat ≤ 35184372088832)) (by omega)) (Below.refl _ _) (Nat.le_refl _) ?_; intro v635 w33 ho34 hb hg_ hnew_; clear hg_ hnew_; (first | rw [← Ny634.out] at ho34 | (simp only [Int.reduceToNat] at ho34; rw [← Ny634.out] at ho34)); have HO636 := Aside0.mk (Kd.R_lower ho34 (below_size uB)); replace HB := uy hb; clear hb ho34))
 go_loopg [6, 22] k (fun kq v6 v22 w' => ∃ (x5_1 : List Int) (x6_1 : Int) (x22_1 : Int), v6 = .int .u64 x6_1 ∧ v22 = .int .i64 x22_1 ∧ Aside0 (nat_sum.l51 kq l0 l1 x5_1 x6_1 (l0.length : Int) x22_1 = some r) ∧ Aside0 (kq ≤ k) ∧ Aside0 (Kd.R (Kd.int .u64) 27 w' w.heap.size (fun _ => True) v635 x5_1) ∧ Aside0 (Below w.heap.size w w'))
 case atStart => exact ⟨(y634), (0), (0), uG, uG, H', ⟨Nat.le_refl _⟩, ⟨uR HO636.out⟩, ⟨uB⟩⟩
 case round =>
  clear H'
  (try clear c1); (try clear p1); (try clear q1); (try clear hx1); (try clear c2); (try clear p2 p2); (try clear q2); (try clear hx2); (try clear hf2); (try clear c3); (try clear c3b0); (try clear c3b1); (try clear c5); (try clear c5b0); (try clear c5b1); (try clear c6); (try clear c6b0); (try clear c6b1); (try clear p6 p6); (try clear q6); (try clear hx6); (try clear c9); (try clear c9b0); (try clear c10); (try clear c10b0); (try clear c11); (try clear c11b0); (try clear c12); (try clear c12b0); (try clear c13); (try clear c13b0); (try clear c14); (try clear c14b0); (try clear p15 p15); (try clear q15 q15); (try clear hx15 hx15_0); (try clear hf15); (try clear c18); (try clear c18b0); (try clear c19); (try clear c19b0); (try clear c20); (try clear c20b0); (try clear c21); (try clear c21b0); (try clear p22 p22); (try clear q22 q22); (try clear hx22 hx22_0); (try clear hf22); (try clear c25); (try clear c25b0); (try clear c25b1); (try clear c26); (try clear c26b0); (try clear c26b1); (try clear p27 p27); (try clear q27 q27); (try clear hx27 hx27_0); (try clear hf27); (try clear c31); (try clear c31b0); (try clear c31b1); (try clear c32); (try clear c32b0); (try clear c32b1); (try clear hx628_0); (try clear hx629_0); (try clear hx631_0); (try clear p628); (try clear p629); (try clear p631); (try clear q628); (try clear q629); (try clear q631)
  obtain ⟨x5_1, x6_1, x22_1, rfl, rfl, HA, HK1, HO_5, HB⟩ := hrel
  cases gk with
  | zero => exact absurd HA.out (by simp [nat_sum.l51])
  | succ k1 =>
   have H := HA.out
   clear HA
   simp only [nat_sum.l51] at H
   by_cases c35 : x22_1 < (l0.length : Int)
   ·
    rw [if_pos c35] at H
    have c35b0 : decide (x22_1 < (l0.length : Int)) = true := decide_eq_true c35
    clear c35
    by_cases c36 : x22_1 < (l1.length : Int)
    ·
     rw [if_pos c36] at H
     have c36b0 : decide (x22_1 < (l1.length : Int)) = true := decide_eq_true c36
     clear c36
     replace H := uT H; obtain ⟨c37, H⟩ := H
     have c37b0 : decide (0 ≤ x22_1) = true := decide_eq_true c37
     clear c37
     replace H := uT H; obtain ⟨c38, H⟩ := H
     have c38b0 : decide (x22_1 < (l0.length : Int)) = true := decide_eq_true c38
     clear c38
     replace H := uT H; obtain ⟨c39, H⟩ := H
     have c39b0 : carry01 x6_1 = true := c39
     clear c39
     replace H := uT H; obtain ⟨c40, H⟩ := H
     have c40b0 : decide (x22_1 < (x5_1.length : Int)) = true := decide_eq_true c40
     clear c40
     obtain ⟨y639, hy639⟩ : ∃ y_ : List Int, y_ = (x5_1.set (x22_1 : Int).toNat (add64_s (rd l0 x22_1) (rd l1 x22_1) x6_1)) := ⟨_, rfl⟩
     replace H : (nat_sum.l51 k1 l0 l1 y639 (add64_c (rd l0 x22_1) (rd l1 x22_1) x6_1) (l0.length : Int) (wrap64 (x22_1 + 1))) = some r := by first | (rw [hy639]; with_reducible exact H) | (have H2_ := (Option.bind_some _ _).symm.trans H; rw [hy639]; with_reducible exact H2_) | (have H2_ := (Option.bind_some _ _).symm.trans H; with_reducible exact H2_) | with_reducible exact H | (rw [hy639]; exact H) | exact H
     have Ny639 := Aside0.mk hy639; clear hy639
     have H' := Aside0.mk H
     clear H
     have p637 : 0 ≤ (x22_1 : Int) := uO
     have q637 : x22_1 < (l1.length : Int) := uO
     obtain ⟨ad637, e637, hx637_0⟩ := Kd.at_int HR1.out x22_1 p637 q637
     cases e637
     replace hx637_0 := (HB.out.cell (World.block_lt_of_cell? w _ hx637_0)).trans hx637_0
     replace p637 := eq_true p637
     replace q637 := eq_true q637
     have p638 : 0 ≤ (x22_1 : Int) := uO
     have q638 : x22_1 < (l0.length : Int) := uO
     obtain ⟨ad638, e638, hx638_0⟩ := Kd.at_int HR0.out x22_1 p638 q638
     cases e638
     replace hx638_0 := (HB.out.cell (World.block_lt_of_cell? w _ hx638_0)).trans hx638_0
     replace p638 := eq_true p638
     replace q638 := eq_true q638
     have p41 : 0 ≤ (x22_1 : Int) := uO
     have q41 : (x22_1 : Int) < ((x5_1.length : Int) : Int) := uO
     obtain ⟨go41, co41, eo41, gb41, gl41, cl41, HG41⟩ := Kd.R_form HO_5.out (by omega)
     (first | cases eo41 | (injection eo41 with ea_ en_ ec_; (first | subst ea_ | (injection ea_ with ea_; subst ea_)); subst ec_; clear en_))
     have GB41 := Aside0.mk gb41; have GG41 := Aside0.mk HG41; clear gb41 gl41 HG41
     obtain ⟨hx41_0, hf41_0⟩ := Kd.R_celln 0 HO_5.out (x22_1 : Int) p41 q41
     replace p41 := eq_true p41
     replace q41 := eq_true q41
     have HP42 := Kd.R_putg HO_5.out (x22_1 : Int) (add64_s (rd l0 x22_1) (rd l1 x22_1) x6_1)
     go_wp2_with (first | ((with_reducible refine gate_store (t := 27) (p := 45) rfl ?_); refine store_event (t := 27) (p := 45) (v := ?vo_w43) (w1 := (wr.setCell ⟨go41, (x22_1 : Int).toNat, none⟩ (.int .u64 (add64_s (rd l0 x22_1) (rd l1 x22_1) x6_1)))) ?hg ?ho ?hn ?hr ?_; (case ho => rfl); (case hg => rfl); (case hn => rfl); (case hr => first | (go_simp; done) | (go_simp; rfl) | (obtain ⟨hy_, hz_⟩ := Kd.R_celln 0 HO_5.out (x22_1 : Int) uO uO; (try simp only [Go.IntWalk.toNatUp] at hy_ hz_); (try simp only [Int.reduceToNat, Int.toNat_zero, Int.toNat_ofNat] at hy_ hz_); first | (go_simp; done) | (go_simp; rfl))); intro w43 hw; have hg : wr.grownBy w43 (some go41) := (by rw [hw]; exact HP42.2); have hp_ : Kd.R (Kd.int .u64) 27 w43 w.heap.size (fun _ => True) (.slice (some ⟨go41, 0, none⟩) x5_1.length co41) y639 := (by rw [hw, Ny639.out]; exact HP42.1); clear HP42; replace HO_5 := Aside0.mk (hp_); replace HB := Aside0.mk ((by rw [hw]; exact below_set (HB.out) GB41.out : Below w.heap.size w w43)); clear hg hw hp_))
     first | go_roundg k1 | ((try simp only [← hji30] at H'); simp only [← hji30]; go_roundg k1) | ((try simp only [← hji4] at H'); simp only [← hji4]; go_roundg k1)
     case measure => have := HK1.out; omega
     case rel => first | exact ⟨(y639), (add64_c (rd l0 x22_1) (rd l1 x22_1) x6_1), (wrap64 (x22_1 + 1)), uG, uG, H', ⟨by have := HK1.out; omega⟩, ⟨uR HO_5.out⟩, ⟨uB⟩⟩ | (simp only [← hji30] at H'; exact ⟨(y639), (add64_c (rd l0 x22_1) (rd l1 x22_1) x6_1), (wrap64 (x22_1 + 1)), uG, uG, H', ⟨by have := HK1.out; omega⟩, ⟨uR HO_5.out⟩, ⟨uB⟩⟩) | (simp only [← hji4] at H'; exact ⟨(y639), (add64_c (rd l0 x22_1) (rd l1 x22_1) x6_1), (wrap64 (x22_1 + 1)), uG, uG, H', ⟨by have := HK1.out; omega⟩, ⟨uR HO_5.out⟩, ⟨uB⟩⟩)
    rw [if_neg c36] at H
    have c36b0 : decide (x22_1 < (l1.length : Int)) = false := decide_eq_false c36
    clear c36
    replace H := uT H; obtain ⟨c44, H⟩ := H
    have c44b0 : decide (0 ≤ x22_1) = true := decide_eq_true c44
    clear c44
    replace H := uT H; obtain ⟨c45, H⟩ := H
    have c45b0 : decide (x22_1 < (l0.length : Int)) = true := decide_eq_true c45
    clear c45
    replace H := uT H; obtain ⟨c46, H⟩ := H
    have c46b0 : carry01 x6_1 = true := c46
    clear c46
    replace H := uT H; obtain ⟨c47, H⟩ := H
    have c47b0 : decide (x22_1 < (x5_1.length : Int)) = true := decide_eq_true c47
    clear c47
    obtain ⟨y641, hy641⟩ : ∃ y_ : List Int, y_ = (x5_1.set (x22_1 : Int).toNat (add64_s (rd l0 x22_1) 0 x6_1)) := ⟨_, rfl⟩
    replace H : (nat_sum.l51 k1 l0 l1 y641 (add64_c (rd l0 x22_1) 0 x6_1) (l0.length : Int) (wrap64 (x22_1 + 1))) = some r := by first | (rw [hy641]; with_reducible exact H) | (have H2_ := (Option.bind_some _ _).symm.trans H; rw [hy641]; with_reducible exact H2_) | (have H2_ := (Option.bind_some _ _).symm.trans H; with_reducible exact H2_) | with_reducible exact H | (rw [hy641]; exact H) | exact H
    have Ny641 := Aside0.mk hy641; clear hy641
    have H' := Aside0.mk H
    clear H
    have p640 : 0 ≤ (x22_1 : Int) := uO
    have q640 : x22_1 < (l0.length : Int) := uO
    obtain ⟨ad640, e640, hx640_0⟩ := Kd.at_int HR0.out x22_1 p640 q640
    cases e640
    replace hx640_0 := (HB.out.cell (World.block_lt_of_cell? w _ hx640_0)).trans hx640_0
    replace p640 := eq_true p640
    replace q640 := eq_true q640
    have p48 : 0 ≤ (x22_1 : Int) := uO
    have q48 : (x22_1 : Int) < ((x5_1.length : Int) : Int) := uO
    obtain ⟨go48, co48, eo48, gb48, gl48, cl48, HG48⟩ := Kd.R_form HO_5.out (by omega)
    (first | cases eo48 | (injection eo48 with ea_ en_ ec_; (first | subst ea_ | (injection ea_ with ea_; subst ea_)); subst ec_; clear en_))
    have GB48 := Aside0.mk gb48; have GG48 := Aside0.mk HG48; clear gb48 gl48 HG48
    obtain ⟨hx48_0, hf48_0⟩ := Kd.R_celln 0 HO_5.out (x22_1 : Int) p48 q48
    replace p48 := eq_true p48
    replace q48 := eq_true q48
    have HP49 := Kd.R_putg HO_5.out (x22_1 : Int) (add64_s (rd l0 x22_1) 0 x6_1)
    go_wp2_with (first | ((with_reducible refine gate_store (t := 27) (p := 45) rfl ?_); refine store_event (t := 27) (p := 45) (v := ?vo_w50) (w1 := (wr.setCell ⟨go48, (x22_1 : Int).toNat, none⟩ (.int .u64 (add64_s (rd l0 x22_1) 0 x6_1)))) ?hg ?ho ?hn ?hr ?_; (case ho => rfl); (case hg => rfl); (case hn => rfl); (case hr => first | (go_simp; done) | (go_simp; rfl) | (obtain ⟨hy_, hz_⟩ := Kd.R_celln 0 HO_5.out (x22_1 : Int) uO uO; (try simp only [Go.IntWalk.toNatUp] at hy_ hz_); (try simp only [Int.reduceToNat, Int.toNat_zero, Int.toNat_ofNat] at hy_ hz_); first | (go_simp; done) | (go_simp; rfl))); intro w50 hw; have hg : wr.grownBy w50 (some go48) := (by rw [hw]; exact HP49.2); have hp_ : Kd.R (Kd.int .u64) 27 w50 w.heap.size (fun _ => True) (.slice (some ⟨go48, 0, none⟩) x5_1.length co48) y641 := (by rw [hw, Ny641.out]; exact HP49.1); clear HP49; replace HO_5 := Aside0.mk (hp_); replace HB := Aside0.mk ((by rw [hw]; exact below_set (HB.out) GB48.out : Below w.heap.size w w50)); clear hg hw hp_))
    first | go_roundg k1 | ((try simp only [← hji30] at H'); simp only [← hji30]; go_roundg k1) | ((try simp only [← hji4] at H'); simp only [← hji4]; go_roundg k1)
    case measure => have := HK1.out; omega
    case rel => first | exact ⟨(y641), (add64_c (rd l0 x22_1) 0 x6_1), (wrap64 (x22_1 + 1)), uG, uG, H', ⟨by have := HK1.out; omega⟩, ⟨uR HO_5.out⟩, ⟨uB⟩⟩ | (simp only [← hji30] at H'; exact ⟨(y641), (add64_c (rd l0 x22_1) 0 x6_1), (wrap64 (x22_1 + 1)), uG, uG, H', ⟨by have := HK1.out; omega⟩, ⟨uR HO_5.out⟩, ⟨uB⟩⟩) | (simp only [← hji4] at H'; exact ⟨(y641), (add64_c (rd l0 x22_1) 0 x6_1), (wrap64 (x22_1 + 1)), uG, uG, H', ⟨by have := HK1.out; omega⟩, ⟨uR HO_5.out⟩, ⟨uB⟩⟩)
   rw [if_neg c35] at H
   have c35b0 : decide (x22_1 < (l0.length : Int)) = false := decide_eq_false c35
   clear c35
   replace H := uT H; obtain ⟨c51, H⟩ := H
   have c51b0 : decide (0 ≤ (l0.length : Int)) = true := decide_eq_true c51
   have c51b1 : decide (0 ≤ l0.length) = true := decide_eq_true (by omega)
   clear c51
   replace H := uT H; obtain ⟨c52, H⟩ := H
   have c52b0 : decide ((l0.length : Int) < (x5_1.length : Int)) = true := decide_eq_true c52
   have c52b1 : decide (l0.length < x5_1.length) = true := decide_eq_true (Int.ofNat_lt.mp c52)
   clear c52
   obtain ⟨y642, hy642⟩ : ∃ y_ : List Int, y_ = (x5_1.set ((l0.length : Int) : Int).toNat x6_1) := ⟨_, rfl⟩
   replace H : (some y642) = some r := by first | (rw [hy642]; with_reducible exact H) | (have H2_ := (Option.bind_some _ _).symm.trans H; rw [hy642]; with_reducible exact H2_) | (have H2_ := (Option.bind_some _ _).symm.trans H; with_reducible exact H2_) | with_reducible exact H | (rw [hy642]; exact H) | exact H
   have Ny642 := Aside0.mk hy642; clear hy642
   obtain rfl := Option.some.inj H
   have p53 : 0 ≤ ((l0.length : Int) : Int) := uO
   have q53 : ((l0.length : Int) : Int) < ((x5_1.length : Int) : Int) := uO
   obtain ⟨go53, co53, eo53, gb53, gl53, cl53, HG53⟩ := Kd.R_form HO_5.out (by omega)
   (first | cases eo53 | (injection eo53 with ea_ en_ ec_; (first | subst ea_ | (injection ea_ with ea_; subst ea_)); subst ec_; clear en_))
   have GB53 := Aside0.mk gb53; have GG53 := Aside0.mk HG53; clear gb53 gl53 HG53
   obtain ⟨hx53_0, hf53_0⟩ := Kd.R_celln 0 HO_5.out ((l0.length : Int) : Int) p53 q53
   (try simp only [Go.IntWalk.toNatUp] at hx53_0 hf53_0)
   replace p53 := eq_true p53
   replace q53 := eq_true q53
   have HP54 := Kd.R_putg HO_5.out ((l0.length : Int) : Int) x6_1
   go_wp2_with (first | ((with_reducible refine gate_store (t := 27) (p := 51) rfl ?_); refine store_event (t := 27) (p := 51) (v := ?vo_w55) (w1 := (wr.setCell ⟨go53, ((l0.length : Int) : Int).toNat, none⟩ (.int .u64 x6_1))) ?hg ?ho ?hn ?hr ?_; (case ho => rfl); (case hg => rfl); (case hn => rfl); (case hr => first | (go_simp; done) | (go_simp; rfl) | (obtain ⟨hy_, hz_⟩ := Kd.R_celln 0 HO_5.out ((l0.length : Int) : Int) uO uO; (try simp only [Go.IntWalk.toNatUp] at hy_ hz_); (try simp only [Int.reduceToNat, Int.toNat_zero, Int.toNat_ofNat] at hy_ hz_); first | (go_simp; done) | (go_simp; rfl))); intro w55 hw; have hg : wr.grownBy w55 (some go53) := (by rw [hw]; exact HP54.2); have hp_ : Kd.R (Kd.int .u64) 27 w55 w.heap.size (fun _ => True) (.slice (some ⟨go53, 0, none⟩) x5_1.length co53) y642 := (by rw [hw, Ny642.out]; exact HP54.1); clear HP54; replace HO_5 := Aside0.mk (hp_); replace HB := Aside0.mk ((by rw [hw]; exact below_set (HB.out) GB53.out : Below w.heap.size w w55)); clear hg hw hp_))
   go_ret
   exact ⟨_, by first | rfl | (simp [errW_none, errW_some] <;> rfl) | (simp only [← hji30]; first | rfl | (simp [errW_none, errW_some] <;> rfl)) | (simp [*, errW_none, errW_some] <;> rfl), uR HO_5.out, uB⟩
end Go.Proofs.Ytgeanpnkllnipab.F
end
section
namespace Go.Proofs.Ytgeanpnkllnipab.F
open Go.RowKit Go.Proofs.YtgeanpnkllnipabW.PrintWords Go.Proofs.YtgeanpnkllnipabW.PrintLast Go.Proofs.YtgeanpnkllnipabW.PrintMore
attribute [local go_sem] max2_int min2_int max_two min_two max_three min_three max_four min_four
set_option linter.unusedVariables false
set_option linter.unusedSimpArgs false
def nat_Add.f (k : Nat) (l0 : List Int) (l1 : List Int) : Option (List Int × Int) := (nat_right.f (([l0, l1] : List (List Int)))).bind fun t646 => (if t646 = true then ((nat_sum.f k l0 l1).bind fun t647 => ((nat_told.f k t647).bind fun bt650 => (some (bt650.1, bt650.2)))) else (some (([] : List Int), 1)))
set_option maxHeartbeats 8000000 in
set_option maxRecDepth 100000 in
theorem nat_Add.calls (k : Nat) (P0_ : Nat → Prop) (A0 : Option Addr) (c0 : Nat) (l0 : List Int) (P1_ : Nat → Prop) (A1 : Option Addr) (c1 : Nat) (l1 : List Int) (r1 : List Int) (r2 : Int) (w : World) (hs0 : Kd.V (Kd.int .u64) 27 w w.heap.size (fun k_ => P0_ k_) (.slice A0 l0.length c0) l0) (hs1 : Kd.V (Kd.int .u64) 27 w w.heap.size (fun k_ => P1_ k_) (.slice A1 l1.length c1) l1) (h : nat_Add.f k l0 l1 = some (r1, r2)) :
  Calls Try.prog 81 #[.slice A0 l0.length c0, .slice A1 l1.length c1] w fun e w' => ∃ v0_ : Value, e = .returned (.tuple #[v0_, .int .i64 r2]) ∧ Kd.R (Kd.int .u64) 27 w' w.heap.size (fun k_ => (w.heap.size ≤ k_)) v0_ r1 ∧ Below w.heap.size w w' := by
 have HO0 := Aside0.mk (show Kd.V (Kd.int .u64) 27 w w.heap.size (fun k_ => ((P0_ k_ ∨ P1_ k_) ∨ w.heap.size ≤ k_)) (.slice A0 l0.length c0) l0 from Kd.V_mono hs0 (fun k_ hk => .inl (.inl hk)))
 have HO1 := Aside0.mk (show Kd.V (Kd.int .u64) 27 w w.heap.size (fun k_ => ((P0_ k_ ∨ P1_ k_) ∨ w.heap.size ≤ k_)) (.slice A1 l1.length c1) l1 from Kd.V_mono hs1 (fun k_ hk => .inl (.inr hk)))
 have HB := Aside0.mk (Below.refl w.heap.size w)
 have H : ((nat_right.f (([l0, l1] : List (List Int)))).bind fun t646 => (if t646 = true then ((nat_sum.f k l0 l1).bind fun t647 => ((nat_told.f k t647).bind fun bt650 => (some (bt650.1, bt650.2)))) else (some (([] : List Int), 1)))) = some (r1, r2) := h
 clear h
 obtain ⟨y643, hy643⟩ : ∃ y_ : List (List Int), y_ = (([l0, l1] : List (List Int))) := ⟨_, rfl⟩
 replace H : ((nat_right.f y643).bind fun t646 => (if t646 = true then ((nat_sum.f k l0 l1).bind fun t647 => ((nat_told.f k t647).bind fun bt650 => (some (bt650.1, bt650.2)))) else (some (([] : List Int), 1)))) = some (r1, r2) := by first | (rw [hy643]; with_reducible exact H) | (have H2_ := (Option.bind_some _ _).symm.trans H; rw [hy643]; with_reducible exact H2_) | (have H2_ := (Option.bind_some _ _).symm.trans H; with_reducible exact H2_) | with_reducible exact H | (rw [hy643]; exact H) | exact H
 have Ny643 := Aside0.mk hy643; clear hy643
 replace H := ub H; obtain ⟨t646, A3, H⟩ := H
 by_cases c4 : t646 = true
 ·
  subst c4
  have H1 : ((nat_sum.f k l0 l1).bind fun t647 => ((nat_told.f k t647).bind fun bt650 => (some (bt650.1, bt650.2)))) = some (r1, r2) := by rw [if_pos rfl] at H; exact H
  clear H; have H := H1; clear H1
  replace H := ub H; obtain ⟨t647, A5, H⟩ := H
  replace H := ub H; obtain ⟨⟨t650, t653⟩, A6, H⟩ := H
  (try dsimp only at H)
  simp only [Option.some.injEq, Prod.mk.injEq] at H
  obtain ⟨rfl, rfl⟩ := H
  go_enter Try.func81, Try.ntmps81
  go_wp2_with (first | ((with_reducible refine gate_dst (N := 8) rfl ?_); refine Kd.N_lit (Kd.slice 27 (Kd.int .u64)) _ 23 ?hg (N' := 8) ?hd (xs := ([l0, l1] : List (List Int))) (inner := [.slice A0 l0.length c0, .slice A1 l1.length c1]) (ok := (fun k_ => ((P0_ k_ ∨ P1_ k_) ∨ w.heap.size ≤ k_))) (okp := (fun k_ => ((P0_ k_ ∨ P1_ k_) ∨ w.heap.size ≤ k_))) ?hr ?hp (fun _ hk => hk) ((show ∀ k_, w.heap.size ≤ k_ → (fun k_ => ((P0_ k_ ∨ P1_ k_) ∨ w.heap.size ≤ k_)) k_ from fun k_ hk => (.inr (Nat.le_trans (below_size uB) hk))) _ (Nat.le_refl _)) (Below.refl _ _) (Nat.le_refl _) (by simp) ?_; (case hd => rfl); (case hg => rfl); (case hr => first | (go_simp; done) | (go_simp; rfl) | (go_simp; simp only [u64_u8]; done) | (go_simp; simp only [u64_u8]; rfl)); (case hp => exact (Reps.one (show Kd.FK (Kd.slice 27 (Kd.int .u64)) _ _ l0 [.slice A0 l0.length c0] from (Kd.FK_slice_mk (Kd.V_reads' (Kd.V_mono (ok' := (fun k_ => ((P0_ k_ ∨ P1_ k_) ∨ w.heap.size ≤ k_))) (HO0.out) (fun k_ hk => hk))).2.1 (Kd.V_F (Kd.V_mono (ok' := (fun k_ => ((P0_ k_ ∨ P1_ k_) ∨ w.heap.size ≤ k_))) (HO0.out) (fun k_ hk => hk))))) (Reps.one (show Kd.FK (Kd.slice 27 (Kd.int .u64)) _ _ l1 [.slice A1 l1.length c1] from (Kd.FK_slice_mk (Kd.V_reads' (Kd.V_mono (ok' := (fun k_ => ((P0_ k_ ∨ P1_ k_) ∨ w.heap.size ≤ k_))) (HO1.out) (fun k_ hk => hk))).2.1 (Kd.V_F (Kd.V_mono (ok' := (fun k_ => ((P0_ k_ ∨ P1_ k_) ∨ w.heap.size ≤ k_))) (HO1.out) (fun k_ hk => hk))))) (Reps.none _ _)))); intro v644 w7 ho8 hb hg_ hnew_; clear hg_ hnew_; (first | rw [← Ny643.out] at ho8 | (simp only [Int.reduceToNat] at ho8; rw [← Ny643.out] at ho8)); replace HO0 := Aside0.mk (Kd.V_elder' (uV HO0.out) (Kd.N_base ho8) hb); replace HO1 := Aside0.mk (Kd.V_elder' (uV HO1.out) (Kd.N_base ho8) hb); have HO645 := Aside0.mk (Kd.N_lower ho8 (below_size uB)); replace HB := uy hb; clear hb ho8; obtain ⟨Ao9, co9, eo9⟩ := Kd.N_slice HO645.out; subst eo9) | ((with_reducible refine gate_callee (f := 114) rfl ?_); refine goesL_ (some 9) rfl rfl Try.func114 (by kernel_rfl) rfl #[.slice Ao9 y643.length co9] rfl uM ?_; (with_reducible refine (nat_right.calls _ _ y643 true _ ?side1 ?side2 A3.out).mono ?_); (case side1 => exact uC (Kd.N_reads' HO645.out).2.2); (case side2 => exact (Kd.N_reads' HO645.out).2.1); rintro e w' ⟨rfl, ⟨nd, rfl⟩⟩; refine ⟨_, rfl, ?_⟩) | ((with_reducible refine gate_callee (f := 118) rfl ?_); refine goesL_ (some 13) rfl rfl Try.func118 (by kernel_rfl) rfl #[.slice A0 l0.length c0, .slice A1 l1.length c1] rfl uM ?_; (with_reducible refine (nat_sum.calls k _ _ l0 _ _ l1 t647 _ ?side1 ?side2 ?side3 ?side4 A5.out).mono ?_); (case side1 => exact uC (Kd.V_reads' HO0.out).2.2); (case side2 => exact (Kd.V_reads' HO0.out).2.1); (case side3 => exact uC (Kd.V_reads' HO1.out).2.2); (case side4 => exact (Kd.V_reads' HO1.out).2.1); rintro e w10 ⟨v648, rfl, ho0, hb⟩; refine ⟨_, rfl, ?_⟩; replace HO0 := ueV HO0 ho0 hb; replace HO1 := ueV HO1 ho0 hb; replace HO645 := ueN HO645 ho0 hb; have HO649 := Aside0.mk (Kd.R_lower (Kd.R_newM (M := fun k_ => (w.heap.size ≤ k_)) ho0 (below_size uB) (fun k_ h_ => h_)) (below_size uB)); replace HB := uy hb; (try clear hb ho0); obtain ⟨Ao11, co11, eo11⟩ := Kd.R_slice HO649.out; subst eo11) | ((with_reducible refine gate_callee (f := 116) rfl ?_); refine goesL_ (some 14) rfl rfl Try.func116 (by kernel_rfl) rfl #[.slice Ao11 t647.length co11] rfl uM ?_; (with_reducible refine (nat_told.calls k (fun k_ => some k_ = (.slice Ao11 t647.length co11 : Value).ownBlock) (.slice Ao11 t647.length co11) t647 t650 t653 w _ ?side1 ?side2 A6.out).mono ?_); (case side1 => repeat (first | (with_reducible first | exact HB.out | apply below_alloc | apply pw_below_drewN | apply below_drew1) | exact HB.out)); (case side2 => exact Kd.R_tight rfl HO649.out); rintro e w12 ⟨v651, rfl, ho0, hb, hkp⟩; refine ⟨_, rfl, ?_⟩; replace HO0 := Aside0.mk (Kd.V_mono (ok' := fun k_ => ((P0_ k_ ∨ P1_ k_) ∨ w.heap.size ≤ k_) ∧ some k_ ≠ (.slice Ao9 y643.length co9 : Value).ownBlock ∧ some k_ ≠ (v651 : Value).ownBlock) (Kd.V_keptB (HO0.out) hkp (fun k_ hk_ hs_ => (hk_.2) hs_)) (fun k_ hk_ => ⟨hk_.1.1.1, hk_.1.1.2, fun e_ => Or.elim (ho0.1 k_ e_.symm) (fun hs_ => hk_.2.1 hs_) (fun hn_ => Nat.not_le.2 hk_.2.2 hn_)⟩)); replace HO1 := Aside0.mk (Kd.V_mono (ok' := fun k_ => ((P0_ k_ ∨ P1_ k_) ∨ w.heap.size ≤ k_) ∧ some k_ ≠ (.slice Ao9 y643.length co9 : Value).ownBlock ∧ some k_ ≠ (v651 : Value).ownBlock) (Kd.V_keptB (HO1.out) hkp (fun k_ hk_ hs_ => (hk_.2) hs_)) (fun k_ hk_ => ⟨hk_.1.1.1, hk_.1.1.2, fun e_ => Or.elim (ho0.1 k_ e_.symm) (fun hs_ => hk_.2.1 hs_) (fun hn_ => Nat.not_le.2 hk_.2.2 hn_)⟩)); replace HO645 := Aside0.mk (Kd.N_mono (ok' := fun k_ => ((P0_ k_ ∨ P1_ k_) ∨ w.heap.size ≤ k_) ∧ some k_ ≠ (v651 : Value).ownBlock) (Kd.N_keptB (HO645.out) hkp (fun k_ hk_ hs_ => (hk_.2) hs_)) (fun k_ hk_ => ⟨hk_.1.1, fun e_ => Or.elim (ho0.1 k_ e_.symm) (fun hs_ => hk_.2.1 hs_) (fun hn_ => Nat.not_le.2 hk_.2.2 hn_)⟩)); have HO652 := Aside0.mk (Kd.R_mono (ok' := fun k_ => (w.heap.size ≤ k_)) ho0 (fun k_ hk_ => Or.elim hk_ (fun hs_ => (HO649.out.1 k_ (hs_).symm).1) (fun hn_ => (Nat.le_trans (below_size uB) hn_)))); replace HB := Aside0.mk (hb); clear HO649; (try clear hb); (try clear hkp); (try clear ho0)))
  go_ret2
  exact ⟨_, uF, uR HO652.out, uB⟩
 replace c4 := Bool.eq_false_iff.mpr c4
 subst c4
 have H1 : (some (([] : List Int), 1)) = some (r1, r2) := by rw [if_neg (show ¬ (false = true) by decide)] at H; exact H
 clear H; have H := H1; clear H1
 simp only [Option.some.injEq, Prod.mk.injEq] at H
 obtain ⟨rfl, rfl⟩ := H
 go_enter Try.func81, Try.ntmps81
 go_wp2_with (first | ((with_reducible refine gate_dst (N := 8) rfl ?_); refine Kd.N_lit (Kd.slice 27 (Kd.int .u64)) _ 23 ?hg (N' := 8) ?hd (xs := ([l0, l1] : List (List Int))) (inner := [.slice A0 l0.length c0, .slice A1 l1.length c1]) (ok := (fun k_ => ((P0_ k_ ∨ P1_ k_) ∨ w.heap.size ≤ k_))) (okp := (fun k_ => ((P0_ k_ ∨ P1_ k_) ∨ w.heap.size ≤ k_))) ?hr ?hp (fun _ hk => hk) ((show ∀ k_, w.heap.size ≤ k_ → (fun k_ => ((P0_ k_ ∨ P1_ k_) ∨ w.heap.size ≤ k_)) k_ from fun k_ hk => (.inr (Nat.le_trans (below_size uB) hk))) _ (Nat.le_refl _)) (Below.refl _ _) (Nat.le_refl _) (by simp) ?_; (case hd => rfl); (case hg => rfl); (case hr => first | (go_simp; done) | (go_simp; rfl) | (go_simp; simp only [u64_u8]; done) | (go_simp; simp only [u64_u8]; rfl)); (case hp => exact (Reps.one (show Kd.FK (Kd.slice 27 (Kd.int .u64)) _ _ l0 [.slice A0 l0.length c0] from (Kd.FK_slice_mk (Kd.V_reads' (Kd.V_mono (ok' := (fun k_ => ((P0_ k_ ∨ P1_ k_) ∨ w.heap.size ≤ k_))) (HO0.out) (fun k_ hk => hk))).2.1 (Kd.V_F (Kd.V_mono (ok' := (fun k_ => ((P0_ k_ ∨ P1_ k_) ∨ w.heap.size ≤ k_))) (HO0.out) (fun k_ hk => hk))))) (Reps.one (show Kd.FK (Kd.slice 27 (Kd.int .u64)) _ _ l1 [.slice A1 l1.length c1] from (Kd.FK_slice_mk (Kd.V_reads' (Kd.V_mono (ok' := (fun k_ => ((P0_ k_ ∨ P1_ k_) ∨ w.heap.size ≤ k_))) (HO1.out) (fun k_ hk => hk))).2.1 (Kd.V_F (Kd.V_mono (ok' := (fun k_ => ((P0_ k_ ∨ P1_ k_) ∨ w.heap.size ≤ k_))) (HO1.out) (fun k_ hk => hk))))) (Reps.none _ _)))); intro v644 w13 ho14 hb hg_ hnew_; clear hg_ hnew_; (first | rw [← Ny643.out] at ho14 | (simp only [Int.reduceToNat] at ho14; rw [← Ny643.out] at ho14)); replace HO0 := Aside0.mk (Kd.V_elder' (uV HO0.out) (Kd.N_base ho14) hb); replace HO1 := Aside0.mk (Kd.V_elder' (uV HO1.out) (Kd.N_base ho14) hb); have HO645 := Aside0.mk (Kd.N_lower ho14 (below_size uB)); replace HB := uy hb; clear hb ho14; obtain ⟨Ao15, co15, eo15⟩ := Kd.N_slice HO645.out; subst eo15) | ((with_reducible refine gate_callee (f := 114) rfl ?_); refine goesL_ (some 9) rfl rfl Try.func114 (by kernel_rfl) rfl #[.slice Ao15 y643.length co15] rfl uM ?_; (with_reducible refine (nat_right.calls _ _ y643 false _ ?side1 ?side2 A3.out).mono ?_); (case side1 => exact uC (Kd.N_reads' HO645.out).2.2); (case side2 => exact (Kd.N_reads' HO645.out).2.1); rintro e w' ⟨rfl, ⟨nd, rfl⟩⟩; refine ⟨_, rfl, ?_⟩))
 go_ret2
 exact ⟨_, uF, uI, uB⟩
end Go.Proofs.Ytgeanpnkllnipab.F
end
