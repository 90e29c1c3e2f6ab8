/- Proved: the law PrimeChecks of layer 5: whether any two numbers are a key is the document's answer; for every input, without a condition. -/
import Derived.Test.YtgeanpnkllnipaaMPrimeChecksc
section
namespace Go.Proofs.Ytgeanpnkllnipaa.F
open Go.RowKit Go.Proofs.YtgeanpnkllnipaaW.PrintWords Go.Proofs.YtgeanpnkllnipaaW.PrintLast Go.Proofs.YtgeanpnkllnipaaW.PrintMore
attribute [local go_sem] max2_int min2_int max_two min_two max_three min_three max_four min_four
set_option linter.unusedVariables false
set_option linter.unusedSimpArgs false
def prime_Check.j0 : Nat → Bool → Int → Int → Option (Int)
 | 0, _, _, _ => none
 | k + 1, x35, x543000, x543001 => if x35 = true then (some 9) else ((nat_Mul.f k (([x543000] : List Int)) (([x543001] : List Int))).bind fun bt553 => ((nat_Mul.f k (([IntKind.u64.wrap (x543000 - 1)] : List Int)) (([IntKind.u64.wrap (x543001 - 1)] : List Int))).bind fun bt563 => ((modint_Gcd.f k bt553.1 bt563.1).bind fun bt567 => ((nat_Cmp.f k bt567.1 (([1] : List Int))).bind fun t574 => (if t574 = 0 then (some 0) else (some 9))))))
def prime_Check.f (k : Nat) (a0_0 : Int) (a0_1 : Int) : Option (Int) := (prime_Check_1.f a0_0).bind fun t543 => (if t543 = true then (prime_Check.j0 k true a0_0 a0_1) else ((prime_Check_1.f a0_1).bind fun t544 => (if t544 = true then (prime_Check.j0 k true a0_0 a0_1) else (if a0_0 = a0_1 then (prime_Check.j0 k true a0_0 a0_1) else ((bits_Len64.f k a0_0).bind fun t545 => ((bits_Len64.f k a0_1).bind fun t546 => (prime_Check.j0 k (t545 != t546) a0_0 a0_1)))))))
def prime_Check.T2 : Bool × List (List Nat × List Nat) := (true, [([], []), ([], []), ([1], [1]), ([0, 2], [0, 2]), ([3, 3], [3]), ([4], [4]), ([4], [4]), ([6, 4], [4, 6]), ([5, 7, 4, 4], [4, 5, 7]), ([4, 8], [4, 8]), ([9, 8], [9]), ([10], [10]), ([11, 10], [10, 11]), ([10], [10]), ([13, 10], [10, 13]), ([12, 14, 10], [10, 12, 14]), ([10, 15], [10, 15]), ([16, 10], [16]), ([17], [17]), ([18, 17], [17, 18]), ([19, 17, 17], [17, 19]), ([17], [17]), ([21, 17], [17, 21]), ([22, 20, 17], [17, 22]), ([20, 23, 17], [17, 20, 23]), ([17, 24], [17, 24])])
def prime_Check.B2 : List Nat := [0, 0, 2, 7, 15, 31, 31, 95, 255, 511, 1023, 2047, 4095, 2047, 10239, 32767, 65535, 131071, 262143, 524287, 1048575, 262143, 2359295, 8388607, 16777215, 33554431]
theorem prime_Check.tab2 : rtab .any (opsOf Try.f25 2) = prime_Check.T2 := by kernel_rfl
theorem prime_Check.bits2 : waitsOk prime_Check.T2.2 prime_Check.B2 = true := by kernel_rfl
set_option maxHeartbeats 8000000 in
set_option maxRecDepth 100000 in
theorem prime_Check.calls (k : Nat) (a0_0 : Int) (a0_1 : Int) (r : Int) (w : World) (h : prime_Check.f k a0_0 a0_1 = some r) :
  Calls Try.prog 25 #[.agg #[.int .u64 a0_0, .int .u64 a0_1]] w fun e w' => e = .returned (.int .i64 r) ∧ Below w.heap.size w w' := by
 have hu53 := Try.underlying53
 have HB := Aside0.mk (Below.refl w.heap.size w)
 have H : ((prime_Check_1.f a0_0).bind fun t543 => (if t543 = true then (prime_Check.j0 k true a0_0 a0_1) else ((prime_Check_1.f a0_1).bind fun t544 => (if t544 = true then (prime_Check.j0 k true a0_0 a0_1) else (if a0_0 = a0_1 then (prime_Check.j0 k true a0_0 a0_1) else ((bits_Len64.f k a0_0).bind fun t545 => ((bits_Len64.f k a0_1).bind fun t546 => (prime_Check.j0 k (t545 != t546) a0_0 a0_1)))))))) = some r := h
 clear h; have HC2 := Aside0.mk H; clear H
 go_enter Try.func25, Try.ntmps25
 go_upto_region 2 with (first | ((with_reducible refine gate_dst (N := 1) rfl ?_); refine box_event ?hg (N := 1) ?hd (cs := #[.int .u64 a0_0, .int .u64 a0_1]) (t := 53) ?hr ?_; (case hd => rfl); (case hg => rfl); (case hr => first | (go_simp; done) | (go_simp; rfl)); intro gb542 hg w3 hbox hb; have BK542 := Aside0.mk (hbox); have GW542 := us hg; have GE542 := us hg; replace HB := uy hb; clear hb hbox hg))
 (try simp only [Act.put, List.setIfInBounds_toArray, List.set_cons_zero, List.set_cons_succ])
 go_cut [35] (fun v35 wc => ∃ (kq : Nat) (x35_1 : Bool), v35 = .bool x35_1 ∧ Aside0 (prime_Check.j0 kq x35_1 a0_0 a0_1 = some r) ∧ Aside0 (kq ≤ k) ∧ Aside0 (wc.heap[gb542]? = some (.cells #[.int .u64 a0_0, .int .u64 a0_1] 53 (0, 0))) ∧ Aside0 (Below w.heap.size w wc))
 case first =>
  have H := HC2.out
  clear HC2
  replace H := ub H; obtain ⟨t543, A4, H⟩ := H
  by_cases c5 : t543 = true
  ·
   subst c5
   have H1 : (prime_Check.j0 k true a0_0 a0_1) = some r := by rw [if_pos rfl] at H; exact H
   clear H; have H := H1; clear H1
   have H' := Aside0.mk H
   clear H
   try go_wp2
   replace BK542 := Aside0.mk (blk_drew BK542.out); replace HB := Aside0.mk (below_drew1 HB.out)
   refine start_ (n := 26) (S := fun w' => w'.cell? ⟨gb542, 0, none⟩ = some (.int .u64 a0_0) ∧ w'.cell? ⟨gb542, 1, none⟩ = some (.int .u64 a0_1)) (ds := []) #[false,false,false,false,false,false,false,false,false,false,false,false,false,false,false,false,false,false,false,false,false,false,false,false,false,false] (by kernel_rfl) rfl rfl ⟨(blk_cell BK542.out 0).trans rfl, (blk_cell BK542.out 1).trans rfl⟩ (fun hHeld => ?_); refine with_tabW prime_Check.tab2 prime_Check.bits2 (fun HT_ HW_ => ?_)
   generalize w3.drew = w6 at BK542 HB hHeld ⊢
   refine pure_ (i := 0) (N := some 10) (v := ?_) (a' := ?_) #[true,false,false,false,false,false,false,false,false,false,false,false,false,false,false,false,false,false,false,false,false,false,false,false,false,false] rfl rfl (any_of HT_.out (by kernel_rfl)) (fun _ _ _ h => h) (Or.inl ⟨by rfl, ?_⟩) ?_ ?_
   rotate_left
   ·
    intro w'
    go_simp
    with_reducible rfl
   rotate_left
   · exact uQ
   refine pure_ (i := 1) (N := some 11) (v := ?_) (a' := ?_) #[true,true,false,false,false,false,false,false,false,false,false,false,false,false,false,false,false,false,false,false,false,false,false,false,false,false] rfl rfl (any_of HT_.out (by kernel_rfl)) (fun _ _ _ h => h) (Or.inl ⟨by rfl, ?_⟩) ?_ ?_
   rotate_left
   ·
    intro w'
    go_simp
    with_reducible rfl
   rotate_left
   · exact uQ
   refine take_ (i := 2) (N := some 12) (v := ?_) (a' := ?_) #[true,true,true,false,false,false,false,false,false,false,false,false,false,false,false,false,false,false,false,false,false,false,false,false,false,false] rfl rfl (take_ofW HT_.out HW_.out (by kernel_rfl)) (fun _ _ _ h => h) (Or.inl ⟨by rfl, ?_⟩) hHeld ?_ ?_
   rotate_left
   ·
    rintro w' ⟨s0, s1⟩
    go_simp
    with_reducible rfl
   rotate_left
   · exact uQ
   refine one_ (i := 3) (N := some 13) #[true,true,true,true,false,false,false,false,false,false,false,false,false,false,false,false,false,false,false,false,false,false,false,false,false,false] rfl rfl (one_of HT_.out (by kernel_rfl)) (by decide) (fun K hK => ?_)
   (first | refine goes_ Try.func61 (by kernel_rfl) rfl #[.int .u64 a0_0] (by rfl) rfl rfl uM ?_ | refine goesT_ Try.func61 (by kernel_rfl) rfl #[.int .u64 a0_0] (by rfl) rfl rfl rfl uM ?_)
   with_reducible refine (prime_Check_1.calls a0_0 true _ A4.out).mono ?_
   rintro e w7 ⟨rfl, hb⟩
   refine ⟨_, rfl, ?_⟩; replace BK542 := ux BK542 hb; replace HB := uy hb; (try clear hb); refine hK.out _ _ ⟨(blk_cell BK542.out 0).trans rfl, (blk_cell BK542.out 1).trans rfl⟩ (fun hHeld => ?_); clear hK K; refine norm_ (a' := ?_) ?_ ?_; rotate_left
   · exact (show Act.put _ (some 13) _ = _ from uQ)
   refine pure_ (i := 4) (N := some 14) (v := ?_) (a' := ?_) #[true,true,true,true,true,false,false,false,false,false,false,false,false,false,false,false,false,false,false,false,false,false,false,false,false,false] rfl rfl (any_of HT_.out (by kernel_rfl)) (fun _ _ _ h => h) (Or.inl ⟨by rfl, ?_⟩) ?_ ?_
   rotate_left
   ·
    intro w'
    go_simp
    with_reducible rfl
   rotate_left
   · exact uQ
   refine pure_ (i := 5) (N := some 15) (v := undef) (a' := ?_) #[true,true,true,true,true,true,false,false,false,false,false,false,false,false,false,false,false,false,false,false,false,false,false,false,false,false] rfl rfl (any_of HT_.out (by kernel_rfl)) (fun _ _ _ h => h) (Or.inr ⟨by rfl, rfl⟩) ?_ ?_
   rotate_left
   · exact uQ
   refine pure_ (i := 6) (N := some 16) (v := undef) (a' := ?_) #[true,true,true,true,true,true,true,false,false,false,false,false,false,false,false,false,false,false,false,false,false,false,false,false,false,false] rfl rfl (any_of HT_.out (by kernel_rfl)) (fun _ _ _ h => h) (Or.inr ⟨by rfl, rfl⟩) ?_ ?_
   rotate_left
   · exact uQ
   refine pure_ (i := 7) (N := some 17) (v := undef) (a' := ?_) #[true,true,true,true,true,true,true,true,false,false,false,false,false,false,false,false,false,false,false,false,false,false,false,false,false,false] rfl rfl (any_of HT_.out (by kernel_rfl)) (fun _ _ _ h => h) (Or.inr ⟨by rfl, rfl⟩) ?_ ?_
   rotate_left
   · exact uQ
   refine pure_ (i := 8) (N := some 18) (v := undef) (a' := ?_) #[true,true,true,true,true,true,true,true,true,false,false,false,false,false,false,false,false,false,false,false,false,false,false,false,false,false] rfl rfl (any_of HT_.out (by kernel_rfl)) (fun _ _ _ h => h) (Or.inr ⟨by rfl, rfl⟩) ?_ ?_
   rotate_left
   · exact uQ
   refine pure_ (i := 9) (N := some 19) (v := ?_) (a' := ?_) #[true,true,true,true,true,true,true,true,true,true,false,false,false,false,false,false,false,false,false,false,false,false,false,false,false,false] rfl rfl (any_of HT_.out (by kernel_rfl)) (fun _ _ _ h => h) (Or.inl ⟨by rfl, ?_⟩) ?_ ?_
   rotate_left
   ·
    intro w'
    go_simp
    with_reducible rfl
   rotate_left
   · exact uQ
   refine pure_ (i := 10) (N := some 20) (v := ?_) (a' := ?_) #[true,true,true,true,true,true,true,true,true,true,true,false,false,false,false,false,false,false,false,false,false,false,false,false,false,false] rfl rfl (any_of HT_.out (by kernel_rfl)) (fun _ _ _ h => h) (Or.inl ⟨by rfl, ?_⟩) ?_ ?_
   rotate_left
   ·
    intro w'
    go_simp
    with_reducible rfl
   rotate_left
   · exact uQ
   refine pure_ (i := 11) (N := some 21) (v := undef) (a' := ?_) #[true,true,true,true,true,true,true,true,true,true,true,true,false,false,false,false,false,false,false,false,false,false,false,false,false,false] rfl rfl (any_of HT_.out (by kernel_rfl)) (fun _ _ _ h => h) (Or.inr ⟨by rfl, rfl⟩) ?_ ?_
   rotate_left
   · exact uQ
   refine pure_ (i := 12) (N := some 22) (v := undef) (a' := ?_) #[true,true,true,true,true,true,true,true,true,true,true,true,true,false,false,false,false,false,false,false,false,false,false,false,false,false] rfl rfl (any_of HT_.out (by kernel_rfl)) (fun _ _ _ h => h) (Or.inr ⟨by rfl, rfl⟩) ?_ ?_
   rotate_left
   · exact uQ
   refine pure_ (i := 13) (N := some 23) (v := undef) (a' := ?_) #[true,true,true,true,true,true,true,true,true,true,true,true,true,true,false,false,false,false,false,false,false,false,false,false,false,false] rfl rfl (any_of HT_.out (by kernel_rfl)) (fun _ _ _ h => h) (Or.inr ⟨by rfl, rfl⟩) ?_ ?_
   rotate_left
   · exact uQ
   refine pure_ (i := 14) (N := some 24) (v := undef) (a' := ?_) #[true,true,true,true,true,true,true,true,true,true,true,true,true,true,true,false,false,false,false,false,false,false,false,false,false,false] rfl rfl (any_of HT_.out (by kernel_rfl)) (fun _ _ _ h => h) (Or.inr ⟨by rfl, rfl⟩) ?_ ?_
   rotate_left
   · exact uQ
   refine pure_ (i := 15) (N := some 25) (v := undef) (a' := ?_) #[true,true,true,true,true,true,true,true,true,true,true,true,true,true,true,true,false,false,false,false,false,false,false,false,false,false] rfl rfl (any_of HT_.out (by kernel_rfl)) (fun _ _ _ h => h) (Or.inr ⟨by rfl, rfl⟩) ?_ ?_
   rotate_left
   · exact uQ
   refine pure_ (i := 16) (N := some 26) (v := ?_) (a' := ?_) #[true,true,true,true,true,true,true,true,true,true,true,true,true,true,true,true,true,false,false,false,false,false,false,false,false,false] rfl rfl (any_of HT_.out (by kernel_rfl)) (fun _ _ _ h => h) (Or.inl ⟨by rfl, ?_⟩) ?_ ?_
   rotate_left
   ·
    intro w'
    go_simp
    with_reducible rfl
   rotate_left
   · exact uQ
   refine pure_ (i := 17) (N := some 27) (v := ?_) (a' := ?_) #[true,true,true,true,true,true,true,true,true,true,true,true,true,true,true,true,true,true,false,false,false,false,false,false,false,false] rfl rfl (any_of HT_.out (by kernel_rfl)) (fun _ _ _ h => h) (Or.inl ⟨by rfl, ?_⟩) ?_ ?_
   rotate_left
   ·
    intro w'
    go_simp
    with_reducible rfl
   rotate_left
   · exact uQ
   refine pure_ (i := 18) (N := some 28) (v := undef) (a' := ?_) #[true,true,true,true,true,true,true,true,true,true,true,true,true,true,true,true,true,true,true,false,false,false,false,false,false,false] rfl rfl (any_of HT_.out (by kernel_rfl)) (fun _ _ _ h => h) (Or.inr ⟨by rfl, rfl⟩) ?_ ?_
   rotate_left
   · exact uQ
   refine pure_ (i := 19) (N := some 29) (v := undef) (a' := ?_) #[true,true,true,true,true,true,true,true,true,true,true,true,true,true,true,true,true,true,true,true,false,false,false,false,false,false] rfl rfl (any_of HT_.out (by kernel_rfl)) (fun _ _ _ h => h) (Or.inr ⟨by rfl, rfl⟩) ?_ ?_
   rotate_left
   · exact uQ
   refine pure_ (i := 20) (N := some 30) (v := undef) (a' := ?_) #[true,true,true,true,true,true,true,true,true,true,true,true,true,true,true,true,true,true,true,true,true,false,false,false,false,false] rfl rfl (any_of HT_.out (by kernel_rfl)) (fun _ _ _ h => h) (Or.inr ⟨by rfl, rfl⟩) ?_ ?_
   rotate_left
   · exact uQ
   refine pure_ (i := 21) (N := some 31) (v := undef) (a' := ?_) #[true,true,true,true,true,true,true,true,true,true,true,true,true,true,true,true,true,true,true,true,true,true,false,false,false,false] rfl rfl (any_of HT_.out (by kernel_rfl)) (fun _ _ _ h => h) (Or.inr ⟨by rfl, rfl⟩) ?_ ?_
   rotate_left
   · exact uQ
   refine pure_ (i := 22) (N := some 32) (v := undef) (a' := ?_) #[true,true,true,true,true,true,true,true,true,true,true,true,true,true,true,true,true,true,true,true,true,true,true,false,false,false] rfl rfl (any_of HT_.out (by kernel_rfl)) (fun _ _ _ h => h) (Or.inr ⟨by rfl, rfl⟩) ?_ ?_
   rotate_left
   · exact uQ
   refine pure_ (i := 23) (N := some 33) (v := undef) (a' := ?_) #[true,true,true,true,true,true,true,true,true,true,true,true,true,true,true,true,true,true,true,true,true,true,true,true,false,false] rfl rfl (any_of HT_.out (by kernel_rfl)) (fun _ _ _ h => h) (Or.inr ⟨by rfl, rfl⟩) ?_ ?_
   rotate_left
   · exact uQ
   refine pure_ (i := 24) (N := some 34) (v := undef) (a' := ?_) #[true,true,true,true,true,true,true,true,true,true,true,true,true,true,true,true,true,true,true,true,true,true,true,true,true,false] rfl rfl (any_of HT_.out (by kernel_rfl)) (fun _ _ _ h => h) (Or.inr ⟨by rfl, rfl⟩) ?_ ?_
   rotate_left
   · exact uQ
   refine pure_ (i := 25) (N := some 35) (v := ?_) (a' := ?_) #[true,true,true,true,true,true,true,true,true,true,true,true,true,true,true,true,true,true,true,true,true,true,true,true,true,true] rfl rfl (any_of HT_.out (by kernel_rfl)) (fun _ _ _ h => h) (Or.inl ⟨by rfl, ?_⟩) ?_ ?_
   rotate_left
   ·
    intro w'
    go_simp
    with_reducible rfl
   rotate_left
   · exact uQ
   refine done_ (done_of HT_.out (by kernel_rfl)) ?_
   try go_wp2
   go_meet
   case rel => exact ⟨_, (true), uG, H', ⟨uW⟩, ⟨uK BK542.out⟩, ⟨uB⟩⟩
  replace c5 := Bool.eq_false_iff.mpr c5
  subst c5
  have H1 : ((prime_Check_1.f a0_1).bind fun t544 => (if t544 = true then (prime_Check.j0 k true a0_0 a0_1) else (if a0_0 = a0_1 then (prime_Check.j0 k true a0_0 a0_1) else ((bits_Len64.f k a0_0).bind fun t545 => ((bits_Len64.f k a0_1).bind fun t546 => (prime_Check.j0 k (t545 != t546) a0_0 a0_1)))))) = some r := by rw [if_neg (show ¬ (false = true) by decide)] at H; exact H
  clear H; have H := H1; clear H1
  replace H := ub H; obtain ⟨t544, A8, H⟩ := H
  by_cases c9 : t544 = true
  ·
   subst c9
   have H1 : (prime_Check.j0 k true a0_0 a0_1) = some r := by rw [if_pos rfl] at H; exact H
   clear H; have H := H1; clear H1
   have H' := Aside0.mk H
   clear H
   try go_wp2
   replace BK542 := Aside0.mk (blk_drew BK542.out); replace HB := Aside0.mk (below_drew1 HB.out)
   refine start_ (n := 26) (S := fun w' => w'.cell? ⟨gb542, 0, none⟩ = some (.int .u64 a0_0) ∧ w'.cell? ⟨gb542, 1, none⟩ = some (.int .u64 a0_1)) (ds := []) #[false,false,false,false,false,false,false,false,false,false,false,false,false,false,false,false,false,false,false,false,false,false,false,false,false,false] (by kernel_rfl) rfl rfl ⟨(blk_cell BK542.out 0).trans rfl, (blk_cell BK542.out 1).trans rfl⟩ (fun hHeld => ?_); refine with_tabW prime_Check.tab2 prime_Check.bits2 (fun HT_ HW_ => ?_)
   generalize w3.drew = w10 at BK542 HB hHeld ⊢
   refine pure_ (i := 0) (N := some 10) (v := ?_) (a' := ?_) #[true,false,false,false,false,false,false,false,false,false,false,false,false,false,false,false,false,false,false,false,false,false,false,false,false,false] rfl rfl (any_of HT_.out (by kernel_rfl)) (fun _ _ _ h => h) (Or.inl ⟨by rfl, ?_⟩) ?_ ?_
   rotate_left
   ·
    intro w'
    go_simp
    with_reducible rfl
   rotate_left
   · exact uQ
   refine pure_ (i := 1) (N := some 11) (v := ?_) (a' := ?_) #[true,true,false,false,false,false,false,false,false,false,false,false,false,false,false,false,false,false,false,false,false,false,false,false,false,false] rfl rfl (any_of HT_.out (by kernel_rfl)) (fun _ _ _ h => h) (Or.inl ⟨by rfl, ?_⟩) ?_ ?_
   rotate_left
   ·
    intro w'
    go_simp
    with_reducible rfl
   rotate_left
   · exact uQ
   refine take_ (i := 2) (N := some 12) (v := ?_) (a' := ?_) #[true,true,true,false,false,false,false,false,false,false,false,false,false,false,false,false,false,false,false,false,false,false,false,false,false,false] rfl rfl (take_ofW HT_.out HW_.out (by kernel_rfl)) (fun _ _ _ h => h) (Or.inl ⟨by rfl, ?_⟩) hHeld ?_ ?_
   rotate_left
   ·
    rintro w' ⟨s0, s1⟩
    go_simp
    with_reducible rfl
   rotate_left
   · exact uQ
   refine one_ (i := 3) (N := some 13) #[true,true,true,true,false,false,false,false,false,false,false,false,false,false,false,false,false,false,false,false,false,false,false,false,false,false] rfl rfl (one_of HT_.out (by kernel_rfl)) (by decide) (fun K hK => ?_)
   (first | refine goes_ Try.func61 (by kernel_rfl) rfl #[.int .u64 a0_0] (by rfl) rfl rfl uM ?_ | refine goesT_ Try.func61 (by kernel_rfl) rfl #[.int .u64 a0_0] (by rfl) rfl rfl rfl uM ?_)
   with_reducible refine (prime_Check_1.calls a0_0 false _ A4.out).mono ?_
   rintro e w11 ⟨rfl, hb⟩
   refine ⟨_, rfl, ?_⟩; replace BK542 := ux BK542 hb; replace HB := uy hb; (try clear hb); refine hK.out _ _ ⟨(blk_cell BK542.out 0).trans rfl, (blk_cell BK542.out 1).trans rfl⟩ (fun hHeld => ?_); clear hK K; refine norm_ (a' := ?_) ?_ ?_; rotate_left
   · exact (show Act.put _ (some 13) _ = _ from uQ)
   refine pure_ (i := 4) (N := some 14) (v := ?_) (a' := ?_) #[true,true,true,true,true,false,false,false,false,false,false,false,false,false,false,false,false,false,false,false,false,false,false,false,false,false] rfl rfl (any_of HT_.out (by kernel_rfl)) (fun _ _ _ h => h) (Or.inl ⟨by rfl, ?_⟩) ?_ ?_
   rotate_left
   ·
    intro w'
    go_simp
    with_reducible rfl
   rotate_left
   · exact uQ
   refine pure_ (i := 5) (N := some 15) (v := ?_) (a' := ?_) #[true,true,true,true,true,true,false,false,false,false,false,false,false,false,false,false,false,false,false,false,false,false,false,false,false,false] rfl rfl (any_of HT_.out (by kernel_rfl)) (fun _ _ _ h => h) (Or.inl ⟨by rfl, ?_⟩) ?_ ?_
   rotate_left
   ·
    intro w'
    go_simp
    with_reducible rfl
   rotate_left
   · exact uQ
   refine pure_ (i := 6) (N := some 16) (v := ?_) (a' := ?_) #[true,true,true,true,true,true,true,false,false,false,false,false,false,false,false,false,false,false,false,false,false,false,false,false,false,false] rfl rfl (any_of HT_.out (by kernel_rfl)) (fun _ _ _ h => h) (Or.inl ⟨by rfl, ?_⟩) ?_ ?_
   rotate_left
   ·
    intro w'
    go_simp
    with_reducible rfl
   rotate_left
   · exact uQ
   refine take_ (i := 7) (N := some 17) (v := ?_) (a' := ?_) #[true,true,true,true,true,true,true,true,false,false,false,false,false,false,false,false,false,false,false,false,false,false,false,false,false,false] rfl rfl (take_ofW HT_.out HW_.out (by kernel_rfl)) (fun _ _ _ h => h) (Or.inl ⟨by rfl, ?_⟩) hHeld ?_ ?_
   rotate_left
   ·
    rintro w' ⟨s0, s1⟩
    go_simp
    with_reducible rfl
   rotate_left
   · exact uQ
   refine one_ (i := 8) (N := some 18) #[true,true,true,true,true,true,true,true,true,false,false,false,false,false,false,false,false,false,false,false,false,false,false,false,false,false] rfl rfl (one_of HT_.out (by kernel_rfl)) (by decide) (fun K hK => ?_)
   (first | refine goes_ Try.func61 (by kernel_rfl) rfl #[.int .u64 a0_1] (by rfl) rfl rfl uM ?_ | refine goesT_ Try.func61 (by kernel_rfl) rfl #[.int .u64 a0_1] (by rfl) rfl rfl rfl uM ?_)
   with_reducible refine (prime_Check_1.calls a0_1 true _ A8.out).mono ?_
   rintro e w12 ⟨rfl, hb⟩
   refine ⟨_, rfl, ?_⟩; replace BK542 := ux BK542 hb; replace HB := uy hb; (try clear hb); refine hK.out _ _ ⟨(blk_cell BK542.out 0).trans rfl, (blk_cell BK542.out 1).trans rfl⟩ (fun hHeld => ?_); clear hK K; refine norm_ (a' := ?_) ?_ ?_; rotate_left
   · exact (show Act.put _ (some 18) _ = _ from uQ)
   refine pure_ (i := 9) (N := some 19) (v := ?_) (a' := ?_) #[true,true,true,true,true,true,true,true,true,true,false,false,false,false,false,false,false,false,false,false,false,false,false,false,false,false] rfl rfl (any_of HT_.out (by kernel_rfl)) (fun _ _ _ h => h) (Or.inl ⟨by rfl, ?_⟩) ?_ ?_
   rotate_left
   ·
    intro w'
    go_simp
    with_reducible rfl
   rotate_left
   · exact uQ
   refine pure_ (i := 10) (N := some 20) (v := ?_) (a' := ?_) #[true,true,true,true,true,true,true,true,true,true,true,false,false,false,false,false,false,false,false,false,false,false,false,false,false,false] rfl rfl (any_of HT_.out (by kernel_rfl)) (fun _ _ _ h => h) (Or.inl ⟨by rfl, ?_⟩) ?_ ?_
   rotate_left
   ·
    intro w'
    go_simp
    with_reducible rfl
   rotate_left
   · exact uQ
   refine pure_ (i := 11) (N := some 21) (v := undef) (a' := ?_) #[true,true,true,true,true,true,true,true,true,true,true,true,false,false,false,false,false,false,false,false,false,false,false,false,false,false] rfl rfl (any_of HT_.out (by kernel_rfl)) (fun _ _ _ h => h) (Or.inr ⟨by rfl, rfl⟩) ?_ ?_
   rotate_left
   · exact uQ
   refine pure_ (i := 12) (N := some 22) (v := undef) (a' := ?_) #[true,true,true,true,true,true,true,true,true,true,true,true,true,false,false,false,false,false,false,false,false,false,false,false,false,false] rfl rfl (any_of HT_.out (by kernel_rfl)) (fun _ _ _ h => h) (Or.inr ⟨by rfl, rfl⟩) ?_ ?_
   rotate_left
   · exact uQ
   refine pure_ (i := 13) (N := some 23) (v := undef) (a' := ?_) #[true,true,true,true,true,true,true,true,true,true,true,true,true,true,false,false,false,false,false,false,false,false,false,false,false,false] rfl rfl (any_of HT_.out (by kernel_rfl)) (fun _ _ _ h => h) (Or.inr ⟨by rfl, rfl⟩) ?_ ?_
   rotate_left
   · exact uQ
   refine pure_ (i := 14) (N := some 24) (v := undef) (a' := ?_) #[true,true,true,true,true,true,true,true,true,true,true,true,true,true,true,false,false,false,false,false,false,false,false,false,false,false] rfl rfl (any_of HT_.out (by kernel_rfl)) (fun _ _ _ h => h) (Or.inr ⟨by rfl, rfl⟩) ?_ ?_
   rotate_left
   · exact uQ
   refine pure_ (i := 15) (N := some 25) (v := undef) (a' := ?_) #[true,true,true,true,true,true,true,true,true,true,true,true,true,true,true,true,false,false,false,false,false,false,false,false,false,false] rfl rfl (any_of HT_.out (by kernel_rfl)) (fun _ _ _ h => h) (Or.inr ⟨by rfl, rfl⟩) ?_ ?_
   rotate_left
   · exact uQ
   refine pure_ (i := 16) (N := some 26) (v := ?_) (a' := ?_) #[true,true,true,true,true,true,true,true,true,true,true,true,true,true,true,true,true,false,false,false,false,false,false,false,false,false] rfl rfl (any_of HT_.out (by kernel_rfl)) (fun _ _ _ h => h) (Or.inl ⟨by rfl, ?_⟩) ?_ ?_
   rotate_left
   ·
    intro w'
    go_simp
    with_reducible rfl
   rotate_left
   · exact uQ
   refine pure_ (i := 17) (N := some 27) (v := ?_) (a' := ?_) #[true,true,true,true,true,true,true,true,true,true,true,true,true,true,true,true,true,true,false,false,false,false,false,false,false,false] rfl rfl (any_of HT_.out (by kernel_rfl)) (fun _ _ _ h => h) (Or.inl ⟨by rfl, ?_⟩) ?_ ?_
   rotate_left
   ·
    intro w'
    go_simp
    with_reducible rfl
   rotate_left
   · exact uQ
   refine pure_ (i := 18) (N := some 28) (v := undef) (a' := ?_) #[true,true,true,true,true,true,true,true,true,true,true,true,true,true,true,true,true,true,true,false,false,false,false,false,false,false] rfl rfl (any_of HT_.out (by kernel_rfl)) (fun _ _ _ h => h) (Or.inr ⟨by rfl, rfl⟩) ?_ ?_
   rotate_left
   · exact uQ
   refine pure_ (i := 19) (N := some 29) (v := undef) (a' := ?_) #[true,true,true,true,true,true,true,true,true,true,true,true,true,true,true,true,true,true,true,true,false,false,false,false,false,false] rfl rfl (any_of HT_.out (by kernel_rfl)) (fun _ _ _ h => h) (Or.inr ⟨by rfl, rfl⟩) ?_ ?_
   rotate_left
   · exact uQ
   refine pure_ (i := 20) (N := some 30) (v := undef) (a' := ?_) #[true,true,true,true,true,true,true,true,true,true,true,true,true,true,true,true,true,true,true,true,true,false,false,false,false,false] rfl rfl (any_of HT_.out (by kernel_rfl)) (fun _ _ _ h => h) (Or.inr ⟨by rfl, rfl⟩) ?_ ?_
   rotate_left
   · exact uQ
   refine pure_ (i := 21) (N := some 31) (v := undef) (a' := ?_) #[true,true,true,true,true,true,true,true,true,true,true,true,true,true,true,true,true,true,true,true,true,true,false,false,false,false] rfl rfl (any_of HT_.out (by kernel_rfl)) (fun _ _ _ h => h) (Or.inr ⟨by rfl, rfl⟩) ?_ ?_
   rotate_left
   · exact uQ
   refine pure_ (i := 22) (N := some 32) (v := undef) (a' := ?_) #[true,true,true,true,true,true,true,true,true,true,true,true,true,true,true,true,true,true,true,true,true,true,true,false,false,false] rfl rfl (any_of HT_.out (by kernel_rfl)) (fun _ _ _ h => h) (Or.inr ⟨by rfl, rfl⟩) ?_ ?_
   rotate_left
   · exact uQ
   refine pure_ (i := 23) (N := some 33) (v := undef) (a' := ?_) #[true,true,true,true,true,true,true,true,true,true,true,true,true,true,true,true,true,true,true,true,true,true,true,true,false,false] rfl rfl (any_of HT_.out (by kernel_rfl)) (fun _ _ _ h => h) (Or.inr ⟨by rfl, rfl⟩) ?_ ?_
   rotate_left
   · exact uQ
   refine pure_ (i := 24) (N := some 34) (v := undef) (a' := ?_) #[true,true,true,true,true,true,true,true,true,true,true,true,true,true,true,true,true,true,true,true,true,true,true,true,true,false] rfl rfl (any_of HT_.out (by kernel_rfl)) (fun _ _ _ h => h) (Or.inr ⟨by rfl, rfl⟩) ?_ ?_
   rotate_left
   · exact uQ
   refine pure_ (i := 25) (N := some 35) (v := ?_) (a' := ?_) #[true,true,true,true,true,true,true,true,true,true,true,true,true,true,true,true,true,true,true,true,true,true,true,true,true,true] rfl rfl (any_of HT_.out (by kernel_rfl)) (fun _ _ _ h => h) (Or.inl ⟨by rfl, ?_⟩) ?_ ?_
   rotate_left
   ·
    intro w'
    go_simp
    with_reducible rfl
   rotate_left
   · exact uQ
   refine done_ (done_of HT_.out (by kernel_rfl)) ?_
   try go_wp2
   go_meet
   case rel => exact ⟨_, (true), uG, H', ⟨uW⟩, ⟨uK BK542.out⟩, ⟨uB⟩⟩
  replace c9 := Bool.eq_false_iff.mpr c9
  subst c9
  have H1 : (if a0_0 = a0_1 then (prime_Check.j0 k true a0_0 a0_1) else ((bits_Len64.f k a0_0).bind fun t545 => ((bits_Len64.f k a0_1).bind fun t546 => (prime_Check.j0 k (t545 != t546) a0_0 a0_1)))) = some r := by rw [if_neg (show ¬ (false = true) by decide)] at H; exact H
  clear H; have H := H1; clear H1
  by_cases c13 : a0_0 = a0_1
  ·
   rw [if_pos c13] at H
   have c13b0 : (a0_0 == a0_1) = true := beq_iff_eq.mpr c13
   have c13b1 : (a0_0 != a0_1) = false := bne_eq_false_iff_eq.mpr c13
   clear c13
   (first | rw [c13b0] | (simp only [i64_w, i32_w]; rw [c13b0]) | skip)
   have H' := Aside0.mk H
   clear H
   try go_wp2
   replace BK542 := Aside0.mk (blk_drew BK542.out); replace HB := Aside0.mk (below_drew1 HB.out)
   refine start_ (n := 26) (S := fun w' => w'.cell? ⟨gb542, 0, none⟩ = some (.int .u64 a0_0) ∧ w'.cell? ⟨gb542, 1, none⟩ = some (.int .u64 a0_1)) (ds := []) #[false,false,false,false,false,false,false,false,false,false,false,false,false,false,false,false,false,false,false,false,false,false,false,false,false,false] (by kernel_rfl) rfl rfl ⟨(blk_cell BK542.out 0).trans rfl, (blk_cell BK542.out 1).trans rfl⟩ (fun hHeld => ?_); refine with_tabW prime_Check.tab2 prime_Check.bits2 (fun HT_ HW_ => ?_)
   generalize w3.drew = w14 at BK542 HB hHeld ⊢
   refine pure_ (i := 0) (N := some 10) (v := ?_) (a' := ?_) #[true,false,false,false,false,false,false,false,false,false,false,false,false,false,false,false,false,false,false,false,false,false,false,false,false,false] rfl rfl (any_of HT_.out (by kernel_rfl)) (fun _ _ _ h => h) (Or.inl ⟨by rfl, ?_⟩) ?_ ?_
   rotate_left
   ·
    intro w'
    go_simp
    with_reducible rfl
   rotate_left
   · exact uQ
   refine pure_ (i := 1) (N := some 11) (v := ?_) (a' := ?_) #[true,true,false,false,false,false,false,false,false,false,false,false,false,false,false,false,false,false,false,false,false,false,false,false,false,false] rfl rfl (any_of HT_.out (by kernel_rfl)) (fun _ _ _ h => h) (Or.inl ⟨by rfl, ?_⟩) ?_ ?_
   rotate_left
   ·
    intro w'
    go_simp
    with_reducible rfl
   rotate_left
   · exact uQ
   refine take_ (i := 2) (N := some 12) (v := ?_) (a' := ?_) #[true,true,true,false,false,false,false,false,false,false,false,false,false,false,false,false,false,false,false,false,false,false,false,false,false,false] rfl rfl (take_ofW HT_.out HW_.out (by kernel_rfl)) (fun _ _ _ h => h) (Or.inl ⟨by rfl, ?_⟩) hHeld ?_ ?_
   rotate_left
   ·
    rintro w' ⟨s0, s1⟩
    go_simp
    with_reducible rfl
   rotate_left
   · exact uQ
   refine one_ (i := 3) (N := some 13) #[true,true,true,true,false,false,false,false,false,false,false,false,false,false,false,false,false,false,false,false,false,false,false,false,false,false] rfl rfl (one_of HT_.out (by kernel_rfl)) (by decide) (fun K hK => ?_)
   (first | refine goes_ Try.func61 (by kernel_rfl) rfl #[.int .u64 a0_0] (by rfl) rfl rfl uM ?_ | refine goesT_ Try.func61 (by kernel_rfl) rfl #[.int .u64 a0_0] (by rfl) rfl rfl rfl uM ?_)
   with_reducible refine (prime_Check_1.calls a0_0 false _ A4.out).mono ?_
   rintro e w15 ⟨rfl, hb⟩
   refine ⟨_, rfl, ?_⟩; replace BK542 := ux BK542 hb; replace HB := uy hb; (try clear hb); refine hK.out _ _ ⟨(blk_cell BK542.out 0).trans rfl, (blk_cell BK542.out 1).trans rfl⟩ (fun hHeld => ?_); clear hK K; refine norm_ (a' := ?_) ?_ ?_; rotate_left
   · exact (show Act.put _ (some 13) _ = _ from uQ)
   refine pure_ (i := 4) (N := some 14) (v := ?_) (a' := ?_) #[true,true,true,true,true,false,false,false,false,false,false,false,false,false,false,false,false,false,false,false,false,false,false,false,false,false] rfl rfl (any_of HT_.out (by kernel_rfl)) (fun _ _ _ h => h) (Or.inl ⟨by rfl, ?_⟩) ?_ ?_
   rotate_left
   ·
    intro w'
    go_simp
    with_reducible rfl
   rotate_left
   · exact uQ
   refine pure_ (i := 5) (N := some 15) (v := ?_) (a' := ?_) #[true,true,true,true,true,true,false,false,false,false,false,false,false,false,false,false,false,false,false,false,false,false,false,false,false,false] rfl rfl (any_of HT_.out (by kernel_rfl)) (fun _ _ _ h => h) (Or.inl ⟨by rfl, ?_⟩) ?_ ?_
   rotate_left
   ·
    intro w'
    go_simp
    with_reducible rfl
   rotate_left
   · exact uQ
   refine pure_ (i := 6) (N := some 16) (v := ?_) (a' := ?_) #[true,true,true,true,true,true,true,false,false,false,false,false,false,false,false,false,false,false,false,false,false,false,false,false,false,false] rfl rfl (any_of HT_.out (by kernel_rfl)) (fun _ _ _ h => h) (Or.inl ⟨by rfl, ?_⟩) ?_ ?_
   rotate_left
   ·
    intro w'
    go_simp
    with_reducible rfl
   rotate_left
   · exact uQ
   refine take_ (i := 7) (N := some 17) (v := ?_) (a' := ?_) #[true,true,true,true,true,true,true,true,false,false,false,false,false,false,false,false,false,false,false,false,false,false,false,false,false,false] rfl rfl (take_ofW HT_.out HW_.out (by kernel_rfl)) (fun _ _ _ h => h) (Or.inl ⟨by rfl, ?_⟩) hHeld ?_ ?_
   rotate_left
   ·
    rintro w' ⟨s0, s1⟩
    go_simp
    with_reducible rfl
   rotate_left
   · exact uQ
   refine one_ (i := 8) (N := some 18) #[true,true,true,true,true,true,true,true,true,false,false,false,false,false,false,false,false,false,false,false,false,false,false,false,false,false] rfl rfl (one_of HT_.out (by kernel_rfl)) (by decide) (fun K hK => ?_)
   (first | refine goes_ Try.func61 (by kernel_rfl) rfl #[.int .u64 a0_1] (by rfl) rfl rfl uM ?_ | refine goesT_ Try.func61 (by kernel_rfl) rfl #[.int .u64 a0_1] (by rfl) rfl rfl rfl uM ?_)
   with_reducible refine (prime_Check_1.calls a0_1 false _ A8.out).mono ?_
   rintro e w16 ⟨rfl, hb⟩
   refine ⟨_, rfl, ?_⟩; replace BK542 := ux BK542 hb; replace HB := uy hb; (try clear hb); refine hK.out _ _ ⟨(blk_cell BK542.out 0).trans rfl, (blk_cell BK542.out 1).trans rfl⟩ (fun hHeld => ?_); clear hK K; refine norm_ (a' := ?_) ?_ ?_; rotate_left
   · exact (show Act.put _ (some 18) _ = _ from uQ)
   refine pure_ (i := 9) (N := some 19) (v := ?_) (a' := ?_) #[true,true,true,true,true,true,true,true,true,true,false,false,false,false,false,false,false,false,false,false,false,false,false,false,false,false] rfl rfl (any_of HT_.out (by kernel_rfl)) (fun _ _ _ h => h) (Or.inl ⟨by rfl, ?_⟩) ?_ ?_
   rotate_left
   ·
    intro w'
    go_simp
    with_reducible rfl
   rotate_left
   · exact uQ
   refine pure_ (i := 10) (N := some 20) (v := ?_) (a' := ?_) #[true,true,true,true,true,true,true,true,true,true,true,false,false,false,false,false,false,false,false,false,false,false,false,false,false,false] rfl rfl (any_of HT_.out (by kernel_rfl)) (fun _ _ _ h => h) (Or.inl ⟨by rfl, ?_⟩) ?_ ?_
   rotate_left
   ·
    intro w'
    go_simp
    with_reducible rfl
   rotate_left
   · exact uQ
   refine pure_ (i := 11) (N := some 21) (v := ?_) (a' := ?_) #[true,true,true,true,true,true,true,true,true,true,true,true,false,false,false,false,false,false,false,false,false,false,false,false,false,false] rfl rfl (any_of HT_.out (by kernel_rfl)) (fun _ _ _ h => h) (Or.inl ⟨by rfl, ?_⟩) ?_ ?_
   rotate_left
   ·
    intro w'
    go_simp
    with_reducible rfl
   rotate_left
   · exact uQ
   refine pure_ (i := 13) (N := some 23) (v := ?_) (a' := ?_) #[true,true,true,true,true,true,true,true,true,true,true,true,false,true,false,false,false,false,false,false,false,false,false,false,false,false] rfl rfl (any_of HT_.out (by kernel_rfl)) (fun _ _ _ h => h) (Or.inl ⟨by rfl, ?_⟩) ?_ ?_
   rotate_left
   ·
    intro w'
    go_simp
    with_reducible rfl
   rotate_left
   · exact uQ
   refine take_ (i := 12) (N := some 22) (v := ?_) (a' := ?_) #[true,true,true,true,true,true,true,true,true,true,true,true,true,true,false,false,false,false,false,false,false,false,false,false,false,false] rfl rfl (take_ofW HT_.out HW_.out (by kernel_rfl)) (fun _ _ _ h => h) (Or.inl ⟨by rfl, ?_⟩) hHeld ?_ ?_
   rotate_left
   ·
    rintro w' ⟨s0, s1⟩
    go_simp
    with_reducible rfl
   rotate_left
   · exact uQ
   refine take_ (i := 14) (N := some 24) (v := ?_) (a' := ?_) #[true,true,true,true,true,true,true,true,true,true,true,true,true,true,true,false,false,false,false,false,false,false,false,false,false,false] rfl rfl (take_ofW HT_.out HW_.out (by kernel_rfl)) (fun _ _ _ h => h) (Or.inl ⟨by rfl, ?_⟩) hHeld ?_ ?_
   rotate_left
   ·
    rintro w' ⟨s0, s1⟩
    go_simp
    with_reducible rfl
   rotate_left
   · exact uQ
   refine pure_ (i := 15) (N := some 25) (v := ?_) (a' := ?_) #[true,true,true,true,true,true,true,true,true,true,true,true,true,true,true,true,false,false,false,false,false,false,false,false,false,false] rfl rfl (any_of HT_.out (by kernel_rfl)) (fun _ _ _ h => h) (Or.inl ⟨by rfl, ?_⟩) ?_ ?_
   rotate_left
   ·
    intro w'
    go_simp
    with_reducible rfl
   rotate_left
   · exact uQ
   refine pure_ (i := 16) (N := some 26) (v := ?_) (a' := ?_) #[true,true,true,true,true,true,true,true,true,true,true,true,true,true,true,true,true,false,false,false,false,false,false,false,false,false] rfl rfl (any_of HT_.out (by kernel_rfl)) (fun _ _ _ h => h) (Or.inl ⟨by rfl, ?_⟩) ?_ ?_
   rotate_left
   ·
    intro w'
    go_simp
    with_reducible rfl
   rotate_left
   · exact uQ
   refine pure_ (i := 17) (N := some 27) (v := ?_) (a' := ?_) #[true,true,true,true,true,true,true,true,true,true,true,true,true,true,true,true,true,true,false,false,false,false,false,false,false,false] rfl rfl (any_of HT_.out (by kernel_rfl)) (fun _ _ _ h => h) (Or.inl ⟨by rfl, ?_⟩) ?_ ?_
   rotate_left
   ·
    intro w'
    go_simp
    with_reducible rfl
   rotate_left
   · exact uQ
   refine pure_ (i := 18) (N := some 28) (v := undef) (a' := ?_) #[true,true,true,true,true,true,true,true,true,true,true,true,true,true,true,true,true,true,true,false,false,false,false,false,false,false] rfl rfl (any_of HT_.out (by kernel_rfl)) (fun _ _ _ h => h) (Or.inr ⟨by rfl, rfl⟩) ?_ ?_
   rotate_left
   · exact uQ
   refine pure_ (i := 19) (N := some 29) (v := undef) (a' := ?_) #[true,true,true,true,true,true,true,true,true,true,true,true,true,true,true,true,true,true,true,true,false,false,false,false,false,false] rfl rfl (any_of HT_.out (by kernel_rfl)) (fun _ _ _ h => h) (Or.inr ⟨by rfl, rfl⟩) ?_ ?_
   rotate_left
   · exact uQ
   refine pure_ (i := 20) (N := some 30) (v := undef) (a' := ?_) #[true,true,true,true,true,true,true,true,true,true,true,true,true,true,true,true,true,true,true,true,true,false,false,false,false,false] rfl rfl (any_of HT_.out (by kernel_rfl)) (fun _ _ _ h => h) (Or.inr ⟨by rfl, rfl⟩) ?_ ?_
   rotate_left
   · exact uQ
   refine pure_ (i := 21) (N := some 31) (v := undef) (a' := ?_) #[true,true,true,true,true,true,true,true,true,true,true,true,true,true,true,true,true,true,true,true,true,true,false,false,false,false] rfl rfl (any_of HT_.out (by kernel_rfl)) (fun _ _ _ h => h) (Or.inr ⟨by rfl, rfl⟩) ?_ ?_
   rotate_left
   · exact uQ
   refine pure_ (i := 22) (N := some 32) (v := undef) (a' := ?_) #[true,true,true,true,true,true,true,true,true,true,true,true,true,true,true,true,true,true,true,true,true,true,true,false,false,false] rfl rfl (any_of HT_.out (by kernel_rfl)) (fun _ _ _ h => h) (Or.inr ⟨by rfl, rfl⟩) ?_ ?_
   rotate_left
   · exact uQ
   refine pure_ (i := 23) (N := some 33) (v := undef) (a' := ?_) #[true,true,true,true,true,true,true,true,true,true,true,true,true,true,true,true,true,true,true,true,true,true,true,true,false,false] rfl rfl (any_of HT_.out (by kernel_rfl)) (fun _ _ _ h => h) (Or.inr ⟨by rfl, rfl⟩) ?_ ?_
   rotate_left
   · exact uQ
   refine pure_ (i := 24) (N := some 34) (v := undef) (a' := ?_) #[true,true,true,true,true,true,true,true,true,true,true,true,true,true,true,true,true,true,true,true,true,true,true,true,true,false] rfl rfl (any_of HT_.out (by kernel_rfl)) (fun _ _ _ h => h) (Or.inr ⟨by rfl, rfl⟩) ?_ ?_
   rotate_left
   · exact uQ
   refine pure_ (i := 25) (N := some 35) (v := ?_) (a' := ?_) #[true,true,true,true,true,true,true,true,true,true,true,true,true,true,true,true,true,true,true,true,true,true,true,true,true,true] rfl rfl (any_of HT_.out (by kernel_rfl)) (fun _ _ _ h => h) (Or.inl ⟨by rfl, ?_⟩) ?_ ?_
   rotate_left
   ·
    intro w'
    go_simp
    with_reducible rfl
   rotate_left
   · exact uQ
   refine done_ (done_of HT_.out (by kernel_rfl)) ?_
   try go_wp2
   go_meet
   case rel => exact ⟨_, (true), uG, H', ⟨uW⟩, ⟨uK BK542.out⟩, ⟨uB⟩⟩
  rw [if_neg c13] at H
  have c13b0 : (a0_0 == a0_1) = false := beq_eq_false_iff_ne.mpr c13
  have c13b1 : (a0_0 != a0_1) = true := bne_iff_ne.mpr c13
  (first | rw [c13b0] | (simp only [i64_w, i32_w]; rw [c13b0]) | skip)
  replace H := ub H; obtain ⟨t545, A17, H⟩ := H
  replace H := ub H; obtain ⟨t546, A18, H⟩ := H
  have H' := Aside0.mk H
  clear H
  try go_wp2
  replace BK542 := Aside0.mk (blk_drew BK542.out); replace HB := Aside0.mk (below_drew1 HB.out)
  refine start_ (n := 26) (S := fun w' => w'.cell? ⟨gb542, 0, none⟩ = some (.int .u64 a0_0) ∧ w'.cell? ⟨gb542, 1, none⟩ = some (.int .u64 a0_1)) (ds := []) #[false,false,false,false,false,false,false,false,false,false,false,false,false,false,false,false,false,false,false,false,false,false,false,false,false,false] (by kernel_rfl) rfl rfl ⟨(blk_cell BK542.out 0).trans rfl, (blk_cell BK542.out 1).trans rfl⟩ (fun hHeld => ?_); refine with_tabW prime_Check.tab2 prime_Check.bits2 (fun HT_ HW_ => ?_)
  generalize w3.drew = w19 at BK542 HB hHeld ⊢
  refine pure_ (i := 0) (N := some 10) (v := ?_) (a' := ?_) #[true,false,false,false,false,false,false,false,false,false,false,false,false,false,false,false,false,false,false,false,false,false,false,false,false,false] rfl rfl (any_of HT_.out (by kernel_rfl)) (fun _ _ _ h => h) (Or.inl ⟨by rfl, ?_⟩) ?_ ?_
  rotate_left
  ·
   intro w'
   go_simp
   with_reducible rfl
  rotate_left
  · exact uQ
  refine pure_ (i := 1) (N := some 11) (v := ?_) (a' := ?_) #[true,true,false,false,false,false,false,false,false,false,false,false,false,false,false,false,false,false,false,false,false,false,false,false,false,false] rfl rfl (any_of HT_.out (by kernel_rfl)) (fun _ _ _ h => h) (Or.inl ⟨by rfl, ?_⟩) ?_ ?_
  rotate_left
  ·
   intro w'
   go_simp
   with_reducible rfl
  rotate_left
  · exact uQ
  refine take_ (i := 2) (N := some 12) (v := ?_) (a' := ?_) #[true,true,true,false,false,false,false,false,false,false,false,false,false,false,false,false,false,false,false,false,false,false,false,false,false,false] rfl rfl (take_ofW HT_.out HW_.out (by kernel_rfl)) (fun _ _ _ h => h) (Or.inl ⟨by rfl, ?_⟩) hHeld ?_ ?_
  rotate_left
  ·
   rintro w' ⟨s0, s1⟩
   go_simp
   with_reducible rfl
  rotate_left
  · exact uQ
  refine one_ (i := 3) (N := some 13) #[true,true,true,true,false,false,false,false,false,false,false,false,false,false,false,false,false,false,false,false,false,false,false,false,false,false] rfl rfl (one_of HT_.out (by kernel_rfl)) (by decide) (fun K hK => ?_)
  (first | refine goes_ Try.func61 (by kernel_rfl) rfl #[.int .u64 a0_0] (by rfl) rfl rfl uM ?_ | refine goesT_ Try.func61 (by kernel_rfl) rfl #[.int .u64 a0_0] (by rfl) rfl rfl rfl uM ?_)
  with_reducible refine (prime_Check_1.calls a0_0 false _ A4.out).mono ?_
  rintro e w20 ⟨rfl, hb⟩
  refine ⟨_, rfl, ?_⟩; replace BK542 := ux BK542 hb; replace HB := uy hb; (try clear hb); refine hK.out _ _ ⟨(blk_cell BK542.out 0).trans rfl, (blk_cell BK542.out 1).trans rfl⟩ (fun hHeld => ?_); clear hK K; refine norm_ (a' := ?_) ?_ ?_; rotate_left
  · exact (show Act.put _ (some 13) _ = _ from uQ)
  refine pure_ (i := 4) (N := some 14) (v := ?_) (a' := ?_) #[true,true,true,true,true,false,false,false,false,false,false,false,false,false,false,false,false,false,false,false,false,false,false,false,false,false] rfl rfl (any_of HT_.out (by kernel_rfl)) (fun _ _ _ h => h) (Or.inl ⟨by rfl, ?_⟩) ?_ ?_
  rotate_left
  ·
   intro w'
   go_simp
   with_reducible rfl
  rotate_left
  · exact uQ
  refine pure_ (i := 5) (N := some 15) (v := ?_) (a' := ?_) #[true,true,true,true,true,true,false,false,false,false,false,false,false,false,false,false,false,false,false,false,false,false,false,false,false,false] rfl rfl (any_of HT_.out (by kernel_rfl)) (fun _ _ _ h => h) (Or.inl ⟨by rfl, ?_⟩) ?_ ?_
  rotate_left
  ·
   intro w'
   go_simp
   with_reducible rfl
  rotate_left
  · exact uQ
  refine pure_ (i := 6) (N := some 16) (v := ?_) (a' := ?_) #[true,true,true,true,true,true,true,false,false,false,false,false,false,false,false,false,false,false,false,false,false,false,false,false,false,false] rfl rfl (any_of HT_.out (by kernel_rfl)) (fun _ _ _ h => h) (Or.inl ⟨by rfl, ?_⟩) ?_ ?_
  rotate_left
  ·
   intro w'
   go_simp
   with_reducible rfl
  rotate_left
  · exact uQ
  refine take_ (i := 7) (N := some 17) (v := ?_) (a' := ?_) #[true,true,true,true,true,true,true,true,false,false,false,false,false,false,false,false,false,false,false,false,false,false,false,false,false,false] rfl rfl (take_ofW HT_.out HW_.out (by kernel_rfl)) (fun _ _ _ h => h) (Or.inl ⟨by rfl, ?_⟩) hHeld ?_ ?_
  rotate_left
  ·
   rintro w' ⟨s0, s1⟩
   go_simp
   with_reducible rfl
  rotate_left
  · exact uQ
  refine one_ (i := 8) (N := some 18) #[true,true,true,true,true,true,true,true,true,false,false,false,false,false,false,false,false,false,false,false,false,false,false,false,false,false] rfl rfl (one_of HT_.out (by kernel_rfl)) (by decide) (fun K hK => ?_)
  (first | refine goes_ Try.func61 (by kernel_rfl) rfl #[.int .u64 a0_1] (by rfl) rfl rfl uM ?_ | refine goesT_ Try.func61 (by kernel_rfl) rfl #[.int .u64 a0_1] (by rfl) rfl rfl rfl uM ?_)
  with_reducible refine (prime_Check_1.calls a0_1 false _ A8.out).mono ?_
  rintro e w21 ⟨rfl, hb⟩
  refine ⟨_, rfl, ?_⟩; replace BK542 := ux BK542 hb; replace HB := uy hb; (try clear hb); refine hK.out _ _ ⟨(blk_cell BK542.out 0).trans rfl, (blk_cell BK542.out 1).trans rfl⟩ (fun hHeld => ?_); clear hK K; refine norm_ (a' := ?_) ?_ ?_; rotate_left
  · exact (show Act.put _ (some 18) _ = _ from uQ)
  refine pure_ (i := 9) (N := some 19) (v := ?_) (a' := ?_) #[true,true,true,true,true,true,true,true,true,true,false,false,false,false,false,false,false,false,false,false,false,false,false,false,false,false] rfl rfl (any_of HT_.out (by kernel_rfl)) (fun _ _ _ h => h) (Or.inl ⟨by rfl, ?_⟩) ?_ ?_
  rotate_left
  ·
   intro w'
   go_simp
   with_reducible rfl
  rotate_left
  · exact uQ
  refine pure_ (i := 10) (N := some 20) (v := ?_) (a' := ?_) #[true,true,true,true,true,true,true,true,true,true,true,false,false,false,false,false,false,false,false,false,false,false,false,false,false,false] rfl rfl (any_of HT_.out (by kernel_rfl)) (fun _ _ _ h => h) (Or.inl ⟨by rfl, ?_⟩) ?_ ?_
  rotate_left
  ·
   intro w'
   go_simp
   with_reducible rfl
  rotate_left
  · exact uQ
  refine pure_ (i := 11) (N := some 21) (v := ?_) (a' := ?_) #[true,true,true,true,true,true,true,true,true,true,true,true,false,false,false,false,false,false,false,false,false,false,false,false,false,false] rfl rfl (any_of HT_.out (by kernel_rfl)) (fun _ _ _ h => h) (Or.inl ⟨by rfl, ?_⟩) ?_ ?_
  rotate_left
  ·
   intro w'
   go_simp
   with_reducible rfl
  rotate_left
  · exact uQ
  refine pure_ (i := 13) (N := some 23) (v := ?_) (a' := ?_) #[true,true,true,true,true,true,true,true,true,true,true,true,false,true,false,false,false,false,false,false,false,false,false,false,false,false] rfl rfl (any_of HT_.out (by kernel_rfl)) (fun _ _ _ h => h) (Or.inl ⟨by rfl, ?_⟩) ?_ ?_
  rotate_left
  ·
   intro w'
   go_simp
   with_reducible rfl
  rotate_left
  · exact uQ
  refine take_ (i := 12) (N := some 22) (v := ?_) (a' := ?_) #[true,true,true,true,true,true,true,true,true,true,true,true,true,true,false,false,false,false,false,false,false,false,false,false,false,false] rfl rfl (take_ofW HT_.out HW_.out (by kernel_rfl)) (fun _ _ _ h => h) (Or.inl ⟨by rfl, ?_⟩) hHeld ?_ ?_
  rotate_left
  ·
   rintro w' ⟨s0, s1⟩
   go_simp
   with_reducible rfl
  rotate_left
  · exact uQ
  refine take_ (i := 14) (N := some 24) (v := ?_) (a' := ?_) #[true,true,true,true,true,true,true,true,true,true,true,true,true,true,true,false,false,false,false,false,false,false,false,false,false,false] rfl rfl (take_ofW HT_.out HW_.out (by kernel_rfl)) (fun _ _ _ h => h) (Or.inl ⟨by rfl, ?_⟩) hHeld ?_ ?_
  rotate_left
  ·
   rintro w' ⟨s0, s1⟩
   go_simp
   with_reducible rfl
  rotate_left
  · exact uQ
  refine pure_ (i := 15) (N := some 25) (v := ?_) (a' := ?_) #[true,true,true,true,true,true,true,true,true,true,true,true,true,true,true,true,false,false,false,false,false,false,false,false,false,false] rfl rfl (any_of HT_.out (by kernel_rfl)) (fun _ _ _ h => h) (Or.inl ⟨by rfl, ?_⟩) ?_ ?_
  rotate_left
  ·
   intro w'
   go_simp
   with_reducible rfl
  rotate_left
  · exact uQ
  refine pure_ (i := 16) (N := some 26) (v := ?_) (a' := ?_) #[true,true,true,true,true,true,true,true,true,true,true,true,true,true,true,true,true,false,false,false,false,false,false,false,false,false] rfl rfl (any_of HT_.out (by kernel_rfl)) (fun _ _ _ h => h) (Or.inl ⟨by rfl, ?_⟩) ?_ ?_
  rotate_left
  ·
   intro w'
   go_simp
   with_reducible rfl
  rotate_left
  · exact uQ
  refine pure_ (i := 17) (N := some 27) (v := ?_) (a' := ?_) #[true,true,true,true,true,true,true,true,true,true,true,true,true,true,true,true,true,true,false,false,false,false,false,false,false,false] rfl rfl (any_of HT_.out (by kernel_rfl)) (fun _ _ _ h => h) (Or.inl ⟨by rfl, ?_⟩) ?_ ?_
  rotate_left
  ·
   intro w'
   go_simp
   with_reducible rfl
  rotate_left
  · exact uQ
  refine pure_ (i := 18) (N := some 28) (v := ?_) (a' := ?_) #[true,true,true,true,true,true,true,true,true,true,true,true,true,true,true,true,true,true,true,false,false,false,false,false,false,false] rfl rfl (any_of HT_.out (by kernel_rfl)) (fun _ _ _ h => h) (Or.inl ⟨by rfl, ?_⟩) ?_ ?_
  rotate_left
  ·
   intro w'
   go_simp
   with_reducible rfl
  rotate_left
  · exact uQ
  refine pure_ (i := 21) (N := some 31) (v := ?_) (a' := ?_) #[true,true,true,true,true,true,true,true,true,true,true,true,true,true,true,true,true,true,true,false,false,true,false,false,false,false] rfl rfl (any_of HT_.out (by kernel_rfl)) (fun _ _ _ h => h) (Or.inl ⟨by rfl, ?_⟩) ?_ ?_
  rotate_left
  ·
   intro w'
   go_simp
   with_reducible rfl
  rotate_left
  · exact uQ
  refine take_ (i := 19) (N := some 29) (v := ?_) (a' := ?_) #[true,true,true,true,true,true,true,true,true,true,true,true,true,true,true,true,true,true,true,true,false,true,false,false,false,false] rfl rfl (take_ofW HT_.out HW_.out (by kernel_rfl)) (fun _ _ _ h => h) (Or.inl ⟨by rfl, ?_⟩) hHeld ?_ ?_
  rotate_left
  ·
   rintro w' ⟨s0, s1⟩
   go_simp
   with_reducible rfl
  rotate_left
  · exact uQ
  refine take_ (i := 22) (N := some 32) (v := ?_) (a' := ?_) #[true,true,true,true,true,true,true,true,true,true,true,true,true,true,true,true,true,true,true,true,false,true,true,false,false,false] rfl rfl (take_ofW HT_.out HW_.out (by kernel_rfl)) (fun _ _ _ h => h) (Or.inl ⟨by rfl, ?_⟩) hHeld ?_ ?_
  rotate_left
  ·
   rintro w' ⟨s0, s1⟩
   go_simp
   with_reducible rfl
  rotate_left
  · exact uQ
  refine one_ (i := 20) (N := some 30) #[true,true,true,true,true,true,true,true,true,true,true,true,true,true,true,true,true,true,true,true,true,true,true,false,false,false] rfl rfl (one_of HT_.out (by kernel_rfl)) (by decide) (fun K hK => ?_)
  (first | refine goes_ Try.func62 (by kernel_rfl) rfl #[.int .u64 a0_0] (by rfl) rfl rfl uM ?_ | refine goesT_ Try.func62 (by kernel_rfl) rfl #[.int .u64 a0_0] (by rfl) rfl rfl rfl uM ?_)
  with_reducible refine (bits_Len64.calls k a0_0 t545 _ A17.out).mono ?_
  rintro e w' ⟨rfl, ⟨nd, rfl⟩⟩
  refine ⟨_, rfl, ?_⟩; refine hK.out _ _ ⟨(blk_cell BK542.out 0).trans rfl, (blk_cell BK542.out 1).trans rfl⟩ (fun hHeld => ?_); clear hK K; refine norm_ (a' := ?_) ?_ ?_; rotate_left
  · exact (show Act.put _ (some 30) _ = _ from uQ)
  refine one_ (i := 23) (N := some 33) #[true,true,true,true,true,true,true,true,true,true,true,true,true,true,true,true,true,true,true,true,true,true,true,true,false,false] rfl rfl (one_of HT_.out (by kernel_rfl)) (by decide) (fun K hK => ?_)
  (first | refine goes_ Try.func62 (by kernel_rfl) rfl #[.int .u64 a0_1] (by rfl) rfl rfl uM ?_ | refine goesT_ Try.func62 (by kernel_rfl) rfl #[.int .u64 a0_1] (by rfl) rfl rfl rfl uM ?_)
  with_reducible refine (bits_Len64.calls k a0_1 t546 _ A18.out).mono ?_
  rintro e w' ⟨rfl, ⟨nd, rfl⟩⟩
  refine ⟨_, rfl, ?_⟩; refine hK.out _ _ ⟨(blk_cell BK542.out 0).trans rfl, (blk_cell BK542.out 1).trans rfl⟩ (fun hHeld => ?_); clear hK K; refine norm_ (a' := ?_) ?_ ?_; rotate_left
  · exact (show Act.put _ (some 33) _ = _ from uQ)
  refine pure_ (i := 24) (N := some 34) (v := ?_) (a' := ?_) #[true,true,true,true,true,true,true,true,true,true,true,true,true,true,true,true,true,true,true,true,true,true,true,true,true,false] rfl rfl (any_of HT_.out (by kernel_rfl)) (fun _ _ _ h => h) (Or.inl ⟨by rfl, ?_⟩) ?_ ?_
  rotate_left
  ·
   intro w'
   go_simp
   with_reducible rfl
  rotate_left
  · exact uQ
  refine pure_ (i := 25) (N := some 35) (v := ?_) (a' := ?_) #[true,true,true,true,true,true,true,true,true,true,true,true,true,true,true,true,true,true,true,true,true,true,true,true,true,true] rfl rfl (any_of HT_.out (by kernel_rfl)) (fun _ _ _ h => h) (Or.inl ⟨by rfl, ?_⟩) ?_ ?_
  rotate_left
  ·
   intro w'
   go_simp
   with_reducible rfl
  rotate_left
  · exact uQ
  refine done_ (done_of HT_.out (by kernel_rfl)) ?_
  try go_wp2
  go_meet
  case rel => exact ⟨_, ((t545 != t546)), uG, H', ⟨uW⟩, ⟨uK BK542.out⟩, ⟨uB⟩⟩
 case rest =>
  clear HC2; (try clear c1); (try clear p2); (try clear c6); (try clear c9); (try clear c13); (try clear c13b0); (try clear c13b1)
  obtain ⟨kq, x35_1, rfl, HA, HJ1, BK542, HB⟩ := hcut
  cases kq with
  | zero => exact absurd HA.out (by simp [prime_Check.j0])
  | succ kj1 =>
   have H := HA.out
   clear HA
   simp only [prime_Check.j0] at H
   by_cases c22 : x35_1 = true
   ·
    subst c22
    have H1 : (some 9) = some r := by rw [if_pos rfl] at H; exact H
    clear H; have H := H1; clear H1
    obtain rfl := Option.some.inj H
    go_wp2
    go_ret
    exact ⟨uF, uB⟩
   replace c22 := Bool.eq_false_iff.mpr c22
   subst c22
   have H1 : ((nat_Mul.f kj1 (([a0_0] : List Int)) (([a0_1] : List Int))).bind fun bt553 => ((nat_Mul.f kj1 (([IntKind.u64.wrap (a0_0 - 1)] : List Int)) (([IntKind.u64.wrap (a0_1 - 1)] : List Int))).bind fun bt563 => ((modint_Gcd.f kj1 bt553.1 bt563.1).bind fun bt567 => ((nat_Cmp.f kj1 bt567.1 (([1] : List Int))).bind fun t574 => (if t574 = 0 then (some 0) else (some 9)))))) = some r := by rw [if_neg (show ¬ (false = true) by decide)] at H; exact H
   clear H; have H := H1; clear H1
   obtain ⟨y547, hy547⟩ : ∃ y_ : List Int, y_ = (([a0_0] : List Int)) := ⟨_, rfl⟩
   replace H : ((nat_Mul.f kj1 y547 (([a0_1] : List Int))).bind fun bt553 => ((nat_Mul.f kj1 (([IntKind.u64.wrap (a0_0 - 1)] : List Int)) (([IntKind.u64.wrap (a0_1 - 1)] : List Int))).bind fun bt563 => ((modint_Gcd.f kj1 bt553.1 bt563.1).bind fun bt567 => ((nat_Cmp.f kj1 bt567.1 (([1] : List Int))).bind fun t574 => (if t574 = 0 then (some 0) else (some 9)))))) = some r := by first | (rw [hy547]; with_reducible exact H) | (have H2_ := (Option.bind_some _ _).symm.trans H; rw [hy547]; with_reducible exact H2_) | (have H2_ := (Option.bind_some _ _).symm.trans H; with_reducible exact H2_) | with_reducible exact H | (rw [hy547]; exact H) | exact H
   have Ny547 := Aside0.mk hy547; clear hy547
   obtain ⟨y550, hy550⟩ : ∃ y_ : List Int, y_ = (([a0_1] : List Int)) := ⟨_, rfl⟩
   replace H : ((nat_Mul.f kj1 y547 y550).bind fun bt553 => ((nat_Mul.f kj1 (([IntKind.u64.wrap (a0_0 - 1)] : List Int)) (([IntKind.u64.wrap (a0_1 - 1)] : List Int))).bind fun bt563 => ((modint_Gcd.f kj1 bt553.1 bt563.1).bind fun bt567 => ((nat_Cmp.f kj1 bt567.1 (([1] : List Int))).bind fun t574 => (if t574 = 0 then (some 0) else (some 9)))))) = some r := by first | (rw [hy550]; with_reducible exact H) | (have H2_ := (Option.bind_some _ _).symm.trans H; rw [hy550]; with_reducible exact H2_) | (have H2_ := (Option.bind_some _ _).symm.trans H; with_reducible exact H2_) | with_reducible exact H | (rw [hy550]; exact H) | exact H
   have Ny550 := Aside0.mk hy550; clear hy550
   replace H := ub H; obtain ⟨⟨t553, t556⟩, A23, H⟩ := H
   (try dsimp only at H)
   obtain ⟨y557, hy557⟩ : ∃ y_ : List Int, y_ = (([IntKind.u64.wrap (a0_0 - 1)] : List Int)) := ⟨_, rfl⟩
   replace H : ((nat_Mul.f kj1 y557 (([IntKind.u64.wrap (a0_1 - 1)] : List Int))).bind fun bt563 => ((modint_Gcd.f kj1 t553 bt563.1).bind fun bt567 => ((nat_Cmp.f kj1 bt567.1 (([1] : List Int))).bind fun t574 => (if t574 = 0 then (some 0) else (some 9))))) = some r := by first | (rw [hy557]; with_reducible exact H) | (have H2_ := (Option.bind_some _ _).symm.trans H; rw [hy557]; with_reducible exact H2_) | (have H2_ := (Option.bind_some _ _).symm.trans H; with_reducible exact H2_) | with_reducible exact H | (rw [hy557]; exact H) | exact H
   have Ny557 := Aside0.mk hy557; clear hy557
   obtain ⟨y560, hy560⟩ : ∃ y_ : List Int, y_ = (([IntKind.u64.wrap (a0_1 - 1)] : List Int)) := ⟨_, rfl⟩
   replace H : ((nat_Mul.f kj1 y557 y560).bind fun bt563 => ((modint_Gcd.f kj1 t553 bt563.1).bind fun bt567 => ((nat_Cmp.f kj1 bt567.1 (([1] : List Int))).bind fun t574 => (if t574 = 0 then (some 0) else (some 9))))) = some r := by first | (rw [hy560]; with_reducible exact H) | (have H2_ := (Option.bind_some _ _).symm.trans H; rw [hy560]; with_reducible exact H2_) | (have H2_ := (Option.bind_some _ _).symm.trans H; with_reducible exact H2_) | with_reducible exact H | (rw [hy560]; exact H) | exact H
   have Ny560 := Aside0.mk hy560; clear hy560
   replace H := ub H; obtain ⟨⟨t563, t566⟩, A24, H⟩ := H
   (try dsimp only at H)
   replace H := ub H; obtain ⟨⟨t567, t568⟩, A25, H⟩ := H
   (try dsimp only at H)
   obtain ⟨y571, hy571⟩ : ∃ y_ : List Int, y_ = (([1] : List Int)) := ⟨_, rfl⟩
   replace H : ((nat_Cmp.f kj1 t567 y571).bind fun t574 => (if t574 = 0 then (some 0) else (some 9))) = some r := by first | (rw [hy571]; with_reducible exact H) | (have H2_ := (Option.bind_some _ _).symm.trans H; rw [hy571]; with_reducible exact H2_) | (have H2_ := (Option.bind_some _ _).symm.trans H; with_reducible exact H2_) | with_reducible exact H | (rw [hy571]; exact H) | exact H
   have Ny571 := Aside0.mk hy571; clear hy571
   replace H := ub H; obtain ⟨t574, A26, H⟩ := H
   by_cases c27 : t574 = 0
   ·
    rw [if_pos c27] at H
    have c27b0 : (t574 == 0) = true := beq_iff_eq.mpr c27
    have c27b1 : (t574 != 0) = false := bne_eq_false_iff_eq.mpr c27
    clear c27
    obtain rfl := Option.some.inj H
    have hcz28_0 : wc.cell? ⟨gb542, 0, none⟩ = some (.int .u64 a0_0) := (blk_cell BK542.out 0).trans rfl; have hcz28_1 : wc.cell? ⟨gb542, 1, none⟩ = some (.int .u64 a0_1) := (blk_cell BK542.out 1).trans rfl; have hfz28_0 := blk_frozen BK542.out 0; have hfz28_1 := blk_frozen BK542.out 1
    go_wp2_with (first | ((with_reducible refine gate_dst (N := 39) rfl ?_); refine Kd.R_lit (Kd.int .u64) _ 47 ?hg (N := 39) ?hd (xs := ([a0_0] : List Int)) (inner := [.int .u64 a0_0]) (ok := fun _ => True) (okp := fun _ => True) ?hr ?hp (fun _ hk => hk) trivial (Below.refl _ _) (Nat.le_refl _) (by simp) ?_; (case hd => rfl); (case hg => rfl); (case hr => first | (go_simp; done) | (go_simp; rfl) | (go_simp; simp only [u64_u8]; done) | (go_simp; simp only [u64_u8]; rfl)); (case hp => exact (Reps.one (show Kd.M (Kd.int .u64) _ _ _ a0_0 [.int .u64 a0_0] from rfl) (Reps.none _ _))); intro v548 w29 ho30 hb hg_ hnew_; clear hg_ hnew_; (first | rw [← Ny547.out] at ho30 | (simp only [Int.reduceToNat] at ho30; rw [← Ny547.out] at ho30)); have HO549 := Aside0.mk (Kd.R_lower ho30 (below_size uB)); replace BK542 := ux BK542 hb; replace HB := uy hb; clear hb ho30; have hcz31_0 : w29.cell? ⟨gb542, 0, none⟩ = some (.int .u64 a0_0) := (blk_cell BK542.out 0).trans rfl; have hcz31_1 : w29.cell? ⟨gb542, 1, none⟩ = some (.int .u64 a0_1) := (blk_cell BK542.out 1).trans rfl; have hfz31_0 := blk_frozen BK542.out 0; have hfz31_1 := blk_frozen BK542.out 1) | ((with_reducible refine gate_dst (N := 42) rfl ?_); refine Kd.R_lit (Kd.int .u64) _ 47 ?hg (N := 42) ?hd (xs := ([a0_1] : List Int)) (inner := [.int .u64 a0_1]) (ok := fun _ => True) (okp := fun _ => True) ?hr ?hp (fun _ hk => hk) trivial (Below.refl _ _) (Nat.le_refl _) (by simp) ?_; (case hd => rfl); (case hg => rfl); (case hr => first | (go_simp; done) | (go_simp; rfl) | (go_simp; simp only [u64_u8]; done) | (go_simp; simp only [u64_u8]; rfl)); (case hp => exact (Reps.one (show Kd.M (Kd.int .u64) _ _ _ a0_1 [.int .u64 a0_1] from rfl) (Reps.none _ _))); intro v551 w32 ho33 hb hg_ hnew_; clear hg_ hnew_; (first | rw [← Ny550.out] at ho33 | (simp only [Int.reduceToNat] at ho33; rw [← Ny550.out] at ho33)); have HO552 := Aside0.mk (Kd.R_lower (Kd.R_new' ho33 (Kd.R_lt (uR HO549.out))) (below_size uB)); replace HO549 := ueR HO549 ho33 hb; replace BK542 := ux BK542 hb; replace HB := uy hb; clear hb ho33; obtain ⟨Ao34, co34, eo34⟩ := Kd.R_slice HO549.out; subst eo34; obtain ⟨Ao35, co35, eo35⟩ := Kd.R_slice HO552.out; subst eo35) | (go_at_call 63; (with_reducible refine (nat_Mul.calls kj1 (fun k_ => some k_ = (.slice Ao34 y547.length co34 : Value).ownBlock) _ _ y547 (fun k_ => some k_ = (.slice Ao35 y550.length co35 : Value).ownBlock) _ _ y550 t553 t556 _ ?side1 ?side2 A23.out).mono ?_); (case side1 => exact Kd.R_V (Kd.R_tight rfl (Kd.R_types (HO549.out) BK542.out (by decide)))); (case side2 => exact Kd.R_V (Kd.R_tight rfl (Kd.R_types (HO552.out) BK542.out (by decide)))); rintro e w36 ⟨v554, rfl, ho0, hb⟩; have HO555 := Aside0.mk (Kd.R_lower (Kd.R_new' (Kd.R_new' (Kd.R_mono (ok' := fun k_ => True) ho0 (fun _ hk_ => trivial)) (Kd.R_lt (uR HO549.out))) (Kd.R_lt (uR HO552.out))) (below_size uB)); replace HO549 := ueR HO549 ho0 hb; replace HO552 := ueR HO552 ho0 hb; replace BK542 := ux BK542 hb; replace HB := uy hb; (try clear hb ho0); have hcz37_0 : w36.cell? ⟨gb542, 0, none⟩ = some (.int .u64 a0_0) := (blk_cell BK542.out 0).trans rfl; have hcz37_1 : w36.cell? ⟨gb542, 1, none⟩ = some (.int .u64 a0_1) := (blk_cell BK542.out 1).trans rfl; have hfz37_0 := blk_frozen BK542.out 0; have hfz37_1 := blk_frozen BK542.out 1) | ((with_reducible refine gate_dst (N := 50) rfl ?_); refine Kd.R_lit (Kd.int .u64) _ 47 ?hg (N := 50) ?hd (xs := ([IntKind.u64.wrap (a0_0 - 1)] : List Int)) (inner := [.int .u64 (IntKind.u64.wrap (a0_0 - 1))]) (ok := fun _ => True) (okp := fun _ => True) ?hr ?hp (fun _ hk => hk) trivial (Below.refl _ _) (Nat.le_refl _) (by simp) ?_; (case hd => rfl); (case hg => rfl); (case hr => first | (go_simp; done) | (go_simp; rfl) | (go_simp; simp only [u64_u8]; done) | (go_simp; simp only [u64_u8]; rfl)); (case hp => exact (Reps.one (show Kd.M (Kd.int .u64) _ _ _ (IntKind.u64.wrap (a0_0 - 1)) [.int .u64 (IntKind.u64.wrap (a0_0 - 1))] from rfl) (Reps.none _ _))); intro v558 w38 ho39 hb hg_ hnew_; clear hg_ hnew_; (first | rw [← Ny557.out] at ho39 | (simp only [Int.reduceToNat] at ho39; rw [← Ny557.out] at ho39)); have HO559 := Aside0.mk (Kd.R_lower (Kd.R_new' (Kd.R_new' (Kd.R_new' ho39 (Kd.R_lt (uR HO549.out))) (Kd.R_lt (uR HO552.out))) (Kd.R_lt (uR HO555.out))) (below_size uB)); replace HO549 := ueR HO549 ho39 hb; replace HO552 := ueR HO552 ho39 hb; replace HO555 := ueR HO555 ho39 hb; replace BK542 := ux BK542 hb; replace HB := uy hb; clear hb ho39; have hcz40_0 : w38.cell? ⟨gb542, 0, none⟩ = some (.int .u64 a0_0) := (blk_cell BK542.out 0).trans rfl; have hcz40_1 : w38.cell? ⟨gb542, 1, none⟩ = some (.int .u64 a0_1) := (blk_cell BK542.out 1).trans rfl; have hfz40_0 := blk_frozen BK542.out 0; have hfz40_1 := blk_frozen BK542.out 1) | ((with_reducible refine gate_dst (N := 54) rfl ?_); refine Kd.R_lit (Kd.int .u64) _ 47 ?hg (N := 54) ?hd (xs := ([IntKind.u64.wrap (a0_1 - 1)] : List Int)) (inner := [.int .u64 (IntKind.u64.wrap (a0_1 - 1))]) (ok := fun _ => True) (okp := fun _ => True) ?hr ?hp (fun _ hk => hk) trivial (Below.refl _ _) (Nat.le_refl _) (by simp) ?_; (case hd => rfl); (case hg => rfl); (case hr => first | (go_simp; done) | (go_simp; rfl) | (go_simp; simp only [u64_u8]; done) | (go_simp; simp only [u64_u8]; rfl)); (case hp => exact (Reps.one (show Kd.M (Kd.int .u64) _ _ _ (IntKind.u64.wrap (a0_1 - 1)) [.int .u64 (IntKind.u64.wrap (a0_1 - 1))] from rfl) (Reps.none _ _))); intro v561 w41 ho42 hb hg_ hnew_; clear hg_ hnew_; (first | rw [← Ny560.out] at ho42 | (simp only [Int.reduceToNat] at ho42; rw [← Ny560.out] at ho42)); have HO562 := Aside0.mk (Kd.R_lower (Kd.R_new' (Kd.R_new' (Kd.R_new' (Kd.R_new' ho42 (Kd.R_lt (uR HO549.out))) (Kd.R_lt (uR HO552.out))) (Kd.R_lt (uR HO555.out))) (Kd.R_lt (uR HO559.out))) (below_size uB)); replace HO549 := ueR HO549 ho42 hb; replace HO552 := ueR HO552 ho42 hb; replace HO555 := ueR HO555 ho42 hb; replace HO559 := ueR HO559 ho42 hb; replace BK542 := ux BK542 hb; replace HB := uy hb; clear hb ho42; obtain ⟨Ao43, co43, eo43⟩ := Kd.R_slice HO559.out; subst eo43; obtain ⟨Ao44, co44, eo44⟩ := Kd.R_slice HO562.out; subst eo44) | (go_at_call 63; (with_reducible refine (nat_Mul.calls kj1 (fun k_ => some k_ = (.slice Ao43 y557.length co43 : Value).ownBlock) _ _ y557 (fun k_ => some k_ = (.slice Ao44 y560.length co44 : Value).ownBlock) _ _ y560 t563 t566 _ ?side1 ?side2 A24.out).mono ?_); (case side1 => exact Kd.R_V (Kd.R_tight rfl (Kd.R_types (HO559.out) BK542.out (by decide)))); (case side2 => exact Kd.R_V (Kd.R_tight rfl (Kd.R_types (HO562.out) BK542.out (by decide)))); rintro e w45 ⟨v564, rfl, ho0, hb⟩; have HO565 := Aside0.mk (Kd.R_lower (Kd.R_new' (Kd.R_new' (Kd.R_new' (Kd.R_new' (Kd.R_new' (Kd.R_mono (ok' := fun k_ => True) ho0 (fun _ hk_ => trivial)) (Kd.R_lt (uR HO549.out))) (Kd.R_lt (uR HO552.out))) (Kd.R_lt (uR HO555.out))) (Kd.R_lt (uR HO559.out))) (Kd.R_lt (uR HO562.out))) (below_size uB)); replace HO549 := ueR HO549 ho0 hb; replace HO552 := ueR HO552 ho0 hb; replace HO555 := ueR HO555 ho0 hb; replace HO559 := ueR HO559 ho0 hb; replace HO562 := ueR HO562 ho0 hb; replace BK542 := ux BK542 hb; replace HB := uy hb; (try clear hb ho0); obtain ⟨Ao46, co46, eo46⟩ := Kd.R_slice HO555.out; subst eo46; obtain ⟨Ao47, co47, eo47⟩ := Kd.R_slice HO565.out; subst eo47) | (go_at_call 64; (with_reducible refine (modint_Gcd.calls kj1 _ _ t553 _ _ t563 t567 t568 _ ?side1 ?side2 ?side3 ?side4 A25.out).mono ?_); (case side1 => exact uC (Kd.R_reads' HO555.out).2.2); (case side2 => exact (Kd.R_reads' HO555.out).2.1); (case side3 => exact uC (Kd.R_reads' HO565.out).2.2); (case side4 => exact (Kd.R_reads' HO565.out).2.1); rintro e w48 ⟨v569, rfl, ho0, hb⟩; have HO570 := Aside0.mk (Kd.R_lower (Kd.R_new' (Kd.R_new' (Kd.R_new' (Kd.R_new' (Kd.R_new' (Kd.R_new' ho0 (Kd.R_lt (uR HO549.out))) (Kd.R_lt (uR HO552.out))) (Kd.R_lt (uR HO555.out))) (Kd.R_lt (uR HO559.out))) (Kd.R_lt (uR HO562.out))) (Kd.R_lt (uR HO565.out))) (below_size uB)); replace HO549 := ueR HO549 ho0 hb; replace HO552 := ueR HO552 ho0 hb; replace HO555 := ueR HO555 ho0 hb; replace HO559 := ueR HO559 ho0 hb; replace HO562 := ueR HO562 ho0 hb; replace HO565 := ueR HO565 ho0 hb; replace BK542 := ux BK542 hb; replace HB := uy hb; (try clear hb ho0)) | ((with_reducible refine gate_dst (N := 65) rfl ?_); refine Kd.R_lit (Kd.int .u64) _ 47 ?hg (N := 65) ?hd (xs := ([1] : List Int)) (inner := [.int .u64 1]) (ok := fun _ => True) (okp := fun _ => True) ?hr ?hp (fun _ hk => hk) trivial (Below.refl _ _) (Nat.le_refl _) (by simp) ?_; (case hd => rfl); (case hg => rfl); (case hr => first | (go_simp; done) | (go_simp; rfl) | (go_simp; simp only [u64_u8]; done) | (go_simp; simp only [u64_u8]; rfl)); (case hp => exact (Reps.one (show Kd.M (Kd.int .u64) _ _ _ 1 [.int .u64 1] from rfl) (Reps.none _ _))); intro v572 w49 ho50 hb hg_ hnew_; clear hg_ hnew_; (first | rw [← Ny571.out] at ho50 | (simp only [Int.reduceToNat] at ho50; rw [← Ny571.out] at ho50)); have HO573 := Aside0.mk (Kd.R_lower (Kd.R_new' (Kd.R_new' (Kd.R_new' (Kd.R_new' (Kd.R_new' (Kd.R_new' (Kd.R_new' ho50 (Kd.R_lt (uR HO549.out))) (Kd.R_lt (uR HO552.out))) (Kd.R_lt (uR HO555.out))) (Kd.R_lt (uR HO559.out))) (Kd.R_lt (uR HO562.out))) (Kd.R_lt (uR HO565.out))) (Kd.R_lt (uR HO570.out))) (below_size uB)); replace HO549 := ueR HO549 ho50 hb; replace HO552 := ueR HO552 ho50 hb; replace HO555 := ueR HO555 ho50 hb; replace HO559 := ueR HO559 ho50 hb; replace HO562 := ueR HO562 ho50 hb; replace HO565 := ueR HO565 ho50 hb; replace HO570 := ueR HO570 ho50 hb; replace BK542 := ux BK542 hb; replace HB := uy hb; clear hb ho50; obtain ⟨Ao51, co51, eo51⟩ := Kd.R_slice HO570.out; subst eo51; obtain ⟨Ao52, co52, eo52⟩ := Kd.R_slice HO573.out; subst eo52) | (go_at_call 65; (with_reducible refine (nat_Cmp.calls kj1 (fun k_ => some k_ = (.slice Ao51 t567.length co51 : Value).ownBlock) _ _ t567 (fun k_ => some k_ = (.slice Ao52 y571.length co52 : Value).ownBlock) _ _ y571 t574 _ ?side1 ?side2 A26.out).mono ?_); (case side1 => exact Kd.R_V (Kd.R_tight rfl (Kd.R_types (HO570.out) BK542.out (by decide)))); (case side2 => exact Kd.R_V (Kd.R_tight rfl (Kd.R_types (HO573.out) BK542.out (by decide)))); rintro e w53 ⟨rfl, hb⟩; replace HO549 := Aside0.mk (Kd.R_below (uR HO549.out) hb); replace HO552 := Aside0.mk (Kd.R_below (uR HO552.out) hb); replace HO555 := Aside0.mk (Kd.R_below (uR HO555.out) hb); replace HO559 := Aside0.mk (Kd.R_below (uR HO559.out) hb); replace HO562 := Aside0.mk (Kd.R_below (uR HO562.out) hb); replace HO565 := Aside0.mk (Kd.R_below (uR HO565.out) hb); replace HO570 := Aside0.mk (Kd.R_below (uR HO570.out) hb); replace HO573 := Aside0.mk (Kd.R_below (uR HO573.out) hb); replace BK542 := ux BK542 hb; replace HB := uy hb; (try clear hb)))
    go_ret
    exact ⟨uF, uB⟩
   rw [if_neg c27] at H
   have c27b0 : (t574 == 0) = false := beq_eq_false_iff_ne.mpr c27
   have c27b1 : (t574 != 0) = true := bne_iff_ne.mpr c27
   obtain rfl := Option.some.inj H
   have hcz54_0 : wc.cell? ⟨gb542, 0, none⟩ = some (.int .u64 a0_0) := (blk_cell BK542.out 0).trans rfl; have hcz54_1 : wc.cell? ⟨gb542, 1, none⟩ = some (.int .u64 a0_1) := (blk_cell BK542.out 1).trans rfl; have hfz54_0 := blk_frozen BK542.out 0; have hfz54_1 := blk_frozen BK542.out 1
   go_wp2_with (first | ((with_reducible refine gate_dst (N := 39) rfl ?_); refine Kd.R_lit (Kd.int .u64) _ 47 ?hg (N := 39) ?hd (xs := ([a0_0] : List Int)) (inner := [.int .u64 a0_0]) (ok := fun _ => True) (okp := fun _ => True) ?hr ?hp (fun _ hk => hk) trivial (Below.refl _ _) (Nat.le_refl _) (by simp) ?_; (case hd => rfl); (case hg => rfl); (case hr => first | (go_simp; done) | (go_simp; rfl) | (go_simp; simp only [u64_u8]; done) | (go_simp; simp only [u64_u8]; rfl)); (case hp => exact (Reps.one (show Kd.M (Kd.int .u64) _ _ _ a0_0 [.int .u64 a0_0] from rfl) (Reps.none _ _))); intro v548 w55 ho56 hb hg_ hnew_; clear hg_ hnew_; (first | rw [← Ny547.out] at ho56 | (simp only [Int.reduceToNat] at ho56; rw [← Ny547.out] at ho56)); have HO549 := Aside0.mk (Kd.R_lower ho56 (below_size uB)); replace BK542 := ux BK542 hb; replace HB := uy hb; clear hb ho56; have hcz57_0 : w55.cell? ⟨gb542, 0, none⟩ = some (.int .u64 a0_0) := (blk_cell BK542.out 0).trans rfl; have hcz57_1 : w55.cell? ⟨gb542, 1, none⟩ = some (.int .u64 a0_1) := (blk_cell BK542.out 1).trans rfl; have hfz57_0 := blk_frozen BK542.out 0; have hfz57_1 := blk_frozen BK542.out 1) | ((with_reducible refine gate_dst (N := 42) rfl ?_); refine Kd.R_lit (Kd.int .u64) _ 47 ?hg (N := 42) ?hd (xs := ([a0_1] : List Int)) (inner := [.int .u64 a0_1]) (ok := fun _ => True) (okp := fun _ => True) ?hr ?hp (fun _ hk => hk) trivial (Below.refl _ _) (Nat.le_refl _) (by simp) ?_; (case hd => rfl); (case hg => rfl); (case hr => first | (go_simp; done) | (go_simp; rfl) | (go_simp; simp only [u64_u8]; done) | (go_simp; simp only [u64_u8]; rfl)); (case hp => exact (Reps.one (show Kd.M (Kd.int .u64) _ _ _ a0_1 [.int .u64 a0_1] from rfl) (Reps.none _ _))); intro v551 w58 ho59 hb hg_ hnew_; clear hg_ hnew_; (first | rw [← Ny550.out] at ho59 | (simp only [Int.reduceToNat] at ho59; rw [← Ny550.out] at ho59)); have HO552 := Aside0.mk (Kd.R_lower (Kd.R_new' ho59 (Kd.R_lt (uR HO549.out))) (below_size uB)); replace HO549 := ueR HO549 ho59 hb; replace BK542 := ux BK542 hb; replace HB := uy hb; clear hb ho59; obtain ⟨Ao60, co60, eo60⟩ := Kd.R_slice HO549.out; subst eo60; obtain ⟨Ao61, co61, eo61⟩ := Kd.R_slice HO552.out; subst eo61) | (go_at_call 63; (with_reducible refine (nat_Mul.calls kj1 (fun k_ => some k_ = (.slice Ao60 y547.length co60 : Value).ownBlock) _ _ y547 (fun k_ => some k_ = (.slice Ao61 y550.length co61 : Value).ownBlock) _ _ y550 t553 t556 _ ?side1 ?side2 A23.out).mono ?_); (case side1 => exact Kd.R_V (Kd.R_tight rfl (Kd.R_types (HO549.out) BK542.out (by decide)))); (case side2 => exact Kd.R_V (Kd.R_tight rfl (Kd.R_types (HO552.out) BK542.out (by decide)))); rintro e w62 ⟨v554, rfl, ho0, hb⟩; have HO555 := Aside0.mk (Kd.R_lower (Kd.R_new' (Kd.R_new' (Kd.R_mono (ok' := fun k_ => True) ho0 (fun _ hk_ => trivial)) (Kd.R_lt (uR HO549.out))) (Kd.R_lt (uR HO552.out))) (below_size uB)); replace HO549 := ueR HO549 ho0 hb; replace HO552 := ueR HO552 ho0 hb; replace BK542 := ux BK542 hb; replace HB := uy hb; (try clear hb ho0); have hcz63_0 : w62.cell? ⟨gb542, 0, none⟩ = some (.int .u64 a0_0) := (blk_cell BK542.out 0).trans rfl; have hcz63_1 : w62.cell? ⟨gb542, 1, none⟩ = some (.int .u64 a0_1) := (blk_cell BK542.out 1).trans rfl; have hfz63_0 := blk_frozen BK542.out 0; have hfz63_1 := blk_frozen BK542.out 1) | ((with_reducible refine gate_dst (N := 50) rfl ?_); refine Kd.R_lit (Kd.int .u64) _ 47 ?hg (N := 50) ?hd (xs := ([IntKind.u64.wrap (a0_0 - 1)] : List Int)) (inner := [.int .u64 (IntKind.u64.wrap (a0_0 - 1))]) (ok := fun _ => True) (okp := fun _ => True) ?hr ?hp (fun _ hk => hk) trivial (Below.refl _ _) (Nat.le_refl _) (by simp) ?_; (case hd => rfl); (case hg => rfl); (case hr => first | (go_simp; done) | (go_simp; rfl) | (go_simp; simp only [u64_u8]; done) | (go_simp; simp only [u64_u8]; rfl)); (case hp => exact (Reps.one (show Kd.M (Kd.int .u64) _ _ _ (IntKind.u64.wrap (a0_0 - 1)) [.int .u64 (IntKind.u64.wrap (a0_0 - 1))] from rfl) (Reps.none _ _))); intro v558 w64 ho65 hb hg_ hnew_; clear hg_ hnew_; (first | rw [← Ny557.out] at ho65 | (simp only [Int.reduceToNat] at ho65; rw [← Ny557.out] at ho65)); have HO559 := Aside0.mk (Kd.R_lower (Kd.R_new' (Kd.R_new' (Kd.R_new' ho65 (Kd.R_lt (uR HO549.out))) (Kd.R_lt (uR HO552.out))) (Kd.R_lt (uR HO555.out))) (below_size uB)); replace HO549 := ueR HO549 ho65 hb; replace HO552 := ueR HO552 ho65 hb; replace HO555 := ueR HO555 ho65 hb; replace BK542 := ux BK542 hb; replace HB := uy hb; clear hb ho65; have hcz66_0 : w64.cell? ⟨gb542, 0, none⟩ = some (.int .u64 a0_0) := (blk_cell BK542.out 0).trans rfl; have hcz66_1 : w64.cell? ⟨gb542, 1, none⟩ = some (.int .u64 a0_1) := (blk_cell BK542.out 1).trans rfl; have hfz66_0 := blk_frozen BK542.out 0; have hfz66_1 := blk_frozen BK542.out 1) | ((with_reducible refine gate_dst (N := 54) rfl ?_); refine Kd.R_lit (Kd.int .u64) _ 47 ?hg (N := 54) ?hd (xs := ([IntKind.u64.wrap (a0_1 - 1)] : List Int)) (inner := [.int .u64 (IntKind.u64.wrap (a0_1 - 1))]) (ok := fun _ => True) (okp := fun _ => True) ?hr ?hp (fun _ hk => hk) trivial (Below.refl _ _) (Nat.le_refl _) (by simp) ?_; (case hd => rfl); (case hg => rfl); (case hr => first | (go_simp; done) | (go_simp; rfl) | (go_simp; simp only [u64_u8]; done) | (go_simp; simp only [u64_u8]; rfl)); (case hp => exact (Reps.one (show Kd.M (Kd.int .u64) _ _ _ (IntKind.u64.wrap (a0_1 - 1)) [.int .u64 (IntKind.u64.wrap (a0_1 - 1))] from rfl) (Reps.none _ _))); intro v561 w67 ho68 hb hg_ hnew_; clear hg_ hnew_; (first | rw [← Ny560.out] at ho68 | (simp only [Int.reduceToNat] at ho68; rw [← Ny560.out] at ho68)); have HO562 := Aside0.mk (Kd.R_lower (Kd.R_new' (Kd.R_new' (Kd.R_new' (Kd.R_new' ho68 (Kd.R_lt (uR HO549.out))) (Kd.R_lt (uR HO552.out))) (Kd.R_lt (uR HO555.out))) (Kd.R_lt (uR HO559.out))) (below_size uB)); replace HO549 := ueR HO549 ho68 hb; replace HO552 := ueR HO552 ho68 hb; replace HO555 := ueR HO555 ho68 hb; replace HO559 := ueR HO559 ho68 hb; replace BK542 := ux BK542 hb; replace HB := uy hb; clear hb ho68; obtain ⟨Ao69, co69, eo69⟩ := Kd.R_slice HO559.out; subst eo69; obtain ⟨Ao70, co70, eo70⟩ := Kd.R_slice HO562.out; subst eo70) | (go_at_call 63; (with_reducible refine (nat_Mul.calls kj1 (fun k_ => some k_ = (.slice Ao69 y557.length co69 : Value).ownBlock) _ _ y557 (fun k_ => some k_ = (.slice Ao70 y560.length co70 : Value).ownBlock) _ _ y560 t563 t566 _ ?side1 ?side2 A24.out).mono ?_); (case side1 => exact Kd.R_V (Kd.R_tight rfl (Kd.R_types (HO559.out) BK542.out (by decide)))); (case side2 => exact Kd.R_V (Kd.R_tight rfl (Kd.R_types (HO562.out) BK542.out (by decide)))); rintro e w71 ⟨v564, rfl, ho0, hb⟩; have HO565 := Aside0.mk (Kd.R_lower (Kd.R_new' (Kd.R_new' (Kd.R_new' (Kd.R_new' (Kd.R_new' (Kd.R_mono (ok' := fun k_ => True) ho0 (fun _ hk_ => trivial)) (Kd.R_lt (uR HO549.out))) (Kd.R_lt (uR HO552.out))) (Kd.R_lt (uR HO555.out))) (Kd.R_lt (uR HO559.out))) (Kd.R_lt (uR HO562.out))) (below_size uB)); replace HO549 := ueR HO549 ho0 hb; replace HO552 := ueR HO552 ho0 hb; replace HO555 := ueR HO555 ho0 hb; replace HO559 := ueR HO559 ho0 hb; replace HO562 := ueR HO562 ho0 hb; replace BK542 := ux BK542 hb; replace HB := uy hb; (try clear hb ho0); obtain ⟨Ao72, co72, eo72⟩ := Kd.R_slice HO555.out; subst eo72; obtain ⟨Ao73, co73, eo73⟩ := Kd.R_slice HO565.out; subst eo73) | (go_at_call 64; (with_reducible refine (modint_Gcd.calls kj1 _ _ t553 _ _ t563 t567 t568 _ ?side1 ?side2 ?side3 ?side4 A25.out).mono ?_); (case side1 => exact uC (Kd.R_reads' HO555.out).2.2); (case side2 => exact (Kd.R_reads' HO555.out).2.1); (case side3 => exact uC (Kd.R_reads' HO565.out).2.2); (case side4 => exact (Kd.R_reads' HO565.out).2.1); rintro e w74 ⟨v569, rfl, ho0, hb⟩; have HO570 := Aside0.mk (Kd.R_lower (Kd.R_new' (Kd.R_new' (Kd.R_new' (Kd.R_new' (Kd.R_new' (Kd.R_new' ho0 (Kd.R_lt (uR HO549.out))) (Kd.R_lt (uR HO552.out))) (Kd.R_lt (uR HO555.out))) (Kd.R_lt (uR HO559.out))) (Kd.R_lt (uR HO562.out))) (Kd.R_lt (uR HO565.out))) (below_size uB)); replace HO549 := ueR HO549 ho0 hb; replace HO552 := ueR HO552 ho0 hb; replace HO555 := ueR HO555 ho0 hb; replace HO559 := ueR HO559 ho0 hb; replace HO562 := ueR HO562 ho0 hb; replace HO565 := ueR HO565 ho0 hb; replace BK542 := ux BK542 hb; replace HB := uy hb; (try clear hb ho0)) | ((with_reducible refine gate_dst (N := 65) rfl ?_); refine Kd.R_lit (Kd.int .u64) _ 47 ?hg (N := 65) ?hd (xs := ([1] : List Int)) (inner := [.int .u64 1]) (ok := fun _ => True) (okp := fun _ => True) ?hr ?hp (fun _ hk => hk) trivial (Below.refl _ _) (Nat.le_refl _) (by simp) ?_; (case hd => rfl); (case hg => rfl); (case hr => first | (go_simp; done) | (go_simp; rfl) | (go_simp; simp only [u64_u8]; done) | (go_simp; simp only [u64_u8]; rfl)); (case hp => exact (Reps.one (show Kd.M (Kd.int .u64) _ _ _ 1 [.int .u64 1] from rfl) (Reps.none _ _))); intro v572 w75 ho76 hb hg_ hnew_; clear hg_ hnew_; (first | rw [← Ny571.out] at ho76 | (simp only [Int.reduceToNat] at ho76; rw [← Ny571.out] at ho76)); have HO573 := Aside0.mk (Kd.R_lower (Kd.R_new' (Kd.R_new' (Kd.R_new' (Kd.R_new' (Kd.R_new' (Kd.R_new' (Kd.R_new' ho76 (Kd.R_lt (uR HO549.out))) (Kd.R_lt (uR HO552.out))) (Kd.R_lt (uR HO555.out))) (Kd.R_lt (uR HO559.out))) (Kd.R_lt (uR HO562.out))) (Kd.R_lt (uR HO565.out))) (Kd.R_lt (uR HO570.out))) (below_size uB)); replace HO549 := ueR HO549 ho76 hb; replace HO552 := ueR HO552 ho76 hb; replace HO555 := ueR HO555 ho76 hb; replace HO559 := ueR HO559 ho76 hb; replace HO562 := ueR HO562 ho76 hb; replace HO565 := ueR HO565 ho76 hb; replace HO570 := ueR HO570 ho76 hb; replace BK542 := ux BK542 hb; replace HB := uy hb; clear hb ho76; obtain ⟨Ao77, co77, eo77⟩ := Kd.R_slice HO570.out; subst eo77; obtain ⟨Ao78, co78, eo78⟩ := Kd.R_slice HO573.out; subst eo78) | (go_at_call 65; (with_reducible refine (nat_Cmp.calls kj1 (fun k_ => some k_ = (.slice Ao77 t567.length co77 : Value).ownBlock) _ _ t567 (fun k_ => some k_ = (.slice Ao78 y571.length co78 : Value).ownBlock) _ _ y571 t574 _ ?side1 ?side2 A26.out).mono ?_); (case side1 => exact Kd.R_V (Kd.R_tight rfl (Kd.R_types (HO570.out) BK542.out (by decide)))); (case side2 => exact Kd.R_V (Kd.R_tight rfl (Kd.R_types (HO573.out) BK542.out (by decide)))); rintro e w79 ⟨rfl, hb⟩; replace HO549 := Aside0.mk (Kd.R_below (uR HO549.out) hb); replace HO552 := Aside0.mk (Kd.R_below (uR HO552.out) hb); replace HO555 := Aside0.mk (Kd.R_below (uR HO555.out) hb); replace HO559 := Aside0.mk (Kd.R_below (uR HO559.out) hb); replace HO562 := Aside0.mk (Kd.R_below (uR HO562.out) hb); replace HO565 := Aside0.mk (Kd.R_below (uR HO565.out) hb); replace HO570 := Aside0.mk (Kd.R_below (uR HO570.out) hb); replace HO573 := Aside0.mk (Kd.R_below (uR HO573.out) hb); replace BK542 := ux BK542 hb; replace HB := uy hb; (try clear hb)))
   go_ret
   exact ⟨uF, uB⟩
end Go.Proofs.Ytgeanpnkllnipaa.F
end
section
namespace Go.Proofs.Ytgeanpnkllnipaa.F
open Go.RowKit Go.Proofs.YtgeanpnkllnipaaW.PrintWords Go.Proofs.YtgeanpnkllnipaaW.PrintLast Go.Proofs.YtgeanpnkllnipaaW.PrintMore
attribute [local go_sem] max2_int min2_int max_two min_two max_three min_three max_four min_four
set_option linter.unusedVariables false
set_option linter.unusedSimpArgs false
mutual
def windbreakref01_Bits.j0 : Nat → List Int → Bool → Option (Int)
 | 0, _, _ => none
 | k + 1, x0, x14 => if x14 = true then (some 0) else (if 0 ≤ (wrap64 ((x0.length : Int) - 1)) then (if (wrap64 ((x0.length : Int) - 1)) < (x0.length : Int) then (windbreakref01_Bits.l0 k x0 0 (rd x0 (wrap64 ((x0.length : Int) - 1)))) else (none)) else (none))
def windbreakref01_Bits.l0 : Nat → List Int → Int → Int → Option (Int)
 | 0, _, _, _ => none
 | k + 1, x0, x4, x5 => if x5 > 0 then (windbreakref01_Bits.l0 k x0 (wrap64 (x4 + 1)) (IntKind.u64.wrap (Int.tdiv x5 2))) else (some (wrap64 (x4 + (wrap64 (64 * (wrap64 ((x0.length : Int) - 1)))))))
end
def windbreakref01_Bits.f (k : Nat) (l0 : List Int) : Option (Int) := (windbreakref01_Right.f l0).bind fun t225 => (if t225 = true then (windbreakref01_Bits.j0 k l0 ((l0.length : Int) == 0)) else (windbreakref01_Bits.j0 k l0 true))
set_option maxHeartbeats 8000000 in
set_option maxRecDepth 100000 in
theorem windbreakref01_Bits.calls (k : Nat) (A0 : Option Addr) (c0 : Nat) (l0 : List Int) (r : Int) (w : World) (hr0 : Kd.C (Kd.int .u64) w A0 l0.length l0) (hc0 : l0.length ≤ c0) (h : windbreakref01_Bits.f k l0 = some r) :
  Calls Try.prog 49 #[.slice A0 l0.length c0] w fun e w' => e = .returned (.int .i64 r) ∧ Drawn0 w w' := by
 have HR0 := Aside0.mk hr0; have HC0 := Aside0.mk hc0; clear hr0 hc0
 have H : ((windbreakref01_Right.f l0).bind fun t225 => (if t225 = true then (windbreakref01_Bits.j0 k l0 ((l0.length : Int) == 0)) else (windbreakref01_Bits.j0 k l0 true))) = some r := h
 clear h
 replace H := ub H; obtain ⟨t225, A2, H⟩ := H
 have HC3 := Aside0.mk H; clear H
 go_enter Try.func49, Try.ntmps49
 go_upto_region 2 with (first | ((with_reducible refine gate_callee (f := 46) rfl ?_); refine goesL_ (some 7) rfl rfl Try.func46 (by kernel_rfl) rfl #[.slice A0 l0.length c0] rfl uM ?_; (with_reducible refine (windbreakref01_Right.calls _ _ l0 t225 _ ?side1 ?side2 A2.out).mono ?_); (case side1 => exact uC HR0.out); (case side2 => exact HC0.out); rintro e w' ⟨rfl, ⟨nd, rfl⟩⟩; refine ⟨_, rfl, ?_⟩))
 (try simp only [Act.put, List.setIfInBounds_toArray, List.set_cons_zero, List.set_cons_succ])
 go_cut [14] (fun v14 wc => ∃ (kq : Nat) (x14_2 : Bool), v14 = .bool x14_2 ∧ Aside0 (windbreakref01_Bits.j0 kq l0 x14_2 = some r) ∧ Aside0 (kq ≤ k) ∧ Drawn0 w wc)
 case first =>
  have H := HC3.out
  clear HC3
  by_cases c4 : t225 = true
  ·
   subst c4
   have H1 : (windbreakref01_Bits.j0 k l0 ((l0.length : Int) == 0)) = some r := by rw [if_pos rfl] at H; exact H
   clear H; have H := H1; clear H1
   have H' := Aside0.mk H
   clear H
   go_wp2
   go_meet
   case rel => exact ⟨_, (((l0.length : Int) == 0)), uG, H', ⟨uW⟩, by repeat (first | exact Drawn0.refl _ | apply Drawn0.step)⟩
  replace c4 := Bool.eq_false_iff.mpr c4
  subst c4
  have H1 : (windbreakref01_Bits.j0 k l0 true) = some r := by rw [if_neg (show ¬ (false = true) by decide)] at H; exact H
  clear H; have H := H1; clear H1
  have H' := Aside0.mk H
  clear H
  go_wp2
  go_meet
  case rel => exact ⟨_, (true), uG, H', ⟨uW⟩, by repeat (first | exact Drawn0.refl _ | apply Drawn0.step)⟩
 case rest =>
  clear HC3; (try clear p2); (try clear c4)
  obtain ⟨kq, x14_2, rfl, HA, HJ2, ⟨mc2, rfl⟩⟩ := hcut
  cases kq with
  | zero => exact absurd HA.out (by simp [windbreakref01_Bits.j0])
  | succ kj2 =>
   have H := HA.out
   clear HA
   simp only [windbreakref01_Bits.j0] at H
   by_cases c5 : x14_2 = true
   ·
    subst c5
    have H1 : (some 0) = some r := by rw [if_pos rfl] at H; exact H
    clear H; have H := H1; clear H1
    obtain rfl := Option.some.inj H
    go_wp2
    go_ret
    exact ⟨by first | rfl | (simp; done) | (simp [*]; done), by repeat (first | exact Drawn0.refl _ | apply Drawn0.step)⟩
   replace c5 := Bool.eq_false_iff.mpr c5
   subst c5
   have H1 : (if 0 ≤ (wrap64 ((l0.length : Int) - 1)) then (if (wrap64 ((l0.length : Int) - 1)) < (l0.length : Int) then (windbreakref01_Bits.l0 kj2 l0 0 (rd l0 (wrap64 ((l0.length : Int) - 1)))) else (none)) else (none)) = some r := by rw [if_neg (show ¬ (false = true) by decide)] at H; exact H
   clear H; have H := H1; clear H1
   obtain ⟨ji6, hji6⟩ : ∃ j_ : Int, (wrap64 ((l0.length : Int) - 1)) = j_ := ⟨_, rfl⟩
   first | rw [hji6] at H | simp only [hji6] at H
   have hji6w : (IntKind.i64.wrap ((l0.length : Int) - 1)) = ji6 := (i64_w _).trans hji6
   replace H := uT H; obtain ⟨c7, H⟩ := H
   have c7b0 : decide (0 ≤ (ji6)) = true := decide_eq_true c7
   clear c7
   replace H := uT H; obtain ⟨c8, H⟩ := H
   have c8b0 : decide ((ji6) < (l0.length : Int)) = true := decide_eq_true c8
   clear c8
   have H' := Aside0.mk H
   clear H
   have p226 : 0 ≤ ((ji6) : Int) := uO
   have q226 : (ji6) < (l0.length : Int) := uO
   obtain ⟨ad226, e226, hx226_0⟩ := Kd.at_int HR0.out (ji6) p226 q226
   cases e226
   replace p226 := eq_true p226
   replace q226 := eq_true q226
   go_wp2
   go_loopg [4, 5] kj2 (fun kq v4 v5 w' => ∃ (x4_2 : Int) (x5_2 : Int), v4 = .int .i64 x4_2 ∧ v5 = .int .u64 x5_2 ∧ Aside0 (windbreakref01_Bits.l0 kq l0 x4_2 x5_2 = some r) ∧ Aside0 (kq ≤ kj2) ∧ Drawn0 w w')
   case atStart => exact ⟨(0), (rd l0 (ji6)), uG, (by first | rfl | (simp; done) | (simp only [← hji6] <;> (first | rfl | simp)) | (simp [*]; done)), H', ⟨Nat.le_refl _⟩, by repeat (first | exact Drawn0.refl _ | apply Drawn0.step)⟩
   case round =>
    clear H'
    (try clear c2); (try clear p2 p2); (try clear q2); (try clear hx2); (try clear c4); (try clear c5); (try clear p6); (try clear c7); (try clear c7b0); (try clear c8); (try clear c8b0); (try clear hx226_0); (try clear p226); (try clear q226)
    obtain ⟨x4_2, x5_2, rfl, rfl, HA, HK2, ⟨m2, rfl⟩⟩ := hrel
    cases gk with
    | zero => exact absurd HA.out (by simp [windbreakref01_Bits.l0])
    | succ k2 =>
     have H := HA.out
     clear HA
     simp only [windbreakref01_Bits.l0] at H
     by_cases c9 : x5_2 > 0
     ·
      rw [if_pos c9] at H
      have c9b0 : decide (0 < x5_2) = true := decide_eq_true c9
      clear c9
      have H' := Aside0.mk H
      clear H
      go_wp2
      first | go_roundg k2 | ((try simp only [← hji6] at H'); simp only [← hji6]; go_roundg k2)
      case measure => have := HJ2.out; have := HK2.out; omega
      case rel => first | exact ⟨(wrap64 (x4_2 + 1)), (IntKind.u64.wrap (Int.tdiv x5_2 2)), uG, uG, H', ⟨by have := HJ2.out; have := HK2.out; omega⟩, by repeat (first | exact Drawn0.refl _ | apply Drawn0.step)⟩ | (simp only [← hji6] at H'; exact ⟨(wrap64 (x4_2 + 1)), (IntKind.u64.wrap (Int.tdiv x5_2 2)), uG, uG, H', ⟨by have := HJ2.out; have := HK2.out; omega⟩, by repeat (first | exact Drawn0.refl _ | apply Drawn0.step)⟩)
     rw [if_neg c9] at H
     have c9b0 : decide (0 < x5_2) = false := decide_eq_false c9
     clear c9
     obtain rfl := Option.some.inj H
     go_wp2
     go_ret
     exact ⟨by first | rfl | (simp; done) | (simp only [← hji6] <;> (first | rfl | simp)) | (simp [*]; done), by repeat (first | exact Drawn0.refl _ | apply Drawn0.step)⟩
end Go.Proofs.Ytgeanpnkllnipaa.F
end
section
namespace Go.Proofs.Ytgeanpnkllnipaa.F
open Go.RowKit Go.Proofs.YtgeanpnkllnipaaW.PrintWords Go.Proofs.YtgeanpnkllnipaaW.PrintLast Go.Proofs.YtgeanpnkllnipaaW.PrintMore
attribute [local go_sem] max2_int min2_int max_two min_two max_three min_three max_four min_four
set_option linter.unusedVariables false
set_option linter.unusedSimpArgs false
def windbreakref05_bits.f (k : Nat) (a0 : Int) : Option (Int) := (windbreakref01_Of.f a0).bind fun t575 => ((windbreakref01_Bits.f k t575).bind fun t578 => (some t578))
set_option maxHeartbeats 8000000 in
set_option maxRecDepth 100000 in
theorem windbreakref05_bits.calls (k : Nat) (a0 : Int) (r : Int) (w : World) (h : windbreakref05_bits.f k a0 = some r) :
  Calls Try.prog 66 #[.int .u64 a0] w fun e w' => e = .returned (.int .i64 r) ∧ Below w.heap.size w w' := by
 have HB := Aside0.mk (Below.refl w.heap.size w)
 have H : ((windbreakref01_Of.f a0).bind fun t575 => ((windbreakref01_Bits.f k t575).bind fun t578 => (some t578))) = some r := h
 clear h
 replace H := ub H; obtain ⟨t575, A2, H⟩ := H
 replace H := ub H; obtain ⟨t578, A3, H⟩ := H
 obtain rfl := Option.some.inj H
 go_enter Try.func66, Try.ntmps66
 go_wp2_with (first | ((with_reducible refine gate_callee (f := 48) rfl ?_); refine goesL_ (some 4) rfl rfl Try.func48 (by kernel_rfl) rfl #[.int .u64 a0] rfl uM ?_; (with_reducible refine (windbreakref01_Of.calls a0 t575 _ A2.out).mono ?_); rintro e w4 ⟨v576, rfl, ho0, hb⟩; refine ⟨_, rfl, ?_⟩; have HO577 := Aside0.mk (Kd.R_lower ho0 (below_size uB)); replace HB := uy hb; (try clear hb ho0); obtain ⟨Ao5, co5, eo5⟩ := Kd.R_slice HO577.out; subst eo5) | ((with_reducible refine gate_callee (f := 49) rfl ?_); refine goesL_ (some 5) rfl rfl Try.func49 (by kernel_rfl) rfl #[.slice Ao5 t575.length co5] rfl uM ?_; (with_reducible refine (windbreakref01_Bits.calls k _ _ t575 t578 _ ?side1 ?side2 A3.out).mono ?_); (case side1 => exact uC (Kd.R_reads' HO577.out).2.2); (case side2 => exact (Kd.R_reads' HO577.out).2.1); rintro e w' ⟨rfl, ⟨nd, rfl⟩⟩; refine ⟨_, rfl, ?_⟩))
 go_ret
 exact ⟨uF, uB⟩
end Go.Proofs.Ytgeanpnkllnipaa.F
end
section
namespace Go.Proofs.Ytgeanpnkllnipaa.F
open Go.RowKit Go.Proofs.YtgeanpnkllnipaaW.PrintWords Go.Proofs.YtgeanpnkllnipaaW.PrintLast Go.Proofs.YtgeanpnkllnipaaW.PrintMore
attribute [local go_sem] max2_int min2_int max_two min_two max_three min_three max_four min_four
set_option linter.unusedVariables false
set_option linter.unusedSimpArgs false
mutual
def windbreakref01_In.l0 : Nat → List Int → List Int → Int → Option (List Int)
 | 0, _, _, _ => none
 | k + 1, x0, x3, x4 => if x4 < (x0.length : Int) then (if 0 ≤ x4 then (windbreakref01_In.l1 k x0 x3 x4 (rd x0 x4) 0) else (none)) else ((windbreakref01_cut.f k x3).bind fun t178 => (some t178))
def windbreakref01_In.l1 : Nat → List Int → List Int → Int → Int → Int → Option (List Int)
 | 0, _, _, _, _, _ => none
 | k + 1, x0, x3, x4, x5, x6 => if x6 < 4 then (if x3.length < 17592186044416 then (windbreakref01_In.l1 k x0 (x3 ++ [Int.tmod x5 65536]) x4 (IntKind.u64.wrap (Int.tdiv x5 65536)) (wrap64 (x6 + 1))) else (none)) else (windbreakref01_In.l0 k x0 x3 (wrap64 (x4 + 1)))
end
def windbreakref01_In.f (k : Nat) (l0 : List Int) : Option (List Int) := windbreakref01_In.l0 k l0 ([] : List Int) 0
set_option maxHeartbeats 8000000 in
set_option maxRecDepth 100000 in
theorem windbreakref01_In.calls (k : Nat) (A0 : Option Addr) (c0 : Nat) (l0 : List Int) (r : List Int) (w : World) (hr0 : Kd.C (Kd.int .u64) w A0 l0.length l0) (hc0 : l0.length ≤ c0) (h : windbreakref01_In.f k l0 = some r) :
  Calls Try.prog 79 #[.slice A0 l0.length c0] w fun e w' => ∃ v0_ : Value, e = .returned (v0_) ∧ Kd.R (Kd.int .u64) 47 w' w.heap.size (fun _ => True) v0_ r ∧ Below w.heap.size w w' := by
 have HR0 := Aside0.mk hr0; have HC0 := Aside0.mk hc0; clear hr0 hc0
 have HB := Aside0.mk (Below.refl w.heap.size w)
 have H : (windbreakref01_In.l0 k l0 ([] : List Int) 0) = some r := h
 clear h
 have H' := Aside0.mk H
 clear H
 go_enter Try.func79, Try.ntmps79
 go_wp2
 go_loopg [3, 4] k (fun kq v3 v4 w' => ∃ (x3_1 : List Int) (x4_1 : Int), v4 = .int .i64 x4_1 ∧ Aside0 (windbreakref01_In.l0 kq l0 x3_1 x4_1 = some r) ∧ Aside0 (kq ≤ k) ∧ Aside0 (Kd.R (Kd.int .u64) 47 w' w.heap.size (fun _ => True) v3 x3_1) ∧ Aside0 (Below w.heap.size w w'))
 case atStart => exact ⟨(([] : List Int)), (0), uG, H', ⟨Nat.le_refl _⟩, ⟨uI⟩, ⟨uB⟩⟩
 case round =>
  clear H'
  obtain ⟨x3_1, x4_1, rfl, HA, HK1, HO_3, HB⟩ := hrel
  cases gk with
  | zero => exact absurd HA.out (by simp [windbreakref01_In.l0])
  | succ k1 =>
   have H := HA.out
   clear HA
   simp only [windbreakref01_In.l0] at H
   by_cases c2 : x4_1 < (l0.length : Int)
   ·
    rw [if_pos c2] at H
    have c2b0 : decide (x4_1 < (l0.length : Int)) = true := decide_eq_true c2
    clear c2
    replace H := uT H; obtain ⟨c3, H⟩ := H
    have c3b0 : decide (0 ≤ x4_1) = true := decide_eq_true c3
    clear c3
    have H' := Aside0.mk H
    clear H
    have p181 : 0 ≤ (x4_1 : Int) := uO
    have q181 : x4_1 < (l0.length : Int) := uO
    obtain ⟨ad181, e181, hx181_0⟩ := Kd.at_int HR0.out x4_1 p181 q181
    cases e181
    replace hx181_0 := (HB.out.cell (World.block_lt_of_cell? w _ hx181_0)).trans hx181_0
    replace p181 := eq_true p181
    replace q181 := eq_true q181
    go_wp2
    go_loopg [3, 5, 6] k1 (fun kq v3 v5 v6 w' => ∃ (x3_2 : List Int) (x5_2 : Int) (x6_2 : Int), v5 = .int .u64 x5_2 ∧ v6 = .int .i64 x6_2 ∧ Aside0 (windbreakref01_In.l1 kq l0 x3_2 x4_1 x5_2 x6_2 = some r) ∧ Aside0 (kq ≤ k1) ∧ Aside0 (Kd.R (Kd.int .u64) 47 w' w.heap.size (fun _ => True) v3 x3_2) ∧ Aside0 (Below w.heap.size w w'))
    case atStart => exact ⟨(x3_1), (rd l0 x4_1), (0), uG, uG, H', ⟨Nat.le_refl _⟩, ⟨uR HO_3.out⟩, ⟨uB⟩⟩
    case round =>
     clear H'
     (try clear p1); (try clear q1); (try clear hx1); (try clear c2); (try clear c2b0); (try clear p2); (try clear c3); (try clear c3b0); (try clear hx181_0); (try clear p181); (try clear q181)
     obtain ⟨x3_2, x5_2, x6_2, rfl, rfl, HA, HK2, HO_3, HB⟩ := hrel
     cases gk with
     | zero => exact absurd HA.out (by simp [windbreakref01_In.l1])
     | succ k2 =>
      have H := HA.out
      clear HA
      simp only [windbreakref01_In.l1] at H
      by_cases c4 : x6_2 < 4
      ·
       rw [if_pos c4] at H
       have c4b0 : decide (x6_2 < 4) = true := decide_eq_true c4
       clear c4
       replace H := uT H; obtain ⟨c5, H⟩ := H
       have LMc5 := Aside0.mk c5; clear c5
       obtain ⟨y182, hy182⟩ : ∃ y_ : List Int, y_ = (x3_2 ++ [Int.tmod x5_2 65536]) := ⟨_, rfl⟩
       replace H : (windbreakref01_In.l1 k2 l0 y182 x4_1 (IntKind.u64.wrap (Int.tdiv x5_2 65536)) (wrap64 (x6_2 + 1))) = some r := by first | (rw [hy182]; with_reducible exact H) | (have H2_ := (Option.bind_some _ _).symm.trans H; rw [hy182]; with_reducible exact H2_) | (have H2_ := (Option.bind_some _ _).symm.trans H; with_reducible exact H2_) | with_reducible exact H | (rw [hy182]; exact H) | exact H
       have Ny182 := Aside0.mk hy182; clear hy182
       have H' := Aside0.mk H
       clear H
       go_wp2_with (first | ((with_reducible refine gate_builtin (b := .append) (xs := #[.tmp 21, .tmp 24]) rfl ?_); at_builtin; refine Kd.R_append (Kd.int .u64) (w0 := w) w.heap.size rfl (.tmp 21) (.tmp 24) 124 47 (.int .u64 0) 8 rfl Try.underlying124 info47 rfl (by decide) (by omega) u3 x3_2 (Int.tmod x5_2 65536) [.int .u64 (Int.tmod x5_2 65536)] (fun _ => True) (fun _ => False) rfl rfl ?aP (fun _ hk => hk.elim) ?aF ?aO ?aB ?aS ?aL ?_; (case aP => exact rfl); (case aB => exact uB); (case aF => exact (fun _ _ => trivial)); (case aO => exact (uR HO_3.out)); (case aS => exact (below_size uB)); (case aL => have := LMc5.out; omega); intro v183 w6 ho hb hg hat; rw [← Ny182.out] at ho; replace HB := Aside0.mk (hb); have HO184 := Aside0.mk (ho); clear HO_3; clear ho hb hg hat))
       go_roundg k2
       case measure => have := HK1.out; have := HK2.out; omega
       case rel => exact ⟨(y182), (IntKind.u64.wrap (Int.tdiv x5_2 65536)), (wrap64 (x6_2 + 1)), uG, uG, H', ⟨by have := HK1.out; have := HK2.out; omega⟩, ⟨uR HO184.out⟩, ⟨uB⟩⟩
      rw [if_neg c4] at H
      have c4b0 : decide (x6_2 < 4) = false := decide_eq_false c4
      clear c4
      have H' := Aside0.mk H
      clear H
      go_wp2
      go_roundg k2
      case measure => have := HK1.out; have := HK2.out; omega
      case rel => exact ⟨(x3_2), (wrap64 (x4_1 + 1)), uG, H', ⟨by have := HK1.out; have := HK2.out; omega⟩, ⟨uR HO_3.out⟩, ⟨uB⟩⟩
   rw [if_neg c2] at H
   have c2b0 : decide (x4_1 < (l0.length : Int)) = false := decide_eq_false c2
   clear c2
   replace H := ub H; obtain ⟨t178, A7, H⟩ := H
   obtain rfl := Option.some.inj H
   obtain ⟨Ao8, co8, eo8⟩ := Kd.R_slice HO_3.out
   subst eo8
   go_wp2_with (first | ((with_reducible refine gate_callee (f := 83) rfl ?_); refine goesL_ (some 29) rfl rfl Try.func83 (by kernel_rfl) rfl #[.slice Ao8 x3_1.length co8] rfl uM ?_; (with_reducible refine (windbreakref01_cut.calls k1 (fun k_ => some k_ = (.slice Ao8 x3_1.length co8 : Value).ownBlock) (.slice Ao8 x3_1.length co8) x3_1 t178 w _ ?side1 ?side2 A7.out).mono ?_); (case side1 => repeat (first | (with_reducible first | exact HB.out | apply below_alloc | apply pw_below_drewN | apply below_drew1) | exact HB.out)); (case side2 => exact Kd.R_tight rfl HO_3.out); rintro e w9 ⟨v179, rfl, ho0, hb, hkp⟩; refine ⟨_, rfl, ?_⟩; have HO180 := Aside0.mk (Kd.R_mono (ok' := fun k_ => True) ho0 (fun k_ hk_ => trivial)); replace HB := Aside0.mk (hb); clear HO_3; (try clear hb); (try clear hkp); (try clear ho0)))
   go_ret
   exact ⟨_, uF, uR HO180.out, uB⟩
end Go.Proofs.Ytgeanpnkllnipaa.F
end
section
namespace Go.Proofs.Ytgeanpnkllnipaa.F
open Go.RowKit Go.Proofs.YtgeanpnkllnipaaW.PrintWords Go.Proofs.YtgeanpnkllnipaaW.PrintLast Go.Proofs.YtgeanpnkllnipaaW.PrintMore
attribute [local go_sem] max2_int min2_int max_two min_two max_three min_three max_four min_four
set_option linter.unusedVariables false
set_option linter.unusedSimpArgs false
mutual
def windbreakref01_Out.l0 : Nat → List Int → List Int → Int → Option (List Int × Bool)
 | 0, _, _, _ => none
 | k + 1, x0, x4, x5 => if x5 < (x0.length : Int) then (windbreakref01_Out.l1 k x0 x4 x5 0 3) else (some (x4, decide ((x4.length : Int) ≤ 64)))
def windbreakref01_Out.l1 : Nat → List Int → List Int → Int → Int → Int → Option (List Int × Bool)
 | 0, _, _, _, _, _ => none
 | k + 1, x0, x4, x5, x6, x7 => if x7 ≥ 0 then (if (wrap64 (x5 + x7)) < (x0.length : Int) then (if 0 ≤ (wrap64 (x5 + x7)) then (windbreakref01_Out.l1 k x0 x4 x5 (IntKind.u64.wrap ((IntKind.u64.wrap (x6 * 65536)) + (rd x0 (wrap64 (x5 + x7))))) (wrap64 (x7 - 1))) else (none)) else (windbreakref01_Out.l1 k x0 x4 x5 (IntKind.u64.wrap (x6 * 65536)) (wrap64 (x7 - 1)))) else (if x4.length < 17592186044416 then (windbreakref01_Out.l0 k x0 (x4 ++ [x6]) (wrap64 (x5 + 4))) else (none))
end
def windbreakref01_Out.f (k : Nat) (l0 : List Int) : Option (List Int × Bool) := windbreakref01_Out.l0 k l0 ([] : List Int) 0
set_option maxHeartbeats 8000000 in
set_option maxRecDepth 100000 in
theorem windbreakref01_Out.calls (k : Nat) (A0 : Option Addr) (c0 : Nat) (l0 : List Int) (r1 : List Int) (r2 : Bool) (w : World) (hr0 : Kd.C (Kd.int .u64) w A0 l0.length l0) (hc0 : l0.length ≤ c0) (h : windbreakref01_Out.f k l0 = some (r1, r2)) :
  Calls Try.prog 99 #[.slice A0 l0.length c0] w fun e w' => ∃ v0_ : Value, e = .returned (.tuple #[v0_, .bool r2]) ∧ Kd.R (Kd.int .u64) 47 w' w.heap.size (fun _ => True) v0_ r1 ∧ Below w.heap.size w w' := by
 have HR0 := Aside0.mk hr0; have HC0 := Aside0.mk hc0; clear hr0 hc0
 have HB := Aside0.mk (Below.refl w.heap.size w)
 have H : (windbreakref01_Out.l0 k l0 ([] : List Int) 0) = some (r1, r2) := h
 clear h
 have H' := Aside0.mk H
 clear H
 go_enter Try.func99, Try.ntmps99
 go_wp2
 go_loopg [4, 5] k (fun kq v4 v5 w' => ∃ (x4_1 : List Int) (x5_1 : Int), v5 = .int .i64 x5_1 ∧ Aside0 (windbreakref01_Out.l0 kq l0 x4_1 x5_1 = some (r1, r2)) ∧ Aside0 (kq ≤ k) ∧ Aside0 (Kd.R (Kd.int .u64) 47 w' w.heap.size (fun _ => True) v4 x4_1) ∧ Aside0 (Below w.heap.size w w'))
 case atStart => exact ⟨(([] : List Int)), (0), uG, H', ⟨Nat.le_refl _⟩, ⟨uI⟩, ⟨uB⟩⟩
 case round =>
  clear H'
  obtain ⟨x4_1, x5_1, rfl, HA, HK1, HO_4, HB⟩ := hrel
  cases gk with
  | zero => exact absurd HA.out (by simp [windbreakref01_Out.l0])
  | succ k1 =>
   have H := HA.out
   clear HA
   simp only [windbreakref01_Out.l0] at H
   by_cases c2 : x5_1 < (l0.length : Int)
   ·
    rw [if_pos c2] at H
    have c2b0 : decide (x5_1 < (l0.length : Int)) = true := decide_eq_true c2
    clear c2
    have H' := Aside0.mk H
    clear H
    go_wp2
    go_loopg [6, 7] k1 (fun kq v6 v7 w' => ∃ (x6_2 : Int) (x7_2 : Int), v6 = .int .u64 x6_2 ∧ v7 = .int .i64 x7_2 ∧ Aside0 (windbreakref01_Out.l1 kq l0 x4_1 x5_1 x6_2 x7_2 = some (r1, r2)) ∧ Aside0 (kq ≤ k1) ∧ Aside0 (Kd.R (Kd.int .u64) 47 w' w.heap.size (fun _ => True) u4 x4_1) ∧ Aside0 (Below w.heap.size w w'))
    case atStart => exact ⟨(0), (3), uG, uG, H', ⟨Nat.le_refl _⟩, ⟨uR HO_4.out⟩, ⟨uB⟩⟩
    case round =>
     clear H'
     (try clear c2); (try clear c2b0); (try clear p2)
     obtain ⟨x6_2, x7_2, rfl, rfl, HA, HK2, HO_4, HB⟩ := hrel
     cases gk with
     | zero => exact absurd HA.out (by simp [windbreakref01_Out.l1])
     | succ k2 =>
      have H := HA.out
      clear HA
      simp only [windbreakref01_Out.l1] at H
      by_cases c3 : x7_2 ≥ 0
      ·
       rw [if_pos c3] at H
       have c3b0 : decide (0 ≤ x7_2) = true := decide_eq_true c3
       clear c3
       by_cases c4 : (wrap64 (x5_1 + x7_2)) < (l0.length : Int)
       ·
        rw [if_pos c4] at H
        have c4b0 : decide ((wrap64 (x5_1 + x7_2)) < (l0.length : Int)) = true := decide_eq_true c4
        clear c4
        obtain ⟨ji5, hji5⟩ : ∃ j_ : Int, (wrap64 (x5_1 + x7_2)) = j_ := ⟨_, rfl⟩
        first | rw [hji5] at H | simp only [hji5] at H
        (try rw [hji5] at c4b0)
        have hji5w : (IntKind.i64.wrap (x5_1 + x7_2)) = ji5 := (i64_w _).trans hji5
        replace H := uT H; obtain ⟨c6, H⟩ := H
        have c6b0 : decide (0 ≤ (ji5)) = true := decide_eq_true c6
        clear c6
        have H' := Aside0.mk H
        clear H
        have p189 : 0 ≤ ((ji5) : Int) := uO
        have q189 : (ji5) < (l0.length : Int) := uO
        obtain ⟨ad189, e189, hx189_0⟩ := Kd.at_int HR0.out (ji5) p189 q189
        cases e189
        replace hx189_0 := (HB.out.cell (World.block_lt_of_cell? w _ hx189_0)).trans hx189_0
        replace p189 := eq_true p189
        replace q189 := eq_true q189
        go_wp2
        first | go_roundg k2 | ((try simp only [← hji5] at H'); simp only [← hji5]; go_roundg k2)
        case measure => have := HK1.out; have := HK2.out; omega
        case rel => first | exact ⟨(IntKind.u64.wrap ((IntKind.u64.wrap (x6_2 * 65536)) + (rd l0 (ji5)))), (wrap64 (x7_2 - 1)), (by first | rfl | (simp; done) | (simp only [← hji5] <;> (first | rfl | simp)) | (simp [*]; done)), uG, H', ⟨by have := HK1.out; have := HK2.out; omega⟩, ⟨uR HO_4.out⟩, ⟨uB⟩⟩ | (simp only [← hji5] at H'; exact ⟨(IntKind.u64.wrap ((IntKind.u64.wrap (x6_2 * 65536)) + (rd l0 (ji5)))), (wrap64 (x7_2 - 1)), (by first | rfl | (simp; done) | (simp only [← hji5] <;> (first | rfl | simp)) | (simp [*]; done)), uG, H', ⟨by have := HK1.out; have := HK2.out; omega⟩, ⟨uR HO_4.out⟩, ⟨uB⟩⟩)
       rw [if_neg c4] at H
       have c4b0 : decide ((wrap64 (x5_1 + x7_2)) < (l0.length : Int)) = false := decide_eq_false c4
       clear c4
       have H' := Aside0.mk H
       clear H
       go_wp2
       first | go_roundg k2 | ((try simp only [← hji5] at H'); simp only [← hji5]; go_roundg k2)
       case measure => have := HK1.out; have := HK2.out; omega
       case rel => first | exact ⟨(IntKind.u64.wrap (x6_2 * 65536)), (wrap64 (x7_2 - 1)), uG, uG, H', ⟨by have := HK1.out; have := HK2.out; omega⟩, ⟨uR HO_4.out⟩, ⟨uB⟩⟩ | (simp only [← hji5] at H'; exact ⟨(IntKind.u64.wrap (x6_2 * 65536)), (wrap64 (x7_2 - 1)), uG, uG, H', ⟨by have := HK1.out; have := HK2.out; omega⟩, ⟨uR HO_4.out⟩, ⟨uB⟩⟩)
      rw [if_neg c3] at H
      have c3b0 : decide (0 ≤ x7_2) = false := decide_eq_false c3
      clear c3
      replace H := uT H; obtain ⟨c7, H⟩ := H
      have LMc7 := Aside0.mk c7; clear c7
      obtain ⟨y190, hy190⟩ : ∃ y_ : List Int, y_ = (x4_1 ++ [x6_2]) := ⟨_, rfl⟩
      replace H : (windbreakref01_Out.l0 k2 l0 y190 (wrap64 (x5_1 + 4))) = some (r1, r2) := by first | (rw [hy190]; with_reducible exact H) | (have H2_ := (Option.bind_some _ _).symm.trans H; rw [hy190]; with_reducible exact H2_) | (have H2_ := (Option.bind_some _ _).symm.trans H; with_reducible exact H2_) | with_reducible exact H | (rw [hy190]; exact H) | exact H
      have Ny190 := Aside0.mk hy190; clear hy190
      have H' := Aside0.mk H
      clear H
      go_wp2_with (first | ((with_reducible refine gate_builtin (b := .append) (xs := #[.tmp 34, .tmp 36]) rfl ?_); at_builtin; refine Kd.R_append (Kd.int .u64) (w0 := w) w.heap.size rfl (.tmp 34) (.tmp 36) 29 47 (.int .u64 0) 8 rfl Try.underlying29 info47 rfl (by decide) (by omega) u4 x4_1 x6_2 [.int .u64 x6_2] (fun _ => True) (fun _ => False) rfl rfl ?aP (fun _ hk => hk.elim) ?aF ?aO ?aB ?aS ?aL ?_; (case aP => exact rfl); (case aB => exact uB); (case aF => exact (fun _ _ => trivial)); (case aO => exact (uR HO_4.out)); (case aS => exact (below_size uB)); (case aL => have := LMc7.out; omega); intro v191 w8 ho hb hg hat; rw [← Ny190.out] at ho; replace HB := Aside0.mk (hb); have HO192 := Aside0.mk (ho); clear HO_4; clear ho hb hg hat))
      first | go_roundg k2 | ((try simp only [← hji5] at H'); simp only [← hji5]; go_roundg k2)
      case measure => have := HK1.out; have := HK2.out; omega
      case rel => first | exact ⟨(y190), (wrap64 (x5_1 + 4)), uG, H', ⟨by have := HK1.out; have := HK2.out; omega⟩, ⟨uR HO192.out⟩, ⟨uB⟩⟩ | (simp only [← hji5] at H'; exact ⟨(y190), (wrap64 (x5_1 + 4)), uG, H', ⟨by have := HK1.out; have := HK2.out; omega⟩, ⟨uR HO192.out⟩, ⟨uB⟩⟩)
   rw [if_neg c2] at H
   have c2b0 : decide (x5_1 < (l0.length : Int)) = false := decide_eq_false c2
   clear c2
   simp only [Option.some.injEq, Prod.mk.injEq] at H
   obtain ⟨rfl, rfl⟩ := H
   obtain ⟨Ao9, co9, eo9⟩ := Kd.R_slice HO_4.out
   subst eo9
   go_wp2
   go_ret2
   exact ⟨_, uF, uR HO_4.out, uB⟩
end Go.Proofs.Ytgeanpnkllnipaa.F
end
section
namespace Go.Proofs.Ytgeanpnkllnipaa.F
open Go.RowKit Go.Proofs.YtgeanpnkllnipaaW.PrintWords Go.Proofs.YtgeanpnkllnipaaW.PrintLast Go.Proofs.YtgeanpnkllnipaaW.PrintMore
attribute [local go_sem] max2_int min2_int max_two min_two max_three min_three max_four min_four
set_option linter.unusedVariables false
set_option linter.unusedSimpArgs false
def windbreakref01_told.f (k : Nat) (l0 : List Int) : Option (List Int × Int) := (windbreakref01_Out.f k l0).bind fun bt193 => (if bt193.2 = true then (some (bt193.1, 0)) else (some (([] : List Int), 4)))
set_option maxHeartbeats 8000000 in
set_option maxRecDepth 100000 in
theorem windbreakref01_told.calls (k : Nat) (A0 : Option Addr) (c0 : Nat) (l0 : List Int) (r1 : List Int) (r2 : Int) (w : World) (hr0 : Kd.C (Kd.int .u64) w A0 l0.length l0) (hc0 : l0.length ≤ c0) (h : windbreakref01_told.f k l0 = some (r1, r2)) :
  Calls Try.prog 81 #[.slice A0 l0.length c0] w fun e w' => ∃ v0_ : Value, e = .returned (.tuple #[v0_, .int .i64 r2]) ∧ Kd.R (Kd.int .u64) 47 w' w.heap.size (fun _ => True) v0_ r1 ∧ Below w.heap.size w w' := by
 have HR0 := Aside0.mk hr0; have HC0 := Aside0.mk hc0; clear hr0 hc0
 have HB := Aside0.mk (Below.refl w.heap.size w)
 have H : ((windbreakref01_Out.f k l0).bind fun bt193 => (if bt193.2 = true then (some (bt193.1, 0)) else (some (([] : List Int), 4)))) = some (r1, r2) := h
 clear h
 replace H := ub H; obtain ⟨⟨t193, t194⟩, A2, H⟩ := H
 (try dsimp only at H)
 by_cases c3 : t194 = true
 ·
  subst c3
  have H1 : (some (t193, 0)) = some (r1, r2) := by rw [if_pos rfl] at H; exact H
  clear H; have H := H1; clear H1
  simp only [Option.some.injEq, Prod.mk.injEq] at H
  obtain ⟨rfl, rfl⟩ := H
  go_enter Try.func81, Try.ntmps81
  go_wp2_with (first | ((with_reducible refine gate_callee (f := 99) rfl ?_); refine goesL_ (some 8) rfl rfl Try.func99 (by kernel_rfl) rfl #[.slice A0 l0.length c0] rfl uM ?_; (with_reducible refine (windbreakref01_Out.calls k _ _ l0 t193 true _ ?side1 ?side2 A2.out).mono ?_); (case side1 => exact uC HR0.out); (case side2 => exact HC0.out); rintro e w4 ⟨v195, rfl, ho0, hb⟩; refine ⟨_, rfl, ?_⟩; have HO196 := Aside0.mk (Kd.R_lower ho0 (below_size uB)); replace HB := uy hb; (try clear hb ho0)))
  go_ret2
  exact ⟨_, uF, uR HO196.out, uB⟩
 replace c3 := Bool.eq_false_iff.mpr c3
 subst c3
 have H1 : (some (([] : List Int), 4)) = some (r1, r2) := by rw [if_neg (show ¬ (false = true) by decide)] at H; exact H
 clear H; have H := H1; clear H1
 simp only [Option.some.injEq, Prod.mk.injEq] at H
 obtain ⟨rfl, rfl⟩ := H
 go_enter Try.func81, Try.ntmps81
 go_wp2_with (first | ((with_reducible refine gate_callee (f := 99) rfl ?_); refine goesL_ (some 8) rfl rfl Try.func99 (by kernel_rfl) rfl #[.slice A0 l0.length c0] rfl uM ?_; (with_reducible refine (windbreakref01_Out.calls k _ _ l0 t193 false _ ?side1 ?side2 A2.out).mono ?_); (case side1 => exact uC HR0.out); (case side2 => exact HC0.out); rintro e w5 ⟨v195, rfl, ho0, hb⟩; refine ⟨_, rfl, ?_⟩; have HO196 := Aside0.mk (Kd.R_lower ho0 (below_size uB)); replace HB := uy hb; (try clear hb ho0)))
 go_ret2
 exact ⟨_, uF, uI, uB⟩
end Go.Proofs.Ytgeanpnkllnipaa.F
end
section
namespace Go.Proofs.Ytgeanpnkllnipaa.F
open Go.RowKit Go.Proofs.YtgeanpnkllnipaaW.PrintWords Go.Proofs.YtgeanpnkllnipaaW.PrintLast Go.Proofs.YtgeanpnkllnipaaW.PrintMore
attribute [local go_sem] max2_int min2_int max_two min_two max_three min_three max_four min_four
set_option linter.unusedVariables false
set_option linter.unusedSimpArgs false
mutual
def windbreakref01_mul.l0 : Nat → List Int → List Int → List Int → Int → Option (List Int)
 | 0, _, _, _, _ => none
 | k + 1, x0, x1, x5, x6 => if x6 < (x0.length : Int) then (windbreakref01_mul.l1 k x0 x1 x5 x6 0 0) else ((windbreakref01_cut.f k x5).bind fun t249 => (some t249))
def windbreakref01_mul.l1 : Nat → List Int → List Int → List Int → Int → Int → Int → Option (List Int)
 | 0, _, _, _, _, _, _ => none
 | k + 1, x0, x1, x5, x6, x7, x8 => if x8 < (x1.length : Int) then (if 0 ≤ (wrap64 (x6 + x8)) then (if (wrap64 (x6 + x8)) < (x5.length : Int) then (if 0 ≤ x6 then (if x6 < (x0.length : Int) then (if 0 ≤ x8 then (windbreakref01_mul.l1 k x0 x1 (x5.set ((wrap64 (x6 + x8)) : Int).toNat (Int.tmod (IntKind.u64.wrap ((IntKind.u64.wrap ((rd x5 (wrap64 (x6 + x8))) + (IntKind.u64.wrap ((rd x0 x6) * (rd x1 x8))))) + x7)) 65536)) x6 (IntKind.u64.wrap (Int.tdiv (IntKind.u64.wrap ((IntKind.u64.wrap ((rd x5 (wrap64 (x6 + x8))) + (IntKind.u64.wrap ((rd x0 x6) * (rd x1 x8))))) + x7)) 65536)) (wrap64 (x8 + 1))) else (none)) else (none)) else (none)) else (none)) else (none)) else (if 0 ≤ (wrap64 (x6 + (x1.length : Int))) then (if (wrap64 (x6 + (x1.length : Int))) < (x5.length : Int) then (windbreakref01_mul.l0 k x0 x1 (x5.set ((wrap64 (x6 + (x1.length : Int))) : Int).toNat x7) (wrap64 (x6 + 1))) else (none)) else (none))
end
def windbreakref01_mul.f (k : Nat) (l0 : List Int) (l1 : List Int) : Option (List Int) := if 0 ≤ (wrap64 ((l0.length : Int) + (l1.length : Int))) then (if (wrap64 ((l0.length : Int) + (l1.length : Int)) : Int).toNat ≤ 35184372088832 then (windbreakref01_mul.l0 k l0 l1 (List.replicate (wrap64 ((l0.length : Int) + (l1.length : Int)) : Int).toNat 0) 0) else (none)) else (none)
set_option maxHeartbeats 8000000 in
set_option maxRecDepth 100000 in
theorem windbreakref01_mul.calls (k : Nat) (A0 : Option Addr) (c0 : Nat) (l0 : List Int) (A1 : Option Addr) (c1 : Nat) (l1 : List Int) (r : List Int) (w : World) (hr0 : Kd.C (Kd.int .u64) w A0 l0.length l0) (hc0 : l0.length ≤ c0) (hr1 : Kd.C (Kd.int .u64) w A1 l1.length l1) (hc1 : l1.length ≤ c1) (h : windbreakref01_mul.f k l0 l1 = some r) :
  Calls Try.prog 86 #[.slice A0 l0.length c0, .slice A1 l1.length c1] w fun e w' => ∃ v0_ : Value, e = .returned (v0_) ∧ Kd.R (Kd.int .u64) 47 w' w.heap.size (fun _ => True) v0_ r ∧ Below w.heap.size w w' := by
 have HR0 := Aside0.mk hr0; have HC0 := Aside0.mk hc0; clear hr0 hc0; have HR1 := Aside0.mk hr1; have HC1 := Aside0.mk hc1; clear hr1 hc1
 have HB := Aside0.mk (Below.refl w.heap.size w)
 have H : (if 0 ≤ (wrap64 ((l0.length : Int) + (l1.length : Int))) then (if (wrap64 ((l0.length : Int) + (l1.length : Int)) : Int).toNat ≤ 35184372088832 then (windbreakref01_mul.l0 k l0 l1 (List.replicate (wrap64 ((l0.length : Int) + (l1.length : Int)) : Int).toNat 0) 0) else (none)) else (none)) = some r := h
 clear h
 obtain ⟨ji3, hji3⟩ : ∃ j_ : Int, (wrap64 ((l0.length : Int) + (l1.length : Int))) = j_ := ⟨_, rfl⟩
 first | rw [hji3] at H | simp only [hji3] at H
 have hji3w : (IntKind.i64.wrap ((l0.length : Int) + (l1.length : Int))) = ji3 := (i64_w _).trans hji3
 replace H := uT H; obtain ⟨c4, H⟩ := H
 have c4b0 := eq_true c4
 have c4b1 : decide (0 ≤ (ji3)) = true := decide_eq_true c4
 clear c4
 replace H := uT H; obtain ⟨c5, H⟩ := H
 have c5b0 := eq_true c5
 have c5b1 : decide ((ji3 : Int).toNat ≤ 35184372088832) = true := decide_eq_true c5
 clear c5
 obtain ⟨y246, hy246⟩ : ∃ y_ : List Int, y_ = (List.replicate (ji3 : Int).toNat 0) := ⟨_, rfl⟩
 replace H : (windbreakref01_mul.l0 k l0 l1 y246 0) = some r := by first | (rw [hy246]; with_reducible exact H) | (have H2_ := (Option.bind_some _ _).symm.trans H; rw [hy246]; with_reducible exact H2_) | (have H2_ := (Option.bind_some _ _).symm.trans H; with_reducible exact H2_) | with_reducible exact H | (rw [hy246]; exact H) | exact H
 have Ny246 := Aside0.mk hy246; clear hy246
 have H' := Aside0.mk H
 clear H
 go_enter Try.func86, Try.ntmps86
 go_wp2_with (first | ((with_reducible refine gate_dst (N := 15) rfl ?_); refine Kd.R_make (Kd.int .u64) _ 47 rfl (N := 15) rfl 124 _ _ rfl ji3 rfl rfl Try.underlying124 (.int .u64 0) 8 info47 rfl (by decide) (by omega) 0 (ok := fun _ => True) (okp := fun _ => True) rfl (fun _ hk => hk) trivial uO (Nat.le_trans (Nat.mul_le_mul_right _ (uO : ji3.toNat ≤ 35184372088832)) (by omega)) (Below.refl _ _) (Nat.le_refl _) ?_; intro v247 w6 ho7 hb hg_ hnew_; clear hg_ hnew_; (first | rw [← Ny246.out] at ho7 | (simp only [Int.reduceToNat] at ho7; rw [← Ny246.out] at ho7)); have HO248 := Aside0.mk (Kd.R_lower ho7 (below_size uB)); replace HB := uy hb; clear hb ho7))
 repeat (go_quiet (first | ((with_reducible refine gate_dst (N := 15) rfl ?_); refine Kd.R_make (Kd.int .u64) _ 47 rfl (N := 15) rfl 124 _ _ rfl ji3 rfl rfl Try.underlying124 (.int .u64 0) 8 info47 rfl (by decide) (by omega) 0 (ok := fun _ => True) (okp := fun _ => True) rfl (fun _ hk => hk) trivial uO (Nat.le_trans (Nat.mul_le_mul_right _ (uO : ji3.toNat ≤ 35184372088832)) (by omega)) (Below.refl _ _) (Nat.le_refl _) ?_; intro v247 w6 ho7 hb hg_ hnew_; clear hg_ hnew_; (first | rw [← Ny246.out] at ho7 | (simp only [Int.reduceToNat] at ho7; rw [← Ny246.out] at ho7)); have HO248 := Aside0.mk (Kd.R_lower ho7 (below_size uB)); replace HB := uy hb; clear hb ho7)); try go_wp2_with (first | ((with_reducible refine gate_dst (N := 15) rfl ?_); refine Kd.R_make (Kd.int .u64) _ 47 rfl (N := 15) rfl 124 _ _ rfl ji3 rfl rfl Try.underlying124 (.int .u64 0) 8 info47 rfl (by decide) (by omega) 0 (ok := fun _ => True) (okp := fun _ => True) rfl (fun _ hk => hk) trivial uO (Nat.le_trans (Nat.mul_le_mul_right _ (uO : ji3.toNat ≤ 35184372088832)) (by omega)) (Below.refl _ _) (Nat.le_refl _) ?_; intro v247 w6 ho7 hb hg_ hnew_; clear hg_ hnew_; (first | rw [← Ny246.out] at ho7 | (simp only [Int.reduceToNat] at ho7; rw [← Ny246.out] at ho7)); have HO248 := Aside0.mk (Kd.R_lower ho7 (below_size uB)); replace HB := uy hb; clear hb ho7)))
 go_loopg [6] k (fun kq v6 w' => ∃ (x5_1 : List Int) (x6_1 : Int), v6 = .int .i64 x6_1 ∧ Aside0 (windbreakref01_mul.l0 kq l0 l1 x5_1 x6_1 = some r) ∧ Aside0 (kq ≤ k) ∧ Aside0 (Kd.R (Kd.int .u64) 47 w' w.heap.size (fun _ => True) v247 x5_1) ∧ Aside0 (Below w.heap.size w w'))
 case atStart => exact ⟨(y246), (0), uG, H', ⟨Nat.le_refl _⟩, ⟨uR HO248.out⟩, ⟨uB⟩⟩
 case round =>
  clear H'
  (try clear c1); (try clear p2); (try clear c4); (try clear c4b0); (try clear c4b1); (try clear c5); (try clear c5b0); (try clear c5b1); (try clear p6)
  obtain ⟨x5_1, x6_1, rfl, HA, HK1, HO_5, HB⟩ := hrel
  cases gk with
  | zero => exact absurd HA.out (by simp [windbreakref01_mul.l0])
  | succ k1 =>
   have H := HA.out
   clear HA
   simp only [windbreakref01_mul.l0] at H
   by_cases c8 : x6_1 < (l0.length : Int)
   ·
    rw [if_pos c8] at H
    have c8b0 : decide (x6_1 < (l0.length : Int)) = true := decide_eq_true c8
    clear c8
    have H' := Aside0.mk H
    clear H
    go_wp2
    repeat (go_quiet (fail); try go_wp2)
    go_loopg [7, 8] k1 (fun kq v7 v8 w' => ∃ (x5_2 : List Int) (x7_2 : Int) (x8_2 : Int), v7 = .int .u64 x7_2 ∧ v8 = .int .i64 x8_2 ∧ Aside0 (windbreakref01_mul.l1 kq l0 l1 x5_2 x6_1 x7_2 x8_2 = some r) ∧ Aside0 (kq ≤ k1) ∧ Aside0 (Kd.R (Kd.int .u64) 47 w' w.heap.size (fun _ => True) v247 x5_2) ∧ Aside0 (Below w.heap.size w w'))
    case atStart => exact ⟨(x5_1), (0), (0), uG, uG, H', ⟨Nat.le_refl _⟩, ⟨uR HO_5.out⟩, ⟨uB⟩⟩
    case round =>
     clear H'
     (try clear c1); (try clear p2); (try clear c4); (try clear c4b0); (try clear c4b1); (try clear c5); (try clear c5b0); (try clear c5b1); (try clear p6); (try clear c8); (try clear c8b0); (try clear p2); (try clear p6)
     obtain ⟨x5_2, x7_2, x8_2, rfl, rfl, HA, HK2, HO_5, HB⟩ := hrel
     cases gk with
     | zero => exact absurd HA.out (by simp [windbreakref01_mul.l1])
     | succ k2 =>
      have H := HA.out
      clear HA
      simp only [windbreakref01_mul.l1] at H
      by_cases c9 : x8_2 < (l1.length : Int)
      ·
       rw [if_pos c9] at H
       have c9b0 : decide (x8_2 < (l1.length : Int)) = true := decide_eq_true c9
       clear c9
       obtain ⟨ji10, hji10⟩ : ∃ j_ : Int, (wrap64 (x6_1 + x8_2)) = j_ := ⟨_, rfl⟩
       first | rw [hji10] at H | simp only [hji10] at H
       have hji10w : (IntKind.i64.wrap (x6_1 + x8_2)) = ji10 := (i64_w _).trans hji10
       replace H := uT H; obtain ⟨c11, H⟩ := H
       have c11b0 : decide (0 ≤ (ji10)) = true := decide_eq_true c11
       clear c11
       replace H := uT H; obtain ⟨c12, H⟩ := H
       have c12b0 : decide ((ji10) < (x5_2.length : Int)) = true := decide_eq_true c12
       clear c12
       replace H := uT H; obtain ⟨c13, H⟩ := H
       have c13b0 : decide (0 ≤ x6_1) = true := decide_eq_true c13
       clear c13
       replace H := uT H; obtain ⟨c14, H⟩ := H
       have c14b0 : decide (x6_1 < (l0.length : Int)) = true := decide_eq_true c14
       clear c14
       replace H := uT H; obtain ⟨c15, H⟩ := H
       have c15b0 : decide (0 ≤ x8_2) = true := decide_eq_true c15
       clear c15
       obtain ⟨y255, hy255⟩ : ∃ y_ : List Int, y_ = (x5_2.set ((ji10) : Int).toNat (Int.tmod (IntKind.u64.wrap ((IntKind.u64.wrap ((rd x5_2 (ji10)) + (IntKind.u64.wrap ((rd l0 x6_1) * (rd l1 x8_2))))) + x7_2)) 65536)) := ⟨_, rfl⟩
       replace H : (windbreakref01_mul.l1 k2 l0 l1 y255 x6_1 (IntKind.u64.wrap (Int.tdiv (IntKind.u64.wrap ((IntKind.u64.wrap ((rd x5_2 (ji10)) + (IntKind.u64.wrap ((rd l0 x6_1) * (rd l1 x8_2))))) + x7_2)) 65536)) (wrap64 (x8_2 + 1))) = some r := by first | (rw [hy255]; with_reducible exact H) | (have H2_ := (Option.bind_some _ _).symm.trans H; rw [hy255]; with_reducible exact H2_) | (have H2_ := (Option.bind_some _ _).symm.trans H; with_reducible exact H2_) | with_reducible exact H | (rw [hy255]; exact H) | exact H
       have Ny255 := Aside0.mk hy255; clear hy255
       have H' := Aside0.mk H
       clear H
       obtain ⟨Ao17, co17, eo17⟩ := Kd.R_slice HO_5.out
       subst eo17
       have p252 : 0 ≤ ((ji10) : Int) := uO
       have q252 : (ji10) < (x5_2.length : Int) := uO
       obtain ⟨ad252, e252, hx252_0⟩ := Kd.at_int (Kd.R_reads' HO_5.out).2.2 (ji10) p252 q252
       cases e252
       replace p252 := eq_true p252
       replace q252 := eq_true q252
       have p253 : 0 ≤ (x6_1 : Int) := uO
       have q253 : x6_1 < (l0.length : Int) := uO
       obtain ⟨ad253, e253, hx253_0⟩ := Kd.at_int HR0.out x6_1 p253 q253
       cases e253
       replace hx253_0 := (HB.out.cell (World.block_lt_of_cell? w _ hx253_0)).trans hx253_0
       replace p253 := eq_true p253
       replace q253 := eq_true q253
       have p254 : 0 ≤ (x8_2 : Int) := uO
       have q254 : x8_2 < (l1.length : Int) := uO
       obtain ⟨ad254, e254, hx254_0⟩ := Kd.at_int HR1.out x8_2 p254 q254
       cases e254
       replace hx254_0 := (HB.out.cell (World.block_lt_of_cell? w _ hx254_0)).trans hx254_0
       replace p254 := eq_true p254
       replace q254 := eq_true q254
       have p16 : 0 ≤ ((ji10) : Int) := uO
       have q16 : ((ji10) : Int) < ((x5_2.length : Int) : Int) := uO
       obtain ⟨go16, co16, eo16, gb16, gl16, cl16, HG16⟩ := Kd.R_form HO_5.out (by omega)
       (first | cases eo16 | (injection eo16 with ea_ en_ ec_; (first | subst ea_ | (injection ea_ with ea_; subst ea_)); subst ec_; clear en_))
       have GB16 := Aside0.mk gb16; have GG16 := Aside0.mk HG16; clear gb16 gl16 HG16
       (first | simp only [add_plain] at hx252_0 | skip)
       obtain ⟨hx16_0, hf16_0⟩ := Kd.R_celln 0 HO_5.out ((ji10) : Int) p16 q16
       replace p16 := eq_true p16
       replace q16 := eq_true q16
       have HP18 := Kd.R_putg HO_5.out ((ji10) : Int) (Int.tmod (IntKind.u64.wrap ((IntKind.u64.wrap ((rd x5_2 (ji10)) + (IntKind.u64.wrap ((rd l0 x6_1) * (rd l1 x8_2))))) + x7_2)) 65536)
       go_wp2_with (first | ((with_reducible refine gate_store (t := 47) (p := 52) rfl ?_); (try (rw [drewN_self wr]; generalize hq_ : World.drewN wr _ = wr; replace HO_5 := Aside0.mk (Kd.R_at hq_ HO_5.out); replace HB := Aside0.mk (below_at hq_ HB.out); clear hq_; (try (have HP18 := Kd.R_putg HO_5.out ((ji10) : Int) (Int.tmod (IntKind.u64.wrap ((IntKind.u64.wrap ((rd x5_2 (ji10)) + (IntKind.u64.wrap ((rd l0 x6_1) * (rd l1 x8_2))))) + x7_2)) 65536))))); refine store_event (t := 47) (p := 52) (v := ?vo_w19) (w1 := (wr.setCell ⟨go16, ((ji10) : Int).toNat, none⟩ (.int .u64 (Int.tmod (IntKind.u64.wrap ((IntKind.u64.wrap ((rd x5_2 (ji10)) + (IntKind.u64.wrap ((rd l0 x6_1) * (rd l1 x8_2))))) + x7_2)) 65536)))) ?hg ?ho ?hn ?hr ?_; (case ho => rfl); (case hg => rfl); (case hn => rfl); (case hr => first | (go_simp; done) | (go_simp; rfl) | (obtain ⟨hy_, hz_⟩ := Kd.R_celln 0 HO_5.out ((ji10) : Int) uO uO; (try simp only [Go.IntWalk.toNatUp] at hy_ hz_); (try simp only [Int.reduceToNat, Int.toNat_zero, Int.toNat_ofNat] at hy_ hz_); first | (go_simp; done) | (go_simp; rfl))); intro w19 hw; have hg : wr.grownBy w19 (some go16) := (by rw [hw]; exact HP18.2); have hp_ : Kd.R (Kd.int .u64) 47 w19 w.heap.size (fun _ => True) (.slice (some ⟨go16, 0, none⟩) x5_2.length co17) y255 := (by rw [hw, Ny255.out]; exact HP18.1); clear HP18; replace HO_5 := Aside0.mk (hp_); replace HB := Aside0.mk ((by rw [hw]; exact below_set (HB.out) GB16.out : Below w.heap.size w w19)); clear hg hw hp_))
       repeat (go_quiet (first | ((with_reducible refine gate_store (t := 47) (p := 52) rfl ?_); (try (rw [drewN_self wr]; generalize hq_ : World.drewN wr _ = wr; replace HO_5 := Aside0.mk (Kd.R_at hq_ HO_5.out); replace HB := Aside0.mk (below_at hq_ HB.out); clear hq_; (try (have HP18 := Kd.R_putg HO_5.out ((ji10) : Int) (Int.tmod (IntKind.u64.wrap ((IntKind.u64.wrap ((rd x5_2 (ji10)) + (IntKind.u64.wrap ((rd l0 x6_1) * (rd l1 x8_2))))) + x7_2)) 65536))))); refine store_event (t := 47) (p := 52) (v := ?vo_w19) (w1 := (wr.setCell ⟨go16, ((ji10) : Int).toNat, none⟩ (.int .u64 (Int.tmod (IntKind.u64.wrap ((IntKind.u64.wrap ((rd x5_2 (ji10)) + (IntKind.u64.wrap ((rd l0 x6_1) * (rd l1 x8_2))))) + x7_2)) 65536)))) ?hg ?ho ?hn ?hr ?_; (case ho => rfl); (case hg => rfl); (case hn => rfl); (case hr => first | (go_simp; done) | (go_simp; rfl) | (obtain ⟨hy_, hz_⟩ := Kd.R_celln 0 HO_5.out ((ji10) : Int) uO uO; (try simp only [Go.IntWalk.toNatUp] at hy_ hz_); (try simp only [Int.reduceToNat, Int.toNat_zero, Int.toNat_ofNat] at hy_ hz_); first | (go_simp; done) | (go_simp; rfl))); intro w19 hw; have hg : wr.grownBy w19 (some go16) := (by rw [hw]; exact HP18.2); have hp_ : Kd.R (Kd.int .u64) 47 w19 w.heap.size (fun _ => True) (.slice (some ⟨go16, 0, none⟩) x5_2.length co17) y255 := (by rw [hw, Ny255.out]; exact HP18.1); clear HP18; replace HO_5 := Aside0.mk (hp_); replace HB := Aside0.mk ((by rw [hw]; exact below_set (HB.out) GB16.out : Below w.heap.size w w19)); clear hg hw hp_)); try go_wp2_with (first | ((with_reducible refine gate_store (t := 47) (p := 52) rfl ?_); (try (rw [drewN_self wr]; generalize hq_ : World.drewN wr _ = wr; replace HO_5 := Aside0.mk (Kd.R_at hq_ HO_5.out); replace HB := Aside0.mk (below_at hq_ HB.out); clear hq_; (try (have HP18 := Kd.R_putg HO_5.out ((ji10) : Int) (Int.tmod (IntKind.u64.wrap ((IntKind.u64.wrap ((rd x5_2 (ji10)) + (IntKind.u64.wrap ((rd l0 x6_1) * (rd l1 x8_2))))) + x7_2)) 65536))))); refine store_event (t := 47) (p := 52) (v := ?vo_w19) (w1 := (wr.setCell ⟨go16, ((ji10) : Int).toNat, none⟩ (.int .u64 (Int.tmod (IntKind.u64.wrap ((IntKind.u64.wrap ((rd x5_2 (ji10)) + (IntKind.u64.wrap ((rd l0 x6_1) * (rd l1 x8_2))))) + x7_2)) 65536)))) ?hg ?ho ?hn ?hr ?_; (case ho => rfl); (case hg => rfl); (case hn => rfl); (case hr => first | (go_simp; done) | (go_simp; rfl) | (obtain ⟨hy_, hz_⟩ := Kd.R_celln 0 HO_5.out ((ji10) : Int) uO uO; (try simp only [Go.IntWalk.toNatUp] at hy_ hz_); (try simp only [Int.reduceToNat, Int.toNat_zero, Int.toNat_ofNat] at hy_ hz_); first | (go_simp; done) | (go_simp; rfl))); intro w19 hw; have hg : wr.grownBy w19 (some go16) := (by rw [hw]; exact HP18.2); have hp_ : Kd.R (Kd.int .u64) 47 w19 w.heap.size (fun _ => True) (.slice (some ⟨go16, 0, none⟩) x5_2.length co17) y255 := (by rw [hw, Ny255.out]; exact HP18.1); clear HP18; replace HO_5 := Aside0.mk (hp_); replace HB := Aside0.mk ((by rw [hw]; exact below_set (HB.out) GB16.out : Below w.heap.size w w19)); clear hg hw hp_)))
       first | go_roundg k2 | ((try simp only [← hji10] at H'); simp only [← hji10]; go_roundg k2) | ((try simp only [← hji3] at H'); simp only [← hji3]; go_roundg k2)
       case measure => have := HK1.out; have := HK2.out; omega
       case rel => first | exact ⟨(y255), (IntKind.u64.wrap (Int.tdiv (IntKind.u64.wrap ((IntKind.u64.wrap ((rd x5_2 (ji10)) + (IntKind.u64.wrap ((rd l0 x6_1) * (rd l1 x8_2))))) + x7_2)) 65536)), (wrap64 (x8_2 + 1)), (by first | rfl | (simp; done) | (simp only [← hji10] <;> (first | rfl | simp)) | (simp [*]; done)), uG, H', ⟨by have := HK1.out; have := HK2.out; omega⟩, ⟨uR HO_5.out⟩, ⟨uB⟩⟩ | (simp only [← hji10] at H'; exact ⟨(y255), (IntKind.u64.wrap (Int.tdiv (IntKind.u64.wrap ((IntKind.u64.wrap ((rd x5_2 (ji10)) + (IntKind.u64.wrap ((rd l0 x6_1) * (rd l1 x8_2))))) + x7_2)) 65536)), (wrap64 (x8_2 + 1)), (by first | rfl | (simp; done) | (simp only [← hji10] <;> (first | rfl | simp)) | (simp [*]; done)), uG, H', ⟨by have := HK1.out; have := HK2.out; omega⟩, ⟨uR HO_5.out⟩, ⟨uB⟩⟩) | (simp only [← hji3] at H'; exact ⟨(y255), (IntKind.u64.wrap (Int.tdiv (IntKind.u64.wrap ((IntKind.u64.wrap ((rd x5_2 (ji10)) + (IntKind.u64.wrap ((rd l0 x6_1) * (rd l1 x8_2))))) + x7_2)) 65536)), (wrap64 (x8_2 + 1)), (by first | rfl | (simp; done) | (simp only [← hji10] <;> (first | rfl | simp)) | (simp [*]; done)), uG, H', ⟨by have := HK1.out; have := HK2.out; omega⟩, ⟨uR HO_5.out⟩, ⟨uB⟩⟩)
      rw [if_neg c9] at H
      have c9b0 : decide (x8_2 < (l1.length : Int)) = false := decide_eq_false c9
      clear c9
      obtain ⟨ji20, hji20⟩ : ∃ j_ : Int, (wrap64 (x6_1 + (l1.length : Int))) = j_ := ⟨_, rfl⟩
      first | rw [hji20] at H | simp only [hji20] at H
      have hji20w : (IntKind.i64.wrap (x6_1 + (l1.length : Int))) = ji20 := (i64_w _).trans hji20
      replace H := uT H; obtain ⟨c21, H⟩ := H
      have c21b0 : decide (0 ≤ (ji20)) = true := decide_eq_true c21
      clear c21
      replace H := uT H; obtain ⟨c22, H⟩ := H
      have c22b0 : decide ((ji20) < (x5_2.length : Int)) = true := decide_eq_true c22
      clear c22
      obtain ⟨y256, hy256⟩ : ∃ y_ : List Int, y_ = (x5_2.set ((ji20) : Int).toNat x7_2) := ⟨_, rfl⟩
      replace H : (windbreakref01_mul.l0 k2 l0 l1 y256 (wrap64 (x6_1 + 1))) = some r := by first | (rw [hy256]; with_reducible exact H) | (have H2_ := (Option.bind_some _ _).symm.trans H; rw [hy256]; with_reducible exact H2_) | (have H2_ := (Option.bind_some _ _).symm.trans H; with_reducible exact H2_) | with_reducible exact H | (rw [hy256]; exact H) | exact H
      have Ny256 := Aside0.mk hy256; clear hy256
      have H' := Aside0.mk H
      clear H
      have p23 : 0 ≤ ((ji20) : Int) := uO
      have q23 : ((ji20) : Int) < ((x5_2.length : Int) : Int) := uO
      obtain ⟨go23, co23, eo23, gb23, gl23, cl23, HG23⟩ := Kd.R_form HO_5.out (by omega)
      (first | cases eo23 | (injection eo23 with ea_ en_ ec_; (first | subst ea_ | (injection ea_ with ea_; subst ea_)); subst ec_; clear en_))
      have GB23 := Aside0.mk gb23; have GG23 := Aside0.mk HG23; clear gb23 gl23 HG23
      obtain ⟨hx23_0, hf23_0⟩ := Kd.R_celln 0 HO_5.out ((ji20) : Int) p23 q23
      replace p23 := eq_true p23
      replace q23 := eq_true q23
      have HP24 := Kd.R_putg HO_5.out ((ji20) : Int) x7_2
      go_wp2_with (first | ((with_reducible refine gate_store (t := 47) (p := 61) rfl ?_); (try (rw [drewN_self wr]; generalize hq_ : World.drewN wr _ = wr; replace HO_5 := Aside0.mk (Kd.R_at hq_ HO_5.out); replace HB := Aside0.mk (below_at hq_ HB.out); clear hq_; (try (have HP24 := Kd.R_putg HO_5.out ((ji20) : Int) x7_2)))); refine store_event (t := 47) (p := 61) (v := ?vo_w25) (w1 := (wr.setCell ⟨go23, ((ji20) : Int).toNat, none⟩ (.int .u64 x7_2))) ?hg ?ho ?hn ?hr ?_; (case ho => rfl); (case hg => rfl); (case hn => rfl); (case hr => first | (go_simp; done) | (go_simp; rfl) | (obtain ⟨hy_, hz_⟩ := Kd.R_celln 0 HO_5.out ((ji20) : Int) uO uO; (try simp only [Go.IntWalk.toNatUp] at hy_ hz_); (try simp only [Int.reduceToNat, Int.toNat_zero, Int.toNat_ofNat] at hy_ hz_); first | (go_simp; done) | (go_simp; rfl))); intro w25 hw; have hg : wr.grownBy w25 (some go23) := (by rw [hw]; exact HP24.2); have hp_ : Kd.R (Kd.int .u64) 47 w25 w.heap.size (fun _ => True) (.slice (some ⟨go23, 0, none⟩) x5_2.length co23) y256 := (by rw [hw, Ny256.out]; exact HP24.1); clear HP24; replace HO_5 := Aside0.mk (hp_); replace HB := Aside0.mk ((by rw [hw]; exact below_set (HB.out) GB23.out : Below w.heap.size w w25)); clear hg hw hp_))
      repeat (go_quiet (first | ((with_reducible refine gate_store (t := 47) (p := 61) rfl ?_); (try (rw [drewN_self wr]; generalize hq_ : World.drewN wr _ = wr; replace HO_5 := Aside0.mk (Kd.R_at hq_ HO_5.out); replace HB := Aside0.mk (below_at hq_ HB.out); clear hq_; (try (have HP24 := Kd.R_putg HO_5.out ((ji20) : Int) x7_2)))); refine store_event (t := 47) (p := 61) (v := ?vo_w25) (w1 := (wr.setCell ⟨go23, ((ji20) : Int).toNat, none⟩ (.int .u64 x7_2))) ?hg ?ho ?hn ?hr ?_; (case ho => rfl); (case hg => rfl); (case hn => rfl); (case hr => first | (go_simp; done) | (go_simp; rfl) | (obtain ⟨hy_, hz_⟩ := Kd.R_celln 0 HO_5.out ((ji20) : Int) uO uO; (try simp only [Go.IntWalk.toNatUp] at hy_ hz_); (try simp only [Int.reduceToNat, Int.toNat_zero, Int.toNat_ofNat] at hy_ hz_); first | (go_simp; done) | (go_simp; rfl))); intro w25 hw; have hg : wr.grownBy w25 (some go23) := (by rw [hw]; exact HP24.2); have hp_ : Kd.R (Kd.int .u64) 47 w25 w.heap.size (fun _ => True) (.slice (some ⟨go23, 0, none⟩) x5_2.length co23) y256 := (by rw [hw, Ny256.out]; exact HP24.1); clear HP24; replace HO_5 := Aside0.mk (hp_); replace HB := Aside0.mk ((by rw [hw]; exact below_set (HB.out) GB23.out : Below w.heap.size w w25)); clear hg hw hp_)); try go_wp2_with (first | ((with_reducible refine gate_store (t := 47) (p := 61) rfl ?_); (try (rw [drewN_self wr]; generalize hq_ : World.drewN wr _ = wr; replace HO_5 := Aside0.mk (Kd.R_at hq_ HO_5.out); replace HB := Aside0.mk (below_at hq_ HB.out); clear hq_; (try (have HP24 := Kd.R_putg HO_5.out ((ji20) : Int) x7_2)))); refine store_event (t := 47) (p := 61) (v := ?vo_w25) (w1 := (wr.setCell ⟨go23, ((ji20) : Int).toNat, none⟩ (.int .u64 x7_2))) ?hg ?ho ?hn ?hr ?_; (case ho => rfl); (case hg => rfl); (case hn => rfl); (case hr => first | (go_simp; done) | (go_simp; rfl) | (obtain ⟨hy_, hz_⟩ := Kd.R_celln 0 HO_5.out ((ji20) : Int) uO uO; (try simp only [Go.IntWalk.toNatUp] at hy_ hz_); (try simp only [Int.reduceToNat, Int.toNat_zero, Int.toNat_ofNat] at hy_ hz_); first | (go_simp; done) | (go_simp; rfl))); intro w25 hw; have hg : wr.grownBy w25 (some go23) := (by rw [hw]; exact HP24.2); have hp_ : Kd.R (Kd.int .u64) 47 w25 w.heap.size (fun _ => True) (.slice (some ⟨go23, 0, none⟩) x5_2.length co23) y256 := (by rw [hw, Ny256.out]; exact HP24.1); clear HP24; replace HO_5 := Aside0.mk (hp_); replace HB := Aside0.mk ((by rw [hw]; exact below_set (HB.out) GB23.out : Below w.heap.size w w25)); clear hg hw hp_)))
      first | go_roundg k2 | ((try simp only [← hji20] at H'); simp only [← hji20]; go_roundg k2) | ((try simp only [← hji10] at H'); simp only [← hji10]; go_roundg k2) | ((try simp only [← hji3] at H'); simp only [← hji3]; go_roundg k2)
      case measure => have := HK1.out; have := HK2.out; omega
      case rel => first | exact ⟨(y256), (wrap64 (x6_1 + 1)), uG, H', ⟨by have := HK1.out; have := HK2.out; omega⟩, ⟨uR HO_5.out⟩, ⟨uB⟩⟩ | (simp only [← hji20] at H'; exact ⟨(y256), (wrap64 (x6_1 + 1)), uG, H', ⟨by have := HK1.out; have := HK2.out; omega⟩, ⟨uR HO_5.out⟩, ⟨uB⟩⟩) | (simp only [← hji10] at H'; exact ⟨(y256), (wrap64 (x6_1 + 1)), uG, H', ⟨by have := HK1.out; have := HK2.out; omega⟩, ⟨uR HO_5.out⟩, ⟨uB⟩⟩) | (simp only [← hji3] at H'; exact ⟨(y256), (wrap64 (x6_1 + 1)), uG, H', ⟨by have := HK1.out; have := HK2.out; omega⟩, ⟨uR HO_5.out⟩, ⟨uB⟩⟩)
   rw [if_neg c8] at H
   have c8b0 : decide (x6_1 < (l0.length : Int)) = false := decide_eq_false c8
   clear c8
   replace H := ub H; obtain ⟨t249, A26, H⟩ := H
   obtain rfl := Option.some.inj H
   obtain ⟨Ao27, co27, eo27⟩ := Kd.R_slice HO_5.out
   subst eo27
   go_wp2_with (first | (go_at_call 83; (with_reducible refine (windbreakref01_cut.calls k1 (fun k_ => some k_ = (.slice Ao27 x5_1.length co27 : Value).ownBlock) (.slice Ao27 x5_1.length co27) x5_1 t249 w _ ?side1 ?side2 A26.out).mono ?_); (case side1 => repeat (first | (with_reducible first | exact HB.out | apply below_alloc | apply pw_below_drewN | apply below_drew1) | exact HB.out)); (case side2 => exact Kd.R_tight rfl HO_5.out); rintro e w28 ⟨v250, rfl, ho0, hb, hkp⟩; have HO251 := Aside0.mk (Kd.R_mono (ok' := fun k_ => True) ho0 (fun k_ hk_ => trivial)); replace HB := Aside0.mk (hb); clear HO_5; (try clear hb); (try clear hkp); (try clear ho0)))
   repeat (go_quiet (first | (go_at_call 83; (with_reducible refine (windbreakref01_cut.calls k1 (fun k_ => some k_ = (.slice Ao27 x5_1.length co27 : Value).ownBlock) (.slice Ao27 x5_1.length co27) x5_1 t249 w _ ?side1 ?side2 A26.out).mono ?_); (case side1 => repeat (first | (with_reducible first | exact HB.out | apply below_alloc | apply pw_below_drewN | apply below_drew1) | exact HB.out)); (case side2 => exact Kd.R_tight rfl HO_5.out); rintro e w28 ⟨v250, rfl, ho0, hb, hkp⟩; have HO251 := Aside0.mk (Kd.R_mono (ok' := fun k_ => True) ho0 (fun k_ hk_ => trivial)); replace HB := Aside0.mk (hb); clear HO_5; (try clear hb); (try clear hkp); (try clear ho0))); try go_wp2_with (first | (go_at_call 83; (with_reducible refine (windbreakref01_cut.calls k1 (fun k_ => some k_ = (.slice Ao27 x5_1.length co27 : Value).ownBlock) (.slice Ao27 x5_1.length co27) x5_1 t249 w _ ?side1 ?side2 A26.out).mono ?_); (case side1 => repeat (first | (with_reducible first | exact HB.out | apply below_alloc | apply pw_below_drewN | apply below_drew1) | exact HB.out)); (case side2 => exact Kd.R_tight rfl HO_5.out); rintro e w28 ⟨v250, rfl, ho0, hb, hkp⟩; have HO251 := Aside0.mk (Kd.R_mono (ok' := fun k_ => True) ho0 (fun k_ hk_ => trivial)); replace HB := Aside0.mk (hb); clear HO_5; (try clear hb); (try clear hkp); (try clear ho0))))
   go_ret
   exact ⟨_, by first | rfl | (simp [errW_none, errW_some] <;> rfl) | (simp only [← hji3]; first | rfl | (simp [errW_none, errW_some] <;> rfl)) | (simp [*, errW_none, errW_some] <;> rfl), uR HO251.out, uB⟩
end Go.Proofs.Ytgeanpnkllnipaa.F
end
section
namespace Go.Proofs.Ytgeanpnkllnipaa.F
open Go.RowKit Go.Proofs.YtgeanpnkllnipaaW.PrintWords Go.Proofs.YtgeanpnkllnipaaW.PrintLast Go.Proofs.YtgeanpnkllnipaaW.PrintMore
attribute [local go_sem] max2_int min2_int max_two min_two max_three min_three max_four min_four
set_option linter.unusedVariables false
set_option linter.unusedSimpArgs false
def windbreakref01_Mul.j0 : Nat → List Int → List Int → Bool → Option (List Int × Int)
 | 0, _, _, _ => none
 | k + 1, x0, x1, x17 => if x17 = true then (some (([] : List Int), 1)) else ((windbreakref01_In.f k x0).bind fun t581 => ((windbreakref01_In.f k x1).bind fun t584 => ((windbreakref01_mul.f k t581 t584).bind fun t587 => ((windbreakref01_told.f k t587).bind fun bt590 => (some (bt590.1, bt590.2))))))
def windbreakref01_Mul.f (k : Nat) (l0 : List Int) (l1 : List Int) : Option (List Int × Int) := (windbreakref01_Right.f l0).bind fun t579 => ((windbreakref01_Right.f l1).bind fun t580 => (if t579 = true then (windbreakref01_Mul.j0 k l0 l1 (!t580)) else (windbreakref01_Mul.j0 k l0 l1 true)))
set_option maxHeartbeats 8000000 in
set_option maxRecDepth 100000 in
theorem windbreakref01_Mul.calls (k : Nat) (A0 : Option Addr) (c0 : Nat) (l0 : List Int) (A1 : Option Addr) (c1 : Nat) (l1 : List Int) (r1 : List Int) (r2 : Int) (w : World) (hr0 : Kd.C (Kd.int .u64) w A0 l0.length l0) (hc0 : l0.length ≤ c0) (hr1 : Kd.C (Kd.int .u64) w A1 l1.length l1) (hc1 : l1.length ≤ c1) (h : windbreakref01_Mul.f k l0 l1 = some (r1, r2)) :
  Calls Try.prog 67 #[.slice A0 l0.length c0, .slice A1 l1.length c1] w fun e w' => ∃ v0_ : Value, e = .returned (.tuple #[v0_, .int .i64 r2]) ∧ Kd.R (Kd.int .u64) 47 w' w.heap.size (fun _ => True) v0_ r1 ∧ Below w.heap.size w w' := by
 have HR0 := Aside0.mk hr0; have HC0 := Aside0.mk hc0; clear hr0 hc0; have HR1 := Aside0.mk hr1; have HC1 := Aside0.mk hc1; clear hr1 hc1
 have HB := Aside0.mk (Below.refl w.heap.size w)
 have H : ((windbreakref01_Right.f l0).bind fun t579 => ((windbreakref01_Right.f l1).bind fun t580 => (if t579 = true then (windbreakref01_Mul.j0 k l0 l1 (!t580)) else (windbreakref01_Mul.j0 k l0 l1 true)))) = some (r1, r2) := h
 clear h
 replace H := ub H; obtain ⟨t579, A3, H⟩ := H
 replace H := ub H; obtain ⟨t580, A4, H⟩ := H
 have HC5 := Aside0.mk H; clear H
 go_enter Try.func67, Try.ntmps67
 go_upto_region 3 with (first | ((with_reducible refine gate_callee (f := 46) rfl ?_); refine goesL_ (some 9) rfl rfl Try.func46 (by kernel_rfl) rfl #[.slice A0 l0.length c0] rfl uM ?_; (with_reducible refine (windbreakref01_Right.calls _ _ l0 t579 _ ?side1 ?side2 A3.out).mono ?_); (case side1 => exact uC HR0.out); (case side2 => exact HC0.out); rintro e w' ⟨rfl, ⟨nd, rfl⟩⟩; refine ⟨_, rfl, ?_⟩) | ((with_reducible refine gate_callee (f := 46) rfl ?_); refine goesL_ (some 11) rfl rfl Try.func46 (by kernel_rfl) rfl #[.slice A1 l1.length c1] rfl uM ?_; (with_reducible refine (windbreakref01_Right.calls _ _ l1 t580 _ ?side1 ?side2 A4.out).mono ?_); (case side1 => exact uC HR1.out); (case side2 => exact HC1.out); rintro e w' ⟨rfl, ⟨nd, rfl⟩⟩; refine ⟨_, rfl, ?_⟩))
 (try simp only [Act.put, List.setIfInBounds_toArray, List.set_cons_zero, List.set_cons_succ])
 go_cut [17] (fun v17 wc => ∃ (kq : Nat) (x17_4 : Bool), v17 = .bool x17_4 ∧ Aside0 (windbreakref01_Mul.j0 kq l0 l1 x17_4 = some (r1, r2)) ∧ Aside0 (kq ≤ k) ∧ Aside0 (Below w.heap.size w wc))
 case first =>
  have H := HC5.out
  clear HC5
  by_cases c6 : t579 = true
  ·
   subst c6
   have H1 : (windbreakref01_Mul.j0 k l0 l1 (!t580)) = some (r1, r2) := by rw [if_pos rfl] at H; exact H
   clear H; have H := H1; clear H1
   have H' := Aside0.mk H
   clear H
   go_wp2
   go_meet
   case rel => exact ⟨_, (!t580), uG, H', ⟨uW⟩, ⟨uB⟩⟩
  replace c6 := Bool.eq_false_iff.mpr c6
  subst c6
  have H1 : (windbreakref01_Mul.j0 k l0 l1 true) = some (r1, r2) := by rw [if_neg (show ¬ (false = true) by decide)] at H; exact H
  clear H; have H := H1; clear H1
  have H' := Aside0.mk H
  clear H
  go_wp2
  go_meet
  case rel => exact ⟨_, (true), uG, H', ⟨uW⟩, ⟨uB⟩⟩
 case rest =>
  clear HC5; (try clear c1); (try clear p2); (try clear c4); (try clear c6)
  obtain ⟨kq, x17_4, rfl, HA, HJ4, HB⟩ := hcut
  cases kq with
  | zero => exact absurd HA.out (by simp [windbreakref01_Mul.j0])
  | succ kj4 =>
   have H := HA.out
   clear HA
   simp only [windbreakref01_Mul.j0] at H
   by_cases c7 : x17_4 = true
   ·
    subst c7
    have H1 : (some (([] : List Int), 1)) = some (r1, r2) := by rw [if_pos rfl] at H; exact H
    clear H; have H := H1; clear H1
    simp only [Option.some.injEq, Prod.mk.injEq] at H
    obtain ⟨rfl, rfl⟩ := H
    go_wp2
    go_ret2
    exact ⟨_, uF, uI, uB⟩
   replace c7 := Bool.eq_false_iff.mpr c7
   subst c7
   have H1 : ((windbreakref01_In.f kj4 l0).bind fun t581 => ((windbreakref01_In.f kj4 l1).bind fun t584 => ((windbreakref01_mul.f kj4 t581 t584).bind fun t587 => ((windbreakref01_told.f kj4 t587).bind fun bt590 => (some (bt590.1, bt590.2)))))) = some (r1, r2) := by rw [if_neg (show ¬ (false = true) by decide)] at H; exact H
   clear H; have H := H1; clear H1
   replace H := ub H; obtain ⟨t581, A8, H⟩ := H
   replace H := ub H; obtain ⟨t584, A9, H⟩ := H
   replace H := ub H; obtain ⟨t587, A10, H⟩ := H
   replace H := ub H; obtain ⟨⟨t590, t591⟩, A11, H⟩ := H
   (try dsimp only at H)
   simp only [Option.some.injEq, Prod.mk.injEq] at H
   obtain ⟨rfl, rfl⟩ := H
   go_wp2_with (first | ((with_reducible refine gate_callee (f := 79) rfl ?_); refine goesL_ (some 19) rfl rfl Try.func79 (by kernel_rfl) rfl #[.slice A0 l0.length c0] rfl uM ?_; (with_reducible refine (windbreakref01_In.calls kj4 _ _ l0 t581 _ ?side1 ?side2 A8.out).mono ?_); (case side1 => exact uC (Kd.C_below HR0.out HB.out)); (case side2 => exact HC0.out); rintro e w12 ⟨v582, rfl, ho0, hb⟩; refine ⟨_, rfl, ?_⟩; have HO583 := Aside0.mk (Kd.R_lower ho0 (below_size uB)); replace HB := uy hb; (try clear hb ho0)) | ((with_reducible refine gate_callee (f := 79) rfl ?_); refine goesL_ (some 21) rfl rfl Try.func79 (by kernel_rfl) rfl #[.slice A1 l1.length c1] rfl uM ?_; (with_reducible refine (windbreakref01_In.calls kj4 _ _ l1 t584 _ ?side1 ?side2 A9.out).mono ?_); (case side1 => exact uC (Kd.C_below HR1.out HB.out)); (case side2 => exact HC1.out); rintro e w13 ⟨v585, rfl, ho0, hb⟩; refine ⟨_, rfl, ?_⟩; have HO586 := Aside0.mk (Kd.R_lower (Kd.R_new' ho0 (Kd.R_lt (uR HO583.out))) (below_size uB)); replace HO583 := ueR HO583 ho0 hb; replace HB := uy hb; (try clear hb ho0); obtain ⟨Ao14, co14, eo14⟩ := Kd.R_slice HO583.out; subst eo14; obtain ⟨Ao15, co15, eo15⟩ := Kd.R_slice HO586.out; subst eo15) | ((with_reducible refine gate_callee (f := 86) rfl ?_); refine goesL_ (some 22) rfl rfl Try.func86 (by kernel_rfl) rfl #[.slice Ao14 t581.length co14, .slice Ao15 t584.length co15] rfl uM ?_; (with_reducible refine (windbreakref01_mul.calls kj4 _ _ t581 _ _ t584 t587 _ ?side1 ?side2 ?side3 ?side4 A10.out).mono ?_); (case side1 => exact uC (Kd.R_reads' HO583.out).2.2); (case side2 => exact (Kd.R_reads' HO583.out).2.1); (case side3 => exact uC (Kd.R_reads' HO586.out).2.2); (case side4 => exact (Kd.R_reads' HO586.out).2.1); rintro e w16 ⟨v588, rfl, ho0, hb⟩; refine ⟨_, rfl, ?_⟩; have HO589 := Aside0.mk (Kd.R_lower (Kd.R_new' (Kd.R_new' ho0 (Kd.R_lt (uR HO583.out))) (Kd.R_lt (uR HO586.out))) (below_size uB)); replace HO583 := ueR HO583 ho0 hb; replace HO586 := ueR HO586 ho0 hb; replace HB := uy hb; (try clear hb ho0); obtain ⟨Ao17, co17, eo17⟩ := Kd.R_slice HO589.out; subst eo17) | ((with_reducible refine gate_callee (f := 81) rfl ?_); refine goesL_ (some 23) rfl rfl Try.func81 (by kernel_rfl) rfl #[.slice Ao17 t587.length co17] rfl uM ?_; (with_reducible refine (windbreakref01_told.calls kj4 _ _ t587 t590 t591 _ ?side1 ?side2 A11.out).mono ?_); (case side1 => exact uC (Kd.R_reads' HO589.out).2.2); (case side2 => exact (Kd.R_reads' HO589.out).2.1); rintro e w18 ⟨v592, rfl, ho0, hb⟩; refine ⟨_, rfl, ?_⟩; have HO593 := Aside0.mk (Kd.R_lower (Kd.R_new' (Kd.R_new' (Kd.R_new' ho0 (Kd.R_lt (uR HO583.out))) (Kd.R_lt (uR HO586.out))) (Kd.R_lt (uR HO589.out))) (below_size uB)); replace HO583 := ueR HO583 ho0 hb; replace HO586 := ueR HO586 ho0 hb; replace HO589 := ueR HO589 ho0 hb; replace HB := uy hb; (try clear hb ho0)))
   go_ret2
   exact ⟨_, uF, by (with_reducible repeat (first | apply Kd.R_alloc | apply Kd.R_drewN | apply Kd.R_drew)); exact Kd.R_mono HO593.out (fun _ hk => trivial), uB⟩
end Go.Proofs.Ytgeanpnkllnipaa.F
end
section
namespace Go.Proofs.Ytgeanpnkllnipaa.F
open Go.RowKit Go.Proofs.YtgeanpnkllnipaaW.PrintWords Go.Proofs.YtgeanpnkllnipaaW.PrintLast Go.Proofs.YtgeanpnkllnipaaW.PrintMore
attribute [local go_sem] max2_int min2_int max_two min_two max_three min_three max_four min_four
set_option linter.unusedVariables false
set_option linter.unusedSimpArgs false
mutual
def windbreakref01_div.l0 : Nat → List Int → List Int → List Int → List Int → Int → Option (List Int × List Int)
 | 0, _, _, _, _, _ => none
 | k + 1, x0, x1, x6, x7, x8 => if x8 ≥ 0 then (if 0 ≤ x8 then (if x8 < (x0.length : Int) then ((some (([rd x0 x8] : List Int) : List Int)).bind fun y264 => (if y264.length + x7.length < 17592186044416 then ((windbreakref01_cut.f k (y264 ++ x7)).bind fun t270 => (windbreakref01_div.l1 k x0 x1 x6 t270 x8 0 65535)) else (none))) else (none)) else (none)) else ((windbreakref01_cut.f k x6).bind fun t260 => (some (t260, x7)))
def windbreakref01_div.l1 : Nat → List Int → List Int → List Int → List Int → Int → Int → Int → Option (List Int × List Int)
 | 0, _, _, _, _, _, _, _ => none
 | k + 1, x0, x1, x6, x7, x8, x9, x10 => if x9 < x10 then ((windbreakref01_mul.f k x1 (([IntKind.u64.wrap (Int.tdiv (IntKind.u64.wrap ((IntKind.u64.wrap (x9 + x10)) + 1)) 2)] : List Int))).bind fun t286 => ((windbreakref01_compare.f k t286 x7).bind fun t289 => (if t289 ≤ 0 then (windbreakref01_div.l1 k x0 x1 x6 x7 x8 (IntKind.u64.wrap (Int.tdiv (IntKind.u64.wrap ((IntKind.u64.wrap (x9 + x10)) + 1)) 2)) x10) else (windbreakref01_div.l1 k x0 x1 x6 x7 x8 x9 (IntKind.u64.wrap ((IntKind.u64.wrap (Int.tdiv (IntKind.u64.wrap ((IntKind.u64.wrap (x9 + x10)) + 1)) 2)) - 1)))))) else (if 0 ≤ x8 then (if x8 < (x6.length : Int) then ((windbreakref01_mul.f k x1 (([x9] : List Int))).bind fun t277 => ((windbreakref01_sub.f k x7 t277).bind fun t280 => (windbreakref01_div.l0 k x0 x1 (x6.set (x8 : Int).toNat x9) t280 (wrap64 (x8 - 1))))) else (none)) else (none))
end
def windbreakref01_div.f (k : Nat) (l0 : List Int) (l1 : List Int) : Option (List Int × List Int) := if 0 ≤ (l0.length : Int) then (if ((l0.length : Int) : Int).toNat ≤ 35184372088832 then (windbreakref01_div.l0 k l0 l1 (List.replicate ((l0.length : Int) : Int).toNat 0) ([] : List Int) (wrap64 ((l0.length : Int) - 1))) else (none)) else (none)
set_option maxHeartbeats 8000000 in
set_option maxRecDepth 100000 in
theorem windbreakref01_div.calls (k : Nat) (A0 : Option Addr) (c0 : Nat) (l0 : List Int) (A1 : Option Addr) (c1 : Nat) (l1 : List Int) (r1 : List Int) (r2 : List Int) (w : World) (hr0 : Kd.C (Kd.int .u64) w A0 l0.length l0) (hc0 : l0.length ≤ c0) (hr1 : Kd.C (Kd.int .u64) w A1 l1.length l1) (hc1 : l1.length ≤ c1) (h : windbreakref01_div.f k l0 l1 = some (r1, r2)) :
  Calls Try.prog 84 #[.slice A0 l0.length c0, .slice A1 l1.length c1] w fun e w' => ∃ v0_ v1_ : Value, e = .returned (.tuple #[v0_, v1_]) ∧ Kd.R (Kd.int .u64) 47 w' w.heap.size (fun k_ => some k_ ≠ (v1_ : Value).ownBlock) v0_ r1 ∧ Kd.R (Kd.int .u64) 47 w' w.heap.size (fun k_ => some k_ ≠ (v0_ : Value).ownBlock) v1_ r2 ∧ Below w.heap.size w w' := by
 have HR0 := Aside0.mk hr0; have HC0 := Aside0.mk hc0; clear hr0 hc0; have HR1 := Aside0.mk hr1; have HC1 := Aside0.mk hc1; clear hr1 hc1
 have HB := Aside0.mk (Below.refl w.heap.size w)
 have H : (if 0 ≤ (l0.length : Int) then (if ((l0.length : Int) : Int).toNat ≤ 35184372088832 then (windbreakref01_div.l0 k l0 l1 (List.replicate ((l0.length : Int) : Int).toNat 0) ([] : List Int) (wrap64 ((l0.length : Int) - 1))) else (none)) else (none)) = some (r1, r2) := h
 clear h
 replace H := uT H; obtain ⟨c3, H⟩ := H
 have c3b0 := eq_true c3
 have c3b1 : decide (0 ≤ (l0.length : Int)) = true := decide_eq_true c3
 clear c3
 replace H := uT H; obtain ⟨c4, H⟩ := H
 have c4b0 := eq_true c4
 have c4b1 : decide (((l0.length : Int) : Int).toNat ≤ 35184372088832) = true := decide_eq_true c4
 clear c4
 obtain ⟨y257, hy257⟩ : ∃ y_ : List Int, y_ = (List.replicate ((l0.length : Int) : Int).toNat 0) := ⟨_, rfl⟩
 replace H : (windbreakref01_div.l0 k l0 l1 y257 ([] : List Int) (wrap64 ((l0.length : Int) - 1))) = some (r1, r2) := by first | (rw [hy257]; with_reducible exact H) | (have H2_ := (Option.bind_some _ _).symm.trans H; rw [hy257]; with_reducible exact H2_) | (have H2_ := (Option.bind_some _ _).symm.trans H; with_reducible exact H2_) | with_reducible exact H | (rw [hy257]; exact H) | exact H
 have Ny257 := Aside0.mk hy257; clear hy257
 have H' := Aside0.mk H
 clear H
 go_enter Try.func84, Try.ntmps84
 go_wp2_with (first | ((with_reducible refine gate_dst (N := 14) rfl ?_); refine Kd.R_make (Kd.int .u64) _ 47 rfl (N := 14) rfl 124 _ _ rfl (l0.length : Int) rfl rfl Try.underlying124 (.int .u64 0) 8 info47 rfl (by decide) (by omega) 0 (ok := fun _ => True) (okp := fun _ => True) rfl (fun _ hk => hk) trivial uO (Nat.le_trans (Nat.mul_le_mul_right _ (uO : (l0.length : Int).toNat ≤ 35184372088832)) (by omega)) (Below.refl _ _) (Nat.le_refl _) ?_; intro v258 w5 ho6 hb hg_ hnew_; clear hg_ hnew_; (first | rw [← Ny257.out] at ho6 | (simp only [Int.reduceToNat] at ho6; rw [← Ny257.out] at ho6)); have HO259 := Aside0.mk (Kd.R_lower ho6 (below_size uB)); replace HB := uy hb; clear hb ho6))
 go_loopg [7, 8] k (fun kq v7 v8 w' => ∃ (x6_1 : List Int) (x7_1 : List Int) (x8_1 : Int), v8 = .int .i64 x8_1 ∧ Aside0 (windbreakref01_div.l0 kq l0 l1 x6_1 x7_1 x8_1 = some (r1, r2)) ∧ Aside0 (kq ≤ k) ∧ Aside0 (Kd.R (Kd.int .u64) 47 w' w.heap.size (fun k_ => some k_ ≠ (v7 : Value).ownBlock) v258 x6_1) ∧ Aside0 (Kd.R (Kd.int .u64) 47 w' w.heap.size (fun k_ => some k_ ≠ (v258 : Value).ownBlock) v7 x7_1) ∧ Aside0 (Below w.heap.size w w'))
 case atStart => exact ⟨(y257), (([] : List Int)), (wrap64 ((l0.length : Int) - 1)), uG, H', ⟨Nat.le_refl _⟩, ⟨by (with_reducible repeat (first | apply Kd.R_alloc | apply Kd.R_drewN | apply Kd.R_drew)); exact Kd.R_mono HO259.out (fun _ hk => (by simp [Value.ownBlock]))⟩, ⟨uI⟩, ⟨uB⟩⟩
 case round =>
  clear H'
  (try clear c1); (try clear p2); (try clear c3); (try clear c3b0); (try clear c3b1); (try clear c4); (try clear c4b0); (try clear c4b1); (try clear p6)
  obtain ⟨x6_1, x7_1, x8_1, rfl, HA, HK1, HO_6, HO_7, HB⟩ := hrel
  cases gk with
  | zero => exact absurd HA.out (by simp [windbreakref01_div.l0])
  | succ k1 =>
   have H := HA.out
   clear HA
   simp only [windbreakref01_div.l0] at H
   by_cases c7 : x8_1 ≥ 0
   ·
    rw [if_pos c7] at H
    have c7b0 : decide (0 ≤ x8_1) = true := decide_eq_true c7
    clear c7
    replace H := uT H; obtain ⟨c8, H⟩ := H
    have c8b0 : decide (0 ≤ x8_1) = true := decide_eq_true c8
    clear c8
    replace H := uT H; obtain ⟨c9, H⟩ := H
    have c9b0 : decide (x8_1 < (l0.length : Int)) = true := decide_eq_true c9
    clear c9
    obtain ⟨y264, hy264⟩ : ∃ y_ : List Int, y_ = (([rd l0 x8_1] : List Int)) := ⟨_, rfl⟩
    replace H : (if y264.length + x7_1.length < 17592186044416 then ((windbreakref01_cut.f k1 (y264 ++ x7_1)).bind fun t270 => (windbreakref01_div.l1 k1 l0 l1 x6_1 t270 x8_1 0 65535)) else (none)) = some (r1, r2) := by first | (rw [hy264]; with_reducible exact H) | (have H2_ := (Option.bind_some _ _).symm.trans H; rw [hy264]; with_reducible exact H2_) | (have H2_ := (Option.bind_some _ _).symm.trans H; with_reducible exact H2_) | with_reducible exact H | (rw [hy264]; exact H) | exact H
    have Ny264 := Aside0.mk hy264; clear hy264
    replace H := uT H; obtain ⟨c10, H⟩ := H
    have LMc10 := Aside0.mk c10; clear c10
    obtain ⟨y267, hy267⟩ : ∃ y_ : List Int, y_ = (y264 ++ x7_1) := ⟨_, rfl⟩
    replace H : ((windbreakref01_cut.f k1 y267).bind fun t270 => (windbreakref01_div.l1 k1 l0 l1 x6_1 t270 x8_1 0 65535)) = some (r1, r2) := by first | (rw [hy267]; with_reducible exact H) | (have H2_ := (Option.bind_some _ _).symm.trans H; rw [hy267]; with_reducible exact H2_) | (have H2_ := (Option.bind_some _ _).symm.trans H; with_reducible exact H2_) | with_reducible exact H | (rw [hy267]; exact H) | exact H
    have Ny267 := Aside0.mk hy267; clear hy267
    replace H := ub H; obtain ⟨t270, A11, H⟩ := H
    have H' := Aside0.mk H
    clear H
    have p263 : 0 ≤ (x8_1 : Int) := uO
    have q263 : x8_1 < (l0.length : Int) := uO
    obtain ⟨ad263, e263, hx263_0⟩ := Kd.at_int HR0.out x8_1 p263 q263
    cases e263
    replace hx263_0 := (HB.out.cell (World.block_lt_of_cell? w _ hx263_0)).trans hx263_0
    replace p263 := eq_true p263
    replace q263 := eq_true q263
    go_wp2_with (first | ((with_reducible refine gate_dst (N := 26) rfl ?_); refine Kd.R_lit (Kd.int .u64) _ 47 ?hg (N := 26) ?hd (xs := ([rd l0 x8_1] : List Int)) (inner := [.int .u64 (rd l0 x8_1)]) (ok := fun _ => True) (okp := fun _ => True) ?hr ?hp (fun _ hk => hk) trivial (Below.refl _ _) (Nat.le_refl _) (by simp) ?_; (case hd => rfl); (case hg => rfl); (case hr => first | (go_simp; done) | (go_simp; rfl) | (go_simp; simp only [u64_u8]; done) | (go_simp; simp only [u64_u8]; rfl)); (case hp => exact (Reps.one (show Kd.M (Kd.int .u64) _ _ _ (rd l0 x8_1) [.int .u64 (rd l0 x8_1)] from rfl) (Reps.none _ _))); intro v265 w12 ho13 hb hg_ hnew_; clear hg_ hnew_; (first | rw [← Ny264.out] at ho13 | (simp only [Int.reduceToNat] at ho13; rw [← Ny264.out] at ho13)); have HO266 := Aside0.mk (Kd.R_lower (Kd.R_new' (Kd.R_new' ho13 (Kd.R_lt (uR HO_6.out))) (Kd.R_lt (uR HO_7.out))) (below_size uB)); replace HO_6 := ueR HO_6 ho13 hb; replace HO_7 := ueR HO_7 ho13 hb; replace HB := uy hb; clear hb ho13; obtain ⟨Ao15, co15, eo15⟩ := Kd.R_slice HO_7.out; subst eo15) | ((with_reducible refine gate_builtin (b := .append) (xs := #[.tmp 26, .tmp 27]) rfl ?_); at_builtin; refine Kd.R_append_rows (Kd.int .u64) (w0 := w) w.heap.size rfl (.tmp 26) (.tmp 27) 124 47 (.int .u64 0) 8 rfl Try.underlying124 info47 rfl (by decide) (by omega) v265 y264 x7_1 _ _ _ (fun k_ => some k_ ≠ (v258 : Value).ownBlock ∧ some k_ ≠ (.slice Ao15 x7_1.length co15 : Value).ownBlock) (fun _ => False) rfl rfl ?aO ?aR (fun _ _ h => h) (fun _ h => h.elim) ?aF ?aB ?aS ?aL ?_; (case aR => exact uC (Kd.R_reads' HO_7.out).2.2); (case aB => exact uB); (case aF => exact (fun k_ hk => ⟨Kd.fresh' (Kd.R_lt (uR HO_6.out)) k_ hk, Kd.fresh' (Kd.R_lt (uR HO_7.out)) k_ hk⟩)); (case aO => exact (uR (Kd.R_mono HO266.out (fun _ hk => ⟨hk.1.2, hk.2⟩)))); (case aS => exact (below_size uB)); (case aL => have := LMc10.out; omega); intro v268 w14 ho hb hg hat; rw [← Ny267.out] at ho; replace HO_6 := Aside0.mk (Kd.R_after (ok := (fun k_ => some k_ ≠ (.slice Ao15 x7_1.length co15 : Value).ownBlock)) (uR HO_6.out) hg hat); replace HO_7 := Aside0.mk (Kd.R_after (ok := (fun k_ => some k_ ≠ (v258 : Value).ownBlock)) (uR HO_7.out) hg hat); replace HB := Aside0.mk (hb); have HO269 := Aside0.mk (ho); clear HO266; clear ho hb hg hat; obtain ⟨Ao16, co16, eo16⟩ := Kd.R_slice HO269.out; subst eo16) | ((with_reducible refine gate_callee (f := 83) rfl ?_); refine goesL_ (some 29) rfl rfl Try.func83 (by kernel_rfl) rfl #[.slice Ao16 y267.length co16] rfl uM ?_; (with_reducible refine (windbreakref01_cut.calls k1 (fun k_ => some k_ = (.slice Ao16 y267.length co16 : Value).ownBlock) (.slice Ao16 y267.length co16) y267 t270 w _ ?side1 ?side2 A11.out).mono ?_); (case side1 => repeat (first | (with_reducible first | exact HB.out | apply below_alloc | apply pw_below_drewN | apply below_drew1) | exact HB.out)); (case side2 => exact Kd.R_tight rfl HO269.out); rintro e w17 ⟨v271, rfl, ho0, hb, hkp⟩; refine ⟨_, rfl, ?_⟩; have HO272 := Aside0.mk (Kd.R_mono (ok' := fun k_ => some k_ ≠ (v258 : Value).ownBlock ∧ some k_ ≠ (.slice Ao15 x7_1.length co15 : Value).ownBlock) ho0 (fun k_ hk_ => ⟨Or.elim hk_ (fun hs_ => fun e_ => (((HO_6.out).1 k_ e_.symm).2) hs_) (fun hn_ => (Kd.fresh' (Kd.R_lt (uR HO_6.out)) k_ hn_)), Or.elim hk_ (fun hs_ => fun e_ => (((HO_7.out).1 k_ e_.symm).2) hs_) (fun hn_ => (Kd.fresh' (Kd.R_lt (uR HO_7.out)) k_ hn_))⟩)); replace HO_6 := Aside0.mk (Kd.R_mono (ok' := fun k_ => some k_ ≠ (.slice Ao15 x7_1.length co15 : Value).ownBlock ∧ some k_ ≠ (v271 : Value).ownBlock) (Kd.R_keptB (HO_6.out) hkp (fun k_ hk_ hs_ => (hk_.2) hs_)) (fun k_ hk_ => ⟨hk_.1.1, fun e_ => Or.elim (ho0.1 k_ e_.symm) (fun hs_ => hk_.2.1 hs_) (fun hn_ => Nat.not_le.2 hk_.2.2 hn_)⟩)); replace HO_7 := Aside0.mk (Kd.R_mono (ok' := fun k_ => some k_ ≠ (v258 : Value).ownBlock ∧ some k_ ≠ (v271 : Value).ownBlock) (Kd.R_keptB (HO_7.out) hkp (fun k_ hk_ hs_ => (hk_.2) hs_)) (fun k_ hk_ => ⟨hk_.1.1, fun e_ => Or.elim (ho0.1 k_ e_.symm) (fun hs_ => hk_.2.1 hs_) (fun hn_ => Nat.not_le.2 hk_.2.2 hn_)⟩)); replace HB := Aside0.mk (hb); clear HO269; (try clear hb); (try clear hkp); (try clear ho0)))
    go_loopg [9, 10] k1 (fun kq v9 v10 w' => ∃ (x9_2 : Int) (x10_2 : Int), v9 = .int .u64 x9_2 ∧ v10 = .int .u64 x10_2 ∧ Aside0 (windbreakref01_div.l1 kq l0 l1 x6_1 t270 x8_1 x9_2 x10_2 = some (r1, r2)) ∧ Aside0 (kq ≤ k1) ∧ Aside0 (Kd.R (Kd.int .u64) 47 w' w.heap.size (fun k_ => some k_ ≠ (v271 : Value).ownBlock) v258 x6_1) ∧ Aside0 (Kd.R (Kd.int .u64) 47 w' w.heap.size (fun k_ => some k_ ≠ (v258 : Value).ownBlock) v271 t270) ∧ Aside0 (Below w.heap.size w w'))
    case atStart => exact ⟨(0), (65535), uG, uG, H', ⟨Nat.le_refl _⟩, ⟨by (with_reducible repeat (first | apply Kd.R_alloc | apply Kd.R_drewN | apply Kd.R_drew)); exact Kd.R_mono HO_6.out (fun _ hk => hk.2)⟩, ⟨by (with_reducible repeat (first | apply Kd.R_alloc | apply Kd.R_drewN | apply Kd.R_drew)); exact Kd.R_mono HO272.out (fun _ hk => hk.1)⟩, ⟨uB⟩⟩
    case round =>
     clear H'
     (try clear c1); (try clear p2 p2); (try clear q2); (try clear hx2); (try clear c3); (try clear c3b0); (try clear c3b1); (try clear c4); (try clear c4b0); (try clear c4b1); (try clear p6 p6); (try clear c7); (try clear c7b0); (try clear c8); (try clear c8b0); (try clear c9); (try clear c9b0); (try clear c10); (try clear hx263_0); (try clear p263); (try clear q263)
     obtain ⟨x9_2, x10_2, rfl, rfl, HA, HK2, HO_6, HO_7, HB⟩ := hrel
     cases gk with
     | zero => exact absurd HA.out (by simp [windbreakref01_div.l1])
     | succ k2 =>
      have H := HA.out
      clear HA
      simp only [windbreakref01_div.l1] at H
      by_cases c18 : x9_2 < x10_2
      ·
       rw [if_pos c18] at H
       have c18b0 : decide (x9_2 < x10_2) = true := decide_eq_true c18
       clear c18
       obtain ⟨y283, hy283⟩ : ∃ y_ : List Int, y_ = (([IntKind.u64.wrap (Int.tdiv (IntKind.u64.wrap ((IntKind.u64.wrap (x9_2 + x10_2)) + 1)) 2)] : List Int)) := ⟨_, rfl⟩
       replace H : ((windbreakref01_mul.f k2 l1 y283).bind fun t286 => ((windbreakref01_compare.f k2 t286 t270).bind fun t289 => (if t289 ≤ 0 then (windbreakref01_div.l1 k2 l0 l1 x6_1 t270 x8_1 (IntKind.u64.wrap (Int.tdiv (IntKind.u64.wrap ((IntKind.u64.wrap (x9_2 + x10_2)) + 1)) 2)) x10_2) else (windbreakref01_div.l1 k2 l0 l1 x6_1 t270 x8_1 x9_2 (IntKind.u64.wrap ((IntKind.u64.wrap (Int.tdiv (IntKind.u64.wrap ((IntKind.u64.wrap (x9_2 + x10_2)) + 1)) 2)) - 1)))))) = some (r1, r2) := by first | (rw [hy283]; with_reducible exact H) | (have H2_ := (Option.bind_some _ _).symm.trans H; rw [hy283]; with_reducible exact H2_) | (have H2_ := (Option.bind_some _ _).symm.trans H; with_reducible exact H2_) | with_reducible exact H | (rw [hy283]; exact H) | exact H
       have Ny283 := Aside0.mk hy283; clear hy283
       replace H := ub H; obtain ⟨t286, A19, H⟩ := H
       replace H := ub H; obtain ⟨t289, A20, H⟩ := H
       by_cases c21 : t289 ≤ 0
       ·
        rw [if_pos c21] at H
        have c21b0 : decide (t289 ≤ 0) = true := decide_eq_true c21
        clear c21
        have H' := Aside0.mk H
        clear H
        go_wp2_with (first | ((with_reducible refine gate_dst (N := 40) rfl ?_); refine Kd.R_lit (Kd.int .u64) _ 47 ?hg (N := 40) ?hd (xs := ([IntKind.u64.wrap (Int.tdiv (IntKind.u64.wrap ((IntKind.u64.wrap (x9_2 + x10_2)) + 1)) 2)] : List Int)) (inner := [.int .u64 (IntKind.u64.wrap (Int.tdiv (IntKind.u64.wrap ((IntKind.u64.wrap (x9_2 + x10_2)) + 1)) 2))]) (ok := fun _ => True) (okp := fun _ => True) ?hr ?hp (fun _ hk => hk) trivial (Below.refl _ _) (Nat.le_refl _) (by simp) ?_; (case hd => rfl); (case hg => rfl); (case hr => first | (go_simp; done) | (go_simp; rfl) | (go_simp; simp only [u64_u8]; done) | (go_simp; simp only [u64_u8]; rfl)); (case hp => exact (Reps.one (show Kd.M (Kd.int .u64) _ _ _ (IntKind.u64.wrap (Int.tdiv (IntKind.u64.wrap ((IntKind.u64.wrap (x9_2 + x10_2)) + 1)) 2)) [.int .u64 (IntKind.u64.wrap (Int.tdiv (IntKind.u64.wrap ((IntKind.u64.wrap (x9_2 + x10_2)) + 1)) 2))] from rfl) (Reps.none _ _))); intro v284 w22 ho23 hb hg_ hnew_; clear hg_ hnew_; (first | rw [← Ny283.out] at ho23 | (simp only [Int.reduceToNat] at ho23; rw [← Ny283.out] at ho23)); have HO285 := Aside0.mk (Kd.R_lower (Kd.R_new' (Kd.R_new' ho23 (Kd.R_lt (uR HO_6.out))) (Kd.R_lt (uR HO_7.out))) (below_size uB)); replace HO_6 := ueR HO_6 ho23 hb; replace HO_7 := ueR HO_7 ho23 hb; replace HB := uy hb; clear hb ho23; obtain ⟨Ao24, co24, eo24⟩ := Kd.R_slice HO285.out; subst eo24) | ((with_reducible refine gate_callee (f := 86) rfl ?_); refine goesL_ (some 41) rfl rfl Try.func86 (by kernel_rfl) rfl #[.slice A1 l1.length c1, .slice Ao24 y283.length co24] rfl uM ?_; (with_reducible refine (windbreakref01_mul.calls k2 _ _ l1 _ _ y283 t286 _ ?side1 ?side2 ?side3 ?side4 A19.out).mono ?_); (case side1 => exact uC (Kd.C_below HR1.out HB.out)); (case side2 => exact HC1.out); (case side3 => exact uC (Kd.R_reads' HO285.out).2.2); (case side4 => exact (Kd.R_reads' HO285.out).2.1); rintro e w25 ⟨v287, rfl, ho0, hb⟩; refine ⟨_, rfl, ?_⟩; have HO288 := Aside0.mk (Kd.R_lower (Kd.R_new' (Kd.R_new' (Kd.R_new' ho0 (Kd.R_lt (uR HO_6.out))) (Kd.R_lt (uR HO_7.out))) (Kd.R_lt (uR HO285.out))) (below_size uB)); replace HO_6 := ueR HO_6 ho0 hb; replace HO_7 := ueR HO_7 ho0 hb; replace HO285 := ueR HO285 ho0 hb; replace HB := uy hb; (try clear hb ho0); obtain ⟨Ao26, co26, eo26⟩ := Kd.R_slice HO288.out; subst eo26; obtain ⟨Ao27, co27, eo27⟩ := Kd.R_slice HO_7.out; subst eo27) | ((with_reducible refine gate_callee (f := 80) rfl ?_); refine goesL_ (some 43) rfl rfl Try.func80 (by kernel_rfl) rfl #[.slice Ao26 t286.length co26, .slice Ao27 t270.length co27] rfl uM ?_; (with_reducible refine (windbreakref01_compare.calls k2 _ _ t286 _ _ t270 t289 _ ?side1 ?side2 ?side3 ?side4 A20.out).mono ?_); (case side1 => exact uC (Kd.R_reads' HO288.out).2.2); (case side2 => exact (Kd.R_reads' HO288.out).2.1); (case side3 => exact uC (Kd.R_reads' HO_7.out).2.2); (case side4 => exact (Kd.R_reads' HO_7.out).2.1); rintro e w' ⟨rfl, ⟨nd, rfl⟩⟩; refine ⟨_, rfl, ?_⟩))
        go_roundg k2
        case measure => have := HK1.out; have := HK2.out; omega
        case rel => exact ⟨(IntKind.u64.wrap (Int.tdiv (IntKind.u64.wrap ((IntKind.u64.wrap (x9_2 + x10_2)) + 1)) 2)), (x10_2), uG, uG, H', ⟨by have := HK1.out; have := HK2.out; omega⟩, ⟨by (with_reducible repeat (first | apply Kd.R_alloc | apply Kd.R_drewN | apply Kd.R_drew)); exact Kd.R_mono HO_6.out (fun _ hk => hk.1.1)⟩, ⟨by (with_reducible repeat (first | apply Kd.R_alloc | apply Kd.R_drewN | apply Kd.R_drew)); exact Kd.R_mono HO_7.out (fun _ hk => hk.1.1)⟩, ⟨uB⟩⟩
       rw [if_neg c21] at H
       have c21b0 : decide (t289 ≤ 0) = false := decide_eq_false c21
       clear c21
       have H' := Aside0.mk H
       clear H
       go_wp2_with (first | ((with_reducible refine gate_dst (N := 40) rfl ?_); refine Kd.R_lit (Kd.int .u64) _ 47 ?hg (N := 40) ?hd (xs := ([IntKind.u64.wrap (Int.tdiv (IntKind.u64.wrap ((IntKind.u64.wrap (x9_2 + x10_2)) + 1)) 2)] : List Int)) (inner := [.int .u64 (IntKind.u64.wrap (Int.tdiv (IntKind.u64.wrap ((IntKind.u64.wrap (x9_2 + x10_2)) + 1)) 2))]) (ok := fun _ => True) (okp := fun _ => True) ?hr ?hp (fun _ hk => hk) trivial (Below.refl _ _) (Nat.le_refl _) (by simp) ?_; (case hd => rfl); (case hg => rfl); (case hr => first | (go_simp; done) | (go_simp; rfl) | (go_simp; simp only [u64_u8]; done) | (go_simp; simp only [u64_u8]; rfl)); (case hp => exact (Reps.one (show Kd.M (Kd.int .u64) _ _ _ (IntKind.u64.wrap (Int.tdiv (IntKind.u64.wrap ((IntKind.u64.wrap (x9_2 + x10_2)) + 1)) 2)) [.int .u64 (IntKind.u64.wrap (Int.tdiv (IntKind.u64.wrap ((IntKind.u64.wrap (x9_2 + x10_2)) + 1)) 2))] from rfl) (Reps.none _ _))); intro v284 w28 ho29 hb hg_ hnew_; clear hg_ hnew_; (first | rw [← Ny283.out] at ho29 | (simp only [Int.reduceToNat] at ho29; rw [← Ny283.out] at ho29)); have HO285 := Aside0.mk (Kd.R_lower (Kd.R_new' (Kd.R_new' ho29 (Kd.R_lt (uR HO_6.out))) (Kd.R_lt (uR HO_7.out))) (below_size uB)); replace HO_6 := ueR HO_6 ho29 hb; replace HO_7 := ueR HO_7 ho29 hb; replace HB := uy hb; clear hb ho29; obtain ⟨Ao30, co30, eo30⟩ := Kd.R_slice HO285.out; subst eo30) | ((with_reducible refine gate_callee (f := 86) rfl ?_); refine goesL_ (some 41) rfl rfl Try.func86 (by kernel_rfl) rfl #[.slice A1 l1.length c1, .slice Ao30 y283.length co30] rfl uM ?_; (with_reducible refine (windbreakref01_mul.calls k2 _ _ l1 _ _ y283 t286 _ ?side1 ?side2 ?side3 ?side4 A19.out).mono ?_); (case side1 => exact uC (Kd.C_below HR1.out HB.out)); (case side2 => exact HC1.out); (case side3 => exact uC (Kd.R_reads' HO285.out).2.2); (case side4 => exact (Kd.R_reads' HO285.out).2.1); rintro e w31 ⟨v287, rfl, ho0, hb⟩; refine ⟨_, rfl, ?_⟩; have HO288 := Aside0.mk (Kd.R_lower (Kd.R_new' (Kd.R_new' (Kd.R_new' ho0 (Kd.R_lt (uR HO_6.out))) (Kd.R_lt (uR HO_7.out))) (Kd.R_lt (uR HO285.out))) (below_size uB)); replace HO_6 := ueR HO_6 ho0 hb; replace HO_7 := ueR HO_7 ho0 hb; replace HO285 := ueR HO285 ho0 hb; replace HB := uy hb; (try clear hb ho0); obtain ⟨Ao32, co32, eo32⟩ := Kd.R_slice HO288.out; subst eo32; obtain ⟨Ao33, co33, eo33⟩ := Kd.R_slice HO_7.out; subst eo33) | ((with_reducible refine gate_callee (f := 80) rfl ?_); refine goesL_ (some 43) rfl rfl Try.func80 (by kernel_rfl) rfl #[.slice Ao32 t286.length co32, .slice Ao33 t270.length co33] rfl uM ?_; (with_reducible refine (windbreakref01_compare.calls k2 _ _ t286 _ _ t270 t289 _ ?side1 ?side2 ?side3 ?side4 A20.out).mono ?_); (case side1 => exact uC (Kd.R_reads' HO288.out).2.2); (case side2 => exact (Kd.R_reads' HO288.out).2.1); (case side3 => exact uC (Kd.R_reads' HO_7.out).2.2); (case side4 => exact (Kd.R_reads' HO_7.out).2.1); rintro e w' ⟨rfl, ⟨nd, rfl⟩⟩; refine ⟨_, rfl, ?_⟩))
       go_roundg k2
       case measure => have := HK1.out; have := HK2.out; omega
       case rel => exact ⟨(x9_2), (IntKind.u64.wrap ((IntKind.u64.wrap (Int.tdiv (IntKind.u64.wrap ((IntKind.u64.wrap (x9_2 + x10_2)) + 1)) 2)) - 1)), uG, uG, H', ⟨by have := HK1.out; have := HK2.out; omega⟩, ⟨by (with_reducible repeat (first | apply Kd.R_alloc | apply Kd.R_drewN | apply Kd.R_drew)); exact Kd.R_mono HO_6.out (fun _ hk => hk.1.1)⟩, ⟨by (with_reducible repeat (first | apply Kd.R_alloc | apply Kd.R_drewN | apply Kd.R_drew)); exact Kd.R_mono HO_7.out (fun _ hk => hk.1.1)⟩, ⟨uB⟩⟩
      rw [if_neg c18] at H
      have c18b0 : decide (x9_2 < x10_2) = false := decide_eq_false c18
      clear c18
      replace H := uT H; obtain ⟨c34, H⟩ := H
      have c34b0 : decide (0 ≤ x8_1) = true := decide_eq_true c34
      clear c34
      replace H := uT H; obtain ⟨c35, H⟩ := H
      have c35b0 : decide (x8_1 < (x6_1.length : Int)) = true := decide_eq_true c35
      clear c35
      obtain ⟨y273, hy273⟩ : ∃ y_ : List Int, y_ = (x6_1.set (x8_1 : Int).toNat x9_2) := ⟨_, rfl⟩
      replace H : ((windbreakref01_mul.f k2 l1 (([x9_2] : List Int))).bind fun t277 => ((windbreakref01_sub.f k2 t270 t277).bind fun t280 => (windbreakref01_div.l0 k2 l0 l1 y273 t280 (wrap64 (x8_1 - 1))))) = some (r1, r2) := by first | (rw [hy273]; with_reducible exact H) | (have H2_ := (Option.bind_some _ _).symm.trans H; rw [hy273]; with_reducible exact H2_) | (have H2_ := (Option.bind_some _ _).symm.trans H; with_reducible exact H2_) | with_reducible exact H | (rw [hy273]; exact H) | exact H
      have Ny273 := Aside0.mk hy273; clear hy273
      obtain ⟨y274, hy274⟩ : ∃ y_ : List Int, y_ = (([x9_2] : List Int)) := ⟨_, rfl⟩
      replace H : ((windbreakref01_mul.f k2 l1 y274).bind fun t277 => ((windbreakref01_sub.f k2 t270 t277).bind fun t280 => (windbreakref01_div.l0 k2 l0 l1 y273 t280 (wrap64 (x8_1 - 1))))) = some (r1, r2) := by first | (rw [hy274]; with_reducible exact H) | (have H2_ := (Option.bind_some _ _).symm.trans H; rw [hy274]; with_reducible exact H2_) | (have H2_ := (Option.bind_some _ _).symm.trans H; with_reducible exact H2_) | with_reducible exact H | (rw [hy274]; exact H) | exact H
      have Ny274 := Aside0.mk hy274; clear hy274
      replace H := ub H; obtain ⟨t277, A37, H⟩ := H
      replace H := ub H; obtain ⟨t280, A38, H⟩ := H
      have H' := Aside0.mk H
      clear H
      have p36 : 0 ≤ (x8_1 : Int) := uO
      have q36 : (x8_1 : Int) < ((x6_1.length : Int) : Int) := uO
      obtain ⟨go36, co36, eo36, gb36, gl36, cl36, HG36⟩ := Kd.R_form HO_6.out (by omega)
      (first | cases eo36 | (injection eo36 with ea_ en_ ec_; (first | subst ea_ | (injection ea_ with ea_; subst ea_)); subst ec_; clear en_))
      have GB36 := Aside0.mk gb36; have GG36 := Aside0.mk HG36; clear gb36 gl36 HG36
      obtain ⟨hx36_0, hf36_0⟩ := Kd.R_celln 0 HO_6.out (x8_1 : Int) p36 q36
      replace p36 := eq_true p36
      replace q36 := eq_true q36
      have HP39 := Kd.R_putg HO_6.out (x8_1 : Int) x9_2
      go_wp2_with (first | ((with_reducible refine gate_store (t := 47) (p := 51) rfl ?_); refine store_event (t := 47) (p := 51) (v := ?vo_w40) (w1 := (wr.setCell ⟨go36, (x8_1 : Int).toNat, none⟩ (.int .u64 x9_2))) ?hg ?ho ?hn ?hr ?_; (case ho => rfl); (case hg => rfl); (case hn => rfl); (case hr => first | (go_simp; done) | (go_simp; rfl) | (obtain ⟨hy_, hz_⟩ := Kd.R_celln 0 HO_6.out (x8_1 : Int) uO uO; (try simp only [Go.IntWalk.toNatUp] at hy_ hz_); (try simp only [Int.reduceToNat, Int.toNat_zero, Int.toNat_ofNat] at hy_ hz_); first | (go_simp; done) | (go_simp; rfl))); intro w40 hw; have hg : wr.grownBy w40 (some go36) := (by rw [hw]; exact HP39.2); have hp_ : Kd.R (Kd.int .u64) 47 w40 w.heap.size (fun k_ => some k_ ≠ (v271 : Value).ownBlock) (.slice (some ⟨go36, 0, none⟩) x6_1.length co36) y273 := (by rw [hw, Ny273.out]; exact HP39.1); clear HP39; replace HO_6 := Aside0.mk (hp_); replace HO_7 := Aside0.mk (Kd.R_after (v := (.slice (some ⟨go36, 0, none⟩) x6_1.length co36)) (v1 := (.slice (some ⟨go36, 0, none⟩) x6_1.length co36)) (ok := (fun _ => True)) (uR (Kd.R_mono HO_7.out (fun _ hk => ⟨trivial, hk⟩))) hg (.inl rfl)); replace HB := Aside0.mk ((by rw [hw]; exact below_set (HB.out) GB36.out : Below w.heap.size w w40)); clear hg hw hp_) | ((with_reducible refine gate_dst (N := 55) rfl ?_); refine Kd.R_lit (Kd.int .u64) _ 47 ?hg (N := 55) ?hd (xs := ([x9_2] : List Int)) (inner := [.int .u64 x9_2]) (ok := fun _ => True) (okp := fun _ => True) ?hr ?hp (fun _ hk => hk) trivial (Below.refl _ _) (Nat.le_refl _) (by simp) ?_; (case hd => rfl); (case hg => rfl); (case hr => first | (go_simp; done) | (go_simp; rfl) | (go_simp; simp only [u64_u8]; done) | (go_simp; simp only [u64_u8]; rfl)); (case hp => exact (Reps.one (show Kd.M (Kd.int .u64) _ _ _ x9_2 [.int .u64 x9_2] from rfl) (Reps.none _ _))); intro v275 w41 ho42 hb hg_ hnew_; clear hg_ hnew_; (first | rw [← Ny274.out] at ho42 | (simp only [Int.reduceToNat] at ho42; rw [← Ny274.out] at ho42)); have HO276 := Aside0.mk (Kd.R_lower (Kd.R_new' (Kd.R_new' ho42 (Kd.R_lt (uR HO_6.out))) (Kd.R_lt (uR HO_7.out))) (below_size uB)); replace HO_6 := ueR HO_6 ho42 hb; replace HO_7 := ueR HO_7 ho42 hb; replace HB := uy hb; clear hb ho42; obtain ⟨Ao43, co43, eo43⟩ := Kd.R_slice HO276.out; subst eo43) | ((with_reducible refine gate_callee (f := 86) rfl ?_); refine goesL_ (some 56) rfl rfl Try.func86 (by kernel_rfl) rfl #[.slice A1 l1.length c1, .slice Ao43 y274.length co43] rfl uM ?_; (with_reducible refine (windbreakref01_mul.calls k2 _ _ l1 _ _ y274 t277 _ ?side1 ?side2 ?side3 ?side4 A37.out).mono ?_); (case side1 => exact uC (Kd.C_below HR1.out HB.out)); (case side2 => exact HC1.out); (case side3 => exact uC (Kd.R_reads' HO276.out).2.2); (case side4 => exact (Kd.R_reads' HO276.out).2.1); rintro e w44 ⟨v278, rfl, ho0, hb⟩; refine ⟨_, rfl, ?_⟩; have HO279 := Aside0.mk (Kd.R_lower (Kd.R_new' (Kd.R_new' (Kd.R_new' ho0 (Kd.R_lt (uR HO_6.out))) (Kd.R_lt (uR HO_7.out))) (Kd.R_lt (uR HO276.out))) (below_size uB)); replace HO_6 := ueR HO_6 ho0 hb; replace HO_7 := ueR HO_7 ho0 hb; replace HO276 := ueR HO276 ho0 hb; replace HB := uy hb; (try clear hb ho0); obtain ⟨Ao45, co45, eo45⟩ := Kd.R_slice HO_7.out; subst eo45; obtain ⟨Ao46, co46, eo46⟩ := Kd.R_slice HO279.out; subst eo46) | ((with_reducible refine gate_callee (f := 82) rfl ?_); refine goesL_ (some 57) rfl rfl Try.func82 (by kernel_rfl) rfl #[.slice Ao45 t270.length co45, .slice Ao46 t277.length co46] rfl uM ?_; (with_reducible refine (windbreakref01_sub.calls k2 _ _ t270 _ _ t277 t280 _ ?side1 ?side2 ?side3 ?side4 A38.out).mono ?_); (case side1 => exact uC (Kd.R_reads' HO_7.out).2.2); (case side2 => exact (Kd.R_reads' HO_7.out).2.1); (case side3 => exact uC (Kd.R_reads' HO279.out).2.2); (case side4 => exact (Kd.R_reads' HO279.out).2.1); rintro e w47 ⟨v281, rfl, ho0, hb⟩; refine ⟨_, rfl, ?_⟩; have HO282 := Aside0.mk (Kd.R_lower (Kd.R_new' (Kd.R_new' (Kd.R_new' (Kd.R_new' ho0 (Kd.R_lt (uR HO_6.out))) (Kd.R_lt (uR HO_7.out))) (Kd.R_lt (uR HO276.out))) (Kd.R_lt (uR HO279.out))) (below_size uB)); replace HO_6 := ueR HO_6 ho0 hb; replace HO_7 := ueR HO_7 ho0 hb; replace HO276 := ueR HO276 ho0 hb; replace HO279 := ueR HO279 ho0 hb; replace HB := uy hb; (try clear hb ho0)))
      go_roundg k2
      case measure => have := HK1.out; have := HK2.out; omega
      case rel => exact ⟨(y273), (t280), (wrap64 (x8_1 - 1)), uG, H', ⟨by have := HK1.out; have := HK2.out; omega⟩, ⟨by (with_reducible repeat (first | apply Kd.R_alloc | apply Kd.R_drewN | apply Kd.R_drew)); exact Kd.R_mono HO_6.out (fun _ hk => hk.2)⟩, ⟨by (with_reducible repeat (first | apply Kd.R_alloc | apply Kd.R_drewN | apply Kd.R_drew)); exact Kd.R_mono HO282.out (fun _ hk => hk.1.1.1.2)⟩, ⟨uB⟩⟩
   rw [if_neg c7] at H
   have c7b0 : decide (0 ≤ x8_1) = false := decide_eq_false c7
   clear c7
   replace H := ub H; obtain ⟨t260, A48, H⟩ := H
   simp only [Option.some.injEq, Prod.mk.injEq] at H
   obtain ⟨rfl, rfl⟩ := H
   obtain ⟨Ao49, co49, eo49⟩ := Kd.R_slice HO_6.out
   subst eo49
   go_wp2_with (first | ((with_reducible refine gate_callee (f := 83) rfl ?_); refine goesL_ (some 59) rfl rfl Try.func83 (by kernel_rfl) rfl #[.slice Ao49 x6_1.length co49] rfl uM ?_; (with_reducible refine (windbreakref01_cut.calls k1 (fun k_ => some k_ = (.slice Ao49 x6_1.length co49 : Value).ownBlock) (.slice Ao49 x6_1.length co49) x6_1 t260 w _ ?side1 ?side2 A48.out).mono ?_); (case side1 => repeat (first | (with_reducible first | exact HB.out | apply below_alloc | apply pw_below_drewN | apply below_drew1) | exact HB.out)); (case side2 => exact Kd.R_tight rfl HO_6.out); rintro e w50 ⟨v261, rfl, ho0, hb, hkp⟩; refine ⟨_, rfl, ?_⟩; have HO262 := Aside0.mk (Kd.R_mono (ok' := fun k_ => some k_ ≠ (u7 : Value).ownBlock) ho0 (fun k_ hk_ => Or.elim hk_ (fun hs_ => fun e_ => (((HO_7.out).1 k_ e_.symm)) hs_) (fun hn_ => (Kd.fresh' (Kd.R_lt (uR HO_7.out)) k_ hn_)))); replace HO_7 := Aside0.mk (Kd.R_mono (ok' := fun k_ => some k_ ≠ (v261 : Value).ownBlock) (Kd.R_keptB (HO_7.out) hkp (fun k_ hk_ hs_ => (hk_) hs_)) (fun k_ hk_ => fun e_ => Or.elim (ho0.1 k_ e_.symm) (fun hs_ => hk_.2.1 hs_) (fun hn_ => Nat.not_le.2 hk_.2.2 hn_))); replace HB := Aside0.mk (hb); clear HO_6; (try clear hb); (try clear hkp); (try clear ho0)))
   go_ret2
   exact ⟨_, _, uF, uR HO262.out, uR HO_7.out, uB⟩
end Go.Proofs.Ytgeanpnkllnipaa.F
end
section
namespace Go.Proofs.Ytgeanpnkllnipaa.F
open Go.RowKit Go.Proofs.YtgeanpnkllnipaaW.PrintWords Go.Proofs.YtgeanpnkllnipaaW.PrintLast Go.Proofs.YtgeanpnkllnipaaW.PrintMore
attribute [local go_sem] max2_int min2_int max_two min_two max_three min_three max_four min_four
set_option linter.unusedVariables false
set_option linter.unusedSimpArgs false
def windbreakref01_Div.j0 : Nat → List Int → List Int → Bool → Option (List Int × List Int × Int)
 | 0, _, _, _ => none
 | k + 1, x0, x1, x24 => if x24 = true then (some (([] : List Int), ([] : List Int), 1)) else (if (x1.length : Int) = 0 then (some (([] : List Int), ([] : List Int), 3)) else ((windbreakref01_In.f k x0).bind fun t596 => ((windbreakref01_In.f k x1).bind fun t599 => ((windbreakref01_div.f k t596 t599).bind fun bt602 => ((windbreakref01_Out.f k bt602.1).bind fun bt608 => ((windbreakref01_Out.f k bt602.2).bind fun bt612 => (some (bt608.1, bt612.1, 0))))))))
def windbreakref01_Div.f (k : Nat) (l0 : List Int) (l1 : List Int) : Option (List Int × List Int × Int) := (windbreakref01_Right.f l0).bind fun t594 => ((windbreakref01_Right.f l1).bind fun t595 => (if t594 = true then (windbreakref01_Div.j0 k l0 l1 (!t595)) else (windbreakref01_Div.j0 k l0 l1 true)))
set_option maxHeartbeats 8000000 in
set_option maxRecDepth 100000 in
theorem windbreakref01_Div.calls (k : Nat) (A0 : Option Addr) (c0 : Nat) (l0 : List Int) (A1 : Option Addr) (c1 : Nat) (l1 : List Int) (r1 : List Int) (r2 : List Int) (r3 : Int) (w : World) (hr0 : Kd.C (Kd.int .u64) w A0 l0.length l0) (hc0 : l0.length ≤ c0) (hr1 : Kd.C (Kd.int .u64) w A1 l1.length l1) (hc1 : l1.length ≤ c1) (h : windbreakref01_Div.f k l0 l1 = some (r1, r2, r3)) :
  Calls Try.prog 110 #[.slice A0 l0.length c0, .slice A1 l1.length c1] w fun e w' => ∃ v0_ v1_ : Value, e = .returned (.tuple #[v0_, v1_, .int .i64 r3]) ∧ Kd.R (Kd.int .u64) 47 w' w.heap.size (fun k_ => some k_ ≠ (v1_ : Value).ownBlock) v0_ r1 ∧ Kd.R (Kd.int .u64) 47 w' w.heap.size (fun k_ => some k_ ≠ (v0_ : Value).ownBlock) v1_ r2 ∧ Below w.heap.size w w' := by
 have HR0 := Aside0.mk hr0; have HC0 := Aside0.mk hc0; clear hr0 hc0; have HR1 := Aside0.mk hr1; have HC1 := Aside0.mk hc1; clear hr1 hc1
 have HB := Aside0.mk (Below.refl w.heap.size w)
 have H : ((windbreakref01_Right.f l0).bind fun t594 => ((windbreakref01_Right.f l1).bind fun t595 => (if t594 = true then (windbreakref01_Div.j0 k l0 l1 (!t595)) else (windbreakref01_Div.j0 k l0 l1 true)))) = some (r1, r2, r3) := h
 clear h
 replace H := ub H; obtain ⟨t594, A3, H⟩ := H
 replace H := ub H; obtain ⟨t595, A4, H⟩ := H
 have HC5 := Aside0.mk H; clear H
 go_enter Try.func110, Try.ntmps110
 go_upto_region 3 with (first | ((with_reducible refine gate_callee (f := 46) rfl ?_); refine goesL_ (some 16) rfl rfl Try.func46 (by kernel_rfl) rfl #[.slice A0 l0.length c0] rfl uM ?_; (with_reducible refine (windbreakref01_Right.calls _ _ l0 t594 _ ?side1 ?side2 A3.out).mono ?_); (case side1 => exact uC HR0.out); (case side2 => exact HC0.out); rintro e w' ⟨rfl, ⟨nd, rfl⟩⟩; refine ⟨_, rfl, ?_⟩) | ((with_reducible refine gate_callee (f := 46) rfl ?_); refine goesL_ (some 18) rfl rfl Try.func46 (by kernel_rfl) rfl #[.slice A1 l1.length c1] rfl uM ?_; (with_reducible refine (windbreakref01_Right.calls _ _ l1 t595 _ ?side1 ?side2 A4.out).mono ?_); (case side1 => exact uC HR1.out); (case side2 => exact HC1.out); rintro e w' ⟨rfl, ⟨nd, rfl⟩⟩; refine ⟨_, rfl, ?_⟩))
 (try simp only [Act.put, List.setIfInBounds_toArray, List.set_cons_zero, List.set_cons_succ])
 go_cut [24] (fun v24 wc => ∃ (kq : Nat) (x24_4 : Bool), v24 = .bool x24_4 ∧ Aside0 (windbreakref01_Div.j0 kq l0 l1 x24_4 = some (r1, r2, r3)) ∧ Aside0 (kq ≤ k) ∧ Aside0 (Below w.heap.size w wc))
 case first =>
  have H := HC5.out
  clear HC5
  by_cases c6 : t594 = true
  ·
   subst c6
   have H1 : (windbreakref01_Div.j0 k l0 l1 (!t595)) = some (r1, r2, r3) := by rw [if_pos rfl] at H; exact H
   clear H; have H := H1; clear H1
   have H' := Aside0.mk H
   clear H
   go_wp2
   go_meet
   case rel => exact ⟨_, (!t595), uG, H', ⟨uW⟩, ⟨uB⟩⟩
  replace c6 := Bool.eq_false_iff.mpr c6
  subst c6
  have H1 : (windbreakref01_Div.j0 k l0 l1 true) = some (r1, r2, r3) := by rw [if_neg (show ¬ (false = true) by decide)] at H; exact H
  clear H; have H := H1; clear H1
  have H' := Aside0.mk H
  clear H
  go_wp2
  go_meet
  case rel => exact ⟨_, (true), uG, H', ⟨uW⟩, ⟨uB⟩⟩
 case rest =>
  clear HC5; (try clear c1); (try clear p2); (try clear c4); (try clear c6)
  obtain ⟨kq, x24_4, rfl, HA, HJ4, HB⟩ := hcut
  cases kq with
  | zero => exact absurd HA.out (by simp [windbreakref01_Div.j0])
  | succ kj4 =>
   have H := HA.out
   clear HA
   simp only [windbreakref01_Div.j0] at H
   by_cases c7 : x24_4 = true
   ·
    subst c7
    have H1 : (some (([] : List Int), ([] : List Int), 1)) = some (r1, r2, r3) := by rw [if_pos rfl] at H; exact H
    clear H; have H := H1; clear H1
    simp only [Option.some.injEq, Prod.mk.injEq] at H
    obtain ⟨rfl, rfl, rfl⟩ := H
    go_wp2
    go_ret3
    exact ⟨_, _, uF, uI, uI, uB⟩
   replace c7 := Bool.eq_false_iff.mpr c7
   subst c7
   have H1 : (if (l1.length : Int) = 0 then (some (([] : List Int), ([] : List Int), 3)) else ((windbreakref01_In.f kj4 l0).bind fun t596 => ((windbreakref01_In.f kj4 l1).bind fun t599 => ((windbreakref01_div.f kj4 t596 t599).bind fun bt602 => ((windbreakref01_Out.f kj4 bt602.1).bind fun bt608 => ((windbreakref01_Out.f kj4 bt602.2).bind fun bt612 => (some (bt608.1, bt612.1, 0)))))))) = some (r1, r2, r3) := by rw [if_neg (show ¬ (false = true) by decide)] at H; exact H
   clear H; have H := H1; clear H1
   by_cases c8 : (l1.length : Int) = 0
   ·
    rw [if_pos c8] at H
    have c8b0 : ((l1.length : Int) == 0) = true := beq_iff_eq.mpr c8
    have c8b1 : ((l1.length : Int) != 0) = false := bne_eq_false_iff_eq.mpr c8
    clear c8
    simp only [Option.some.injEq, Prod.mk.injEq] at H
    obtain ⟨rfl, rfl, rfl⟩ := H
    go_wp2
    go_ret3
    exact ⟨_, _, uF, uI, uI, uB⟩
   rw [if_neg c8] at H
   have c8b0 : ((l1.length : Int) == 0) = false := beq_eq_false_iff_ne.mpr c8
   have c8b1 : ((l1.length : Int) != 0) = true := bne_iff_ne.mpr c8
   have c8b2 : ¬ (l1 = []) := fun h_ => c8 (by rw [h_]; rfl)
   replace H := ub H; obtain ⟨t596, A9, H⟩ := H
   replace H := ub H; obtain ⟨t599, A10, H⟩ := H
   replace H := ub H; obtain ⟨⟨t602, t603⟩, A11, H⟩ := H
   (try dsimp only at H)
   replace H := ub H; obtain ⟨⟨t608, t609⟩, A12, H⟩ := H
   (try dsimp only at H)
   replace H := ub H; obtain ⟨⟨t612, t613⟩, A13, H⟩ := H
   (try dsimp only at H)
   simp only [Option.some.injEq, Prod.mk.injEq] at H
   obtain ⟨rfl, rfl, rfl⟩ := H
   go_wp2_with (first | ((with_reducible refine gate_callee (f := 79) rfl ?_); refine goesL_ (some 30) rfl rfl Try.func79 (by kernel_rfl) rfl #[.slice A0 l0.length c0] rfl uM ?_; (with_reducible refine (windbreakref01_In.calls kj4 _ _ l0 t596 _ ?side1 ?side2 A9.out).mono ?_); (case side1 => exact uC (Kd.C_below HR0.out HB.out)); (case side2 => exact HC0.out); rintro e w14 ⟨v597, rfl, ho0, hb⟩; refine ⟨_, rfl, ?_⟩; have HO598 := Aside0.mk (Kd.R_lower ho0 (below_size uB)); replace HB := uy hb; (try clear hb ho0)) | ((with_reducible refine gate_callee (f := 79) rfl ?_); refine goesL_ (some 32) rfl rfl Try.func79 (by kernel_rfl) rfl #[.slice A1 l1.length c1] rfl uM ?_; (with_reducible refine (windbreakref01_In.calls kj4 _ _ l1 t599 _ ?side1 ?side2 A10.out).mono ?_); (case side1 => exact uC (Kd.C_below HR1.out HB.out)); (case side2 => exact HC1.out); rintro e w15 ⟨v600, rfl, ho0, hb⟩; refine ⟨_, rfl, ?_⟩; have HO601 := Aside0.mk (Kd.R_lower (Kd.R_new' ho0 (Kd.R_lt (uR HO598.out))) (below_size uB)); replace HO598 := ueR HO598 ho0 hb; replace HB := uy hb; (try clear hb ho0); obtain ⟨Ao16, co16, eo16⟩ := Kd.R_slice HO598.out; subst eo16; obtain ⟨Ao17, co17, eo17⟩ := Kd.R_slice HO601.out; subst eo17) | ((with_reducible refine gate_callee (f := 84) rfl ?_); refine goesL_ (some 33) rfl rfl Try.func84 (by kernel_rfl) rfl #[.slice Ao16 t596.length co16, .slice Ao17 t599.length co17] rfl uM ?_; (with_reducible refine (windbreakref01_div.calls kj4 _ _ t596 _ _ t599 t602 t603 _ ?side1 ?side2 ?side3 ?side4 A11.out).mono ?_); (case side1 => exact uC (Kd.R_reads' HO598.out).2.2); (case side2 => exact (Kd.R_reads' HO598.out).2.1); (case side3 => exact uC (Kd.R_reads' HO601.out).2.2); (case side4 => exact (Kd.R_reads' HO601.out).2.1); rintro e w18 ⟨v604, v606, rfl, ho0, ho1, hb⟩; refine ⟨_, rfl, ?_⟩; have HO605 := Aside0.mk (Kd.R_lower (Kd.R_new' (Kd.R_new' ho0 (Kd.R_lt (uR HO598.out))) (Kd.R_lt (uR HO601.out))) (below_size uB)); have HO607 := Aside0.mk (Kd.R_lower (Kd.R_new' (Kd.R_new' ho1 (Kd.R_lt (uR HO598.out))) (Kd.R_lt (uR HO601.out))) (below_size uB)); replace HO598 := Aside0.mk (Kd.R_mono (Kd.R_told (Kd.R_told (Kd.R_old (uR HO598.out) hb) (Kd.R_base ho0)) (Kd.R_base ho1)) (fun _ h_ => h_.1)); replace HO601 := Aside0.mk (Kd.R_mono (Kd.R_told (Kd.R_told (Kd.R_old (uR HO601.out) hb) (Kd.R_base ho0)) (Kd.R_base ho1)) (fun _ h_ => h_.1)); replace HB := uy hb; (try clear hb ho0 ho1); obtain ⟨Ao19, co19, eo19⟩ := Kd.R_slice HO605.out; subst eo19) | ((with_reducible refine gate_callee (f := 99) rfl ?_); refine goesL_ (some 38) rfl rfl Try.func99 (by kernel_rfl) rfl #[.slice Ao19 t602.length co19] rfl uM ?_; (with_reducible refine (windbreakref01_Out.calls kj4 _ _ t602 t608 t609 _ ?side1 ?side2 A12.out).mono ?_); (case side1 => exact uC (Kd.R_reads' HO605.out).2.2); (case side2 => exact (Kd.R_reads' HO605.out).2.1); rintro e w20 ⟨v610, rfl, ho0, hb⟩; refine ⟨_, rfl, ?_⟩; have HO611 := Aside0.mk (Kd.R_lower (Kd.R_new' (Kd.R_new' (Kd.R_new' (Kd.R_new' ho0 (Kd.R_lt (uR HO598.out))) (Kd.R_lt (uR HO601.out))) (Kd.R_lt (uR HO605.out))) (Kd.R_lt (uR HO607.out))) (below_size uB)); replace HO598 := ueR HO598 ho0 hb; replace HO601 := ueR HO601 ho0 hb; replace HO605 := ueR HO605 ho0 hb; replace HO607 := ueR HO607 ho0 hb; replace HB := uy hb; (try clear hb ho0); obtain ⟨Ao21, co21, eo21⟩ := Kd.R_slice HO607.out; subst eo21) | ((with_reducible refine gate_callee (f := 99) rfl ?_); refine goesL_ (some 43) rfl rfl Try.func99 (by kernel_rfl) rfl #[.slice Ao21 t603.length co21] rfl uM ?_; (with_reducible refine (windbreakref01_Out.calls kj4 _ _ t603 t612 t613 _ ?side1 ?side2 A13.out).mono ?_); (case side1 => exact uC (Kd.R_reads' HO607.out).2.2); (case side2 => exact (Kd.R_reads' HO607.out).2.1); rintro e w22 ⟨v614, rfl, ho0, hb⟩; refine ⟨_, rfl, ?_⟩; have HO615 := Aside0.mk (Kd.R_lower (Kd.R_new' (Kd.R_new' (Kd.R_new' (Kd.R_new' (Kd.R_new' ho0 (Kd.R_lt (uR HO598.out))) (Kd.R_lt (uR HO601.out))) (Kd.R_lt (uR HO605.out))) (Kd.R_lt (uR HO607.out))) (Kd.R_lt (uR HO611.out))) (below_size uB)); replace HO598 := ueR HO598 ho0 hb; replace HO601 := ueR HO601 ho0 hb; replace HO605 := ueR HO605 ho0 hb; replace HO607 := ueR HO607 ho0 hb; replace HO611 := ueR HO611 ho0 hb; replace HB := uy hb; (try clear hb ho0)))
   go_ret3
   exact ⟨_, _, uF, by (with_reducible repeat (first | apply Kd.R_alloc | apply Kd.R_drewN | apply Kd.R_drew)); exact Kd.R_mono HO611.out (fun _ hk => hk.2), by (with_reducible repeat (first | apply Kd.R_alloc | apply Kd.R_drewN | apply Kd.R_drew)); exact Kd.R_mono HO615.out (fun _ hk => hk.2), uB⟩
def windbreakref01_Rest.f (k : Nat) (l0 : List Int) (l1 : List Int) : Option (List Int) := (windbreakref01_Div.f k l0 l1).bind fun bt616 => (some bt616.2.1)
set_option maxHeartbeats 8000000 in
set_option maxRecDepth 100000 in
theorem windbreakref01_Rest.calls (k : Nat) (A0 : Option Addr) (c0 : Nat) (l0 : List Int) (A1 : Option Addr) (c1 : Nat) (l1 : List Int) (r : List Int) (w : World) (hr0 : Kd.C (Kd.int .u64) w A0 l0.length l0) (hc0 : l0.length ≤ c0) (hr1 : Kd.C (Kd.int .u64) w A1 l1.length l1) (hc1 : l1.length ≤ c1) (h : windbreakref01_Rest.f k l0 l1 = some r) :
  Calls Try.prog 92 #[.slice A0 l0.length c0, .slice A1 l1.length c1] w fun e w' => ∃ v0_ : Value, e = .returned (v0_) ∧ Kd.R (Kd.int .u64) 47 w' w.heap.size (fun _ => True) v0_ r ∧ Below w.heap.size w w' := by
 have HR0 := Aside0.mk hr0; have HC0 := Aside0.mk hc0; clear hr0 hc0; have HR1 := Aside0.mk hr1; have HC1 := Aside0.mk hc1; clear hr1 hc1
 have HB := Aside0.mk (Below.refl w.heap.size w)
 have H : ((windbreakref01_Div.f k l0 l1).bind fun bt616 => (some bt616.2.1)) = some r := h
 clear h
 replace H := ub H; obtain ⟨⟨t616, t617, t618⟩, A3, H⟩ := H
 (try dsimp only at H)
 obtain rfl := Option.some.inj H
 go_enter Try.func92, Try.ntmps92
 go_wp2_with (first | ((with_reducible refine gate_callee (f := 110) rfl ?_); refine goesL_ (some 11) rfl rfl Try.func110 (by kernel_rfl) rfl #[.slice A0 l0.length c0, .slice A1 l1.length c1] rfl uM ?_; (with_reducible refine (windbreakref01_Div.calls k _ _ l0 _ _ l1 t616 t617 t618 _ ?side1 ?side2 ?side3 ?side4 A3.out).mono ?_); (case side1 => exact uC HR0.out); (case side2 => exact HC0.out); (case side3 => exact uC HR1.out); (case side4 => exact HC1.out); rintro e w4 ⟨v619, v621, rfl, ho0, ho1, hb⟩; refine ⟨_, rfl, ?_⟩; have HO620 := Aside0.mk (Kd.R_lower ho0 (below_size uB)); have HO622 := Aside0.mk (Kd.R_lower ho1 (below_size uB)); replace HB := uy hb; (try clear hb ho0 ho1)))
 go_ret
 exact ⟨_, uF, by (with_reducible repeat (first | apply Kd.R_alloc | apply Kd.R_drewN | apply Kd.R_drew)); exact Kd.R_mono HO622.out (fun _ hk => trivial), uB⟩
end Go.Proofs.Ytgeanpnkllnipaa.F
end
section
namespace Go.Proofs.Ytgeanpnkllnipaa.F
open Go.RowKit Go.Proofs.YtgeanpnkllnipaaW.PrintWords Go.Proofs.YtgeanpnkllnipaaW.PrintLast Go.Proofs.YtgeanpnkllnipaaW.PrintMore
attribute [local go_sem] max2_int min2_int max_two min_two max_three min_three max_four min_four
set_option linter.unusedVariables false
set_option linter.unusedSimpArgs false
mutual
def windbreakref03_Gcd.j0 : Nat → List Int → List Int → Bool → Option (List Int × Int)
 | 0, _, _, _ => none
 | k + 1, x0, x1, x20 => if x20 = true then (some (([] : List Int), 1)) else ((some (([] : List Int) : List Int)).bind fun y625 => (if y625.length + x0.length < 17592186044416 then ((some (([] : List Int) : List Int)).bind fun y631 => (if y631.length + x1.length < 17592186044416 then (windbreakref03_Gcd.l0 k (y625 ++ x0) (y631 ++ x1)) else (none))) else (none)))
def windbreakref03_Gcd.l0 : Nat → List Int → List Int → Option (List Int × Int)
 | 0, _, _ => none
 | k + 1, x8, x9 => if (x9.length : Int) > 0 then ((windbreakref01_Rest.f k x8 x9).bind fun t637 => (windbreakref03_Gcd.l0 k x9 t637)) else (some (x8, 0))
end
def windbreakref03_Gcd.f (k : Nat) (l0 : List Int) (l1 : List Int) : Option (List Int × Int) := (windbreakref01_Right.f l0).bind fun t623 => ((windbreakref01_Right.f l1).bind fun t624 => (if t623 = true then (windbreakref03_Gcd.j0 k l0 l1 (!t624)) else (windbreakref03_Gcd.j0 k l0 l1 true)))
set_option maxHeartbeats 8000000 in
set_option maxRecDepth 100000 in
theorem windbreakref03_Gcd.calls (k : Nat) (A0 : Option Addr) (c0 : Nat) (l0 : List Int) (A1 : Option Addr) (c1 : Nat) (l1 : List Int) (r1 : List Int) (r2 : Int) (w : World) (hr0 : Kd.C (Kd.int .u64) w A0 l0.length l0) (hc0 : l0.length ≤ c0) (hr1 : Kd.C (Kd.int .u64) w A1 l1.length l1) (hc1 : l1.length ≤ c1) (h : windbreakref03_Gcd.f k l0 l1 = some (r1, r2)) :
  Calls Try.prog 68 #[.slice A0 l0.length c0, .slice A1 l1.length c1] w fun e w' => ∃ v0_ : Value, e = .returned (.tuple #[v0_, .int .i64 r2]) ∧ Kd.R (Kd.int .u64) 47 w' w.heap.size (fun _ => True) v0_ r1 ∧ Below w.heap.size w w' := by
 have HR0 := Aside0.mk hr0; have HC0 := Aside0.mk hc0; clear hr0 hc0; have HR1 := Aside0.mk hr1; have HC1 := Aside0.mk hc1; clear hr1 hc1
 have HB := Aside0.mk (Below.refl w.heap.size w)
 have H : ((windbreakref01_Right.f l0).bind fun t623 => ((windbreakref01_Right.f l1).bind fun t624 => (if t623 = true then (windbreakref03_Gcd.j0 k l0 l1 (!t624)) else (windbreakref03_Gcd.j0 k l0 l1 true)))) = some (r1, r2) := h
 clear h
 replace H := ub H; obtain ⟨t623, A3, H⟩ := H
 replace H := ub H; obtain ⟨t624, A4, H⟩ := H
 have HC5 := Aside0.mk H; clear H
 go_enter Try.func68, Try.ntmps68
 go_upto_region 3 with (first | ((with_reducible refine gate_callee (f := 46) rfl ?_); refine goesL_ (some 12) rfl rfl Try.func46 (by kernel_rfl) rfl #[.slice A0 l0.length c0] rfl uM ?_; (with_reducible refine (windbreakref01_Right.calls _ _ l0 t623 _ ?side1 ?side2 A3.out).mono ?_); (case side1 => exact uC HR0.out); (case side2 => exact HC0.out); rintro e w' ⟨rfl, ⟨nd, rfl⟩⟩; refine ⟨_, rfl, ?_⟩) | ((with_reducible refine gate_callee (f := 46) rfl ?_); refine goesL_ (some 14) rfl rfl Try.func46 (by kernel_rfl) rfl #[.slice A1 l1.length c1] rfl uM ?_; (with_reducible refine (windbreakref01_Right.calls _ _ l1 t624 _ ?side1 ?side2 A4.out).mono ?_); (case side1 => exact uC HR1.out); (case side2 => exact HC1.out); rintro e w' ⟨rfl, ⟨nd, rfl⟩⟩; refine ⟨_, rfl, ?_⟩))
 (try simp only [Act.put, List.setIfInBounds_toArray, List.set_cons_zero, List.set_cons_succ])
 go_cut [20] (fun v20 wc => ∃ (kq : Nat) (x20_4 : Bool), v20 = .bool x20_4 ∧ Aside0 (windbreakref03_Gcd.j0 kq l0 l1 x20_4 = some (r1, r2)) ∧ Aside0 (kq ≤ k) ∧ Aside0 (Below w.heap.size w wc))
 case first =>
  have H := HC5.out
  clear HC5
  by_cases c6 : t623 = true
  ·
   subst c6
   have H1 : (windbreakref03_Gcd.j0 k l0 l1 (!t624)) = some (r1, r2) := by rw [if_pos rfl] at H; exact H
   clear H; have H := H1; clear H1
   have H' := Aside0.mk H
   clear H
   go_wp2
   go_meet
   case rel => exact ⟨_, (!t624), uG, H', ⟨uW⟩, ⟨uB⟩⟩
  replace c6 := Bool.eq_false_iff.mpr c6
  subst c6
  have H1 : (windbreakref03_Gcd.j0 k l0 l1 true) = some (r1, r2) := by rw [if_neg (show ¬ (false = true) by decide)] at H; exact H
  clear H; have H := H1; clear H1
  have H' := Aside0.mk H
  clear H
  go_wp2
  go_meet
  case rel => exact ⟨_, (true), uG, H', ⟨uW⟩, ⟨uB⟩⟩
 case rest =>
  clear HC5; (try clear c1); (try clear p2); (try clear c4); (try clear c6)
  obtain ⟨kq, x20_4, rfl, HA, HJ4, HB⟩ := hcut
  cases kq with
  | zero => exact absurd HA.out (by simp [windbreakref03_Gcd.j0])
  | succ kj4 =>
   have H := HA.out
   clear HA
   simp only [windbreakref03_Gcd.j0] at H
   by_cases c7 : x20_4 = true
   ·
    subst c7
    have H1 : (some (([] : List Int), 1)) = some (r1, r2) := by rw [if_pos rfl] at H; exact H
    clear H; have H := H1; clear H1
    simp only [Option.some.injEq, Prod.mk.injEq] at H
    obtain ⟨rfl, rfl⟩ := H
    go_wp2
    go_ret2
    exact ⟨_, uF, uI, uB⟩
   replace c7 := Bool.eq_false_iff.mpr c7
   subst c7
   have H1 : ((some (([] : List Int) : List Int)).bind fun y625 => (if y625.length + l0.length < 17592186044416 then ((some (([] : List Int) : List Int)).bind fun y631 => (if y631.length + l1.length < 17592186044416 then (windbreakref03_Gcd.l0 kj4 (y625 ++ l0) (y631 ++ l1)) else (none))) else (none))) = some (r1, r2) := by rw [if_neg (show ¬ (false = true) by decide)] at H; exact H
   clear H; have H := H1; clear H1
   obtain ⟨y625, hy625⟩ : ∃ y_ : List Int, y_ = (([] : List Int)) := ⟨_, rfl⟩
   replace H : (if y625.length + l0.length < 17592186044416 then ((some (([] : List Int) : List Int)).bind fun y631 => (if y631.length + l1.length < 17592186044416 then (windbreakref03_Gcd.l0 kj4 (y625 ++ l0) (y631 ++ l1)) else (none))) else (none)) = some (r1, r2) := by first | (rw [hy625]; with_reducible exact H) | (have H2_ := (Option.bind_some _ _).symm.trans H; rw [hy625]; with_reducible exact H2_) | (have H2_ := (Option.bind_some _ _).symm.trans H; with_reducible exact H2_) | with_reducible exact H | (rw [hy625]; exact H) | exact H
   have Ny625 := Aside0.mk hy625; clear hy625
   replace H := uT H; obtain ⟨c8, H⟩ := H
   have LMc8 := Aside0.mk c8; clear c8
   obtain ⟨y628, hy628⟩ : ∃ y_ : List Int, y_ = (y625 ++ l0) := ⟨_, rfl⟩
   replace H : ((some (([] : List Int) : List Int)).bind fun y631 => (if y631.length + l1.length < 17592186044416 then (windbreakref03_Gcd.l0 kj4 y628 (y631 ++ l1)) else (none))) = some (r1, r2) := by first | (rw [hy628]; with_reducible exact H) | (have H2_ := (Option.bind_some _ _).symm.trans H; rw [hy628]; with_reducible exact H2_) | (have H2_ := (Option.bind_some _ _).symm.trans H; with_reducible exact H2_) | with_reducible exact H | (rw [hy628]; exact H) | exact H
   have Ny628 := Aside0.mk hy628; clear hy628
   obtain ⟨y631, hy631⟩ : ∃ y_ : List Int, y_ = (([] : List Int)) := ⟨_, rfl⟩
   replace H : (if y631.length + l1.length < 17592186044416 then (windbreakref03_Gcd.l0 kj4 y628 (y631 ++ l1)) else (none)) = some (r1, r2) := by first | (rw [hy631]; with_reducible exact H) | (have H2_ := (Option.bind_some _ _).symm.trans H; rw [hy631]; with_reducible exact H2_) | (have H2_ := (Option.bind_some _ _).symm.trans H; with_reducible exact H2_) | with_reducible exact H | (rw [hy631]; exact H) | exact H
   have Ny631 := Aside0.mk hy631; clear hy631
   replace H := uT H; obtain ⟨c9, H⟩ := H
   have LMc9 := Aside0.mk c9; clear c9
   obtain ⟨y634, hy634⟩ : ∃ y_ : List Int, y_ = (y631 ++ l1) := ⟨_, rfl⟩
   replace H : (windbreakref03_Gcd.l0 kj4 y628 y634) = some (r1, r2) := by first | (rw [hy634]; with_reducible exact H) | (have H2_ := (Option.bind_some _ _).symm.trans H; rw [hy634]; with_reducible exact H2_) | (have H2_ := (Option.bind_some _ _).symm.trans H; with_reducible exact H2_) | with_reducible exact H | (rw [hy634]; exact H) | exact H
   have Ny634 := Aside0.mk hy634; clear hy634
   have H' := Aside0.mk H
   clear H
   go_wp2_with (first | ((with_reducible refine gate_dst (N := 21) rfl ?_); refine Kd.R_lit (Kd.int .u64) _ 47 ?hg (N := 21) ?hd (xs := ([] : List Int)) (inner := []) (ok := fun _ => True) (okp := fun _ => True) ?hr ?hp (fun _ hk => hk) trivial (Below.refl _ _) (Nat.le_refl _) (by simp) ?_; (case hd => rfl); (case hg => rfl); (case hr => first | (go_simp; done) | (go_simp; rfl) | (go_simp; simp only [u64_u8]; done) | (go_simp; simp only [u64_u8]; rfl)); (case hp => exact (Reps.none _ _)); intro v626 w10 ho11 hb hg_ hnew_; clear hg_ hnew_; (first | rw [← Ny625.out] at ho11 | (simp only [Int.reduceToNat] at ho11; rw [← Ny625.out] at ho11)); have HO627 := Aside0.mk (Kd.R_lower ho11 (below_size uB)); replace HB := uy hb; clear hb ho11) | ((with_reducible refine gate_builtin (b := .append) (xs := #[.tmp 21, .tmp 22]) rfl ?_); at_builtin; refine Kd.R_append_rows (Kd.int .u64) (w0 := w) w.heap.size rfl (.tmp 21) (.tmp 22) 29 47 (.int .u64 0) 8 rfl Try.underlying29 info47 rfl (by decide) (by omega) v626 y625 l0 _ _ _ (fun _ => True) (fun _ => False) rfl rfl ?aO ?aR (fun _ _ h => h) (fun _ h => h.elim) ?aF ?aB ?aS ?aL ?_; (case aR => exact uC (Kd.C_below HR0.out HB.out)); (case aB => exact uB); (case aF => exact (fun _ _ => trivial)); (case aO => exact (uR HO627.out)); (case aS => exact (below_size uB)); (case aL => have := LMc8.out; omega); intro v629 w12 ho hb hg hat; rw [← Ny628.out] at ho; replace HB := Aside0.mk (hb); have HO630 := Aside0.mk (ho); clear HO627; clear ho hb hg hat) | ((with_reducible refine gate_dst (N := 24) rfl ?_); refine Kd.R_lit (Kd.int .u64) _ 47 ?hg (N := 24) ?hd (xs := ([] : List Int)) (inner := []) (ok := fun _ => True) (okp := fun _ => True) ?hr ?hp (fun _ hk => hk) trivial (Below.refl _ _) (Nat.le_refl _) (by simp) ?_; (case hd => rfl); (case hg => rfl); (case hr => first | (go_simp; done) | (go_simp; rfl) | (go_simp; simp only [u64_u8]; done) | (go_simp; simp only [u64_u8]; rfl)); (case hp => exact (Reps.none _ _)); intro v632 w13 ho14 hb hg_ hnew_; clear hg_ hnew_; (first | rw [← Ny631.out] at ho14 | (simp only [Int.reduceToNat] at ho14; rw [← Ny631.out] at ho14)); have HO633 := Aside0.mk (Kd.R_lower (Kd.R_new' ho14 (Kd.R_lt (uR HO630.out))) (below_size uB)); replace HO630 := ueR HO630 ho14 hb; replace HB := uy hb; clear hb ho14) | ((with_reducible refine gate_builtin (b := .append) (xs := #[.tmp 24, .tmp 25]) rfl ?_); at_builtin; refine Kd.R_append_rows (Kd.int .u64) (w0 := w) w.heap.size rfl (.tmp 24) (.tmp 25) 29 47 (.int .u64 0) 8 rfl Try.underlying29 info47 rfl (by decide) (by omega) v632 y631 l1 _ _ _ (fun k_ => some k_ ≠ (v629 : Value).ownBlock) (fun _ => False) rfl rfl ?aO ?aR (fun _ _ h => h) (fun _ h => h.elim) ?aF ?aB ?aS ?aL ?_; (case aR => exact uC (Kd.C_below HR1.out HB.out)); (case aB => exact uB); (case aF => exact (fun k_ hk => Kd.fresh' (Kd.R_lt (uR HO630.out)) k_ hk)); (case aO => exact (uR (Kd.R_mono HO633.out (fun _ hk => hk.2)))); (case aS => exact (below_size uB)); (case aL => have := LMc9.out; omega); intro v635 w15 ho hb hg hat; rw [← Ny634.out] at ho; replace HO630 := Aside0.mk (Kd.R_after (ok := (fun _ => True)) (uR HO630.out) hg hat); replace HB := Aside0.mk (hb); have HO636 := Aside0.mk (ho); clear HO633; clear ho hb hg hat))
   go_loopg [8, 9] kj4 (fun kq v8 v9 w' => ∃ (x8_2 : List Int) (x9_2 : List Int), Aside0 (windbreakref03_Gcd.l0 kq x8_2 x9_2 = some (r1, r2)) ∧ Aside0 (kq ≤ kj4) ∧ Aside0 (Kd.R (Kd.int .u64) 47 w' w.heap.size (fun k_ => some k_ ≠ (v9 : Value).ownBlock) v8 x8_2) ∧ Aside0 (Kd.R (Kd.int .u64) 47 w' w.heap.size (fun k_ => some k_ ≠ (v8 : Value).ownBlock) v9 x9_2) ∧ Aside0 (Below w.heap.size w w'))
   case atStart => exact ⟨(y628), (y634), H', ⟨Nat.le_refl _⟩, ⟨by (with_reducible repeat (first | apply Kd.R_alloc | apply Kd.R_drewN | apply Kd.R_drew)); exact Kd.R_mono HO630.out (fun _ hk => hk.2)⟩, ⟨uR HO636.out⟩, ⟨uB⟩⟩
   case round =>
    clear H'
    (try clear c1); (try clear p2); (try clear c4); (try clear c6); (try clear c7); (try clear c8); (try clear c9); (try clear p2)
    obtain ⟨x8_2, x9_2, HA, HK2, HO_8, HO_9, HB⟩ := hrel
    cases gk with
    | zero => exact absurd HA.out (by simp [windbreakref03_Gcd.l0])
    | succ k2 =>
     have H := HA.out
     clear HA
     simp only [windbreakref03_Gcd.l0] at H
     by_cases c16 : (x9_2.length : Int) > 0
     ·
      rw [if_pos c16] at H
      have c16b0 : decide (0 < (x9_2.length : Int)) = true := decide_eq_true c16
      have c16b1 : decide (0 < x9_2.length) = true := decide_eq_true (by omega)
      clear c16
      replace H := ub H; obtain ⟨t637, A17, H⟩ := H
      have H' := Aside0.mk H
      clear H
      obtain ⟨Ao18, co18, eo18⟩ := Kd.R_slice HO_9.out
      subst eo18
      obtain ⟨Ao19, co19, eo19⟩ := Kd.R_slice HO_8.out
      subst eo19
      go_wp2_with (first | ((with_reducible refine gate_callee (f := 92) rfl ?_); refine goesL_ (some 32) rfl rfl Try.func92 (by kernel_rfl) rfl #[.slice Ao19 x8_2.length co19, .slice Ao18 x9_2.length co18] rfl uM ?_; (with_reducible refine (windbreakref01_Rest.calls k2 _ _ x8_2 _ _ x9_2 t637 _ ?side1 ?side2 ?side3 ?side4 A17.out).mono ?_); (case side1 => exact uC (Kd.R_reads' HO_8.out).2.2); (case side2 => exact (Kd.R_reads' HO_8.out).2.1); (case side3 => exact uC (Kd.R_reads' HO_9.out).2.2); (case side4 => exact (Kd.R_reads' HO_9.out).2.1); rintro e w20 ⟨v638, rfl, ho0, hb⟩; refine ⟨_, rfl, ?_⟩; have HO639 := Aside0.mk (Kd.R_lower (Kd.R_new' (Kd.R_new' ho0 (Kd.R_lt (uR HO_8.out))) (Kd.R_lt (uR HO_9.out))) (below_size uB)); replace HO_8 := ueR HO_8 ho0 hb; replace HO_9 := ueR HO_9 ho0 hb; replace HB := uy hb; (try clear hb ho0)))
      go_roundg k2
      case measure => have := HJ4.out; have := HK2.out; omega
      case rel => exact ⟨(x9_2), (t637), H', ⟨by have := HJ4.out; have := HK2.out; omega⟩, ⟨by (with_reducible repeat (first | apply Kd.R_alloc | apply Kd.R_drewN | apply Kd.R_drew)); exact Kd.R_mono HO_9.out (fun _ hk => hk.2)⟩, ⟨by (with_reducible repeat (first | apply Kd.R_alloc | apply Kd.R_drewN | apply Kd.R_drew)); exact Kd.R_mono HO639.out (fun _ hk => hk.2)⟩, ⟨uB⟩⟩
     rw [if_neg c16] at H
     have c16b0 : decide (0 < (x9_2.length : Int)) = false := decide_eq_false c16
     have c16b1 : decide (0 < x9_2.length) = false := decide_eq_false (by omega)
     clear c16
     simp only [Option.some.injEq, Prod.mk.injEq] at H
     obtain ⟨rfl, rfl⟩ := H
     obtain ⟨Ao21, co21, eo21⟩ := Kd.R_slice HO_9.out
     subst eo21
     go_wp2
     go_ret2
     exact ⟨_, uF, by (with_reducible repeat (first | apply Kd.R_alloc | apply Kd.R_drewN | apply Kd.R_drew)); exact Kd.R_mono HO_8.out (fun _ hk => trivial), uB⟩
end Go.Proofs.Ytgeanpnkllnipaa.F
end
