/- Proved: the law PrimePairs of layer 5: any key drawn from any tape is the document's, and has as many bits as asked for; for every input, without a condition. -/
import Derived.Test.YtkgaejigpmkfkaaMPrimePairsb
import Derived.Laws.BitsLemmas
section
namespace Go.Proofs.Ytkgaejigpmkfkaa.F
open Go.RowKit Go.Proofs.YtkgaejigpmkfkaaW.PrintWords Go.Proofs.YtkgaejigpmkfkaaW.PrintLast Go.Proofs.YtkgaejigpmkfkaaW.PrintMore
attribute [local go_sem] max2_int min2_int max_two min_two max_three min_three max_four min_four
set_option linter.unusedVariables false
set_option linter.unusedSimpArgs false
def windbreakref05_Check.j0 : Nat → Bool → Int → Int → Option (Int)
 | 0, _, _, _ => none
 | k + 1, x60, x505000, x505001 => if x60 = true then (some 9) else ((windbreakref01_Of.f x505000).bind fun t509 => ((windbreakref01_Of.f x505001).bind fun t512 => ((windbreakref01_Mul.f k t509 t512).bind fun bt515 => ((windbreakref01_Of.f (IntKind.u64.wrap (x505000 - 1))).bind fun t519 => ((windbreakref01_Of.f (IntKind.u64.wrap (x505001 - 1))).bind fun t522 => ((windbreakref01_Mul.f k t519 t522).bind fun bt525 => ((windbreakref03_Gcd.f k bt515.1 bt525.1).bind fun bt529 => ((windbreakref01_Small.f k bt529.1).bind fun bt533 => (if bt533.1 = 1 then (some 0) else (some 9))))))))))
def windbreakref05_Check.f (k : Nat) (a0_0 : Int) (a0_1 : Int) : Option (Int) := if a0_0 < 128 then (windbreakref05_Check.j0 k true a0_0 a0_1) else (if a0_1 < 128 then (windbreakref05_Check.j0 k true a0_0 a0_1) else (if a0_0 ≥ 1099511627776 then (windbreakref05_Check.j0 k true a0_0 a0_1) else (if a0_1 ≥ 1099511627776 then (windbreakref05_Check.j0 k true a0_0 a0_1) else ((windbreakref05_least.f k a0_0).bind fun t505 => (if t505 = a0_0 then ((windbreakref05_least.f k a0_1).bind fun t506 => (if t506 = a0_1 then (if a0_0 = a0_1 then (windbreakref05_Check.j0 k true a0_0 a0_1) else ((windbreakref05_bits.f k a0_0).bind fun t507 => ((windbreakref05_bits.f k a0_1).bind fun t508 => (windbreakref05_Check.j0 k (t507 != t508) a0_0 a0_1)))) else (windbreakref05_Check.j0 k true a0_0 a0_1))) else (windbreakref05_Check.j0 k true a0_0 a0_1))))))
def windbreakref05_Check.T1 : Bool × List (List Nat × List Nat) := (true, [([], []), ([0], [0]), ([1], [1]), ([2], [2]), ([3], [3]), ([4, 3], [3, 4]), ([5, 3], [3, 5]), ([3, 6], [3, 6]), ([7, 3], [7]), ([8], [8]), ([9, 8], [8, 9]), ([10, 8], [8, 10]), ([8, 11], [8, 11]), ([12, 8], [12]), ([13], [13]), ([14, 13], [13, 14]), ([15, 13], [13, 15]), ([13, 16], [13, 16]), ([17, 13], [17]), ([18], [18]), ([19, 18], [18, 19]), ([20, 18, 18], [18, 20]), ([18], [18]), ([22, 18], [18, 22]), ([21, 23, 18], [18, 21, 23]), ([18, 24], [18, 24]), ([25, 21], [25]), ([26], [26]), ([27, 26], [26, 27]), ([28, 26, 26], [26, 28]), ([26], [26]), ([30, 26], [26, 30]), ([29, 31, 26], [26, 29, 31]), ([26, 32], [26, 32]), ([33, 29], [33]), ([34], [34]), ([35, 34], [34, 35]), ([34], [34]), ([37, 34], [34, 37]), ([36, 38, 34], [34, 36, 38]), ([34, 39], [34, 39]), ([40, 34], [40]), ([41], [41]), ([42, 41], [41, 42]), ([43, 41, 41], [41, 43]), ([41], [41]), ([45, 41], [41, 45]), ([46, 44, 41], [41, 46]), ([44, 47, 41], [41, 44, 47]), ([41, 48], [41, 48])])
def windbreakref05_Check.B1 : List Nat := [0, 1, 3, 7, 15, 31, 63, 127, 255, 511, 1023, 2047, 4095, 8191, 16383, 32767, 65535, 131071, 262143, 524287, 1048575, 2097151, 524287, 4718591, 16777215, 33554431, 67108863, 134217727, 268435455, 536870911, 134217727, 1207959551, 4294967295, 8589934591, 17179869183, 34359738367, 68719476735, 34359738367, 171798691839, 549755813887, 1099511627775, 2199023255551, 4398046511103, 8796093022207, 17592186044415, 4398046511103, 39582418599935, 140737488355327, 281474976710655, 562949953421311]
theorem windbreakref05_Check.tab1 : rtab .any (opsOf Try.f50 1) = windbreakref05_Check.T1 := by kernel_rfl
theorem windbreakref05_Check.bits1 : waitsOk windbreakref05_Check.T1.2 windbreakref05_Check.B1 = true := by kernel_rfl
def windbreakref05_Check.T3 : Bool × List (List Nat × List Nat) := (true, [([], []), ([0], [0]), ([1], [1]), ([], []), ([3], [3]), ([4, 2], [4]), ([2, 5, 5], [2, 5]), ([6], [6]), ([7], [7]), ([7], [7]), ([8, 6, 0, 1, 2, 3, 4, 5, 6, 7, 8], [8]), ([9, 10, 0, 1, 2, 3, 4, 5, 6, 7, 8, 9, 10], [9])])
def windbreakref05_Check.B3 : List Nat := [0, 1, 3, 0, 8, 31, 63, 127, 255, 255, 511, 2047]
theorem windbreakref05_Check.tab3 : rtab .any (opsOf Try.f50 3) = windbreakref05_Check.T3 := by kernel_rfl
theorem windbreakref05_Check.bits3 : waitsOk windbreakref05_Check.T3.2 windbreakref05_Check.B3 = true := by kernel_rfl
def windbreakref05_Check.T4 : Bool × List (List Nat × List Nat) := (true, [([], []), ([0], [0]), ([1], [1]), ([2], [2]), ([], []), ([4], [4]), ([5], [5]), ([6, 3], [6]), ([3, 7, 7], [3, 7]), ([8], [8]), ([9], [9]), ([9], [9]), ([10, 8, 0, 1, 2, 3, 4, 5, 6, 7, 8, 9, 10], [10]), ([11, 12, 0, 1, 2, 3, 4, 5, 6, 7, 8, 9, 10, 11, 12], [11])])
def windbreakref05_Check.B4 : List Nat := [0, 1, 3, 7, 0, 16, 48, 127, 255, 511, 1023, 1023, 2047, 8191]
theorem windbreakref05_Check.tab4 : rtab .any (opsOf Try.f50 4) = windbreakref05_Check.T4 := by kernel_rfl
theorem windbreakref05_Check.bits4 : waitsOk windbreakref05_Check.T4.2 windbreakref05_Check.B4 = true := by kernel_rfl
set_option maxHeartbeats 8000000 in
set_option maxRecDepth 100000 in
theorem windbreakref05_Check.calls (k : Nat) (a0_0 : Int) (a0_1 : Int) (r : Int) (w : World) (h : windbreakref05_Check.f k a0_0 a0_1 = some r) :
  Calls Try.prog 50 #[.agg #[.int .u64 a0_0, .int .u64 a0_1]] w fun e w' => e = .returned (.int .i64 r) ∧ Below w.heap.size w w' := by
 have hu32 := Try.underlying32
 have HB := Aside0.mk (Below.refl w.heap.size w)
 have H : (if a0_0 < 128 then (windbreakref05_Check.j0 k true a0_0 a0_1) else (if a0_1 < 128 then (windbreakref05_Check.j0 k true a0_0 a0_1) else (if a0_0 ≥ 1099511627776 then (windbreakref05_Check.j0 k true a0_0 a0_1) else (if a0_1 ≥ 1099511627776 then (windbreakref05_Check.j0 k true a0_0 a0_1) else ((windbreakref05_least.f k a0_0).bind fun t505 => (if t505 = a0_0 then ((windbreakref05_least.f k a0_1).bind fun t506 => (if t506 = a0_1 then (if a0_0 = a0_1 then (windbreakref05_Check.j0 k true a0_0 a0_1) else ((windbreakref05_bits.f k a0_0).bind fun t507 => ((windbreakref05_bits.f k a0_1).bind fun t508 => (windbreakref05_Check.j0 k (t507 != t508) a0_0 a0_1)))) else (windbreakref05_Check.j0 k true a0_0 a0_1))) else (windbreakref05_Check.j0 k true a0_0 a0_1))))))) = some r := h
 clear h; have HC2 := Aside0.mk H; clear H
 go_enter Try.func50, Try.ntmps50
 go_upto_region 1 with (first | ((with_reducible refine gate_dst (N := 1) rfl ?_); refine box_event ?hg (N := 1) ?hd (cs := #[.int .u64 a0_0, .int .u64 a0_1]) (t := 32) ?hr ?_; (case hd => rfl); (case hg => rfl); (case hr => first | (go_simp; done) | (go_simp; rfl)); intro gb504 hg w3 hbox hb; have BK504 := Aside0.mk (hbox); have GW504 := us hg; have GE504 := us hg; replace HB := uy hb; clear hb hbox hg))
 (try simp only [Act.put, List.setIfInBounds_toArray, List.set_cons_zero, List.set_cons_succ])
 go_cut [60] (fun v60 wc => ∃ (kq : Nat) (x60_1 : Bool), v60 = .bool x60_1 ∧ Aside0 (windbreakref05_Check.j0 kq x60_1 a0_0 a0_1 = some r) ∧ Aside0 (kq ≤ k) ∧ Aside0 (wc.heap[gb504]? = some (.cells #[.int .u64 a0_0, .int .u64 a0_1] 32 (0, 0))) ∧ Aside0 (Below w.heap.size w wc))
 case first =>
  have H := HC2.out
  clear HC2
  by_cases c4 : a0_0 < 128
  ·
   rw [if_pos c4] at H
   have c4b0 : decide (a0_0 < 128) = true := decide_eq_true c4
   clear c4
   (first | rw [c4b0] | (simp only [i64_w, i32_w]; rw [c4b0]) | skip)
   have H' := Aside0.mk H
   clear H
   try go_wp2
   replace BK504 := Aside0.mk (blk_drew BK504.out); replace HB := Aside0.mk (below_drew1 HB.out)
   refine start_ (n := 50) (S := fun w' => w'.cell? ⟨gb504, 0, none⟩ = some (.int .u64 a0_0) ∧ w'.cell? ⟨gb504, 1, none⟩ = some (.int .u64 a0_1)) (ds := []) (.replicate 50 false) (by kernel_rfl) rfl rfl ⟨(blk_cell BK504.out 0).trans rfl, (blk_cell BK504.out 1).trans rfl⟩ (fun hHeld => ?_); refine with_tabW windbreakref05_Check.tab1 windbreakref05_Check.bits1 (fun HT_ HW_ => ?_)
   generalize w3.drew = w5 at BK504 HB hHeld ⊢
   refine pure_ (i := 0) (N := some 11) (v := ?_) (a' := ?_) (uA 50 1) rfl rfl (any_of HT_.out (by kernel_rfl)) (fun _ _ _ h => h) (Or.inl ⟨by rfl, ?_⟩) ?_ ?_
   rotate_left
   ·
    intro w'
    go_simp
    with_reducible rfl
   rotate_left
   · exact uQ
   refine take_ (i := 1) (N := some 12) (v := ?_) (a' := ?_) (uA 50 3) rfl rfl (take_ofW HT_.out HW_.out (by kernel_rfl)) (fun _ _ _ h => h) (Or.inl ⟨by rfl, ?_⟩) hHeld ?_ ?_
   rotate_left
   ·
    rintro w' ⟨s0, s1⟩
    go_simp
    with_reducible rfl
   rotate_left
   · exact uQ
   refine pure_ (i := 2) (N := some 13) (v := ?_) (a' := ?_) (uA 50 7) rfl rfl (any_of HT_.out (by kernel_rfl)) (fun _ _ _ h => h) (Or.inl ⟨by rfl, ?_⟩) ?_ ?_
   rotate_left
   ·
    intro w'
    go_simp
    with_reducible rfl
   rotate_left
   · exact uQ
   refine pure_ (i := 3) (N := some 14) (v := ?_) (a' := ?_) (uA 50 15) rfl rfl (any_of HT_.out (by kernel_rfl)) (fun _ _ _ h => h) (Or.inl ⟨by rfl, ?_⟩) ?_ ?_
   rotate_left
   ·
    intro w'
    go_simp
    with_reducible rfl
   rotate_left
   · exact uQ
   refine pure_ (i := 4) (N := some 15) (v := undef) (a' := ?_) (uA 50 31) rfl rfl (any_of HT_.out (by kernel_rfl)) (fun _ _ _ h => h) (Or.inr ⟨by rfl, rfl⟩) ?_ ?_
   rotate_left
   · exact uQ
   refine pure_ (i := 5) (N := some 16) (v := undef) (a' := ?_) (uA 50 63) rfl rfl (any_of HT_.out (by kernel_rfl)) (fun _ _ _ h => h) (Or.inr ⟨by rfl, rfl⟩) ?_ ?_
   rotate_left
   · exact uQ
   refine pure_ (i := 6) (N := some 17) (v := undef) (a' := ?_) (uA 50 127) rfl rfl (any_of HT_.out (by kernel_rfl)) (fun _ _ _ h => h) (Or.inr ⟨by rfl, rfl⟩) ?_ ?_
   rotate_left
   · exact uQ
   refine pure_ (i := 7) (N := some 18) (v := ?_) (a' := ?_) (uA 50 255) rfl rfl (any_of HT_.out (by kernel_rfl)) (fun _ _ _ h => h) (Or.inl ⟨by rfl, ?_⟩) ?_ ?_
   rotate_left
   ·
    intro w'
    go_simp
    with_reducible rfl
   rotate_left
   · exact uQ
   refine pure_ (i := 8) (N := some 19) (v := ?_) (a' := ?_) (uA 50 511) rfl rfl (any_of HT_.out (by kernel_rfl)) (fun _ _ _ h => h) (Or.inl ⟨by rfl, ?_⟩) ?_ ?_
   rotate_left
   ·
    intro w'
    go_simp
    with_reducible rfl
   rotate_left
   · exact uQ
   refine pure_ (i := 9) (N := some 20) (v := undef) (a' := ?_) (uA 50 1023) rfl rfl (any_of HT_.out (by kernel_rfl)) (fun _ _ _ h => h) (Or.inr ⟨by rfl, rfl⟩) ?_ ?_
   rotate_left
   · exact uQ
   refine pure_ (i := 10) (N := some 21) (v := undef) (a' := ?_) (uA 50 2047) rfl rfl (any_of HT_.out (by kernel_rfl)) (fun _ _ _ h => h) (Or.inr ⟨by rfl, rfl⟩) ?_ ?_
   rotate_left
   · exact uQ
   refine pure_ (i := 11) (N := some 22) (v := undef) (a' := ?_) (uA 50 4095) rfl rfl (any_of HT_.out (by kernel_rfl)) (fun _ _ _ h => h) (Or.inr ⟨by rfl, rfl⟩) ?_ ?_
   rotate_left
   · exact uQ
   refine pure_ (i := 12) (N := some 23) (v := ?_) (a' := ?_) (uA 50 8191) rfl rfl (any_of HT_.out (by kernel_rfl)) (fun _ _ _ h => h) (Or.inl ⟨by rfl, ?_⟩) ?_ ?_
   rotate_left
   ·
    intro w'
    go_simp
    with_reducible rfl
   rotate_left
   · exact uQ
   refine pure_ (i := 13) (N := some 24) (v := ?_) (a' := ?_) (uA 50 16383) rfl rfl (any_of HT_.out (by kernel_rfl)) (fun _ _ _ h => h) (Or.inl ⟨by rfl, ?_⟩) ?_ ?_
   rotate_left
   ·
    intro w'
    go_simp
    with_reducible rfl
   rotate_left
   · exact uQ
   refine pure_ (i := 14) (N := some 25) (v := undef) (a' := ?_) (uA 50 32767) rfl rfl (any_of HT_.out (by kernel_rfl)) (fun _ _ _ h => h) (Or.inr ⟨by rfl, rfl⟩) ?_ ?_
   rotate_left
   · exact uQ
   refine pure_ (i := 15) (N := some 26) (v := undef) (a' := ?_) (uA 50 65535) rfl rfl (any_of HT_.out (by kernel_rfl)) (fun _ _ _ h => h) (Or.inr ⟨by rfl, rfl⟩) ?_ ?_
   rotate_left
   · exact uQ
   refine pure_ (i := 16) (N := some 27) (v := undef) (a' := ?_) (uA 50 131071) rfl rfl (any_of HT_.out (by kernel_rfl)) (fun _ _ _ h => h) (Or.inr ⟨by rfl, rfl⟩) ?_ ?_
   rotate_left
   · exact uQ
   refine pure_ (i := 17) (N := some 28) (v := ?_) (a' := ?_) (uA 50 262143) rfl rfl (any_of HT_.out (by kernel_rfl)) (fun _ _ _ h => h) (Or.inl ⟨by rfl, ?_⟩) ?_ ?_
   rotate_left
   ·
    intro w'
    go_simp
    with_reducible rfl
   rotate_left
   · exact uQ
   refine pure_ (i := 18) (N := some 29) (v := ?_) (a' := ?_) (uA 50 524287) rfl rfl (any_of HT_.out (by kernel_rfl)) (fun _ _ _ h => h) (Or.inl ⟨by rfl, ?_⟩) ?_ ?_
   rotate_left
   ·
    intro w'
    go_simp
    with_reducible rfl
   rotate_left
   · exact uQ
   refine pure_ (i := 19) (N := some 30) (v := undef) (a' := ?_) (uA 50 1048575) rfl rfl (any_of HT_.out (by kernel_rfl)) (fun _ _ _ h => h) (Or.inr ⟨by rfl, rfl⟩) ?_ ?_
   rotate_left
   · exact uQ
   refine pure_ (i := 20) (N := some 31) (v := undef) (a' := ?_) (uA 50 2097151) rfl rfl (any_of HT_.out (by kernel_rfl)) (fun _ _ _ h => h) (Or.inr ⟨by rfl, rfl⟩) ?_ ?_
   rotate_left
   · exact uQ
   refine pure_ (i := 21) (N := some 32) (v := undef) (a' := ?_) (uA 50 4194303) rfl rfl (any_of HT_.out (by kernel_rfl)) (fun _ _ _ h => h) (Or.inr ⟨by rfl, rfl⟩) ?_ ?_
   rotate_left
   · exact uQ
   refine pure_ (i := 22) (N := some 33) (v := undef) (a' := ?_) (uA 50 8388607) rfl rfl (any_of HT_.out (by kernel_rfl)) (fun _ _ _ h => h) (Or.inr ⟨by rfl, rfl⟩) ?_ ?_
   rotate_left
   · exact uQ
   refine pure_ (i := 23) (N := some 34) (v := undef) (a' := ?_) (uA 50 16777215) rfl rfl (any_of HT_.out (by kernel_rfl)) (fun _ _ _ h => h) (Or.inr ⟨by rfl, rfl⟩) ?_ ?_
   rotate_left
   · exact uQ
   refine pure_ (i := 24) (N := some 35) (v := undef) (a' := ?_) (uA 50 33554431) rfl rfl (any_of HT_.out (by kernel_rfl)) (fun _ _ _ h => h) (Or.inr ⟨by rfl, rfl⟩) ?_ ?_
   rotate_left
   · exact uQ
   refine pure_ (i := 25) (N := some 36) (v := ?_) (a' := ?_) (uA 50 67108863) rfl rfl (any_of HT_.out (by kernel_rfl)) (fun _ _ _ h => h) (Or.inl ⟨by rfl, ?_⟩) ?_ ?_
   rotate_left
   ·
    intro w'
    go_simp
    with_reducible rfl
   rotate_left
   · exact uQ
   refine pure_ (i := 26) (N := some 37) (v := ?_) (a' := ?_) (uA 50 134217727) rfl rfl (any_of HT_.out (by kernel_rfl)) (fun _ _ _ h => h) (Or.inl ⟨by rfl, ?_⟩) ?_ ?_
   rotate_left
   ·
    intro w'
    go_simp
    with_reducible rfl
   rotate_left
   · exact uQ
   refine pure_ (i := 27) (N := some 38) (v := undef) (a' := ?_) (uA 50 268435455) rfl rfl (any_of HT_.out (by kernel_rfl)) (fun _ _ _ h => h) (Or.inr ⟨by rfl, rfl⟩) ?_ ?_
   rotate_left
   · exact uQ
   refine pure_ (i := 28) (N := some 39) (v := undef) (a' := ?_) (uA 50 536870911) rfl rfl (any_of HT_.out (by kernel_rfl)) (fun _ _ _ h => h) (Or.inr ⟨by rfl, rfl⟩) ?_ ?_
   rotate_left
   · exact uQ
   refine pure_ (i := 29) (N := some 40) (v := undef) (a' := ?_) (uA 50 1073741823) rfl rfl (any_of HT_.out (by kernel_rfl)) (fun _ _ _ h => h) (Or.inr ⟨by rfl, rfl⟩) ?_ ?_
   rotate_left
   · exact uQ
   refine pure_ (i := 30) (N := some 41) (v := undef) (a' := ?_) (uA 50 2147483647) rfl rfl (any_of HT_.out (by kernel_rfl)) (fun _ _ _ h => h) (Or.inr ⟨by rfl, rfl⟩) ?_ ?_
   rotate_left
   · exact uQ
   refine pure_ (i := 31) (N := some 42) (v := undef) (a' := ?_) (uA 50 4294967295) rfl rfl (any_of HT_.out (by kernel_rfl)) (fun _ _ _ h => h) (Or.inr ⟨by rfl, rfl⟩) ?_ ?_
   rotate_left
   · exact uQ
   refine pure_ (i := 32) (N := some 43) (v := undef) (a' := ?_) (uA 50 8589934591) rfl rfl (any_of HT_.out (by kernel_rfl)) (fun _ _ _ h => h) (Or.inr ⟨by rfl, rfl⟩) ?_ ?_
   rotate_left
   · exact uQ
   refine pure_ (i := 33) (N := some 44) (v := ?_) (a' := ?_) (uA 50 17179869183) rfl rfl (any_of HT_.out (by kernel_rfl)) (fun _ _ _ h => h) (Or.inl ⟨by rfl, ?_⟩) ?_ ?_
   rotate_left
   ·
    intro w'
    go_simp
    with_reducible rfl
   rotate_left
   · exact uQ
   refine pure_ (i := 34) (N := some 45) (v := ?_) (a' := ?_) (uA 50 34359738367) rfl rfl (any_of HT_.out (by kernel_rfl)) (fun _ _ _ h => h) (Or.inl ⟨by rfl, ?_⟩) ?_ ?_
   rotate_left
   ·
    intro w'
    go_simp
    with_reducible rfl
   rotate_left
   · exact uQ
   refine pure_ (i := 35) (N := some 46) (v := undef) (a' := ?_) (uA 50 68719476735) rfl rfl (any_of HT_.out (by kernel_rfl)) (fun _ _ _ h => h) (Or.inr ⟨by rfl, rfl⟩) ?_ ?_
   rotate_left
   · exact uQ
   refine pure_ (i := 36) (N := some 47) (v := undef) (a' := ?_) (uA 50 137438953471) rfl rfl (any_of HT_.out (by kernel_rfl)) (fun _ _ _ h => h) (Or.inr ⟨by rfl, rfl⟩) ?_ ?_
   rotate_left
   · exact uQ
   refine pure_ (i := 37) (N := some 48) (v := undef) (a' := ?_) (uA 50 274877906943) rfl rfl (any_of HT_.out (by kernel_rfl)) (fun _ _ _ h => h) (Or.inr ⟨by rfl, rfl⟩) ?_ ?_
   rotate_left
   · exact uQ
   refine pure_ (i := 38) (N := some 49) (v := undef) (a' := ?_) (uA 50 549755813887) rfl rfl (any_of HT_.out (by kernel_rfl)) (fun _ _ _ h => h) (Or.inr ⟨by rfl, rfl⟩) ?_ ?_
   rotate_left
   · exact uQ
   refine pure_ (i := 39) (N := some 50) (v := undef) (a' := ?_) (uA 50 0xffffffffff) rfl rfl (any_of HT_.out (by kernel_rfl)) (fun _ _ _ h => h) (Or.inr ⟨by rfl, rfl⟩) ?_ ?_
   rotate_left
   · exact uQ
   refine pure_ (i := 40) (N := some 51) (v := ?_) (a' := ?_) (uA 50 2199023255551) rfl rfl (any_of HT_.out (by kernel_rfl)) (fun _ _ _ h => h) (Or.inl ⟨by rfl, ?_⟩) ?_ ?_
   rotate_left
   ·
    intro w'
    go_simp
    with_reducible rfl
   rotate_left
   · exact uQ
   refine pure_ (i := 41) (N := some 52) (v := ?_) (a' := ?_) (uA 50 4398046511103) rfl rfl (any_of HT_.out (by kernel_rfl)) (fun _ _ _ h => h) (Or.inl ⟨by rfl, ?_⟩) ?_ ?_
   rotate_left
   ·
    intro w'
    go_simp
    with_reducible rfl
   rotate_left
   · exact uQ
   refine pure_ (i := 42) (N := some 53) (v := undef) (a' := ?_) (uA 50 8796093022207) rfl rfl (any_of HT_.out (by kernel_rfl)) (fun _ _ _ h => h) (Or.inr ⟨by rfl, rfl⟩) ?_ ?_
   rotate_left
   · exact uQ
   refine pure_ (i := 43) (N := some 54) (v := undef) (a' := ?_) (uA 50 0xfffffffffff) rfl rfl (any_of HT_.out (by kernel_rfl)) (fun _ _ _ h => h) (Or.inr ⟨by rfl, rfl⟩) ?_ ?_
   rotate_left
   · exact uQ
   refine pure_ (i := 44) (N := some 55) (v := undef) (a' := ?_) (uA 50 35184372088831) rfl rfl (any_of HT_.out (by kernel_rfl)) (fun _ _ _ h => h) (Or.inr ⟨by rfl, rfl⟩) ?_ ?_
   rotate_left
   · exact uQ
   refine pure_ (i := 45) (N := some 56) (v := undef) (a' := ?_) (uA 50 70368744177663) rfl rfl (any_of HT_.out (by kernel_rfl)) (fun _ _ _ h => h) (Or.inr ⟨by rfl, rfl⟩) ?_ ?_
   rotate_left
   · exact uQ
   refine pure_ (i := 46) (N := some 57) (v := undef) (a' := ?_) (uA 50 0x7fffffffffff) rfl rfl (any_of HT_.out (by kernel_rfl)) (fun _ _ _ h => h) (Or.inr ⟨by rfl, rfl⟩) ?_ ?_
   rotate_left
   · exact uQ
   refine pure_ (i := 47) (N := some 58) (v := undef) (a' := ?_) (uA 50 0xffffffffffff) rfl rfl (any_of HT_.out (by kernel_rfl)) (fun _ _ _ h => h) (Or.inr ⟨by rfl, rfl⟩) ?_ ?_
   rotate_left
   · exact uQ
   refine pure_ (i := 48) (N := some 59) (v := undef) (a' := ?_) (uA 50 562949953421311) rfl rfl (any_of HT_.out (by kernel_rfl)) (fun _ _ _ h => h) (Or.inr ⟨by rfl, rfl⟩) ?_ ?_
   rotate_left
   · exact uQ
   refine pure_ (i := 49) (N := some 60) (v := ?_) (a' := ?_) (uA 50 0x3ffffffffffff) rfl rfl (any_of HT_.out (by kernel_rfl)) (fun _ _ _ h => h) (Or.inl ⟨by rfl, ?_⟩) ?_ ?_
   rotate_left
   ·
    intro w'
    go_simp
    with_reducible rfl
   rotate_left
   · exact uQ
   refine done_ (done_of HT_.out (by kernel_rfl)) ?_
   try go_wp2
   go_meet
   case rel => exact ⟨_, (true), uG, H', ⟨uW⟩, ⟨uK BK504.out⟩, ⟨uB⟩⟩
  rw [if_neg c4] at H
  have c4b0 : decide (a0_0 < 128) = false := decide_eq_false c4
  clear c4
  (first | rw [c4b0] | (simp only [i64_w, i32_w]; rw [c4b0]) | skip)
  by_cases c6 : a0_1 < 128
  ·
   rw [if_pos c6] at H
   have c6b0 : decide (a0_1 < 128) = true := decide_eq_true c6
   clear c6
   have H' := Aside0.mk H
   clear H
   try go_wp2
   replace BK504 := Aside0.mk (blk_drew BK504.out); replace HB := Aside0.mk (below_drew1 HB.out)
   refine start_ (n := 50) (S := fun w' => w'.cell? ⟨gb504, 0, none⟩ = some (.int .u64 a0_0) ∧ w'.cell? ⟨gb504, 1, none⟩ = some (.int .u64 a0_1)) (ds := []) (.replicate 50 false) (by kernel_rfl) rfl rfl ⟨(blk_cell BK504.out 0).trans rfl, (blk_cell BK504.out 1).trans rfl⟩ (fun hHeld => ?_); refine with_tabW windbreakref05_Check.tab1 windbreakref05_Check.bits1 (fun HT_ HW_ => ?_)
   generalize w3.drew = w7 at BK504 HB hHeld ⊢
   refine pure_ (i := 0) (N := some 11) (v := ?_) (a' := ?_) (uA 50 1) rfl rfl (any_of HT_.out (by kernel_rfl)) (fun _ _ _ h => h) (Or.inl ⟨by rfl, ?_⟩) ?_ ?_
   rotate_left
   ·
    intro w'
    go_simp
    with_reducible rfl
   rotate_left
   · exact uQ
   refine take_ (i := 1) (N := some 12) (v := ?_) (a' := ?_) (uA 50 3) rfl rfl (take_ofW HT_.out HW_.out (by kernel_rfl)) (fun _ _ _ h => h) (Or.inl ⟨by rfl, ?_⟩) hHeld ?_ ?_
   rotate_left
   ·
    rintro w' ⟨s0, s1⟩
    go_simp
    with_reducible rfl
   rotate_left
   · exact uQ
   refine pure_ (i := 2) (N := some 13) (v := ?_) (a' := ?_) (uA 50 7) rfl rfl (any_of HT_.out (by kernel_rfl)) (fun _ _ _ h => h) (Or.inl ⟨by rfl, ?_⟩) ?_ ?_
   rotate_left
   ·
    intro w'
    go_simp
    with_reducible rfl
   rotate_left
   · exact uQ
   refine pure_ (i := 3) (N := some 14) (v := ?_) (a' := ?_) (uA 50 15) rfl rfl (any_of HT_.out (by kernel_rfl)) (fun _ _ _ h => h) (Or.inl ⟨by rfl, ?_⟩) ?_ ?_
   rotate_left
   ·
    intro w'
    go_simp
    with_reducible rfl
   rotate_left
   · exact uQ
   refine pure_ (i := 4) (N := some 15) (v := ?_) (a' := ?_) (uA 50 31) rfl rfl (any_of HT_.out (by kernel_rfl)) (fun _ _ _ h => h) (Or.inl ⟨by rfl, ?_⟩) ?_ ?_
   rotate_left
   ·
    intro w'
    go_simp
    with_reducible rfl
   rotate_left
   · exact uQ
   refine take_ (i := 5) (N := some 16) (v := ?_) (a' := ?_) (uA 50 63) rfl rfl (take_ofW HT_.out HW_.out (by kernel_rfl)) (fun _ _ _ h => h) (Or.inl ⟨by rfl, ?_⟩) hHeld ?_ ?_
   rotate_left
   ·
    rintro w' ⟨s0, s1⟩
    go_simp
    with_reducible rfl
   rotate_left
   · exact uQ
   refine pure_ (i := 6) (N := some 17) (v := ?_) (a' := ?_) (uA 50 127) rfl rfl (any_of HT_.out (by kernel_rfl)) (fun _ _ _ h => h) (Or.inl ⟨by rfl, ?_⟩) ?_ ?_
   rotate_left
   ·
    intro w'
    go_simp
    with_reducible rfl
   rotate_left
   · exact uQ
   refine pure_ (i := 7) (N := some 18) (v := ?_) (a' := ?_) (uA 50 255) rfl rfl (any_of HT_.out (by kernel_rfl)) (fun _ _ _ h => h) (Or.inl ⟨by rfl, ?_⟩) ?_ ?_
   rotate_left
   ·
    intro w'
    go_simp
    with_reducible rfl
   rotate_left
   · exact uQ
   refine pure_ (i := 8) (N := some 19) (v := ?_) (a' := ?_) (uA 50 511) rfl rfl (any_of HT_.out (by kernel_rfl)) (fun _ _ _ h => h) (Or.inl ⟨by rfl, ?_⟩) ?_ ?_
   rotate_left
   ·
    intro w'
    go_simp
    with_reducible rfl
   rotate_left
   · exact uQ
   refine pure_ (i := 9) (N := some 20) (v := undef) (a' := ?_) (uA 50 1023) rfl rfl (any_of HT_.out (by kernel_rfl)) (fun _ _ _ h => h) (Or.inr ⟨by rfl, rfl⟩) ?_ ?_
   rotate_left
   · exact uQ
   refine pure_ (i := 10) (N := some 21) (v := undef) (a' := ?_) (uA 50 2047) rfl rfl (any_of HT_.out (by kernel_rfl)) (fun _ _ _ h => h) (Or.inr ⟨by rfl, rfl⟩) ?_ ?_
   rotate_left
   · exact uQ
   refine pure_ (i := 11) (N := some 22) (v := undef) (a' := ?_) (uA 50 4095) rfl rfl (any_of HT_.out (by kernel_rfl)) (fun _ _ _ h => h) (Or.inr ⟨by rfl, rfl⟩) ?_ ?_
   rotate_left
   · exact uQ
   refine pure_ (i := 12) (N := some 23) (v := ?_) (a' := ?_) (uA 50 8191) rfl rfl (any_of HT_.out (by kernel_rfl)) (fun _ _ _ h => h) (Or.inl ⟨by rfl, ?_⟩) ?_ ?_
   rotate_left
   ·
    intro w'
    go_simp
    with_reducible rfl
   rotate_left
   · exact uQ
   refine pure_ (i := 13) (N := some 24) (v := ?_) (a' := ?_) (uA 50 16383) rfl rfl (any_of HT_.out (by kernel_rfl)) (fun _ _ _ h => h) (Or.inl ⟨by rfl, ?_⟩) ?_ ?_
   rotate_left
   ·
    intro w'
    go_simp
    with_reducible rfl
   rotate_left
   · exact uQ
   refine pure_ (i := 14) (N := some 25) (v := undef) (a' := ?_) (uA 50 32767) rfl rfl (any_of HT_.out (by kernel_rfl)) (fun _ _ _ h => h) (Or.inr ⟨by rfl, rfl⟩) ?_ ?_
   rotate_left
   · exact uQ
   refine pure_ (i := 15) (N := some 26) (v := undef) (a' := ?_) (uA 50 65535) rfl rfl (any_of HT_.out (by kernel_rfl)) (fun _ _ _ h => h) (Or.inr ⟨by rfl, rfl⟩) ?_ ?_
   rotate_left
   · exact uQ
   refine pure_ (i := 16) (N := some 27) (v := undef) (a' := ?_) (uA 50 131071) rfl rfl (any_of HT_.out (by kernel_rfl)) (fun _ _ _ h => h) (Or.inr ⟨by rfl, rfl⟩) ?_ ?_
   rotate_left
   · exact uQ
   refine pure_ (i := 17) (N := some 28) (v := ?_) (a' := ?_) (uA 50 262143) rfl rfl (any_of HT_.out (by kernel_rfl)) (fun _ _ _ h => h) (Or.inl ⟨by rfl, ?_⟩) ?_ ?_
   rotate_left
   ·
    intro w'
    go_simp
    with_reducible rfl
   rotate_left
   · exact uQ
   refine pure_ (i := 18) (N := some 29) (v := ?_) (a' := ?_) (uA 50 524287) rfl rfl (any_of HT_.out (by kernel_rfl)) (fun _ _ _ h => h) (Or.inl ⟨by rfl, ?_⟩) ?_ ?_
   rotate_left
   ·
    intro w'
    go_simp
    with_reducible rfl
   rotate_left
   · exact uQ
   refine pure_ (i := 19) (N := some 30) (v := undef) (a' := ?_) (uA 50 1048575) rfl rfl (any_of HT_.out (by kernel_rfl)) (fun _ _ _ h => h) (Or.inr ⟨by rfl, rfl⟩) ?_ ?_
   rotate_left
   · exact uQ
   refine pure_ (i := 20) (N := some 31) (v := undef) (a' := ?_) (uA 50 2097151) rfl rfl (any_of HT_.out (by kernel_rfl)) (fun _ _ _ h => h) (Or.inr ⟨by rfl, rfl⟩) ?_ ?_
   rotate_left
   · exact uQ
   refine pure_ (i := 21) (N := some 32) (v := undef) (a' := ?_) (uA 50 4194303) rfl rfl (any_of HT_.out (by kernel_rfl)) (fun _ _ _ h => h) (Or.inr ⟨by rfl, rfl⟩) ?_ ?_
   rotate_left
   · exact uQ
   refine pure_ (i := 22) (N := some 33) (v := undef) (a' := ?_) (uA 50 8388607) rfl rfl (any_of HT_.out (by kernel_rfl)) (fun _ _ _ h => h) (Or.inr ⟨by rfl, rfl⟩) ?_ ?_
   rotate_left
   · exact uQ
   refine pure_ (i := 23) (N := some 34) (v := undef) (a' := ?_) (uA 50 16777215) rfl rfl (any_of HT_.out (by kernel_rfl)) (fun _ _ _ h => h) (Or.inr ⟨by rfl, rfl⟩) ?_ ?_
   rotate_left
   · exact uQ
   refine pure_ (i := 24) (N := some 35) (v := undef) (a' := ?_) (uA 50 33554431) rfl rfl (any_of HT_.out (by kernel_rfl)) (fun _ _ _ h => h) (Or.inr ⟨by rfl, rfl⟩) ?_ ?_
   rotate_left
   · exact uQ
   refine pure_ (i := 25) (N := some 36) (v := ?_) (a' := ?_) (uA 50 67108863) rfl rfl (any_of HT_.out (by kernel_rfl)) (fun _ _ _ h => h) (Or.inl ⟨by rfl, ?_⟩) ?_ ?_
   rotate_left
   ·
    intro w'
    go_simp
    with_reducible rfl
   rotate_left
   · exact uQ
   refine pure_ (i := 26) (N := some 37) (v := ?_) (a' := ?_) (uA 50 134217727) rfl rfl (any_of HT_.out (by kernel_rfl)) (fun _ _ _ h => h) (Or.inl ⟨by rfl, ?_⟩) ?_ ?_
   rotate_left
   ·
    intro w'
    go_simp
    with_reducible rfl
   rotate_left
   · exact uQ
   refine pure_ (i := 27) (N := some 38) (v := undef) (a' := ?_) (uA 50 268435455) rfl rfl (any_of HT_.out (by kernel_rfl)) (fun _ _ _ h => h) (Or.inr ⟨by rfl, rfl⟩) ?_ ?_
   rotate_left
   · exact uQ
   refine pure_ (i := 28) (N := some 39) (v := undef) (a' := ?_) (uA 50 536870911) rfl rfl (any_of HT_.out (by kernel_rfl)) (fun _ _ _ h => h) (Or.inr ⟨by rfl, rfl⟩) ?_ ?_
   rotate_left
   · exact uQ
   refine pure_ (i := 29) (N := some 40) (v := undef) (a' := ?_) (uA 50 1073741823) rfl rfl (any_of HT_.out (by kernel_rfl)) (fun _ _ _ h => h) (Or.inr ⟨by rfl, rfl⟩) ?_ ?_
   rotate_left
   · exact uQ
   refine pure_ (i := 30) (N := some 41) (v := undef) (a' := ?_) (uA 50 2147483647) rfl rfl (any_of HT_.out (by kernel_rfl)) (fun _ _ _ h => h) (Or.inr ⟨by rfl, rfl⟩) ?_ ?_
   rotate_left
   · exact uQ
   refine pure_ (i := 31) (N := some 42) (v := undef) (a' := ?_) (uA 50 4294967295) rfl rfl (any_of HT_.out (by kernel_rfl)) (fun _ _ _ h => h) (Or.inr ⟨by rfl, rfl⟩) ?_ ?_
   rotate_left
   · exact uQ
   refine pure_ (i := 32) (N := some 43) (v := undef) (a' := ?_) (uA 50 8589934591) rfl rfl (any_of HT_.out (by kernel_rfl)) (fun _ _ _ h => h) (Or.inr ⟨by rfl, rfl⟩) ?_ ?_
   rotate_left
   · exact uQ
   refine pure_ (i := 33) (N := some 44) (v := ?_) (a' := ?_) (uA 50 17179869183) rfl rfl (any_of HT_.out (by kernel_rfl)) (fun _ _ _ h => h) (Or.inl ⟨by rfl, ?_⟩) ?_ ?_
   rotate_left
   ·
    intro w'
    go_simp
    with_reducible rfl
   rotate_left
   · exact uQ
   refine pure_ (i := 34) (N := some 45) (v := ?_) (a' := ?_) (uA 50 34359738367) rfl rfl (any_of HT_.out (by kernel_rfl)) (fun _ _ _ h => h) (Or.inl ⟨by rfl, ?_⟩) ?_ ?_
   rotate_left
   ·
    intro w'
    go_simp
    with_reducible rfl
   rotate_left
   · exact uQ
   refine pure_ (i := 35) (N := some 46) (v := undef) (a' := ?_) (uA 50 68719476735) rfl rfl (any_of HT_.out (by kernel_rfl)) (fun _ _ _ h => h) (Or.inr ⟨by rfl, rfl⟩) ?_ ?_
   rotate_left
   · exact uQ
   refine pure_ (i := 36) (N := some 47) (v := undef) (a' := ?_) (uA 50 137438953471) rfl rfl (any_of HT_.out (by kernel_rfl)) (fun _ _ _ h => h) (Or.inr ⟨by rfl, rfl⟩) ?_ ?_
   rotate_left
   · exact uQ
   refine pure_ (i := 37) (N := some 48) (v := undef) (a' := ?_) (uA 50 274877906943) rfl rfl (any_of HT_.out (by kernel_rfl)) (fun _ _ _ h => h) (Or.inr ⟨by rfl, rfl⟩) ?_ ?_
   rotate_left
   · exact uQ
   refine pure_ (i := 38) (N := some 49) (v := undef) (a' := ?_) (uA 50 549755813887) rfl rfl (any_of HT_.out (by kernel_rfl)) (fun _ _ _ h => h) (Or.inr ⟨by rfl, rfl⟩) ?_ ?_
   rotate_left
   · exact uQ
   refine pure_ (i := 39) (N := some 50) (v := undef) (a' := ?_) (uA 50 0xffffffffff) rfl rfl (any_of HT_.out (by kernel_rfl)) (fun _ _ _ h => h) (Or.inr ⟨by rfl, rfl⟩) ?_ ?_
   rotate_left
   · exact uQ
   refine pure_ (i := 40) (N := some 51) (v := ?_) (a' := ?_) (uA 50 2199023255551) rfl rfl (any_of HT_.out (by kernel_rfl)) (fun _ _ _ h => h) (Or.inl ⟨by rfl, ?_⟩) ?_ ?_
   rotate_left
   ·
    intro w'
    go_simp
    with_reducible rfl
   rotate_left
   · exact uQ
   refine pure_ (i := 41) (N := some 52) (v := ?_) (a' := ?_) (uA 50 4398046511103) rfl rfl (any_of HT_.out (by kernel_rfl)) (fun _ _ _ h => h) (Or.inl ⟨by rfl, ?_⟩) ?_ ?_
   rotate_left
   ·
    intro w'
    go_simp
    with_reducible rfl
   rotate_left
   · exact uQ
   refine pure_ (i := 42) (N := some 53) (v := undef) (a' := ?_) (uA 50 8796093022207) rfl rfl (any_of HT_.out (by kernel_rfl)) (fun _ _ _ h => h) (Or.inr ⟨by rfl, rfl⟩) ?_ ?_
   rotate_left
   · exact uQ
   refine pure_ (i := 43) (N := some 54) (v := undef) (a' := ?_) (uA 50 0xfffffffffff) rfl rfl (any_of HT_.out (by kernel_rfl)) (fun _ _ _ h => h) (Or.inr ⟨by rfl, rfl⟩) ?_ ?_
   rotate_left
   · exact uQ
   refine pure_ (i := 44) (N := some 55) (v := undef) (a' := ?_) (uA 50 35184372088831) rfl rfl (any_of HT_.out (by kernel_rfl)) (fun _ _ _ h => h) (Or.inr ⟨by rfl, rfl⟩) ?_ ?_
   rotate_left
   · exact uQ
   refine pure_ (i := 45) (N := some 56) (v := undef) (a' := ?_) (uA 50 70368744177663) rfl rfl (any_of HT_.out (by kernel_rfl)) (fun _ _ _ h => h) (Or.inr ⟨by rfl, rfl⟩) ?_ ?_
   rotate_left
   · exact uQ
   refine pure_ (i := 46) (N := some 57) (v := undef) (a' := ?_) (uA 50 0x7fffffffffff) rfl rfl (any_of HT_.out (by kernel_rfl)) (fun _ _ _ h => h) (Or.inr ⟨by rfl, rfl⟩) ?_ ?_
   rotate_left
   · exact uQ
   refine pure_ (i := 47) (N := some 58) (v := undef) (a' := ?_) (uA 50 0xffffffffffff) rfl rfl (any_of HT_.out (by kernel_rfl)) (fun _ _ _ h => h) (Or.inr ⟨by rfl, rfl⟩) ?_ ?_
   rotate_left
   · exact uQ
   refine pure_ (i := 48) (N := some 59) (v := undef) (a' := ?_) (uA 50 562949953421311) rfl rfl (any_of HT_.out (by kernel_rfl)) (fun _ _ _ h => h) (Or.inr ⟨by rfl, rfl⟩) ?_ ?_
   rotate_left
   · exact uQ
   refine pure_ (i := 49) (N := some 60) (v := ?_) (a' := ?_) (uA 50 0x3ffffffffffff) rfl rfl (any_of HT_.out (by kernel_rfl)) (fun _ _ _ h => h) (Or.inl ⟨by rfl, ?_⟩) ?_ ?_
   rotate_left
   ·
    intro w'
    go_simp
    with_reducible rfl
   rotate_left
   · exact uQ
   refine done_ (done_of HT_.out (by kernel_rfl)) ?_
   try go_wp2
   go_meet
   case rel => exact ⟨_, (true), uG, H', ⟨uW⟩, ⟨uK BK504.out⟩, ⟨uB⟩⟩
  rw [if_neg c6] at H
  have c6b0 : decide (a0_1 < 128) = false := decide_eq_false c6
  clear c6
  by_cases c8 : a0_0 ≥ 1099511627776
  ·
   rw [if_pos c8] at H
   have c8b0 : decide (1099511627776 ≤ a0_0) = true := decide_eq_true c8
   clear c8
   have H' := Aside0.mk H
   clear H
   try go_wp2
   replace BK504 := Aside0.mk (blk_drew BK504.out); replace HB := Aside0.mk (below_drew1 HB.out)
   refine start_ (n := 50) (S := fun w' => w'.cell? ⟨gb504, 0, none⟩ = some (.int .u64 a0_0) ∧ w'.cell? ⟨gb504, 1, none⟩ = some (.int .u64 a0_1)) (ds := []) (.replicate 50 false) (by kernel_rfl) rfl rfl ⟨(blk_cell BK504.out 0).trans rfl, (blk_cell BK504.out 1).trans rfl⟩ (fun hHeld => ?_); refine with_tabW windbreakref05_Check.tab1 windbreakref05_Check.bits1 (fun HT_ HW_ => ?_)
   generalize w3.drew = w9 at BK504 HB hHeld ⊢
   refine pure_ (i := 0) (N := some 11) (v := ?_) (a' := ?_) (uA 50 1) rfl rfl (any_of HT_.out (by kernel_rfl)) (fun _ _ _ h => h) (Or.inl ⟨by rfl, ?_⟩) ?_ ?_
   rotate_left
   ·
    intro w'
    go_simp
    with_reducible rfl
   rotate_left
   · exact uQ
   refine take_ (i := 1) (N := some 12) (v := ?_) (a' := ?_) (uA 50 3) rfl rfl (take_ofW HT_.out HW_.out (by kernel_rfl)) (fun _ _ _ h => h) (Or.inl ⟨by rfl, ?_⟩) hHeld ?_ ?_
   rotate_left
   ·
    rintro w' ⟨s0, s1⟩
    go_simp
    with_reducible rfl
   rotate_left
   · exact uQ
   refine pure_ (i := 2) (N := some 13) (v := ?_) (a' := ?_) (uA 50 7) rfl rfl (any_of HT_.out (by kernel_rfl)) (fun _ _ _ h => h) (Or.inl ⟨by rfl, ?_⟩) ?_ ?_
   rotate_left
   ·
    intro w'
    go_simp
    with_reducible rfl
   rotate_left
   · exact uQ
   refine pure_ (i := 3) (N := some 14) (v := ?_) (a' := ?_) (uA 50 15) rfl rfl (any_of HT_.out (by kernel_rfl)) (fun _ _ _ h => h) (Or.inl ⟨by rfl, ?_⟩) ?_ ?_
   rotate_left
   ·
    intro w'
    go_simp
    with_reducible rfl
   rotate_left
   · exact uQ
   refine pure_ (i := 4) (N := some 15) (v := ?_) (a' := ?_) (uA 50 31) rfl rfl (any_of HT_.out (by kernel_rfl)) (fun _ _ _ h => h) (Or.inl ⟨by rfl, ?_⟩) ?_ ?_
   rotate_left
   ·
    intro w'
    go_simp
    with_reducible rfl
   rotate_left
   · exact uQ
   refine take_ (i := 5) (N := some 16) (v := ?_) (a' := ?_) (uA 50 63) rfl rfl (take_ofW HT_.out HW_.out (by kernel_rfl)) (fun _ _ _ h => h) (Or.inl ⟨by rfl, ?_⟩) hHeld ?_ ?_
   rotate_left
   ·
    rintro w' ⟨s0, s1⟩
    go_simp
    with_reducible rfl
   rotate_left
   · exact uQ
   refine pure_ (i := 6) (N := some 17) (v := ?_) (a' := ?_) (uA 50 127) rfl rfl (any_of HT_.out (by kernel_rfl)) (fun _ _ _ h => h) (Or.inl ⟨by rfl, ?_⟩) ?_ ?_
   rotate_left
   ·
    intro w'
    go_simp
    with_reducible rfl
   rotate_left
   · exact uQ
   refine pure_ (i := 7) (N := some 18) (v := ?_) (a' := ?_) (uA 50 255) rfl rfl (any_of HT_.out (by kernel_rfl)) (fun _ _ _ h => h) (Or.inl ⟨by rfl, ?_⟩) ?_ ?_
   rotate_left
   ·
    intro w'
    go_simp
    with_reducible rfl
   rotate_left
   · exact uQ
   refine pure_ (i := 8) (N := some 19) (v := ?_) (a' := ?_) (uA 50 511) rfl rfl (any_of HT_.out (by kernel_rfl)) (fun _ _ _ h => h) (Or.inl ⟨by rfl, ?_⟩) ?_ ?_
   rotate_left
   ·
    intro w'
    go_simp
    with_reducible rfl
   rotate_left
   · exact uQ
   refine pure_ (i := 9) (N := some 20) (v := ?_) (a' := ?_) (uA 50 1023) rfl rfl (any_of HT_.out (by kernel_rfl)) (fun _ _ _ h => h) (Or.inl ⟨by rfl, ?_⟩) ?_ ?_
   rotate_left
   ·
    intro w'
    go_simp
    with_reducible rfl
   rotate_left
   · exact uQ
   refine take_ (i := 10) (N := some 21) (v := ?_) (a' := ?_) (uA 50 2047) rfl rfl (take_ofW HT_.out HW_.out (by kernel_rfl)) (fun _ _ _ h => h) (Or.inl ⟨by rfl, ?_⟩) hHeld ?_ ?_
   rotate_left
   ·
    rintro w' ⟨s0, s1⟩
    go_simp
    with_reducible rfl
   rotate_left
   · exact uQ
   refine pure_ (i := 11) (N := some 22) (v := ?_) (a' := ?_) (uA 50 4095) rfl rfl (any_of HT_.out (by kernel_rfl)) (fun _ _ _ h => h) (Or.inl ⟨by rfl, ?_⟩) ?_ ?_
   rotate_left
   ·
    intro w'
    go_simp
    with_reducible rfl
   rotate_left
   · exact uQ
   refine pure_ (i := 12) (N := some 23) (v := ?_) (a' := ?_) (uA 50 8191) rfl rfl (any_of HT_.out (by kernel_rfl)) (fun _ _ _ h => h) (Or.inl ⟨by rfl, ?_⟩) ?_ ?_
   rotate_left
   ·
    intro w'
    go_simp
    with_reducible rfl
   rotate_left
   · exact uQ
   refine pure_ (i := 13) (N := some 24) (v := ?_) (a' := ?_) (uA 50 16383) rfl rfl (any_of HT_.out (by kernel_rfl)) (fun _ _ _ h => h) (Or.inl ⟨by rfl, ?_⟩) ?_ ?_
   rotate_left
   ·
    intro w'
    go_simp
    with_reducible rfl
   rotate_left
   · exact uQ
   refine pure_ (i := 14) (N := some 25) (v := undef) (a' := ?_) (uA 50 32767) rfl rfl (any_of HT_.out (by kernel_rfl)) (fun _ _ _ h => h) (Or.inr ⟨by rfl, rfl⟩) ?_ ?_
   rotate_left
   · exact uQ
   refine pure_ (i := 15) (N := some 26) (v := undef) (a' := ?_) (uA 50 65535) rfl rfl (any_of HT_.out (by kernel_rfl)) (fun _ _ _ h => h) (Or.inr ⟨by rfl, rfl⟩) ?_ ?_
   rotate_left
   · exact uQ
   refine pure_ (i := 16) (N := some 27) (v := undef) (a' := ?_) (uA 50 131071) rfl rfl (any_of HT_.out (by kernel_rfl)) (fun _ _ _ h => h) (Or.inr ⟨by rfl, rfl⟩) ?_ ?_
   rotate_left
   · exact uQ
   refine pure_ (i := 17) (N := some 28) (v := ?_) (a' := ?_) (uA 50 262143) rfl rfl (any_of HT_.out (by kernel_rfl)) (fun _ _ _ h => h) (Or.inl ⟨by rfl, ?_⟩) ?_ ?_
   rotate_left
   ·
    intro w'
    go_simp
    with_reducible rfl
   rotate_left
   · exact uQ
   refine pure_ (i := 18) (N := some 29) (v := ?_) (a' := ?_) (uA 50 524287) rfl rfl (any_of HT_.out (by kernel_rfl)) (fun _ _ _ h => h) (Or.inl ⟨by rfl, ?_⟩) ?_ ?_
   rotate_left
   ·
    intro w'
    go_simp
    with_reducible rfl
   rotate_left
   · exact uQ
   refine pure_ (i := 19) (N := some 30) (v := undef) (a' := ?_) (uA 50 1048575) rfl rfl (any_of HT_.out (by kernel_rfl)) (fun _ _ _ h => h) (Or.inr ⟨by rfl, rfl⟩) ?_ ?_
   rotate_left
   · exact uQ
   refine pure_ (i := 20) (N := some 31) (v := undef) (a' := ?_) (uA 50 2097151) rfl rfl (any_of HT_.out (by kernel_rfl)) (fun _ _ _ h => h) (Or.inr ⟨by rfl, rfl⟩) ?_ ?_
   rotate_left
   · exact uQ
   refine pure_ (i := 21) (N := some 32) (v := undef) (a' := ?_) (uA 50 4194303) rfl rfl (any_of HT_.out (by kernel_rfl)) (fun _ _ _ h => h) (Or.inr ⟨by rfl, rfl⟩) ?_ ?_
   rotate_left
   · exact uQ
   refine pure_ (i := 22) (N := some 33) (v := undef) (a' := ?_) (uA 50 8388607) rfl rfl (any_of HT_.out (by kernel_rfl)) (fun _ _ _ h => h) (Or.inr ⟨by rfl, rfl⟩) ?_ ?_
   rotate_left
   · exact uQ
   refine pure_ (i := 23) (N := some 34) (v := undef) (a' := ?_) (uA 50 16777215) rfl rfl (any_of HT_.out (by kernel_rfl)) (fun _ _ _ h => h) (Or.inr ⟨by rfl, rfl⟩) ?_ ?_
   rotate_left
   · exact uQ
   refine pure_ (i := 24) (N := some 35) (v := undef) (a' := ?_) (uA 50 33554431) rfl rfl (any_of HT_.out (by kernel_rfl)) (fun _ _ _ h => h) (Or.inr ⟨by rfl, rfl⟩) ?_ ?_
   rotate_left
   · exact uQ
   refine pure_ (i := 25) (N := some 36) (v := ?_) (a' := ?_) (uA 50 67108863) rfl rfl (any_of HT_.out (by kernel_rfl)) (fun _ _ _ h => h) (Or.inl ⟨by rfl, ?_⟩) ?_ ?_
   rotate_left
   ·
    intro w'
    go_simp
    with_reducible rfl
   rotate_left
   · exact uQ
   refine pure_ (i := 26) (N := some 37) (v := ?_) (a' := ?_) (uA 50 134217727) rfl rfl (any_of HT_.out (by kernel_rfl)) (fun _ _ _ h => h) (Or.inl ⟨by rfl, ?_⟩) ?_ ?_
   rotate_left
   ·
    intro w'
    go_simp
    with_reducible rfl
   rotate_left
   · exact uQ
   refine pure_ (i := 27) (N := some 38) (v := undef) (a' := ?_) (uA 50 268435455) rfl rfl (any_of HT_.out (by kernel_rfl)) (fun _ _ _ h => h) (Or.inr ⟨by rfl, rfl⟩) ?_ ?_
   rotate_left
   · exact uQ
   refine pure_ (i := 28) (N := some 39) (v := undef) (a' := ?_) (uA 50 536870911) rfl rfl (any_of HT_.out (by kernel_rfl)) (fun _ _ _ h => h) (Or.inr ⟨by rfl, rfl⟩) ?_ ?_
   rotate_left
   · exact uQ
   refine pure_ (i := 29) (N := some 40) (v := undef) (a' := ?_) (uA 50 1073741823) rfl rfl (any_of HT_.out (by kernel_rfl)) (fun _ _ _ h => h) (Or.inr ⟨by rfl, rfl⟩) ?_ ?_
   rotate_left
   · exact uQ
   refine pure_ (i := 30) (N := some 41) (v := undef) (a' := ?_) (uA 50 2147483647) rfl rfl (any_of HT_.out (by kernel_rfl)) (fun _ _ _ h => h) (Or.inr ⟨by rfl, rfl⟩) ?_ ?_
   rotate_left
   · exact uQ
   refine pure_ (i := 31) (N := some 42) (v := undef) (a' := ?_) (uA 50 4294967295) rfl rfl (any_of HT_.out (by kernel_rfl)) (fun _ _ _ h => h) (Or.inr ⟨by rfl, rfl⟩) ?_ ?_
   rotate_left
   · exact uQ
   refine pure_ (i := 32) (N := some 43) (v := undef) (a' := ?_) (uA 50 8589934591) rfl rfl (any_of HT_.out (by kernel_rfl)) (fun _ _ _ h => h) (Or.inr ⟨by rfl, rfl⟩) ?_ ?_
   rotate_left
   · exact uQ
   refine pure_ (i := 33) (N := some 44) (v := ?_) (a' := ?_) (uA 50 17179869183) rfl rfl (any_of HT_.out (by kernel_rfl)) (fun _ _ _ h => h) (Or.inl ⟨by rfl, ?_⟩) ?_ ?_
   rotate_left
   ·
    intro w'
    go_simp
    with_reducible rfl
   rotate_left
   · exact uQ
   refine pure_ (i := 34) (N := some 45) (v := ?_) (a' := ?_) (uA 50 34359738367) rfl rfl (any_of HT_.out (by kernel_rfl)) (fun _ _ _ h => h) (Or.inl ⟨by rfl, ?_⟩) ?_ ?_
   rotate_left
   ·
    intro w'
    go_simp
    with_reducible rfl
   rotate_left
   · exact uQ
   refine pure_ (i := 35) (N := some 46) (v := undef) (a' := ?_) (uA 50 68719476735) rfl rfl (any_of HT_.out (by kernel_rfl)) (fun _ _ _ h => h) (Or.inr ⟨by rfl, rfl⟩) ?_ ?_
   rotate_left
   · exact uQ
   refine pure_ (i := 36) (N := some 47) (v := undef) (a' := ?_) (uA 50 137438953471) rfl rfl (any_of HT_.out (by kernel_rfl)) (fun _ _ _ h => h) (Or.inr ⟨by rfl, rfl⟩) ?_ ?_
   rotate_left
   · exact uQ
   refine pure_ (i := 37) (N := some 48) (v := undef) (a' := ?_) (uA 50 274877906943) rfl rfl (any_of HT_.out (by kernel_rfl)) (fun _ _ _ h => h) (Or.inr ⟨by rfl, rfl⟩) ?_ ?_
   rotate_left
   · exact uQ
   refine pure_ (i := 38) (N := some 49) (v := undef) (a' := ?_) (uA 50 549755813887) rfl rfl (any_of HT_.out (by kernel_rfl)) (fun _ _ _ h => h) (Or.inr ⟨by rfl, rfl⟩) ?_ ?_
   rotate_left
   · exact uQ
   refine pure_ (i := 39) (N := some 50) (v := undef) (a' := ?_) (uA 50 0xffffffffff) rfl rfl (any_of HT_.out (by kernel_rfl)) (fun _ _ _ h => h) (Or.inr ⟨by rfl, rfl⟩) ?_ ?_
   rotate_left
   · exact uQ
   refine pure_ (i := 40) (N := some 51) (v := ?_) (a' := ?_) (uA 50 2199023255551) rfl rfl (any_of HT_.out (by kernel_rfl)) (fun _ _ _ h => h) (Or.inl ⟨by rfl, ?_⟩) ?_ ?_
   rotate_left
   ·
    intro w'
    go_simp
    with_reducible rfl
   rotate_left
   · exact uQ
   refine pure_ (i := 41) (N := some 52) (v := ?_) (a' := ?_) (uA 50 4398046511103) rfl rfl (any_of HT_.out (by kernel_rfl)) (fun _ _ _ h => h) (Or.inl ⟨by rfl, ?_⟩) ?_ ?_
   rotate_left
   ·
    intro w'
    go_simp
    with_reducible rfl
   rotate_left
   · exact uQ
   refine pure_ (i := 42) (N := some 53) (v := undef) (a' := ?_) (uA 50 8796093022207) rfl rfl (any_of HT_.out (by kernel_rfl)) (fun _ _ _ h => h) (Or.inr ⟨by rfl, rfl⟩) ?_ ?_
   rotate_left
   · exact uQ
   refine pure_ (i := 43) (N := some 54) (v := undef) (a' := ?_) (uA 50 0xfffffffffff) rfl rfl (any_of HT_.out (by kernel_rfl)) (fun _ _ _ h => h) (Or.inr ⟨by rfl, rfl⟩) ?_ ?_
   rotate_left
   · exact uQ
   refine pure_ (i := 44) (N := some 55) (v := undef) (a' := ?_) (uA 50 35184372088831) rfl rfl (any_of HT_.out (by kernel_rfl)) (fun _ _ _ h => h) (Or.inr ⟨by rfl, rfl⟩) ?_ ?_
   rotate_left
   · exact uQ
   refine pure_ (i := 45) (N := some 56) (v := undef) (a' := ?_) (uA 50 70368744177663) rfl rfl (any_of HT_.out (by kernel_rfl)) (fun _ _ _ h => h) (Or.inr ⟨by rfl, rfl⟩) ?_ ?_
   rotate_left
   · exact uQ
   refine pure_ (i := 46) (N := some 57) (v := undef) (a' := ?_) (uA 50 0x7fffffffffff) rfl rfl (any_of HT_.out (by kernel_rfl)) (fun _ _ _ h => h) (Or.inr ⟨by rfl, rfl⟩) ?_ ?_
   rotate_left
   · exact uQ
   refine pure_ (i := 47) (N := some 58) (v := undef) (a' := ?_) (uA 50 0xffffffffffff) rfl rfl (any_of HT_.out (by kernel_rfl)) (fun _ _ _ h => h) (Or.inr ⟨by rfl, rfl⟩) ?_ ?_
   rotate_left
   · exact uQ
   refine pure_ (i := 48) (N := some 59) (v := undef) (a' := ?_) (uA 50 562949953421311) rfl rfl (any_of HT_.out (by kernel_rfl)) (fun _ _ _ h => h) (Or.inr ⟨by rfl, rfl⟩) ?_ ?_
   rotate_left
   · exact uQ
   refine pure_ (i := 49) (N := some 60) (v := ?_) (a' := ?_) (uA 50 0x3ffffffffffff) rfl rfl (any_of HT_.out (by kernel_rfl)) (fun _ _ _ h => h) (Or.inl ⟨by rfl, ?_⟩) ?_ ?_
   rotate_left
   ·
    intro w'
    go_simp
    with_reducible rfl
   rotate_left
   · exact uQ
   refine done_ (done_of HT_.out (by kernel_rfl)) ?_
   try go_wp2
   go_meet
   case rel => exact ⟨_, (true), uG, H', ⟨uW⟩, ⟨uK BK504.out⟩, ⟨uB⟩⟩
  rw [if_neg c8] at H
  have c8b0 : decide (1099511627776 ≤ a0_0) = false := decide_eq_false c8
  clear c8
  by_cases c10 : a0_1 ≥ 1099511627776
  ·
   rw [if_pos c10] at H
   have c10b0 : decide (1099511627776 ≤ a0_1) = true := decide_eq_true c10
   clear c10
   have H' := Aside0.mk H
   clear H
   try go_wp2
   replace BK504 := Aside0.mk (blk_drew BK504.out); replace HB := Aside0.mk (below_drew1 HB.out)
   refine start_ (n := 50) (S := fun w' => w'.cell? ⟨gb504, 0, none⟩ = some (.int .u64 a0_0) ∧ w'.cell? ⟨gb504, 1, none⟩ = some (.int .u64 a0_1)) (ds := []) (.replicate 50 false) (by kernel_rfl) rfl rfl ⟨(blk_cell BK504.out 0).trans rfl, (blk_cell BK504.out 1).trans rfl⟩ (fun hHeld => ?_); refine with_tabW windbreakref05_Check.tab1 windbreakref05_Check.bits1 (fun HT_ HW_ => ?_)
   generalize w3.drew = w11 at BK504 HB hHeld ⊢
   refine pure_ (i := 0) (N := some 11) (v := ?_) (a' := ?_) (uA 50 1) rfl rfl (any_of HT_.out (by kernel_rfl)) (fun _ _ _ h => h) (Or.inl ⟨by rfl, ?_⟩) ?_ ?_
   rotate_left
   ·
    intro w'
    go_simp
    with_reducible rfl
   rotate_left
   · exact uQ
   refine take_ (i := 1) (N := some 12) (v := ?_) (a' := ?_) (uA 50 3) rfl rfl (take_ofW HT_.out HW_.out (by kernel_rfl)) (fun _ _ _ h => h) (Or.inl ⟨by rfl, ?_⟩) hHeld ?_ ?_
   rotate_left
   ·
    rintro w' ⟨s0, s1⟩
    go_simp
    with_reducible rfl
   rotate_left
   · exact uQ
   refine pure_ (i := 2) (N := some 13) (v := ?_) (a' := ?_) (uA 50 7) rfl rfl (any_of HT_.out (by kernel_rfl)) (fun _ _ _ h => h) (Or.inl ⟨by rfl, ?_⟩) ?_ ?_
   rotate_left
   ·
    intro w'
    go_simp
    with_reducible rfl
   rotate_left
   · exact uQ
   refine pure_ (i := 3) (N := some 14) (v := ?_) (a' := ?_) (uA 50 15) rfl rfl (any_of HT_.out (by kernel_rfl)) (fun _ _ _ h => h) (Or.inl ⟨by rfl, ?_⟩) ?_ ?_
   rotate_left
   ·
    intro w'
    go_simp
    with_reducible rfl
   rotate_left
   · exact uQ
   refine pure_ (i := 4) (N := some 15) (v := ?_) (a' := ?_) (uA 50 31) rfl rfl (any_of HT_.out (by kernel_rfl)) (fun _ _ _ h => h) (Or.inl ⟨by rfl, ?_⟩) ?_ ?_
   rotate_left
   ·
    intro w'
    go_simp
    with_reducible rfl
   rotate_left
   · exact uQ
   refine take_ (i := 5) (N := some 16) (v := ?_) (a' := ?_) (uA 50 63) rfl rfl (take_ofW HT_.out HW_.out (by kernel_rfl)) (fun _ _ _ h => h) (Or.inl ⟨by rfl, ?_⟩) hHeld ?_ ?_
   rotate_left
   ·
    rintro w' ⟨s0, s1⟩
    go_simp
    with_reducible rfl
   rotate_left
   · exact uQ
   refine pure_ (i := 6) (N := some 17) (v := ?_) (a' := ?_) (uA 50 127) rfl rfl (any_of HT_.out (by kernel_rfl)) (fun _ _ _ h => h) (Or.inl ⟨by rfl, ?_⟩) ?_ ?_
   rotate_left
   ·
    intro w'
    go_simp
    with_reducible rfl
   rotate_left
   · exact uQ
   refine pure_ (i := 7) (N := some 18) (v := ?_) (a' := ?_) (uA 50 255) rfl rfl (any_of HT_.out (by kernel_rfl)) (fun _ _ _ h => h) (Or.inl ⟨by rfl, ?_⟩) ?_ ?_
   rotate_left
   ·
    intro w'
    go_simp
    with_reducible rfl
   rotate_left
   · exact uQ
   refine pure_ (i := 8) (N := some 19) (v := ?_) (a' := ?_) (uA 50 511) rfl rfl (any_of HT_.out (by kernel_rfl)) (fun _ _ _ h => h) (Or.inl ⟨by rfl, ?_⟩) ?_ ?_
   rotate_left
   ·
    intro w'
    go_simp
    with_reducible rfl
   rotate_left
   · exact uQ
   refine pure_ (i := 9) (N := some 20) (v := ?_) (a' := ?_) (uA 50 1023) rfl rfl (any_of HT_.out (by kernel_rfl)) (fun _ _ _ h => h) (Or.inl ⟨by rfl, ?_⟩) ?_ ?_
   rotate_left
   ·
    intro w'
    go_simp
    with_reducible rfl
   rotate_left
   · exact uQ
   refine take_ (i := 10) (N := some 21) (v := ?_) (a' := ?_) (uA 50 2047) rfl rfl (take_ofW HT_.out HW_.out (by kernel_rfl)) (fun _ _ _ h => h) (Or.inl ⟨by rfl, ?_⟩) hHeld ?_ ?_
   rotate_left
   ·
    rintro w' ⟨s0, s1⟩
    go_simp
    with_reducible rfl
   rotate_left
   · exact uQ
   refine pure_ (i := 11) (N := some 22) (v := ?_) (a' := ?_) (uA 50 4095) rfl rfl (any_of HT_.out (by kernel_rfl)) (fun _ _ _ h => h) (Or.inl ⟨by rfl, ?_⟩) ?_ ?_
   rotate_left
   ·
    intro w'
    go_simp
    with_reducible rfl
   rotate_left
   · exact uQ
   refine pure_ (i := 12) (N := some 23) (v := ?_) (a' := ?_) (uA 50 8191) rfl rfl (any_of HT_.out (by kernel_rfl)) (fun _ _ _ h => h) (Or.inl ⟨by rfl, ?_⟩) ?_ ?_
   rotate_left
   ·
    intro w'
    go_simp
    with_reducible rfl
   rotate_left
   · exact uQ
   refine pure_ (i := 13) (N := some 24) (v := ?_) (a' := ?_) (uA 50 16383) rfl rfl (any_of HT_.out (by kernel_rfl)) (fun _ _ _ h => h) (Or.inl ⟨by rfl, ?_⟩) ?_ ?_
   rotate_left
   ·
    intro w'
    go_simp
    with_reducible rfl
   rotate_left
   · exact uQ
   refine pure_ (i := 14) (N := some 25) (v := ?_) (a' := ?_) (uA 50 32767) rfl rfl (any_of HT_.out (by kernel_rfl)) (fun _ _ _ h => h) (Or.inl ⟨by rfl, ?_⟩) ?_ ?_
   rotate_left
   ·
    intro w'
    go_simp
    with_reducible rfl
   rotate_left
   · exact uQ
   refine take_ (i := 15) (N := some 26) (v := ?_) (a' := ?_) (uA 50 65535) rfl rfl (take_ofW HT_.out HW_.out (by kernel_rfl)) (fun _ _ _ h => h) (Or.inl ⟨by rfl, ?_⟩) hHeld ?_ ?_
   rotate_left
   ·
    rintro w' ⟨s0, s1⟩
    go_simp
    with_reducible rfl
   rotate_left
   · exact uQ
   refine pure_ (i := 16) (N := some 27) (v := ?_) (a' := ?_) (uA 50 131071) rfl rfl (any_of HT_.out (by kernel_rfl)) (fun _ _ _ h => h) (Or.inl ⟨by rfl, ?_⟩) ?_ ?_
   rotate_left
   ·
    intro w'
    go_simp
    with_reducible rfl
   rotate_left
   · exact uQ
   refine pure_ (i := 17) (N := some 28) (v := ?_) (a' := ?_) (uA 50 262143) rfl rfl (any_of HT_.out (by kernel_rfl)) (fun _ _ _ h => h) (Or.inl ⟨by rfl, ?_⟩) ?_ ?_
   rotate_left
   ·
    intro w'
    go_simp
    with_reducible rfl
   rotate_left
   · exact uQ
   refine pure_ (i := 18) (N := some 29) (v := ?_) (a' := ?_) (uA 50 524287) rfl rfl (any_of HT_.out (by kernel_rfl)) (fun _ _ _ h => h) (Or.inl ⟨by rfl, ?_⟩) ?_ ?_
   rotate_left
   ·
    intro w'
    go_simp
    with_reducible rfl
   rotate_left
   · exact uQ
   refine pure_ (i := 19) (N := some 30) (v := undef) (a' := ?_) (uA 50 1048575) rfl rfl (any_of HT_.out (by kernel_rfl)) (fun _ _ _ h => h) (Or.inr ⟨by rfl, rfl⟩) ?_ ?_
   rotate_left
   · exact uQ
   refine pure_ (i := 20) (N := some 31) (v := undef) (a' := ?_) (uA 50 2097151) rfl rfl (any_of HT_.out (by kernel_rfl)) (fun _ _ _ h => h) (Or.inr ⟨by rfl, rfl⟩) ?_ ?_
   rotate_left
   · exact uQ
   refine pure_ (i := 21) (N := some 32) (v := undef) (a' := ?_) (uA 50 4194303) rfl rfl (any_of HT_.out (by kernel_rfl)) (fun _ _ _ h => h) (Or.inr ⟨by rfl, rfl⟩) ?_ ?_
   rotate_left
   · exact uQ
   refine pure_ (i := 22) (N := some 33) (v := undef) (a' := ?_) (uA 50 8388607) rfl rfl (any_of HT_.out (by kernel_rfl)) (fun _ _ _ h => h) (Or.inr ⟨by rfl, rfl⟩) ?_ ?_
   rotate_left
   · exact uQ
   refine pure_ (i := 23) (N := some 34) (v := undef) (a' := ?_) (uA 50 16777215) rfl rfl (any_of HT_.out (by kernel_rfl)) (fun _ _ _ h => h) (Or.inr ⟨by rfl, rfl⟩) ?_ ?_
   rotate_left
   · exact uQ
   refine pure_ (i := 24) (N := some 35) (v := undef) (a' := ?_) (uA 50 33554431) rfl rfl (any_of HT_.out (by kernel_rfl)) (fun _ _ _ h => h) (Or.inr ⟨by rfl, rfl⟩) ?_ ?_
   rotate_left
   · exact uQ
   refine pure_ (i := 25) (N := some 36) (v := ?_) (a' := ?_) (uA 50 67108863) rfl rfl (any_of HT_.out (by kernel_rfl)) (fun _ _ _ h => h) (Or.inl ⟨by rfl, ?_⟩) ?_ ?_
   rotate_left
   ·
    intro w'
    go_simp
    with_reducible rfl
   rotate_left
   · exact uQ
   refine pure_ (i := 26) (N := some 37) (v := ?_) (a' := ?_) (uA 50 134217727) rfl rfl (any_of HT_.out (by kernel_rfl)) (fun _ _ _ h => h) (Or.inl ⟨by rfl, ?_⟩) ?_ ?_
   rotate_left
   ·
    intro w'
    go_simp
    with_reducible rfl
   rotate_left
   · exact uQ
   refine pure_ (i := 27) (N := some 38) (v := undef) (a' := ?_) (uA 50 268435455) rfl rfl (any_of HT_.out (by kernel_rfl)) (fun _ _ _ h => h) (Or.inr ⟨by rfl, rfl⟩) ?_ ?_
   rotate_left
   · exact uQ
   refine pure_ (i := 28) (N := some 39) (v := undef) (a' := ?_) (uA 50 536870911) rfl rfl (any_of HT_.out (by kernel_rfl)) (fun _ _ _ h => h) (Or.inr ⟨by rfl, rfl⟩) ?_ ?_
   rotate_left
   · exact uQ
   refine pure_ (i := 29) (N := some 40) (v := undef) (a' := ?_) (uA 50 1073741823) rfl rfl (any_of HT_.out (by kernel_rfl)) (fun _ _ _ h => h) (Or.inr ⟨by rfl, rfl⟩) ?_ ?_
   rotate_left
   · exact uQ
   refine pure_ (i := 30) (N := some 41) (v := undef) (a' := ?_) (uA 50 2147483647) rfl rfl (any_of HT_.out (by kernel_rfl)) (fun _ _ _ h => h) (Or.inr ⟨by rfl, rfl⟩) ?_ ?_
   rotate_left
   · exact uQ
   refine pure_ (i := 31) (N := some 42) (v := undef) (a' := ?_) (uA 50 4294967295) rfl rfl (any_of HT_.out (by kernel_rfl)) (fun _ _ _ h => h) (Or.inr ⟨by rfl, rfl⟩) ?_ ?_
   rotate_left
   · exact uQ
   refine pure_ (i := 32) (N := some 43) (v := undef) (a' := ?_) (uA 50 8589934591) rfl rfl (any_of HT_.out (by kernel_rfl)) (fun _ _ _ h => h) (Or.inr ⟨by rfl, rfl⟩) ?_ ?_
   rotate_left
   · exact uQ
   refine pure_ (i := 33) (N := some 44) (v := ?_) (a' := ?_) (uA 50 17179869183) rfl rfl (any_of HT_.out (by kernel_rfl)) (fun _ _ _ h => h) (Or.inl ⟨by rfl, ?_⟩) ?_ ?_
   rotate_left
   ·
    intro w'
    go_simp
    with_reducible rfl
   rotate_left
   · exact uQ
   refine pure_ (i := 34) (N := some 45) (v := ?_) (a' := ?_) (uA 50 34359738367) rfl rfl (any_of HT_.out (by kernel_rfl)) (fun _ _ _ h => h) (Or.inl ⟨by rfl, ?_⟩) ?_ ?_
   rotate_left
   ·
    intro w'
    go_simp
    with_reducible rfl
   rotate_left
   · exact uQ
   refine pure_ (i := 35) (N := some 46) (v := undef) (a' := ?_) (uA 50 68719476735) rfl rfl (any_of HT_.out (by kernel_rfl)) (fun _ _ _ h => h) (Or.inr ⟨by rfl, rfl⟩) ?_ ?_
   rotate_left
   · exact uQ
   refine pure_ (i := 36) (N := some 47) (v := undef) (a' := ?_) (uA 50 137438953471) rfl rfl (any_of HT_.out (by kernel_rfl)) (fun _ _ _ h => h) (Or.inr ⟨by rfl, rfl⟩) ?_ ?_
   rotate_left
   · exact uQ
   refine pure_ (i := 37) (N := some 48) (v := undef) (a' := ?_) (uA 50 274877906943) rfl rfl (any_of HT_.out (by kernel_rfl)) (fun _ _ _ h => h) (Or.inr ⟨by rfl, rfl⟩) ?_ ?_
   rotate_left
   · exact uQ
   refine pure_ (i := 38) (N := some 49) (v := undef) (a' := ?_) (uA 50 549755813887) rfl rfl (any_of HT_.out (by kernel_rfl)) (fun _ _ _ h => h) (Or.inr ⟨by rfl, rfl⟩) ?_ ?_
   rotate_left
   · exact uQ
   refine pure_ (i := 39) (N := some 50) (v := undef) (a' := ?_) (uA 50 0xffffffffff) rfl rfl (any_of HT_.out (by kernel_rfl)) (fun _ _ _ h => h) (Or.inr ⟨by rfl, rfl⟩) ?_ ?_
   rotate_left
   · exact uQ
   refine pure_ (i := 40) (N := some 51) (v := ?_) (a' := ?_) (uA 50 2199023255551) rfl rfl (any_of HT_.out (by kernel_rfl)) (fun _ _ _ h => h) (Or.inl ⟨by rfl, ?_⟩) ?_ ?_
   rotate_left
   ·
    intro w'
    go_simp
    with_reducible rfl
   rotate_left
   · exact uQ
   refine pure_ (i := 41) (N := some 52) (v := ?_) (a' := ?_) (uA 50 4398046511103) rfl rfl (any_of HT_.out (by kernel_rfl)) (fun _ _ _ h => h) (Or.inl ⟨by rfl, ?_⟩) ?_ ?_
   rotate_left
   ·
    intro w'
    go_simp
    with_reducible rfl
   rotate_left
   · exact uQ
   refine pure_ (i := 42) (N := some 53) (v := undef) (a' := ?_) (uA 50 8796093022207) rfl rfl (any_of HT_.out (by kernel_rfl)) (fun _ _ _ h => h) (Or.inr ⟨by rfl, rfl⟩) ?_ ?_
   rotate_left
   · exact uQ
   refine pure_ (i := 43) (N := some 54) (v := undef) (a' := ?_) (uA 50 0xfffffffffff) rfl rfl (any_of HT_.out (by kernel_rfl)) (fun _ _ _ h => h) (Or.inr ⟨by rfl, rfl⟩) ?_ ?_
   rotate_left
   · exact uQ
   refine pure_ (i := 44) (N := some 55) (v := undef) (a' := ?_) (uA 50 35184372088831) rfl rfl (any_of HT_.out (by kernel_rfl)) (fun _ _ _ h => h) (Or.inr ⟨by rfl, rfl⟩) ?_ ?_
   rotate_left
   · exact uQ
   refine pure_ (i := 45) (N := some 56) (v := undef) (a' := ?_) (uA 50 70368744177663) rfl rfl (any_of HT_.out (by kernel_rfl)) (fun _ _ _ h => h) (Or.inr ⟨by rfl, rfl⟩) ?_ ?_
   rotate_left
   · exact uQ
   refine pure_ (i := 46) (N := some 57) (v := undef) (a' := ?_) (uA 50 0x7fffffffffff) rfl rfl (any_of HT_.out (by kernel_rfl)) (fun _ _ _ h => h) (Or.inr ⟨by rfl, rfl⟩) ?_ ?_
   rotate_left
   · exact uQ
   refine pure_ (i := 47) (N := some 58) (v := undef) (a' := ?_) (uA 50 0xffffffffffff) rfl rfl (any_of HT_.out (by kernel_rfl)) (fun _ _ _ h => h) (Or.inr ⟨by rfl, rfl⟩) ?_ ?_
   rotate_left
   · exact uQ
   refine pure_ (i := 48) (N := some 59) (v := undef) (a' := ?_) (uA 50 562949953421311) rfl rfl (any_of HT_.out (by kernel_rfl)) (fun _ _ _ h => h) (Or.inr ⟨by rfl, rfl⟩) ?_ ?_
   rotate_left
   · exact uQ
   refine pure_ (i := 49) (N := some 60) (v := ?_) (a' := ?_) (uA 50 0x3ffffffffffff) rfl rfl (any_of HT_.out (by kernel_rfl)) (fun _ _ _ h => h) (Or.inl ⟨by rfl, ?_⟩) ?_ ?_
   rotate_left
   ·
    intro w'
    go_simp
    with_reducible rfl
   rotate_left
   · exact uQ
   refine done_ (done_of HT_.out (by kernel_rfl)) ?_
   try go_wp2
   go_meet
   case rel => exact ⟨_, (true), uG, H', ⟨uW⟩, ⟨uK BK504.out⟩, ⟨uB⟩⟩
  rw [if_neg c10] at H
  have c10b0 : decide (1099511627776 ≤ a0_1) = false := decide_eq_false c10
  clear c10
  replace H := ub H; obtain ⟨t505, A12, H⟩ := H
  by_cases c13 : t505 = a0_0
  ·
   rw [if_pos c13] at H
   have c13b0 : (t505 == a0_0) = true := beq_iff_eq.mpr c13
   have c13b1 : (t505 != a0_0) = false := bne_eq_false_iff_eq.mpr c13
   clear c13
   replace H := ub H; obtain ⟨t506, A14, H⟩ := H
   by_cases c15 : t506 = a0_1
   ·
    rw [if_pos c15] at H
    have c15b0 : (t506 == a0_1) = true := beq_iff_eq.mpr c15
    have c15b1 : (t506 != a0_1) = false := bne_eq_false_iff_eq.mpr c15
    clear c15
    by_cases c16 : a0_0 = a0_1
    ·
     rw [if_pos c16] at H
     have c16b0 : (a0_0 == a0_1) = true := beq_iff_eq.mpr c16
     have c16b1 : (a0_0 != a0_1) = false := bne_eq_false_iff_eq.mpr c16
     clear c16
     have H' := Aside0.mk H
     clear H
     try go_wp2
     replace BK504 := Aside0.mk (blk_drew BK504.out); replace HB := Aside0.mk (below_drew1 HB.out)
     refine start_ (n := 50) (S := fun w' => w'.cell? ⟨gb504, 0, none⟩ = some (.int .u64 a0_0) ∧ w'.cell? ⟨gb504, 1, none⟩ = some (.int .u64 a0_1)) (ds := []) (.replicate 50 false) (by kernel_rfl) rfl rfl ⟨(blk_cell BK504.out 0).trans rfl, (blk_cell BK504.out 1).trans rfl⟩ (fun hHeld => ?_); refine with_tabW windbreakref05_Check.tab1 windbreakref05_Check.bits1 (fun HT_ HW_ => ?_)
     generalize w3.drew = w17 at BK504 HB hHeld ⊢
     refine pure_ (i := 0) (N := some 11) (v := ?_) (a' := ?_) (uA 50 1) rfl rfl (any_of HT_.out (by kernel_rfl)) (fun _ _ _ h => h) (Or.inl ⟨by rfl, ?_⟩) ?_ ?_
     rotate_left
     ·
      intro w'
      go_simp
      with_reducible rfl
     rotate_left
     · exact uQ
     refine take_ (i := 1) (N := some 12) (v := ?_) (a' := ?_) (uA 50 3) rfl rfl (take_ofW HT_.out HW_.out (by kernel_rfl)) (fun _ _ _ h => h) (Or.inl ⟨by rfl, ?_⟩) hHeld ?_ ?_
     rotate_left
     ·
      rintro w' ⟨s0, s1⟩
      go_simp
      with_reducible rfl
     rotate_left
     · exact uQ
     refine pure_ (i := 2) (N := some 13) (v := ?_) (a' := ?_) (uA 50 7) rfl rfl (any_of HT_.out (by kernel_rfl)) (fun _ _ _ h => h) (Or.inl ⟨by rfl, ?_⟩) ?_ ?_
     rotate_left
     ·
      intro w'
      go_simp
      with_reducible rfl
     rotate_left
     · exact uQ
     refine pure_ (i := 3) (N := some 14) (v := ?_) (a' := ?_) (uA 50 15) rfl rfl (any_of HT_.out (by kernel_rfl)) (fun _ _ _ h => h) (Or.inl ⟨by rfl, ?_⟩) ?_ ?_
     rotate_left
     ·
      intro w'
      go_simp
      with_reducible rfl
     rotate_left
     · exact uQ
     refine pure_ (i := 4) (N := some 15) (v := ?_) (a' := ?_) (uA 50 31) rfl rfl (any_of HT_.out (by kernel_rfl)) (fun _ _ _ h => h) (Or.inl ⟨by rfl, ?_⟩) ?_ ?_
     rotate_left
     ·
      intro w'
      go_simp
      with_reducible rfl
     rotate_left
     · exact uQ
     refine take_ (i := 5) (N := some 16) (v := ?_) (a' := ?_) (uA 50 63) rfl rfl (take_ofW HT_.out HW_.out (by kernel_rfl)) (fun _ _ _ h => h) (Or.inl ⟨by rfl, ?_⟩) hHeld ?_ ?_
     rotate_left
     ·
      rintro w' ⟨s0, s1⟩
      go_simp
      with_reducible rfl
     rotate_left
     · exact uQ
     refine pure_ (i := 6) (N := some 17) (v := ?_) (a' := ?_) (uA 50 127) rfl rfl (any_of HT_.out (by kernel_rfl)) (fun _ _ _ h => h) (Or.inl ⟨by rfl, ?_⟩) ?_ ?_
     rotate_left
     ·
      intro w'
      go_simp
      with_reducible rfl
     rotate_left
     · exact uQ
     refine pure_ (i := 7) (N := some 18) (v := ?_) (a' := ?_) (uA 50 255) rfl rfl (any_of HT_.out (by kernel_rfl)) (fun _ _ _ h => h) (Or.inl ⟨by rfl, ?_⟩) ?_ ?_
     rotate_left
     ·
      intro w'
      go_simp
      with_reducible rfl
     rotate_left
     · exact uQ
     refine pure_ (i := 8) (N := some 19) (v := ?_) (a' := ?_) (uA 50 511) rfl rfl (any_of HT_.out (by kernel_rfl)) (fun _ _ _ h => h) (Or.inl ⟨by rfl, ?_⟩) ?_ ?_
     rotate_left
     ·
      intro w'
      go_simp
      with_reducible rfl
     rotate_left
     · exact uQ
     refine pure_ (i := 9) (N := some 20) (v := ?_) (a' := ?_) (uA 50 1023) rfl rfl (any_of HT_.out (by kernel_rfl)) (fun _ _ _ h => h) (Or.inl ⟨by rfl, ?_⟩) ?_ ?_
     rotate_left
     ·
      intro w'
      go_simp
      with_reducible rfl
     rotate_left
     · exact uQ
     refine take_ (i := 10) (N := some 21) (v := ?_) (a' := ?_) (uA 50 2047) rfl rfl (take_ofW HT_.out HW_.out (by kernel_rfl)) (fun _ _ _ h => h) (Or.inl ⟨by rfl, ?_⟩) hHeld ?_ ?_
     rotate_left
     ·
      rintro w' ⟨s0, s1⟩
      go_simp
      with_reducible rfl
     rotate_left
     · exact uQ
     refine pure_ (i := 11) (N := some 22) (v := ?_) (a' := ?_) (uA 50 4095) rfl rfl (any_of HT_.out (by kernel_rfl)) (fun _ _ _ h => h) (Or.inl ⟨by rfl, ?_⟩) ?_ ?_
     rotate_left
     ·
      intro w'
      go_simp
      with_reducible rfl
     rotate_left
     · exact uQ
     refine pure_ (i := 12) (N := some 23) (v := ?_) (a' := ?_) (uA 50 8191) rfl rfl (any_of HT_.out (by kernel_rfl)) (fun _ _ _ h => h) (Or.inl ⟨by rfl, ?_⟩) ?_ ?_
     rotate_left
     ·
      intro w'
      go_simp
      with_reducible rfl
     rotate_left
     · exact uQ
     refine pure_ (i := 13) (N := some 24) (v := ?_) (a' := ?_) (uA 50 16383) rfl rfl (any_of HT_.out (by kernel_rfl)) (fun _ _ _ h => h) (Or.inl ⟨by rfl, ?_⟩) ?_ ?_
     rotate_left
     ·
      intro w'
      go_simp
      with_reducible rfl
     rotate_left
     · exact uQ
     refine pure_ (i := 14) (N := some 25) (v := ?_) (a' := ?_) (uA 50 32767) rfl rfl (any_of HT_.out (by kernel_rfl)) (fun _ _ _ h => h) (Or.inl ⟨by rfl, ?_⟩) ?_ ?_
     rotate_left
     ·
      intro w'
      go_simp
      with_reducible rfl
     rotate_left
     · exact uQ
     refine take_ (i := 15) (N := some 26) (v := ?_) (a' := ?_) (uA 50 65535) rfl rfl (take_ofW HT_.out HW_.out (by kernel_rfl)) (fun _ _ _ h => h) (Or.inl ⟨by rfl, ?_⟩) hHeld ?_ ?_
     rotate_left
     ·
      rintro w' ⟨s0, s1⟩
      go_simp
      with_reducible rfl
     rotate_left
     · exact uQ
     refine pure_ (i := 16) (N := some 27) (v := ?_) (a' := ?_) (uA 50 131071) rfl rfl (any_of HT_.out (by kernel_rfl)) (fun _ _ _ h => h) (Or.inl ⟨by rfl, ?_⟩) ?_ ?_
     rotate_left
     ·
      intro w'
      go_simp
      with_reducible rfl
     rotate_left
     · exact uQ
     refine pure_ (i := 17) (N := some 28) (v := ?_) (a' := ?_) (uA 50 262143) rfl rfl (any_of HT_.out (by kernel_rfl)) (fun _ _ _ h => h) (Or.inl ⟨by rfl, ?_⟩) ?_ ?_
     rotate_left
     ·
      intro w'
      go_simp
      with_reducible rfl
     rotate_left
     · exact uQ
     refine pure_ (i := 18) (N := some 29) (v := ?_) (a' := ?_) (uA 50 524287) rfl rfl (any_of HT_.out (by kernel_rfl)) (fun _ _ _ h => h) (Or.inl ⟨by rfl, ?_⟩) ?_ ?_
     rotate_left
     ·
      intro w'
      go_simp
      with_reducible rfl
     rotate_left
     · exact uQ
     refine pure_ (i := 19) (N := some 30) (v := ?_) (a' := ?_) (uA 50 1048575) rfl rfl (any_of HT_.out (by kernel_rfl)) (fun _ _ _ h => h) (Or.inl ⟨by rfl, ?_⟩) ?_ ?_
     rotate_left
     ·
      intro w'
      go_simp
      with_reducible rfl
     rotate_left
     · exact uQ
     refine pure_ (i := 22) (N := some 33) (v := ?_) (a' := ?_) (uA 50 5242879) rfl rfl (any_of HT_.out (by kernel_rfl)) (fun _ _ _ h => h) (Or.inl ⟨by rfl, ?_⟩) ?_ ?_
     rotate_left
     ·
      intro w'
      go_simp
      with_reducible rfl
     rotate_left
     · exact uQ
     refine take_ (i := 20) (N := some 31) (v := ?_) (a' := ?_) (uA 50 6291455) rfl rfl (take_ofW HT_.out HW_.out (by kernel_rfl)) (fun _ _ _ h => h) (Or.inl ⟨by rfl, ?_⟩) hHeld ?_ ?_
     rotate_left
     ·
      rintro w' ⟨s0, s1⟩
      go_simp
      with_reducible rfl
     rotate_left
     · exact uQ
     refine take_ (i := 23) (N := some 34) (v := ?_) (a' := ?_) (uA 50 14680063) rfl rfl (take_ofW HT_.out HW_.out (by kernel_rfl)) (fun _ _ _ h => h) (Or.inl ⟨by rfl, ?_⟩) hHeld ?_ ?_
     rotate_left
     ·
      rintro w' ⟨s0, s1⟩
      go_simp
      with_reducible rfl
     rotate_left
     · exact uQ
     refine one_ (i := 21) (N := some 32) (uA 50 16777215) rfl rfl (one_of HT_.out (by kernel_rfl)) (by decide) (fun K hK => ?_)
     refine goes_ Try.func105 (by kernel_rfl) rfl #[.int .u64 a0_0] (by rfl) rfl rfl uM ?_
     with_reducible refine (windbreakref05_least.calls k a0_0 t505 _ A12.out).mono ?_
     rintro e w' ⟨rfl, ⟨nd, rfl⟩⟩
     refine ⟨_, rfl, ?_⟩; refine hK.out _ _ ⟨(blk_cell BK504.out 0).trans rfl, (blk_cell BK504.out 1).trans rfl⟩ (fun hHeld => ?_); clear hK K; refine norm_ (a' := ?_) ?_ ?_; rotate_left
     · exact (show Act.put _ (some 32) _ = _ from uQ)
     refine pure_ (i := 24) (N := some 35) (v := ?_) (a' := ?_) (uA 50 33554431) rfl rfl (any_of HT_.out (by kernel_rfl)) (fun _ _ _ h => h) (Or.inl ⟨by rfl, ?_⟩) ?_ ?_
     rotate_left
     ·
      intro w'
      go_simp
      with_reducible rfl
     rotate_left
     · exact uQ
     refine pure_ (i := 25) (N := some 36) (v := ?_) (a' := ?_) (uA 50 67108863) rfl rfl (any_of HT_.out (by kernel_rfl)) (fun _ _ _ h => h) (Or.inl ⟨by rfl, ?_⟩) ?_ ?_
     rotate_left
     ·
      intro w'
      go_simp
      with_reducible rfl
     rotate_left
     · exact uQ
     refine pure_ (i := 26) (N := some 37) (v := ?_) (a' := ?_) (uA 50 134217727) rfl rfl (any_of HT_.out (by kernel_rfl)) (fun _ _ _ h => h) (Or.inl ⟨by rfl, ?_⟩) ?_ ?_
     rotate_left
     ·
      intro w'
      go_simp
      with_reducible rfl
     rotate_left
     · exact uQ
     refine pure_ (i := 27) (N := some 38) (v := ?_) (a' := ?_) (uA 50 268435455) rfl rfl (any_of HT_.out (by kernel_rfl)) (fun _ _ _ h => h) (Or.inl ⟨by rfl, ?_⟩) ?_ ?_
     rotate_left
     ·
      intro w'
      go_simp
      with_reducible rfl
     rotate_left
     · exact uQ
     refine pure_ (i := 30) (N := some 41) (v := ?_) (a' := ?_) (uA 50 1342177279) rfl rfl (any_of HT_.out (by kernel_rfl)) (fun _ _ _ h => h) (Or.inl ⟨by rfl, ?_⟩) ?_ ?_
     rotate_left
     ·
      intro w'
      go_simp
      with_reducible rfl
     rotate_left
     · exact uQ
     refine take_ (i := 28) (N := some 39) (v := ?_) (a' := ?_) (uA 50 1610612735) rfl rfl (take_ofW HT_.out HW_.out (by kernel_rfl)) (fun _ _ _ h => h) (Or.inl ⟨by rfl, ?_⟩) hHeld ?_ ?_
     rotate_left
     ·
      rintro w' ⟨s0, s1⟩
      go_simp
      with_reducible rfl
     rotate_left
     · exact uQ
     refine take_ (i := 31) (N := some 42) (v := ?_) (a' := ?_) (uA 50 3758096383) rfl rfl (take_ofW HT_.out HW_.out (by kernel_rfl)) (fun _ _ _ h => h) (Or.inl ⟨by rfl, ?_⟩) hHeld ?_ ?_
     rotate_left
     ·
      rintro w' ⟨s0, s1⟩
      go_simp
      with_reducible rfl
     rotate_left
     · exact uQ
     refine one_ (i := 29) (N := some 40) (uA 50 4294967295) rfl rfl (one_of HT_.out (by kernel_rfl)) (by decide) (fun K hK => ?_)
     refine goes_ Try.func105 (by kernel_rfl) rfl #[.int .u64 a0_1] (by rfl) rfl rfl uM ?_
     with_reducible refine (windbreakref05_least.calls k a0_1 t506 _ A14.out).mono ?_
     rintro e w' ⟨rfl, ⟨nd, rfl⟩⟩
     refine ⟨_, rfl, ?_⟩; refine hK.out _ _ ⟨(blk_cell BK504.out 0).trans rfl, (blk_cell BK504.out 1).trans rfl⟩ (fun hHeld => ?_); clear hK K; refine norm_ (a' := ?_) ?_ ?_; rotate_left
     · exact (show Act.put _ (some 40) _ = _ from uQ)
     refine pure_ (i := 32) (N := some 43) (v := ?_) (a' := ?_) (uA 50 8589934591) rfl rfl (any_of HT_.out (by kernel_rfl)) (fun _ _ _ h => h) (Or.inl ⟨by rfl, ?_⟩) ?_ ?_
     rotate_left
     ·
      intro w'
      go_simp
      with_reducible rfl
     rotate_left
     · exact uQ
     refine pure_ (i := 33) (N := some 44) (v := ?_) (a' := ?_) (uA 50 17179869183) rfl rfl (any_of HT_.out (by kernel_rfl)) (fun _ _ _ h => h) (Or.inl ⟨by rfl, ?_⟩) ?_ ?_
     rotate_left
     ·
      intro w'
      go_simp
      with_reducible rfl
     rotate_left
     · exact uQ
     refine pure_ (i := 34) (N := some 45) (v := ?_) (a' := ?_) (uA 50 34359738367) rfl rfl (any_of HT_.out (by kernel_rfl)) (fun _ _ _ h => h) (Or.inl ⟨by rfl, ?_⟩) ?_ ?_
     rotate_left
     ·
      intro w'
      go_simp
      with_reducible rfl
     rotate_left
     · exact uQ
     refine pure_ (i := 35) (N := some 46) (v := ?_) (a' := ?_) (uA 50 68719476735) rfl rfl (any_of HT_.out (by kernel_rfl)) (fun _ _ _ h => h) (Or.inl ⟨by rfl, ?_⟩) ?_ ?_
     rotate_left
     ·
      intro w'
      go_simp
      with_reducible rfl
     rotate_left
     · exact uQ
     refine pure_ (i := 37) (N := some 48) (v := ?_) (a' := ?_) (uA 50 206158430207) rfl rfl (any_of HT_.out (by kernel_rfl)) (fun _ _ _ h => h) (Or.inl ⟨by rfl, ?_⟩) ?_ ?_
     rotate_left
     ·
      intro w'
      go_simp
      with_reducible rfl
     rotate_left
     · exact uQ
     refine take_ (i := 36) (N := some 47) (v := ?_) (a' := ?_) (uA 50 274877906943) rfl rfl (take_ofW HT_.out HW_.out (by kernel_rfl)) (fun _ _ _ h => h) (Or.inl ⟨by rfl, ?_⟩) hHeld ?_ ?_
     rotate_left
     ·
      rintro w' ⟨s0, s1⟩
      go_simp
      with_reducible rfl
     rotate_left
     · exact uQ
     refine take_ (i := 38) (N := some 49) (v := ?_) (a' := ?_) (uA 50 549755813887) rfl rfl (take_ofW HT_.out HW_.out (by kernel_rfl)) (fun _ _ _ h => h) (Or.inl ⟨by rfl, ?_⟩) hHeld ?_ ?_
     rotate_left
     ·
      rintro w' ⟨s0, s1⟩
      go_simp
      with_reducible rfl
     rotate_left
     · exact uQ
     refine pure_ (i := 39) (N := some 50) (v := ?_) (a' := ?_) (uA 50 0xffffffffff) rfl rfl (any_of HT_.out (by kernel_rfl)) (fun _ _ _ h => h) (Or.inl ⟨by rfl, ?_⟩) ?_ ?_
     rotate_left
     ·
      intro w'
      go_simp
      with_reducible rfl
     rotate_left
     · exact uQ
     refine pure_ (i := 40) (N := some 51) (v := ?_) (a' := ?_) (uA 50 2199023255551) rfl rfl (any_of HT_.out (by kernel_rfl)) (fun _ _ _ h => h) (Or.inl ⟨by rfl, ?_⟩) ?_ ?_
     rotate_left
     ·
      intro w'
      go_simp
      with_reducible rfl
     rotate_left
     · exact uQ
     refine pure_ (i := 41) (N := some 52) (v := ?_) (a' := ?_) (uA 50 4398046511103) rfl rfl (any_of HT_.out (by kernel_rfl)) (fun _ _ _ h => h) (Or.inl ⟨by rfl, ?_⟩) ?_ ?_
     rotate_left
     ·
      intro w'
      go_simp
      with_reducible rfl
     rotate_left
     · exact uQ
     refine pure_ (i := 42) (N := some 53) (v := undef) (a' := ?_) (uA 50 8796093022207) rfl rfl (any_of HT_.out (by kernel_rfl)) (fun _ _ _ h => h) (Or.inr ⟨by rfl, rfl⟩) ?_ ?_
     rotate_left
     · exact uQ
     refine pure_ (i := 43) (N := some 54) (v := undef) (a' := ?_) (uA 50 0xfffffffffff) rfl rfl (any_of HT_.out (by kernel_rfl)) (fun _ _ _ h => h) (Or.inr ⟨by rfl, rfl⟩) ?_ ?_
     rotate_left
     · exact uQ
     refine pure_ (i := 44) (N := some 55) (v := undef) (a' := ?_) (uA 50 35184372088831) rfl rfl (any_of HT_.out (by kernel_rfl)) (fun _ _ _ h => h) (Or.inr ⟨by rfl, rfl⟩) ?_ ?_
     rotate_left
     · exact uQ
     refine pure_ (i := 45) (N := some 56) (v := undef) (a' := ?_) (uA 50 70368744177663) rfl rfl (any_of HT_.out (by kernel_rfl)) (fun _ _ _ h => h) (Or.inr ⟨by rfl, rfl⟩) ?_ ?_
     rotate_left
     · exact uQ
     refine pure_ (i := 46) (N := some 57) (v := undef) (a' := ?_) (uA 50 0x7fffffffffff) rfl rfl (any_of HT_.out (by kernel_rfl)) (fun _ _ _ h => h) (Or.inr ⟨by rfl, rfl⟩) ?_ ?_
     rotate_left
     · exact uQ
     refine pure_ (i := 47) (N := some 58) (v := undef) (a' := ?_) (uA 50 0xffffffffffff) rfl rfl (any_of HT_.out (by kernel_rfl)) (fun _ _ _ h => h) (Or.inr ⟨by rfl, rfl⟩) ?_ ?_
     rotate_left
     · exact uQ
     refine pure_ (i := 48) (N := some 59) (v := undef) (a' := ?_) (uA 50 562949953421311) rfl rfl (any_of HT_.out (by kernel_rfl)) (fun _ _ _ h => h) (Or.inr ⟨by rfl, rfl⟩) ?_ ?_
     rotate_left
     · exact uQ
     refine pure_ (i := 49) (N := some 60) (v := ?_) (a' := ?_) (uA 50 0x3ffffffffffff) rfl rfl (any_of HT_.out (by kernel_rfl)) (fun _ _ _ h => h) (Or.inl ⟨by rfl, ?_⟩) ?_ ?_
     rotate_left
     ·
      intro w'
      go_simp
      with_reducible rfl
     rotate_left
     · exact uQ
     refine done_ (done_of HT_.out (by kernel_rfl)) ?_
     try go_wp2
     go_meet
     case rel => exact ⟨_, (true), uG, H', ⟨uW⟩, ⟨uK BK504.out⟩, ⟨uB⟩⟩
    rw [if_neg c16] at H
    have c16b0 : (a0_0 == a0_1) = false := beq_eq_false_iff_ne.mpr c16
    have c16b1 : (a0_0 != a0_1) = true := bne_iff_ne.mpr c16
    replace H := ub H; obtain ⟨t507, A18, H⟩ := H
    replace H := ub H; obtain ⟨t508, A19, H⟩ := H
    have H' := Aside0.mk H
    clear H
    try go_wp2
    replace BK504 := Aside0.mk (blk_drew BK504.out); replace HB := Aside0.mk (below_drew1 HB.out)
    refine start_ (n := 50) (S := fun w' => w'.cell? ⟨gb504, 0, none⟩ = some (.int .u64 a0_0) ∧ w'.cell? ⟨gb504, 1, none⟩ = some (.int .u64 a0_1)) (ds := []) (.replicate 50 false) (by kernel_rfl) rfl rfl ⟨(blk_cell BK504.out 0).trans rfl, (blk_cell BK504.out 1).trans rfl⟩ (fun hHeld => ?_); refine with_tabW windbreakref05_Check.tab1 windbreakref05_Check.bits1 (fun HT_ HW_ => ?_)
    generalize w3.drew = w20 at BK504 HB hHeld ⊢
    refine pure_ (i := 0) (N := some 11) (v := ?_) (a' := ?_) (uA 50 1) rfl rfl (any_of HT_.out (by kernel_rfl)) (fun _ _ _ h => h) (Or.inl ⟨by rfl, ?_⟩) ?_ ?_
    rotate_left
    ·
     intro w'
     go_simp
     with_reducible rfl
    rotate_left
    · exact uQ
    refine take_ (i := 1) (N := some 12) (v := ?_) (a' := ?_) (uA 50 3) rfl rfl (take_ofW HT_.out HW_.out (by kernel_rfl)) (fun _ _ _ h => h) (Or.inl ⟨by rfl, ?_⟩) hHeld ?_ ?_
    rotate_left
    ·
     rintro w' ⟨s0, s1⟩
     go_simp
     with_reducible rfl
    rotate_left
    · exact uQ
    refine pure_ (i := 2) (N := some 13) (v := ?_) (a' := ?_) (uA 50 7) rfl rfl (any_of HT_.out (by kernel_rfl)) (fun _ _ _ h => h) (Or.inl ⟨by rfl, ?_⟩) ?_ ?_
    rotate_left
    ·
     intro w'
     go_simp
     with_reducible rfl
    rotate_left
    · exact uQ
    refine pure_ (i := 3) (N := some 14) (v := ?_) (a' := ?_) (uA 50 15) rfl rfl (any_of HT_.out (by kernel_rfl)) (fun _ _ _ h => h) (Or.inl ⟨by rfl, ?_⟩) ?_ ?_
    rotate_left
    ·
     intro w'
     go_simp
     with_reducible rfl
    rotate_left
    · exact uQ
    refine pure_ (i := 4) (N := some 15) (v := ?_) (a' := ?_) (uA 50 31) rfl rfl (any_of HT_.out (by kernel_rfl)) (fun _ _ _ h => h) (Or.inl ⟨by rfl, ?_⟩) ?_ ?_
    rotate_left
    ·
     intro w'
     go_simp
     with_reducible rfl
    rotate_left
    · exact uQ
    refine take_ (i := 5) (N := some 16) (v := ?_) (a' := ?_) (uA 50 63) rfl rfl (take_ofW HT_.out HW_.out (by kernel_rfl)) (fun _ _ _ h => h) (Or.inl ⟨by rfl, ?_⟩) hHeld ?_ ?_
    rotate_left
    ·
     rintro w' ⟨s0, s1⟩
     go_simp
     with_reducible rfl
    rotate_left
    · exact uQ
    refine pure_ (i := 6) (N := some 17) (v := ?_) (a' := ?_) (uA 50 127) rfl rfl (any_of HT_.out (by kernel_rfl)) (fun _ _ _ h => h) (Or.inl ⟨by rfl, ?_⟩) ?_ ?_
    rotate_left
    ·
     intro w'
     go_simp
     with_reducible rfl
    rotate_left
    · exact uQ
    refine pure_ (i := 7) (N := some 18) (v := ?_) (a' := ?_) (uA 50 255) rfl rfl (any_of HT_.out (by kernel_rfl)) (fun _ _ _ h => h) (Or.inl ⟨by rfl, ?_⟩) ?_ ?_
    rotate_left
    ·
     intro w'
     go_simp
     with_reducible rfl
    rotate_left
    · exact uQ
    refine pure_ (i := 8) (N := some 19) (v := ?_) (a' := ?_) (uA 50 511) rfl rfl (any_of HT_.out (by kernel_rfl)) (fun _ _ _ h => h) (Or.inl ⟨by rfl, ?_⟩) ?_ ?_
    rotate_left
    ·
     intro w'
     go_simp
     with_reducible rfl
    rotate_left
    · exact uQ
    refine pure_ (i := 9) (N := some 20) (v := ?_) (a' := ?_) (uA 50 1023) rfl rfl (any_of HT_.out (by kernel_rfl)) (fun _ _ _ h => h) (Or.inl ⟨by rfl, ?_⟩) ?_ ?_
    rotate_left
    ·
     intro w'
     go_simp
     with_reducible rfl
    rotate_left
    · exact uQ
    refine take_ (i := 10) (N := some 21) (v := ?_) (a' := ?_) (uA 50 2047) rfl rfl (take_ofW HT_.out HW_.out (by kernel_rfl)) (fun _ _ _ h => h) (Or.inl ⟨by rfl, ?_⟩) hHeld ?_ ?_
    rotate_left
    ·
     rintro w' ⟨s0, s1⟩
     go_simp
     with_reducible rfl
    rotate_left
    · exact uQ
    refine pure_ (i := 11) (N := some 22) (v := ?_) (a' := ?_) (uA 50 4095) rfl rfl (any_of HT_.out (by kernel_rfl)) (fun _ _ _ h => h) (Or.inl ⟨by rfl, ?_⟩) ?_ ?_
    rotate_left
    ·
     intro w'
     go_simp
     with_reducible rfl
    rotate_left
    · exact uQ
    refine pure_ (i := 12) (N := some 23) (v := ?_) (a' := ?_) (uA 50 8191) rfl rfl (any_of HT_.out (by kernel_rfl)) (fun _ _ _ h => h) (Or.inl ⟨by rfl, ?_⟩) ?_ ?_
    rotate_left
    ·
     intro w'
     go_simp
     with_reducible rfl
    rotate_left
    · exact uQ
    refine pure_ (i := 13) (N := some 24) (v := ?_) (a' := ?_) (uA 50 16383) rfl rfl (any_of HT_.out (by kernel_rfl)) (fun _ _ _ h => h) (Or.inl ⟨by rfl, ?_⟩) ?_ ?_
    rotate_left
    ·
     intro w'
     go_simp
     with_reducible rfl
    rotate_left
    · exact uQ
    refine pure_ (i := 14) (N := some 25) (v := ?_) (a' := ?_) (uA 50 32767) rfl rfl (any_of HT_.out (by kernel_rfl)) (fun _ _ _ h => h) (Or.inl ⟨by rfl, ?_⟩) ?_ ?_
    rotate_left
    ·
     intro w'
     go_simp
     with_reducible rfl
    rotate_left
    · exact uQ
    refine take_ (i := 15) (N := some 26) (v := ?_) (a' := ?_) (uA 50 65535) rfl rfl (take_ofW HT_.out HW_.out (by kernel_rfl)) (fun _ _ _ h => h) (Or.inl ⟨by rfl, ?_⟩) hHeld ?_ ?_
    rotate_left
    ·
     rintro w' ⟨s0, s1⟩
     go_simp
     with_reducible rfl
    rotate_left
    · exact uQ
    refine pure_ (i := 16) (N := some 27) (v := ?_) (a' := ?_) (uA 50 131071) rfl rfl (any_of HT_.out (by kernel_rfl)) (fun _ _ _ h => h) (Or.inl ⟨by rfl, ?_⟩) ?_ ?_
    rotate_left
    ·
     intro w'
     go_simp
     with_reducible rfl
    rotate_left
    · exact uQ
    refine pure_ (i := 17) (N := some 28) (v := ?_) (a' := ?_) (uA 50 262143) rfl rfl (any_of HT_.out (by kernel_rfl)) (fun _ _ _ h => h) (Or.inl ⟨by rfl, ?_⟩) ?_ ?_
    rotate_left
    ·
     intro w'
     go_simp
     with_reducible rfl
    rotate_left
    · exact uQ
    refine pure_ (i := 18) (N := some 29) (v := ?_) (a' := ?_) (uA 50 524287) rfl rfl (any_of HT_.out (by kernel_rfl)) (fun _ _ _ h => h) (Or.inl ⟨by rfl, ?_⟩) ?_ ?_
    rotate_left
    ·
     intro w'
     go_simp
     with_reducible rfl
    rotate_left
    · exact uQ
    refine pure_ (i := 19) (N := some 30) (v := ?_) (a' := ?_) (uA 50 1048575) rfl rfl (any_of HT_.out (by kernel_rfl)) (fun _ _ _ h => h) (Or.inl ⟨by rfl, ?_⟩) ?_ ?_
    rotate_left
    ·
     intro w'
     go_simp
     with_reducible rfl
    rotate_left
    · exact uQ
    refine pure_ (i := 22) (N := some 33) (v := ?_) (a' := ?_) (uA 50 5242879) rfl rfl (any_of HT_.out (by kernel_rfl)) (fun _ _ _ h => h) (Or.inl ⟨by rfl, ?_⟩) ?_ ?_
    rotate_left
    ·
     intro w'
     go_simp
     with_reducible rfl
    rotate_left
    · exact uQ
    refine take_ (i := 20) (N := some 31) (v := ?_) (a' := ?_) (uA 50 6291455) rfl rfl (take_ofW HT_.out HW_.out (by kernel_rfl)) (fun _ _ _ h => h) (Or.inl ⟨by rfl, ?_⟩) hHeld ?_ ?_
    rotate_left
    ·
     rintro w' ⟨s0, s1⟩
     go_simp
     with_reducible rfl
    rotate_left
    · exact uQ
    refine take_ (i := 23) (N := some 34) (v := ?_) (a' := ?_) (uA 50 14680063) rfl rfl (take_ofW HT_.out HW_.out (by kernel_rfl)) (fun _ _ _ h => h) (Or.inl ⟨by rfl, ?_⟩) hHeld ?_ ?_
    rotate_left
    ·
     rintro w' ⟨s0, s1⟩
     go_simp
     with_reducible rfl
    rotate_left
    · exact uQ
    refine one_ (i := 21) (N := some 32) (uA 50 16777215) rfl rfl (one_of HT_.out (by kernel_rfl)) (by decide) (fun K hK => ?_)
    refine goes_ Try.func105 (by kernel_rfl) rfl #[.int .u64 a0_0] (by rfl) rfl rfl uM ?_
    with_reducible refine (windbreakref05_least.calls k a0_0 t505 _ A12.out).mono ?_
    rintro e w' ⟨rfl, ⟨nd, rfl⟩⟩
    refine ⟨_, rfl, ?_⟩; refine hK.out _ _ ⟨(blk_cell BK504.out 0).trans rfl, (blk_cell BK504.out 1).trans rfl⟩ (fun hHeld => ?_); clear hK K; refine norm_ (a' := ?_) ?_ ?_; rotate_left
    · exact (show Act.put _ (some 32) _ = _ from uQ)
    refine pure_ (i := 24) (N := some 35) (v := ?_) (a' := ?_) (uA 50 33554431) rfl rfl (any_of HT_.out (by kernel_rfl)) (fun _ _ _ h => h) (Or.inl ⟨by rfl, ?_⟩) ?_ ?_
    rotate_left
    ·
     intro w'
     go_simp
     with_reducible rfl
    rotate_left
    · exact uQ
    refine pure_ (i := 25) (N := some 36) (v := ?_) (a' := ?_) (uA 50 67108863) rfl rfl (any_of HT_.out (by kernel_rfl)) (fun _ _ _ h => h) (Or.inl ⟨by rfl, ?_⟩) ?_ ?_
    rotate_left
    ·
     intro w'
     go_simp
     with_reducible rfl
    rotate_left
    · exact uQ
    refine pure_ (i := 26) (N := some 37) (v := ?_) (a' := ?_) (uA 50 134217727) rfl rfl (any_of HT_.out (by kernel_rfl)) (fun _ _ _ h => h) (Or.inl ⟨by rfl, ?_⟩) ?_ ?_
    rotate_left
    ·
     intro w'
     go_simp
     with_reducible rfl
    rotate_left
    · exact uQ
    refine pure_ (i := 27) (N := some 38) (v := ?_) (a' := ?_) (uA 50 268435455) rfl rfl (any_of HT_.out (by kernel_rfl)) (fun _ _ _ h => h) (Or.inl ⟨by rfl, ?_⟩) ?_ ?_
    rotate_left
    ·
     intro w'
     go_simp
     with_reducible rfl
    rotate_left
    · exact uQ
    refine pure_ (i := 30) (N := some 41) (v := ?_) (a' := ?_) (uA 50 1342177279) rfl rfl (any_of HT_.out (by kernel_rfl)) (fun _ _ _ h => h) (Or.inl ⟨by rfl, ?_⟩) ?_ ?_
    rotate_left
    ·
     intro w'
     go_simp
     with_reducible rfl
    rotate_left
    · exact uQ
    refine take_ (i := 28) (N := some 39) (v := ?_) (a' := ?_) (uA 50 1610612735) rfl rfl (take_ofW HT_.out HW_.out (by kernel_rfl)) (fun _ _ _ h => h) (Or.inl ⟨by rfl, ?_⟩) hHeld ?_ ?_
    rotate_left
    ·
     rintro w' ⟨s0, s1⟩
     go_simp
     with_reducible rfl
    rotate_left
    · exact uQ
    refine take_ (i := 31) (N := some 42) (v := ?_) (a' := ?_) (uA 50 3758096383) rfl rfl (take_ofW HT_.out HW_.out (by kernel_rfl)) (fun _ _ _ h => h) (Or.inl ⟨by rfl, ?_⟩) hHeld ?_ ?_
    rotate_left
    ·
     rintro w' ⟨s0, s1⟩
     go_simp
     with_reducible rfl
    rotate_left
    · exact uQ
    refine one_ (i := 29) (N := some 40) (uA 50 4294967295) rfl rfl (one_of HT_.out (by kernel_rfl)) (by decide) (fun K hK => ?_)
    refine goes_ Try.func105 (by kernel_rfl) rfl #[.int .u64 a0_1] (by rfl) rfl rfl uM ?_
    with_reducible refine (windbreakref05_least.calls k a0_1 t506 _ A14.out).mono ?_
    rintro e w' ⟨rfl, ⟨nd, rfl⟩⟩
    refine ⟨_, rfl, ?_⟩; refine hK.out _ _ ⟨(blk_cell BK504.out 0).trans rfl, (blk_cell BK504.out 1).trans rfl⟩ (fun hHeld => ?_); clear hK K; refine norm_ (a' := ?_) ?_ ?_; rotate_left
    · exact (show Act.put _ (some 40) _ = _ from uQ)
    refine pure_ (i := 32) (N := some 43) (v := ?_) (a' := ?_) (uA 50 8589934591) rfl rfl (any_of HT_.out (by kernel_rfl)) (fun _ _ _ h => h) (Or.inl ⟨by rfl, ?_⟩) ?_ ?_
    rotate_left
    ·
     intro w'
     go_simp
     with_reducible rfl
    rotate_left
    · exact uQ
    refine pure_ (i := 33) (N := some 44) (v := ?_) (a' := ?_) (uA 50 17179869183) rfl rfl (any_of HT_.out (by kernel_rfl)) (fun _ _ _ h => h) (Or.inl ⟨by rfl, ?_⟩) ?_ ?_
    rotate_left
    ·
     intro w'
     go_simp
     with_reducible rfl
    rotate_left
    · exact uQ
    refine pure_ (i := 34) (N := some 45) (v := ?_) (a' := ?_) (uA 50 34359738367) rfl rfl (any_of HT_.out (by kernel_rfl)) (fun _ _ _ h => h) (Or.inl ⟨by rfl, ?_⟩) ?_ ?_
    rotate_left
    ·
     intro w'
     go_simp
     with_reducible rfl
    rotate_left
    · exact uQ
    refine pure_ (i := 35) (N := some 46) (v := ?_) (a' := ?_) (uA 50 68719476735) rfl rfl (any_of HT_.out (by kernel_rfl)) (fun _ _ _ h => h) (Or.inl ⟨by rfl, ?_⟩) ?_ ?_
    rotate_left
    ·
     intro w'
     go_simp
     with_reducible rfl
    rotate_left
    · exact uQ
    refine pure_ (i := 37) (N := some 48) (v := ?_) (a' := ?_) (uA 50 206158430207) rfl rfl (any_of HT_.out (by kernel_rfl)) (fun _ _ _ h => h) (Or.inl ⟨by rfl, ?_⟩) ?_ ?_
    rotate_left
    ·
     intro w'
     go_simp
     with_reducible rfl
    rotate_left
    · exact uQ
    refine take_ (i := 36) (N := some 47) (v := ?_) (a' := ?_) (uA 50 274877906943) rfl rfl (take_ofW HT_.out HW_.out (by kernel_rfl)) (fun _ _ _ h => h) (Or.inl ⟨by rfl, ?_⟩) hHeld ?_ ?_
    rotate_left
    ·
     rintro w' ⟨s0, s1⟩
     go_simp
     with_reducible rfl
    rotate_left
    · exact uQ
    refine take_ (i := 38) (N := some 49) (v := ?_) (a' := ?_) (uA 50 549755813887) rfl rfl (take_ofW HT_.out HW_.out (by kernel_rfl)) (fun _ _ _ h => h) (Or.inl ⟨by rfl, ?_⟩) hHeld ?_ ?_
    rotate_left
    ·
     rintro w' ⟨s0, s1⟩
     go_simp
     with_reducible rfl
    rotate_left
    · exact uQ
    refine pure_ (i := 39) (N := some 50) (v := ?_) (a' := ?_) (uA 50 0xffffffffff) rfl rfl (any_of HT_.out (by kernel_rfl)) (fun _ _ _ h => h) (Or.inl ⟨by rfl, ?_⟩) ?_ ?_
    rotate_left
    ·
     intro w'
     go_simp
     with_reducible rfl
    rotate_left
    · exact uQ
    refine pure_ (i := 40) (N := some 51) (v := ?_) (a' := ?_) (uA 50 2199023255551) rfl rfl (any_of HT_.out (by kernel_rfl)) (fun _ _ _ h => h) (Or.inl ⟨by rfl, ?_⟩) ?_ ?_
    rotate_left
    ·
     intro w'
     go_simp
     with_reducible rfl
    rotate_left
    · exact uQ
    refine pure_ (i := 41) (N := some 52) (v := ?_) (a' := ?_) (uA 50 4398046511103) rfl rfl (any_of HT_.out (by kernel_rfl)) (fun _ _ _ h => h) (Or.inl ⟨by rfl, ?_⟩) ?_ ?_
    rotate_left
    ·
     intro w'
     go_simp
     with_reducible rfl
    rotate_left
    · exact uQ
    refine pure_ (i := 42) (N := some 53) (v := ?_) (a' := ?_) (uA 50 8796093022207) rfl rfl (any_of HT_.out (by kernel_rfl)) (fun _ _ _ h => h) (Or.inl ⟨by rfl, ?_⟩) ?_ ?_
    rotate_left
    ·
     intro w'
     go_simp
     with_reducible rfl
    rotate_left
    · exact uQ
    refine pure_ (i := 45) (N := some 56) (v := ?_) (a' := ?_) (uA 50 43980465111039) rfl rfl (any_of HT_.out (by kernel_rfl)) (fun _ _ _ h => h) (Or.inl ⟨by rfl, ?_⟩) ?_ ?_
    rotate_left
    ·
     intro w'
     go_simp
     with_reducible rfl
    rotate_left
    · exact uQ
    refine take_ (i := 43) (N := some 54) (v := ?_) (a' := ?_) (uA 50 52776558133247) rfl rfl (take_ofW HT_.out HW_.out (by kernel_rfl)) (fun _ _ _ h => h) (Or.inl ⟨by rfl, ?_⟩) hHeld ?_ ?_
    rotate_left
    ·
     rintro w' ⟨s0, s1⟩
     go_simp
     with_reducible rfl
    rotate_left
    · exact uQ
    refine take_ (i := 46) (N := some 57) (v := ?_) (a' := ?_) (uA 50 0x6fffffffffff) rfl rfl (take_ofW HT_.out HW_.out (by kernel_rfl)) (fun _ _ _ h => h) (Or.inl ⟨by rfl, ?_⟩) hHeld ?_ ?_
    rotate_left
    ·
     rintro w' ⟨s0, s1⟩
     go_simp
     with_reducible rfl
    rotate_left
    · exact uQ
    refine one_ (i := 44) (N := some 55) (uA 50 0x7fffffffffff) rfl rfl (one_of HT_.out (by kernel_rfl)) (by decide) (fun K hK => ?_)
    refine goes_ Try.func106 (by kernel_rfl) rfl #[.int .u64 a0_0] (by rfl) rfl rfl uM ?_
    with_reducible refine (windbreakref05_bits.calls k a0_0 t507 _ A18.out).mono ?_
    rintro e w21 ⟨rfl, hb⟩
    refine ⟨_, rfl, ?_⟩; replace BK504 := ux BK504 hb; replace HB := uy hb; (try clear hb); refine hK.out _ _ ⟨(blk_cell BK504.out 0).trans rfl, (blk_cell BK504.out 1).trans rfl⟩ (fun hHeld => ?_); clear hK K; refine norm_ (a' := ?_) ?_ ?_; rotate_left
    · exact (show Act.put _ (some 55) _ = _ from uQ)
    refine one_ (i := 47) (N := some 58) (uA 50 0xffffffffffff) rfl rfl (one_of HT_.out (by kernel_rfl)) (by decide) (fun K hK => ?_)
    refine goes_ Try.func106 (by kernel_rfl) rfl #[.int .u64 a0_1] (by rfl) rfl rfl uM ?_
    with_reducible refine (windbreakref05_bits.calls k a0_1 t508 _ A19.out).mono ?_
    rintro e w22 ⟨rfl, hb⟩
    refine ⟨_, rfl, ?_⟩; replace BK504 := ux BK504 hb; replace HB := uy hb; (try clear hb); refine hK.out _ _ ⟨(blk_cell BK504.out 0).trans rfl, (blk_cell BK504.out 1).trans rfl⟩ (fun hHeld => ?_); clear hK K; refine norm_ (a' := ?_) ?_ ?_; rotate_left
    · exact (show Act.put _ (some 58) _ = _ from uQ)
    refine pure_ (i := 48) (N := some 59) (v := ?_) (a' := ?_) (uA 50 562949953421311) rfl rfl (any_of HT_.out (by kernel_rfl)) (fun _ _ _ h => h) (Or.inl ⟨by rfl, ?_⟩) ?_ ?_
    rotate_left
    ·
     intro w'
     go_simp
     with_reducible rfl
    rotate_left
    · exact uQ
    refine pure_ (i := 49) (N := some 60) (v := ?_) (a' := ?_) (uA 50 0x3ffffffffffff) rfl rfl (any_of HT_.out (by kernel_rfl)) (fun _ _ _ h => h) (Or.inl ⟨by rfl, ?_⟩) ?_ ?_
    rotate_left
    ·
     intro w'
     go_simp
     with_reducible rfl
    rotate_left
    · exact uQ
    refine done_ (done_of HT_.out (by kernel_rfl)) ?_
    try go_wp2
    go_meet
    case rel => exact ⟨_, ((t507 != t508)), uG, H', ⟨uW⟩, ⟨uK BK504.out⟩, ⟨uB⟩⟩
   rw [if_neg c15] at H
   have c15b0 : (t506 == a0_1) = false := beq_eq_false_iff_ne.mpr c15
   have c15b1 : (t506 != a0_1) = true := bne_iff_ne.mpr c15
   have H' := Aside0.mk H
   clear H
   try go_wp2
   replace BK504 := Aside0.mk (blk_drew BK504.out); replace HB := Aside0.mk (below_drew1 HB.out)
   refine start_ (n := 50) (S := fun w' => w'.cell? ⟨gb504, 0, none⟩ = some (.int .u64 a0_0) ∧ w'.cell? ⟨gb504, 1, none⟩ = some (.int .u64 a0_1)) (ds := []) (.replicate 50 false) (by kernel_rfl) rfl rfl ⟨(blk_cell BK504.out 0).trans rfl, (blk_cell BK504.out 1).trans rfl⟩ (fun hHeld => ?_); refine with_tabW windbreakref05_Check.tab1 windbreakref05_Check.bits1 (fun HT_ HW_ => ?_)
   generalize w3.drew = w23 at BK504 HB hHeld ⊢
   refine pure_ (i := 0) (N := some 11) (v := ?_) (a' := ?_) (uA 50 1) rfl rfl (any_of HT_.out (by kernel_rfl)) (fun _ _ _ h => h) (Or.inl ⟨by rfl, ?_⟩) ?_ ?_
   rotate_left
   ·
    intro w'
    go_simp
    with_reducible rfl
   rotate_left
   · exact uQ
   refine take_ (i := 1) (N := some 12) (v := ?_) (a' := ?_) (uA 50 3) rfl rfl (take_ofW HT_.out HW_.out (by kernel_rfl)) (fun _ _ _ h => h) (Or.inl ⟨by rfl, ?_⟩) hHeld ?_ ?_
   rotate_left
   ·
    rintro w' ⟨s0, s1⟩
    go_simp
    with_reducible rfl
   rotate_left
   · exact uQ
   refine pure_ (i := 2) (N := some 13) (v := ?_) (a' := ?_) (uA 50 7) rfl rfl (any_of HT_.out (by kernel_rfl)) (fun _ _ _ h => h) (Or.inl ⟨by rfl, ?_⟩) ?_ ?_
   rotate_left
   ·
    intro w'
    go_simp
    with_reducible rfl
   rotate_left
   · exact uQ
   refine pure_ (i := 3) (N := some 14) (v := ?_) (a' := ?_) (uA 50 15) rfl rfl (any_of HT_.out (by kernel_rfl)) (fun _ _ _ h => h) (Or.inl ⟨by rfl, ?_⟩) ?_ ?_
   rotate_left
   ·
    intro w'
    go_simp
    with_reducible rfl
   rotate_left
   · exact uQ
   refine pure_ (i := 4) (N := some 15) (v := ?_) (a' := ?_) (uA 50 31) rfl rfl (any_of HT_.out (by kernel_rfl)) (fun _ _ _ h => h) (Or.inl ⟨by rfl, ?_⟩) ?_ ?_
   rotate_left
   ·
    intro w'
    go_simp
    with_reducible rfl
   rotate_left
   · exact uQ
   refine take_ (i := 5) (N := some 16) (v := ?_) (a' := ?_) (uA 50 63) rfl rfl (take_ofW HT_.out HW_.out (by kernel_rfl)) (fun _ _ _ h => h) (Or.inl ⟨by rfl, ?_⟩) hHeld ?_ ?_
   rotate_left
   ·
    rintro w' ⟨s0, s1⟩
    go_simp
    with_reducible rfl
   rotate_left
   · exact uQ
   refine pure_ (i := 6) (N := some 17) (v := ?_) (a' := ?_) (uA 50 127) rfl rfl (any_of HT_.out (by kernel_rfl)) (fun _ _ _ h => h) (Or.inl ⟨by rfl, ?_⟩) ?_ ?_
   rotate_left
   ·
    intro w'
    go_simp
    with_reducible rfl
   rotate_left
   · exact uQ
   refine pure_ (i := 7) (N := some 18) (v := ?_) (a' := ?_) (uA 50 255) rfl rfl (any_of HT_.out (by kernel_rfl)) (fun _ _ _ h => h) (Or.inl ⟨by rfl, ?_⟩) ?_ ?_
   rotate_left
   ·
    intro w'
    go_simp
    with_reducible rfl
   rotate_left
   · exact uQ
   refine pure_ (i := 8) (N := some 19) (v := ?_) (a' := ?_) (uA 50 511) rfl rfl (any_of HT_.out (by kernel_rfl)) (fun _ _ _ h => h) (Or.inl ⟨by rfl, ?_⟩) ?_ ?_
   rotate_left
   ·
    intro w'
    go_simp
    with_reducible rfl
   rotate_left
   · exact uQ
   refine pure_ (i := 9) (N := some 20) (v := ?_) (a' := ?_) (uA 50 1023) rfl rfl (any_of HT_.out (by kernel_rfl)) (fun _ _ _ h => h) (Or.inl ⟨by rfl, ?_⟩) ?_ ?_
   rotate_left
   ·
    intro w'
    go_simp
    with_reducible rfl
   rotate_left
   · exact uQ
   refine take_ (i := 10) (N := some 21) (v := ?_) (a' := ?_) (uA 50 2047) rfl rfl (take_ofW HT_.out HW_.out (by kernel_rfl)) (fun _ _ _ h => h) (Or.inl ⟨by rfl, ?_⟩) hHeld ?_ ?_
   rotate_left
   ·
    rintro w' ⟨s0, s1⟩
    go_simp
    with_reducible rfl
   rotate_left
   · exact uQ
   refine pure_ (i := 11) (N := some 22) (v := ?_) (a' := ?_) (uA 50 4095) rfl rfl (any_of HT_.out (by kernel_rfl)) (fun _ _ _ h => h) (Or.inl ⟨by rfl, ?_⟩) ?_ ?_
   rotate_left
   ·
    intro w'
    go_simp
    with_reducible rfl
   rotate_left
   · exact uQ
   refine pure_ (i := 12) (N := some 23) (v := ?_) (a' := ?_) (uA 50 8191) rfl rfl (any_of HT_.out (by kernel_rfl)) (fun _ _ _ h => h) (Or.inl ⟨by rfl, ?_⟩) ?_ ?_
   rotate_left
   ·
    intro w'
    go_simp
    with_reducible rfl
   rotate_left
   · exact uQ
   refine pure_ (i := 13) (N := some 24) (v := ?_) (a' := ?_) (uA 50 16383) rfl rfl (any_of HT_.out (by kernel_rfl)) (fun _ _ _ h => h) (Or.inl ⟨by rfl, ?_⟩) ?_ ?_
   rotate_left
   ·
    intro w'
    go_simp
    with_reducible rfl
   rotate_left
   · exact uQ
   refine pure_ (i := 14) (N := some 25) (v := ?_) (a' := ?_) (uA 50 32767) rfl rfl (any_of HT_.out (by kernel_rfl)) (fun _ _ _ h => h) (Or.inl ⟨by rfl, ?_⟩) ?_ ?_
   rotate_left
   ·
    intro w'
    go_simp
    with_reducible rfl
   rotate_left
   · exact uQ
   refine take_ (i := 15) (N := some 26) (v := ?_) (a' := ?_) (uA 50 65535) rfl rfl (take_ofW HT_.out HW_.out (by kernel_rfl)) (fun _ _ _ h => h) (Or.inl ⟨by rfl, ?_⟩) hHeld ?_ ?_
   rotate_left
   ·
    rintro w' ⟨s0, s1⟩
    go_simp
    with_reducible rfl
   rotate_left
   · exact uQ
   refine pure_ (i := 16) (N := some 27) (v := ?_) (a' := ?_) (uA 50 131071) rfl rfl (any_of HT_.out (by kernel_rfl)) (fun _ _ _ h => h) (Or.inl ⟨by rfl, ?_⟩) ?_ ?_
   rotate_left
   ·
    intro w'
    go_simp
    with_reducible rfl
   rotate_left
   · exact uQ
   refine pure_ (i := 17) (N := some 28) (v := ?_) (a' := ?_) (uA 50 262143) rfl rfl (any_of HT_.out (by kernel_rfl)) (fun _ _ _ h => h) (Or.inl ⟨by rfl, ?_⟩) ?_ ?_
   rotate_left
   ·
    intro w'
    go_simp
    with_reducible rfl
   rotate_left
   · exact uQ
   refine pure_ (i := 18) (N := some 29) (v := ?_) (a' := ?_) (uA 50 524287) rfl rfl (any_of HT_.out (by kernel_rfl)) (fun _ _ _ h => h) (Or.inl ⟨by rfl, ?_⟩) ?_ ?_
   rotate_left
   ·
    intro w'
    go_simp
    with_reducible rfl
   rotate_left
   · exact uQ
   refine pure_ (i := 19) (N := some 30) (v := ?_) (a' := ?_) (uA 50 1048575) rfl rfl (any_of HT_.out (by kernel_rfl)) (fun _ _ _ h => h) (Or.inl ⟨by rfl, ?_⟩) ?_ ?_
   rotate_left
   ·
    intro w'
    go_simp
    with_reducible rfl
   rotate_left
   · exact uQ
   refine pure_ (i := 22) (N := some 33) (v := ?_) (a' := ?_) (uA 50 5242879) rfl rfl (any_of HT_.out (by kernel_rfl)) (fun _ _ _ h => h) (Or.inl ⟨by rfl, ?_⟩) ?_ ?_
   rotate_left
   ·
    intro w'
    go_simp
    with_reducible rfl
   rotate_left
   · exact uQ
   refine take_ (i := 20) (N := some 31) (v := ?_) (a' := ?_) (uA 50 6291455) rfl rfl (take_ofW HT_.out HW_.out (by kernel_rfl)) (fun _ _ _ h => h) (Or.inl ⟨by rfl, ?_⟩) hHeld ?_ ?_
   rotate_left
   ·
    rintro w' ⟨s0, s1⟩
    go_simp
    with_reducible rfl
   rotate_left
   · exact uQ
   refine take_ (i := 23) (N := some 34) (v := ?_) (a' := ?_) (uA 50 14680063) rfl rfl (take_ofW HT_.out HW_.out (by kernel_rfl)) (fun _ _ _ h => h) (Or.inl ⟨by rfl, ?_⟩) hHeld ?_ ?_
   rotate_left
   ·
    rintro w' ⟨s0, s1⟩
    go_simp
    with_reducible rfl
   rotate_left
   · exact uQ
   refine one_ (i := 21) (N := some 32) (uA 50 16777215) rfl rfl (one_of HT_.out (by kernel_rfl)) (by decide) (fun K hK => ?_)
   refine goes_ Try.func105 (by kernel_rfl) rfl #[.int .u64 a0_0] (by rfl) rfl rfl uM ?_
   with_reducible refine (windbreakref05_least.calls k a0_0 t505 _ A12.out).mono ?_
   rintro e w' ⟨rfl, ⟨nd, rfl⟩⟩
   refine ⟨_, rfl, ?_⟩; refine hK.out _ _ ⟨(blk_cell BK504.out 0).trans rfl, (blk_cell BK504.out 1).trans rfl⟩ (fun hHeld => ?_); clear hK K; refine norm_ (a' := ?_) ?_ ?_; rotate_left
   · exact (show Act.put _ (some 32) _ = _ from uQ)
   refine pure_ (i := 24) (N := some 35) (v := ?_) (a' := ?_) (uA 50 33554431) rfl rfl (any_of HT_.out (by kernel_rfl)) (fun _ _ _ h => h) (Or.inl ⟨by rfl, ?_⟩) ?_ ?_
   rotate_left
   ·
    intro w'
    go_simp
    with_reducible rfl
   rotate_left
   · exact uQ
   refine pure_ (i := 25) (N := some 36) (v := ?_) (a' := ?_) (uA 50 67108863) rfl rfl (any_of HT_.out (by kernel_rfl)) (fun _ _ _ h => h) (Or.inl ⟨by rfl, ?_⟩) ?_ ?_
   rotate_left
   ·
    intro w'
    go_simp
    with_reducible rfl
   rotate_left
   · exact uQ
   refine pure_ (i := 26) (N := some 37) (v := ?_) (a' := ?_) (uA 50 134217727) rfl rfl (any_of HT_.out (by kernel_rfl)) (fun _ _ _ h => h) (Or.inl ⟨by rfl, ?_⟩) ?_ ?_
   rotate_left
   ·
    intro w'
    go_simp
    with_reducible rfl
   rotate_left
   · exact uQ
   refine pure_ (i := 27) (N := some 38) (v := ?_) (a' := ?_) (uA 50 268435455) rfl rfl (any_of HT_.out (by kernel_rfl)) (fun _ _ _ h => h) (Or.inl ⟨by rfl, ?_⟩) ?_ ?_
   rotate_left
   ·
    intro w'
    go_simp
    with_reducible rfl
   rotate_left
   · exact uQ
   refine pure_ (i := 30) (N := some 41) (v := ?_) (a' := ?_) (uA 50 1342177279) rfl rfl (any_of HT_.out (by kernel_rfl)) (fun _ _ _ h => h) (Or.inl ⟨by rfl, ?_⟩) ?_ ?_
   rotate_left
   ·
    intro w'
    go_simp
    with_reducible rfl
   rotate_left
   · exact uQ
   refine take_ (i := 28) (N := some 39) (v := ?_) (a' := ?_) (uA 50 1610612735) rfl rfl (take_ofW HT_.out HW_.out (by kernel_rfl)) (fun _ _ _ h => h) (Or.inl ⟨by rfl, ?_⟩) hHeld ?_ ?_
   rotate_left
   ·
    rintro w' ⟨s0, s1⟩
    go_simp
    with_reducible rfl
   rotate_left
   · exact uQ
   refine take_ (i := 31) (N := some 42) (v := ?_) (a' := ?_) (uA 50 3758096383) rfl rfl (take_ofW HT_.out HW_.out (by kernel_rfl)) (fun _ _ _ h => h) (Or.inl ⟨by rfl, ?_⟩) hHeld ?_ ?_
   rotate_left
   ·
    rintro w' ⟨s0, s1⟩
    go_simp
    with_reducible rfl
   rotate_left
   · exact uQ
   refine one_ (i := 29) (N := some 40) (uA 50 4294967295) rfl rfl (one_of HT_.out (by kernel_rfl)) (by decide) (fun K hK => ?_)
   refine goes_ Try.func105 (by kernel_rfl) rfl #[.int .u64 a0_1] (by rfl) rfl rfl uM ?_
   with_reducible refine (windbreakref05_least.calls k a0_1 t506 _ A14.out).mono ?_
   rintro e w' ⟨rfl, ⟨nd, rfl⟩⟩
   refine ⟨_, rfl, ?_⟩; refine hK.out _ _ ⟨(blk_cell BK504.out 0).trans rfl, (blk_cell BK504.out 1).trans rfl⟩ (fun hHeld => ?_); clear hK K; refine norm_ (a' := ?_) ?_ ?_; rotate_left
   · exact (show Act.put _ (some 40) _ = _ from uQ)
   refine pure_ (i := 32) (N := some 43) (v := ?_) (a' := ?_) (uA 50 8589934591) rfl rfl (any_of HT_.out (by kernel_rfl)) (fun _ _ _ h => h) (Or.inl ⟨by rfl, ?_⟩) ?_ ?_
   rotate_left
   ·
    intro w'
    go_simp
    with_reducible rfl
   rotate_left
   · exact uQ
   refine pure_ (i := 33) (N := some 44) (v := ?_) (a' := ?_) (uA 50 17179869183) rfl rfl (any_of HT_.out (by kernel_rfl)) (fun _ _ _ h => h) (Or.inl ⟨by rfl, ?_⟩) ?_ ?_
   rotate_left
   ·
    intro w'
    go_simp
    with_reducible rfl
   rotate_left
   · exact uQ
   refine pure_ (i := 34) (N := some 45) (v := ?_) (a' := ?_) (uA 50 34359738367) rfl rfl (any_of HT_.out (by kernel_rfl)) (fun _ _ _ h => h) (Or.inl ⟨by rfl, ?_⟩) ?_ ?_
   rotate_left
   ·
    intro w'
    go_simp
    with_reducible rfl
   rotate_left
   · exact uQ
   refine pure_ (i := 35) (N := some 46) (v := undef) (a' := ?_) (uA 50 68719476735) rfl rfl (any_of HT_.out (by kernel_rfl)) (fun _ _ _ h => h) (Or.inr ⟨by rfl, rfl⟩) ?_ ?_
   rotate_left
   · exact uQ
   refine pure_ (i := 36) (N := some 47) (v := undef) (a' := ?_) (uA 50 137438953471) rfl rfl (any_of HT_.out (by kernel_rfl)) (fun _ _ _ h => h) (Or.inr ⟨by rfl, rfl⟩) ?_ ?_
   rotate_left
   · exact uQ
   refine pure_ (i := 37) (N := some 48) (v := undef) (a' := ?_) (uA 50 274877906943) rfl rfl (any_of HT_.out (by kernel_rfl)) (fun _ _ _ h => h) (Or.inr ⟨by rfl, rfl⟩) ?_ ?_
   rotate_left
   · exact uQ
   refine pure_ (i := 38) (N := some 49) (v := undef) (a' := ?_) (uA 50 549755813887) rfl rfl (any_of HT_.out (by kernel_rfl)) (fun _ _ _ h => h) (Or.inr ⟨by rfl, rfl⟩) ?_ ?_
   rotate_left
   · exact uQ
   refine pure_ (i := 39) (N := some 50) (v := undef) (a' := ?_) (uA 50 0xffffffffff) rfl rfl (any_of HT_.out (by kernel_rfl)) (fun _ _ _ h => h) (Or.inr ⟨by rfl, rfl⟩) ?_ ?_
   rotate_left
   · exact uQ
   refine pure_ (i := 40) (N := some 51) (v := ?_) (a' := ?_) (uA 50 2199023255551) rfl rfl (any_of HT_.out (by kernel_rfl)) (fun _ _ _ h => h) (Or.inl ⟨by rfl, ?_⟩) ?_ ?_
   rotate_left
   ·
    intro w'
    go_simp
    with_reducible rfl
   rotate_left
   · exact uQ
   refine pure_ (i := 41) (N := some 52) (v := ?_) (a' := ?_) (uA 50 4398046511103) rfl rfl (any_of HT_.out (by kernel_rfl)) (fun _ _ _ h => h) (Or.inl ⟨by rfl, ?_⟩) ?_ ?_
   rotate_left
   ·
    intro w'
    go_simp
    with_reducible rfl
   rotate_left
   · exact uQ
   refine pure_ (i := 42) (N := some 53) (v := undef) (a' := ?_) (uA 50 8796093022207) rfl rfl (any_of HT_.out (by kernel_rfl)) (fun _ _ _ h => h) (Or.inr ⟨by rfl, rfl⟩) ?_ ?_
   rotate_left
   · exact uQ
   refine pure_ (i := 43) (N := some 54) (v := undef) (a' := ?_) (uA 50 0xfffffffffff) rfl rfl (any_of HT_.out (by kernel_rfl)) (fun _ _ _ h => h) (Or.inr ⟨by rfl, rfl⟩) ?_ ?_
   rotate_left
   · exact uQ
   refine pure_ (i := 44) (N := some 55) (v := undef) (a' := ?_) (uA 50 35184372088831) rfl rfl (any_of HT_.out (by kernel_rfl)) (fun _ _ _ h => h) (Or.inr ⟨by rfl, rfl⟩) ?_ ?_
   rotate_left
   · exact uQ
   refine pure_ (i := 45) (N := some 56) (v := undef) (a' := ?_) (uA 50 70368744177663) rfl rfl (any_of HT_.out (by kernel_rfl)) (fun _ _ _ h => h) (Or.inr ⟨by rfl, rfl⟩) ?_ ?_
   rotate_left
   · exact uQ
   refine pure_ (i := 46) (N := some 57) (v := undef) (a' := ?_) (uA 50 0x7fffffffffff) rfl rfl (any_of HT_.out (by kernel_rfl)) (fun _ _ _ h => h) (Or.inr ⟨by rfl, rfl⟩) ?_ ?_
   rotate_left
   · exact uQ
   refine pure_ (i := 47) (N := some 58) (v := undef) (a' := ?_) (uA 50 0xffffffffffff) rfl rfl (any_of HT_.out (by kernel_rfl)) (fun _ _ _ h => h) (Or.inr ⟨by rfl, rfl⟩) ?_ ?_
   rotate_left
   · exact uQ
   refine pure_ (i := 48) (N := some 59) (v := undef) (a' := ?_) (uA 50 562949953421311) rfl rfl (any_of HT_.out (by kernel_rfl)) (fun _ _ _ h => h) (Or.inr ⟨by rfl, rfl⟩) ?_ ?_
   rotate_left
   · exact uQ
   refine pure_ (i := 49) (N := some 60) (v := ?_) (a' := ?_) (uA 50 0x3ffffffffffff) rfl rfl (any_of HT_.out (by kernel_rfl)) (fun _ _ _ h => h) (Or.inl ⟨by rfl, ?_⟩) ?_ ?_
   rotate_left
   ·
    intro w'
    go_simp
    with_reducible rfl
   rotate_left
   · exact uQ
   refine done_ (done_of HT_.out (by kernel_rfl)) ?_
   try go_wp2
   go_meet
   case rel => exact ⟨_, (true), uG, H', ⟨uW⟩, ⟨uK BK504.out⟩, ⟨uB⟩⟩
  rw [if_neg c13] at H
  have c13b0 : (t505 == a0_0) = false := beq_eq_false_iff_ne.mpr c13
  have c13b1 : (t505 != a0_0) = true := bne_iff_ne.mpr c13
  have H' := Aside0.mk H
  clear H
  try go_wp2
  replace BK504 := Aside0.mk (blk_drew BK504.out); replace HB := Aside0.mk (below_drew1 HB.out)
  refine start_ (n := 50) (S := fun w' => w'.cell? ⟨gb504, 0, none⟩ = some (.int .u64 a0_0) ∧ w'.cell? ⟨gb504, 1, none⟩ = some (.int .u64 a0_1)) (ds := []) (.replicate 50 false) (by kernel_rfl) rfl rfl ⟨(blk_cell BK504.out 0).trans rfl, (blk_cell BK504.out 1).trans rfl⟩ (fun hHeld => ?_); refine with_tabW windbreakref05_Check.tab1 windbreakref05_Check.bits1 (fun HT_ HW_ => ?_)
  generalize w3.drew = w24 at BK504 HB hHeld ⊢
  refine pure_ (i := 0) (N := some 11) (v := ?_) (a' := ?_) (uA 50 1) rfl rfl (any_of HT_.out (by kernel_rfl)) (fun _ _ _ h => h) (Or.inl ⟨by rfl, ?_⟩) ?_ ?_
  rotate_left
  ·
   intro w'
   go_simp
   with_reducible rfl
  rotate_left
  · exact uQ
  refine take_ (i := 1) (N := some 12) (v := ?_) (a' := ?_) (uA 50 3) rfl rfl (take_ofW HT_.out HW_.out (by kernel_rfl)) (fun _ _ _ h => h) (Or.inl ⟨by rfl, ?_⟩) hHeld ?_ ?_
  rotate_left
  ·
   rintro w' ⟨s0, s1⟩
   go_simp
   with_reducible rfl
  rotate_left
  · exact uQ
  refine pure_ (i := 2) (N := some 13) (v := ?_) (a' := ?_) (uA 50 7) rfl rfl (any_of HT_.out (by kernel_rfl)) (fun _ _ _ h => h) (Or.inl ⟨by rfl, ?_⟩) ?_ ?_
  rotate_left
  ·
   intro w'
   go_simp
   with_reducible rfl
  rotate_left
  · exact uQ
  refine pure_ (i := 3) (N := some 14) (v := ?_) (a' := ?_) (uA 50 15) rfl rfl (any_of HT_.out (by kernel_rfl)) (fun _ _ _ h => h) (Or.inl ⟨by rfl, ?_⟩) ?_ ?_
  rotate_left
  ·
   intro w'
   go_simp
   with_reducible rfl
  rotate_left
  · exact uQ
  refine pure_ (i := 4) (N := some 15) (v := ?_) (a' := ?_) (uA 50 31) rfl rfl (any_of HT_.out (by kernel_rfl)) (fun _ _ _ h => h) (Or.inl ⟨by rfl, ?_⟩) ?_ ?_
  rotate_left
  ·
   intro w'
   go_simp
   with_reducible rfl
  rotate_left
  · exact uQ
  refine take_ (i := 5) (N := some 16) (v := ?_) (a' := ?_) (uA 50 63) rfl rfl (take_ofW HT_.out HW_.out (by kernel_rfl)) (fun _ _ _ h => h) (Or.inl ⟨by rfl, ?_⟩) hHeld ?_ ?_
  rotate_left
  ·
   rintro w' ⟨s0, s1⟩
   go_simp
   with_reducible rfl
  rotate_left
  · exact uQ
  refine pure_ (i := 6) (N := some 17) (v := ?_) (a' := ?_) (uA 50 127) rfl rfl (any_of HT_.out (by kernel_rfl)) (fun _ _ _ h => h) (Or.inl ⟨by rfl, ?_⟩) ?_ ?_
  rotate_left
  ·
   intro w'
   go_simp
   with_reducible rfl
  rotate_left
  · exact uQ
  refine pure_ (i := 7) (N := some 18) (v := ?_) (a' := ?_) (uA 50 255) rfl rfl (any_of HT_.out (by kernel_rfl)) (fun _ _ _ h => h) (Or.inl ⟨by rfl, ?_⟩) ?_ ?_
  rotate_left
  ·
   intro w'
   go_simp
   with_reducible rfl
  rotate_left
  · exact uQ
  refine pure_ (i := 8) (N := some 19) (v := ?_) (a' := ?_) (uA 50 511) rfl rfl (any_of HT_.out (by kernel_rfl)) (fun _ _ _ h => h) (Or.inl ⟨by rfl, ?_⟩) ?_ ?_
  rotate_left
  ·
   intro w'
   go_simp
   with_reducible rfl
  rotate_left
  · exact uQ
  refine pure_ (i := 9) (N := some 20) (v := ?_) (a' := ?_) (uA 50 1023) rfl rfl (any_of HT_.out (by kernel_rfl)) (fun _ _ _ h => h) (Or.inl ⟨by rfl, ?_⟩) ?_ ?_
  rotate_left
  ·
   intro w'
   go_simp
   with_reducible rfl
  rotate_left
  · exact uQ
  refine take_ (i := 10) (N := some 21) (v := ?_) (a' := ?_) (uA 50 2047) rfl rfl (take_ofW HT_.out HW_.out (by kernel_rfl)) (fun _ _ _ h => h) (Or.inl ⟨by rfl, ?_⟩) hHeld ?_ ?_
  rotate_left
  ·
   rintro w' ⟨s0, s1⟩
   go_simp
   with_reducible rfl
  rotate_left
  · exact uQ
  refine pure_ (i := 11) (N := some 22) (v := ?_) (a' := ?_) (uA 50 4095) rfl rfl (any_of HT_.out (by kernel_rfl)) (fun _ _ _ h => h) (Or.inl ⟨by rfl, ?_⟩) ?_ ?_
  rotate_left
  ·
   intro w'
   go_simp
   with_reducible rfl
  rotate_left
  · exact uQ
  refine pure_ (i := 12) (N := some 23) (v := ?_) (a' := ?_) (uA 50 8191) rfl rfl (any_of HT_.out (by kernel_rfl)) (fun _ _ _ h => h) (Or.inl ⟨by rfl, ?_⟩) ?_ ?_
  rotate_left
  ·
   intro w'
   go_simp
   with_reducible rfl
  rotate_left
  · exact uQ
  refine pure_ (i := 13) (N := some 24) (v := ?_) (a' := ?_) (uA 50 16383) rfl rfl (any_of HT_.out (by kernel_rfl)) (fun _ _ _ h => h) (Or.inl ⟨by rfl, ?_⟩) ?_ ?_
  rotate_left
  ·
   intro w'
   go_simp
   with_reducible rfl
  rotate_left
  · exact uQ
  refine pure_ (i := 14) (N := some 25) (v := ?_) (a' := ?_) (uA 50 32767) rfl rfl (any_of HT_.out (by kernel_rfl)) (fun _ _ _ h => h) (Or.inl ⟨by rfl, ?_⟩) ?_ ?_
  rotate_left
  ·
   intro w'
   go_simp
   with_reducible rfl
  rotate_left
  · exact uQ
  refine take_ (i := 15) (N := some 26) (v := ?_) (a' := ?_) (uA 50 65535) rfl rfl (take_ofW HT_.out HW_.out (by kernel_rfl)) (fun _ _ _ h => h) (Or.inl ⟨by rfl, ?_⟩) hHeld ?_ ?_
  rotate_left
  ·
   rintro w' ⟨s0, s1⟩
   go_simp
   with_reducible rfl
  rotate_left
  · exact uQ
  refine pure_ (i := 16) (N := some 27) (v := ?_) (a' := ?_) (uA 50 131071) rfl rfl (any_of HT_.out (by kernel_rfl)) (fun _ _ _ h => h) (Or.inl ⟨by rfl, ?_⟩) ?_ ?_
  rotate_left
  ·
   intro w'
   go_simp
   with_reducible rfl
  rotate_left
  · exact uQ
  refine pure_ (i := 17) (N := some 28) (v := ?_) (a' := ?_) (uA 50 262143) rfl rfl (any_of HT_.out (by kernel_rfl)) (fun _ _ _ h => h) (Or.inl ⟨by rfl, ?_⟩) ?_ ?_
  rotate_left
  ·
   intro w'
   go_simp
   with_reducible rfl
  rotate_left
  · exact uQ
  refine pure_ (i := 18) (N := some 29) (v := ?_) (a' := ?_) (uA 50 524287) rfl rfl (any_of HT_.out (by kernel_rfl)) (fun _ _ _ h => h) (Or.inl ⟨by rfl, ?_⟩) ?_ ?_
  rotate_left
  ·
   intro w'
   go_simp
   with_reducible rfl
  rotate_left
  · exact uQ
  refine pure_ (i := 19) (N := some 30) (v := ?_) (a' := ?_) (uA 50 1048575) rfl rfl (any_of HT_.out (by kernel_rfl)) (fun _ _ _ h => h) (Or.inl ⟨by rfl, ?_⟩) ?_ ?_
  rotate_left
  ·
   intro w'
   go_simp
   with_reducible rfl
  rotate_left
  · exact uQ
  refine pure_ (i := 22) (N := some 33) (v := ?_) (a' := ?_) (uA 50 5242879) rfl rfl (any_of HT_.out (by kernel_rfl)) (fun _ _ _ h => h) (Or.inl ⟨by rfl, ?_⟩) ?_ ?_
  rotate_left
  ·
   intro w'
   go_simp
   with_reducible rfl
  rotate_left
  · exact uQ
  refine take_ (i := 20) (N := some 31) (v := ?_) (a' := ?_) (uA 50 6291455) rfl rfl (take_ofW HT_.out HW_.out (by kernel_rfl)) (fun _ _ _ h => h) (Or.inl ⟨by rfl, ?_⟩) hHeld ?_ ?_
  rotate_left
  ·
   rintro w' ⟨s0, s1⟩
   go_simp
   with_reducible rfl
  rotate_left
  · exact uQ
  refine take_ (i := 23) (N := some 34) (v := ?_) (a' := ?_) (uA 50 14680063) rfl rfl (take_ofW HT_.out HW_.out (by kernel_rfl)) (fun _ _ _ h => h) (Or.inl ⟨by rfl, ?_⟩) hHeld ?_ ?_
  rotate_left
  ·
   rintro w' ⟨s0, s1⟩
   go_simp
   with_reducible rfl
  rotate_left
  · exact uQ
  refine one_ (i := 21) (N := some 32) (uA 50 16777215) rfl rfl (one_of HT_.out (by kernel_rfl)) (by decide) (fun K hK => ?_)
  refine goes_ Try.func105 (by kernel_rfl) rfl #[.int .u64 a0_0] (by rfl) rfl rfl uM ?_
  with_reducible refine (windbreakref05_least.calls k a0_0 t505 _ A12.out).mono ?_
  rintro e w' ⟨rfl, ⟨nd, rfl⟩⟩
  refine ⟨_, rfl, ?_⟩; refine hK.out _ _ ⟨(blk_cell BK504.out 0).trans rfl, (blk_cell BK504.out 1).trans rfl⟩ (fun hHeld => ?_); clear hK K; refine norm_ (a' := ?_) ?_ ?_; rotate_left
  · exact (show Act.put _ (some 32) _ = _ from uQ)
  refine pure_ (i := 24) (N := some 35) (v := ?_) (a' := ?_) (uA 50 33554431) rfl rfl (any_of HT_.out (by kernel_rfl)) (fun _ _ _ h => h) (Or.inl ⟨by rfl, ?_⟩) ?_ ?_
  rotate_left
  ·
   intro w'
   go_simp
   with_reducible rfl
  rotate_left
  · exact uQ
  refine pure_ (i := 25) (N := some 36) (v := ?_) (a' := ?_) (uA 50 67108863) rfl rfl (any_of HT_.out (by kernel_rfl)) (fun _ _ _ h => h) (Or.inl ⟨by rfl, ?_⟩) ?_ ?_
  rotate_left
  ·
   intro w'
   go_simp
   with_reducible rfl
  rotate_left
  · exact uQ
  refine pure_ (i := 26) (N := some 37) (v := ?_) (a' := ?_) (uA 50 134217727) rfl rfl (any_of HT_.out (by kernel_rfl)) (fun _ _ _ h => h) (Or.inl ⟨by rfl, ?_⟩) ?_ ?_
  rotate_left
  ·
   intro w'
   go_simp
   with_reducible rfl
  rotate_left
  · exact uQ
  refine pure_ (i := 27) (N := some 38) (v := undef) (a' := ?_) (uA 50 268435455) rfl rfl (any_of HT_.out (by kernel_rfl)) (fun _ _ _ h => h) (Or.inr ⟨by rfl, rfl⟩) ?_ ?_
  rotate_left
  · exact uQ
  refine pure_ (i := 28) (N := some 39) (v := undef) (a' := ?_) (uA 50 536870911) rfl rfl (any_of HT_.out (by kernel_rfl)) (fun _ _ _ h => h) (Or.inr ⟨by rfl, rfl⟩) ?_ ?_
  rotate_left
  · exact uQ
  refine pure_ (i := 29) (N := some 40) (v := undef) (a' := ?_) (uA 50 1073741823) rfl rfl (any_of HT_.out (by kernel_rfl)) (fun _ _ _ h => h) (Or.inr ⟨by rfl, rfl⟩) ?_ ?_
  rotate_left
  · exact uQ
  refine pure_ (i := 30) (N := some 41) (v := undef) (a' := ?_) (uA 50 2147483647) rfl rfl (any_of HT_.out (by kernel_rfl)) (fun _ _ _ h => h) (Or.inr ⟨by rfl, rfl⟩) ?_ ?_
  rotate_left
  · exact uQ
  refine pure_ (i := 31) (N := some 42) (v := undef) (a' := ?_) (uA 50 4294967295) rfl rfl (any_of HT_.out (by kernel_rfl)) (fun _ _ _ h => h) (Or.inr ⟨by rfl, rfl⟩) ?_ ?_
  rotate_left
  · exact uQ
  refine pure_ (i := 32) (N := some 43) (v := undef) (a' := ?_) (uA 50 8589934591) rfl rfl (any_of HT_.out (by kernel_rfl)) (fun _ _ _ h => h) (Or.inr ⟨by rfl, rfl⟩) ?_ ?_
  rotate_left
  · exact uQ
  refine pure_ (i := 33) (N := some 44) (v := ?_) (a' := ?_) (uA 50 17179869183) rfl rfl (any_of HT_.out (by kernel_rfl)) (fun _ _ _ h => h) (Or.inl ⟨by rfl, ?_⟩) ?_ ?_
  rotate_left
  ·
   intro w'
   go_simp
   with_reducible rfl
  rotate_left
  · exact uQ
  refine pure_ (i := 34) (N := some 45) (v := ?_) (a' := ?_) (uA 50 34359738367) rfl rfl (any_of HT_.out (by kernel_rfl)) (fun _ _ _ h => h) (Or.inl ⟨by rfl, ?_⟩) ?_ ?_
  rotate_left
  ·
   intro w'
   go_simp
   with_reducible rfl
  rotate_left
  · exact uQ
  refine pure_ (i := 35) (N := some 46) (v := undef) (a' := ?_) (uA 50 68719476735) rfl rfl (any_of HT_.out (by kernel_rfl)) (fun _ _ _ h => h) (Or.inr ⟨by rfl, rfl⟩) ?_ ?_
  rotate_left
  · exact uQ
  refine pure_ (i := 36) (N := some 47) (v := undef) (a' := ?_) (uA 50 137438953471) rfl rfl (any_of HT_.out (by kernel_rfl)) (fun _ _ _ h => h) (Or.inr ⟨by rfl, rfl⟩) ?_ ?_
  rotate_left
  · exact uQ
  refine pure_ (i := 37) (N := some 48) (v := undef) (a' := ?_) (uA 50 274877906943) rfl rfl (any_of HT_.out (by kernel_rfl)) (fun _ _ _ h => h) (Or.inr ⟨by rfl, rfl⟩) ?_ ?_
  rotate_left
  · exact uQ
  refine pure_ (i := 38) (N := some 49) (v := undef) (a' := ?_) (uA 50 549755813887) rfl rfl (any_of HT_.out (by kernel_rfl)) (fun _ _ _ h => h) (Or.inr ⟨by rfl, rfl⟩) ?_ ?_
  rotate_left
  · exact uQ
  refine pure_ (i := 39) (N := some 50) (v := undef) (a' := ?_) (uA 50 0xffffffffff) rfl rfl (any_of HT_.out (by kernel_rfl)) (fun _ _ _ h => h) (Or.inr ⟨by rfl, rfl⟩) ?_ ?_
  rotate_left
  · exact uQ
  refine pure_ (i := 40) (N := some 51) (v := ?_) (a' := ?_) (uA 50 2199023255551) rfl rfl (any_of HT_.out (by kernel_rfl)) (fun _ _ _ h => h) (Or.inl ⟨by rfl, ?_⟩) ?_ ?_
  rotate_left
  ·
   intro w'
   go_simp
   with_reducible rfl
  rotate_left
  · exact uQ
  refine pure_ (i := 41) (N := some 52) (v := ?_) (a' := ?_) (uA 50 4398046511103) rfl rfl (any_of HT_.out (by kernel_rfl)) (fun _ _ _ h => h) (Or.inl ⟨by rfl, ?_⟩) ?_ ?_
  rotate_left
  ·
   intro w'
   go_simp
   with_reducible rfl
  rotate_left
  · exact uQ
  refine pure_ (i := 42) (N := some 53) (v := undef) (a' := ?_) (uA 50 8796093022207) rfl rfl (any_of HT_.out (by kernel_rfl)) (fun _ _ _ h => h) (Or.inr ⟨by rfl, rfl⟩) ?_ ?_
  rotate_left
  · exact uQ
  refine pure_ (i := 43) (N := some 54) (v := undef) (a' := ?_) (uA 50 0xfffffffffff) rfl rfl (any_of HT_.out (by kernel_rfl)) (fun _ _ _ h => h) (Or.inr ⟨by rfl, rfl⟩) ?_ ?_
  rotate_left
  · exact uQ
  refine pure_ (i := 44) (N := some 55) (v := undef) (a' := ?_) (uA 50 35184372088831) rfl rfl (any_of HT_.out (by kernel_rfl)) (fun _ _ _ h => h) (Or.inr ⟨by rfl, rfl⟩) ?_ ?_
  rotate_left
  · exact uQ
  refine pure_ (i := 45) (N := some 56) (v := undef) (a' := ?_) (uA 50 70368744177663) rfl rfl (any_of HT_.out (by kernel_rfl)) (fun _ _ _ h => h) (Or.inr ⟨by rfl, rfl⟩) ?_ ?_
  rotate_left
  · exact uQ
  refine pure_ (i := 46) (N := some 57) (v := undef) (a' := ?_) (uA 50 0x7fffffffffff) rfl rfl (any_of HT_.out (by kernel_rfl)) (fun _ _ _ h => h) (Or.inr ⟨by rfl, rfl⟩) ?_ ?_
  rotate_left
  · exact uQ
  refine pure_ (i := 47) (N := some 58) (v := undef) (a' := ?_) (uA 50 0xffffffffffff) rfl rfl (any_of HT_.out (by kernel_rfl)) (fun _ _ _ h => h) (Or.inr ⟨by rfl, rfl⟩) ?_ ?_
  rotate_left
  · exact uQ
  refine pure_ (i := 48) (N := some 59) (v := undef) (a' := ?_) (uA 50 562949953421311) rfl rfl (any_of HT_.out (by kernel_rfl)) (fun _ _ _ h => h) (Or.inr ⟨by rfl, rfl⟩) ?_ ?_
  rotate_left
  · exact uQ
  refine pure_ (i := 49) (N := some 60) (v := ?_) (a' := ?_) (uA 50 0x3ffffffffffff) rfl rfl (any_of HT_.out (by kernel_rfl)) (fun _ _ _ h => h) (Or.inl ⟨by rfl, ?_⟩) ?_ ?_
  rotate_left
  ·
   intro w'
   go_simp
   with_reducible rfl
  rotate_left
  · exact uQ
  refine done_ (done_of HT_.out (by kernel_rfl)) ?_
  try go_wp2
  go_meet
  case rel => exact ⟨_, (true), uG, H', ⟨uW⟩, ⟨uK BK504.out⟩, ⟨uB⟩⟩
 case rest =>
  clear HC2; (try clear c1); (try clear p2); (try clear c10); (try clear c13); (try clear c13b0); (try clear c13b1)
  obtain ⟨kq, x60_1, rfl, HA, HJ1, BK504, HB⟩ := hcut
  cases kq with
  | zero => exact absurd HA.out (by simp [windbreakref05_Check.j0])
  | succ kj1 =>
   have H := HA.out
   clear HA
   simp only [windbreakref05_Check.j0] at H
   by_cases c25 : x60_1 = true
   ·
    subst c25
    have H1 : (some 9) = some r := by rw [if_pos rfl] at H; exact H
    clear H; have H := H1; clear H1
    obtain rfl := Option.some.inj H
    go_wp2
    go_ret
    exact ⟨uF, uB⟩
   replace c25 := Bool.eq_false_iff.mpr c25
   subst c25
   have H1 : ((windbreakref01_Of.f a0_0).bind fun t509 => ((windbreakref01_Of.f a0_1).bind fun t512 => ((windbreakref01_Mul.f kj1 t509 t512).bind fun bt515 => ((windbreakref01_Of.f (IntKind.u64.wrap (a0_0 - 1))).bind fun t519 => ((windbreakref01_Of.f (IntKind.u64.wrap (a0_1 - 1))).bind fun t522 => ((windbreakref01_Mul.f kj1 t519 t522).bind fun bt525 => ((windbreakref03_Gcd.f kj1 bt515.1 bt525.1).bind fun bt529 => ((windbreakref01_Small.f kj1 bt529.1).bind fun bt533 => (if bt533.1 = 1 then (some 0) else (some 9)))))))))) = some r := by rw [if_neg (show ¬ (false = true) by decide)] at H; exact H
   clear H; have H := H1; clear H1
   replace H := ub H; obtain ⟨t509, A26, H⟩ := H
   replace H := ub H; obtain ⟨t512, A27, H⟩ := H
   replace H := ub H; obtain ⟨⟨t515, t516⟩, A28, H⟩ := H
   (try dsimp only at H)
   replace H := ub H; obtain ⟨t519, A29, H⟩ := H
   replace H := ub H; obtain ⟨t522, A30, H⟩ := H
   replace H := ub H; obtain ⟨⟨t525, t526⟩, A31, H⟩ := H
   (try dsimp only at H)
   replace H := ub H; obtain ⟨⟨t529, t530⟩, A32, H⟩ := H
   (try dsimp only at H)
   replace H := ub H; obtain ⟨⟨t533, t534⟩, A33, H⟩ := H
   (try dsimp only at H)
   have HS_ := Aside0.mk H; clear H
   try go_wp2
   replace BK504 := Aside0.mk (blk_drew BK504.out); replace HB := Aside0.mk (below_drew1 HB.out)
   refine start_ (n := 12) (S := fun w' => w'.cell? ⟨gb504, 0, none⟩ = some (.int .u64 a0_0) ∧ w'.cell? ⟨gb504, 1, none⟩ = some (.int .u64 a0_1)) (ds := []) (.replicate 12 false) (by kernel_rfl) rfl rfl ⟨(blk_cell BK504.out 0).trans rfl, (blk_cell BK504.out 1).trans rfl⟩ (fun hHeld => ?_); refine with_tabW windbreakref05_Check.tab3 windbreakref05_Check.bits3 (fun HT_ HW_ => ?_)
   generalize wc.drew = w35 at BK504 HB hHeld ⊢
   refine pure_ (i := 0) (N := some 62) (v := ?_) (a' := ?_) (uA 12 1) rfl rfl (any_of HT_.out (by kernel_rfl)) (fun _ _ _ h => h) (Or.inl ⟨by rfl, ?_⟩) ?_ ?_
   rotate_left
   ·
    intro w'
    go_simp
    with_reducible rfl
   rotate_left
   · exact uQ
   refine pure_ (i := 3) (N := some 65) (v := ?_) (a' := ?_) (uA 12 9) rfl rfl (any_of HT_.out (by kernel_rfl)) (fun _ _ _ h => h) (Or.inl ⟨by rfl, ?_⟩) ?_ ?_
   rotate_left
   ·
    intro w'
    go_simp
    with_reducible rfl
   rotate_left
   · exact uQ
   refine take_ (i := 1) (N := some 63) (v := ?_) (a' := ?_) (uA 12 11) rfl rfl (take_ofW HT_.out HW_.out (by kernel_rfl)) (fun _ _ _ h => h) (Or.inl ⟨by rfl, ?_⟩) hHeld ?_ ?_
   rotate_left
   ·
    rintro w' ⟨s0, s1⟩
    go_simp
    with_reducible rfl
   rotate_left
   · exact uQ
   refine take_ (i := 4) (N := some 66) (v := ?_) (a' := ?_) (uA 12 27) rfl rfl (take_ofW HT_.out HW_.out (by kernel_rfl)) (fun _ _ _ h => h) (Or.inl ⟨by rfl, ?_⟩) hHeld ?_ ?_
   rotate_left
   ·
    rintro w' ⟨s0, s1⟩
    go_simp
    with_reducible rfl
   rotate_left
   · exact uQ
   refine one_ (i := 2) (N := some 64) (uA 12 31) rfl rfl (one_of HT_.out (by kernel_rfl)) (by decide) (fun K hK => ?_)
   refine goes_ Try.func107 (by kernel_rfl) rfl #[.int .u64 a0_0] (by rfl) rfl rfl uM ?_
   with_reducible refine (windbreakref01_Of.calls a0_0 t509 _ A26.out).mono ?_
   rintro e w36 ⟨v510, rfl, ho0, hb⟩
   refine ⟨_, rfl, ?_⟩; have HO511 := Aside0.mk (Kd.R_lower ho0 (below_size uB)); replace BK504 := ux BK504 hb; replace HB := uy hb; (try clear hb ho0); refine hK.out _ _ ⟨(blk_cell BK504.out 0).trans rfl, (blk_cell BK504.out 1).trans rfl⟩ (fun hHeld => ?_); clear hK K; refine norm_ (a' := ?_) ?_ ?_; rotate_left
   · exact (show Act.put _ (some 64) _ = _ from uQ)
   refine one_ (i := 5) (N := some 67) (uA 12 63) rfl rfl (one_of HT_.out (by kernel_rfl)) (by decide) (fun K hK => ?_)
   refine goes_ Try.func107 (by kernel_rfl) rfl #[.int .u64 a0_1] (by rfl) rfl rfl uM ?_
   with_reducible refine (windbreakref01_Of.calls a0_1 t512 _ A27.out).mono ?_
   rintro e w37 ⟨v513, rfl, ho0, hb⟩
   refine ⟨_, rfl, ?_⟩; have HO514 := Aside0.mk (Kd.R_lower (Kd.R_new' ho0 (Kd.R_lt (uR HO511.out))) (below_size uB)); replace HO511 := ueR HO511 ho0 hb; replace BK504 := ux BK504 hb; replace HB := uy hb; (try clear hb ho0)
   obtain ⟨Ao38, co38, eo38⟩ := Kd.R_slice HO511.out
   (first | subst eo38 | (injection eo38 with f1_ f2_ f3_; have f4_ := f1_.symm; have f5_ := f3_.symm; clear f1_ f2_ f3_; subst f4_; subst f5_))
   obtain ⟨Ao39, co39, eo39⟩ := Kd.R_slice HO514.out
   (first | subst eo39 | (injection eo39 with f1_ f2_ f3_; have f4_ := f1_.symm; have f5_ := f3_.symm; clear f1_ f2_ f3_; subst f4_; subst f5_))
   refine hK.out _ _ ⟨(blk_cell BK504.out 0).trans rfl, (blk_cell BK504.out 1).trans rfl⟩ (fun hHeld => ?_); clear hK K; refine norm_ (a' := ?_) ?_ ?_; rotate_left
   · exact (show Act.put _ (some 67) _ = _ from uQ)
   refine one_ (i := 6) (N := some 68) (uA 12 127) rfl rfl (one_of HT_.out (by kernel_rfl)) (by decide) (fun K hK => ?_)
   refine goes_ Try.func84 (by kernel_rfl) rfl #[.slice Ao38 t509.length co38, .slice Ao39 t512.length co39] (by rfl) rfl rfl uM ?_
   with_reducible refine (windbreakref01_Mul.calls kj1 _ _ t509 _ _ t512 t515 t516 _ ?side1 ?side2 ?side3 ?side4 A28.out).mono ?_
   (case side1 => exact uC (Kd.R_reads' HO511.out).2.2)
   (case side2 => exact (Kd.R_reads' HO511.out).2.1)
   (case side3 => exact uC (Kd.R_reads' HO514.out).2.2)
   (case side4 => exact (Kd.R_reads' HO514.out).2.1)
   rintro e w40 ⟨v517, rfl, ho0, hb⟩
   refine ⟨_, rfl, ?_⟩; have HO518 := Aside0.mk (Kd.R_lower (Kd.R_new' (Kd.R_new' ho0 (Kd.R_lt (uR HO511.out))) (Kd.R_lt (uR HO514.out))) (below_size uB)); replace HO511 := ueR HO511 ho0 hb; replace HO514 := ueR HO514 ho0 hb; replace BK504 := ux BK504 hb; replace HB := uy hb; (try clear hb ho0); refine hK.out _ _ ⟨(blk_cell BK504.out 0).trans rfl, (blk_cell BK504.out 1).trans rfl⟩ (fun hHeld => ?_); clear hK K; refine norm_ (a' := ?_) ?_ ?_; rotate_left
   · exact (show Act.put _ (some 68) _ = _ from uQ)
   refine pure_ (i := 7) (N := some 61) (v := ?_) (a' := ?_) (uA 12 255) rfl rfl (any_of HT_.out (by kernel_rfl)) (fun _ _ _ h => h) (Or.inl ⟨by rfl, ?_⟩) ?_ ?_
   rotate_left
   ·
    intro w'
    go_simp
    with_reducible rfl
   rotate_left
   · exact uQ
   refine pure_ (i := 8) (N := some 69) (v := ?_) (a' := ?_) (uA 12 511) rfl rfl (any_of HT_.out (by kernel_rfl)) (fun _ _ _ h => h) (Or.inl ⟨by rfl, ?_⟩) ?_ ?_
   rotate_left
   ·
    intro w'
    go_simp
    with_reducible rfl
   rotate_left
   · exact uQ
   refine pure_ (i := 9) (N := some 70) (v := ?_) (a' := ?_) (uA 12 1023) rfl rfl (any_of HT_.out (by kernel_rfl)) (fun _ _ _ h => h) (Or.inl ⟨by rfl, ?_⟩) ?_ ?_
   rotate_left
   ·
    intro w'
    go_simp
    with_reducible rfl
   rotate_left
   · exact uQ
   refine pure_ (i := 10) (N := some 3) (v := ?_) (a' := ?_) (uA 12 2047) rfl rfl (any_of HT_.out (by kernel_rfl)) (fun _ _ _ h => h) (Or.inl ⟨by rfl, ?_⟩) ?_ ?_
   rotate_left
   ·
    intro w'
    go_simp
    with_reducible rfl
   rotate_left
   · exact uQ
   refine pure_ (i := 11) (N := some 4) (v := ?_) (a' := ?_) (uA 12 4095) rfl rfl (any_of HT_.out (by kernel_rfl)) (fun _ _ _ h => h) (Or.inl ⟨by rfl, ?_⟩) ?_ ?_
   rotate_left
   ·
    intro w'
    go_simp
    with_reducible rfl
   rotate_left
   · exact uQ
   refine done_ (done_of HT_.out (by kernel_rfl)) ?_
   try go_wp2
   replace HO511 := Aside0.mk (Kd.R_drew HO511.out); replace HO514 := Aside0.mk (Kd.R_drew HO514.out); replace HO518 := Aside0.mk (Kd.R_drew HO518.out); replace BK504 := Aside0.mk (blk_drew BK504.out); replace HB := Aside0.mk (below_drew1 HB.out)
   refine start_ (n := 14) (S := fun w' => w'.cell? ⟨gb504, 0, none⟩ = some (.int .u64 a0_0) ∧ w'.cell? ⟨gb504, 1, none⟩ = some (.int .u64 a0_1)) (ds := []) (.replicate 14 false) (by kernel_rfl) rfl rfl ⟨(blk_cell BK504.out 0).trans rfl, (blk_cell BK504.out 1).trans rfl⟩ (fun hHeld => ?_); refine with_tabW windbreakref05_Check.tab4 windbreakref05_Check.bits4 (fun HT_ HW_ => ?_)
   generalize w40.drew = w41 at HO511 HO514 HO518 BK504 HB hHeld ⊢
   refine pure_ (i := 0) (N := some 72) (v := ?_) (a' := ?_) (uA 14 1) rfl rfl (any_of HT_.out (by kernel_rfl)) (fun _ _ _ h => h) (Or.inl ⟨by rfl, ?_⟩) ?_ ?_
   rotate_left
   ·
    intro w'
    go_simp
    with_reducible rfl
   rotate_left
   · exact uQ
   refine pure_ (i := 4) (N := some 76) (v := ?_) (a' := ?_) (uA 14 17) rfl rfl (any_of HT_.out (by kernel_rfl)) (fun _ _ _ h => h) (Or.inl ⟨by rfl, ?_⟩) ?_ ?_
   rotate_left
   ·
    intro w'
    go_simp
    with_reducible rfl
   rotate_left
   · exact uQ
   refine take_ (i := 1) (N := some 73) (v := ?_) (a' := ?_) (uA 14 19) rfl rfl (take_ofW HT_.out HW_.out (by kernel_rfl)) (fun _ _ _ h => h) (Or.inl ⟨by rfl, ?_⟩) hHeld ?_ ?_
   rotate_left
   ·
    rintro w' ⟨s0, s1⟩
    go_simp
    with_reducible rfl
   rotate_left
   · exact uQ
   refine pure_ (i := 2) (N := some 74) (v := ?_) (a' := ?_) (uA 14 23) rfl rfl (any_of HT_.out (by kernel_rfl)) (fun _ _ _ h => h) (Or.inl ⟨by rfl, ?_⟩) ?_ ?_
   rotate_left
   ·
    intro w'
    go_simp
    with_reducible rfl
   rotate_left
   · exact uQ
   refine take_ (i := 5) (N := some 77) (v := ?_) (a' := ?_) (uA 14 55) rfl rfl (take_ofW HT_.out HW_.out (by kernel_rfl)) (fun _ _ _ h => h) (Or.inl ⟨by rfl, ?_⟩) hHeld ?_ ?_
   rotate_left
   ·
    rintro w' ⟨s0, s1⟩
    go_simp
    with_reducible rfl
   rotate_left
   · exact uQ
   refine pure_ (i := 6) (N := some 78) (v := ?_) (a' := ?_) (uA 14 119) rfl rfl (any_of HT_.out (by kernel_rfl)) (fun _ _ _ h => h) (Or.inl ⟨by rfl, ?_⟩) ?_ ?_
   rotate_left
   ·
    intro w'
    go_simp
    with_reducible rfl
   rotate_left
   · exact uQ
   refine one_ (i := 3) (N := some 75) (uA 14 127) rfl rfl (one_of HT_.out (by kernel_rfl)) (by decide) (fun K hK => ?_)
   refine goes_ Try.func107 (by kernel_rfl) rfl #[.int .u64 (IntKind.u64.wrap (a0_0 - 1))] (by rfl) rfl rfl uM ?_
   with_reducible refine (windbreakref01_Of.calls (IntKind.u64.wrap (a0_0 - 1)) t519 _ A29.out).mono ?_
   rintro e w42 ⟨v520, rfl, ho0, hb⟩
   refine ⟨_, rfl, ?_⟩; have HO521 := Aside0.mk (Kd.R_lower (Kd.R_new' (Kd.R_new' (Kd.R_new' ho0 (Kd.R_lt (uR HO511.out))) (Kd.R_lt (uR HO514.out))) (Kd.R_lt (uR HO518.out))) (below_size uB)); replace HO511 := ueR HO511 ho0 hb; replace HO514 := ueR HO514 ho0 hb; replace HO518 := ueR HO518 ho0 hb; replace BK504 := ux BK504 hb; replace HB := uy hb; (try clear hb ho0); refine hK.out _ _ ⟨(blk_cell BK504.out 0).trans rfl, (blk_cell BK504.out 1).trans rfl⟩ (fun hHeld => ?_); clear hK K; refine norm_ (a' := ?_) ?_ ?_; rotate_left
   · exact (show Act.put _ (some 75) _ = _ from uQ)
   refine one_ (i := 7) (N := some 79) (uA 14 255) rfl rfl (one_of HT_.out (by kernel_rfl)) (by decide) (fun K hK => ?_)
   refine goes_ Try.func107 (by kernel_rfl) rfl #[.int .u64 (IntKind.u64.wrap (a0_1 - 1))] (by rfl) rfl rfl uM ?_
   with_reducible refine (windbreakref01_Of.calls (IntKind.u64.wrap (a0_1 - 1)) t522 _ A30.out).mono ?_
   rintro e w43 ⟨v523, rfl, ho0, hb⟩
   refine ⟨_, rfl, ?_⟩; have HO524 := Aside0.mk (Kd.R_lower (Kd.R_new' (Kd.R_new' (Kd.R_new' (Kd.R_new' ho0 (Kd.R_lt (uR HO511.out))) (Kd.R_lt (uR HO514.out))) (Kd.R_lt (uR HO518.out))) (Kd.R_lt (uR HO521.out))) (below_size uB)); replace HO511 := ueR HO511 ho0 hb; replace HO514 := ueR HO514 ho0 hb; replace HO518 := ueR HO518 ho0 hb; replace HO521 := ueR HO521 ho0 hb; replace BK504 := ux BK504 hb; replace HB := uy hb; (try clear hb ho0)
   obtain ⟨Ao44, co44, eo44⟩ := Kd.R_slice HO521.out
   (first | subst eo44 | (injection eo44 with f1_ f2_ f3_; have f4_ := f1_.symm; have f5_ := f3_.symm; clear f1_ f2_ f3_; subst f4_; subst f5_))
   obtain ⟨Ao45, co45, eo45⟩ := Kd.R_slice HO524.out
   (first | subst eo45 | (injection eo45 with f1_ f2_ f3_; have f4_ := f1_.symm; have f5_ := f3_.symm; clear f1_ f2_ f3_; subst f4_; subst f5_))
   refine hK.out _ _ ⟨(blk_cell BK504.out 0).trans rfl, (blk_cell BK504.out 1).trans rfl⟩ (fun hHeld => ?_); clear hK K; refine norm_ (a' := ?_) ?_ ?_; rotate_left
   · exact (show Act.put _ (some 79) _ = _ from uQ)
   refine one_ (i := 8) (N := some 80) (uA 14 511) rfl rfl (one_of HT_.out (by kernel_rfl)) (by decide) (fun K hK => ?_)
   refine goes_ Try.func84 (by kernel_rfl) rfl #[.slice Ao44 t519.length co44, .slice Ao45 t522.length co45] (by rfl) rfl rfl uM ?_
   with_reducible refine (windbreakref01_Mul.calls kj1 _ _ t519 _ _ t522 t525 t526 _ ?side1 ?side2 ?side3 ?side4 A31.out).mono ?_
   (case side1 => exact uC (Kd.R_reads' HO521.out).2.2)
   (case side2 => exact (Kd.R_reads' HO521.out).2.1)
   (case side3 => exact uC (Kd.R_reads' HO524.out).2.2)
   (case side4 => exact (Kd.R_reads' HO524.out).2.1)
   rintro e w46 ⟨v527, rfl, ho0, hb⟩
   refine ⟨_, rfl, ?_⟩; have HO528 := Aside0.mk (Kd.R_lower (Kd.R_new' (Kd.R_new' (Kd.R_new' (Kd.R_new' (Kd.R_new' ho0 (Kd.R_lt (uR HO511.out))) (Kd.R_lt (uR HO514.out))) (Kd.R_lt (uR HO518.out))) (Kd.R_lt (uR HO521.out))) (Kd.R_lt (uR HO524.out))) (below_size uB)); replace HO511 := ueR HO511 ho0 hb; replace HO514 := ueR HO514 ho0 hb; replace HO518 := ueR HO518 ho0 hb; replace HO521 := ueR HO521 ho0 hb; replace HO524 := ueR HO524 ho0 hb; replace BK504 := ux BK504 hb; replace HB := uy hb; (try clear hb ho0); refine hK.out _ _ ⟨(blk_cell BK504.out 0).trans rfl, (blk_cell BK504.out 1).trans rfl⟩ (fun hHeld => ?_); clear hK K; refine norm_ (a' := ?_) ?_ ?_; rotate_left
   · exact (show Act.put _ (some 80) _ = _ from uQ)
   refine pure_ (i := 9) (N := some 71) (v := ?_) (a' := ?_) (uA 14 1023) rfl rfl (any_of HT_.out (by kernel_rfl)) (fun _ _ _ h => h) (Or.inl ⟨by rfl, ?_⟩) ?_ ?_
   rotate_left
   ·
    intro w'
    go_simp
    with_reducible rfl
   rotate_left
   · exact uQ
   refine pure_ (i := 10) (N := some 81) (v := ?_) (a' := ?_) (uA 14 2047) rfl rfl (any_of HT_.out (by kernel_rfl)) (fun _ _ _ h => h) (Or.inl ⟨by rfl, ?_⟩) ?_ ?_
   rotate_left
   ·
    intro w'
    go_simp
    with_reducible rfl
   rotate_left
   · exact uQ
   refine pure_ (i := 11) (N := some 82) (v := ?_) (a' := ?_) (uA 14 4095) rfl rfl (any_of HT_.out (by kernel_rfl)) (fun _ _ _ h => h) (Or.inl ⟨by rfl, ?_⟩) ?_ ?_
   rotate_left
   ·
    intro w'
    go_simp
    with_reducible rfl
   rotate_left
   · exact uQ
   refine pure_ (i := 12) (N := some 5) (v := ?_) (a' := ?_) (uA 14 8191) rfl rfl (any_of HT_.out (by kernel_rfl)) (fun _ _ _ h => h) (Or.inl ⟨by rfl, ?_⟩) ?_ ?_
   rotate_left
   ·
    intro w'
    go_simp
    with_reducible rfl
   rotate_left
   · exact uQ
   refine pure_ (i := 13) (N := some 6) (v := ?_) (a' := ?_) (uA 14 16383) rfl rfl (any_of HT_.out (by kernel_rfl)) (fun _ _ _ h => h) (Or.inl ⟨by rfl, ?_⟩) ?_ ?_
   rotate_left
   ·
    intro w'
    go_simp
    with_reducible rfl
   rotate_left
   · exact uQ
   refine done_ (done_of HT_.out (by kernel_rfl)) ?_
   have H := HS_.out; clear HS_
   by_cases c34 : t533 = 1
   ·
    rw [if_pos c34] at H
    have c34b0 : (t533 == 1) = true := beq_iff_eq.mpr c34
    (first | rw [c34b0] | (simp only [i64_w, i32_w]; rw [c34b0]) | skip)
    have c34b1 : (t533 != 1) = false := bne_eq_false_iff_eq.mpr c34
    clear c34
    obtain rfl := Option.some.inj H
    obtain ⟨Ao47, co47, eo47⟩ := Kd.R_slice HO518.out
    subst eo47
    obtain ⟨Ao48, co48, eo48⟩ := Kd.R_slice HO528.out
    subst eo48
    try go_wp2_with (first | ((with_reducible refine gate_callee (f := 108) rfl ?_); refine goesL_ (some 86) rfl rfl Try.func108 (by kernel_rfl) rfl #[.slice Ao47 t515.length co47, .slice Ao48 t525.length co48] rfl uM ?_; (with_reducible refine (windbreakref03_Gcd.calls kj1 _ _ t515 _ _ t525 t529 t530 _ ?side1 ?side2 ?side3 ?side4 A32.out).mono ?_); (case side1 => exact uC (Kd.R_reads' HO518.out).2.2); (case side2 => exact (Kd.R_reads' HO518.out).2.1); (case side3 => exact uC (Kd.R_reads' HO528.out).2.2); (case side4 => exact (Kd.R_reads' HO528.out).2.1); rintro e w49 ⟨v531, rfl, ho0, hb⟩; refine ⟨_, rfl, ?_⟩; have HO532 := Aside0.mk (Kd.R_lower (Kd.R_new' (Kd.R_new' (Kd.R_new' (Kd.R_new' (Kd.R_new' (Kd.R_new' ho0 (Kd.R_lt (uR HO511.out))) (Kd.R_lt (uR HO514.out))) (Kd.R_lt (uR HO518.out))) (Kd.R_lt (uR HO521.out))) (Kd.R_lt (uR HO524.out))) (Kd.R_lt (uR HO528.out))) (below_size uB)); replace HO511 := ueR HO511 ho0 hb; replace HO514 := ueR HO514 ho0 hb; replace HO518 := ueR HO518 ho0 hb; replace HO521 := ueR HO521 ho0 hb; replace HO524 := ueR HO524 ho0 hb; replace HO528 := ueR HO528 ho0 hb; replace BK504 := ux BK504 hb; replace HB := uy hb; (try clear hb ho0); obtain ⟨Ao50, co50, eo50⟩ := Kd.R_slice HO532.out; subst eo50) | ((with_reducible refine gate_callee (f := 109) rfl ?_); refine goesL_ (some 91) rfl rfl Try.func109 (by kernel_rfl) rfl #[.slice Ao50 t529.length co50] rfl uM ?_; (with_reducible refine (windbreakref01_Small.calls kj1 _ _ t529 t533 t534 _ ?side1 ?side2 A33.out).mono ?_); (case side1 => exact uC (Kd.R_reads' HO532.out).2.2); (case side2 => exact (Kd.R_reads' HO532.out).2.1); rintro e w' ⟨rfl, ⟨nd, rfl⟩⟩; refine ⟨_, rfl, ?_⟩))
    go_ret
    exact ⟨uF, uB⟩
   rw [if_neg c34] at H
   have c34b0 : (t533 == 1) = false := beq_eq_false_iff_ne.mpr c34
   (first | rw [c34b0] | (simp only [i64_w, i32_w]; rw [c34b0]) | skip)
   have c34b1 : (t533 != 1) = true := bne_iff_ne.mpr c34
   obtain rfl := Option.some.inj H
   obtain ⟨Ao63, co63, eo63⟩ := Kd.R_slice HO518.out
   subst eo63
   obtain ⟨Ao64, co64, eo64⟩ := Kd.R_slice HO528.out
   subst eo64
   try go_wp2_with (first | ((with_reducible refine gate_callee (f := 108) rfl ?_); refine goesL_ (some 86) rfl rfl Try.func108 (by kernel_rfl) rfl #[.slice Ao63 t515.length co63, .slice Ao64 t525.length co64] rfl uM ?_; (with_reducible refine (windbreakref03_Gcd.calls kj1 _ _ t515 _ _ t525 t529 t530 _ ?side1 ?side2 ?side3 ?side4 A32.out).mono ?_); (case side1 => exact uC (Kd.R_reads' HO518.out).2.2); (case side2 => exact (Kd.R_reads' HO518.out).2.1); (case side3 => exact uC (Kd.R_reads' HO528.out).2.2); (case side4 => exact (Kd.R_reads' HO528.out).2.1); rintro e w65 ⟨v531, rfl, ho0, hb⟩; refine ⟨_, rfl, ?_⟩; have HO532 := Aside0.mk (Kd.R_lower (Kd.R_new' (Kd.R_new' (Kd.R_new' (Kd.R_new' (Kd.R_new' (Kd.R_new' ho0 (Kd.R_lt (uR HO511.out))) (Kd.R_lt (uR HO514.out))) (Kd.R_lt (uR HO518.out))) (Kd.R_lt (uR HO521.out))) (Kd.R_lt (uR HO524.out))) (Kd.R_lt (uR HO528.out))) (below_size uB)); replace HO511 := ueR HO511 ho0 hb; replace HO514 := ueR HO514 ho0 hb; replace HO518 := ueR HO518 ho0 hb; replace HO521 := ueR HO521 ho0 hb; replace HO524 := ueR HO524 ho0 hb; replace HO528 := ueR HO528 ho0 hb; replace BK504 := ux BK504 hb; replace HB := uy hb; (try clear hb ho0); obtain ⟨Ao66, co66, eo66⟩ := Kd.R_slice HO532.out; subst eo66) | ((with_reducible refine gate_callee (f := 109) rfl ?_); refine goesL_ (some 91) rfl rfl Try.func109 (by kernel_rfl) rfl #[.slice Ao66 t529.length co66] rfl uM ?_; (with_reducible refine (windbreakref01_Small.calls kj1 _ _ t529 t533 t534 _ ?side1 ?side2 A33.out).mono ?_); (case side1 => exact uC (Kd.R_reads' HO532.out).2.2); (case side2 => exact (Kd.R_reads' HO532.out).2.1); rintro e w' ⟨rfl, ⟨nd, rfl⟩⟩; refine ⟨_, rfl, ?_⟩))
   go_ret
   exact ⟨uF, uB⟩
end Go.Proofs.Ytkgaejigpmkfkaa.F
end
section
namespace Go.Proofs.Ytkgaejigpmkfkaa.F
open Go.RowKit Go.Proofs.YtkgaejigpmkfkaaW.PrintWords Go.Proofs.YtkgaejigpmkfkaaW.PrintLast Go.Proofs.YtkgaejigpmkfkaaW.PrintMore
set_option linter.unusedVariables false
set_option linter.unusedSimpArgs false
def rpair.f (k : Nat) (z n : Int) (L : List Int) (u : Nat) : Option (Int × Int × Int × Nat) :=
  (rsearchF k z n L u).bind fun a => if a.2.2 ≤ L.length then (if a.2.1 = 0 then (rsearchF k z n L a.2.2).bind fun b => if b.2.1 = 0 then (windbreakref05_Check.f k a.1 b.1).bind fun c => if c = 0 then some (a.1, b.1, 0, b.2.2) else some (0, 0, c, b.2.2) else some (0, 0, b.2.1, b.2.2) else some (0, 0, a.2.1, a.2.2)) else none
def Paired2 (w w' : World) (g : Nat) (ok : Nat → Prop) (L : List Int) (e : Ending) (x : Int × Int × Int × Nat) : Prop := e = .returned (.tuple #[.agg #[.int .u64 x.1, .int .u64 x.2.1], .int .i64 x.2.2.1]) ∧ Tp2 w' g ok L (x.2.2.2 : Int) ∧ Stay w w' g
theorem Tp2.farP {w : World} {g : Nat} {ok : Nat → Prop} {l : List Int} {u : Int} (h : Tp2 w g ok l u) {p : Addr} (hp : p.block ≠ g) (hok : ∀ k, ok k → k ≠ p.block) (v : Value) : Tp2 (w.setCell p v) g ok l u := by
  obtain ⟨A, c, h1, h2, h3⟩ := h
  exact ⟨A, c, (Below.heap_setCell w p v g (fun e => hp e.symm)).trans h1, h2, Kd.F_far h3 hok v⟩
theorem Tp2.ltP {w : World} {g : Nat} {ok : Nat → Prop} {l : List Int} {u : Int} (h : Tp2 w g ok l u) : g < w.heap.size := h.lt
theorem blk_farP {w : World} {g : Nat} {o : Obj} (hb : w.heap[g]? = some o) {p : Addr} (hp : p.block ≠ g) (v : Value) : (w.setCell p v).heap[g]? = some o := (Below.heap_setCell w p v g (fun e => hp e.symm)).trans hb
theorem blk_stay {w w1 : World} {g g' : Nat} {o : Obj} (hb : w.heap[g']? = some o) (hs : Stay w w1 g) (hne : g' ≠ g) : w1.heap[g']? = some o := (hs.1.2 g' (blk_lt hb) hne (by simp)).trans hb
set_option maxHeartbeats 8000000 in
set_option maxRecDepth 100000 in
theorem rpair.one (k : Nat) (g : Nat) (L : List Int) (u : Nat) (z n : Int) (ok : Nat → Prop) (a : Int × Int × Nat) (w : World) (hT : Tp2 w g ok L (u : Int)) (hg : ¬ ok g) (hok : ∀ k, ok k → k < w.heap.size) (hu : u ≤ L.length) (hL : L.length ≤ 65536) (ha : rsearchF k z n L u = some a) (he : a.2.1 ≠ 0) :
    Calls Try.prog 13 #[.pointer (some ⟨g, 0, none⟩), .int .i64 z, .int .i64 n] w fun e w' => Paired2 w w' g ok L e (0, 0, a.2.1, a.2.2) := by
  obtain ⟨a1, a2, a3⟩ := a
  have HT := Aside0.mk hT
  have HA := Aside0.mk ha
  have HE := Aside0.mk he
  have HGW := Aside0.mk (show g < w.heap.size from hT.lt)
  have HB := Aside0.mk (Below.refl w.heap.size w)
  clear hT ha he
  go_enter Try.func13, Try.ntmps13
  go_wp2_with (first
    | ((with_reducible refine gate_dst (N := 6) rfl ?_); refine box_event ?hg (N := 6) ?hd (cs := #[.int .u64 0, .int .u64 0]) (t := 32) ?hr ?_; (case hd => rfl); (case hg => rfl); (case hr => first | (go_simp; done) | (go_simp; rfl)); intro gr hgr w1 hbox hb; have BK := Aside0.mk hbox; have GR := Aside0.mk (show w.heap.size ≤ gr from by have h := below_size (show Below w.heap.size w _ from uB); omega); have HB1 := Aside0.mk (below_step uB hb); have HGN := Aside0.mk (show gr ≠ g from by have := GR.out; have := HGW.out; omega); have HKN := Aside0.mk (show ∀ k, ok k → k ≠ gr from fun k hk => by have := hok k hk; have := GR.out; omega); clear HB hb hbox hgr)
    | (go_at_call 49; refine (rsearch.calls k g L u z n ok (a1, a2, a3) _ (HT.out.below HB1.out) hg hu hL HA.out).mono ?_; rintro e w2 ⟨rfl, hT2, hS2⟩; have T2 := Aside0.mk hT2; have BK2 := Aside0.mk (blk_stay BK.out hS2 HGN.out); have S2 := Aside0.mk ((Stay.of_below HB1.out g).trans hS2); have hc0 := (blk_cell BK2.out 0).trans rfl; have hc1 := (blk_cell BK2.out 1).trans rfl; have hf0 := blk_frozen BK2.out 0; have hf1 := blk_frozen BK2.out 1; clear hT2 hS2 BK HB1))
  all_goals first
    | (have h5 : (a2 != 0) = false := by assumption
       exact absurd (by simpa using h5) HE.out)
    | (refine bodyPost_ret (results_ct rfl _ _ gr 32 #[.int .u64 0, .int .u64 0] (0, 0) _ rfl (by refine blk_put (cs := #[.int .u64 0, .int .u64 0]) ?_ 1 _ rfl; refine blk_put (cs := #[.int .u64 0, .int .u64 0]) ?_ 0 _ rfl; exact BK2.out) Try.underlying32 rfl (by kernel_rfl)) rfl ?_; exact ⟨rfl, (T2.out.farP (p := ⟨gr, 0, none⟩) HGN.out HKN.out _).farP (p := ⟨gr, 1, none⟩) HGN.out HKN.out _, (S2.out.set_new (p := ⟨gr, 0, none⟩) GR.out _).set_new (p := ⟨gr, 1, none⟩) GR.out _⟩)
set_option maxHeartbeats 8000000 in
set_option maxRecDepth 100000 in
theorem rpair.two (k : Nat) (g : Nat) (L : List Int) (u : Nat) (z n : Int) (ok : Nat → Prop) (a1 : Int) (a3 : Nat) (b : Int × Int × Nat) (w : World) (hT : Tp2 w g ok L (u : Int)) (hg : ¬ ok g) (hok : ∀ k, ok k → k < w.heap.size) (hu : u ≤ L.length) (hL : L.length ≤ 65536) (ha : rsearchF k z n L u = some (a1, 0, a3)) (ha3 : a3 ≤ L.length) (hb : rsearchF k z n L a3 = some b) (he : b.2.1 ≠ 0) :
    Calls Try.prog 13 #[.pointer (some ⟨g, 0, none⟩), .int .i64 z, .int .i64 n] w fun e w' => Paired2 w w' g ok L e (0, 0, b.2.1, b.2.2) := by
  obtain ⟨b1, b2, b3⟩ := b
  have HT := Aside0.mk hT
  have HA := Aside0.mk ha
  have HBB := Aside0.mk hb
  have HE := Aside0.mk he
  have HGW := Aside0.mk (show g < w.heap.size from hT.lt)
  have HB := Aside0.mk (Below.refl w.heap.size w)
  clear hT ha he hb
  go_enter Try.func13, Try.ntmps13
  go_wp2_with (first
    | ((with_reducible refine gate_dst (N := 6) rfl ?_); refine box_event ?hg (N := 6) ?hd (cs := #[.int .u64 0, .int .u64 0]) (t := 32) ?hr ?_; (case hd => rfl); (case hg => rfl); (case hr => first | (go_simp; done) | (go_simp; rfl)); intro gr hgr w1 hbox hb; have BK := Aside0.mk hbox; have GR := Aside0.mk (show w.heap.size ≤ gr from by have h := below_size (show Below w.heap.size w _ from uB); omega); have HB1 := Aside0.mk (below_step uB hb); have HGN := Aside0.mk (show gr ≠ g from by have := GR.out; have := HGW.out; omega); have HKN := Aside0.mk (show ∀ k, ok k → k ≠ gr from fun k hk => by have := hok k hk; have := GR.out; omega); clear HB hb hbox hgr)
    | (go_at_call 49; refine (rsearch.calls k g L u z n ok (a1, 0, a3) _ (HT.out.below HB1.out) hg hu hL HA.out).mono ?_; rintro e w2 ⟨rfl, hT2, hS2⟩; have T2 := Aside0.mk hT2; have BK2 := Aside0.mk (blk_stay BK.out hS2 HGN.out); have S2 := Aside0.mk ((Stay.of_below HB1.out g).trans hS2); have hc0 := (blk_cell BK2.out 0).trans rfl; have hc1 := (blk_cell BK2.out 1).trans rfl; have hf0 := blk_frozen BK2.out 0; have hf1 := blk_frozen BK2.out 1; clear hT2 hS2 BK HB1)
    | (go_at_call 49; refine (rsearch.calls k g L a3 z n ok (b1, b2, b3) _ T2.out hg ha3 hL HBB.out).mono ?_; rintro e w3 ⟨rfl, hT3, hS3⟩; have T3 := Aside0.mk hT3; have BK3 := Aside0.mk (blk_stay BK2.out hS3 HGN.out); have S3 := Aside0.mk (S2.out.trans hS3); clear hc0 hc1 hf0 hf1; have hc0 := (blk_cell BK3.out 0).trans rfl; have hc1 := (blk_cell BK3.out 1).trans rfl; have hf0 := blk_frozen BK3.out 0; have hf1 := blk_frozen BK3.out 1; clear hT3 hS3 BK2 T2 S2))
  all_goals first
    | (have h5 : (b2 != 0) = false := by assumption
       exact absurd (by simpa using h5) HE.out)
    | (refine bodyPost_ret (results_ct rfl _ _ gr 32 #[.int .u64 0, .int .u64 0] (0, 0) _ rfl (by refine blk_put (cs := #[.int .u64 0, .int .u64 0]) ?_ 1 _ rfl; refine blk_put (cs := #[.int .u64 0, .int .u64 0]) ?_ 0 _ rfl; exact BK3.out) Try.underlying32 rfl (by kernel_rfl)) rfl ?_; exact ⟨rfl, (T3.out.farP (p := ⟨gr, 0, none⟩) HGN.out HKN.out _).farP (p := ⟨gr, 1, none⟩) HGN.out HKN.out _, (S3.out.set_new (p := ⟨gr, 0, none⟩) GR.out _).set_new (p := ⟨gr, 1, none⟩) GR.out _⟩)
set_option maxHeartbeats 8000000 in
set_option maxRecDepth 100000 in
theorem rpair.three (k : Nat) (g : Nat) (L : List Int) (u : Nat) (z n : Int) (ok : Nat → Prop) (a1 : Int) (a3 : Nat) (b1 : Int) (b3 : Nat) (c : Int) (w : World) (hT : Tp2 w g ok L (u : Int)) (hg : ¬ ok g) (hok : ∀ k, ok k → k < w.heap.size) (hu : u ≤ L.length) (hL : L.length ≤ 65536) (ha : rsearchF k z n L u = some (a1, 0, a3)) (ha3 : a3 ≤ L.length) (hb : rsearchF k z n L a3 = some (b1, 0, b3)) (hc : windbreakref05_Check.f k a1 b1 = some c) :
    Calls Try.prog 13 #[.pointer (some ⟨g, 0, none⟩), .int .i64 z, .int .i64 n] w fun e w' => Paired2 w w' g ok L e (if c = 0 then (a1, b1, 0, b3) else (0, 0, c, b3)) := by
  have HT := Aside0.mk hT
  have HA := Aside0.mk ha
  have HBB := Aside0.mk hb
  have HC := Aside0.mk hc
  have HGW := Aside0.mk (show g < w.heap.size from hT.lt)
  have HB := Aside0.mk (Below.refl w.heap.size w)
  clear hT ha hb hc
  go_enter Try.func13, Try.ntmps13
  go_wp2_with (first
    | ((with_reducible refine gate_dst (N := 6) rfl ?_); refine box_event ?hg (N := 6) ?hd (cs := #[.int .u64 0, .int .u64 0]) (t := 32) ?hr ?_; (case hd => rfl); (case hg => rfl); (case hr => first | (go_simp; done) | (go_simp; rfl)); intro gr hgr w1 hbox hb; have BK := Aside0.mk hbox; have GR := Aside0.mk (show w.heap.size ≤ gr from by have h := below_size (show Below w.heap.size w _ from uB); omega); have HB1 := Aside0.mk (below_step uB hb); have HGN := Aside0.mk (show gr ≠ g from by have := GR.out; have := HGW.out; omega); have HKN := Aside0.mk (show ∀ k, ok k → k ≠ gr from fun k hk => by have := hok k hk; have := GR.out; omega); clear HB hb hbox hgr)
    | (go_at_call 49; refine (rsearch.calls k g L u z n ok (a1, 0, a3) _ (HT.out.below HB1.out) hg hu hL HA.out).mono ?_; rintro e w2 ⟨rfl, hT2, hS2⟩; have T2 := Aside0.mk hT2; have BK2 := Aside0.mk (blk_stay BK.out hS2 HGN.out); have S2 := Aside0.mk ((Stay.of_below HB1.out g).trans hS2); have hc0 := (blk_cell BK2.out 0).trans rfl; have hc1 := (blk_cell BK2.out 1).trans rfl; have hf0 := blk_frozen BK2.out 0; have hf1 := blk_frozen BK2.out 1; clear hT2 hS2 BK HB1)
    | (go_at_call 49; refine (rsearch.calls k g L a3 z n ok (b1, 0, b3) _ T2.out hg ha3 hL HBB.out).mono ?_; rintro e w3 ⟨rfl, hT3, hS3⟩; have T3 := Aside0.mk hT3; have BK3 := Aside0.mk (blk_stay BK2.out hS3 HGN.out); have S3 := Aside0.mk (S2.out.trans hS3); clear hc0 hc1 hf0 hf1; have hc0 := (blk_cell BK3.out 0).trans rfl; have hc1 := (blk_cell BK3.out 1).trans rfl; have hf0 := blk_frozen BK3.out 0; have hf1 := blk_frozen BK3.out 1; clear hT3 hS3 BK2 T2 S2)
    | ((with_reducible refine gate_dst (N := 11) rfl ?_); refine box_event ?hg (N := 11) ?hd (cs := #[.int .u64 0, .int .u64 0]) (t := 32) ?hr ?_; (case hd => rfl); (case hg => rfl); (case hr => first | (go_simp; done) | (go_simp; rfl)); intro gk hgk w4 hbox hb; have BKK := Aside0.mk hbox; have GK := Aside0.mk (show w3.heap.size ≤ gk from by omega); have T4 := Aside0.mk (T3.out.below hb); have BK4 := Aside0.mk (blk_below BK3.out hb); have S4 := Aside0.mk (S3.out.then hb); have GKR := Aside0.mk (show gk ≠ gr from by have := blk_lt BK3.out; omega); have GKG := Aside0.mk (show gk ≠ g from by have := T3.out.ltP; omega); have GKW := Aside0.mk (show w.heap.size ≤ gk from by have := S3.out.size; omega); have GKO := Aside0.mk (show ∀ k, ok k → k ≠ gk from fun k hk => by have := hok k hk; have := GKW.out; omega); have hk0 := (blk_cell BKK.out 0).trans rfl; have hk1 := (blk_cell BKK.out 1).trans rfl; have hkf0 := blk_frozen BKK.out 0; have hkf1 := blk_frozen BKK.out 1; clear hb hbox hgk T3 BK3 S3 hc0 hc1 hf0 hf1)
    | (go_at_call 50; refine (windbreakref05_Check.calls k a1 b1 c _ HC.out).mono ?_; rintro e w5 ⟨rfl, hb⟩; have T5 := Aside0.mk (((T4.out.farP (p := ⟨gk, 0, none⟩) GKG.out GKO.out _).farP (p := ⟨gk, 1, none⟩) GKG.out GKO.out _).below hb); have BK5 := Aside0.mk (blk_below (blk_farP (p := ⟨gk, 1, none⟩) (blk_farP (p := ⟨gk, 0, none⟩) BK4.out GKR.out _) GKR.out _) hb); have S5 := Aside0.mk (((S4.out.set_new (p := ⟨gk, 0, none⟩) GKW.out _).set_new (p := ⟨gk, 1, none⟩) GKW.out _).then hb); have BKK5 := Aside0.mk (blk_below (blk_put (cs := #[.int .u64 a1, .int .u64 0]) (blk_put (cs := #[.int .u64 0, .int .u64 0]) BKK.out 0 (.int .u64 a1) rfl) 1 (.int .u64 b1) rfl) hb); have hc0 := (blk_cell BK5.out 0).trans rfl; have hc1 := (blk_cell BK5.out 1).trans rfl; have hf0 := blk_frozen BK5.out 0; have hf1 := blk_frozen BK5.out 1; clear hk0 hk1 hkf0 hkf1; have hk0 := (blk_cell BKK5.out 0).trans rfl; have hk1 := (blk_cell BKK5.out 1).trans rfl; clear T4 BK4 S4 BKK hb))
  all_goals first
    | (exfalso; have h5 : (c != 0) = true := by assumption
       have h6 : c = 0 := by assumption
       rw [h6] at h5; exact absurd h5 (by decide))
    | (exfalso; have h5 : (c != 0) = false := by assumption
       have h6 : ¬ c = 0 := by assumption
       exact h6 (by simpa using h5))
    | (refine bodyPost_ret (results_ct rfl _ _ gr 32 #[.int .u64 a1, .int .u64 b1] (0, 0) _ rfl (by refine blk_put (cs := #[.int .u64 a1, .int .u64 0]) ?_ 1 _ rfl; refine blk_put (cs := #[.int .u64 0, .int .u64 0]) ?_ 0 _ rfl; exact BK5.out) Try.underlying32 rfl (by kernel_rfl)) rfl ?_; exact ⟨rfl, (T5.out.farP (p := ⟨gr, 0, none⟩) HGN.out HKN.out _).farP (p := ⟨gr, 1, none⟩) HGN.out HKN.out _, (S5.out.set_new (p := ⟨gr, 0, none⟩) GR.out _).set_new (p := ⟨gr, 1, none⟩) GR.out _⟩)
    | (refine bodyPost_ret (results_ct rfl _ _ gr 32 #[.int .u64 0, .int .u64 0] (0, 0) _ rfl (by refine blk_put (cs := #[.int .u64 0, .int .u64 0]) ?_ 1 _ rfl; refine blk_put (cs := #[.int .u64 0, .int .u64 0]) ?_ 0 _ rfl; exact BK5.out) Try.underlying32 rfl (by kernel_rfl)) rfl ?_; exact ⟨rfl, (T5.out.farP (p := ⟨gr, 0, none⟩) HGN.out HKN.out _).farP (p := ⟨gr, 1, none⟩) HGN.out HKN.out _, (S5.out.set_new (p := ⟨gr, 0, none⟩) GR.out _).set_new (p := ⟨gr, 1, none⟩) GR.out _⟩)
theorem rpair.calls (k : Nat) (g : Nat) (L : List Int) (u : Nat) (z n : Int) (ok : Nat → Prop) (x : Int × Int × Int × Nat) (w : World) (hT : Tp2 w g ok L (u : Int)) (hg : ¬ ok g) (hok : ∀ k, ok k → k < w.heap.size) (hu : u ≤ L.length) (hL : L.length ≤ 65536) (h : rpair.f k z n L u = some x) :
    Calls Try.prog 13 #[.pointer (some ⟨g, 0, none⟩), .int .i64 z, .int .i64 n] w fun e w' => Paired2 w w' g ok L e x := by
  unfold rpair.f at h
  obtain ⟨⟨a1, a2, a3⟩, ha, h⟩ := Option.bind_eq_some_iff.mp h
  simp only [] at h
  by_cases ha3 : a3 ≤ L.length
  · rw [if_pos ha3] at h
    by_cases ha2 : a2 = 0
    · subst ha2
      rw [if_pos rfl] at h
      obtain ⟨⟨b1, b2, b3⟩, hb, h⟩ := Option.bind_eq_some_iff.mp h
      simp only [] at h
      by_cases hb2 : b2 = 0
      · subst hb2
        rw [if_pos rfl] at h
        obtain ⟨c, hc, h⟩ := Option.bind_eq_some_iff.mp h
        have hx : x = if c = 0 then (a1, b1, 0, b3) else (0, 0, c, b3) := by
          by_cases h0 : c = 0
          · rw [if_pos h0] at h ⊢
            exact (Option.some.inj h).symm
          · rw [if_neg h0] at h ⊢
            exact (Option.some.inj h).symm
        rw [hx]
        exact rpair.three k g L u z n ok a1 a3 b1 b3 c w hT hg hok hu hL ha ha3 hb hc
      · rw [if_neg hb2] at h
        obtain rfl := Option.some.inj h
        exact rpair.two k g L u z n ok a1 a3 (b1, b2, b3) w hT hg hok hu hL ha ha3 hb hb2
    · rw [if_neg ha2] at h
      obtain rfl := Option.some.inj h
      exact rpair.one k g L u z n ok (a1, a2, a3) w hT hg hok hu hL ha ha2
  · rw [if_neg ha3] at h
    cases h
end Go.Proofs.Ytkgaejigpmkfkaa.F
end
section
namespace Go.Proofs.Ytkgaejigpmkfkaa.Z
open Go.RowKit Go.Proofs.YtkgaejigpmkfkaaW.PrintWords
set_option linter.unusedSimpArgs false
set_option linter.unusedVariables false
def Evt {α : Type} (g : Nat → Option α) (r : α) : Prop := ∃ n, ∀ k, n ≤ k → g k = some r
theorem Evt.of {α : Type} {g : Nat → Option α} {r : α} (h : ∀ k, g k = some r) : Evt g r := ⟨0, fun k _ => h k⟩
theorem Evt.pure {α : Type} (r : α) : Evt (fun _ => some r) r := ⟨0, fun _ _ => rfl⟩
theorem Evt.bind {α β : Type} {g : Nat → Option α} {h : α → Nat → Option β} {a : α} {b : β} (h1 : Evt g a) (h2 : Evt (h a) b) : Evt (fun k => (g k).bind fun x => h x k) b := by
  obtain ⟨n, hn⟩ := h1
  obtain ⟨m, hm⟩ := h2
  exact ⟨n + m, fun k hk => by simp only [hn k (by omega), Option.bind_some]; exact hm k (by omega)⟩
theorem Evt.succ {α : Type} {g : Nat → Option α} {r : α} (h : Evt (fun k => g (k + 1)) r) : Evt g r := by
  obtain ⟨n, hn⟩ := h
  refine ⟨n + 1, fun k hk => ?_⟩
  obtain ⟨m, rfl⟩ : ∃ m, k = m + 1 := ⟨k - 1, by omega⟩
  exact hn m (by omega)
theorem Evt.get {α : Type} {g : Nat → Option α} {r : α} (h : Evt g r) : ∃ k, g k = some r := by
  obtain ⟨n, hn⟩ := h
  exact ⟨n, hn n (Nat.le_refl _)⟩
theorem Evt.congr {α : Type} {g g' : Nat → Option α} {r r' : α} (h : Evt g r) (hg : ∀ k, g' k = g k) (hr : r = r') : Evt g' r' := by
  subst hr
  obtain ⟨n, hn⟩ := h
  exact ⟨n, fun k hk => (hg k).trans (hn k hk)⟩
theorem Evt.ite_pos {α : Type} {c : Prop} [Decidable c] {g h : Nat → Option α} {r : α} (hc : c) (hg : Evt g r) : Evt (fun k => if c then g k else h k) r := by
  obtain ⟨n, hn⟩ := hg
  exact ⟨n, fun k hk => (if_pos hc).trans (hn k hk)⟩
theorem Evt.ite_neg {α : Type} {c : Prop} [Decidable c] {g h : Nat → Option α} {r : α} (hc : ¬ c) (hg : Evt h r) : Evt (fun k => if c then g k else h k) r := by
  obtain ⟨n, hn⟩ := hg
  exact ⟨n, fun k hk => (if_neg hc).trans (hn k hk)⟩
theorem Evt.cond {α : Type} {c : Prop} [Decidable c] {g h : Nat → Option α} {r s : α} (hg : c → Evt g r) (hh : ¬ c → Evt h s) : Evt (fun k => if c then g k else h k) (if c then r else s) := by
  by_cases hc : c
  · rw [if_pos hc]; exact Evt.ite_pos hc (hg hc)
  · rw [if_neg hc]; exact Evt.ite_neg hc (hh hc)
theorem Evt.cond' {α : Type} {c : Prop} [Decidable c] {g h : Nat → Option α} {r : α} (hg : c → Evt g r) (hh : ¬ c → Evt h r) : Evt (fun k => if c then g k else h k) r := by
  by_cases hc : c
  · exact Evt.ite_pos hc (hg hc)
  · exact Evt.ite_neg hc (hh hc)
theorem w64 {x : Int} (h0 : -9223372036854775808 ≤ x) (h1 : x < 9223372036854775808) : wrap64 x = x := by unfold wrap64; omega
theorem wu64 (x : Int) : IntKind.u64.wrap x = x % 18446744073709551616 := by simp [IntKind.wrap, IntKind.bits, IntKind.signed]
theorem wu64_of {x : Int} (h0 : 0 ≤ x) (h1 : x < 18446744073709551616) : IntKind.u64.wrap x = x := by rw [wu64]; omega
theorem rd_getD (l : List Int) (i : Int) : rd l i = l.getD i.toNat 0 := rfl
theorem rd_nat (l : List Int) (i : Nat) : rd l (i : Int) = l.getD i 0 := rfl
def val (B : Int) : List Int → Int
  | [] => 0
  | d :: l => d + B * val B l
def Dig (B : Int) (l : List Int) : Prop := ∀ x, x ∈ l → 0 ≤ x ∧ x < B
def Can (l : List Int) : Prop := ∀ h : l ≠ [], l.getLast h ≠ 0
def strip : List Int → List Int
  | [] => []
  | d :: l => if strip l = [] then (if d = 0 then [] else [d]) else d :: strip l
theorem Dig.nil {B : Int} : Dig B [] := fun _ h => by simp at h
theorem Dig.cons {B d : Int} {l : List Int} : Dig B (d :: l) ↔ (0 ≤ d ∧ d < B) ∧ Dig B l := by
  unfold Dig
  simp
theorem Dig.append {B : Int} {l m : List Int} : Dig B (l ++ m) ↔ Dig B l ∧ Dig B m := by
  unfold Dig
  constructor
  · intro h
    exact ⟨fun x hx => h x (by simp [hx]), fun x hx => h x (by simp [hx])⟩
  · intro h x hx
    rcases List.mem_append.1 hx with hx | hx
    · exact h.1 x hx
    · exact h.2 x hx
theorem Dig.take {B : Int} {l : List Int} (h : Dig B l) (n : Nat) : Dig B (l.take n) := fun x hx => h x (List.mem_of_mem_take hx)
theorem Dig.drop {B : Int} {l : List Int} (h : Dig B l) (n : Nat) : Dig B (l.drop n) := fun x hx => h x (List.mem_of_mem_drop hx)
theorem Dig.getD {B : Int} {l : List Int} (h : Dig B l) (hB : 0 < B) (i : Nat) : 0 ≤ l.getD i 0 ∧ l.getD i 0 < B := by
  rw [List.getD_eq_getElem?_getD]
  cases he : l[i]? with
  | none => simp; omega
  | some x => simpa using h x (List.mem_of_getElem? he)
theorem Dig.set {B : Int} {l : List Int} (h : Dig B l) (i : Nat) {v : Int} (hv : 0 ≤ v ∧ v < B) : Dig B (l.set i v) := by
  intro x hx
  rcases List.mem_or_eq_of_mem_set hx with hx | rfl
  · exact h x hx
  · exact hv
theorem Dig.replicate {B : Int} (hB : 0 < B) (n : Nat) : Dig B (List.replicate n 0) := by
  intro x hx
  have := List.eq_of_mem_replicate hx
  omega
theorem val_append (B : Int) (l m : List Int) : val B (l ++ m) = val B l + B ^ l.length * val B m := by
  induction l with
  | nil => simp [val]
  | cons d l ih => simp only [List.cons_append, val, ih, List.length_cons, Int.pow_succ]; grind
theorem val_replicate (B : Int) (n : Nat) : val B (List.replicate n 0) = 0 := by
  induction n with
  | zero => rfl
  | succ n ih => simp [List.replicate_succ, val, ih]
theorem val_nonneg {B : Int} (hB : 0 < B) {l : List Int} (h : Dig B l) : 0 ≤ val B l := by
  induction l with
  | nil => simp [val]
  | cons d l ih =>
    have h' := Dig.cons.1 h
    have h1 := ih h'.2
    have : 0 ≤ B * val B l := Int.mul_nonneg (by omega) h1
    simp only [val]
    omega
theorem val_lt {B : Int} (hB : 0 < B) {l : List Int} (h : Dig B l) : val B l < B ^ l.length := by
  induction l with
  | nil => simp [val]
  | cons d l ih =>
    have h' := Dig.cons.1 h
    have h1 := ih h'.2
    have h2 : B * val B l ≤ B * (B ^ l.length - 1) := Int.mul_le_mul_of_nonneg_left (by omega) (by omega)
    have h3 : B * (B ^ l.length - 1) = B * B ^ l.length - B := by grind
    simp only [val, List.length_cons, Int.pow_succ]
    have h4 : B ^ l.length * B = B * B ^ l.length := Int.mul_comm _ _
    omega
theorem Can.nil : Can [] := fun h => absurd rfl h
theorem Can.tail {d : Int} {l : List Int} (h : Can (d :: l)) : Can l := by
  intro hl
  have := h (by simp)
  rwa [List.getLast_cons hl] at this
theorem Can.one {d : Int} (h : d ≠ 0) : Can [d] := fun _ => by simpa using h
theorem Can.cons {d : Int} {l : List Int} (h : Can l) (hl : l ≠ []) : Can (d :: l) := by
  intro _
  rw [List.getLast_cons hl]
  exact h hl
theorem val_pos {B : Int} (hB : 0 < B) {l : List Int} (h : Dig B l) (hc : Can l) (hl : l ≠ []) : B ^ (l.length - 1) ≤ val B l := by
  induction l with
  | nil => exact absurd rfl hl
  | cons d l ih =>
    have h' := Dig.cons.1 h
    by_cases e : l = []
    · subst e
      have := hc (by simp)
      simp [val] at this ⊢
      omega
    · have h1 := ih h'.2 hc.tail e
      have h2 : l.length - 1 + 1 = l.length := by have := List.length_pos_iff.2 e; omega
      simp only [val, List.length_cons, Nat.add_sub_cancel]
      rw [← h2, Int.pow_succ, Int.mul_comm]
      have : B * B ^ (l.length - 1) ≤ B * val B l := Int.mul_le_mul_of_nonneg_left h1 (by omega)
      omega
theorem val_zero {B : Int} (hB : 0 < B) {l : List Int} (h : Dig B l) (hc : Can l) (h0 : val B l = 0) : l = [] := by
  by_cases e : l = []
  · exact e
  · have := val_pos hB h hc e
    have h2 : 0 < B ^ (l.length - 1) := Int.pow_pos hB
    omega
theorem val_inj {B : Int} (hB : 0 < B) {l m : List Int} (hl : Dig B l) (hm : Dig B m) (cl : Can l) (cm : Can m) (h : val B l = val B m) : l = m := by
  induction l generalizing m with
  | nil => exact (val_zero hB hm cm h.symm).symm
  | cons d l ih =>
    cases m with
    | nil => exact val_zero hB hl cl h
    | cons e m =>
      have h1 := Dig.cons.1 hl
      have h2 := Dig.cons.1 hm
      simp only [val] at h
      have h3 : d = e := by
        have a1 : (d + B * val B l) % B = d := by rw [Int.add_mul_emod_self_left]; exact Int.emod_eq_of_lt h1.1.1 h1.1.2
        have a2 : (e + B * val B m) % B = e := by rw [Int.add_mul_emod_self_left]; exact Int.emod_eq_of_lt h2.1.1 h2.1.2
        rw [← a1, ← a2, h]
      subst h3
      have h4 : val B l = val B m := by
        have : B * val B l = B * val B m := by omega
        exact Int.eq_of_mul_eq_mul_left (by omega) this
      rw [ih h1.2 h2.2 cl.tail cm.tail h4]
theorem strip_val (B : Int) (l : List Int) : val B (strip l) = val B l := by
  induction l with
  | nil => rfl
  | cons d l ih =>
    simp only [strip]
    split
    · rename_i h
      rw [h] at ih
      simp only [val] at ih
      split
      · rename_i h0; simp [val, ← ih, h0]
      · simp [val, ← ih]
    · simp [val, ih]
theorem strip_can (l : List Int) : Can (strip l) := by
  induction l with
  | nil => exact Can.nil
  | cons d l ih =>
    simp only [strip]
    split
    · split
      · exact Can.nil
      · rename_i h; exact Can.one h
    · rename_i h; exact ih.cons h
theorem strip_dig {B : Int} {l : List Int} (h : Dig B l) : Dig B (strip l) := by
  induction l with
  | nil => exact Dig.nil
  | cons d l ih =>
    have h' := Dig.cons.1 h
    simp only [strip]
    split
    · split
      · exact Dig.nil
      · exact Dig.cons.2 ⟨h'.1, Dig.nil⟩
    · exact Dig.cons.2 ⟨h'.1, ih h'.2⟩
theorem strip_length (l : List Int) : (strip l).length ≤ l.length := by
  induction l with
  | nil => simp [strip]
  | cons d l ih =>
    simp only [strip]
    split
    · split <;> simp
    · simp; omega
theorem strip_of_can {l : List Int} (h : Can l) : strip l = l := by
  induction l with
  | nil => rfl
  | cons d l ih =>
    simp only [strip]
    rw [ih h.tail]
    split
    · rename_i e
      subst e
      have := h (by simp)
      simp at this
      simp [this]
    · rfl
theorem strip_snoc_zero (l : List Int) : strip (l ++ [0]) = strip l := by
  induction l with
  | nil => simp [strip]
  | cons d l ih => simp only [List.cons_append, strip, ih]
theorem strip_snoc {l : List Int} {d : Int} (h : d ≠ 0) : strip (l ++ [d]) = l ++ [d] := by
  apply strip_of_can
  intro hl
  simpa using h
theorem pow_mono {B : Int} (hB : 0 < B) {m n : Nat} (h : m ≤ n) : B ^ m ≤ B ^ n := by
  induction n with
  | zero => have : m = 0 := by omega
            subst this
            exact Int.le_refl _
  | succ n ih =>
    by_cases e : m = n + 1
    · subst e
      exact Int.le_refl _
    · have h1 := ih (by omega)
      have h2 : 0 < B ^ n := Int.pow_pos hB
      have h3 : 1 * B ^ n ≤ B * B ^ n := Int.mul_le_mul_of_nonneg_right (by omega) (by omega)
      rw [Int.pow_succ, Int.mul_comm]
      omega
theorem val_lt_of_length {B : Int} (hB : 0 < B) {l m : List Int} (hl : Dig B l) (hm : Dig B m) (cm : Can m) (h : l.length < m.length) : val B l < val B m := by
  have h1 := val_lt hB hl
  have h2 := val_pos hB hm cm (by intro e; subst e; simp at h)
  have h3 : B ^ l.length ≤ B ^ (m.length - 1) := pow_mono hB (by omega)
  omega
def rightB (l : List Int) : Bool := decide (l.length ≤ 64) && ((l.length == 0) || (l.getD (l.length - 1) 0 != 0))
theorem can_iff (l : List Int) : Can l ↔ ((l.length == 0) || (l.getD (l.length - 1) 0 != 0)) = true := by
  cases l with
  | nil => simp [Can]
  | cons d l =>
    have h : (d :: l).getLast (by simp) = (d :: l).getD ((d :: l).length - 1) 0 := by
      rw [List.getLast_eq_getElem]
      simp
    unfold Can
    simp only [List.length_cons, Nat.add_one_ne_zero, beq_iff_eq, Bool.or_eq_true, bne_iff_ne, false_or]
    constructor
    · intro hc
      have := hc (by simp)
      rw [h] at this
      exact this
    · intro hc _
      rw [h]
      exact hc
theorem rightB_iff (l : List Int) : rightB l = true ↔ l.length ≤ 64 ∧ Can l := by
  unfold rightB
  rw [Bool.and_eq_true, decide_eq_true_iff, ← can_iff]
def smallV (l : List Int) : Int × Bool := if rightB l = true ∧ l.length ≤ 1 then (l.getD 0 0, true) else (0, false)
def toD (B : Nat) (v : Nat) : List Int := if h : 2 ≤ B ∧ 0 < v then ((v % B : Nat) : Int) :: toD B (v / B) else []
termination_by v
decreasing_by exact Nat.div_lt_self h.2 (by omega)
theorem toD_zero (B : Nat) : toD B 0 = [] := by rw [toD]; simp
theorem toD_pos {B v : Nat} (hB : 2 ≤ B) (hv : 0 < v) : toD B v = ((v % B : Nat) : Int) :: toD B (v / B) := by rw [toD]; simp [hB, hv]
theorem toD_dig {B : Nat} (hB : 2 ≤ B) (v : Nat) : Dig (B : Int) (toD B v) := by
  induction v using Nat.strongRecOn with
  | _ v ih =>
    by_cases hv : v = 0
    · subst hv; rw [toD_zero]; exact Dig.nil
    · rw [toD_pos hB (by omega)]
      have := Nat.mod_lt v (show B > 0 by omega)
      exact Dig.cons.2 ⟨by omega, ih _ (Nat.div_lt_self (by omega) (by omega))⟩
theorem toD_eq_nil {B v : Nat} (hB : 2 ≤ B) : toD B v = [] ↔ v = 0 := by
  constructor
  · intro h
    by_cases hv : v = 0
    · exact hv
    · rw [toD_pos hB (by omega)] at h; cases h
  · rintro rfl; exact toD_zero B
theorem toD_can {B : Nat} (hB : 2 ≤ B) (v : Nat) : Can (toD B v) := by
  induction v using Nat.strongRecOn with
  | _ v ih =>
    by_cases hv : v = 0
    · subst hv; rw [toD_zero]; exact Can.nil
    · rw [toD_pos hB (by omega)]
      by_cases hq : v / B = 0
      · rw [hq, toD_zero]
        have hlt : v < B := (Nat.div_eq_zero_iff_lt (by omega)).1 hq
        rw [Nat.mod_eq_of_lt hlt]
        exact Can.one (by omega)
      · exact (ih _ (Nat.div_lt_self (by omega) (by omega))).cons (fun e => hq ((toD_eq_nil hB).1 e))
theorem val_toD {B : Nat} (hB : 2 ≤ B) (v : Nat) : val (B : Int) (toD B v) = (v : Int) := by
  induction v using Nat.strongRecOn with
  | _ v ih =>
    by_cases hv : v = 0
    · subst hv; rw [toD_zero]; rfl
    · rw [toD_pos hB (by omega)]
      simp only [val]
      rw [ih _ (Nat.div_lt_self (by omega) (by omega))]
      have h2 := Nat.mod_add_div v B
      have h3 : ((v % B + B * (v / B) : Nat) : Int) = (v : Int) := by rw [h2]
      simpa using h3
theorem strip_toD {B : Nat} (hB : 2 ≤ B) {l : List Int} (h : Dig (B : Int) l) : strip l = toD B (val (B : Int) l).toNat := by
  have h0 : (0 : Int) < (B : Int) := by omega
  refine val_inj h0 (strip_dig h) (toD_dig hB _) (strip_can l) (toD_can hB _) ?_
  rw [strip_val, val_toD hB]
  have := val_nonneg h0 h
  omega
theorem can_toD {B : Nat} (hB : 2 ≤ B) {l : List Int} (h : Dig (B : Int) l) (hc : Can l) : l = toD B (val (B : Int) l).toNat := by
  rw [← strip_toD hB h, strip_of_can hc]
theorem pow_cast (B n : Nat) : ((B : Int)) ^ n = ((B ^ n : Nat) : Int) := by simp
theorem toD_len_le {B : Nat} (hB : 2 ≤ B) {v n : Nat} (h : v < B ^ n) : (toD B v).length ≤ n := by
  by_cases hv : v = 0
  · subst hv; rw [toD_zero]; simp
  · have h1 := val_pos (show (0 : Int) < (B : Int) by omega) (toD_dig hB v) (toD_can hB v) (fun e => hv ((toD_eq_nil hB).1 e))
    rw [val_toD hB, pow_cast] at h1
    have h2 : B ^ ((toD B v).length - 1) ≤ v := by omega
    have h3 : B ^ ((toD B v).length - 1) < B ^ n := by omega
    have h4 := (Nat.pow_lt_pow_iff_right (show 1 < B by omega)).1 h3
    omega
theorem toD_lt_pow {B : Nat} (hB : 2 ≤ B) (v : Nat) : v < B ^ (toD B v).length := by
  have h1 := val_lt (show (0 : Int) < (B : Int) by omega) (toD_dig hB v)
  rw [val_toD hB, pow_cast] at h1
  omega
theorem toD_len_iff {B : Nat} (hB : 2 ≤ B) (v n : Nat) : (toD B v).length ≤ n ↔ v < B ^ n :=
  ⟨fun h => Nat.lt_of_lt_of_le (toD_lt_pow hB v) (Nat.pow_le_pow_right (by omega) h), toD_len_le hB⟩
def b64 : Nat := 18446744073709551616
def b16 : Nat := 65536
theorem b64_two : 2 ≤ b64 := by decide
theorem b16_two : 2 ≤ b16 := by decide
theorem b64_pow : b64 = b16 ^ 4 := by decide
def num (l : List Int) : Nat := (val (b64 : Int) l).toNat
def num16 (l : List Int) : Nat := (val (b16 : Int) l).toNat
abbrev limbs (v : Nat) : List Int := toD b64 v
abbrev digs (v : Nat) : List Int := toD b16 v
theorem b64_pos : (0 : Int) < (b64 : Int) := by decide
theorem b16_pos : (0 : Int) < (b16 : Int) := by decide
theorem num_val {l : List Int} (h : Dig (b64 : Int) l) : (num l : Int) = val (b64 : Int) l := by
  have := val_nonneg b64_pos h
  unfold num; omega
theorem num16_val {l : List Int} (h : Dig (b16 : Int) l) : (num16 l : Int) = val (b16 : Int) l := by
  have := val_nonneg b16_pos h
  unfold num16; omega
theorem num_limbs (v : Nat) : num (limbs v) = v := by unfold num limbs; rw [val_toD b64_two]; omega
theorem num16_digs (v : Nat) : num16 (digs v) = v := by unfold num16 digs; rw [val_toD b16_two]; omega
theorem limbs_num {l : List Int} (h : Dig (b64 : Int) l) (hc : Can l) : limbs (num l) = l := (can_toD b64_two h hc).symm
theorem strip_limbs {l : List Int} (h : Dig (b64 : Int) l) : strip l = limbs (num l) := strip_toD b64_two h
theorem strip_digs {l : List Int} (h : Dig (b16 : Int) l) : strip l = digs (num16 l) := strip_toD b16_two h
theorem num_lt {l : List Int} (h : Dig (b64 : Int) l) : num l < b64 ^ l.length := by
  have h1 := val_lt b64_pos h
  rw [← num_val h, pow_cast] at h1
  omega
theorem num_one {x : Int} (h : 0 ≤ x) : num [x] = x.toNat := by simp [num, val]
theorem num16_nil : num16 [] = 0 := rfl
def thousand : Nat := 1000
def lim : Nat := b64 ^ thousand
theorem lim_pow {n : Nat} (h : n ≤ 1000) : b64 ^ n ≤ lim := Nat.pow_le_pow_right (by decide) (show n ≤ thousand from h)
theorem pow_lt_lim {n : Nat} (h : n < 1000) : b64 ^ n + b64 ^ n ≤ lim := by
  have h1 : b64 ^ (n + 1) ≤ lim := lim_pow h
  have h2 : b64 ^ n * 2 ≤ b64 ^ n * b64 := Nat.mul_le_mul_left _ b64_two
  rw [Nat.pow_succ] at h1
  omega
theorem digs_len {v : Nat} (hv : v < lim) : (digs v).length ≤ 4000 := by
  have h : lim = b16 ^ (4 * thousand) := by
    unfold lim
    rw [b64_pow, ← Nat.pow_mul]
  rw [h] at hv
  have h2 := toD_len_le b16_two hv
  exact Nat.le_trans h2 (by decide)
theorem num_lt_p {a : List Int} (da : Dig (b64 : Int) a) (ha : a.length ≤ 64) : num a < b64 ^ 64 := Nat.lt_of_lt_of_le (num_lt da) (Nat.pow_le_pow_right (show b64 > 0 by decide) ha)
def cmpN (x y : Nat) : Int := if x < y then -1 else if x = y then 0 else 1
def toldV (v : Nat) : List Int × Int := if v < b64 ^ 64 then (limbs v, 0) else ([], 4)
theorem limbs_long (v : Nat) : (limbs v).length ≤ 64 ↔ v < b64 ^ 64 := toD_len_iff b64_two v 64
theorem val_base (l : List Int) (hl : Dig (b64 : Int) l) : ∃ m, Dig (b16 : Int) m ∧ m.length = 4 * l.length ∧ val (b16 : Int) m = val (b64 : Int) l ∧ m = l.flatMap (fun x => [x % 65536, x / 65536 % 65536, x / 65536 / 65536 % 65536, x / 65536 / 65536 / 65536 % 65536]) := by
  induction l with
  | nil => exact ⟨[], Dig.nil, rfl, rfl, rfl⟩
  | cons d l ih =>
    have h1 := Dig.cons.1 hl
    obtain ⟨m, hm, hlen, hv, he⟩ := ih h1.2
    refine ⟨[d % 65536, d / 65536 % 65536, d / 65536 / 65536 % 65536, d / 65536 / 65536 / 65536 % 65536] ++ m, ?_, ?_, ?_, ?_⟩
    · refine Dig.append.2 ⟨?_, hm⟩
      intro x hx
      simp only [List.mem_cons, List.not_mem_nil, or_false] at hx
      simp only [b16]
      omega
    · simp only [List.length_append, List.length_cons, List.length_nil, hlen]; omega
    · rw [val_append, hv]
      have h2 := h1.1
      simp only [b64] at h2 ⊢
      simp only [val, b16, List.length_cons, List.length_nil]
      omega
    · simp only [List.flatMap_cons, ← he]
def bl (n : Nat) : Nat := if n = 0 then 0 else n.log2 + 1
theorem bl_zero : bl 0 = 0 := rfl
theorem bl_lt (n : Nat) : n < 2 ^ bl n := by
  unfold bl
  by_cases h : n = 0
  · subst h; decide
  · rw [if_neg h]; exact Nat.lt_log2_self
theorem bl_ge {n : Nat} (h : n ≠ 0) : 2 ^ (bl n - 1) ≤ n := by
  unfold bl
  rw [if_neg h, Nat.add_sub_cancel]
  exact Nat.log2_self_le h
theorem bl_pos {n : Nat} (h : n ≠ 0) : 0 < bl n := by unfold bl; rw [if_neg h]; omega
theorem bl_unique {n m : Nat} (h1 : n < 2 ^ m) (h2 : m = 0 ∨ 2 ^ (m - 1) ≤ n) : bl n = m := by
  by_cases h : n = 0
  · subst h
    rcases h2 with h2 | h2
    · rw [h2]; rfl
    · have := Nat.pow_pos (a := 2) (n := m - 1) (by decide)
      omega
  · have a1 := bl_lt n
    have a2 := bl_ge h
    have a3 := bl_pos h
    have hm : 0 < m := by
      by_cases e : m = 0
      · subst e; simp at h1; omega
      · omega
    have b1 : bl n - 1 < m := (Nat.pow_lt_pow_iff_right (a := 2) (by decide)).1 (by omega)
    have b2 : m - 1 < bl n := by
      rcases h2 with h2 | h2
      · omega
      · exact (Nat.pow_lt_pow_iff_right (a := 2) (by decide)).1 (by omega)
    omega
theorem bl_shift (n s : Nat) (h : n / 2 ^ s ≠ 0) : bl n = s + bl (n / 2 ^ s) := by
  have a1 := bl_lt (n / 2 ^ s)
  have a2 := bl_ge h
  have a3 := bl_pos h
  have hp : 0 < 2 ^ s := Nat.pow_pos (by decide)
  refine bl_unique ?_ (Or.inr ?_)
  · rw [Nat.pow_add]
    have := Nat.lt_mul_of_div_lt a1 hp
    rw [Nat.mul_comm]
    exact this
  · rw [show s + bl (n / 2 ^ s) - 1 = s + (bl (n / 2 ^ s) - 1) from by omega, Nat.pow_add]
    have := Nat.mul_le_mul_left (2 ^ s) a2
    exact Nat.le_trans this (Nat.mul_div_le n (2 ^ s))
theorem bl_half {n : Nat} (h : n ≠ 0) : bl n = bl (n / 2) + 1 := by
  by_cases h1 : n / 2 = 0
  · have : n = 1 := by omega
    subst this
    decide
  · have := bl_shift n 1 (by simpa using h1)
    simp only [Nat.pow_one] at this
    omega
theorem bl_le {x m : Nat} (h : x < 2 ^ m) : bl x ≤ m := by
  by_cases hx : x = 0
  · subst hx; exact Nat.zero_le _
  · have a2 := bl_ge hx
    have a3 := bl_pos hx
    have : bl x - 1 < m := (Nat.pow_lt_pow_iff_right (a := 2) (by decide)).1 (by omega)
    omega
theorem bl_le8 {x : Nat} (h : x < 256) : bl x ≤ 8 := bl_le h
def bitsV (a : List Int) : Int := if rightB a = true ∧ a.length ≠ 0 then 64 * ((a.length : Int) - 1) + ((bl (a.getD (a.length - 1) 0).toNat : Nat) : Int) else 0
end Go.Proofs.Ytkgaejigpmkfkaa.Z
end
section
namespace Go.Proofs.Ytkgaejigpmkfkaa.F
open Go.RowKit Go.Proofs.YtkgaejigpmkfkaaW.PrintWords Go.Proofs.YtkgaejigpmkfkaaW.PrintLast Go.Proofs.YtkgaejigpmkfkaaW.PrintMore
attribute [local go_sem] max2_int min2_int max_two min_two max_three min_three max_four min_four
set_option linter.unusedVariables false
set_option linter.unusedSimpArgs false
open Go.Proofs.Ytkgaejigpmkfkaa.Z (strip)
theorem strip_take (l : List Int) : ∃ k : Nat, k ≤ l.length ∧ strip l = l.take k ∧ (∀ j, k ≤ j → j < l.length → l.getD j 0 = 0) ∧ (0 < k → l.getD (k - 1) 0 ≠ 0) := by
  induction l with
  | nil => exact ⟨0, Nat.le_refl _, rfl, fun j _ hj => absurd hj (Nat.not_lt_zero _), fun h => absurd h (Nat.lt_irrefl _)⟩
  | cons d l ih =>
    obtain ⟨k, h1, h2, h3, h4⟩ := ih
    by_cases hk : k = 0
    · subst hk
      have hs : strip l = [] := by rw [h2]; rfl
      by_cases hd : d = 0
      · refine ⟨0, Nat.zero_le _, ?_, fun j _ hj => ?_, fun h => absurd h (Nat.lt_irrefl _)⟩
        · simp [strip, hs, hd]
        · cases j with
          | zero => simpa using hd
          | succ j => simpa using h3 j (Nat.zero_le _) (by simpa using hj)
      · refine ⟨1, by simp, ?_, fun j hj1 hj => ?_, fun _ => by simpa using hd⟩
        · simp [strip, hs, hd]
        · cases j with
          | zero => omega
          | succ j => simpa using h3 j (Nat.zero_le _) (by simpa using hj)
    · have hne : strip l ≠ [] := by
        rw [h2]
        intro e
        have := congrArg List.length e
        rw [List.length_take, List.length_nil] at this
        omega
      refine ⟨k + 1, by simp; omega, ?_, fun j hj1 hj => ?_, fun _ => ?_⟩
      · rw [List.take_succ_cons, ← h2]
        simp [strip, hne]
      · cases j with
        | zero => omega
        | succ j => simpa using h3 j (by omega) (by simpa using hj)
      · have := h4 (by omega)
        rw [show k + 1 - 1 = (k - 1) + 1 from by omega]
        simpa using this
set_option maxHeartbeats 4000000 in
set_option maxRecDepth 100000 in
theorem nat_trimC.calls (A0 : Option Addr) (c0 : Nat) (l0 : List Int) (w : World) (hr0 : Kd.C (Kd.int .u64) w A0 l0.length l0) (hc0 : l0.length ≤ c0) :
    Calls Try.prog 133 #[.slice A0 l0.length c0] w fun e w' => e = .returned (.slice A0 (strip l0).length c0) ∧ Drawn0 w w' := by
  have HR0 := Aside0.mk hr0
  obtain ⟨k, hk, hs, hz, hn⟩ := strip_take l0
  have hlen : (strip l0).length = k := by rw [hs, List.length_take]; omega
  rw [hlen]
  have hbig : l0.length ≤ 9223372036854775807 := hr0.2.1
  have HZ := Aside0.mk hz
  have HN := Aside0.mk hn
  have HC0 := Aside0.mk hc0
  clear hr0 hz hn hs hlen
  obtain ⟨i0, hi0, _, hsz, _⟩ := info_parts info30
  have hcut := fun W => cut_to (P := Try.prog) 40 30 .i64 Try.underlying40 hi0 A0 l0.length c0 (k : Int) (Int.natCast_nonneg k) (by omega) HC0.out W
  rw [Int.toNat_natCast] at hcut
  have HCUT := Aside0.mk hcut
  clear hcut hi0 hsz
  go_enter Try.func133, Try.ntmps133
  go_wp2
  go_loopg [3] l0.length (fun gg s3 wr => ∃ n : Nat, k ≤ n ∧ n ≤ l0.length ∧ n - k ≤ gg ∧ s3 = .int .i64 (n : Int) ∧ Aside0 (Drawn0 w wr))
  case atStart => exact ⟨l0.length, hk, Nat.le_refl _, by omega, rfl, ⟨Drawn0.refl _⟩⟩
  case round =>
    obtain ⟨n, hkn, hnl, hg, rfl, D⟩ := hrel
    by_cases hn0 : n = 0
    · subst hn0
      obtain rfl : k = 0 := by omega
      have hcut2 := HCUT.out
      go_wp2
      go_ret
      exact ⟨rfl, D.out⟩
    · obtain ⟨m, rfl⟩ : ∃ m, n = m + 1 := ⟨n - 1, by omega⟩
      have hpos : decide ((0 : Int) < ((m + 1 : Nat) : Int)) = true := decide_eq_true (by omega)
      have e1 : ((m + 1 : Nat) : Int) - 1 = (m : Int) := by omega
      have hC1 : Kd.C (Kd.int .u64) wr A0 l0.length l0 := Kd.C_below HR0.out D.out.below
      obtain ⟨ad, hA, hcell⟩ := Kd.at_int hC1 (m : Int) (Int.natCast_nonneg m) (by omega)
      subst hA
      simp only [Go.IntWalk.toNatUp] at hcell
      have HX := HZ.out m
      have HY := HN.out
      clear hC1
      rw [show rd l0 (m : Int) = l0.getD m 0 from rfl] at hcell
      generalize hx : l0.getD m 0 = x at hcell HX
      have D2 := D
      have hcut2 := HCUT.out
      by_cases hlast : k ≤ m
      · have hx0 : (x == 0) = true := by rw [HX hlast (by omega)]; rfl
        clear D HX HY hx hcut2
        go_wp2
        go_roundg (m - k)
        case measure => omega
        case rel => exact ⟨m, hlast, by omega, by omega, rfl, D2⟩
      · obtain rfl : k = m + 1 := by omega
        have hx0 : (x == 0) = false := by
          have := HY (by omega)
          rw [Nat.add_sub_cancel, hx] at this
          simpa using this
        clear D HX HY hx
        go_wp2
        go_ret
        exact ⟨rfl, D2.out⟩
set_option maxHeartbeats 4000000 in
set_option maxRecDepth 100000 in
theorem nat_low.calls (A0 : Option Addr) (c0 : Nat) (l0 : List Int) (gn n : Nat) (w : World) (hr0 : Kd.C (Kd.int .u64) w A0 l0.length l0) (hc0 : l0.length ≤ c0) (hg : w.heap[gn]? = some (.cells #[.int .i64 (n : Int)] 3 (0, 0))) :
    Calls Try.prog 137 #[.slice A0 l0.length c0, .pointer (some ⟨gn, 0, none⟩)] w fun e w' => e = .returned (.slice A0 (strip (l0.take n)).length c0) ∧ Drawn0 w w' := by
  have HR0 := Aside0.mk hr0
  have HC0 := Aside0.mk hc0
  have hcell := (blk_cell hg 0).trans rfl
  obtain ⟨i0, hi0, _, hsz, _⟩ := info_parts info30
  obtain ⟨m, hm⟩ : ∃ m : Nat, m = min n l0.length := ⟨_, rfl⟩
  have hml : m ≤ l0.length := by omega
  have htk : l0.take n = l0.take m := by
    rcases Nat.le_total n l0.length with h | h
    · rw [show m = n from by omega]
    · rw [show m = l0.length from by omega, List.take_of_length_le h, List.take_length]
  rw [htk]
  have hcut := fun W => cut_to (P := Try.prog) 40 30 .i64 Try.underlying40 hi0 A0 l0.length c0 (m : Int) (Int.natCast_nonneg m) (by omega) W
  rw [Int.toNat_natCast] at hcut
  have hC1 : Kd.C (Kd.int .u64) w A0 (l0.take m).length (l0.take m) := Kd.C_take hr0 hml
  have hl1 : (l0.take m).length = m := by rw [List.length_take]; omega
  have HT := Aside0.mk (nat_trimC.calls A0 c0 (l0.take m) w hC1 (by omega))
  rw [hl1] at HT
  have HCUT := Aside0.mk hcut
  have HM := Aside0.mk hm
  have HML := Aside0.mk hml
  clear hr0 hc0 hg hi0 hsz hcut hC1 hl1 hm htk hml
  by_cases hlt : (l0.length : Int) < (n : Int)
  · have h1 : decide ((l0.length : Int) < (n : Int)) = true := decide_eq_true hlt
    have h1N : (l0.length < n) = True := eq_true (by omega)
    obtain rfl : m = l0.length := by have := HM.out; omega
    rw [List.take_length] at HT ⊢
    have hcut2 := HCUT.out
    have hq1 := eq_true (show ((l0.length : Nat) : Int) ≤ (c0 : Int) by have := HC0.out; have := HML.out; omega)
    have hq2 := eq_true (show l0.length ≤ c0 by have := HC0.out; have := HML.out; omega)
    clear hlt
    go_enter Try.func137, Try.ntmps137
    go_wp2_with (go_at_call 133; (with_reducible refine HT.out.mono ?_); rintro e w' ⟨rfl, hd⟩)
    go_ret
    exact ⟨rfl, hd⟩
  · have h1 : decide ((l0.length : Int) < (n : Int)) = false := decide_eq_false hlt
    have h1N : (l0.length < n) = False := eq_false (by omega)
    obtain rfl : m = n := by have := HM.out; omega
    have hcut2 := HCUT.out
    have hq1 := eq_true (show ((m : Nat) : Int) ≤ (c0 : Int) by have := HC0.out; have := HML.out; omega)
    have hq2 := eq_true (show m ≤ c0 by have := HC0.out; have := HML.out; omega)
    clear hlt
    go_enter Try.func137, Try.ntmps137
    go_wp2_with (go_at_call 133; (with_reducible refine HT.out.mono ?_); rintro e w' ⟨rfl, hd⟩)
    go_ret
    exact ⟨rfl, hd⟩
set_option maxHeartbeats 4000000 in
set_option maxRecDepth 100000 in
theorem nat_high.calls (A0 : Option Addr) (c0 : Nat) (l0 : List Int) (gn n : Nat) (w : World) (hc0 : l0.length ≤ c0) (hg : w.heap[gn]? = some (.cells #[.int .i64 (n : Int)] 3 (0, 0))) :
    Calls Try.prog 138 #[.slice A0 l0.length c0, .pointer (some ⟨gn, 0, none⟩)] w fun e w' => ∃ (A1 : Option Addr) (c1 : Nat), e = .returned (.slice A1 (l0.drop n).length c1) ∧ (l0.drop n).length ≤ c1 ∧ (∀ W : World, Kd.C (Kd.int .u64) W A0 l0.length l0 → Kd.C (Kd.int .u64) W A1 (l0.drop n).length (l0.drop n)) ∧ Drawn0 w w' := by
  have HC0 := Aside0.mk hc0
  have hcell := (blk_cell hg 0).trans rfl
  obtain ⟨i0, hi0, _, hsz, _⟩ := info_parts info30
  obtain ⟨m, hm⟩ : ∃ m : Nat, m = min n l0.length := ⟨_, rfl⟩
  have hml : m ≤ l0.length := by omega
  have hdr : l0.drop n = l0.drop m := by
    rcases Nat.le_total n l0.length with h | h
    · rw [show m = n from by omega]
    · rw [List.drop_of_length_le h, List.drop_of_length_le (by omega)]
  rw [hdr]
  obtain ⟨A2, c2, hc2, hA2, hcut⟩ : ∃ (A2 : Option Addr) (c2 : Nat), (l0.drop m).length ≤ c2 ∧ (∀ W : World, Kd.C (Kd.int .u64) W A0 l0.length l0 → Kd.C (Kd.int .u64) W A2 (l0.drop m).length (l0.drop m)) ∧ ∀ W : World, (Instr.slice 40 (.slice A0 l0.length c0) (some (.int .i64 (m : Int))) none none).run Try.prog W = .ok (.slice A2 (l0.drop m).length c2) W := by
    refine ⟨if c0 = (m : Int).toNat then A0 else A0.map (·.add ((m : Int).toNat * 1)), c0 - (m : Int).toNat, ?_, fun W h => ?_, fun W => ?_⟩
    · rw [List.length_drop, Int.toNat_natCast]; omega
    · rw [Int.toNat_natCast]
      exact Kd.C_drop h (by omega) hc0
    · rw [List.length_drop]
      have h3 := cut_from (P := Try.prog) 40 30 .i64 Try.underlying40 hi0 1 hsz A0 l0.length c0 (m : Int) (Int.natCast_nonneg m) (by omega) W
      rw [Int.toNat_natCast] at h3 ⊢
      exact h3
  obtain ⟨Y, hY⟩ : ∃ Y, Y = l0.drop m := ⟨_, rfl⟩
  rw [← hY] at hcut hA2 hc2 ⊢
  have HCUT := Aside0.mk hcut
  have HA := Aside0.mk hA2
  have HC2 := Aside0.mk hc2
  have HM := Aside0.mk hm
  have HML := Aside0.mk hml
  clear hc0 hg hi0 hsz hcut hA2 hc2 hm hdr hml hY
  by_cases hlt : (l0.length : Int) < (n : Int)
  · have h1 : decide ((l0.length : Int) < (n : Int)) = true := decide_eq_true hlt
    have h1N : (l0.length < n) = True := eq_true (by omega)
    obtain rfl : m = l0.length := by have := HM.out; omega
    have hcut2 := HCUT.out
    have hq1 := eq_true (show ((l0.length : Nat) : Int) ≤ (c0 : Int) by have := HC0.out; have := HML.out; omega)
    have hq2 := eq_true (show l0.length ≤ c0 by have := HC0.out; have := HML.out; omega)
    clear hlt
    go_enter Try.func138, Try.ntmps138
    go_wp2
    go_ret
    exact ⟨A2, c2, rfl, HC2.out, HA.out, Drawn0.refl _⟩
  · have h1 : decide ((l0.length : Int) < (n : Int)) = false := decide_eq_false hlt
    have h1N : (l0.length < n) = False := eq_false (by omega)
    obtain rfl : m = n := by have := HM.out; omega
    have hcut2 := HCUT.out
    have hq1 := eq_true (show ((m : Nat) : Int) ≤ (c0 : Int) by have := HC0.out; have := HML.out; omega)
    have hq2 := eq_true (show m ≤ c0 by have := HC0.out; have := HML.out; omega)
    clear hlt
    go_enter Try.func138, Try.ntmps138
    go_wp2
    go_ret
    exact ⟨A2, c2, rfl, HC2.out, HA.out, Drawn0.refl _⟩
end Go.Proofs.Ytkgaejigpmkfkaa.F
end
section
namespace Go.Proofs.Ytkgaejigpmkfkaa.Z
open Go.RowKit Go.Proofs.Ytkgaejigpmkfkaa.F Go.Proofs.YtkgaejigpmkfkaaW.PrintWords
set_option linter.unusedSimpArgs false
set_option linter.unusedVariables false
theorem nat_trim_loop (l : List Int) (h : l.length ≤ maxLen) : ∀ n : Nat, n ≤ l.length → Evt (fun k => nat_trim.l0 k l (n : Int)) (strip (l.take n)) := by
  unfold maxLen at h
  intro n
  induction n with
  | zero =>
    intro _
    refine Evt.succ ?_
    simp only [nat_trim.l0]
    refine Evt.ite_neg (by omega) (Evt.ite_pos (by omega) (Evt.ite_pos (by omega) ?_))
    simp [strip]
    exact Evt.pure _
  | succ n ih =>
    intro hn
    refine Evt.succ ?_
    simp only [nat_trim.l0]
    rw [w64 (by omega) (by omega), show ((n + 1 : Nat) : Int) - 1 = (n : Int) from by omega]
    refine Evt.ite_pos (by omega) (Evt.ite_pos (by omega) (Evt.ite_pos (by omega) ?_))
    rw [rd_nat, List.take_succ_eq_append_getElem (show n < l.length by omega)]
    have hg : l.getD n 0 = l[n] := by simp [show n < l.length by omega]
    rw [hg]
    by_cases h0 : l[n] = 0
    · rw [h0, strip_snoc_zero]
      exact Evt.ite_pos rfl (ih (by omega))
    · rw [strip_snoc h0]
      refine Evt.ite_neg h0 (Evt.ite_pos (by omega) (Evt.ite_pos (by omega) ?_))
      rw [← List.take_succ_eq_append_getElem (show n < l.length by omega)]
      exact Evt.pure _
theorem nat_trim_ev (l : List Int) (h : l.length ≤ maxLen) : Evt (fun k => nat_trim.f k l) (strip l) := by
  have := nat_trim_loop l h l.length (Nat.le_refl _)
  exact this.congr (fun k => rfl) (by rw [List.take_length])
theorem set_at {α : Type} (p : List α) (x v : α) (r : List α) : (p ++ x :: r).set p.length v = p ++ v :: r := by simp
theorem carry_of {c : Int} (h : c = 0 ∨ c = 1) : carry01 c = true := decide_eq_true h
def lessL : List Int → List Int → Int → List Int
  | [], _, _ => []
  | x :: a, b, c => sub64_s x (b.getD 0 0) c :: lessL a (b.drop 1) (sub64_c x (b.getD 0 0) c)
theorem sub64_facts {x y c : Int} (hx : 0 ≤ x ∧ x < (b64 : Int)) (hy : 0 ≤ y ∧ y < (b64 : Int)) (hc : c = 0 ∨ c = 1) :
    sub64_s x y c - (b64 : Int) * sub64_c x y c = x - y - c ∧ (0 ≤ sub64_s x y c ∧ sub64_s x y c < (b64 : Int)) ∧ (sub64_c x y c = 0 ∨ sub64_c x y c = 1) := by
  unfold sub64_s sub64_c
  simp only [b64] at *
  by_cases h : x.toNat < y.toNat + c.toNat
  · rw [if_pos h]; omega
  · rw [if_neg h]; omega
theorem lessL_len : ∀ (a b : List Int) (c : Int), (lessL a b c).length = a.length := by
  intro a
  induction a with
  | nil => intro b c; rfl
  | cons z x ih => intro b c; simp only [lessL, List.length_cons, ih]
theorem lessL_facts : ∀ (a b : List Int) (c : Int), Dig (b64 : Int) a → Dig (b64 : Int) b → b.length ≤ a.length → (c = 0 ∨ c = 1) →
    Dig (b64 : Int) (lessL a b c) ∧ ∃ t, 0 ≤ t ∧ val (b64 : Int) (lessL a b c) = val (b64 : Int) a - val (b64 : Int) b - c + (b64 : Int) ^ a.length * t := by
  intro a
  induction a with
  | nil =>
    intro b c _ _ hlen hc
    have : b = [] := List.length_eq_zero_iff.1 (by simpa using hlen)
    subst this
    exact ⟨Dig.nil, c, by omega, by simp [lessL, val]; omega⟩
  | cons x a ih =>
    intro b c da db hlen hc
    have d1 := Dig.cons.1 da
    have hy := db.getD b64_pos 0
    obtain ⟨e1, e2, e3⟩ := sub64_facts d1.1 hy hc
    obtain ⟨i1, t, ht, i2⟩ := ih (b.drop 1) _ d1.2 (db.drop 1) (by simp at hlen ⊢; omega) e3
    refine ⟨Dig.cons.2 ⟨e2, i1⟩, t, ht, ?_⟩
    simp only [lessL, val]
    rw [i2]
    have hb : val (b64 : Int) b = b.getD 0 0 + (b64 : Int) * val (b64 : Int) (b.drop 1) := by
      cases b with
      | nil => simp [val]
      | cons y b => simp [val]
    rw [hb]
    generalize (b64 : Int) = B at *
    generalize sub64_s x (b.getD 0 0) c = s at *
    generalize sub64_c x (b.getD 0 0) c = u at *
    generalize val B a = va at *
    generalize val B (b.drop 1) = vb at *
    generalize b.getD 0 0 = y at *
    rw [List.length_cons, Int.pow_succ]
    generalize B ^ a.length = P at *
    have h1 : B * (va - vb - u + P * t) = B * va - B * vb - B * u + P * B * t := by grind
    omega
theorem nat_less_l0 (a b : List Int) (ha : a.length ≤ 1000) (hb : b.length ≤ 1000) (da : Dig (b64 : Int) a) (db : Dig (b64 : Int) b) (n : Nat) : ∀ (i : Nat) (p : List Int) (c : Int), p.length = i → i ≤ a.length → a.length - i = n → (c = 0 ∨ c = 1) →
    Evt (fun k => nat_less.l0 k a b (p ++ List.replicate n 0) c (a.length : Int) (i : Int)) (p ++ lessL (a.drop i) (b.drop i) c) := by
  induction n with
  | zero =>
    intro i p c hp hi hn hc
    refine Evt.succ ?_
    simp only [nat_less.l0]
    refine Evt.ite_neg (by omega) ?_
    rw [List.drop_of_length_le (show a.length ≤ i by omega)]
    simp only [lessL, List.replicate_zero]
    exact Evt.pure _
  | succ n ih =>
    intro i p c hp hi hn hc
    have hlt : i < a.length := by omega
    refine Evt.succ ?_
    simp only [nat_less.l0]
    refine Evt.ite_pos (by omega) ?_
    have hx : rd a (i : Int) = a[i] := by simp [rd_nat, hlt]
    have hxr := da a[i] (List.getElem_mem hlt)
    have hset : ∀ v : Int, (p ++ List.replicate (n + 1) 0).set ((i : Int)).toNat v = (p ++ [v]) ++ List.replicate n 0 := by
      intro v
      rw [show ((i : Int)).toNat = p.length from by omega, List.replicate_succ, set_at, List.append_assoc]
      rfl
    have hyr := (db.drop i).getD b64_pos 0
    have hfin : ∀ y : Int, y = (b.drop i).getD 0 0 → Evt (fun k => nat_less.l0 k a b ((p ++ List.replicate (n + 1) 0).set ((i : Int)).toNat (sub64_s (rd a (i : Int)) y c)) (sub64_c (rd a (i : Int)) y c) (a.length : Int) (wrap64 ((i : Int) + 1))) (p ++ lessL (a.drop i) (b.drop i) c) := by
      intro y hy
      subst hy
      obtain ⟨e1, e2, e3⟩ := sub64_facts hxr hyr hc
      rw [hx, hset, w64 (by omega) (by omega)]
      have h := ih (i + 1) (p ++ [sub64_s a[i] ((b.drop i).getD 0 0) c]) (sub64_c a[i] ((b.drop i).getD 0 0) c) (by simp [hp]) (by omega) (by omega) e3
      refine h.congr (fun k => rfl) ?_
      rw [List.drop_eq_getElem_cons hlt]
      simp only [lessL, List.drop_drop, List.append_assoc, List.singleton_append]
    by_cases hib : i < b.length
    · refine Evt.ite_pos (by omega) (Evt.ite_pos (by omega) (Evt.ite_pos (by omega) (Evt.ite_pos (carry_of hc) (Evt.ite_pos (by simp; omega) ?_))))
      refine hfin _ ?_
      simp [rd_nat, hib]
    · refine Evt.ite_neg (by omega) (Evt.ite_pos (by omega) (Evt.ite_pos (by omega) (Evt.ite_pos (carry_of hc) (Evt.ite_pos (by simp; omega) ?_))))
      refine hfin _ ?_
      simp [List.drop_of_length_le (show b.length ≤ i by omega)]
theorem nat_less_ev (a b : List Int) (ha : a.length ≤ 1000) (hb : b.length ≤ a.length) (da : Dig (b64 : Int) a) (db : Dig (b64 : Int) b) (hle : num b ≤ num a) : ∃ s, Evt (fun k => nat_less.f k a b) s ∧ Dig (b64 : Int) s ∧ num s = num a - num b ∧ s.length = a.length := by
  refine ⟨lessL a b 0, ?_, ?_⟩
  · unfold nat_less.f
    refine Evt.ite_pos (by omega) (Evt.ite_pos (by omega) ?_)
    have h := nat_less_l0 a b ha (by omega) da db a.length 0 [] 0 rfl (Nat.zero_le _) (by omega) (Or.inl rfl)
    exact h.congr (fun k => by simp) (by simp)
  · obtain ⟨f1, t, ht, f2⟩ := lessL_facts a b 0 da db hb (Or.inl rfl)
    refine ⟨f1, ?_, lessL_len a b 0⟩
    have h1 := num_val f1
    have h2 := num_val da
    have h3 := num_val db
    have h4 := num_lt f1
    rw [lessL_len] at h4
    rw [pow_cast] at f2
    have ht0 : t = 0 := by
      by_cases e : t = 0
      · exact e
      · have h5 : ((b64 ^ a.length : Nat) : Int) * 1 ≤ ((b64 ^ a.length : Nat) : Int) * t := Int.mul_le_mul_of_nonneg_left (by omega) (by omega)
        omega
    subst ht0
    rw [Int.mul_zero] at f2
    omega
theorem nat_told_ev (l : List Int) (h : l.length ≤ 1000000) (d : Dig (b64 : Int) l) : Evt (fun k => nat_told.f k l) (toldV (num l)) := by
  unfold nat_told.f toldV
  refine Evt.bind (nat_trim_ev l (by simp [maxLen]; omega)) ?_
  rw [strip_limbs d]
  have hl := limbs_long (num l)
  by_cases h1 : num l < b64 ^ 64
  · rw [if_pos h1]
    have := hl.2 h1
    exact Evt.ite_neg (by omega) (Evt.pure _)
  · rw [if_neg h1]
    have : ¬ (limbs (num l)).length ≤ 64 := fun hh => h1 (hl.1 hh)
    exact Evt.ite_pos (by omega) (Evt.pure _)
theorem strip_split (l : List Int) : ∃ n, l = strip l ++ List.replicate n 0 := by
  induction l with
  | nil => exact ⟨0, rfl⟩
  | cons d l ih =>
    obtain ⟨n, hn⟩ := ih
    simp only [strip]
    by_cases h : strip l = []
    · rw [if_pos h]
      rw [h, List.nil_append] at hn
      by_cases h0 : d = 0
      · rw [if_pos h0]
        refine ⟨n + 1, ?_⟩
        rw [h0, List.replicate_succ, List.nil_append, ← hn]
      · rw [if_neg h0]
        refine ⟨n, ?_⟩
        rw [List.singleton_append, ← hn]
    · rw [if_neg h]
      refine ⟨n, ?_⟩
      rw [List.cons_append, ← hn]
theorem can_of_val {B : Nat} (hB : 2 ≤ B) {l : List Int} (h : Dig (B : Int) l) (hv : l ≠ [] → (B : Int) ^ (l.length - 1) ≤ val (B : Int) l) : Can l := by
  by_cases e : l = []
  · subst e; exact Can.nil
  · have h1 := hv e
    obtain ⟨n, hn⟩ := strip_split l
    have h2 := val_lt (show (0 : Int) < (B : Int) by omega) (strip_dig h)
    rw [strip_val] at h2
    have h3 : l.length = (strip l).length + n := by
      have := congrArg List.length hn
      simpa using this
    have h4 : n = 0 := by
      by_cases hn0 : n = 0
      · exact hn0
      · have := pow_mono (show (0 : Int) < (B : Int) by omega) (show (strip l).length ≤ l.length - 1 by omega)
        omega
    subst h4
    rw [List.replicate_zero, List.append_nil] at hn
    rw [hn]
    exact strip_can l
def grp (d : List Int) : Int := d.getD 0 0 + 65536 * (d.getD 1 0 + 65536 * (d.getD 2 0 + 65536 * d.getD 3 0))
def outN : Nat → List Int → List Int
  | 0, _ => []
  | n + 1, d => grp d :: outN n (d.drop 4)
theorem grp_range {d : List Int} (h : Dig (b16 : Int) d) : 0 ≤ grp d ∧ grp d < (b64 : Int) := by
  have h0 := h.getD b16_pos 0
  have h1 := h.getD b16_pos 1
  have h2 := h.getD b16_pos 2
  have h3 := h.getD b16_pos 3
  unfold grp
  simp only [b16, b64] at *
  omega
theorem val_four (d : List Int) : val (b16 : Int) d = grp d + (b64 : Int) * val (b16 : Int) (d.drop 4) := by
  unfold grp
  simp only [b16, b64]
  match d with
  | [] => simp [val]
  | [a] => simp [val]
  | [a, b] => simp [val]
  | [a, b, c] => simp [val]
  | a :: b :: c :: e :: d => simp [val]; omega
theorem outN_facts (n : Nat) : ∀ d : List Int, Dig (b16 : Int) d → d.length ≤ 4 * n → Dig (b64 : Int) (outN n d) ∧ val (b64 : Int) (outN n d) = val (b16 : Int) d ∧ (outN n d).length = n := by
  induction n with
  | zero =>
    intro d _ h
    have : d = [] := List.length_eq_zero_iff.1 (by omega)
    subst this
    exact ⟨Dig.nil, rfl, rfl⟩
  | succ n ih =>
    intro d hd h
    obtain ⟨i1, i2, i3⟩ := ih (d.drop 4) (hd.drop 4) (by simp; omega)
    refine ⟨Dig.cons.2 ⟨grp_range hd, i1⟩, ?_, by simp [outN, i3]⟩
    rw [val_four d]
    simp only [outN, val, i2]
theorem out_limbs (v : Nat) : outN (((digs v).length + 3) / 4) (digs v) = limbs v := by
  obtain ⟨f1, f2, f3⟩ := outN_facts (((digs v).length + 3) / 4) (digs v) (toD_dig b16_two v) (by omega)
  rw [val_toD b16_two] at f2
  have hc : Can (outN (((digs v).length + 3) / 4) (digs v)) := by
    refine can_of_val b64_two f1 (fun hne => ?_)
    rw [f2, f3, b64_pow, pow_cast, ← Nat.pow_mul]
    have hl : 0 < ((digs v).length + 3) / 4 := by rw [← f3]; exact List.length_pos_iff.2 hne
    have hd : digs v ≠ [] := by intro e; rw [e] at hl; simp at hl
    have h1 := val_pos b16_pos (toD_dig b16_two v) (toD_can b16_two v) hd
    rw [val_toD b16_two, pow_cast] at h1
    have h2 : b16 ^ (4 * (((digs v).length + 3) / 4 - 1)) ≤ b16 ^ ((digs v).length - 1) := Nat.pow_le_pow_right (by decide) (by omega)
    exact Int.le_trans (Int.ofNat_le.2 h2) h1
  have := limbs_num f1 hc
  rw [← this]
  unfold num
  rw [f2]
  rfl
theorem out_inner (d acc : List Int) (i : Nat) (hd : Dig (b16 : Int) d) (hacc : acc.length ≤ 1000000) (hi : i ≤ 4000000) {r : List Int × Bool}
    (h : Evt (fun k => windbreakref01_Out.l0 k d (acc ++ [grp (d.drop i)]) ((i + 4 : Nat) : Int)) r) : Evt (fun k => windbreakref01_Out.l1 k d acc (i : Int) 0 3) r := by
  have step : ∀ (x : Int) (j : Nat), j ≤ 3 → 0 ≤ x → x * 65536 + 65535 < 18446744073709551616 →
      Evt (fun k => windbreakref01_Out.l1 k d acc (i : Int) (x * 65536 + (d.drop i).getD j 0) ((j : Int) - 1)) r →
      Evt (fun k => windbreakref01_Out.l1 k d acc (i : Int) x (j : Int)) r := by
    intro x j hj hx hx2 hs
    have hdig := (hd.drop i).getD b16_pos j
    simp only [b16] at hdig
    refine Evt.succ ?_
    simp only [windbreakref01_Out.l1]
    refine Evt.ite_pos (by omega) ?_
    rw [w64 (show -9223372036854775808 ≤ (i : Int) + (j : Int) by omega) (by omega), w64 (show -9223372036854775808 ≤ (j : Int) - 1 by omega) (by omega), wu64_of (show 0 ≤ x * 65536 by omega) (by omega)]
    by_cases hlt : i + j < d.length
    · refine Evt.ite_pos (by omega) (Evt.ite_pos (by omega) ?_)
      have e : rd d ((i : Int) + (j : Int)) = (d.drop i).getD j 0 := by
        rw [rd_getD, show ((i : Int) + (j : Int)).toNat = i + j from by omega]
        simp [List.getD_eq_getElem?_getD]
      rw [e, wu64_of (by omega) (by omega)]
      exact hs
    · refine Evt.ite_neg (by omega) ?_
      have e : (d.drop i).getD j 0 = 0 := by
        simp [List.getD_eq_getElem?_getD, List.getElem?_eq_none (by omega : d.length ≤ i + j)]
      rw [e, Int.add_zero] at hs
      exact hs
  have h0 := (hd.drop i).getD b16_pos 0
  have h1 := (hd.drop i).getD b16_pos 1
  have h2 := (hd.drop i).getD b16_pos 2
  have h3 := (hd.drop i).getD b16_pos 3
  simp only [b16] at h0 h1 h2 h3
  refine step 0 3 (by omega) (by omega) (by omega) ?_
  refine (step (0 * 65536 + (d.drop i).getD 3 0) 2 (by omega) (by omega) (by omega) ?_).congr (fun k => rfl) rfl
  refine (step ((0 * 65536 + (d.drop i).getD 3 0) * 65536 + (d.drop i).getD 2 0) 1 (by omega) (by omega) (by omega) ?_).congr (fun k => rfl) rfl
  refine (step (((0 * 65536 + (d.drop i).getD 3 0) * 65536 + (d.drop i).getD 2 0) * 65536 + (d.drop i).getD 1 0) 0 (by omega) (by omega) (by omega) ?_).congr (fun k => rfl) rfl
  refine Evt.succ ?_
  simp only [windbreakref01_Out.l1]
  refine Evt.ite_neg (by omega) (Evt.ite_pos (by omega) ?_)
  rw [w64 (by omega) (by omega)]
  refine h.congr (fun k => ?_) rfl
  have e : (((0 * 65536 + (d.drop i).getD 3 0) * 65536 + (d.drop i).getD 2 0) * 65536 + (d.drop i).getD 1 0) * 65536 + (d.drop i).getD 0 0 = grp (d.drop i) := by
    unfold grp; omega
  rw [e, show (i : Int) + 4 = ((i + 4 : Nat) : Int) from by omega]
theorem out_loop (d : List Int) (hd : Dig (b16 : Int) d) (hlen : d.length ≤ 1000000) (n : Nat) : ∀ (i : Nat) (acc : List Int), acc.length ≤ i → i ≤ d.length + 3 → (d.length - i + 3) / 4 = n →
    Evt (fun k => windbreakref01_Out.l0 k d acc (i : Int)) (acc ++ outN n (d.drop i), decide ((acc ++ outN n (d.drop i)).length ≤ 64)) := by
  induction n with
  | zero =>
    intro i acc hacc hi hn
    refine Evt.succ ?_
    simp only [windbreakref01_Out.l0]
    refine Evt.ite_neg (by omega) ?_
    simp only [outN, List.append_nil]
    refine (Evt.pure _).congr (fun k => rfl) ?_
    congr 1
    simp only [decide_eq_decide]
    omega
  | succ n ih =>
    intro i acc hacc hi hn
    refine Evt.succ ?_
    simp only [windbreakref01_Out.l0]
    refine Evt.ite_pos (by omega) ?_
    refine out_inner d acc i hd (by omega) (by omega) ?_
    refine (ih (i + 4) (acc ++ [grp (d.drop i)]) (by simp; omega) (by omega) (by omega)).congr (fun k => rfl) ?_
    simp [outN, List.drop_drop]
theorem ref_Out_ev (v : Nat) (hv : v < lim) : Evt (fun k => windbreakref01_Out.f k (digs v)) (limbs v, decide (v < b64 ^ 64)) := by
  have hlen : (digs v).length ≤ 1000000 := Nat.le_trans (digs_len hv) (by omega)
  have h := out_loop (digs v) (toD_dig b16_two v) hlen (((digs v).length + 3) / 4) 0 [] (Nat.le_refl _) (by omega) (by omega)
  refine h.congr (fun k => rfl) ?_
  rw [List.nil_append, List.drop_zero, out_limbs]
  have := limbs_long v
  simp only [this]
theorem ref_told_ev (v : Nat) (hv : v < lim) : Evt (fun k => windbreakref01_told.f k (digs v)) (toldV v) := by
  unfold windbreakref01_told.f toldV
  refine Evt.bind (ref_Out_ev v hv) ?_
  by_cases h : v < b64 ^ 64
  · simp only [h, decide_true, if_true]
    exact Evt.pure _
  · simp only [h, decide_false, if_false]
    exact Evt.ite_neg (by simp) (Evt.pure _)
theorem windbreakref01_cut_loop (l : List Int) (h : l.length ≤ maxLen) : ∀ n : Nat, n ≤ l.length → Evt (fun k => windbreakref01_cut.l0 k l (n : Int)) (strip (l.take n)) := by
  unfold maxLen at h
  intro n
  induction n with
  | zero =>
    intro _
    refine Evt.succ ?_
    simp only [windbreakref01_cut.l0]
    refine Evt.ite_neg (by omega) (Evt.ite_pos (by omega) (Evt.ite_pos (by omega) ?_))
    simp [strip]
    exact Evt.pure _
  | succ n ih =>
    intro hn
    refine Evt.succ ?_
    simp only [windbreakref01_cut.l0]
    rw [w64 (by omega) (by omega), show ((n + 1 : Nat) : Int) - 1 = (n : Int) from by omega]
    refine Evt.ite_pos (by omega) (Evt.ite_pos (by omega) (Evt.ite_pos (by omega) ?_))
    rw [rd_nat, List.take_succ_eq_append_getElem (show n < l.length by omega)]
    have hg : l.getD n 0 = l[n] := by simp [show n < l.length by omega]
    rw [hg]
    by_cases h0 : l[n] = 0
    · rw [h0, strip_snoc_zero]
      exact Evt.ite_pos rfl (ih (by omega))
    · rw [strip_snoc h0]
      refine Evt.ite_neg h0 (Evt.ite_pos (by omega) (Evt.ite_pos (by omega) ?_))
      rw [← List.take_succ_eq_append_getElem (show n < l.length by omega)]
      exact Evt.pure _
theorem windbreakref01_cut_ev (l : List Int) (h : l.length ≤ maxLen) : Evt (fun k => windbreakref01_cut.f k l) (strip l) := by
  have := windbreakref01_cut_loop l h l.length (Nat.le_refl _)
  exact this.congr (fun k => rfl) (by rw [List.take_length])
theorem nat_Right_eq {l : List Int} (h : l.length ≤ maxLen) : nat_Right.f l = some (rightB l) := by
  unfold maxLen at h
  unfold nat_Right.f rightB
  by_cases h1 : l.length ≤ 64
  · rw [if_pos (by omega)]
    by_cases h2 : l.length = 0
    · rw [if_pos (by omega)]
      simp [h1, h2]
    · rw [if_neg (by omega), w64 (by omega) (by omega), if_pos (by omega), if_pos (by omega), rd_getD]
      rw [show ((l.length : Int) - 1).toNat = l.length - 1 from by omega]
      have h3 : (l.length == 0) = false := by simpa using h2
      rw [h3]
      simp [h1]
  · rw [if_neg (by omega)]
    simp [h1]
theorem nat_right_eq (ls : List (List Int)) (h : ∀ l ∈ ls, l.length ≤ maxLen) : nat_right.f ls = some (ls.all rightB) := by
  induction ls with
  | nil => rfl
  | cons a ls ih =>
    simp only [nat_right.f]
    rw [nat_Right_eq (h a (by simp)), ih (fun l hl => h l (by simp [hl]))]
    simp only [Option.bind_some, List.all_cons]
    cases rightB a <;> simp
def cmpL (B : Int) (l m : List Int) : Int := if val B l < val B m then -1 else if val B l = val B m then 0 else 1
theorem val_take_succ (B : Int) (l : List Int) (i : Nat) (h : i < l.length) : val B (l.take (i + 1)) = val B (l.take i) + B ^ i * l[i] := by
  rw [List.take_succ_eq_append_getElem h, val_append]
  simp only [val, List.length_take]
  rw [show min i l.length = i from by omega, Int.mul_zero, Int.add_zero]
theorem cmp_step {B : Int} (hB : 0 < B) {l m : List Int} (hl : Dig B l) (hm : Dig B m) (i : Nat) (h1 : i < l.length) (h2 : i < m.length) :
    (l[i] < m[i] → cmpL B (l.take (i + 1)) (m.take (i + 1)) = -1) ∧ (m[i] < l[i] → cmpL B (l.take (i + 1)) (m.take (i + 1)) = 1) ∧ (l[i] = m[i] → cmpL B (l.take (i + 1)) (m.take (i + 1)) = cmpL B (l.take i) (m.take i)) := by
  have a1 := val_nonneg hB (hl.take i)
  have a2 := val_nonneg hB (hm.take i)
  have b1 := val_lt hB (hl.take i)
  have b2 := val_lt hB (hm.take i)
  rw [List.length_take, show min i l.length = i from by omega] at b1
  rw [List.length_take, show min i m.length = i from by omega] at b2
  have hp : 0 < B ^ i := Int.pow_pos hB
  unfold cmpL
  rw [val_take_succ B l i h1, val_take_succ B m i h2]
  refine ⟨fun h => ?_, fun h => ?_, fun h => ?_⟩
  · have h3 : B ^ i * (l[i] + 1) ≤ B ^ i * m[i] := Int.mul_le_mul_of_nonneg_left (by omega) (by omega)
    rw [Int.mul_add, Int.mul_one] at h3
    rw [if_pos (by omega)]
  · have h3 : B ^ i * (m[i] + 1) ≤ B ^ i * l[i] := Int.mul_le_mul_of_nonneg_left (by omega) (by omega)
    rw [Int.mul_add, Int.mul_one] at h3
    rw [if_neg (by omega), if_neg (by omega)]
  · rw [h]
    by_cases c1 : val B (l.take i) < val B (m.take i)
    · rw [if_pos c1, if_pos (by omega)]
    · by_cases c2 : val B (l.take i) = val B (m.take i)
      · rw [if_neg c1, if_pos c2, if_neg (by omega), if_pos (by omega)]
      · rw [if_neg c1, if_neg c2, if_neg (by omega), if_neg (by omega)]
theorem ref_compare_loop {B : Int} (hB : 0 < B) (l m : List Int) (hl : Dig B l) (hm : Dig B m) (hlen : l.length = m.length) (hb : l.length ≤ 1000000) : ∀ i : Nat, i ≤ l.length → Evt (fun k => windbreakref01_compare.l0 k l m ((i : Int) - 1)) (cmpL B (l.take i) (m.take i)) := by
  intro i
  induction i with
  | zero =>
    intro _
    refine Evt.succ ?_
    simp only [windbreakref01_compare.l0]
    refine Evt.ite_neg (by omega) ?_
    exact Evt.pure _
  | succ i ih =>
    intro hi
    have h1 : i < l.length := by omega
    have h2 : i < m.length := by omega
    obtain ⟨s1, s2, s3⟩ := cmp_step hB hl hm i h1 h2
    rw [show (((i + 1 : Nat) : Int) - 1) = (i : Int) from by omega]
    refine Evt.succ ?_
    simp only [windbreakref01_compare.l0]
    refine Evt.ite_pos (by omega) (Evt.ite_pos (by omega) (Evt.ite_pos (by omega) (Evt.ite_pos (by omega) ?_)))
    have e1 : rd l (i : Int) = l[i] := by simp [rd_nat, h1]
    have e2 : rd m (i : Int) = m[i] := by simp [rd_nat, h2]
    rw [e1, e2]
    by_cases c1 : l[i] < m[i]
    · rw [s1 c1]; exact Evt.ite_pos c1 (Evt.pure _)
    · by_cases c2 : m[i] < l[i]
      · rw [s2 c2]; exact Evt.ite_neg c1 (Evt.ite_pos c2 (Evt.pure _))
      · rw [s3 (by omega)]
        refine Evt.ite_neg c1 (Evt.ite_neg c2 ?_)
        rw [w64 (by omega) (by omega)]
        exact ih (by omega)
theorem ref_compare_any {B : Int} (hB : 0 < B) (l m : List Int) (hl : Dig B l) (hm : Dig B m) (cl : Can l) (cm : Can m) (hb : l.length ≤ 1000000) : Evt (fun k => windbreakref01_compare.f k l m) (cmpL B l m) := by
  unfold windbreakref01_compare.f
  by_cases hlen : l.length = m.length
  · refine Evt.ite_pos (by omega) ?_
    rw [w64 (by omega) (by omega)]
    have := ref_compare_loop hB l m hl hm hlen hb l.length (Nat.le_refl _)
    refine this.congr (fun k => rfl) ?_
    rw [List.take_length, hlen, List.take_length]
  · refine Evt.ite_neg (by omega) ?_
    by_cases h2 : l.length < m.length
    · have := val_lt_of_length hB hl hm cm h2
      have e : cmpL B l m = -1 := if_pos this
      rw [e]
      exact Evt.ite_pos (by omega) (Evt.pure _)
    · have := val_lt_of_length hB hm hl cl (by omega)
      have e : cmpL B l m = 1 := by unfold cmpL; rw [if_neg (by omega), if_neg (by omega)]
      rw [e]
      exact Evt.ite_neg (by omega) (Evt.pure _)
theorem ref_compare_ev (v w : Nat) (hv : v < lim) : Evt (fun k => windbreakref01_compare.f k (digs v) (digs w)) (cmpN v w) := by
  have hlen : (digs v).length ≤ 1000000 := Nat.le_trans (digs_len hv) (by omega)
  refine (ref_compare_any b16_pos _ _ (toD_dig b16_two v) (toD_dig b16_two w) (toD_can b16_two v) (toD_can b16_two w) hlen).congr (fun k => rfl) ?_
  unfold cmpL cmpN
  rw [val_toD b16_two, val_toD b16_two]
  simp only [Int.ofNat_lt, Int.natCast_inj]
theorem nat_compare_loop {B : Int} (hB : 0 < B) (l m : List Int) (hl : Dig B l) (hm : Dig B m) (hlen : l.length = m.length) (hb : l.length ≤ 1000000) : ∀ i : Nat, i ≤ l.length → Evt (fun k => nat_compare.l0 k l m ((i : Int) - 1)) (cmpL B (l.take i) (m.take i)) := by
  intro i
  induction i with
  | zero =>
    intro _
    refine Evt.succ ?_
    simp only [nat_compare.l0]
    refine Evt.ite_neg (by omega) ?_
    exact Evt.pure _
  | succ i ih =>
    intro hi
    have h1 : i < l.length := by omega
    have h2 : i < m.length := by omega
    obtain ⟨s1, s2, s3⟩ := cmp_step hB hl hm i h1 h2
    rw [show (((i + 1 : Nat) : Int) - 1) = (i : Int) from by omega]
    refine Evt.succ ?_
    simp only [nat_compare.l0]
    refine Evt.ite_pos (by omega) (Evt.ite_pos (by omega) (Evt.ite_pos (by omega) (Evt.ite_pos (by omega) ?_)))
    have e1 : rd l (i : Int) = l[i] := by simp [rd_nat, h1]
    have e2 : rd m (i : Int) = m[i] := by simp [rd_nat, h2]
    rw [e1, e2]
    by_cases c0 : l[i] = m[i]
    · rw [s3 c0]
      refine Evt.ite_pos c0 ?_
      rw [w64 (by omega) (by omega)]
      exact ih (by omega)
    · refine Evt.ite_neg c0 ?_
      by_cases c1 : l[i] < m[i]
      · rw [s1 c1]; exact Evt.ite_pos c1 (Evt.pure _)
      · rw [s2 (by omega)]; exact Evt.ite_neg c1 (Evt.pure _)
theorem nat_compare_any {B : Int} (hB : 0 < B) (l m : List Int) (hl : Dig B l) (hm : Dig B m) (cl : Can l) (cm : Can m) (hb : l.length ≤ 1000000) : Evt (fun k => nat_compare.f k l m) (cmpL B l m) := by
  unfold nat_compare.f
  by_cases hlen : l.length = m.length
  · refine Evt.ite_pos (by omega) ?_
    rw [w64 (by omega) (by omega)]
    have := nat_compare_loop hB l m hl hm hlen hb l.length (Nat.le_refl _)
    refine this.congr (fun k => rfl) ?_
    rw [List.take_length, hlen, List.take_length]
  · refine Evt.ite_neg (by omega) ?_
    by_cases h2 : l.length < m.length
    · have := val_lt_of_length hB hl hm cm h2
      have e : cmpL B l m = -1 := if_pos this
      rw [e]
      exact Evt.ite_pos (by omega) (Evt.pure _)
    · have := val_lt_of_length hB hm hl cl (by omega)
      have e : cmpL B l m = 1 := by unfold cmpL; rw [if_neg (by omega), if_neg (by omega)]
      rw [e]
      exact Evt.ite_neg (by omega) (Evt.pure _)
theorem nat_compare_ev (l m : List Int) (hl : Dig (b64 : Int) l) (hm : Dig (b64 : Int) m) (cl : Can l) (cm : Can m) (hb : l.length ≤ 1000000) : Evt (fun k => nat_compare.f k l m) (cmpN (num l) (num m)) := by
  refine (nat_compare_any b64_pos l m hl hm cl cm hb).congr (fun k => rfl) ?_
  unfold cmpL cmpN
  rw [← num_val hl, ← num_val hm]
  simp only [Int.ofNat_lt, Int.natCast_inj]
def cmpV (a b : List Int) : Int := if rightB a = true ∧ rightB b = true then cmpN (num a) (num b) else 0
theorem nat_Cmp_ev (a b : List Int) (ha : a.length ≤ maxLen) (hb : b.length ≤ maxLen) (da : Dig (b64 : Int) a) (db : Dig (b64 : Int) b) : Evt (fun k => nat_Cmp.f k a b) (cmpV a b) := by
  unfold nat_Cmp.f cmpV
  rw [nat_right_eq _ (by intro l hl; simp at hl; rcases hl with rfl | rfl <;> assumption)]
  simp only [Option.bind_some, List.all_cons, List.all_nil, Bool.and_true, Bool.and_eq_true]
  by_cases h : rightB a = true ∧ rightB b = true
  · rw [if_pos h]
    refine Evt.ite_pos h ?_
    obtain ⟨h1, c1⟩ := (rightB_iff a).1 h.1
    obtain ⟨h2, c2⟩ := (rightB_iff b).1 h.2
    exact Evt.bind (nat_compare_ev a b da db c1 c2 (by omega)) (h := fun t _ => some t) (Evt.pure _)
  · rw [if_neg h]
    exact Evt.ite_neg h (Evt.pure _)
theorem windbreakref01_Right_eq {l : List Int} (h : l.length ≤ maxLen) : windbreakref01_Right.f l = some (rightB l) := by
  unfold maxLen at h
  unfold windbreakref01_Right.f rightB
  by_cases h1 : l.length ≤ 64
  · rw [if_pos (by omega)]
    by_cases h2 : l.length = 0
    · rw [if_pos (by omega)]
      simp [h1, h2]
    · rw [if_neg (by omega), w64 (by omega) (by omega), if_pos (by omega), if_pos (by omega), rd_getD]
      rw [show ((l.length : Int) - 1).toNat = l.length - 1 from by omega]
      have h3 : (l.length == 0) = false := by simpa using h2
      rw [h3]
      simp [h1]
  · rw [if_neg (by omega)]
    simp [h1]
def dg (x : Int) : List Int := [x % 65536, x / 65536 % 65536, x / 65536 / 65536 % 65536, x / 65536 / 65536 / 65536 % 65536]
theorem wdiv {x : Int} (h0 : 0 ≤ x) (h1 : x < 18446744073709551616) (c : Int) (hc : 0 < c) : IntKind.u64.wrap (Int.tdiv x c) = x / c := by
  rw [Int.tdiv_eq_ediv_of_nonneg h0]
  have h2 := Int.ediv_nonneg h0 (Int.le_of_lt hc)
  have h3 := Int.ediv_le_self c h0
  exact wu64_of h2 (by omega)
theorem in_step (a d : List Int) (i : Nat) (x : Int) (hx : 0 ≤ x ∧ x < 18446744073709551616) (hd : d.length ≤ 1000000) (hi : i ≤ 1000000) {r : List Int}
    (h : Evt (fun k => windbreakref01_In.l0 k a (d ++ dg x) ((i + 1 : Nat) : Int)) r) : Evt (fun k => windbreakref01_In.l1 k a d (i : Int) x 0) r := by
  refine Evt.succ ?_
  simp only [windbreakref01_In.l1]
  refine Evt.ite_pos (by omega) (Evt.ite_pos (by omega) ?_)
  rw [Int.tmod_eq_emod_of_nonneg hx.1, wdiv hx.1 hx.2 65536 (by omega), w64 (by omega) (by omega)]
  refine Evt.succ ?_
  simp only [windbreakref01_In.l1]
  refine Evt.ite_pos (by omega) (Evt.ite_pos (by simp; omega) ?_)
  rw [Int.tmod_eq_emod_of_nonneg (show 0 ≤ x / 65536 by omega), wdiv (show 0 ≤ x / 65536 by omega) (by omega) 65536 (by omega), w64 (by omega) (by omega)]
  refine Evt.succ ?_
  simp only [windbreakref01_In.l1]
  refine Evt.ite_pos (by omega) (Evt.ite_pos (by simp; omega) ?_)
  rw [Int.tmod_eq_emod_of_nonneg (show 0 ≤ x / 65536 / 65536 by omega), wdiv (show 0 ≤ x / 65536 / 65536 by omega) (by omega) 65536 (by omega), w64 (by omega) (by omega)]
  refine Evt.succ ?_
  simp only [windbreakref01_In.l1]
  refine Evt.ite_pos (by omega) (Evt.ite_pos (by simp; omega) ?_)
  rw [Int.tmod_eq_emod_of_nonneg (show 0 ≤ x / 65536 / 65536 / 65536 by omega), wdiv (show 0 ≤ x / 65536 / 65536 / 65536 by omega) (by omega) 65536 (by omega), w64 (by omega) (by omega)]
  refine Evt.succ ?_
  simp only [windbreakref01_In.l1]
  refine Evt.ite_neg (by omega) ?_
  rw [w64 (by omega) (by omega)]
  refine h.congr (fun k => ?_) rfl
  simp [dg]
theorem in_loop (a : List Int) (ha : a.length ≤ 1000) (hd : Dig (b64 : Int) a) (n : Nat) : ∀ i : Nat, i ≤ a.length → a.length - i = n → Evt (fun k => windbreakref01_In.l0 k a ((a.take i).flatMap dg) (i : Int)) (strip (a.flatMap dg)) := by
  have hlen : ∀ l : List Int, (l.flatMap dg).length = 4 * l.length := by
    intro l
    induction l with
    | nil => rfl
    | cons x l ih => simp only [List.flatMap_cons, List.length_append, ih, dg, List.length_cons, List.length_nil]; omega
  induction n with
  | zero =>
    intro i hi hn
    refine Evt.succ ?_
    simp only [windbreakref01_In.l0]
    refine Evt.ite_neg (by omega) ?_
    rw [List.take_of_length_le (by omega)]
    refine Evt.bind (windbreakref01_cut_ev _ (by rw [hlen]; simp [maxLen]; omega)) (h := fun t _ => some t) (Evt.pure _)
  | succ n ih =>
    intro i hi hn
    have hlt : i < a.length := by omega
    refine Evt.succ ?_
    simp only [windbreakref01_In.l0]
    refine Evt.ite_pos (by omega) (Evt.ite_pos (by omega) ?_)
    have hx : rd a (i : Int) = a[i] := by simp [rd_nat, hlt]
    have hr := hd a[i] (List.getElem_mem hlt)
    rw [hx]
    refine in_step a _ i _ hr (by rw [hlen, List.length_take]; omega) (by omega) ?_
    have := ih (i + 1) (by omega) (by omega)
    rw [List.take_succ_eq_append_getElem hlt, List.flatMap_append] at this
    refine this.congr (fun k => ?_) rfl
    simp
theorem ref_In_ev (a : List Int) (ha : a.length ≤ 1000) (hd : Dig (b64 : Int) a) : Evt (fun k => windbreakref01_In.f k a) (digs (num a)) := by
  have h := in_loop a ha hd a.length 0 (Nat.zero_le _) (by omega)
  obtain ⟨m, hm, _, hv, he⟩ := val_base a hd
  refine h.congr (fun k => rfl) ?_
  have e2 : a.flatMap dg = m := he.symm
  rw [e2, strip_digs hm]
  unfold num16 num
  rw [hv]
theorem ref_digit_eq (l : List Int) (i : Nat) : windbreakref01_digit.f l (i : Int) = some (l.getD i 0) := by
  unfold windbreakref01_digit.f
  by_cases h : i < l.length
  · rw [if_pos (by omega), if_pos (by omega), rd_nat]
  · rw [if_neg (by omega)]
    simp [List.getD_eq_getElem?_getD, List.getElem?_eq_none (by omega : l.length ≤ i)]
def subL : Nat → List Int → List Int → Int → List Int
  | 0, _, _, _ => []
  | n + 1, a, b, c => (65536 + a.getD 0 0 - b.getD 0 0 - c) % 65536 :: subL n (a.drop 1) (b.drop 1) (1 - (65536 + a.getD 0 0 - b.getD 0 0 - c) / 65536)
theorem val_headS (B : Int) (b : List Int) : val B b = b.getD 0 0 + B * val B (b.drop 1) := by
  cases b with
  | nil => simp [val]
  | cons y b => simp [val]
theorem subL_len (n : Nat) : ∀ (a b : List Int) (c : Int), (subL n a b c).length = n := by
  induction n with
  | zero => intro a b c; rfl
  | succ n ih => intro a b c; simp only [subL, List.length_cons, ih]
theorem subL_facts (n : Nat) : ∀ (a b : List Int) (c : Int), Dig (b16 : Int) a → Dig (b16 : Int) b → a.length ≤ n → b.length ≤ n → (c = 0 ∨ c = 1) →
    Dig (b16 : Int) (subL n a b c) ∧ ∃ t, 0 ≤ t ∧ val (b16 : Int) (subL n a b c) = val (b16 : Int) a - val (b16 : Int) b - c + (b16 : Int) ^ n * t := by
  induction n with
  | zero =>
    intro a b c _ _ ha hb hc
    have e1 : a = [] := List.length_eq_zero_iff.1 (by omega)
    have e2 : b = [] := List.length_eq_zero_iff.1 (by omega)
    subst e1 e2
    exact ⟨Dig.nil, c, by omega, by simp [subL, val]; omega⟩
  | succ n ih =>
    intro a b c da db ha hb hc
    have h1 := da.getD b16_pos 0
    have h2 := db.getD b16_pos 0
    simp only [b16] at h1 h2
    obtain ⟨i1, t, ht, i2⟩ := ih (a.drop 1) (b.drop 1) (1 - (65536 + a.getD 0 0 - b.getD 0 0 - c) / 65536) (da.drop 1) (db.drop 1) (by simp; omega) (by simp; omega) (by omega)
    refine ⟨Dig.cons.2 ⟨by simp only [b16]; omega, i1⟩, t, ht, ?_⟩
    rw [val_headS (b16 : Int) a, val_headS (b16 : Int) b]
    simp only [subL, val]
    rw [i2, Int.pow_succ]
    generalize (b16 : Int) ^ n = P at *
    simp only [b16]
    generalize val ((65536 : Nat) : Int) (a.drop 1) = va at *
    generalize val ((65536 : Nat) : Int) (b.drop 1) = vb at *
    have h3 : ((65536 : Nat) : Int) * (va - vb - (1 - (65536 + a.getD 0 0 - b.getD 0 0 - c) / 65536) + P * t) = 65536 * va - 65536 * vb - 65536 * (1 - (65536 + a.getD 0 0 - b.getD 0 0 - c) / 65536) + P * ((65536 : Nat) : Int) * t := by grind
    rw [h3]
    omega
theorem ref_sub_loop (a b : List Int) (da : Dig (b16 : Int) a) (db : Dig (b16 : Int) b) (ha : a.length ≤ 1000000) (n : Nat) : ∀ (i : Nat) (p : List Int) (c : Int), p.length = i → i ≤ a.length → a.length - i = n → (c = 0 ∨ c = 1) →
    Evt (fun k => windbreakref01_sub.l0 k a b p c (i : Int)) (strip (p ++ subL n (a.drop i) (b.drop i) c)) := by
  induction n with
  | zero =>
    intro i p c hp hi hn hc
    refine Evt.succ ?_
    simp only [windbreakref01_sub.l0]
    refine Evt.ite_neg (by omega) ?_
    simp only [subL, List.append_nil]
    exact Evt.bind (windbreakref01_cut_ev p (by simp [maxLen]; omega)) (h := fun t _ => some t) (Evt.pure _)
  | succ n ih =>
    intro i p c hp hi hn hc
    have hlt : i < a.length := by omega
    refine Evt.succ ?_
    simp only [windbreakref01_sub.l0]
    refine Evt.ite_pos (by omega) (Evt.ite_pos (by omega) ?_)
    rw [ref_digit_eq, rd_nat]
    simp only [Option.bind_some]
    refine Evt.ite_pos (by omega) ?_
    have h1 := da.getD b16_pos i
    have h2 := db.getD b16_pos i
    simp only [b16] at h1 h2
    rw [wu64_of (show 0 ≤ 65536 + a.getD i 0 by omega) (by omega), wu64_of (show 0 ≤ 65536 + a.getD i 0 - b.getD i 0 by omega) (by omega), wu64_of (show 0 ≤ 65536 + a.getD i 0 - b.getD i 0 - c by omega) (by omega)]
    rw [Int.tmod_eq_emod_of_nonneg (by omega), Int.tdiv_eq_ediv_of_nonneg (by omega), wu64_of (show 0 ≤ (65536 + a.getD i 0 - b.getD i 0 - c) / 65536 by omega) (by omega), wu64_of (by omega) (by omega), w64 (by omega) (by omega)]
    have e1 : (a.drop i).getD 0 0 = a.getD i 0 := by simp [List.getD_eq_getElem?_getD]
    have e2 : (b.drop i).getD 0 0 = b.getD i 0 := by simp [List.getD_eq_getElem?_getD]
    refine (ih (i + 1) (p ++ [(65536 + a.getD i 0 - b.getD i 0 - c) % 65536]) (1 - (65536 + a.getD i 0 - b.getD i 0 - c) / 65536) (by simp [hp]) (by omega) (by omega) (by omega)).congr (fun k => rfl) ?_
    simp only [subL, e1, e2, List.drop_drop, List.append_assoc, List.singleton_append]
theorem ref_sub_ev (v w : Nat) (hv : v < lim) (hle : w ≤ v) : Evt (fun k => windbreakref01_sub.f k (digs v) (digs w)) (digs (v - w)) := by
  have h1 := digs_len hv
  have d1 := toD_dig b16_two v
  have d2 := toD_dig b16_two w
  have hlen : (digs w).length ≤ (digs v).length := by
    rw [toD_len_iff b16_two]
    exact Nat.lt_of_le_of_lt hle (toD_lt_pow b16_two v)
  have h := ref_sub_loop (digs v) (digs w) d1 d2 (by omega) (digs v).length 0 [] 0 rfl (Nat.zero_le _) (by omega) (Or.inl rfl)
  refine h.congr (fun k => rfl) ?_
  obtain ⟨f1, t, ht, f2⟩ := subL_facts (digs v).length (digs v) (digs w) 0 d1 d2 (Nat.le_refl _) hlen (Or.inl rfl)
  rw [List.nil_append, List.drop_zero, List.drop_zero, strip_digs f1]
  rw [val_toD b16_two, val_toD b16_two, pow_cast] at f2
  have h4 := val_lt b16_pos f1
  rw [subL_len, pow_cast] at h4
  have ht0 : t = 0 := by
    by_cases e : t = 0
    · exact e
    · have h5 : ((b16 ^ (digs v).length : Nat) : Int) * 1 ≤ ((b16 ^ (digs v).length : Nat) : Int) * t := Int.mul_le_mul_of_nonneg_left (by omega) (by omega)
      omega
  subst ht0
  rw [Int.mul_zero] at f2
  unfold num16
  rw [f2]
  congr 1
  omega
theorem nat_Of_ev (n : Int) : Evt (fun k => nat_Of.f k n) (strip [n]) := by
  refine (Evt.bind (nat_trim_ev [n] (by simp [maxLen])) (h := fun t _ => some t) (Evt.pure _)).congr (fun k => rfl) rfl
theorem ref_Bits_loop (a : List Int) (ha : a.length ≤ 64) (h0 : a.length ≠ 0) (x : Nat) : ∀ c : Nat, x < 18446744073709551616 → c + bl x ≤ 64 → Evt (fun k => windbreakref01_Bits.l0 k a (c : Int) (x : Int)) ((c : Int) + ((bl x : Nat) : Int) + 64 * ((a.length : Int) - 1)) := by
  induction x using Nat.strongRecOn with
  | _ x ih =>
    intro c hx hc
    refine Evt.succ ?_
    simp only [windbreakref01_Bits.l0]
    by_cases h : x = 0
    · subst h
      refine Evt.ite_neg (by omega) ?_
      rw [w64 (show -9223372036854775808 ≤ (a.length : Int) - 1 by omega) (by omega), w64 (show -9223372036854775808 ≤ 64 * ((a.length : Int) - 1) by omega) (by omega), w64 (by omega) (by omega), bl_zero]
      exact (Evt.pure _).congr (fun k => rfl) (by omega)
    · refine Evt.ite_pos (by omega) ?_
      have hb := bl_half h
      rw [Int.tdiv_eq_ediv_of_nonneg (by omega), wu64_of (by omega) (by omega), w64 (by omega) (by omega), show (x : Int) / 2 = ((x / 2 : Nat) : Int) from by omega]
      have := ih (x / 2) (by omega) (c + 1) (by omega) (by omega)
      refine this.congr (fun k => rfl) ?_
      omega
theorem ref_Bits_ev (a : List Int) (ha : a.length ≤ maxLen) (da : Dig (b64 : Int) a) : Evt (fun k => windbreakref01_Bits.f k a) (bitsV a) := by
  unfold windbreakref01_Bits.f bitsV
  rw [windbreakref01_Right_eq ha]
  simp only [Option.bind_some]
  have J : ∀ x : Bool, (x = false → rightB a = true ∧ a.length ≠ 0) → Evt (fun k => windbreakref01_Bits.j0 k a x) (if x = true then 0 else 64 * ((a.length : Int) - 1) + ((bl (a.getD (a.length - 1) 0).toNat : Nat) : Int)) := by
    intro x hx
    refine Evt.succ ?_
    simp only [windbreakref01_Bits.j0]
    refine Evt.cond (fun _ => Evt.pure _) (fun hc => ?_)
    have h := hx (by simpa using hc)
    obtain ⟨h1, c1⟩ := (rightB_iff a).1 h.1
    have h0 := h.2
    rw [w64 (show -9223372036854775808 ≤ (a.length : Int) - 1 by omega) (by omega)]
    refine Evt.ite_pos (by omega) (Evt.ite_pos (by omega) ?_)
    rw [rd_getD, show ((a.length : Int) - 1).toNat = a.length - 1 from by omega]
    have hr := da.getD b64_pos (a.length - 1)
    simp only [b64] at hr
    have hb := bl_le (x := (a.getD (a.length - 1) 0).toNat) (m := 64) (by omega)
    have hl := ref_Bits_loop a h1 h0 (a.getD (a.length - 1) 0).toNat 0 (by omega) (by omega)
    refine hl.congr (fun k => ?_) (by omega)
    rw [show (((a.getD (a.length - 1) 0).toNat : Nat) : Int) = a.getD (a.length - 1) 0 from by omega]
    rfl
  cases hA : rightB a with
  | true =>
    refine Evt.ite_pos rfl ((J (a.length == 0) (fun h => ⟨hA, by simpa using h⟩)).congr (fun k => ?_) ?_)
    · have : ((a.length : Int) == 0) = (a.length == 0) := by
        rw [Bool.eq_iff_iff]; simp
      rw [this]
    · by_cases h0 : a.length = 0
      · simp [h0]
      · simp [h0]
  | false =>
    refine Evt.ite_neg (by simp) ((J _ (fun h => by simp at h)).congr (fun k => rfl) ?_)
    simp
theorem ref_Of_eq (n : Int) : windbreakref01_Of.f n = some (strip [n]) := by
  unfold windbreakref01_Of.f
  by_cases h : n = 0
  · simp [h, strip]
  · simp [h, strip]
theorem windbreakref01_Small_ev (l : List Int) (h : l.length ≤ maxLen) : Evt (fun k => windbreakref01_Small.f k l) (smallV l) := by
  unfold windbreakref01_Small.f smallV
  rw [windbreakref01_Right_eq h]
  simp only [Option.bind_some]
  have J : ∀ x : Bool, Evt (fun k => windbreakref01_Small.j0 k l x) (if x = true then (0, false) else (l.getD 0 0, true)) := by
    intro x
    refine Evt.succ ?_
    simp only [windbreakref01_Small.j0]
    refine Evt.cond (fun _ => Evt.pure _) (fun _ => ?_)
    by_cases h0 : l.length = 0
    · refine Evt.ite_pos (by omega) ?_
      rw [List.length_eq_zero_iff.1 h0]
      exact Evt.pure _
    · exact Evt.ite_neg (by omega) (Evt.ite_pos (by omega) (Evt.pure _))
  cases hr : rightB l with
  | true =>
    refine Evt.ite_pos rfl ?_
    refine (J _).congr (fun k => rfl) ?_
    by_cases h1 : l.length ≤ 1
    · rw [if_neg (by simp; omega), if_pos ⟨rfl, h1⟩]
    · rw [if_pos (by simp; omega), if_neg (fun h => h1 h.2)]
  | false =>
    refine Evt.ite_neg (by simp) ?_
    refine (J _).congr (fun k => rfl) ?_
    simp
theorem ref5_least_loop (x : Nat) (hx : x < 1099511627776) (n : Nat) : ∀ d : Nat, d + n = 1048578 → 2 ≤ d → (d = 2 ∨ (d - 1) * (d - 1) ≤ x) → (∀ j, 2 ≤ j → j < d → x % j ≠ 0) →
    Evt (fun k => windbreakref05_least.l0 k (x : Int) (d : Int)) ((leastV x : Nat) : Int) := by
  induction n with
  | zero =>
    intro d hd h2 hs _
    exfalso
    have e : d - 1 = 1048577 := by omega
    rw [e] at hs
    omega
  | succ n ih =>
    intro d hd h2 hs hj
    have hdd : d * d ≤ 1048578 * 1048578 := Nat.mul_le_mul (by omega) (by omega)
    have c1 : ((d * d : Nat) : Int) = (d : Int) * (d : Int) := Int.natCast_mul d d
    refine Evt.succ ?_
    simp only [windbreakref05_least.l0]
    rw [wu64_of (x := (d : Int) * (d : Int)) (by omega) (by omega)]
    by_cases h : d * d ≤ x
    · refine Evt.ite_pos (by omega) (Evt.ite_neg (by omega) ?_)
      have e : Int.tmod (x : Int) (d : Int) = ((x % d : Nat) : Int) := by
        rw [Int.tmod_eq_emod_of_nonneg (by omega)]; rfl
      rw [e]
      by_cases hm : x % d = 0
      · refine Evt.ite_pos (by omega) ?_
        rw [leastV_some h2 h hm hj]
        exact Evt.pure _
      · refine Evt.ite_neg (by omega) ?_
        rw [wu64_of (x := (d : Int) + 1) (by omega) (by omega)]
        refine ih (d + 1) (by omega) (by omega) (Or.inr (by simpa using h)) (fun j a b => ?_)
        by_cases e : j = d
        · subst e; exact hm
        · exact hj j a (by omega)
    · refine Evt.ite_neg (by omega) ?_
      rw [leastV_none (fun j a b c => by
        rcases Nat.lt_or_ge j d with h' | h'
        · exact hj j a h' c
        · have := Nat.mul_le_mul h' h'
          omega)]
      exact Evt.pure _
theorem ref5_least_ev (x : Nat) (hx : x < 1099511627776) : Evt (fun k => windbreakref05_least.f k (x : Int)) ((leastV x : Nat) : Int) := by
  unfold windbreakref05_least.f
  exact ref5_least_loop x hx 1048576 2 (by omega) (Nat.le_refl _) (Or.inl rfl) (fun j a b => by omega)
end Go.Proofs.Ytkgaejigpmkfkaa.Z
end
section
namespace Go.Proofs.Ytkgaejigpmkfkaa.Z
open Go.RowKit Go.Proofs.Ytkgaejigpmkfkaa.F Go.Proofs.YtkgaejigpmkfkaaW.PrintWords Go.Proofs.YtkgaejigpmkfkaaW.PrintMore
set_option linter.unusedSimpArgs false
set_option linter.unusedVariables false
theorem val_set (B : Int) (l : List Int) : ∀ (i : Nat) (v : Int), i < l.length → val B (l.set i v) = val B l + B ^ i * (v - l.getD i 0) := by
  induction l with
  | nil => intro i v h; simp at h
  | cons d l ih =>
    intro i v h
    cases i with
    | zero => simp [val]; omega
    | succ i =>
      have h2 := ih i v (by simpa using h)
      simp only [List.set_cons_succ, val, h2, Int.pow_succ, List.getD_cons_succ]
      generalize l.getD i 0 = y
      generalize B ^ i = P
      generalize val B l = V
      grind
theorem getD_append_left {l m : List Int} {i : Nat} (h : i < l.length) : (l ++ m).getD i 0 = l.getD i 0 := by
  simp [List.getD_eq_getElem?_getD, List.getElem?_append_left h]
theorem set_append_left {l m : List Int} {i : Nat} {v : Int} (h : i < l.length) : (l ++ m).set i v = l.set i v ++ m := by
  rw [List.set_append, if_pos h]
theorem val_take_step (B : Int) (l : List Int) (i : Nat) (h : i < l.length) : val B (l.take (i + 1)) = val B (l.take i) + B ^ i * l[i] := by
  rw [List.take_succ_eq_append_getElem h, val_append]
  simp only [val, List.length_take]
  rw [show min i l.length = i from by omega, Int.mul_zero, Int.add_zero]
theorem wraps_u64 (n : Int) (h0 : 0 ≤ n) (h1 : n < 2 ^ 64) : IntKind.u64.wrap n = n := wu64_of h0 (by omega)
theorem or_u64 {x y : Int} (s : Nat) (hs : s ≤ 64) (hx0 : 0 ≤ x) (hx : x % 2 ^ s = 0) (hx1 : x < 18446744073709551616) (hy0 : 0 ≤ y) (hy : y < 2 ^ s) : Go.bits .or .u64 x y = x + y := by
  have h2 : (2 : Int) ^ s ≤ 2 ^ 64 := pow_mono (by omega) hs
  exact bits_join .u64 64 (by decide) wraps_u64 s x y hx0 hx (by omega) hy0 hy (by omega)
theorem or_comm_u64 {x y : Int} (hx0 : 0 ≤ x) (hx1 : x < 18446744073709551616) (hy0 : 0 ≤ y) (hy1 : y < 18446744073709551616) : Go.bits .or .u64 x y = Go.bits .or .u64 y x := by
  obtain ⟨a, rfl⟩ := Int.eq_ofNat_of_zero_le hx0
  obtain ⟨b, rfl⟩ := Int.eq_ofNat_of_zero_le hy0
  rw [(bits_nat .u64 64 (by decide) wraps_u64 a b (by omega) (by omega)).2, (bits_nat .u64 64 (by decide) wraps_u64 b a (by omega) (by omega)).2, Nat.or_comm]
theorem shl_u64 (x : Int) (s : Nat) (hs : s ≤ 64) : shl .u64 x (s : Int) = (x * 2 ^ s) % 18446744073709551616 := by
  unfold shl
  rw [wu64]
  simp only [IntKind.bits, Int.toNat_natCast]
  rw [show min s 64 = s from by omega]
theorem shr_u64 (x : Int) (s : Nat) (hs : s ≤ 64) : shr .u64 x (s : Int) = x / 2 ^ s := by
  unfold shr
  simp only [IntKind.bits, Int.toNat_natCast]
  rw [show min s 64 = s from by omega]
theorem pow64_split {s : Nat} (hs : s ≤ 64) : (2 : Int) ^ s * 2 ^ (64 - s) = 18446744073709551616 := by
  rw [← Int.pow_add, show s + (64 - s) = 64 from by omega]
  decide
theorem pow2_pos (s : Nat) : (0 : Int) < 2 ^ s := Int.pow_pos (by omega)
theorem shl_facts {x : Int} (hx : 0 ≤ x ∧ x < 18446744073709551616) {s : Nat} (hs : s ≤ 64) :
    (x * 2 ^ s) % 18446744073709551616 + 18446744073709551616 * (x / 2 ^ (64 - s)) = x * 2 ^ s ∧ ((x * 2 ^ s) % 18446744073709551616) % 2 ^ s = 0 ∧ 0 ≤ x / 2 ^ (64 - s) ∧ x / 2 ^ (64 - s) < 2 ^ s := by
  have hp := pow64_split hs
  have h1 := pow2_pos s
  have h2 := pow2_pos (64 - s)
  generalize (2 : Int) ^ s = P at *
  generalize (2 : Int) ^ (64 - s) = Q at *
  have h3 : (x * P) / 18446744073709551616 = x / Q := by
    rw [← hp, Int.mul_comm x P, Int.mul_ediv_mul_of_pos _ _ h1]
  refine ⟨?_, ?_, Int.ediv_nonneg hx.1 (by omega), ?_⟩
  · have := Int.emod_add_mul_ediv (x * P) 18446744073709551616
    rw [h3] at this
    exact this
  · rw [← hp]
    have := Int.mul_emod_mul_of_pos (a := P) x Q h1
    rw [Int.mul_comm x P, this]
    exact Int.mul_emod_right P _
  · apply Int.ediv_lt_of_lt_mul h2
    rw [hp]
    exact hx.2
theorem nat_up_loop (a : List Int) (da : Dig (b64 : Int) a) (ha : a.length ≤ 100000) (s : Nat) (hs : s < 64) (n : Nat) :
    ∀ (i : Nat) (p : List Int) (c : Int), a.length - i = n → i ≤ a.length → p.length = i → Dig (b64 : Int) p → 0 ≤ c ∧ c < 2 ^ s → val (b64 : Int) p + c * (b64 : Int) ^ i = val (b64 : Int) (a.take i) * 2 ^ s →
      ∃ r, Evt (fun k => nat_up.l0 k (s : Int) (p ++ c :: List.replicate n 0) a (a.length : Int) (i : Int)) r ∧ Dig (b64 : Int) r ∧ r.length = a.length + 1 ∧ val (b64 : Int) r = val (b64 : Int) a * 2 ^ s := by
  have hs64 : (2 : Int) ^ s ≤ 2 ^ 63 := pow_mono (by omega) (by omega)
  have hB : (b64 : Int) = 18446744073709551616 := rfl
  induction n with
  | zero =>
    intro i p c hn hi hp dp hc hv
    refine ⟨p ++ [c], ?_, Dig.append.2 ⟨dp, Dig.cons.2 ⟨by rw [hB]; omega, Dig.nil⟩⟩, by simp; omega, ?_⟩
    · refine Evt.succ ?_
      simp only [nat_up.l0]
      exact Evt.ite_neg (by omega) (Evt.pure _)
    · rw [List.take_of_length_le (by omega)] at hv
      rw [val_append, hp]
      simp only [val, Int.mul_zero, Int.add_zero]
      rw [Int.mul_comm ((b64 : Int) ^ i) c]
      exact hv
  | succ n ih =>
    intro i p c hn hi hp dp hc hv
    have hlt : i < a.length := by omega
    have rx := da a[i] (List.getElem_mem hlt)
    rw [hB] at rx
    obtain ⟨f1, f2, f3, f4⟩ := shl_facts rx (s := s) (by omega)
    have f5 : 0 ≤ (a[i] * 2 ^ s) % 18446744073709551616 := by omega
    have f6 : (a[i] * 2 ^ s) % 18446744073709551616 < 18446744073709551616 := by omega
    have hor : Go.bits .or .u64 c ((a[i] * 2 ^ s) % 18446744073709551616) = (a[i] * 2 ^ s) % 18446744073709551616 + c := by
      rw [or_comm_u64 hc.1 (by omega) f5 f6]
      exact or_u64 s (by omega) f5 f2 f6 hc.1 hc.2
    have hlow : (a[i] * 2 ^ s) % 18446744073709551616 + c < 18446744073709551616 := by
      have hp64 := pow64_split (s := s) (by omega)
      have hq := pow2_pos (64 - s)
      have hps := pow2_pos s
      generalize (a[i] * 2 ^ s) % 18446744073709551616 = z at *
      generalize (2 : Int) ^ s = P at *
      generalize (2 : Int) ^ (64 - s) = Q at *
      obtain ⟨t, ht⟩ := Int.dvd_of_emod_eq_zero f2
      subst ht
      have ht2 : t < Q := by
        refine Int.not_le.1 (fun hle => ?_)
        have := Int.mul_le_mul_of_nonneg_left hle (Int.le_of_lt hps)
        omega
      have : P * (t + 1) ≤ P * Q := Int.mul_le_mul_of_nonneg_left (by omega) (by omega)
      rw [Int.mul_add] at this
      omega
    generalize hz : (a[i] * 2 ^ s) % 18446744073709551616 = z at *
    obtain ⟨r, e1, e2, e3, e4⟩ := ih (i + 1) (p ++ [z + c]) (a[i] / 2 ^ (64 - s)) (by omega) (by omega) (by simp; omega) (Dig.append.2 ⟨dp, Dig.cons.2 ⟨by rw [hB]; omega, Dig.nil⟩⟩) ⟨f3, f4⟩ (by
      rw [val_append, hp, val_take_step (b64 : Int) a i hlt, Int.pow_succ]
      simp only [val, Int.mul_zero, Int.add_zero]
      rw [hB]
      rw [hB] at hv
      generalize (18446744073709551616 : Int) ^ i = P at *
      generalize a[i] / 2 ^ (64 - s) = h at *
      generalize val 18446744073709551616 (a.take i) = va at *
      generalize val 18446744073709551616 p = vp at *
      generalize (2 : Int) ^ s = S at *
      generalize a[i] = x at *
      have e : z = x * S - 18446744073709551616 * h := by omega
      rw [e]
      have e2 : vp = va * S - c * P := by omega
      rw [e2]
      grind)
    refine ⟨r, ?_, e2, e3, e4⟩
    refine Evt.succ ?_
    simp only [nat_up.l0]
    have hx : rd a (i : Int) = a[i] := by simp [rd_nat, hlt]
    have hc0 : rd (p ++ c :: List.replicate (n + 1) 0) (i : Int) = c := by
      rw [rd_nat]
      simp [List.getD_eq_getElem?_getD, ← hp]
    refine Evt.ite_pos (by omega) (Evt.ite_pos (by omega) (Evt.ite_pos (by omega) (Evt.ite_pos (by simp; omega) (Evt.ite_pos (by omega) ?_))))
    simp only [Option.bind_some]
    rw [hx, hc0, shl_u64 _ s (by omega), hz, hor, show ((i : Int)).toNat = p.length from by omega, set_at]
    rw [w64 (show -9223372036854775808 ≤ (i : Int) + 1 by omega) (by omega)]
    by_cases h0 : s = 0
    · refine Evt.ite_neg (by omega) ?_
      refine e1.congr (fun k => ?_) rfl
      have e0 : a[i] / 2 ^ (64 - s) = 0 := by
        rw [h0] at f4 f3 ⊢
        simp only [Int.pow_zero] at f4
        omega
      rw [e0, List.append_assoc]
      rfl
    · refine Evt.ite_pos (by omega) (Evt.ite_pos ?_ (Evt.ite_pos (by omega) (Evt.ite_pos (by simp; omega) ?_)))
      · rw [wu64_of (by omega) (by omega)]; omega
      · rw [wu64_of (by omega) (by omega), show (64 : Int) - (s : Int) = ((64 - s : Nat) : Int) from by omega, shr_u64 _ (64 - s) (by omega)]
        refine e1.congr (fun k => ?_) rfl
        have hset : (p ++ (z + c) :: List.replicate (n + 1) 0).set ((i : Int) + 1).toNat (a[i] / 2 ^ (64 - s)) = (p ++ [z + c]) ++ (a[i] / 2 ^ (64 - s)) :: List.replicate n 0 := by
          have e : p ++ (z + c) :: List.replicate (n + 1) 0 = (p ++ [z + c]) ++ 0 :: List.replicate n 0 := by rw [List.append_assoc, List.replicate_succ]; rfl
          rw [e, show ((i : Int) + 1).toNat = (p ++ [z + c]).length from by simp; omega]
          exact set_at _ _ _ _
        rw [hset]
        rfl
theorem nat_up_ev (a : List Int) (da : Dig (b64 : Int) a) (ha : a.length ≤ 100000) (s : Nat) (hs : s < 64) : ∃ r, Evt (fun k => nat_up.f k a (s : Int)) r ∧ Dig (b64 : Int) r ∧ r.length = a.length + 1 ∧ num r = num a * 2 ^ s := by
  obtain ⟨r, e1, e2, e3, e4⟩ := nat_up_loop a da ha s hs a.length 0 [] 0 (by omega) (by omega) rfl Dig.nil ⟨by omega, pow2_pos s⟩ (by simp [val])
  refine ⟨r, ?_, e2, e3, ?_⟩
  · unfold nat_up.f
    rw [w64 (show -9223372036854775808 ≤ (a.length : Int) + 1 by omega) (by omega)]
    refine Evt.ite_pos (by omega) (Evt.ite_pos (by omega) ?_)
    refine e1.congr (fun k => ?_) rfl
    rw [show ((a.length : Int) + 1).toNat = a.length + 1 from by omega, List.nil_append, List.replicate_succ]
    rfl
  · have h1 := num_val e2
    have h2 := num_val da
    have h3 : ((num a * 2 ^ s : Nat) : Int) = (num a : Int) * 2 ^ s := by simp
    rw [e4, ← h2, ← h3] at h1
    omega
end Go.Proofs.Ytkgaejigpmkfkaa.Z
end
section
namespace Go.Proofs.Ytkgaejigpmkfkaa.Z
open Go.RowKit Go.Proofs.Ytkgaejigpmkfkaa.F Go.Proofs.YtkgaejigpmkfkaaW.PrintWords
set_option linter.unusedSimpArgs false
set_option linter.unusedVariables false
theorem mask32m {x : Int} (h0 : 0 ≤ x) (h1 : x < 18446744073709551616) : Go.bits .and .u64 x 4294967295 = x % 4294967296 := by
  have h := bits_mask .u64 64 (by decide) wraps_u64 32 (by decide) x h0 (by omega)
  rw [show (2 : Int) ^ 32 = 4294967296 from by decide] at h
  exact h
theorem half_mul {x y : Int} (hx : 0 ≤ x ∧ x < 4294967296) (hy : 0 ≤ y ∧ y < 4294967296) : 0 ≤ x * y ∧ x * y ≤ 18446744065119617025 := by
  refine ⟨Int.mul_nonneg hx.1 hy.1, ?_⟩
  have : x * y ≤ 4294967295 * 4294967295 := Int.mul_le_mul (by omega) (by omega) hy.1 (by omega)
  omega
theorem bits_Mul64_eq {x y : Int} (hx : 0 ≤ x ∧ x < 18446744073709551616) (hy : 0 ≤ y ∧ y < 18446744073709551616) :
    ∃ hi lo : Int, bits_Mul64.f x y = some (hi, lo) ∧ hi * 18446744073709551616 + lo = x * y ∧ (0 ≤ hi ∧ hi < 18446744073709551616) ∧ (0 ≤ lo ∧ lo < 18446744073709551616) := by
  unfold bits_Mul64.f
  have ex : x = x / 4294967296 * 4294967296 + x % 4294967296 := by omega
  have ey : y = y / 4294967296 * 4294967296 + y % 4294967296 := by omega
  have xl : 0 ≤ x % 4294967296 ∧ x % 4294967296 < 4294967296 := by omega
  have yl : 0 ≤ y % 4294967296 ∧ y % 4294967296 < 4294967296 := by omega
  have xh : 0 ≤ x / 4294967296 ∧ x / 4294967296 < 4294967296 := by omega
  have yh : 0 ≤ y / 4294967296 ∧ y / 4294967296 < 4294967296 := by omega
  rw [mask32m hx.1 hx.2, mask32m hy.1 hy.2]
  have p1 := half_mul xh yh
  have p2 := half_mul xh yl
  have p3 := half_mul xl yh
  have p4 := half_mul xl yl
  have e : x * y = (x / 4294967296 * (y / 4294967296)) * 18446744073709551616 + (x / 4294967296 * (y % 4294967296) + x % 4294967296 * (y / 4294967296)) * 4294967296 + x % 4294967296 * (y % 4294967296) := by
    generalize x / 4294967296 = a at *
    generalize x % 4294967296 = b at *
    generalize y / 4294967296 = c at *
    generalize y % 4294967296 = d at *
    subst ex ey
    grind
  rw [e]
  generalize x / 4294967296 * (y / 4294967296) = A at *
  generalize x / 4294967296 * (y % 4294967296) = B at *
  generalize x % 4294967296 * (y / 4294967296) = C at *
  generalize x % 4294967296 * (y % 4294967296) = D at *
  clear e ex ey xl yl xh yh hx hy
  rw [wu64_of (x := A) p1.1 (by omega), wu64_of (x := B) p2.1 (by omega), wu64_of (x := C) p3.1 (by omega), wu64_of (x := D) p4.1 (by omega)]
  rw [wu64_of (x := B + D / 4294967296) (by omega) (by omega)]
  rw [mask32m (x := B + D / 4294967296) (by omega) (by omega)]
  rw [wu64_of (x := (B + D / 4294967296) % 4294967296 + C) (by omega) (by omega)]
  rw [wu64_of (x := A + (B + D / 4294967296) / 4294967296) (by omega) (by omega)]
  rw [wu64_of (x := A + (B + D / 4294967296) / 4294967296 + _) (by omega) (by omega)]
  exact ⟨_, _, rfl, by rw [wu64]; omega, by omega, by rw [wu64]; omega⟩
theorem mul_lt {x y : Int} (hx : 0 ≤ x ∧ x ≤ 65535) (hy : 0 ≤ y ∧ y ≤ 65535) : 0 ≤ x * y ∧ x * y ≤ 4294836225 := by
  have h1 := Int.mul_nonneg hx.1 hy.1
  have h2 : x * y ≤ 65535 * y := Int.mul_le_mul_of_nonneg_right hx.2 hy.1
  omega
theorem ref_mul_inner (a b : List Int) (da : Dig (b16 : Int) a) (db : Dig (b16 : Int) b) (ha : a.length ≤ 100000) (hb : b.length ≤ 100000) (i n : Nat) (hi : i < a.length) (hn : a.length - (i + 1) = n) {r : List Int}
    (next : ∀ p : List Int, p.length = i + 1 + b.length → Dig (b16 : Int) p → val (b16 : Int) p = val (b16 : Int) (a.take (i + 1)) * val (b16 : Int) b → Evt (fun k => windbreakref01_mul.l0 k a b (p ++ List.replicate n 0) ((i + 1 : Nat) : Int)) r) (m : Nat) :
    ∀ (j : Nat) (p : List Int) (c : Int), b.length - j = m → j ≤ b.length → p.length = i + b.length → Dig (b16 : Int) p → 0 ≤ c ∧ c < (b16 : Int) →
      val (b16 : Int) p + c * (b16 : Int) ^ (i + j) = val (b16 : Int) (a.take i) * val (b16 : Int) b + (b16 : Int) ^ i * a[i] * val (b16 : Int) (b.take j) →
      Evt (fun k => windbreakref01_mul.l1 k a b (p ++ List.replicate (n + 1) 0) (i : Int) c (j : Int)) r := by
  induction m with
  | zero =>
    intro j p c hj hjl hp dp hc hv
    refine Evt.succ ?_
    simp only [windbreakref01_mul.l1]
    refine Evt.ite_neg (by omega) ?_
    rw [w64 (show -9223372036854775808 ≤ (i : Int) + (b.length : Int) by omega) (by omega)]
    refine Evt.ite_pos (by omega) (Evt.ite_pos (by simp; omega) ?_)
    rw [w64 (by omega) (by omega), show ((i : Int) + (b.length : Int)).toNat = p.length from by omega, List.replicate_succ, set_at]
    have hj2 : j = b.length := by omega
    subst hj2
    rw [List.take_length] at hv
    refine (next (p ++ [c]) (by simp; omega) (Dig.append.2 ⟨dp, Dig.cons.2 ⟨hc, Dig.nil⟩⟩) ?_).congr (fun k => by rw [List.append_assoc]; rfl) rfl
    rw [val_append, hp, val_take_step (b16 : Int) a i hi]
    simp only [val, Int.mul_zero, Int.add_zero]
    generalize val (b16 : Int) (a.take i) = va at *
    generalize val (b16 : Int) b = vb at *
    generalize (b16 : Int) ^ (i + b.length) = P at *
    generalize (b16 : Int) ^ i = Q at *
    have : (va + Q * a[i]) * vb = va * vb + Q * a[i] * vb := by grind
    rw [this, ← hv, Int.mul_comm P c]
  | succ m ih =>
    intro j p c hj hjl hp dp hc hv
    have hjlt : j < b.length := by omega
    refine Evt.succ ?_
    simp only [windbreakref01_mul.l1]
    refine Evt.ite_pos (by omega) ?_
    rw [w64 (show -9223372036854775808 ≤ (i : Int) + (j : Int) by omega) (by omega)]
    refine Evt.ite_pos (by omega) (Evt.ite_pos (by simp; omega) (Evt.ite_pos (by omega) (Evt.ite_pos (by omega) (Evt.ite_pos (by omega) ?_))))
    have hx : rd a (i : Int) = a[i] := by simp [rd_nat, hi]
    have hy : rd b (j : Int) = b[j] := by simp [rd_nat, hjlt]
    have hz : rd (p ++ List.replicate (n + 1) 0) ((i : Int) + (j : Int)) = p.getD (i + j) 0 := by
      rw [rd_getD, show ((i : Int) + (j : Int)).toNat = i + j from by omega, getD_append_left (by omega)]
    have rx := da a[i] (List.getElem_mem hi)
    have ry := db b[j] (List.getElem_mem hjlt)
    have rz := dp.getD b16_pos (i + j)
    rw [hx, hy, hz, show ((i : Int) + (j : Int)).toNat = i + j from by omega, set_append_left (by omega)]
    have hB : (b16 : Int) = 65536 := rfl
    rw [hB] at rx ry rz hc
    obtain ⟨m1, m2⟩ := mul_lt (show 0 ≤ a[i] ∧ a[i] ≤ 65535 by omega) (show 0 ≤ b[j] ∧ b[j] ≤ 65535 by omega)
    have hv2 := val_set (b16 : Int) p (i + j) ((p.getD (i + j) 0 + a[i] * b[j] + c) % 65536) (by omega)
    have hvt := val_take_step (b16 : Int) b j hjlt
    generalize hxy : a[i] * b[j] = z at *
    rw [wu64_of m1 (by omega), wu64_of (show 0 ≤ p.getD (i + j) 0 + z by omega) (by omega), wu64_of (show 0 ≤ p.getD (i + j) 0 + z + c by omega) (by omega), Int.tmod_eq_emod_of_nonneg (by omega), Int.tdiv_eq_ediv_of_nonneg (by omega), wu64_of (by omega) (by omega), w64 (by omega) (by omega)]
    refine (ih (j + 1) (p.set (i + j) ((p.getD (i + j) 0 + z + c) % 65536)) ((p.getD (i + j) 0 + z + c) / 65536) (by omega) (by omega) (by simp; omega) (dp.set _ (by rw [hB]; omega)) (by rw [hB]; omega) ?_).congr (fun k => rfl) rfl
    rw [hv2, hvt]
    have hdm := Int.emod_add_mul_ediv (p.getD (i + j) 0 + z + c) 65536
    have hP : (b16 : Int) ^ (i + (j + 1)) = (b16 : Int) ^ (i + j) * 65536 := by rw [← Nat.add_assoc, Int.pow_succ]; rfl
    have hQ : (b16 : Int) ^ (i + j) = (b16 : Int) ^ i * (b16 : Int) ^ j := Int.pow_add ..
    rw [hP]
    generalize (p.getD (i + j) 0 + z + c) % 65536 = u at *
    generalize (p.getD (i + j) 0 + z + c) / 65536 = q at *
    generalize p.getD (i + j) 0 = y0 at *
    generalize val (b16 : Int) (a.take i) = va at *
    generalize val (b16 : Int) (b.take j) = vt at *
    generalize val (b16 : Int) b = vb at *
    generalize val (b16 : Int) p = vp at *
    generalize (b16 : Int) ^ (i + j) = P at *
    generalize (b16 : Int) ^ i = Q at *
    generalize (b16 : Int) ^ j = R at *
    subst hQ
    generalize a[i] = ai at *
    generalize b[j] = bj at *
    subst hxy
    have e1 : u = y0 + ai * bj + c - 65536 * q := by omega
    rw [e1]
    have e2 : vp = va * vb + Q * ai * vt - c * (Q * R) := by omega
    rw [e2]
    grind
theorem ref_mul_loop (a b : List Int) (da : Dig (b16 : Int) a) (db : Dig (b16 : Int) b) (ha : a.length ≤ 100000) (hb : b.length ≤ 100000) (n : Nat) :
    ∀ (i : Nat) (p : List Int), a.length - i = n → i ≤ a.length → p.length = i + b.length → Dig (b16 : Int) p → val (b16 : Int) p = val (b16 : Int) (a.take i) * val (b16 : Int) b →
      Evt (fun k => windbreakref01_mul.l0 k a b (p ++ List.replicate n 0) (i : Int)) (digs (num16 a * num16 b)) := by
  induction n with
  | zero =>
    intro i p hn hi hp dp hv
    refine Evt.succ ?_
    simp only [windbreakref01_mul.l0]
    refine Evt.ite_neg (by omega) ?_
    have h := windbreakref01_cut_ev (p ++ List.replicate 0 0) (by simp [maxLen]; omega)
    rw [List.replicate_zero, List.append_nil, strip_digs dp] at h
    have e : num16 p = num16 a * num16 b := by
      rw [List.take_of_length_le (by omega)] at hv
      have h1 := num16_val dp
      have h2 := num16_val da
      have h3 := num16_val db
      have : ((num16 p : Nat) : Int) = ((num16 a * num16 b : Nat) : Int) := by rw [h1, hv, Int.natCast_mul, h2, h3]
      omega
    rw [e] at h
    refine (Evt.bind h (h := fun t _ => some t) (Evt.pure _)).congr (fun k => by simp) rfl
  | succ n ih =>
    intro i p hn hi hp dp hv
    refine Evt.succ ?_
    simp only [windbreakref01_mul.l0]
    refine Evt.ite_pos (by omega) ?_
    refine ref_mul_inner a b da db ha hb i n (by omega) (by omega) (fun q h1 h2 h3 => ih (i + 1) q (by omega) (by omega) h1 h2 h3) b.length 0 p 0 (by omega) (by omega) hp dp (by decide) ?_
    simp [hv, val]
theorem ref_mul_ev (a b : List Int) (da : Dig (b16 : Int) a) (db : Dig (b16 : Int) b) (ha : a.length ≤ 100000) (hb : b.length ≤ 100000) : Evt (fun k => windbreakref01_mul.f k a b) (digs (num16 a * num16 b)) := by
  unfold windbreakref01_mul.f
  rw [w64 (show -9223372036854775808 ≤ (a.length : Int) + (b.length : Int) by omega) (by omega)]
  refine Evt.ite_pos (by omega) (Evt.ite_pos (by omega) ?_)
  refine (ref_mul_loop a b da db ha hb a.length 0 (List.replicate b.length 0) (by omega) (by omega) (by simp) (Dig.replicate b16_pos _) (by simp [val_replicate, val])).congr (fun k => ?_) rfl
  rw [show ((a.length : Int) + (b.length : Int)).toNat = b.length + a.length from by omega, List.replicate_append_replicate]
  rfl
theorem dig_one16 {x : Int} (h : 0 ≤ x ∧ x < 65536) : Dig (b16 : Int) [x] := Dig.cons.2 ⟨h, Dig.nil⟩
theorem num16_one {x : Int} (h : 0 ≤ x) : num16 [x] = x.toNat := by simp [num16, val]
theorem ref_div_halve (a : List Int) (w X : Nat) (q : List Int) (i : Nat) (hw : 0 < w) (hwl : w * 65536 < lim) (hX : X < lim) {r : List Int × List Int} (hq : q.length = a.length) (hi : i < a.length)
    (next : ∀ d : Nat, d < 65536 → d * w ≤ X → X < (d + 1) * w → Evt (fun k => windbreakref01_div.l0 k a (digs w) (q.set i (d : Int)) (digs (X - d * w)) ((i : Int) - 1)) r) (ha : a.length ≤ 100000) (n : Nat) :
    ∀ lo hi_ : Nat, hi_ - lo = n → lo ≤ hi_ → hi_ ≤ 65535 → lo * w ≤ X → X < (hi_ + 1) * w →
      Evt (fun k => windbreakref01_div.l1 k a (digs w) q (digs X) (i : Int) (lo : Int) (hi_ : Int)) r := by
  have hwlim : w < lim := by omega
  have hwd := digs_len hwlim
  have mulm : ∀ m : Nat, m < 65536 → Evt (fun k => windbreakref01_mul.f k (digs w) [(m : Int)]) (digs (m * w)) := by
    intro m hm
    refine (ref_mul_ev (digs w) [(m : Int)] (toD_dig b16_two w) (dig_one16 (by omega)) (by omega) (by simp)).congr (fun k => rfl) ?_
    rw [num16_digs, num16_one (by omega), Int.toNat_natCast, Nat.mul_comm]
  induction n using Nat.strongRecOn with
  | _ n ih =>
    intro lo hi_ hn hle h5 hlo hhi
    refine Evt.succ ?_
    simp only [windbreakref01_div.l1]
    by_cases hlt : lo < hi_
    · refine Evt.ite_pos (by omega) ?_
      have em : IntKind.u64.wrap (Int.tdiv (IntKind.u64.wrap (IntKind.u64.wrap ((lo : Int) + (hi_ : Int)) + 1)) 2) = (((lo + hi_ + 1) / 2 : Nat) : Int) := by
        rw [wu64_of (show 0 ≤ (lo : Int) + (hi_ : Int) by omega) (by omega), wu64_of (show 0 ≤ (lo : Int) + (hi_ : Int) + 1 by omega) (by omega), Int.tdiv_eq_ediv_of_nonneg (by omega), wu64_of (by omega) (by omega)]
        omega
      rw [em]
      generalize hm : (lo + hi_ + 1) / 2 = m
      have hm1 : lo < m ∧ m ≤ hi_ := by omega
      refine Evt.bind (mulm m (by omega)) ?_
      have hmw : m * w < lim := by
        have : m * w ≤ 65536 * w := Nat.mul_le_mul_right w (by omega)
        rw [Nat.mul_comm] at hwl
        omega
      refine Evt.bind (ref_compare_ev (m * w) X hmw) ?_
      by_cases hc : m * w ≤ X
      · refine Evt.ite_pos ?_ ?_
        · unfold cmpN
          by_cases h1 : m * w < X
          · rw [if_pos h1]; omega
          · rw [if_neg h1, if_pos (by omega)]; omega
        · exact ih (hi_ - m) (by omega) m hi_ rfl (by omega) h5 hc hhi
      · refine Evt.ite_neg ?_ ?_
        · unfold cmpN
          rw [if_neg (by omega), if_neg (by omega)]; omega
        · have e : IntKind.u64.wrap ((m : Int) - 1) = ((m - 1 : Nat) : Int) := by rw [wu64_of (by omega) (by omega)]; omega
          rw [e]
          refine ih (m - 1 - lo) (by omega) lo (m - 1) rfl (by omega) (by omega) hlo ?_
          rw [show m - 1 + 1 = m from by omega]
          omega
    · refine Evt.ite_neg (by omega) (Evt.ite_pos (by omega) (Evt.ite_pos (by omega) ?_))
      have e : lo = hi_ := by omega
      subst e
      refine Evt.bind (mulm lo (by omega)) ?_
      refine Evt.bind (ref_sub_ev X (lo * w) hX hlo) ?_
      rw [w64 (by omega) (by omega)]
      refine (next lo (by omega) hlo hhi).congr (fun k => rfl) rfl
theorem ref_div_loop (a : List Int) (da : Dig (b16 : Int) a) (w : Nat) (hw : 0 < w) (hwl : w * 65536 < lim) (ha : a.length ≤ 100000) (hb : b16 ^ a.length ≤ lim) (n : Nat) :
    ∀ (Q : List Int) (R : Nat), Dig (b16 : Int) Q → Q.length = a.length - n → n ≤ a.length → R < w → num16 (a.drop n) = num16 Q * w + R →
      Evt (fun k => windbreakref01_div.l0 k a (digs w) (List.replicate n 0 ++ Q) (digs R) ((n : Int) - 1)) (digs (num16 a / w), digs (num16 a % w)) := by
  induction n with
  | zero =>
    intro Q R dQ hQ hn hR hv
    refine Evt.succ ?_
    simp only [windbreakref01_div.l0]
    refine Evt.ite_neg (by omega) ?_
    rw [List.replicate_zero, List.nil_append]
    rw [List.drop_zero] at hv
    have h := windbreakref01_cut_ev Q (by simp [maxLen]; omega)
    rw [strip_digs dQ] at h
    have e1 : num16 Q = num16 a / w := by
      rw [hv, Nat.mul_comm, Nat.mul_add_div hw, Nat.div_eq_of_lt hR, Nat.add_zero]
    have e2 : R = num16 a % w := by
      rw [hv, Nat.mul_comm, Nat.mul_add_mod, Nat.mod_eq_of_lt hR]
    rw [← e1, ← e2]
    exact Evt.bind h (h := fun t _ => some (t, digs R)) (Evt.pure _)
  | succ n ih =>
    intro Q R dQ hQ hn hR hv
    have hlt : n < a.length := by omega
    refine Evt.succ ?_
    simp only [windbreakref01_div.l0]
    rw [show ((n + 1 : Nat) : Int) - 1 = (n : Int) from by omega]
    refine Evt.ite_pos (by omega) (Evt.ite_pos (by omega) (Evt.ite_pos (by omega) ?_))
    simp only [Option.bind_some]
    have hx : rd a (n : Int) = a[n] := by simp [rd_nat, hlt]
    rw [hx]
    have rx := da a[n] (List.getElem_mem hlt)
    have hRl : R < lim := by omega
    have hRd := digs_len hRl
    refine Evt.ite_pos (by simp; omega) ?_
    have dX : Dig (b16 : Int) ([a[n]] ++ digs R) := Dig.cons.2 ⟨rx, toD_dig b16_two R⟩
    have hXn : num16 ([a[n]] ++ digs R) = a[n].toNat + 65536 * R := by
      have h1 := num16_val dX
      have h2 : val (b16 : Int) ([a[n]] ++ digs R) = a[n] + (b16 : Int) * val (b16 : Int) (digs R) := rfl
      rw [h2, val_toD b16_two] at h1
      simp only [b16] at h1 rx
      omega
    have h := windbreakref01_cut_ev ([a[n]] ++ digs R) (by simp [maxLen]; omega)
    rw [strip_digs dX, hXn] at h
    refine Evt.bind h ?_
    generalize hX : a[n].toNat + 65536 * R = X
    have hXw : X < 65536 * w := by
      simp only [b16] at rx
      have : 65536 * (R + 1) ≤ 65536 * w := Nat.mul_le_mul_left _ hR
      omega
    have hq1 : List.replicate (n + 1) (0 : Int) ++ Q = List.replicate n 0 ++ (0 :: Q) := by rw [List.replicate_succ', List.append_assoc]; rfl
    rw [hq1]
    refine ref_div_halve a w X _ n hw hwl (by rw [Nat.mul_comm] at hwl; omega) (by simp; omega) hlt ?_ ha 65535 0 65535 rfl (by omega) (by omega) (by omega) (by omega)
    intro d hd h1 h2
    have hs : (List.replicate n (0 : Int) ++ 0 :: Q).set n (d : Int) = List.replicate n 0 ++ ((d : Int) :: Q) := by
      have := set_at (List.replicate n (0 : Int)) 0 (d : Int) Q
      rw [List.length_replicate] at this
      exact this
    rw [hs]
    have dQ2 : Dig (b16 : Int) ((d : Int) :: Q) := Dig.cons.2 ⟨by simp only [b16]; omega, dQ⟩
    refine ih ((d : Int) :: Q) (X - d * w) dQ2 (by simp; omega) (by omega) ?_ ?_
    · rw [Nat.add_mul, Nat.one_mul] at h2
      omega
    · have dA : Dig (b16 : Int) (a.drop n) := da.drop n
      have g1 := num16_val dA
      have g2 := num16_val (da.drop (n + 1))
      have g3 := num16_val dQ2
      have g4 := num16_val dQ
      rw [List.drop_eq_getElem_cons hlt] at g1 ⊢
      simp only [val] at g1 g3
      rw [← g2] at g1
      rw [← g4] at g3
      rw [hv] at g1
      simp only [b16] at g1 g3 rx
      have g5 : num16 ((d : Int) :: Q) = d + 65536 * num16 Q := by omega
      rw [g5]
      generalize num16 Q = Qn at *
      have g6 : (d + 65536 * Qn) * w = d * w + 65536 * (Qn * w) := by rw [Nat.add_mul, Nat.mul_assoc]
      rw [g6]
      generalize Qn * w = z at *
      generalize d * w = y at *
      omega
theorem ref_div_ev (v w : Nat) (hv : v < lim) (hw : 0 < w) (hwl : w * 65536 < lim) : Evt (fun k => windbreakref01_div.f k (digs v) (digs w)) (digs (v / w), digs (v % w)) := by
  have hd := digs_len hv
  unfold windbreakref01_div.f
  refine Evt.ite_pos (by omega) (Evt.ite_pos (by omega) ?_)
  rw [w64 (by omega) (by omega)]
  have hb : b16 ^ (digs v).length ≤ lim := by
    have h : lim = b16 ^ (4 * thousand) := by
      unfold lim
      rw [b64_pow, ← Nat.pow_mul]
    rw [h]
    exact Nat.pow_le_pow_right (by decide) hd
  have h := ref_div_loop (digs v) (toD_dig b16_two v) w hw hwl (by omega) hb (digs v).length [] 0 Dig.nil (by simp) (Nat.le_refl _) hw (by rw [List.drop_length]; simp [num16_nil])
  rw [num16_digs] at h
  refine h.congr (fun k => ?_) rfl
  rw [List.append_nil, Int.toNat_natCast, show digs 0 = [] from toD_zero b16]
theorem len8 : ∀ n : Fin 256, bt (⟨#[0, 1, 2, 2, 3, 3, 3, 3, 4, 4, 4, 4, 4, 4, 4, 4, 5, 5, 5, 5, 5, 5, 5, 5, 5, 5, 5, 5, 5, 5, 5, 5, 6, 6, 6, 6, 6, 6, 6, 6, 6, 6, 6, 6, 6, 6, 6, 6, 6, 6, 6, 6, 6, 6, 6, 6, 6, 6, 6, 6, 6, 6, 6, 6, 7, 7, 7, 7, 7, 7, 7, 7, 7, 7, 7, 7, 7, 7, 7, 7, 7, 7, 7, 7, 7, 7, 7, 7, 7, 7, 7, 7, 7, 7, 7, 7, 7, 7, 7, 7, 7, 7, 7, 7, 7, 7, 7, 7, 7, 7, 7, 7, 7, 7, 7, 7, 7, 7, 7, 7, 7, 7, 7, 7, 7, 7, 7, 7, 8, 8, 8, 8, 8, 8, 8, 8, 8, 8, 8, 8, 8, 8, 8, 8, 8, 8, 8, 8, 8, 8, 8, 8, 8, 8, 8, 8, 8, 8, 8, 8, 8, 8, 8, 8, 8, 8, 8, 8, 8, 8, 8, 8, 8, 8, 8, 8, 8, 8, 8, 8, 8, 8, 8, 8, 8, 8, 8, 8, 8, 8, 8, 8, 8, 8, 8, 8, 8, 8, 8, 8, 8, 8, 8, 8, 8, 8, 8, 8, 8, 8, 8, 8, 8, 8, 8, 8, 8, 8, 8, 8, 8, 8, 8, 8, 8, 8, 8, 8, 8, 8, 8, 8, 8, 8, 8, 8, 8, 8, 8, 8, 8, 8, 8, 8, 8, 8, 8, 8, 8, 8, 8, 8, 8, 8, 8, 8]⟩ : ByteArray) ((n.val : Nat) : Int) = ((bl n.val : Nat) : Int) := by decide +kernel
theorem len8_at {x : Int} (h0 : 0 ≤ x) (h1 : x < 256) : bt (⟨#[0, 1, 2, 2, 3, 3, 3, 3, 4, 4, 4, 4, 4, 4, 4, 4, 5, 5, 5, 5, 5, 5, 5, 5, 5, 5, 5, 5, 5, 5, 5, 5, 6, 6, 6, 6, 6, 6, 6, 6, 6, 6, 6, 6, 6, 6, 6, 6, 6, 6, 6, 6, 6, 6, 6, 6, 6, 6, 6, 6, 6, 6, 6, 6, 7, 7, 7, 7, 7, 7, 7, 7, 7, 7, 7, 7, 7, 7, 7, 7, 7, 7, 7, 7, 7, 7, 7, 7, 7, 7, 7, 7, 7, 7, 7, 7, 7, 7, 7, 7, 7, 7, 7, 7, 7, 7, 7, 7, 7, 7, 7, 7, 7, 7, 7, 7, 7, 7, 7, 7, 7, 7, 7, 7, 7, 7, 7, 7, 8, 8, 8, 8, 8, 8, 8, 8, 8, 8, 8, 8, 8, 8, 8, 8, 8, 8, 8, 8, 8, 8, 8, 8, 8, 8, 8, 8, 8, 8, 8, 8, 8, 8, 8, 8, 8, 8, 8, 8, 8, 8, 8, 8, 8, 8, 8, 8, 8, 8, 8, 8, 8, 8, 8, 8, 8, 8, 8, 8, 8, 8, 8, 8, 8, 8, 8, 8, 8, 8, 8, 8, 8, 8, 8, 8, 8, 8, 8, 8, 8, 8, 8, 8, 8, 8, 8, 8, 8, 8, 8, 8, 8, 8, 8, 8, 8, 8, 8, 8, 8, 8, 8, 8, 8, 8, 8, 8, 8, 8, 8, 8, 8, 8, 8, 8, 8, 8, 8, 8, 8, 8, 8, 8, 8, 8, 8, 8]⟩ : ByteArray) x = ((bl x.toNat : Nat) : Int) := by
  obtain ⟨n, rfl⟩ := Int.eq_ofNat_of_zero_le h0
  exact len8 ⟨n, by omega⟩
set_option maxRecDepth 100000 in
theorem len64_j {x : Int} (h0 : 0 ≤ x) (h1 : x < 4294967296) (c : Int) (hc : 0 ≤ c ∧ c ≤ 1000) : Evt (fun k => bits_Len64.j0 k x c) (c + ((bl x.toNat : Nat) : Int)) := by
  have key : ∀ (s : Nat) (y : Int), 0 ≤ y → y < 256 → (s ≤ 24) → (y = 0 → s = 0) → y = x / 2 ^ s → ((bl x.toNat : Nat) : Int) = (s : Int) + ((bl y.toNat : Nat) : Int) := by
    intro s y hy0 hy1 hs hz he
    have : bl x.toNat = s + bl y.toNat := by
      by_cases h : y = 0
      · have hs0 := hz h
        subst hs0
        simp at he
        rw [he, Nat.zero_add]
      · have e : y.toNat = x.toNat / 2 ^ s := by
          rw [he]
          have h2 : x = ((x.toNat : Nat) : Int) := by omega
          rw [h2]
          have h3 : ((2 : Int) ^ s) = ((2 ^ s : Nat) : Int) := by simp
          rw [h3, ← Int.natCast_ediv, Int.toNat_natCast, Int.toNat_natCast]
        rw [e]
        exact bl_shift x.toNat s (by rw [← e]; omega)
    omega
  refine Evt.succ ?_
  simp only [bits_Len64.j0]
  by_cases c1 : x ≥ 65536
  · refine Evt.ite_pos c1 ?_
    by_cases c2 : x / 65536 ≥ 256
    · refine Evt.ite_pos c2 (Evt.ite_pos (by omega) (Evt.ite_pos (by omega) ?_))
      have e : x / 65536 / 256 % 256 = x / 65536 / 256 := by omega
      rw [e, len8_at (by omega) (by omega)]
      have k1 := key 24 (x / 65536 / 256) (by omega) (by omega) (by omega) (by omega) (by rw [Int.ediv_ediv_of_nonneg (by omega)]; rfl)
      have k2 := bl_le8 (x := (x / 65536 / 256).toNat) (by omega)
      rw [w64 (show -9223372036854775808 ≤ c + 16 by omega) (by omega), w64 (show -9223372036854775808 ≤ c + 16 + 8 by omega) (by omega), w64 (show -9223372036854775808 ≤ ((bl (x / 65536 / 256).toNat : Nat) : Int) by omega) (by omega), w64 (by omega) (by omega), k1]
      refine (Evt.pure _).congr (fun k => rfl) (by omega)
    · refine Evt.ite_neg c2 (Evt.ite_pos (by omega) (Evt.ite_pos (by omega) ?_))
      have e : x / 65536 % 256 = x / 65536 := by omega
      rw [e, len8_at (by omega) (by omega)]
      have k1 := key 16 (x / 65536) (by omega) (by omega) (by omega) (by omega) rfl
      have k2 := bl_le8 (x := (x / 65536).toNat) (by omega)
      rw [w64 (show -9223372036854775808 ≤ c + 16 by omega) (by omega), w64 (show -9223372036854775808 ≤ ((bl (x / 65536).toNat : Nat) : Int) by omega) (by omega), w64 (by omega) (by omega), k1]
      refine (Evt.pure _).congr (fun k => rfl) (by omega)
  · refine Evt.ite_neg c1 ?_
    by_cases c2 : x ≥ 256
    · refine Evt.ite_pos c2 (Evt.ite_pos (by omega) (Evt.ite_pos (by omega) ?_))
      have e : x / 256 % 256 = x / 256 := by omega
      rw [e, len8_at (by omega) (by omega)]
      have k1 := key 8 (x / 256) (by omega) (by omega) (by omega) (by omega) rfl
      have k2 := bl_le8 (x := (x / 256).toNat) (by omega)
      rw [w64 (show -9223372036854775808 ≤ c + 8 by omega) (by omega), w64 (show -9223372036854775808 ≤ ((bl (x / 256).toNat : Nat) : Int) by omega) (by omega), w64 (by omega) (by omega), k1]
      refine (Evt.pure _).congr (fun k => rfl) (by omega)
    · refine Evt.ite_neg c2 (Evt.ite_pos (by omega) (Evt.ite_pos (by omega) ?_))
      have e : x % 256 = x := by omega
      rw [e, len8_at (by omega) (by omega)]
      have k2 := bl_le8 (x := x.toNat) (by omega)
      rw [w64 (show -9223372036854775808 ≤ ((bl x.toNat : Nat) : Int) by omega) (by omega), w64 (by omega) (by omega)]
      exact Evt.pure _
theorem bits_Len64_ev {x : Int} (h0 : 0 ≤ x) (h1 : x < 18446744073709551616) : Evt (fun k => bits_Len64.f k x) ((bl x.toNat : Nat) : Int) := by
  unfold bits_Len64.f
  by_cases c1 : x ≥ 4294967296
  · refine Evt.ite_pos c1 ?_
    refine (len64_j (x := x / 4294967296) (by omega) (by omega) 32 (by omega)).congr (fun k => rfl) ?_
    have e : (x / 4294967296).toNat = x.toNat / 2 ^ 32 := by omega
    have := bl_shift x.toNat 32 (by omega)
    rw [e]
    omega
  · refine Evt.ite_neg c1 ?_
    exact (len64_j (x := x) (by omega) (by omega) 0 (by omega)).congr (fun k => rfl) (by omega)
def mulW (a b : List Int) : List Int × Int := if rightB a = true ∧ rightB b = true then toldV (num a * num b) else ([], 1)
theorem ref_Mul_ev (a b : List Int) (ha : a.length ≤ maxLen) (hb : b.length ≤ maxLen) (da : Dig (b64 : Int) a) (db : Dig (b64 : Int) b) : Evt (fun k => windbreakref01_Mul.f k a b) (mulW a b) := by
  unfold windbreakref01_Mul.f mulW
  rw [windbreakref01_Right_eq ha, windbreakref01_Right_eq hb]
  simp only [Option.bind_some]
  have J : ∀ x : Bool, (x = false → rightB a = true ∧ rightB b = true) → Evt (fun k => windbreakref01_Mul.j0 k a b x) (if x = true then ([], 1) else toldV (num a * num b)) := by
    intro x hx
    refine Evt.succ ?_
    simp only [windbreakref01_Mul.j0]
    refine Evt.cond (fun _ => Evt.pure _) (fun hc => ?_)
    have h := hx (by simpa using hc)
    obtain ⟨h1, c1⟩ := (rightB_iff a).1 h.1
    obtain ⟨h2, c2⟩ := (rightB_iff b).1 h.2
    have n1 := num_lt_p da h1
    have n2 := num_lt_p db h2
    have n3 := pow_lt_lim (n := 64) (by omega)
    have n4 : num a * num b < lim := by
      have g3 := Nat.mul_lt_mul'' n1 n2
      rw [← Nat.pow_add] at g3
      exact Nat.lt_of_lt_of_le g3 (lim_pow (by omega))
    refine Evt.bind (ref_In_ev a (by omega) da) (Evt.bind (ref_In_ev b (by omega) db) ?_)
    have hm := ref_mul_ev (digs (num a)) (digs (num b)) (toD_dig b16_two _) (toD_dig b16_two _) (by have := digs_len (v := num a) (by omega); omega) (by have := digs_len (v := num b) (by omega); omega)
    rw [num16_digs, num16_digs] at hm
    refine Evt.bind hm ?_
    exact Evt.bind (ref_told_ev (num a * num b) n4) (h := fun t _ => some (t.1, t.2)) (Evt.pure _)
  cases hA : rightB a with
  | true =>
    refine Evt.ite_pos rfl ((J _ (fun h => ⟨hA, by simpa using h⟩)).congr (fun k => rfl) ?_)
    cases hB : rightB b <;> simp
  | false =>
    refine Evt.ite_neg (by simp) ((J _ (fun h => by simp at h)).congr (fun k => rfl) ?_)
    simp
end Go.Proofs.Ytkgaejigpmkfkaa.Z
end
section
namespace Go.Proofs.Ytkgaejigpmkfkaa.F
open Go.RowKit Go.Proofs.YtkgaejigpmkfkaaW.PrintWords Go.Proofs.YtkgaejigpmkfkaaW.PrintLast Go.Proofs.YtkgaejigpmkfkaaW.PrintMore
attribute [local go_sem] max2_int min2_int max_two min_two max_three min_three max_four min_four
set_option linter.unusedVariables false
set_option linter.unusedSimpArgs false
attribute [local go_sem] add64_run
mutual
def nat_school.l0 : Nat → List Int → List Int → List Int → Int → Int → Option (List Int)
 | 0, _, _, _, _, _ => none
 | k + 1, x1, x5, x20, x21, x22 => if x22 < x21 then (if 0 ≤ x22 then (if x22 < (x20.length : Int) then (nat_school.l1 k x1 x5 x22 (rd x20 x22) 0 x20 x21 x22 x1 (x1.length : Int) 0) else (none)) else (none)) else ((nat_trim.f k x5).bind fun t139 => (some t139))
def nat_school.l1 : Nat → List Int → List Int → Int → Int → Int → List Int → Int → Int → List Int → Int → Int → Option (List Int)
 | 0, _, _, _, _, _, _, _, _, _, _, _ => none
 | k + 1, x1, x5, x6, x7, x8, x20, x21, x22, x27, x28, x29 => if x29 < x28 then (if 0 ≤ x29 then (if x29 < (x27.length : Int) then ((bits_Mul64.f x7 (rd x27 x29)).bind fun bt144 => (if 0 ≤ (wrap64 (x6 + x29)) then (if (wrap64 (x6 + x29)) < (x5.length : Int) then (if carry01 0 = true then (nat_school.l1 k x1 (x5.set ((wrap64 (x6 + x29)) : Int).toNat (add64_s (add64_s bt144.2 (rd x5 (wrap64 (x6 + x29))) 0) x8 0)) x6 x7 (IntKind.u64.wrap ((IntKind.u64.wrap (bt144.1 + (add64_c bt144.2 (rd x5 (wrap64 (x6 + x29))) 0))) + (add64_c (add64_s bt144.2 (rd x5 (wrap64 (x6 + x29))) 0) x8 0))) x20 x21 x22 x27 x28 (wrap64 (x29 + 1))) else (none)) else (none)) else (none))) else (none)) else (none)) else (if 0 ≤ (wrap64 (x6 + (x1.length : Int))) then (if (wrap64 (x6 + (x1.length : Int))) < (x5.length : Int) then (nat_school.l0 k x1 (x5.set ((wrap64 (x6 + (x1.length : Int))) : Int).toNat x8) x20 x21 (wrap64 (x22 + 1))) else (none)) else (none))
end
def nat_school.f (k : Nat) (l0 : List Int) (l1 : List Int) : Option (List Int) := if 0 ≤ (wrap64 ((l0.length : Int) + (l1.length : Int))) then (if (wrap64 ((l0.length : Int) + (l1.length : Int)) : Int).toNat ≤ 35184372088832 then (nat_school.l0 k l1 (List.replicate (wrap64 ((l0.length : Int) + (l1.length : Int)) : Int).toNat 0) l0 (l0.length : Int) 0) else (none)) else (none)
set_option maxHeartbeats 8000000 in
set_option maxRecDepth 100000 in
theorem nat_school.calls (k : Nat) (A0 : Option Addr) (c0 : Nat) (l0 : List Int) (A1 : Option Addr) (c1 : Nat) (l1 : List Int) (r : List Int) (w : World) (hr0 : Kd.C (Kd.int .u64) w A0 l0.length l0) (hc0 : l0.length ≤ c0) (hr1 : Kd.C (Kd.int .u64) w A1 l1.length l1) (hc1 : l1.length ≤ c1) (h : nat_school.f k l0 l1 = some r) :
  Calls Try.prog 136 #[.slice A0 l0.length c0, .slice A1 l1.length c1] w fun e w' => ∃ v0_ : Value, e = .returned (v0_) ∧ Kd.R (Kd.int .u64) 30 w' w.heap.size (fun _ => True) v0_ r ∧ Below w.heap.size w w' := by
 have HR0 := Aside0.mk hr0; have HC0 := Aside0.mk hc0; clear hr0 hc0; have HR1 := Aside0.mk hr1; have HC1 := Aside0.mk hc1; clear hr1 hc1
 have HB := Aside0.mk (Below.refl w.heap.size w)
 have H : (if 0 ≤ (wrap64 ((l0.length : Int) + (l1.length : Int))) then (if (wrap64 ((l0.length : Int) + (l1.length : Int)) : Int).toNat ≤ 35184372088832 then (nat_school.l0 k l1 (List.replicate (wrap64 ((l0.length : Int) + (l1.length : Int)) : Int).toNat 0) l0 (l0.length : Int) 0) else (none)) else (none)) = some r := h
 clear h
 obtain ⟨ji3, hji3⟩ : ∃ j_ : Int, (wrap64 ((l0.length : Int) + (l1.length : Int))) = j_ := ⟨_, rfl⟩
 first | rw [hji3] at H | simp only [hji3] at H
 have hji3w : (IntKind.i64.wrap ((l0.length : Int) + (l1.length : Int))) = ji3 := (i64_w _).trans hji3
 replace H := uT H; obtain ⟨c4, H⟩ := H
 have c4b0 := eq_true c4
 have c4b1 : decide (0 ≤ (ji3)) = true := decide_eq_true c4
 clear c4
 replace H := uT H; obtain ⟨c5, H⟩ := H
 have c5b0 := eq_true c5
 have c5b1 : decide ((ji3 : Int).toNat ≤ 35184372088832) = true := decide_eq_true c5
 clear c5
 obtain ⟨y136, hy136⟩ : ∃ y_ : List Int, y_ = (List.replicate (ji3 : Int).toNat 0) := ⟨_, rfl⟩
 replace H : (nat_school.l0 k l1 y136 l0 (l0.length : Int) 0) = some r := by first | (rw [hy136]; with_reducible exact H) | (have H2_ := (Option.bind_some _ _).symm.trans H; rw [hy136]; with_reducible exact H2_) | (have H2_ := (Option.bind_some _ _).symm.trans H; with_reducible exact H2_) | with_reducible exact H | (rw [hy136]; exact H) | exact H
 have Ny136 := Aside0.mk hy136; clear hy136
 have H' := Aside0.mk H
 clear H
 go_enter Try.func136, Try.ntmps136
 go_wp2_with (first | ((with_reducible refine gate_dst (N := 19) rfl ?_); refine Kd.R_make (Kd.int .u64) _ 30 rfl (N := 19) rfl 40 _ _ rfl ji3 rfl rfl Try.underlying40 (.int .u64 0) 8 info30 rfl (by decide) (by omega) 0 (ok := fun _ => True) (okp := fun _ => True) rfl (fun _ hk => hk) trivial uO (Nat.le_trans (Nat.mul_le_mul_right _ (uO : ji3.toNat ≤ 35184372088832)) (by omega)) (Below.refl _ _) (Nat.le_refl _) ?_; intro v137 w6 ho7 hb hg_ hnew_; clear hg_ hnew_; (first | rw [← Ny136.out] at ho7 | (simp only [Int.reduceToNat] at ho7; rw [← Ny136.out] at ho7)); have HO138 := Aside0.mk (Kd.R_lower ho7 (below_size uB)); replace HB := uy hb; clear hb ho7))
 go_loopg [22] k (fun kq v22 w' => ∃ (x5_1 : List Int) (x22_1 : Int), v22 = .int .i64 x22_1 ∧ Aside0 (nat_school.l0 kq l1 x5_1 l0 (l0.length : Int) x22_1 = some r) ∧ Aside0 (kq ≤ k) ∧ Aside0 (Kd.R (Kd.int .u64) 30 w' w.heap.size (fun _ => True) v137 x5_1) ∧ Aside0 (Below w.heap.size w w'))
 case atStart => exact ⟨(y136), (0), uG, H', ⟨Nat.le_refl _⟩, ⟨uR HO138.out⟩, ⟨uB⟩⟩
 case round =>
  clear H'
  (try clear c1); (try clear p2); (try clear c4); (try clear c4b0); (try clear c4b1); (try clear c5); (try clear c5b0); (try clear c5b1); (try clear p6)
  obtain ⟨x5_1, x22_1, rfl, HA, HK1, HO_5, HB⟩ := hrel
  cases gk with
  | zero => exact absurd HA.out (by simp [nat_school.l0])
  | succ k1 =>
   have H := HA.out
   clear HA
   simp only [nat_school.l0] at H
   by_cases c8 : x22_1 < (l0.length : Int)
   ·
    rw [if_pos c8] at H
    have c8b0 : decide (x22_1 < (l0.length : Int)) = true := decide_eq_true c8
    clear c8
    replace H := uT H; obtain ⟨c9, H⟩ := H
    have c9b0 : decide (0 ≤ x22_1) = true := decide_eq_true c9
    clear c9
    replace H := uT H; obtain ⟨c10, H⟩ := H
    have c10b0 : decide (x22_1 < (l0.length : Int)) = true := decide_eq_true c10
    clear c10
    have H' := Aside0.mk H
    clear H
    have p142 : 0 ≤ (x22_1 : Int) := uO
    have q142 : x22_1 < (l0.length : Int) := uO
    obtain ⟨ad142, e142, hx142_0⟩ := Kd.at_int HR0.out x22_1 p142 q142
    cases e142
    replace hx142_0 := (HB.out.cell (World.block_lt_of_cell? w _ hx142_0)).trans hx142_0
    replace p142 := eq_true p142
    replace q142 := eq_true q142
    go_wp2
    go_loopg [8, 29] k1 (fun kq v8 v29 w' => ∃ (x5_2 : List Int) (x8_2 : Int) (x29_2 : Int), v8 = .int .u64 x8_2 ∧ v29 = .int .i64 x29_2 ∧ Aside0 (nat_school.l1 kq l1 x5_2 x22_1 (rd l0 x22_1) x8_2 l0 (l0.length : Int) x22_1 l1 (l1.length : Int) x29_2 = some r) ∧ Aside0 (kq ≤ k1) ∧ Aside0 (Kd.R (Kd.int .u64) 30 w' w.heap.size (fun _ => True) v137 x5_2) ∧ Aside0 (Below w.heap.size w w'))
    case atStart => exact ⟨(x5_1), (0), (0), uG, uG, H', ⟨Nat.le_refl _⟩, ⟨uR HO_5.out⟩, ⟨uB⟩⟩
    case round =>
     clear H'
     (try clear c1); (try clear p1); (try clear q1); (try clear hx1); (try clear p2 p2); (try clear c4); (try clear c4b0); (try clear c4b1); (try clear c5); (try clear c5b0); (try clear c5b1); (try clear p6 p6); (try clear c8); (try clear c8b0); (try clear c9); (try clear c9b0); (try clear c10); (try clear c10b0); (try clear hx142_0); (try clear p142); (try clear q142)
     obtain ⟨x5_2, x8_2, x29_2, rfl, rfl, HA, HK2, HO_5, HB⟩ := hrel
     cases gk with
     | zero => exact absurd HA.out (by simp [nat_school.l1])
     | succ k2 =>
      have H := HA.out
      clear HA
      simp only [nat_school.l1] at H
      by_cases c11 : x29_2 < (l1.length : Int)
      ·
       rw [if_pos c11] at H
       have c11b0 : decide (x29_2 < (l1.length : Int)) = true := decide_eq_true c11
       clear c11
       replace H := uT H; obtain ⟨c12, H⟩ := H
       have c12b0 : decide (0 ≤ x29_2) = true := decide_eq_true c12
       clear c12
       replace H := uT H; obtain ⟨c13, H⟩ := H
       have c13b0 : decide (x29_2 < (l1.length : Int)) = true := decide_eq_true c13
       clear c13
       replace H := ub H; obtain ⟨⟨t144, t145⟩, A14, H⟩ := H
       (try dsimp only at H)
       obtain ⟨ji15, hji15⟩ : ∃ j_ : Int, (wrap64 (x22_1 + x29_2)) = j_ := ⟨_, rfl⟩
       first | rw [hji15] at H | simp only [hji15] at H
       (try rw [hji15] at A14)
       have hji15w : (IntKind.i64.wrap (x22_1 + x29_2)) = ji15 := (i64_w _).trans hji15
       replace H := uT H; obtain ⟨c16, H⟩ := H
       have c16b0 : decide (0 ≤ (ji15)) = true := decide_eq_true c16
       clear c16
       replace H := uT H; obtain ⟨c17, H⟩ := H
       have c17b0 : decide ((ji15) < (x5_2.length : Int)) = true := decide_eq_true c17
       clear c17
       replace H := uT H; obtain ⟨c18, H⟩ := H
       have c18b0 : carry01 0 = true := c18
       clear c18
       obtain ⟨y147, hy147⟩ : ∃ y_ : List Int, y_ = (x5_2.set ((ji15) : Int).toNat (add64_s (add64_s t145 (rd x5_2 (ji15)) 0) x8_2 0)) := ⟨_, rfl⟩
       replace H : (nat_school.l1 k2 l1 y147 x22_1 (rd l0 x22_1) (IntKind.u64.wrap ((IntKind.u64.wrap (t144 + (add64_c t145 (rd x5_2 (ji15)) 0))) + (add64_c (add64_s t145 (rd x5_2 (ji15)) 0) x8_2 0))) l0 (l0.length : Int) x22_1 l1 (l1.length : Int) (wrap64 (x29_2 + 1))) = some r := by first | (rw [hy147]; with_reducible exact H) | (have H2_ := (Option.bind_some _ _).symm.trans H; rw [hy147]; with_reducible exact H2_) | (have H2_ := (Option.bind_some _ _).symm.trans H; with_reducible exact H2_) | with_reducible exact H | (rw [hy147]; exact H) | exact H
       have Ny147 := Aside0.mk hy147; clear hy147
       have H' := Aside0.mk H
       clear H
       have p143 : 0 ≤ (x29_2 : Int) := uO
       have q143 : x29_2 < (l1.length : Int) := uO
       obtain ⟨ad143, e143, hx143_0⟩ := Kd.at_int HR1.out x29_2 p143 q143
       cases e143
       replace hx143_0 := (HB.out.cell (World.block_lt_of_cell? w _ hx143_0)).trans hx143_0
       replace p143 := eq_true p143
       replace q143 := eq_true q143
       go_wp2_with (first | ((with_reducible refine gate_callee (f := 68) rfl ?_); refine goesL_ (some 37) rfl rfl Try.func68 (by kernel_rfl) rfl #[.int .u64 (rd l0 x22_1), .int .u64 (rd l1 x29_2)] rfl uM ?_; (with_reducible refine (bits_Mul64.calls (rd l0 x22_1) (rd l1 x29_2) t144 t145 _ A14.out).mono ?_); rintro e w' ⟨rfl, ⟨nd, rfl⟩⟩; refine ⟨_, rfl, ?_⟩; (try (rw [drewN_self wr]; generalize hq_ : World.drewN wr _ = wr; replace HO_5 : Aside0 (Kd.R (Kd.int .u64) 30 wr w.heap.size (fun _ => True) v137 x5_2) := ⟨by rw [← hq_]; exact (uR HO_5.out)⟩; replace HB : Aside0 (Below w.heap.size w wr) := ⟨by rw [← hq_]; exact uB⟩; clear hq_)); obtain ⟨Ao20, co20, eo20⟩ := Kd.R_slice HO_5.out; subst eo20; have p146 : 0 ≤ ((ji15) : Int) := uO; have q146 : (ji15) < (x5_2.length : Int) := uO; obtain ⟨ad146, e146, hx146_0⟩ := Kd.at_int (Kd.R_reads' HO_5.out).2.2 (ji15) p146 q146; cases e146; replace p146 := eq_true p146; replace q146 := eq_true q146; have p19 : 0 ≤ ((ji15) : Int) := uO; have q19 : ((ji15) : Int) < ((x5_2.length : Int) : Int) := uO; obtain ⟨go19, co19, eo19, gb19, gl19, cl19, HG19⟩ := Kd.R_form HO_5.out (by omega); (first | cases eo19 | (injection eo19 with ea_ en_ ec_; (first | subst ea_ | (injection ea_ with ea_; subst ea_)); subst ec_; clear en_)); have GB19 := Aside0.mk gb19; have GG19 := Aside0.mk HG19; clear gb19 gl19 HG19; (first | simp only [add_plain] at hx146_0 | skip); obtain ⟨hx19_0, hf19_0⟩ := Kd.R_celln 0 HO_5.out ((ji15) : Int) p19 q19; replace p19 := eq_true p19; replace q19 := eq_true q19; obtain ⟨hy21_, hz21_⟩ := Kd.R_celln 0 HO_5.out ((ji15) : Int) uO uO; have HP21 := Kd.R_putg HO_5.out ((ji15) : Int) (add64_s (add64_s t145 (rd x5_2 (ji15)) 0) x8_2 0)) | ((with_reducible refine gate_store (t := 30) (p := 68) rfl ?_); refine store_event (t := 30) (p := 68) (v := ?vo_w22) (w1 := (wr.setCell ⟨go19, ((ji15) : Int).toNat, none⟩ (.int .u64 (add64_s (add64_s t145 (rd x5_2 (ji15)) 0) x8_2 0)))) ?hg ?ho ?hn ?hr ?_; (case ho => rfl); (case hg => rfl); (case hn => rfl); (case hr => first | (go_simp; done) | (go_simp; rfl) | (obtain ⟨hy_, hz_⟩ := Kd.R_celln 0 HO_5.out ((ji15) : Int) uO uO; (try simp only [Go.IntWalk.toNatUp] at hy_ hz_); (try simp only [Int.reduceToNat, Int.toNat_zero, Int.toNat_ofNat] at hy_ hz_); first | (go_simp; done) | (go_simp; rfl))); intro w22 hw; have hg : wr.grownBy w22 (some go19) := (by rw [hw]; exact HP21.2); have hp_ : Kd.R (Kd.int .u64) 30 w22 w.heap.size (fun _ => True) (.slice (some ⟨go19, 0, none⟩) x5_2.length co20) y147 := (by rw [hw, Ny147.out]; exact HP21.1); clear HP21; replace HO_5 := Aside0.mk (hp_); replace HB := Aside0.mk ((by rw [hw]; exact below_set (HB.out) GB19.out : Below w.heap.size w w22)); clear hg hw hp_))
       first | go_roundg k2 | ((try simp only [← hji15] at H'); simp only [← hji15]; go_roundg k2) | ((try simp only [← hji3] at H'); simp only [← hji3]; go_roundg k2)
       case measure => have := HK1.out; have := HK2.out; omega
       case rel => first | exact ⟨(y147), (IntKind.u64.wrap ((IntKind.u64.wrap (t144 + (add64_c t145 (rd x5_2 (ji15)) 0))) + (add64_c (add64_s t145 (rd x5_2 (ji15)) 0) x8_2 0))), (wrap64 (x29_2 + 1)), (by first | rfl | (simp; done) | (simp only [← hji15] <;> (first | rfl | simp)) | (simp [*]; done)), uG, H', ⟨by have := HK1.out; have := HK2.out; omega⟩, ⟨uR HO_5.out⟩, ⟨uB⟩⟩ | (simp only [← hji15] at H'; exact ⟨(y147), (IntKind.u64.wrap ((IntKind.u64.wrap (t144 + (add64_c t145 (rd x5_2 (ji15)) 0))) + (add64_c (add64_s t145 (rd x5_2 (ji15)) 0) x8_2 0))), (wrap64 (x29_2 + 1)), (by first | rfl | (simp; done) | (simp only [← hji15] <;> (first | rfl | simp)) | (simp [*]; done)), uG, H', ⟨by have := HK1.out; have := HK2.out; omega⟩, ⟨uR HO_5.out⟩, ⟨uB⟩⟩) | (simp only [← hji3] at H'; exact ⟨(y147), (IntKind.u64.wrap ((IntKind.u64.wrap (t144 + (add64_c t145 (rd x5_2 (ji15)) 0))) + (add64_c (add64_s t145 (rd x5_2 (ji15)) 0) x8_2 0))), (wrap64 (x29_2 + 1)), (by first | rfl | (simp; done) | (simp only [← hji15] <;> (first | rfl | simp)) | (simp [*]; done)), uG, H', ⟨by have := HK1.out; have := HK2.out; omega⟩, ⟨uR HO_5.out⟩, ⟨uB⟩⟩)
      rw [if_neg c11] at H
      have c11b0 : decide (x29_2 < (l1.length : Int)) = false := decide_eq_false c11
      clear c11
      obtain ⟨ji23, hji23⟩ : ∃ j_ : Int, (wrap64 (x22_1 + (l1.length : Int))) = j_ := ⟨_, rfl⟩
      first | rw [hji23] at H | simp only [hji23] at H
      have hji23w : (IntKind.i64.wrap (x22_1 + (l1.length : Int))) = ji23 := (i64_w _).trans hji23
      replace H := uT H; obtain ⟨c24, H⟩ := H
      have c24b0 : decide (0 ≤ (ji23)) = true := decide_eq_true c24
      clear c24
      replace H := uT H; obtain ⟨c25, H⟩ := H
      have c25b0 : decide ((ji23) < (x5_2.length : Int)) = true := decide_eq_true c25
      clear c25
      obtain ⟨y148, hy148⟩ : ∃ y_ : List Int, y_ = (x5_2.set ((ji23) : Int).toNat x8_2) := ⟨_, rfl⟩
      replace H : (nat_school.l0 k2 l1 y148 l0 (l0.length : Int) (wrap64 (x22_1 + 1))) = some r := by first | (rw [hy148]; with_reducible exact H) | (have H2_ := (Option.bind_some _ _).symm.trans H; rw [hy148]; with_reducible exact H2_) | (have H2_ := (Option.bind_some _ _).symm.trans H; with_reducible exact H2_) | with_reducible exact H | (rw [hy148]; exact H) | exact H
      have Ny148 := Aside0.mk hy148; clear hy148
      have H' := Aside0.mk H
      clear H
      have p26 : 0 ≤ ((ji23) : Int) := uO
      have q26 : ((ji23) : Int) < ((x5_2.length : Int) : Int) := uO
      obtain ⟨go26, co26, eo26, gb26, gl26, cl26, HG26⟩ := Kd.R_form HO_5.out (by omega)
      (first | cases eo26 | (injection eo26 with ea_ en_ ec_; (first | subst ea_ | (injection ea_ with ea_; subst ea_)); subst ec_; clear en_))
      have GB26 := Aside0.mk gb26; have GG26 := Aside0.mk HG26; clear gb26 gl26 HG26
      obtain ⟨hx26_0, hf26_0⟩ := Kd.R_celln 0 HO_5.out ((ji23) : Int) p26 q26
      replace p26 := eq_true p26
      replace q26 := eq_true q26
      have HP27 := Kd.R_putg HO_5.out ((ji23) : Int) x8_2
      go_wp2_with (first | ((with_reducible refine gate_store (t := 30) (p := 76) rfl ?_); refine store_event (t := 30) (p := 76) (v := ?vo_w28) (w1 := (wr.setCell ⟨go26, ((ji23) : Int).toNat, none⟩ (.int .u64 x8_2))) ?hg ?ho ?hn ?hr ?_; (case ho => rfl); (case hg => rfl); (case hn => rfl); (case hr => first | (go_simp; done) | (go_simp; rfl) | (obtain ⟨hy_, hz_⟩ := Kd.R_celln 0 HO_5.out ((ji23) : Int) uO uO; (try simp only [Go.IntWalk.toNatUp] at hy_ hz_); (try simp only [Int.reduceToNat, Int.toNat_zero, Int.toNat_ofNat] at hy_ hz_); first | (go_simp; done) | (go_simp; rfl))); intro w28 hw; have hg : wr.grownBy w28 (some go26) := (by rw [hw]; exact HP27.2); have hp_ : Kd.R (Kd.int .u64) 30 w28 w.heap.size (fun _ => True) (.slice (some ⟨go26, 0, none⟩) x5_2.length co26) y148 := (by rw [hw, Ny148.out]; exact HP27.1); clear HP27; replace HO_5 := Aside0.mk (hp_); replace HB := Aside0.mk ((by rw [hw]; exact below_set (HB.out) GB26.out : Below w.heap.size w w28)); clear hg hw hp_))
      first | go_roundg k2 | ((try simp only [← hji23] at H'); simp only [← hji23]; go_roundg k2) | ((try simp only [← hji15] at H'); simp only [← hji15]; go_roundg k2) | ((try simp only [← hji3] at H'); simp only [← hji3]; go_roundg k2)
      case measure => have := HK1.out; have := HK2.out; omega
      case rel => first | exact ⟨(y148), (wrap64 (x22_1 + 1)), uG, H', ⟨by have := HK1.out; have := HK2.out; omega⟩, ⟨uR HO_5.out⟩, ⟨uB⟩⟩ | (simp only [← hji23] at H'; exact ⟨(y148), (wrap64 (x22_1 + 1)), uG, H', ⟨by have := HK1.out; have := HK2.out; omega⟩, ⟨uR HO_5.out⟩, ⟨uB⟩⟩) | (simp only [← hji15] at H'; exact ⟨(y148), (wrap64 (x22_1 + 1)), uG, H', ⟨by have := HK1.out; have := HK2.out; omega⟩, ⟨uR HO_5.out⟩, ⟨uB⟩⟩) | (simp only [← hji3] at H'; exact ⟨(y148), (wrap64 (x22_1 + 1)), uG, H', ⟨by have := HK1.out; have := HK2.out; omega⟩, ⟨uR HO_5.out⟩, ⟨uB⟩⟩)
   rw [if_neg c8] at H
   have c8b0 : decide (x22_1 < (l0.length : Int)) = false := decide_eq_false c8
   clear c8
   replace H := ub H; obtain ⟨t139, A29, H⟩ := H
   obtain rfl := Option.some.inj H
   obtain ⟨Ao30, co30, eo30⟩ := Kd.R_slice HO_5.out
   subst eo30
   go_wp2_with (first | ((with_reducible refine gate_callee (f := 133) rfl ?_); refine goesL_ (some 79) rfl rfl Try.func133 (by kernel_rfl) rfl #[.slice Ao30 x5_1.length co30] rfl uM ?_; (with_reducible refine (nat_trim.calls k1 (fun k_ => some k_ = (.slice Ao30 x5_1.length co30 : Value).ownBlock) (.slice Ao30 x5_1.length co30) x5_1 t139 w _ ?side1 ?side2 A29.out).mono ?_); (case side1 => repeat (first | (with_reducible first | exact HB.out | apply below_alloc | apply pw_below_drewN | apply below_drew1) | exact HB.out)); (case side2 => exact Kd.R_tight rfl HO_5.out); rintro e w31 ⟨v140, rfl, ho0, hb, hkp⟩; refine ⟨_, rfl, ?_⟩; have HO141 := Aside0.mk (Kd.R_mono (ok' := fun k_ => True) ho0 (fun k_ hk_ => trivial)); replace HB := Aside0.mk (hb); clear HO_5; (try clear hb); (try clear hkp); (try clear ho0)))
   go_ret
   exact ⟨_, by first | rfl | (simp [errW_none, errW_some] <;> rfl) | (simp only [← hji3]; first | rfl | (simp [errW_none, errW_some] <;> rfl)) | (simp [*, errW_none, errW_some] <;> rfl), uR HO141.out, uB⟩
end Go.Proofs.Ytkgaejigpmkfkaa.F
end
