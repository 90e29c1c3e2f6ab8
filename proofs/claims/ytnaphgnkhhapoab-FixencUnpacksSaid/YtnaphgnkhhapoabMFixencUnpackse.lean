/- Proved: the law FixencUnpacks of layer 7: the two that any number tells are the document's; for every input, without a condition. -/
import Derived.Test.YtnaphgnkhhapoabMFixencUnpacksd
import Derived.Laws.BitsLemmas
set_option maxHeartbeats 8000000
set_option maxRecDepth 100000
section
namespace Go.Proofs.Ytnaphgnkhhapoab.F
open Go.RowKit Go.Proofs.YtnaphgnkhhapoabW.PrintWords Go.Proofs.YtnaphgnkhhapoabW.PrintLast Go.Proofs.YtnaphgnkhhapoabW.PrintMore
attribute [local go_sem] max2_int min2_int max_two min_two max_three min_three max_four min_four
set_option linter.unusedVariables false
set_option linter.unusedSimpArgs false
def fixenc_Unpack.j0 : Nat → List Int → Int → List Int → Bool → Option (Int × Int × Int)
 | 0, _, _, _, _ => none
 | k + 1, x0, x1, x2, x28 => if x28 = true then (some (0, 0, 1)) else ((fixenc_Decode.f k x0 x2).bind fun bt468 => (if bt468.2.2 = 0 then ((modint_Of.f k 1).bind fun bt474 => ((fixenc_times2.f k bt474.1 bt474.2 x1).bind fun bt478 => ((modint_Floor.f k bt468.1 bt468.2.1 bt478.1 bt478.2).bind fun bt482 => ((modint_Small.f k bt482.1 bt482.2.1).bind fun bt493 => (if bt493.2 = true then ((modint_Small.f k bt482.2.2.1 bt482.2.2.2.1).bind fun bt495 => (some (bt493.1, bt495.1, 0))) else (some (0, 0, 12))))))) else (some (0, 0, bt468.2.2))))
def fixenc_Unpack.f (k : Nat) (l0 : List Int) (a1 : Int) (l2 : List Int) : Option (Int × Int × Int) := (fixenc_modulus_may.f k l0).bind fun t467 => (if t467 = true then (if a1 < 1 then (fixenc_Unpack.j0 k l0 a1 l2 true) else (fixenc_Unpack.j0 k l0 a1 l2 (decide (a1 > 62)))) else (fixenc_Unpack.j0 k l0 a1 l2 true))
def fixenc_Unpack.T6 : Bool × List (List Nat × List Nat) := (true, [([], []), ([], []), ([], []), ([1, 2, 1], [1, 2]), ([0, 3, 3], [0, 3]), ([4], [4]), ([5], [5]), ([5], [5]), ([5], [5]), ([], []), ([], []), ([9, 6, 4, 0, 1, 2, 3, 4, 5, 6, 9, 10], [6, 9]), ([10, 7, 11, 0, 1, 2, 3, 4, 5, 6, 7, 9, 10, 11], [7, 10]), ([8, 12, 0, 1, 2, 3, 4, 5, 6, 7, 8, 9, 10, 11, 12], [8])])
def fixenc_Unpack.B6 : List Nat := [0, 0, 0, 6, 15, 31, 63, 63, 63, 0, 0, 1663, 3839, 8191]
theorem fixenc_Unpack.tab6 : rtab .any (opsOf Try.f7 6) = fixenc_Unpack.T6 := by kernel_rfl
theorem fixenc_Unpack.bits6 : waitsOk fixenc_Unpack.T6.2 fixenc_Unpack.B6 = true := by kernel_rfl
theorem fixenc_Unpack.calls (k : Nat) (A0 : Option Addr) (c0 : Nat) (l0 : List Int) (a1 : Int) (A2 : Option Addr) (c2 : Nat) (l2 : List Int) (r1 : Int) (r2 : Int) (r3 : Int) (w : World) (hr0 : Kd.C (Kd.int .u64) w A0 l0.length l0) (hc0 : l0.length ≤ c0) (hr2 : Kd.C (Kd.int .u64) w A2 l2.length l2) (hc2 : l2.length ≤ c2) (h : fixenc_Unpack.f k l0 a1 l2 = some (r1, r2, r3)) :
  Calls Try.prog 7 #[.slice A0 l0.length c0, .int .i64 a1, .slice A2 l2.length c2] w fun e w' => e = .returned (.tuple #[.int .i64 r1, .int .i64 r2, .int .i64 r3]) ∧ Below w.heap.size w w' := by
 have hu44 := Try.underlying44
 have HR0 := Aside0.mk hr0; have HC0 := Aside0.mk hc0; clear hr0 hc0; have HR2 := Aside0.mk hr2; have HC2 := Aside0.mk hc2; clear hr2 hc2
 have HB := Aside0.mk (Below.refl w.heap.size w)
 have H : ((fixenc_modulus_may.f k l0).bind fun t467 => (if t467 = true then (if a1 < 1 then (fixenc_Unpack.j0 k l0 a1 l2 true) else (fixenc_Unpack.j0 k l0 a1 l2 (decide (a1 > 62)))) else (fixenc_Unpack.j0 k l0 a1 l2 true))) = some (r1, r2, r3) := h
 clear h; have HC4 := Aside0.mk H; clear H
 go_enter Try.func7, Try.ntmps7
 go_upto_region 1 with (fail)
 go_cut [28] (fun v28 wc => ∃ (kq : Nat) (x28_3 : Bool), v28 = .bool x28_3 ∧ Aside0 (fixenc_Unpack.j0 kq l0 a1 l2 x28_3 = some (r1, r2, r3)) ∧ Aside0 (kq ≤ k) ∧ Aside0 (Below w.heap.size w wc))
 case first =>
  have H := HC4.out
  clear HC4
  replace H := ub H; obtain ⟨t467, A5, H⟩ := H
  by_cases c6 : t467 = true
  ·
   subst c6
   have H1 : (if a1 < 1 then (fixenc_Unpack.j0 k l0 a1 l2 true) else (fixenc_Unpack.j0 k l0 a1 l2 (decide (a1 > 62)))) = some (r1, r2, r3) := by rw [if_pos rfl] at H; exact H
   clear H; have H := H1; clear H1
   by_cases c7 : a1 < 1
   ·
    rw [if_pos c7] at H
    have c7b0 := decide_eq_true c7
    clear c7
    (first | rw [c7b0] | (simp only [i64_w, i32_w]; rw [c7b0]) | skip)
    have H' := Aside0.mk H
    clear H
    go_wp2_with (first | ((with_reducible refine ug 14 rfl ?_); refine uh (some 19) rfl Try.func14 #[.slice A0 l0.length c0] ?_; (with_reducible refine (fixenc_modulus_may.calls k _ _ l0 true _ ?side1 ?side2 A5.out).mono ?_); (case side1 => exact uC (Kd.C_below HR0.out HB.out)); (case side2 => exact HC0.out); rintro e w8 ⟨rfl, hb⟩; refine ⟨_, rfl, ?_⟩; replace HB := uy hb; (try clear hb)))
    go_meet
    case rel => exact ⟨_, (true), uG, H', ⟨uW⟩, ⟨uB⟩⟩
   rw [if_neg c7] at H
   have c7b0 := decide_eq_false c7
   clear c7
   (first | rw [c7b0] | (simp only [i64_w, i32_w]; rw [c7b0]) | skip)
   have H' := Aside0.mk H
   clear H
   go_wp2_with (first | ((with_reducible refine ug 14 rfl ?_); refine uh (some 19) rfl Try.func14 #[.slice A0 l0.length c0] ?_; (with_reducible refine (fixenc_modulus_may.calls k _ _ l0 true _ ?side1 ?side2 A5.out).mono ?_); (case side1 => exact uC (Kd.C_below HR0.out HB.out)); (case side2 => exact HC0.out); rintro e w9 ⟨rfl, hb⟩; refine ⟨_, rfl, ?_⟩; replace HB := uy hb; (try clear hb)))
   go_meet
   case rel => exact ⟨_, (decide (a1 > 62)), uG, H', ⟨uW⟩, ⟨uB⟩⟩
  replace c6 := Bool.eq_false_iff.mpr c6
  subst c6
  have H1 : (fixenc_Unpack.j0 k l0 a1 l2 true) = some (r1, r2, r3) := by rw [if_neg (show ¬ (false = true) by decide)] at H; exact H
  clear H; have H := H1; clear H1
  have H' := Aside0.mk H
  clear H
  go_wp2_with (first | ((with_reducible refine ug 14 rfl ?_); refine uh (some 19) rfl Try.func14 #[.slice A0 l0.length c0] ?_; (with_reducible refine (fixenc_modulus_may.calls k _ _ l0 false _ ?side1 ?side2 A5.out).mono ?_); (case side1 => exact uC (Kd.C_below HR0.out HB.out)); (case side2 => exact HC0.out); rintro e w10 ⟨rfl, hb⟩; refine ⟨_, rfl, ?_⟩; replace HB := uy hb; (try clear hb)))
  go_meet
  case rel => exact ⟨_, (true), uG, H', ⟨uW⟩, ⟨uB⟩⟩
 case rest =>
  clear HC4
  obtain ⟨kq, x28_3, rfl, HA, HJ3, HB⟩ := hcut
  cases kq with
  | zero => exact absurd HA.out (by simp [fixenc_Unpack.j0])
  | succ kj3 =>
   have H := HA.out
   clear HA
   simp only [fixenc_Unpack.j0] at H
   by_cases c11 : x28_3 = true
   ·
    subst c11
    have H1 : (some (0, 0, 1)) = some (r1, r2, r3) := by rw [if_pos rfl] at H; exact H
    clear H; have H := H1; clear H1
    simp only [Option.some.injEq, Prod.mk.injEq] at H
    obtain ⟨rfl, rfl, rfl⟩ := H
    go_wp2
    go_ret3
    exact ⟨uF, uB⟩
   replace c11 := Bool.eq_false_iff.mpr c11
   subst c11
   have H1 : ((fixenc_Decode.f kj3 l0 l2).bind fun bt468 => (if bt468.2.2 = 0 then ((modint_Of.f kj3 1).bind fun bt474 => ((fixenc_times2.f kj3 bt474.1 bt474.2 a1).bind fun bt478 => ((modint_Floor.f kj3 bt468.1 bt468.2.1 bt478.1 bt478.2).bind fun bt482 => ((modint_Small.f kj3 bt482.1 bt482.2.1).bind fun bt493 => (if bt493.2 = true then ((modint_Small.f kj3 bt482.2.2.1 bt482.2.2.2.1).bind fun bt495 => (some (bt493.1, bt495.1, 0))) else (some (0, 0, 12))))))) else (some (0, 0, bt468.2.2)))) = some (r1, r2, r3) := by rw [if_neg (show ¬ (false = true) by decide)] at H; exact H
   clear H; have H := H1; clear H1
   replace H := ub H; obtain ⟨⟨t468, t469, t472⟩, A12, H⟩ := H
   (try dsimp only at H)
   by_cases c13 : t472 = 0
   ·
    rw [if_pos c13] at H
    have c13b0 := beq_iff_eq.mpr c13
    have c13b1 := bne_eq_false_iff_eq.mpr c13
    clear c13
    replace H := ub H; obtain ⟨⟨t474, t475⟩, A14, H⟩ := H
    (try dsimp only at H)
    replace H := ub H; obtain ⟨⟨t478, t479⟩, A15, H⟩ := H
    (try dsimp only at H)
    replace H := ub H; obtain ⟨⟨t482, t483, t486, t487, t490⟩, A16, H⟩ := H
    (try dsimp only at H)
    replace H := ub H; obtain ⟨⟨t493, t494⟩, A17, H⟩ := H
    (try dsimp only at H)
    have HS_ := Aside0.mk H; clear H
    try go_wp2_with (first | ((with_reducible refine ug 15 rfl ?_); refine uh (some 32) rfl Try.func15 #[.slice A0 l0.length c0, .slice A2 l2.length c2] ?_; (with_reducible refine (fixenc_Decode.calls kj3 _ _ l0 _ _ l2 t468 t469 t472 _ ?side1 ?side2 ?side3 ?side4 A12.out).mono ?_); (case side1 => exact uC (Kd.C_below HR0.out HB.out)); (case side2 => exact HC0.out); (case side3 => exact uC (Kd.C_below HR2.out HB.out)); (case side4 => exact HC2.out); rintro e w20 ⟨v470, rfl, ho0, hb⟩; refine ⟨_, rfl, ?_⟩; have HO471 := ulo ho0; replace HB := uy hb; (try clear hb ho0)) | ((with_reducible refine gate_dst (N := 9) rfl ?_); refine ubx 9 #[.bool false, .slice none 0 0] 44 rfl rfl ?_; intro gb473 hg w21 hbox hb; replace HO471 := urb HO471 hb; have BK473 := Aside0.mk (hbox); have GW473 := us hg; have GE473 := us hg; replace HB := uy hb; clear hb hbox hg; obtain ⟨hcz22_0, hcz22_1, hfz22_0, hfz22_1⟩ := uz2 w21 BK473; obtain ⟨Ao23, co23, eo23⟩ := Kd.R_slice HO471.out; subst eo23))
    have n0_ : Aside0 (Kd.R (Kd.int .u64) 42 ((w21.setCell ⟨gb473, 0, none⟩ (.bool t468)).setCell ⟨gb473, 1, none⟩ (.slice Ao23 t469.length co23)) w.heap.size (fun _ => True) (.slice Ao23 t469.length co23) t469) := ⟨by exact uR (Kd.R_mono (Kd.R_far (p := ⟨gb473, 1, none⟩) (Kd.R_far (p := ⟨gb473, 0, none⟩) (Kd.R_types HO471.out BK473.out (by decide)) (fun _ hk => hk.2) (.bool t468)) (fun _ hk => hk.2) (.slice Ao23 t469.length co23)) (fun _ hk => trivial))⟩
    have n1_ : Aside0 (((w21.setCell ⟨gb473, 0, none⟩ (.bool t468)).setCell ⟨gb473, 1, none⟩ (.slice Ao23 t469.length co23)).heap[gb473]? = some (.cells #[.bool t468, .slice Ao23 t469.length co23] 44 (0, 0))) := ⟨by refine blk_put (cs := #[.bool t468, .slice none 0 0]) ?_ 1 _ rfl; refine blk_put (cs := #[.bool false, .slice none 0 0]) ?_ 0 _ rfl; exact uK BK473.out⟩
    have n2_ : Aside0 (Below w.heap.size w ((w21.setCell ⟨gb473, 0, none⟩ (.bool t468)).setCell ⟨gb473, 1, none⟩ (.slice Ao23 t469.length co23))) := ⟨uB⟩
    (try clear HO471); (try clear BK473); (try clear HB)
    generalize ((w21.setCell ⟨gb473, 0, none⟩ (.bool t468)).setCell ⟨gb473, 1, none⟩ (.slice Ao23 t469.length co23)) = w24 at n0_ n1_ n2_ ⊢
    have HO471 := n0_; have BK473 := n1_; have HB := n2_; clear n0_ n1_ n2_; replace HO471 := Aside0.mk (Kd.R_drew HO471.out); replace BK473 := Aside0.mk (blk_drew BK473.out); replace HB := Aside0.mk (below_drew1 HB.out)
    refine start_ (n := 14) (S := fun w' => w'.cell? ⟨gb473, 0, none⟩ = some (.bool t468) ∧ w'.cell? ⟨gb473, 1, none⟩ = some (.slice Ao23 t469.length co23)) (ds := []) (.replicate 14 false) (by kernel_rfl) rfl rfl ⟨(blk_cell BK473.out 0).trans rfl, (blk_cell BK473.out 1).trans rfl⟩ (fun hHeld => ?_); refine with_tabW fixenc_Unpack.tab6 fixenc_Unpack.bits6 (fun HT_ HW_ => ?_)
    generalize w24.drew = w25 at HO471 BK473 HB hHeld ⊢
    refine upu 2 (some 41) (uA 14 4) rfl rfl HT_ ?_
    refine take_ (i := 0) (N := some 39) (v := ?_) (a' := ?_) (uA 14 5) rfl rfl (take_ofW HT_.out HW_.out (by kernel_rfl)) (fun _ _ _ h => h) (Or.inl ⟨by rfl, ?_⟩) hHeld ?_ ?_
    rotate_left
    ·
     rintro w' ⟨s0, s1⟩
     go_simp
     with_reducible rfl
    rotate_left
    · exact uQ
    refine join_ (σ := Value × Value × Value × Value × Nat × Nat) 3 (uA 14 2047) (fun s_ => [(40, .agg #[.bool t474, s_.1]), (42, .agg #[.bool t478, s_.2.1]), (43, .tuple #[.agg #[.bool t482, s_.2.2.1], .agg #[.bool t486, s_.2.2.2.1], .int .i64 t490]), (11, .pointer (some ⟨s_.2.2.2.2.1, 0, none⟩)), (12, .pointer (some ⟨s_.2.2.2.2.2, 0, none⟩)), (38, .tuple #[.agg #[.bool t482, s_.2.2.1], .agg #[.bool t486, s_.2.2.2.1], .int .i64 t490]), (44, .agg #[.bool t482, s_.2.2.1]), (45, .agg #[.bool t486, s_.2.2.2.1]), (46, .int .i64 t490)]) (fun s_ w' => (w'.cell? ⟨gb473, 0, none⟩ = some (.bool t468) ∧ w'.cell? ⟨gb473, 1, none⟩ = some (.slice Ao23 t469.length co23)) ∧ (Kd.R (Kd.int .u64) 42 w' w.heap.size (fun k_ => some k_ ≠ (s_.1 : Value).ownBlock ∧ some k_ ≠ (s_.2.1 : Value).ownBlock ∧ some k_ ≠ (s_.2.2.1 : Value).ownBlock ∧ some k_ ≠ (s_.2.2.2.1 : Value).ownBlock) (.slice Ao23 t469.length co23) t469) ∧ (Kd.R (Kd.int .u64) 42 w' w.heap.size (fun k_ => some k_ ≠ (.slice Ao23 t469.length co23 : Value).ownBlock ∧ some k_ ≠ (s_.2.1 : Value).ownBlock ∧ some k_ ≠ (s_.2.2.1 : Value).ownBlock ∧ some k_ ≠ (s_.2.2.2.1 : Value).ownBlock) s_.1 t475) ∧ (Kd.R (Kd.int .u64) 42 w' w.heap.size (fun k_ => some k_ ≠ (.slice Ao23 t469.length co23 : Value).ownBlock ∧ some k_ ≠ (s_.1 : Value).ownBlock ∧ some k_ ≠ (s_.2.2.1 : Value).ownBlock ∧ some k_ ≠ (s_.2.2.2.1 : Value).ownBlock) s_.2.1 t479) ∧ (Kd.R (Kd.int .u64) 42 w' w.heap.size (fun k_ => some k_ ≠ (.slice Ao23 t469.length co23 : Value).ownBlock ∧ some k_ ≠ (s_.1 : Value).ownBlock ∧ some k_ ≠ (s_.2.1 : Value).ownBlock ∧ some k_ ≠ (s_.2.2.2.1 : Value).ownBlock) s_.2.2.1 t483) ∧ (Kd.R (Kd.int .u64) 42 w' w.heap.size (fun k_ => some k_ ≠ (.slice Ao23 t469.length co23 : Value).ownBlock ∧ some k_ ≠ (s_.1 : Value).ownBlock ∧ some k_ ≠ (s_.2.1 : Value).ownBlock ∧ some k_ ≠ (s_.2.2.1 : Value).ownBlock) s_.2.2.2.1 t487) ∧ (w'.heap[gb473]? = some (.cells #[.bool t468, .slice Ao23 t469.length co23] 44 (0, 0))) ∧ (w'.heap[s_.2.2.2.2.1]? = some (.cells #[.bool false, .slice none 0 0] 44 (0, 0))) ∧ (w'.heap[s_.2.2.2.2.2]? = some (.cells #[.bool false, .slice none 0 0] 44 (0, 0))) ∧ (w.heap.size ≤ s_.2.2.2.2.1) ∧ (w.heap.size ≤ s_.2.2.2.2.1) ∧ (gb473 ≠ s_.2.2.2.2.1) ∧ (s_.2.2.2.2.1 ≠ gb473) ∧ (s_.2.2.2.2.2 ≠ s_.2.2.2.2.1) ∧ (s_.2.2.2.2.1 ≠ s_.2.2.2.2.2) ∧ (w.heap.size ≤ s_.2.2.2.2.2) ∧ (w.heap.size ≤ s_.2.2.2.2.2) ∧ (gb473 ≠ s_.2.2.2.2.2) ∧ (s_.2.2.2.2.2 ≠ gb473) ∧ (Below w.heap.size w w')) ?_ ?_
    rotate_left
    ·
     intro hJ1_3_4_9_10
     have HBF_ := Aside0.mk (below_size HB.out)
     have LTgb473 := Aside0.mk (blk_lt BK473.out)
     refine frees_ [⟨9, 11, .cells #[.bool false, .slice none 0 0] 44 (0, 0), fun g_ => .pointer (some ⟨g_, 0, none⟩)⟩, ⟨10, 12, .cells #[.bool false, .slice none 0 0] 44 (0, 0), fun g_ => .pointer (some ⟨g_, 0, none⟩)⟩] 10 ?_ hHeld ?_
     ·
      refine List.forall_mem_cons.2 ⟨frok_ rfl rfl (fun _ _ h_ => by cases h_) rfl ?_, List.forall_mem_cons.2 ⟨frok_ rfl rfl (fun _ _ h_ => by cases h_) rfl ?_, fun _ h_ => by cases h_⟩⟩
      all_goals (intro w_; first | (go_simp; done) | (go_simp; rfl))
     refine joinF_ (σ := Value) 9 (uA 14 7) (fun s_ => [(40, .agg #[.bool t474, s_])]) (fun s_ w' => (w'.cell? ⟨gb473, 0, none⟩ = some (.bool t468) ∧ w'.cell? ⟨gb473, 1, none⟩ = some (.slice Ao23 t469.length co23)) ∧ (Kd.R (Kd.int .u64) 42 w' w.heap.size (fun k_ => some k_ ≠ (s_ : Value).ownBlock) (.slice Ao23 t469.length co23) t469) ∧ (Kd.R (Kd.int .u64) 42 w' w.heap.size (fun k_ => some k_ ≠ (.slice Ao23 t469.length co23 : Value).ownBlock) s_ t475) ∧ (w'.heap[gb473]? = some (.cells #[.bool t468, .slice Ao23 t469.length co23] 44 (0, 0))) ∧ (Below w.heap.size w w')) ?_ ?_
     rotate_left
     ·
      intro hJ1
      refine core_ (c := 1) (N := some 40) (uA 14 7) rfl rfl (coreF_of HT_.out (by kernel_rfl)) (fun _ _ _ _ _ h => h) (fun _ o_ h_ => ⟨cellA h_.1 o_, cellA h_.2 o_⟩) (fun wB_ hBw_ hHeld K hK => ?_)
      (try replace HO471 := Aside0.mk (Kd.R_below HO471.out hBw_))
      (try replace HO477 := Aside0.mk (Kd.R_below HO477.out hBw_))
      (try replace HO481 := Aside0.mk (Kd.R_below HO481.out hBw_))
      (try replace HO485 := Aside0.mk (Kd.R_below HO485.out hBw_))
      (try replace HO489 := Aside0.mk (Kd.R_below HO489.out hBw_))
      (try replace BK473 := Aside0.mk (blk_below BK473.out hBw_))
      (try replace BK491 := Aside0.mk (blk_below BK491.out hBw_))
      (try replace BK492 := Aside0.mk (blk_below BK492.out hBw_))
      (try replace HB := Aside0.mk (below_step HB.out hBw_))
      refine goes_ Try.func18 (by kernel_rfl) rfl #[.int .i64 1] (by rfl) rfl rfl uM ?_
      with_reducible refine (modint_Of.calls kj3 1 t474 t475 _ A14.out).mono ?_
      rintro e w26 ⟨v476, rfl, ho0, hb⟩
      refine ⟨_, rfl, ?_⟩; have HBK_ := Aside0.mk hb; have HO477 := ulo (unw ho0 HO471); replace HO471 := ueR HO471 ho0 hb; replace BK473 := ux BK473 hb; replace HB := uy hb; (try clear hb ho0); refine hK.out _ _ ⟨(blk_cell BK473.out 0).trans rfl, (blk_cell BK473.out 1).trans rfl⟩ HBK_.out (fun hHeld => ?_); clear hK K HBK_
      refine normF_ (a' := ?_) ?_ ?_
      rotate_left
      · exact (show Act.put _ (some 40) _ = _ from uQ)
      exact normF_ uP (hJ1 (v476) _ ⟨hHeld, (uR (Kd.R_mono HO471.out (fun _ hk => hk.2))), (uR (Kd.R_mono HO477.out (fun _ hk => hk.2))), (uK BK473.out), uB⟩)
     rintro v476 w27 ⟨hS_, h0_, h1_, h2_, h3_⟩
     replace HO471 : Aside0 (Kd.R (Kd.int .u64) 42 w27 w.heap.size (fun k_ => some k_ ≠ (v476 : Value).ownBlock) (.slice Ao23 t469.length co23) t469) := ⟨h0_⟩; have HO477 : Aside0 (Kd.R (Kd.int .u64) 42 w27 w.heap.size (fun k_ => some k_ ≠ (.slice Ao23 t469.length co23 : Value).ownBlock) v476 t475) := ⟨h1_⟩; replace BK473 : Aside0 (w27.heap[gb473]? = some (.cells #[.bool t468, .slice Ao23 t469.length co23] 44 (0, 0))) := ⟨h2_⟩; replace HB : Aside0 (Below w.heap.size w w27) := ⟨h3_⟩; clear h0_ h1_ h2_ h3_
     have hHeld : w27.cell? ⟨gb473, 0, none⟩ = some (.bool t468) ∧ w27.cell? ⟨gb473, 1, none⟩ = some (.slice Ao23 t469.length co23) := hS_
     obtain ⟨Ao28, co28, eo28⟩ := Kd.R_slice HO477.out
     (first | subst eo28 | (injection eo28 with f1_ f2_ f3_; have f4_ := f1_.symm; have f5_ := f3_.symm; clear f1_ f2_ f3_; subst f4_; subst f5_))
     refine normF_ (a' := ?_) ?_ ?_
     rotate_left
     ·
      simp only [putAll, Act.put, List.setIfInBounds_toArray, List.set_cons_zero, List.set_cons_succ]
      rfl
     refine joinF_ (σ := Value × Value) 8 (uA 14 15) (fun s_ => [(40, .agg #[.bool t474, s_.1]), (42, .agg #[.bool t478, s_.2])]) (fun s_ w' => (w'.cell? ⟨gb473, 0, none⟩ = some (.bool t468) ∧ w'.cell? ⟨gb473, 1, none⟩ = some (.slice Ao23 t469.length co23)) ∧ (Kd.R (Kd.int .u64) 42 w' w.heap.size (fun k_ => some k_ ≠ (s_.1 : Value).ownBlock ∧ some k_ ≠ (s_.2 : Value).ownBlock) (.slice Ao23 t469.length co23) t469) ∧ (Kd.R (Kd.int .u64) 42 w' w.heap.size (fun k_ => some k_ ≠ (.slice Ao23 t469.length co23 : Value).ownBlock ∧ some k_ ≠ (s_.2 : Value).ownBlock) s_.1 t475) ∧ (Kd.R (Kd.int .u64) 42 w' w.heap.size (fun k_ => some k_ ≠ (.slice Ao23 t469.length co23 : Value).ownBlock ∧ some k_ ≠ (s_.1 : Value).ownBlock) s_.2 t479) ∧ (w'.heap[gb473]? = some (.cells #[.bool t468, .slice Ao23 t469.length co23] 44 (0, 0))) ∧ (Below w.heap.size w w')) ?_ ?_
     rotate_left
     ·
      intro hJ1_3
      refine core_ (c := 3) (N := some 42) (uA 14 15) rfl rfl (coreF_of HT_.out (by kernel_rfl)) (fun _ _ _ _ _ h => h) (fun _ o_ h_ => ⟨cellA h_.1 o_, cellA h_.2 o_⟩) (fun wB_ hBw_ hHeld K hK => ?_)
      (try replace HO471 := Aside0.mk (Kd.R_below HO471.out hBw_))
      (try replace HO477 := Aside0.mk (Kd.R_below HO477.out hBw_))
      (try replace HO481 := Aside0.mk (Kd.R_below HO481.out hBw_))
      (try replace HO485 := Aside0.mk (Kd.R_below HO485.out hBw_))
      (try replace HO489 := Aside0.mk (Kd.R_below HO489.out hBw_))
      (try replace BK473 := Aside0.mk (blk_below BK473.out hBw_))
      (try replace BK491 := Aside0.mk (blk_below BK491.out hBw_))
      (try replace BK492 := Aside0.mk (blk_below BK492.out hBw_))
      (try replace HB := Aside0.mk (below_step HB.out hBw_))
      refine goes_ Try.func17 (by kernel_rfl) rfl #[.agg #[.bool t474, .slice Ao28 t475.length co28], .int .i64 a1] (by rfl) rfl rfl uM ?_
      with_reducible refine (fixenc_times2.calls kj3 t474 _ _ t475 a1 t478 t479 _ ?side1 ?side2 A15.out).mono ?_
      (case side1 => exact uC (Kd.R_reads' HO477.out).2.2)
      (case side2 => exact (Kd.R_reads' HO477.out).2.1)
      rintro e w29 ⟨v480, rfl, ho0, hb⟩
      refine ⟨_, rfl, ?_⟩; have HBK_ := Aside0.mk hb; have HO481 := ulo (unw (unw ho0 HO471) HO477); replace HO471 := ueR HO471 ho0 hb; replace HO477 := ueR HO477 ho0 hb; replace BK473 := ux BK473 hb; replace HB := uy hb; (try clear hb ho0); refine hK.out _ _ ⟨(blk_cell BK473.out 0).trans rfl, (blk_cell BK473.out 1).trans rfl⟩ HBK_.out (fun hHeld => ?_); clear hK K HBK_
      refine normF_ (a' := ?_) ?_ ?_
      rotate_left
      · exact (show Act.put _ (some 42) _ = _ from uQ)
      exact normF_ uP (hJ1_3 (.slice Ao28 t475.length co28, v480) _ ⟨hHeld, (uR HO471.out), (uR HO477.out), (uR (Kd.R_mono HO481.out (fun _ hk => ⟨hk.1.2, hk.2⟩))), (uK BK473.out), uB⟩)
     rintro ⟨v476, v480⟩ w29 ⟨hS_, h0_, h1_, h2_, h3_, h4_⟩
     replace HO471 : Aside0 (Kd.R (Kd.int .u64) 42 w29 w.heap.size (fun k_ => some k_ ≠ (v476 : Value).ownBlock ∧ some k_ ≠ (v480 : Value).ownBlock) (.slice Ao23 t469.length co23) t469) := ⟨h0_⟩; have HO477 : Aside0 (Kd.R (Kd.int .u64) 42 w29 w.heap.size (fun k_ => some k_ ≠ (.slice Ao23 t469.length co23 : Value).ownBlock ∧ some k_ ≠ (v480 : Value).ownBlock) v476 t475) := ⟨h1_⟩; have HO481 : Aside0 (Kd.R (Kd.int .u64) 42 w29 w.heap.size (fun k_ => some k_ ≠ (.slice Ao23 t469.length co23 : Value).ownBlock ∧ some k_ ≠ (v476 : Value).ownBlock) v480 t479) := ⟨h2_⟩; replace BK473 : Aside0 (w29.heap[gb473]? = some (.cells #[.bool t468, .slice Ao23 t469.length co23] 44 (0, 0))) := ⟨h3_⟩; replace HB : Aside0 (Below w.heap.size w w29) := ⟨h4_⟩; clear h0_ h1_ h2_ h3_ h4_
     have hHeld : w29.cell? ⟨gb473, 0, none⟩ = some (.bool t468) ∧ w29.cell? ⟨gb473, 1, none⟩ = some (.slice Ao23 t469.length co23) := hS_
     obtain ⟨Ao30, co30, eo30⟩ := Kd.R_slice HO481.out
     (first | subst eo30 | (injection eo30 with f1_ f2_ f3_; have f4_ := f1_.symm; have f5_ := f3_.symm; clear f1_ f2_ f3_; subst f4_; subst f5_))
     refine normF_ (a' := ?_) ?_ ?_
     rotate_left
     ·
      simp only [putAll, Act.put, List.setIfInBounds_toArray, List.set_cons_zero, List.set_cons_succ]
      rfl
     refine joinF_ (σ := Value × Value × Value × Value) 3 (uA 14 511) (fun s_ => [(40, .agg #[.bool t474, s_.1]), (42, .agg #[.bool t478, s_.2.1]), (43, .tuple #[.agg #[.bool t482, s_.2.2.1], .agg #[.bool t486, s_.2.2.2], .int .i64 t490]), (38, .tuple #[.agg #[.bool t482, s_.2.2.1], .agg #[.bool t486, s_.2.2.2], .int .i64 t490]), (44, .agg #[.bool t482, s_.2.2.1]), (45, .agg #[.bool t486, s_.2.2.2]), (46, .int .i64 t490)]) (fun s_ w' => (w'.cell? ⟨gb473, 0, none⟩ = some (.bool t468) ∧ w'.cell? ⟨gb473, 1, none⟩ = some (.slice Ao23 t469.length co23)) ∧ (Kd.R (Kd.int .u64) 42 w' w.heap.size (fun k_ => some k_ ≠ (s_.1 : Value).ownBlock ∧ some k_ ≠ (s_.2.1 : Value).ownBlock ∧ some k_ ≠ (s_.2.2.1 : Value).ownBlock ∧ some k_ ≠ (s_.2.2.2 : Value).ownBlock) (.slice Ao23 t469.length co23) t469) ∧ (Kd.R (Kd.int .u64) 42 w' w.heap.size (fun k_ => some k_ ≠ (.slice Ao23 t469.length co23 : Value).ownBlock ∧ some k_ ≠ (s_.2.1 : Value).ownBlock ∧ some k_ ≠ (s_.2.2.1 : Value).ownBlock ∧ some k_ ≠ (s_.2.2.2 : Value).ownBlock) s_.1 t475) ∧ (Kd.R (Kd.int .u64) 42 w' w.heap.size (fun k_ => some k_ ≠ (.slice Ao23 t469.length co23 : Value).ownBlock ∧ some k_ ≠ (s_.1 : Value).ownBlock ∧ some k_ ≠ (s_.2.2.1 : Value).ownBlock ∧ some k_ ≠ (s_.2.2.2 : Value).ownBlock) s_.2.1 t479) ∧ (Kd.R (Kd.int .u64) 42 w' w.heap.size (fun k_ => some k_ ≠ (.slice Ao23 t469.length co23 : Value).ownBlock ∧ some k_ ≠ (s_.1 : Value).ownBlock ∧ some k_ ≠ (s_.2.1 : Value).ownBlock ∧ some k_ ≠ (s_.2.2.2 : Value).ownBlock) s_.2.2.1 t483) ∧ (Kd.R (Kd.int .u64) 42 w' w.heap.size (fun k_ => some k_ ≠ (.slice Ao23 t469.length co23 : Value).ownBlock ∧ some k_ ≠ (s_.1 : Value).ownBlock ∧ some k_ ≠ (s_.2.1 : Value).ownBlock ∧ some k_ ≠ (s_.2.2.1 : Value).ownBlock) s_.2.2.2 t487) ∧ (w'.heap[gb473]? = some (.cells #[.bool t468, .slice Ao23 t469.length co23] 44 (0, 0))) ∧ (Below w.heap.size w w')) ?_ ?_
     rotate_left
     ·
      intro hJ1_3_4
      refine core_ (c := 4) (N := some 43) (uA 14 31) rfl rfl (coreF_of HT_.out (by kernel_rfl)) (fun _ _ _ _ _ h => h) (fun _ o_ h_ => ⟨cellA h_.1 o_, cellA h_.2 o_⟩) (fun wB_ hBw_ hHeld K hK => ?_)
      (try replace HO471 := Aside0.mk (Kd.R_below HO471.out hBw_))
      (try replace HO477 := Aside0.mk (Kd.R_below HO477.out hBw_))
      (try replace HO481 := Aside0.mk (Kd.R_below HO481.out hBw_))
      (try replace HO485 := Aside0.mk (Kd.R_below HO485.out hBw_))
      (try replace HO489 := Aside0.mk (Kd.R_below HO489.out hBw_))
      (try replace BK473 := Aside0.mk (blk_below BK473.out hBw_))
      (try replace BK491 := Aside0.mk (blk_below BK491.out hBw_))
      (try replace BK492 := Aside0.mk (blk_below BK492.out hBw_))
      (try replace HB := Aside0.mk (below_step HB.out hBw_))
      refine goes_ Try.func16 (by kernel_rfl) rfl #[.agg #[.bool t468, .slice Ao23 t469.length co23], .agg #[.bool t478, .slice Ao30 t479.length co30]] (by rfl) rfl rfl uM ?_
      with_reducible refine (modint_Floor.calls kj3 t468 (fun k_ => some k_ = (.slice Ao23 t469.length co23 : Value).ownBlock) _ _ t469 t478 (fun k_ => some k_ = (.slice Ao30 t479.length co30 : Value).ownBlock) _ _ t479 t482 t483 t486 t487 t490 _ ?side1 ?side2 A16.out).mono ?_
      (case side1 => exact Kd.R_V (Kd.R_tight rfl (Kd.R_types (HO471.out) BK473.out (by decide))))
      (case side2 => exact Kd.R_V (Kd.R_tight rfl (Kd.R_types (HO481.out) BK473.out (by decide))))
      rintro e w31 ⟨v484, v488, rfl, ho0, ho1, hb⟩
      refine ⟨_, rfl, ?_⟩; have HBK_ := Aside0.mk hb; have HO485 := ulo (unw (unw (unw (Kd.R_mono (ok' := fun k_ => some k_ ≠ (v488 : Value).ownBlock) ho0 (fun _ hk_ => hk_.2)) HO471) HO477) HO481); have HO489 := ulo (unw (unw (unw (Kd.R_mono (ok' := fun k_ => some k_ ≠ (v484 : Value).ownBlock) ho1 (fun _ hk_ => hk_.2)) HO471) HO477) HO481); replace HO471 := Aside0.mk (Kd.R_mono (Kd.R_told (Kd.R_told (Kd.R_old (uR HO471.out) hb) (Kd.R_base ho0)) (Kd.R_base ho1)) (fun _ h_ => h_.1)); replace HO477 := Aside0.mk (Kd.R_mono (Kd.R_told (Kd.R_told (Kd.R_old (uR HO477.out) hb) (Kd.R_base ho0)) (Kd.R_base ho1)) (fun _ h_ => h_.1)); replace HO481 := Aside0.mk (Kd.R_mono (Kd.R_told (Kd.R_told (Kd.R_old (uR HO481.out) hb) (Kd.R_base ho0)) (Kd.R_base ho1)) (fun _ h_ => h_.1)); replace BK473 := ux BK473 hb; replace HB := uy hb; (try clear hb ho0 ho1); refine hK.out _ _ ⟨(blk_cell BK473.out 0).trans rfl, (blk_cell BK473.out 1).trans rfl⟩ HBK_.out (fun hHeld => ?_); clear hK K HBK_
      refine normF_ (a' := ?_) ?_ ?_
      rotate_left
      · exact (show Act.put _ (some 43) _ = _ from uQ)
      refine pureF_ (i := 5) (N := some 38) (v := ?_) (a' := ?_) (uA 14 63) rfl rfl (pureF_of HT_.out (by kernel_rfl)) (fun _ _ _ h => h) (Or.inl ⟨by rfl, ?_⟩) ?_ ?_
      rotate_left
      ·
       intro w'
       go_simp
       with_reducible rfl
      rotate_left
      · exact uQ
      refine pureF_ (i := 6) (N := some 44) (v := ?_) (a' := ?_) (uA 14 127) rfl rfl (pureF_of HT_.out (by kernel_rfl)) (fun _ _ _ h => h) (Or.inl ⟨by rfl, ?_⟩) ?_ ?_
      rotate_left
      ·
       intro w'
       go_simp
       with_reducible rfl
      rotate_left
      · exact uQ
      refine pureF_ (i := 7) (N := some 45) (v := ?_) (a' := ?_) (uA 14 255) rfl rfl (pureF_of HT_.out (by kernel_rfl)) (fun _ _ _ h => h) (Or.inl ⟨by rfl, ?_⟩) ?_ ?_
      rotate_left
      ·
       intro w'
       go_simp
       with_reducible rfl
      rotate_left
      · exact uQ
      refine pureF_ (i := 8) (N := some 46) (v := ?_) (a' := ?_) (uA 14 511) rfl rfl (pureF_of HT_.out (by kernel_rfl)) (fun _ _ _ h => h) (Or.inl ⟨by rfl, ?_⟩) ?_ ?_
      rotate_left
      ·
       intro w'
       go_simp
       with_reducible rfl
      rotate_left
      · exact uQ
      exact normF_ uP (hJ1_3_4 (v476, .slice Ao30 t479.length co30, v484, v488) _ ⟨hHeld, (uR (Kd.R_mono HO471.out (fun _ hk => ⟨hk.1.1.1, ⟨hk.1.1.2, ⟨hk.1.2, hk.2⟩⟩⟩))), (uR (Kd.R_mono HO477.out (fun _ hk => ⟨hk.1.1.1, ⟨hk.1.1.2, ⟨hk.1.2, hk.2⟩⟩⟩))), (uR (Kd.R_mono HO481.out (fun _ hk => ⟨hk.1.1.1, ⟨hk.1.1.2, ⟨hk.1.2, hk.2⟩⟩⟩))), (uR (Kd.R_mono HO485.out (fun _ hk => ⟨hk.1.1.2, ⟨hk.1.2, ⟨hk.2, hk.1.1.1⟩⟩⟩))), (uR (Kd.R_mono HO489.out (fun _ hk => ⟨hk.1.1.2, ⟨hk.1.2, ⟨hk.2, hk.1.1.1⟩⟩⟩))), (uK BK473.out), uB⟩)
     rintro ⟨v476, v480, v484, v488⟩ w31 ⟨hS_, h0_, h1_, h2_, h3_, h4_, h5_, h6_⟩
     replace HO471 : Aside0 (Kd.R (Kd.int .u64) 42 w31 w.heap.size (fun k_ => some k_ ≠ (v476 : Value).ownBlock ∧ some k_ ≠ (v480 : Value).ownBlock ∧ some k_ ≠ (v484 : Value).ownBlock ∧ some k_ ≠ (v488 : Value).ownBlock) (.slice Ao23 t469.length co23) t469) := ⟨h0_⟩; have HO477 : Aside0 (Kd.R (Kd.int .u64) 42 w31 w.heap.size (fun k_ => some k_ ≠ (.slice Ao23 t469.length co23 : Value).ownBlock ∧ some k_ ≠ (v480 : Value).ownBlock ∧ some k_ ≠ (v484 : Value).ownBlock ∧ some k_ ≠ (v488 : Value).ownBlock) v476 t475) := ⟨h1_⟩; have HO481 : Aside0 (Kd.R (Kd.int .u64) 42 w31 w.heap.size (fun k_ => some k_ ≠ (.slice Ao23 t469.length co23 : Value).ownBlock ∧ some k_ ≠ (v476 : Value).ownBlock ∧ some k_ ≠ (v484 : Value).ownBlock ∧ some k_ ≠ (v488 : Value).ownBlock) v480 t479) := ⟨h2_⟩; have HO485 : Aside0 (Kd.R (Kd.int .u64) 42 w31 w.heap.size (fun k_ => some k_ ≠ (.slice Ao23 t469.length co23 : Value).ownBlock ∧ some k_ ≠ (v476 : Value).ownBlock ∧ some k_ ≠ (v480 : Value).ownBlock ∧ some k_ ≠ (v488 : Value).ownBlock) v484 t483) := ⟨h3_⟩; have HO489 : Aside0 (Kd.R (Kd.int .u64) 42 w31 w.heap.size (fun k_ => some k_ ≠ (.slice Ao23 t469.length co23 : Value).ownBlock ∧ some k_ ≠ (v476 : Value).ownBlock ∧ some k_ ≠ (v480 : Value).ownBlock ∧ some k_ ≠ (v484 : Value).ownBlock) v488 t487) := ⟨h4_⟩; replace BK473 : Aside0 (w31.heap[gb473]? = some (.cells #[.bool t468, .slice Ao23 t469.length co23] 44 (0, 0))) := ⟨h5_⟩; replace HB : Aside0 (Below w.heap.size w w31) := ⟨h6_⟩; clear h0_ h1_ h2_ h3_ h4_ h5_ h6_
     have hHeld : w31.cell? ⟨gb473, 0, none⟩ = some (.bool t468) ∧ w31.cell? ⟨gb473, 1, none⟩ = some (.slice Ao23 t469.length co23) := hS_
     refine normF_ (a' := ?_) ?_ ?_
     rotate_left
     ·
      simp only [putAll, Act.put, List.setIfInBounds_toArray, List.set_cons_zero, List.set_cons_succ]
      rfl
     refine free_ (uA 14 2047) (endF_of HT_.out (by kernel_rfl)) (fun _ o_ h_ => ⟨cellA h_.1 o_, cellA h_.2 o_⟩) (fun gs_ wF_ hl_ hBw_ hHeld hH_ => ?_)
     obtain ⟨gb491, gb492, rfl⟩ := len2 hl_
     (try replace HO471 := Aside0.mk (Kd.R_below HO471.out hBw_))
     (try replace HO477 := Aside0.mk (Kd.R_below HO477.out hBw_))
     (try replace HO481 := Aside0.mk (Kd.R_below HO481.out hBw_))
     (try replace HO485 := Aside0.mk (Kd.R_below HO485.out hBw_))
     (try replace HO489 := Aside0.mk (Kd.R_below HO489.out hBw_))
     (try replace BK473 := Aside0.mk (blk_below BK473.out hBw_))
     (try replace BK491 := Aside0.mk (blk_below BK491.out hBw_))
     (try replace BK492 := Aside0.mk (blk_below BK492.out hBw_))
     (try replace HB := Aside0.mk (below_step HB.out hBw_))
     have BK491 := Aside0.mk (show wF_.heap[gb491]? = some (.cells #[.bool false, .slice none 0 0] 44 (0, 0)) from (hH_.at 0 rfl rfl).1)
     have GW491 := Aside0.mk (Nat.le_trans HBF_.out (hH_.at 0 rfl rfl).2)
     have GE491 := Aside0.mk (Nat.le_trans HBF_.out (hH_.at 0 rfl rfl).2)
     have NB473_491 := Aside0.mk (Nat.ne_of_lt (Nat.lt_of_lt_of_le LTgb473.out (hH_.at 0 rfl rfl).2))
     have NB491_473 := Aside0.mk (Nat.ne_of_gt (Nat.lt_of_lt_of_le LTgb473.out (hH_.at 0 rfl rfl).2))
     have NB492_491 := Aside0.mk (hH_.ne 1 0 rfl rfl (by decide))
     have NB491_492 := Aside0.mk (hH_.ne 0 1 rfl rfl (by decide))
     have BK492 := Aside0.mk (show wF_.heap[gb492]? = some (.cells #[.bool false, .slice none 0 0] 44 (0, 0)) from (hH_.at 1 rfl rfl).1)
     have GW492 := Aside0.mk (Nat.le_trans HBF_.out (hH_.at 1 rfl rfl).2)
     have GE492 := Aside0.mk (Nat.le_trans HBF_.out (hH_.at 1 rfl rfl).2)
     have NB473_492 := Aside0.mk (Nat.ne_of_lt (Nat.lt_of_lt_of_le LTgb473.out (hH_.at 1 rfl rfl).2))
     have NB492_473 := Aside0.mk (Nat.ne_of_gt (Nat.lt_of_lt_of_le LTgb473.out (hH_.at 1 rfl rfl).2))
     have NB491_492 := Aside0.mk (hH_.ne 0 1 rfl rfl (by decide))
     have NB492_491 := Aside0.mk (hH_.ne 1 0 rfl rfl (by decide))
     exact norm_ uPF (hJ1_3_4_9_10 (v476, v480, v484, v488, gb491, gb492) _ ⟨hHeld, (uR HO471.out), (uR HO477.out), (uR HO481.out), (uR HO485.out), (uR HO489.out), (uK BK473.out), (uK BK491.out), (uK BK492.out), GW491.out, GE491.out, NB473_491.out, NB491_473.out, NB492_491.out, NB491_492.out, GW492.out, GE492.out, NB473_492.out, NB492_473.out, uB⟩)
    rintro ⟨v476, v480, v484, v488, gb491, gb492⟩ w33 ⟨hS_, h0_, h1_, h2_, h3_, h4_, h5_, h6_, h7_, h8_, h9_, h10_, h11_, h12_, h13_, h14_, h15_, h16_, h17_, h18_⟩
    replace HO471 : Aside0 (Kd.R (Kd.int .u64) 42 w33 w.heap.size (fun k_ => some k_ ≠ (v476 : Value).ownBlock ∧ some k_ ≠ (v480 : Value).ownBlock ∧ some k_ ≠ (v484 : Value).ownBlock ∧ some k_ ≠ (v488 : Value).ownBlock) (.slice Ao23 t469.length co23) t469) := ⟨h0_⟩; have HO477 : Aside0 (Kd.R (Kd.int .u64) 42 w33 w.heap.size (fun k_ => some k_ ≠ (.slice Ao23 t469.length co23 : Value).ownBlock ∧ some k_ ≠ (v480 : Value).ownBlock ∧ some k_ ≠ (v484 : Value).ownBlock ∧ some k_ ≠ (v488 : Value).ownBlock) v476 t475) := ⟨h1_⟩; have HO481 : Aside0 (Kd.R (Kd.int .u64) 42 w33 w.heap.size (fun k_ => some k_ ≠ (.slice Ao23 t469.length co23 : Value).ownBlock ∧ some k_ ≠ (v476 : Value).ownBlock ∧ some k_ ≠ (v484 : Value).ownBlock ∧ some k_ ≠ (v488 : Value).ownBlock) v480 t479) := ⟨h2_⟩; have HO485 : Aside0 (Kd.R (Kd.int .u64) 42 w33 w.heap.size (fun k_ => some k_ ≠ (.slice Ao23 t469.length co23 : Value).ownBlock ∧ some k_ ≠ (v476 : Value).ownBlock ∧ some k_ ≠ (v480 : Value).ownBlock ∧ some k_ ≠ (v488 : Value).ownBlock) v484 t483) := ⟨h3_⟩; have HO489 : Aside0 (Kd.R (Kd.int .u64) 42 w33 w.heap.size (fun k_ => some k_ ≠ (.slice Ao23 t469.length co23 : Value).ownBlock ∧ some k_ ≠ (v476 : Value).ownBlock ∧ some k_ ≠ (v480 : Value).ownBlock ∧ some k_ ≠ (v484 : Value).ownBlock) v488 t487) := ⟨h4_⟩; replace BK473 : Aside0 (w33.heap[gb473]? = some (.cells #[.bool t468, .slice Ao23 t469.length co23] 44 (0, 0))) := ⟨h5_⟩; have BK491 : Aside0 (w33.heap[gb491]? = some (.cells #[.bool false, .slice none 0 0] 44 (0, 0))) := ⟨h6_⟩; have BK492 : Aside0 (w33.heap[gb492]? = some (.cells #[.bool false, .slice none 0 0] 44 (0, 0))) := ⟨h7_⟩; have GW491 : Aside0 (w.heap.size ≤ gb491) := ⟨h8_⟩; have GE491 : Aside0 (w.heap.size ≤ gb491) := ⟨h9_⟩; have NB473_491 : Aside0 (gb473 ≠ gb491) := ⟨h10_⟩; have NB491_473 : Aside0 (gb491 ≠ gb473) := ⟨h11_⟩; have NB492_491 : Aside0 (gb492 ≠ gb491) := ⟨h12_⟩; have NB491_492 : Aside0 (gb491 ≠ gb492) := ⟨h13_⟩; have GW492 : Aside0 (w.heap.size ≤ gb492) := ⟨h14_⟩; have GE492 : Aside0 (w.heap.size ≤ gb492) := ⟨h15_⟩; have NB473_492 : Aside0 (gb473 ≠ gb492) := ⟨h16_⟩; have NB492_473 : Aside0 (gb492 ≠ gb473) := ⟨h17_⟩; replace HB : Aside0 (Below w.heap.size w w33) := ⟨h18_⟩; clear h0_ h1_ h2_ h3_ h4_ h5_ h6_ h7_ h8_ h9_ h10_ h11_ h12_ h13_ h14_ h15_ h16_ h17_ h18_
    have hHeld : w33.cell? ⟨gb473, 0, none⟩ = some (.bool t468) ∧ w33.cell? ⟨gb473, 1, none⟩ = some (.slice Ao23 t469.length co23) := hS_
    obtain ⟨Ao35, co35, eo35⟩ := Kd.R_slice HO485.out
    (first | subst eo35 | (injection eo35 with f1_ f2_ f3_; have f4_ := f1_.symm; have f5_ := f3_.symm; clear f1_ f2_ f3_; subst f4_; subst f5_))
    obtain ⟨Ao38, co38, eo38⟩ := Kd.R_slice HO489.out
    (first | subst eo38 | (injection eo38 with f1_ f2_ f3_; have f4_ := f1_.symm; have f5_ := f3_.symm; clear f1_ f2_ f3_; subst f4_; subst f5_))
    refine norm_ (a' := ?_) ?_ ?_; rotate_left
    ·
     simp only [putAll, Act.put, List.setIfInBounds_toArray, List.set_cons_zero, List.set_cons_succ]
     rfl
    refine one_ (i := 11) (N := none) (uA 14 4095) rfl rfl (one_of HT_.out (by kernel_rfl)) (by decide) (fun K hK => ?_)
    have hs34 : w33.cell? ⟨gb491, 0, none⟩ = some (.bool false) := (blk_cell BK491.out 0).trans rfl
    have hfs34 := blk_frozen BK491.out 0
    have hns34_0 := NB473_491.out
    have hns34_2 := NB492_491.out
    have hms34_0 := NB491_473.out
    have hms34_2 := NB491_492.out
    have hs36 : w33.cell? ⟨gb491, 1, none⟩ = some (.slice none 0 0) := (blk_cell BK491.out 1).trans rfl
    have hfs36 := blk_frozen BK491.out 1
    have hns36_0 := NB473_491.out
    have hns36_2 := NB492_491.out
    have hms36_0 := NB491_473.out
    have hms36_2 := NB491_492.out
    refine skip_ (w1 := ?_) (by rfl) rfl ?_ ?_
    rotate_left
    ·
     go_simp
     rfl
    refine hK.out _ _ ⟨((cell_far (p := ⟨gb491, _, none⟩) NB473_491.out _).trans (((cell_far (p := ⟨gb491, _, none⟩) NB473_491.out _).trans (hHeld.1)))), ((cell_far (p := ⟨gb491, _, none⟩) NB473_491.out _).trans (((cell_far (p := ⟨gb491, _, none⟩) NB473_491.out _).trans (hHeld.2))))⟩ (fun hHeld => ?_); clear hK K
    refine one_ (i := 12) (N := none) (uA 14 8191) rfl rfl (one_of HT_.out (by kernel_rfl)) (by decide) (fun K hK => ?_)
    have hs37 : w33.cell? ⟨gb492, 0, none⟩ = some (.bool false) := (blk_cell BK492.out 0).trans rfl
    have hfs37 := blk_frozen BK492.out 0
    have hns37_0 := NB473_492.out
    have hns37_1 := NB491_492.out
    have hms37_0 := NB492_473.out
    have hms37_1 := NB492_491.out
    have hs39 : w33.cell? ⟨gb492, 1, none⟩ = some (.slice none 0 0) := (blk_cell BK492.out 1).trans rfl
    have hfs39 := blk_frozen BK492.out 1
    have hns39_0 := NB473_492.out
    have hns39_1 := NB491_492.out
    have hms39_0 := NB492_473.out
    have hms39_1 := NB492_491.out
    refine skip_ (w1 := ?_) (by rfl) rfl ?_ ?_
    rotate_left
    ·
     go_simp
     rfl
    refine hK.out _ _ ⟨((cell_far (p := ⟨gb492, _, none⟩) NB473_492.out _).trans (((cell_far (p := ⟨gb492, _, none⟩) NB473_492.out _).trans (hHeld.1)))), ((cell_far (p := ⟨gb492, _, none⟩) NB473_492.out _).trans (((cell_far (p := ⟨gb492, _, none⟩) NB473_492.out _).trans (hHeld.2))))⟩ (fun hHeld => ?_); clear hK K
    refine upu 13 (some 13) (uA 14 16383) rfl rfl HT_ ?_
    refine done_ (done_of HT_.out (by kernel_rfl)) ?_
    have H := HS_.out; clear HS_
    by_cases c18 : t494 = true
    ·
     subst c18
     have H1 : ((modint_Small.f kj3 t486 t487).bind fun bt495 => (some (t493, bt495.1, 0))) = some (r1, r2, r3) := by rw [if_pos rfl] at H; exact H
     clear H; have H := H1; clear H1
     replace H := ub H; obtain ⟨⟨t495, t496⟩, A19, H⟩ := H
     (try dsimp only at H)
     simp only [Option.some.injEq, Prod.mk.injEq] at H
     obtain ⟨rfl, rfl, rfl⟩ := H
     have hnb40 := NB491_473.out
     have hnc40 := NB473_491.out
     have hnb41 := NB491_492.out
     have hnc41 := NB492_491.out
     obtain ⟨hcz42_0, hcz42_1, hfz42_0, hfz42_1⟩ := uz2 w33 BK491
     try go_wp2_with (first | ((with_reducible refine ug 19 rfl ?_); refine uh (some 49) rfl Try.func19 #[.agg #[.bool t482, .slice Ao35 t483.length co35]] ?_; (with_reducible refine (modint_Small.calls kj3 t482 _ _ t483 t493 true _ ?side1 ?side2 A17.out).mono ?_); (case side1 => refine (Kd.R_reads' (e := 42) (base := w.heap.size) (ok := fun k_ => (some k_ ≠ (.slice Ao23 t469.length co23 : Value).ownBlock ∧ (some k_ ≠ (v476 : Value).ownBlock ∧ (some k_ ≠ (v480 : Value).ownBlock ∧ some k_ ≠ (.slice Ao38 t487.length co38 : Value).ownBlock)))) (n := t483.length) (c := co35) ?_).2.2; exact (uR ((Kd.R_mono (Kd.R_mono (Kd.R_far (p := ⟨gb492, 1, none⟩) (Kd.R_far (p := ⟨gb492, 0, none⟩) (Kd.R_far (p := ⟨gb491, 1, none⟩) (Kd.R_far (p := ⟨gb491, 0, none⟩) (Kd.R_types (Kd.R_types HO485.out BK491.out (by decide)) BK492.out (by decide)) (fun _ hk => hk.1.2) (.bool t482)) (fun _ hk => hk.1.2) (.slice Ao35 t483.length co35)) (fun _ hk => hk.2) (.bool t486)) (fun _ hk => hk.2) (.slice Ao38 t487.length co38)) (fun _ h_ => h_.1)) (fun _ h_ => h_.1))))); (case side2 => exact (Kd.R_reads' HO485.out).2.1); rintro e w43 ⟨rfl, hb⟩; refine ⟨_, rfl, ?_⟩; replace HO471 := Aside0.mk (Kd.R_below (uR ((Kd.R_mono (Kd.R_mono (Kd.R_far (p := ⟨gb492, 1, none⟩) (Kd.R_far (p := ⟨gb492, 0, none⟩) (Kd.R_far (p := ⟨gb491, 1, none⟩) (Kd.R_far (p := ⟨gb491, 0, none⟩) (Kd.R_types (Kd.R_types HO471.out BK491.out (by decide)) BK492.out (by decide)) (fun _ hk => hk.1.2) (.bool t482)) (fun _ hk => hk.1.2) (.slice Ao35 t483.length co35)) (fun _ hk => hk.2) (.bool t486)) (fun _ hk => hk.2) (.slice Ao38 t487.length co38)) (fun _ h_ => h_.1)) (fun _ h_ => h_.1)))) hb); replace HO477 := Aside0.mk (Kd.R_below (uR ((Kd.R_mono (Kd.R_mono (Kd.R_far (p := ⟨gb492, 1, none⟩) (Kd.R_far (p := ⟨gb492, 0, none⟩) (Kd.R_far (p := ⟨gb491, 1, none⟩) (Kd.R_far (p := ⟨gb491, 0, none⟩) (Kd.R_types (Kd.R_types HO477.out BK491.out (by decide)) BK492.out (by decide)) (fun _ hk => hk.1.2) (.bool t482)) (fun _ hk => hk.1.2) (.slice Ao35 t483.length co35)) (fun _ hk => hk.2) (.bool t486)) (fun _ hk => hk.2) (.slice Ao38 t487.length co38)) (fun _ h_ => h_.1)) (fun _ h_ => h_.1)))) hb); replace HO481 := Aside0.mk (Kd.R_below (uR ((Kd.R_mono (Kd.R_mono (Kd.R_far (p := ⟨gb492, 1, none⟩) (Kd.R_far (p := ⟨gb492, 0, none⟩) (Kd.R_far (p := ⟨gb491, 1, none⟩) (Kd.R_far (p := ⟨gb491, 0, none⟩) (Kd.R_types (Kd.R_types HO481.out BK491.out (by decide)) BK492.out (by decide)) (fun _ hk => hk.1.2) (.bool t482)) (fun _ hk => hk.1.2) (.slice Ao35 t483.length co35)) (fun _ hk => hk.2) (.bool t486)) (fun _ hk => hk.2) (.slice Ao38 t487.length co38)) (fun _ h_ => h_.1)) (fun _ h_ => h_.1)))) hb); replace HO485 := Aside0.mk (Kd.R_below (uR ((Kd.R_mono (Kd.R_mono (Kd.R_far (p := ⟨gb492, 1, none⟩) (Kd.R_far (p := ⟨gb492, 0, none⟩) (Kd.R_far (p := ⟨gb491, 1, none⟩) (Kd.R_far (p := ⟨gb491, 0, none⟩) (Kd.R_types (Kd.R_types HO485.out BK491.out (by decide)) BK492.out (by decide)) (fun _ hk => hk.1.2) (.bool t482)) (fun _ hk => hk.1.2) (.slice Ao35 t483.length co35)) (fun _ hk => hk.2) (.bool t486)) (fun _ hk => hk.2) (.slice Ao38 t487.length co38)) (fun _ h_ => h_.1)) (fun _ h_ => h_.1)))) hb); replace HO489 := Aside0.mk (Kd.R_below (uR ((Kd.R_mono (Kd.R_mono (Kd.R_far (p := ⟨gb492, 1, none⟩) (Kd.R_far (p := ⟨gb492, 0, none⟩) (Kd.R_far (p := ⟨gb491, 1, none⟩) (Kd.R_far (p := ⟨gb491, 0, none⟩) (Kd.R_types (Kd.R_types HO489.out BK491.out (by decide)) BK492.out (by decide)) (fun _ hk => hk.1.2) (.bool t482)) (fun _ hk => hk.1.2) (.slice Ao35 t483.length co35)) (fun _ hk => hk.2) (.bool t486)) (fun _ hk => hk.2) (.slice Ao38 t487.length co38)) (fun _ h_ => h_.1)) (fun _ h_ => h_.1)))) hb); replace BK473 := Aside0.mk (blk_below (g := gb473) (o := .cells #[.bool t468, .slice Ao23 t469.length co23] 44 (0, 0)) (by refine blk_far ?_ NB473_492.out _; refine blk_far ?_ NB473_492.out _; refine blk_far ?_ NB473_491.out _; refine blk_far ?_ NB473_491.out _; exact uK BK473.out) hb); replace BK491 := Aside0.mk (blk_below (g := gb491) (o := .cells #[.bool t482, .slice Ao35 t483.length co35] 44 (0, 0)) (by refine blk_far ?_ NB491_492.out _; refine blk_far ?_ NB491_492.out _; refine blk_put (cs := #[.bool t482, .slice none 0 0]) ?_ 1 _ rfl; refine blk_put (cs := #[.bool false, .slice none 0 0]) ?_ 0 _ rfl; exact uK BK491.out) hb); replace BK492 := Aside0.mk (blk_below (g := gb492) (o := .cells #[.bool t486, .slice Ao38 t487.length co38] 44 (0, 0)) (by refine blk_put (cs := #[.bool t486, .slice none 0 0]) ?_ 1 _ rfl; refine blk_put (cs := #[.bool false, .slice none 0 0]) ?_ 0 _ rfl; refine blk_far ?_ NB492_491.out _; refine blk_far ?_ NB492_491.out _; exact uK BK492.out) hb); replace HB := uy hb; (try clear hb); (try clear hb2); (try clear hk); (try clear hi); have hnb44 := NB492_473.out; have hnc44 := NB473_492.out; obtain ⟨hcz45_0, hcz45_1, hfz45_0, hfz45_1⟩ := uz2 w43 BK492) | ((with_reducible refine ug 19 rfl ?_); refine uh (some 56) rfl Try.func19 #[.agg #[.bool t486, .slice Ao38 t487.length co38]] ?_; (with_reducible refine (modint_Small.calls kj3 t486 _ _ t487 t495 t496 _ ?side1 ?side2 A19.out).mono ?_); (case side1 => exact uC (Kd.R_reads' HO489.out).2.2); (case side2 => exact (Kd.R_reads' HO489.out).2.1); rintro e w46 ⟨rfl, hb⟩; refine ⟨_, rfl, ?_⟩; replace HO471 := urb HO471 hb; replace HO477 := urb HO477 hb; replace HO481 := urb HO481 hb; replace HO485 := urb HO485 hb; replace HO489 := urb HO489 hb; replace BK473 := ux BK473 hb; replace BK491 := ux BK491 hb; replace BK492 := ux BK492 hb; replace HB := uy hb; (try clear hb)))
     go_ret3
     exact ⟨uF, uB⟩
    replace c18 := Bool.eq_false_iff.mpr c18
    subst c18
    have H1 : (some (0, 0, 12)) = some (r1, r2, r3) := by rw [if_neg (show ¬ (false = true) by decide)] at H; exact H
    clear H; have H := H1; clear H1
    simp only [Option.some.injEq, Prod.mk.injEq] at H
    obtain ⟨rfl, rfl, rfl⟩ := H
    have hnb67 := NB491_473.out
    have hnc67 := NB473_491.out
    have hnb68 := NB491_492.out
    have hnc68 := NB492_491.out
    obtain ⟨hcz69_0, hcz69_1, hfz69_0, hfz69_1⟩ := uz2 w33 BK491
    try go_wp2_with (first | ((with_reducible refine ug 19 rfl ?_); refine uh (some 49) rfl Try.func19 #[.agg #[.bool t482, .slice Ao35 t483.length co35]] ?_; (with_reducible refine (modint_Small.calls kj3 t482 _ _ t483 t493 false _ ?side1 ?side2 A17.out).mono ?_); (case side1 => refine (Kd.R_reads' (e := 42) (base := w.heap.size) (ok := fun k_ => (some k_ ≠ (.slice Ao23 t469.length co23 : Value).ownBlock ∧ (some k_ ≠ (v476 : Value).ownBlock ∧ (some k_ ≠ (v480 : Value).ownBlock ∧ some k_ ≠ (.slice Ao38 t487.length co38 : Value).ownBlock)))) (n := t483.length) (c := co35) ?_).2.2; exact (uR ((Kd.R_mono (Kd.R_mono (Kd.R_far (p := ⟨gb492, 1, none⟩) (Kd.R_far (p := ⟨gb492, 0, none⟩) (Kd.R_far (p := ⟨gb491, 1, none⟩) (Kd.R_far (p := ⟨gb491, 0, none⟩) (Kd.R_types (Kd.R_types HO485.out BK491.out (by decide)) BK492.out (by decide)) (fun _ hk => hk.1.2) (.bool t482)) (fun _ hk => hk.1.2) (.slice Ao35 t483.length co35)) (fun _ hk => hk.2) (.bool t486)) (fun _ hk => hk.2) (.slice Ao38 t487.length co38)) (fun _ h_ => h_.1)) (fun _ h_ => h_.1))))); (case side2 => exact (Kd.R_reads' HO485.out).2.1); rintro e w70 ⟨rfl, hb⟩; refine ⟨_, rfl, ?_⟩; replace HO471 := Aside0.mk (Kd.R_below (uR ((Kd.R_mono (Kd.R_mono (Kd.R_far (p := ⟨gb492, 1, none⟩) (Kd.R_far (p := ⟨gb492, 0, none⟩) (Kd.R_far (p := ⟨gb491, 1, none⟩) (Kd.R_far (p := ⟨gb491, 0, none⟩) (Kd.R_types (Kd.R_types HO471.out BK491.out (by decide)) BK492.out (by decide)) (fun _ hk => hk.1.2) (.bool t482)) (fun _ hk => hk.1.2) (.slice Ao35 t483.length co35)) (fun _ hk => hk.2) (.bool t486)) (fun _ hk => hk.2) (.slice Ao38 t487.length co38)) (fun _ h_ => h_.1)) (fun _ h_ => h_.1)))) hb); replace HO477 := Aside0.mk (Kd.R_below (uR ((Kd.R_mono (Kd.R_mono (Kd.R_far (p := ⟨gb492, 1, none⟩) (Kd.R_far (p := ⟨gb492, 0, none⟩) (Kd.R_far (p := ⟨gb491, 1, none⟩) (Kd.R_far (p := ⟨gb491, 0, none⟩) (Kd.R_types (Kd.R_types HO477.out BK491.out (by decide)) BK492.out (by decide)) (fun _ hk => hk.1.2) (.bool t482)) (fun _ hk => hk.1.2) (.slice Ao35 t483.length co35)) (fun _ hk => hk.2) (.bool t486)) (fun _ hk => hk.2) (.slice Ao38 t487.length co38)) (fun _ h_ => h_.1)) (fun _ h_ => h_.1)))) hb); replace HO481 := Aside0.mk (Kd.R_below (uR ((Kd.R_mono (Kd.R_mono (Kd.R_far (p := ⟨gb492, 1, none⟩) (Kd.R_far (p := ⟨gb492, 0, none⟩) (Kd.R_far (p := ⟨gb491, 1, none⟩) (Kd.R_far (p := ⟨gb491, 0, none⟩) (Kd.R_types (Kd.R_types HO481.out BK491.out (by decide)) BK492.out (by decide)) (fun _ hk => hk.1.2) (.bool t482)) (fun _ hk => hk.1.2) (.slice Ao35 t483.length co35)) (fun _ hk => hk.2) (.bool t486)) (fun _ hk => hk.2) (.slice Ao38 t487.length co38)) (fun _ h_ => h_.1)) (fun _ h_ => h_.1)))) hb); replace HO485 := Aside0.mk (Kd.R_below (uR ((Kd.R_mono (Kd.R_mono (Kd.R_far (p := ⟨gb492, 1, none⟩) (Kd.R_far (p := ⟨gb492, 0, none⟩) (Kd.R_far (p := ⟨gb491, 1, none⟩) (Kd.R_far (p := ⟨gb491, 0, none⟩) (Kd.R_types (Kd.R_types HO485.out BK491.out (by decide)) BK492.out (by decide)) (fun _ hk => hk.1.2) (.bool t482)) (fun _ hk => hk.1.2) (.slice Ao35 t483.length co35)) (fun _ hk => hk.2) (.bool t486)) (fun _ hk => hk.2) (.slice Ao38 t487.length co38)) (fun _ h_ => h_.1)) (fun _ h_ => h_.1)))) hb); replace HO489 := Aside0.mk (Kd.R_below (uR ((Kd.R_mono (Kd.R_mono (Kd.R_far (p := ⟨gb492, 1, none⟩) (Kd.R_far (p := ⟨gb492, 0, none⟩) (Kd.R_far (p := ⟨gb491, 1, none⟩) (Kd.R_far (p := ⟨gb491, 0, none⟩) (Kd.R_types (Kd.R_types HO489.out BK491.out (by decide)) BK492.out (by decide)) (fun _ hk => hk.1.2) (.bool t482)) (fun _ hk => hk.1.2) (.slice Ao35 t483.length co35)) (fun _ hk => hk.2) (.bool t486)) (fun _ hk => hk.2) (.slice Ao38 t487.length co38)) (fun _ h_ => h_.1)) (fun _ h_ => h_.1)))) hb); replace BK473 := Aside0.mk (blk_below (g := gb473) (o := .cells #[.bool t468, .slice Ao23 t469.length co23] 44 (0, 0)) (by refine blk_far ?_ NB473_492.out _; refine blk_far ?_ NB473_492.out _; refine blk_far ?_ NB473_491.out _; refine blk_far ?_ NB473_491.out _; exact uK BK473.out) hb); replace BK491 := Aside0.mk (blk_below (g := gb491) (o := .cells #[.bool t482, .slice Ao35 t483.length co35] 44 (0, 0)) (by refine blk_far ?_ NB491_492.out _; refine blk_far ?_ NB491_492.out _; refine blk_put (cs := #[.bool t482, .slice none 0 0]) ?_ 1 _ rfl; refine blk_put (cs := #[.bool false, .slice none 0 0]) ?_ 0 _ rfl; exact uK BK491.out) hb); replace BK492 := Aside0.mk (blk_below (g := gb492) (o := .cells #[.bool t486, .slice Ao38 t487.length co38] 44 (0, 0)) (by refine blk_put (cs := #[.bool t486, .slice none 0 0]) ?_ 1 _ rfl; refine blk_put (cs := #[.bool false, .slice none 0 0]) ?_ 0 _ rfl; refine blk_far ?_ NB492_491.out _; refine blk_far ?_ NB492_491.out _; exact uK BK492.out) hb); replace HB := uy hb; (try clear hb); (try clear hb2); (try clear hk); (try clear hi)))
    go_ret3
    exact ⟨uF, uB⟩
   rw [if_neg c13] at H
   have c13b0 := beq_eq_false_iff_ne.mpr c13
   have c13b1 := bne_iff_ne.mpr c13
   simp only [Option.some.injEq, Prod.mk.injEq] at H
   obtain ⟨rfl, rfl, rfl⟩ := H
   go_wp2_with (first | ((with_reducible refine ug 15 rfl ?_); refine uh (some 32) rfl Try.func15 #[.slice A0 l0.length c0, .slice A2 l2.length c2] ?_; (with_reducible refine (fixenc_Decode.calls kj3 _ _ l0 _ _ l2 t468 t469 t472 _ ?side1 ?side2 ?side3 ?side4 A12.out).mono ?_); (case side1 => exact uC (Kd.C_below HR0.out HB.out)); (case side2 => exact HC0.out); (case side3 => exact uC (Kd.C_below HR2.out HB.out)); (case side4 => exact HC2.out); rintro e w71 ⟨v470, rfl, ho0, hb⟩; refine ⟨_, rfl, ?_⟩; have HO471 := ulo ho0; replace HB := uy hb; (try clear hb ho0)) | ((with_reducible refine gate_dst (N := 9) rfl ?_); refine ubx 9 #[.bool false, .slice none 0 0] 44 rfl rfl ?_; intro gb473 hg w72 hbox hb; replace HO471 := urb HO471 hb; have BK473 := Aside0.mk (hbox); have GW473 := us hg; have GE473 := us hg; replace HB := uy hb; clear hb hbox hg; obtain ⟨hcz73_0, hcz73_1, hfz73_0, hfz73_1⟩ := uz2 w72 BK473; obtain ⟨Ao74, co74, eo74⟩ := Kd.R_slice HO471.out; subst eo74))
   go_ret3
   exact ⟨uF, uB⟩
def windbreakref07_Unpack.j0 : Nat → List Int → Int → List Int → Bool → Option (Int × Int × Int)
 | 0, _, _, _, _ => none
 | k + 1, x0, x1, x2, x30 => if x30 = true then (some (0, 0, 1)) else ((windbreakref07_Decode.f k x0 x2).bind fun bt799 => (if bt799.2.2 = 0 then ((windbreakref07_power.f k x1).bind fun bt805 => ((windbreakref03_Floor.f k bt799.1 bt799.2.1 bt805.1 bt805.2).bind fun bt809 => ((windbreakref03_Small.f k bt809.1 bt809.2.1).bind fun bt820 => (if bt820.2 = true then ((windbreakref03_Small.f k bt809.2.2.1 bt809.2.2.2.1).bind fun bt822 => (some (bt820.1, bt822.1, 0))) else (some (0, 0, 12)))))) else (some (0, 0, bt799.2.2))))
def windbreakref07_Unpack.f (k : Nat) (l0 : List Int) (a1 : Int) (l2 : List Int) : Option (Int × Int × Int) := (windbreakref07_May.f k l0).bind fun t798 => (if t798 = true then (if a1 < 1 then (windbreakref07_Unpack.j0 k l0 a1 l2 true) else (windbreakref07_Unpack.j0 k l0 a1 l2 (decide (a1 > 62)))) else (windbreakref07_Unpack.j0 k l0 a1 l2 true))
def windbreakref07_Unpack.T7 : Bool × List (List Nat × List Nat) := (true, [([], []), ([], []), ([1], [1]), ([0, 2, 2], [0, 2]), ([3], [3]), ([4], [4]), ([4], [4]), ([4], [4]), ([], []), ([], []), ([8, 5, 3, 0, 1, 2, 3, 4, 5, 8, 9], [5, 8]), ([9, 6, 10, 0, 1, 2, 3, 4, 5, 6, 8, 9, 10], [6, 9]), ([7, 11, 0, 1, 2, 3, 4, 5, 6, 7, 8, 9, 10, 11], [7])])
def windbreakref07_Unpack.B7 : List Nat := [0, 0, 2, 7, 15, 31, 31, 31, 0, 0, 831, 1919, 4095]
theorem windbreakref07_Unpack.tab7 : rtab .any (opsOf Try.f8 7) = windbreakref07_Unpack.T7 := by kernel_rfl
theorem windbreakref07_Unpack.bits7 : waitsOk windbreakref07_Unpack.T7.2 windbreakref07_Unpack.B7 = true := by kernel_rfl
theorem windbreakref07_Unpack.calls (k : Nat) (A0 : Option Addr) (c0 : Nat) (l0 : List Int) (a1 : Int) (A2 : Option Addr) (c2 : Nat) (l2 : List Int) (r1 : Int) (r2 : Int) (r3 : Int) (w : World) (hr0 : Kd.C (Kd.int .u64) w A0 l0.length l0) (hc0 : l0.length ≤ c0) (hr2 : Kd.C (Kd.int .u64) w A2 l2.length l2) (hc2 : l2.length ≤ c2) (h : windbreakref07_Unpack.f k l0 a1 l2 = some (r1, r2, r3)) :
  Calls Try.prog 8 #[.slice A0 l0.length c0, .int .i64 a1, .slice A2 l2.length c2] w fun e w' => e = .returned (.tuple #[.int .i64 r1, .int .i64 r2, .int .i64 r3]) ∧ Below w.heap.size w w' := by
 have hu44 := Try.underlying44
 have HR0 := Aside0.mk hr0; have HC0 := Aside0.mk hc0; clear hr0 hc0; have HR2 := Aside0.mk hr2; have HC2 := Aside0.mk hc2; clear hr2 hc2
 have HB := Aside0.mk (Below.refl w.heap.size w)
 have H : ((windbreakref07_May.f k l0).bind fun t798 => (if t798 = true then (if a1 < 1 then (windbreakref07_Unpack.j0 k l0 a1 l2 true) else (windbreakref07_Unpack.j0 k l0 a1 l2 (decide (a1 > 62)))) else (windbreakref07_Unpack.j0 k l0 a1 l2 true))) = some (r1, r2, r3) := h
 clear h
 replace H := ub H; obtain ⟨t798, A4, H⟩ := H
 have HC5 := Aside0.mk H; clear H
 go_enter Try.func8, Try.ntmps8
 go_upto_region 2 with (first | ((with_reducible refine ug 20 rfl ?_); refine uh (some 20) rfl Try.func20 #[.slice A0 l0.length c0] ?_; (with_reducible refine (windbreakref07_May.calls k _ _ l0 t798 _ ?side1 ?side2 A4.out).mono ?_); (case side1 => exact uC HR0.out); (case side2 => exact HC0.out); rintro e w6 ⟨rfl, hb⟩; refine ⟨_, rfl, ?_⟩; replace HB := uy hb; (try clear hb)))
 (try simp only [Act.put, List.setIfInBounds_toArray, List.set_cons_zero, List.set_cons_succ])
 go_cut [30] (fun v30 wc => ∃ (kq : Nat) (x30_4 : Bool), v30 = .bool x30_4 ∧ Aside0 (windbreakref07_Unpack.j0 kq l0 a1 l2 x30_4 = some (r1, r2, r3)) ∧ Aside0 (kq ≤ k) ∧ Aside0 (Below w.heap.size w wc))
 case first =>
  have H := HC5.out
  clear HC5
  by_cases c7 : t798 = true
  ·
   subst c7
   have H1 : (if a1 < 1 then (windbreakref07_Unpack.j0 k l0 a1 l2 true) else (windbreakref07_Unpack.j0 k l0 a1 l2 (decide (a1 > 62)))) = some (r1, r2, r3) := by rw [if_pos rfl] at H; exact H
   clear H; have H := H1; clear H1
   by_cases c8 : a1 < 1
   ·
    rw [if_pos c8] at H
    have c8b0 := decide_eq_true c8
    clear c8
    (first | rw [c8b0] | (simp only [i64_w, i32_w]; rw [c8b0]) | skip)
    have H' := Aside0.mk H
    clear H
    go_wp2
    go_meet
    case rel => exact ⟨_, (true), uG, H', ⟨uW⟩, ⟨uB⟩⟩
   rw [if_neg c8] at H
   have c8b0 := decide_eq_false c8
   clear c8
   (first | rw [c8b0] | (simp only [i64_w, i32_w]; rw [c8b0]) | skip)
   have H' := Aside0.mk H
   clear H
   go_wp2
   go_meet
   case rel => exact ⟨_, (decide (a1 > 62)), uG, H', ⟨uW⟩, ⟨uB⟩⟩
  replace c7 := Bool.eq_false_iff.mpr c7
  subst c7
  have H1 : (windbreakref07_Unpack.j0 k l0 a1 l2 true) = some (r1, r2, r3) := by rw [if_neg (show ¬ (false = true) by decide)] at H; exact H
  clear H; have H := H1; clear H1
  have H' := Aside0.mk H
  clear H
  go_wp2
  go_meet
  case rel => exact ⟨_, (true), uG, H', ⟨uW⟩, ⟨uB⟩⟩
 case rest =>
  clear HC5
  obtain ⟨kq, x30_4, rfl, HA, HJ4, HB⟩ := hcut
  cases kq with
  | zero => exact absurd HA.out (by simp [windbreakref07_Unpack.j0])
  | succ kj4 =>
   have H := HA.out
   clear HA
   simp only [windbreakref07_Unpack.j0] at H
   by_cases c9 : x30_4 = true
   ·
    subst c9
    have H1 : (some (0, 0, 1)) = some (r1, r2, r3) := by rw [if_pos rfl] at H; exact H
    clear H; have H := H1; clear H1
    simp only [Option.some.injEq, Prod.mk.injEq] at H
    obtain ⟨rfl, rfl, rfl⟩ := H
    go_wp2
    go_ret3
    exact ⟨uF, uB⟩
   replace c9 := Bool.eq_false_iff.mpr c9
   subst c9
   have H1 : ((windbreakref07_Decode.f kj4 l0 l2).bind fun bt799 => (if bt799.2.2 = 0 then ((windbreakref07_power.f kj4 a1).bind fun bt805 => ((windbreakref03_Floor.f kj4 bt799.1 bt799.2.1 bt805.1 bt805.2).bind fun bt809 => ((windbreakref03_Small.f kj4 bt809.1 bt809.2.1).bind fun bt820 => (if bt820.2 = true then ((windbreakref03_Small.f kj4 bt809.2.2.1 bt809.2.2.2.1).bind fun bt822 => (some (bt820.1, bt822.1, 0))) else (some (0, 0, 12)))))) else (some (0, 0, bt799.2.2)))) = some (r1, r2, r3) := by rw [if_neg (show ¬ (false = true) by decide)] at H; exact H
   clear H; have H := H1; clear H1
   replace H := ub H; obtain ⟨⟨t799, t800, t803⟩, A10, H⟩ := H
   (try dsimp only at H)
   by_cases c11 : t803 = 0
   ·
    rw [if_pos c11] at H
    have c11b0 := beq_iff_eq.mpr c11
    have c11b1 := bne_eq_false_iff_eq.mpr c11
    clear c11
    replace H := ub H; obtain ⟨⟨t805, t806⟩, A12, H⟩ := H
    (try dsimp only at H)
    replace H := ub H; obtain ⟨⟨t809, t810, t813, t814, t817⟩, A13, H⟩ := H
    (try dsimp only at H)
    replace H := ub H; obtain ⟨⟨t820, t821⟩, A14, H⟩ := H
    (try dsimp only at H)
    have HS_ := Aside0.mk H; clear H
    try go_wp2_with (first | ((with_reducible refine ug 21 rfl ?_); refine uh (some 34) rfl Try.func21 #[.slice A0 l0.length c0, .slice A2 l2.length c2] ?_; (with_reducible refine (windbreakref07_Decode.calls kj4 _ _ l0 _ _ l2 t799 t800 t803 _ ?side1 ?side2 ?side3 ?side4 A10.out).mono ?_); (case side1 => exact uC (Kd.C_below HR0.out HB.out)); (case side2 => exact HC0.out); (case side3 => exact uC (Kd.C_below HR2.out HB.out)); (case side4 => exact HC2.out); rintro e w17 ⟨v801, rfl, ho0, hb⟩; refine ⟨_, rfl, ?_⟩; have HO802 := ulo ho0; replace HB := uy hb; (try clear hb ho0)) | ((with_reducible refine gate_dst (N := 10) rfl ?_); refine ubx 10 #[.bool false, .slice none 0 0] 44 rfl rfl ?_; intro gb804 hg w18 hbox hb; replace HO802 := urb HO802 hb; have BK804 := Aside0.mk (hbox); have GW804 := us hg; have GE804 := us hg; replace HB := uy hb; clear hb hbox hg; obtain ⟨hcz19_0, hcz19_1, hfz19_0, hfz19_1⟩ := uz2 w18 BK804; obtain ⟨Ao20, co20, eo20⟩ := Kd.R_slice HO802.out; subst eo20))
    have n0_ : Aside0 (Kd.R (Kd.int .u64) 42 ((w18.setCell ⟨gb804, 0, none⟩ (.bool t799)).setCell ⟨gb804, 1, none⟩ (.slice Ao20 t800.length co20)) w.heap.size (fun _ => True) (.slice Ao20 t800.length co20) t800) := ⟨by exact uR (Kd.R_mono (Kd.R_far (p := ⟨gb804, 1, none⟩) (Kd.R_far (p := ⟨gb804, 0, none⟩) (Kd.R_types HO802.out BK804.out (by decide)) (fun _ hk => hk.2) (.bool t799)) (fun _ hk => hk.2) (.slice Ao20 t800.length co20)) (fun _ hk => trivial))⟩
    have n1_ : Aside0 (((w18.setCell ⟨gb804, 0, none⟩ (.bool t799)).setCell ⟨gb804, 1, none⟩ (.slice Ao20 t800.length co20)).heap[gb804]? = some (.cells #[.bool t799, .slice Ao20 t800.length co20] 44 (0, 0))) := ⟨by refine blk_put (cs := #[.bool t799, .slice none 0 0]) ?_ 1 _ rfl; refine blk_put (cs := #[.bool false, .slice none 0 0]) ?_ 0 _ rfl; exact uK BK804.out⟩
    have n2_ : Aside0 (Below w.heap.size w ((w18.setCell ⟨gb804, 0, none⟩ (.bool t799)).setCell ⟨gb804, 1, none⟩ (.slice Ao20 t800.length co20))) := ⟨uB⟩
    (try clear HO802); (try clear BK804); (try clear HB)
    generalize ((w18.setCell ⟨gb804, 0, none⟩ (.bool t799)).setCell ⟨gb804, 1, none⟩ (.slice Ao20 t800.length co20)) = w21 at n0_ n1_ n2_ ⊢
    have HO802 := n0_; have BK804 := n1_; have HB := n2_; clear n0_ n1_ n2_; replace HO802 := Aside0.mk (Kd.R_drew HO802.out); replace BK804 := Aside0.mk (blk_drew BK804.out); replace HB := Aside0.mk (below_drew1 HB.out)
    refine start_ (n := 13) (S := fun w' => w'.cell? ⟨gb804, 0, none⟩ = some (.bool t799) ∧ w'.cell? ⟨gb804, 1, none⟩ = some (.slice Ao20 t800.length co20)) (ds := []) (.replicate 13 false) (by kernel_rfl) rfl rfl ⟨(blk_cell BK804.out 0).trans rfl, (blk_cell BK804.out 1).trans rfl⟩ (fun hHeld => ?_); refine with_tabW windbreakref07_Unpack.tab7 windbreakref07_Unpack.bits7 (fun HT_ HW_ => ?_)
    generalize w21.drew = w22 at HO802 BK804 HB hHeld ⊢
    refine upu 1 (some 42) (uA 13 2) rfl rfl HT_ ?_
    refine take_ (i := 0) (N := some 41) (v := ?_) (a' := ?_) (uA 13 3) rfl rfl (take_ofW HT_.out HW_.out (by kernel_rfl)) (fun _ _ _ h => h) (Or.inl ⟨by rfl, ?_⟩) hHeld ?_ ?_
    rotate_left
    ·
     rintro w' ⟨s0, s1⟩
     go_simp
     with_reducible rfl
    rotate_left
    · exact uQ
    refine join_ (σ := Value × Value × Value × Nat × Nat) 3 (uA 13 1023) (fun s_ => [(43, .agg #[.bool t805, s_.1]), (44, .tuple #[.agg #[.bool t809, s_.2.1], .agg #[.bool t813, s_.2.2.1], .int .i64 t817]), (12, .pointer (some ⟨s_.2.2.2.1, 0, none⟩)), (13, .pointer (some ⟨s_.2.2.2.2, 0, none⟩)), (40, .tuple #[.agg #[.bool t809, s_.2.1], .agg #[.bool t813, s_.2.2.1], .int .i64 t817]), (45, .agg #[.bool t809, s_.2.1]), (46, .agg #[.bool t813, s_.2.2.1]), (47, .int .i64 t817)]) (fun s_ w' => (w'.cell? ⟨gb804, 0, none⟩ = some (.bool t799) ∧ w'.cell? ⟨gb804, 1, none⟩ = some (.slice Ao20 t800.length co20)) ∧ (Kd.R (Kd.int .u64) 42 w' w.heap.size (fun k_ => some k_ ≠ (s_.1 : Value).ownBlock ∧ some k_ ≠ (s_.2.1 : Value).ownBlock ∧ some k_ ≠ (s_.2.2.1 : Value).ownBlock) (.slice Ao20 t800.length co20) t800) ∧ (Kd.R (Kd.int .u64) 42 w' w.heap.size (fun k_ => some k_ ≠ (.slice Ao20 t800.length co20 : Value).ownBlock ∧ some k_ ≠ (s_.2.1 : Value).ownBlock ∧ some k_ ≠ (s_.2.2.1 : Value).ownBlock) s_.1 t806) ∧ (Kd.R (Kd.int .u64) 42 w' w.heap.size (fun k_ => some k_ ≠ (.slice Ao20 t800.length co20 : Value).ownBlock ∧ some k_ ≠ (s_.1 : Value).ownBlock ∧ some k_ ≠ (s_.2.2.1 : Value).ownBlock) s_.2.1 t810) ∧ (Kd.R (Kd.int .u64) 42 w' w.heap.size (fun k_ => some k_ ≠ (.slice Ao20 t800.length co20 : Value).ownBlock ∧ some k_ ≠ (s_.1 : Value).ownBlock ∧ some k_ ≠ (s_.2.1 : Value).ownBlock) s_.2.2.1 t814) ∧ (w'.heap[gb804]? = some (.cells #[.bool t799, .slice Ao20 t800.length co20] 44 (0, 0))) ∧ (w'.heap[s_.2.2.2.1]? = some (.cells #[.bool false, .slice none 0 0] 44 (0, 0))) ∧ (w'.heap[s_.2.2.2.2]? = some (.cells #[.bool false, .slice none 0 0] 44 (0, 0))) ∧ (w.heap.size ≤ s_.2.2.2.1) ∧ (w.heap.size ≤ s_.2.2.2.1) ∧ (gb804 ≠ s_.2.2.2.1) ∧ (s_.2.2.2.1 ≠ gb804) ∧ (s_.2.2.2.2 ≠ s_.2.2.2.1) ∧ (s_.2.2.2.1 ≠ s_.2.2.2.2) ∧ (w.heap.size ≤ s_.2.2.2.2) ∧ (w.heap.size ≤ s_.2.2.2.2) ∧ (gb804 ≠ s_.2.2.2.2) ∧ (s_.2.2.2.2 ≠ gb804) ∧ (Below w.heap.size w w')) ?_ ?_
    rotate_left
    ·
     intro hJ2_3_8_9
     have HBF_ := Aside0.mk (below_size HB.out)
     have LTgb804 := Aside0.mk (blk_lt BK804.out)
     refine frees_ [⟨8, 12, .cells #[.bool false, .slice none 0 0] 44 (0, 0), fun g_ => .pointer (some ⟨g_, 0, none⟩)⟩, ⟨9, 13, .cells #[.bool false, .slice none 0 0] 44 (0, 0), fun g_ => .pointer (some ⟨g_, 0, none⟩)⟩] 9 ?_ hHeld ?_
     ·
      refine List.forall_mem_cons.2 ⟨frok_ rfl rfl (fun _ _ h_ => by cases h_) rfl ?_, List.forall_mem_cons.2 ⟨frok_ rfl rfl (fun _ _ h_ => by cases h_) rfl ?_, fun _ h_ => by cases h_⟩⟩
      all_goals (intro w_; first | (go_simp; done) | (go_simp; rfl))
     refine joinF_ (σ := Value) 8 (uA 13 7) (fun s_ => [(43, .agg #[.bool t805, s_])]) (fun s_ w' => (w'.cell? ⟨gb804, 0, none⟩ = some (.bool t799) ∧ w'.cell? ⟨gb804, 1, none⟩ = some (.slice Ao20 t800.length co20)) ∧ (Kd.R (Kd.int .u64) 42 w' w.heap.size (fun k_ => some k_ ≠ (s_ : Value).ownBlock) (.slice Ao20 t800.length co20) t800) ∧ (Kd.R (Kd.int .u64) 42 w' w.heap.size (fun k_ => some k_ ≠ (.slice Ao20 t800.length co20 : Value).ownBlock) s_ t806) ∧ (w'.heap[gb804]? = some (.cells #[.bool t799, .slice Ao20 t800.length co20] 44 (0, 0))) ∧ (Below w.heap.size w w')) ?_ ?_
     rotate_left
     ·
      intro hJ2
      refine core_ (c := 2) (N := some 43) (uA 13 7) rfl rfl (coreF_of HT_.out (by kernel_rfl)) (fun _ _ _ _ _ h => h) (fun _ o_ h_ => ⟨cellA h_.1 o_, cellA h_.2 o_⟩) (fun wB_ hBw_ hHeld K hK => ?_)
      (try replace HO802 := Aside0.mk (Kd.R_below HO802.out hBw_))
      (try replace HO808 := Aside0.mk (Kd.R_below HO808.out hBw_))
      (try replace HO812 := Aside0.mk (Kd.R_below HO812.out hBw_))
      (try replace HO816 := Aside0.mk (Kd.R_below HO816.out hBw_))
      (try replace BK804 := Aside0.mk (blk_below BK804.out hBw_))
      (try replace BK818 := Aside0.mk (blk_below BK818.out hBw_))
      (try replace BK819 := Aside0.mk (blk_below BK819.out hBw_))
      (try replace HB := Aside0.mk (below_step HB.out hBw_))
      refine goes_ Try.func23 (by kernel_rfl) rfl #[.int .i64 a1] (by rfl) rfl rfl uM ?_
      with_reducible refine (windbreakref07_power.calls kj4 a1 t805 t806 _ A12.out).mono ?_
      rintro e w23 ⟨v807, rfl, ho0, hb⟩
      refine ⟨_, rfl, ?_⟩; have HBK_ := Aside0.mk hb; have HO808 := ulo (unw ho0 HO802); replace HO802 := ueR HO802 ho0 hb; replace BK804 := ux BK804 hb; replace HB := uy hb; (try clear hb ho0); refine hK.out _ _ ⟨(blk_cell BK804.out 0).trans rfl, (blk_cell BK804.out 1).trans rfl⟩ HBK_.out (fun hHeld => ?_); clear hK K HBK_
      refine normF_ (a' := ?_) ?_ ?_
      rotate_left
      · exact (show Act.put _ (some 43) _ = _ from uQ)
      exact normF_ uP (hJ2 (v807) _ ⟨hHeld, (uR (Kd.R_mono HO802.out (fun _ hk => hk.2))), (uR (Kd.R_mono HO808.out (fun _ hk => hk.2))), (uK BK804.out), uB⟩)
     rintro v807 w24 ⟨hS_, h0_, h1_, h2_, h3_⟩
     replace HO802 : Aside0 (Kd.R (Kd.int .u64) 42 w24 w.heap.size (fun k_ => some k_ ≠ (v807 : Value).ownBlock) (.slice Ao20 t800.length co20) t800) := ⟨h0_⟩; have HO808 : Aside0 (Kd.R (Kd.int .u64) 42 w24 w.heap.size (fun k_ => some k_ ≠ (.slice Ao20 t800.length co20 : Value).ownBlock) v807 t806) := ⟨h1_⟩; replace BK804 : Aside0 (w24.heap[gb804]? = some (.cells #[.bool t799, .slice Ao20 t800.length co20] 44 (0, 0))) := ⟨h2_⟩; replace HB : Aside0 (Below w.heap.size w w24) := ⟨h3_⟩; clear h0_ h1_ h2_ h3_
     have hHeld : w24.cell? ⟨gb804, 0, none⟩ = some (.bool t799) ∧ w24.cell? ⟨gb804, 1, none⟩ = some (.slice Ao20 t800.length co20) := hS_
     obtain ⟨Ao25, co25, eo25⟩ := Kd.R_slice HO808.out
     (first | subst eo25 | (injection eo25 with f1_ f2_ f3_; have f4_ := f1_.symm; have f5_ := f3_.symm; clear f1_ f2_ f3_; subst f4_; subst f5_))
     refine normF_ (a' := ?_) ?_ ?_
     rotate_left
     ·
      simp only [putAll, Act.put, List.setIfInBounds_toArray, List.set_cons_zero, List.set_cons_succ]
      rfl
     refine joinF_ (σ := Value × Value × Value) 3 (uA 13 255) (fun s_ => [(43, .agg #[.bool t805, s_.1]), (44, .tuple #[.agg #[.bool t809, s_.2.1], .agg #[.bool t813, s_.2.2], .int .i64 t817]), (40, .tuple #[.agg #[.bool t809, s_.2.1], .agg #[.bool t813, s_.2.2], .int .i64 t817]), (45, .agg #[.bool t809, s_.2.1]), (46, .agg #[.bool t813, s_.2.2]), (47, .int .i64 t817)]) (fun s_ w' => (w'.cell? ⟨gb804, 0, none⟩ = some (.bool t799) ∧ w'.cell? ⟨gb804, 1, none⟩ = some (.slice Ao20 t800.length co20)) ∧ (Kd.R (Kd.int .u64) 42 w' w.heap.size (fun k_ => some k_ ≠ (s_.1 : Value).ownBlock ∧ some k_ ≠ (s_.2.1 : Value).ownBlock ∧ some k_ ≠ (s_.2.2 : Value).ownBlock) (.slice Ao20 t800.length co20) t800) ∧ (Kd.R (Kd.int .u64) 42 w' w.heap.size (fun k_ => some k_ ≠ (.slice Ao20 t800.length co20 : Value).ownBlock ∧ some k_ ≠ (s_.2.1 : Value).ownBlock ∧ some k_ ≠ (s_.2.2 : Value).ownBlock) s_.1 t806) ∧ (Kd.R (Kd.int .u64) 42 w' w.heap.size (fun k_ => some k_ ≠ (.slice Ao20 t800.length co20 : Value).ownBlock ∧ some k_ ≠ (s_.1 : Value).ownBlock ∧ some k_ ≠ (s_.2.2 : Value).ownBlock) s_.2.1 t810) ∧ (Kd.R (Kd.int .u64) 42 w' w.heap.size (fun k_ => some k_ ≠ (.slice Ao20 t800.length co20 : Value).ownBlock ∧ some k_ ≠ (s_.1 : Value).ownBlock ∧ some k_ ≠ (s_.2.1 : Value).ownBlock) s_.2.2 t814) ∧ (w'.heap[gb804]? = some (.cells #[.bool t799, .slice Ao20 t800.length co20] 44 (0, 0))) ∧ (Below w.heap.size w w')) ?_ ?_
     rotate_left
     ·
      intro hJ2_3
      refine core_ (c := 3) (N := some 44) (uA 13 15) rfl rfl (coreF_of HT_.out (by kernel_rfl)) (fun _ _ _ _ _ h => h) (fun _ o_ h_ => ⟨cellA h_.1 o_, cellA h_.2 o_⟩) (fun wB_ hBw_ hHeld K hK => ?_)
      (try replace HO802 := Aside0.mk (Kd.R_below HO802.out hBw_))
      (try replace HO808 := Aside0.mk (Kd.R_below HO808.out hBw_))
      (try replace HO812 := Aside0.mk (Kd.R_below HO812.out hBw_))
      (try replace HO816 := Aside0.mk (Kd.R_below HO816.out hBw_))
      (try replace BK804 := Aside0.mk (blk_below BK804.out hBw_))
      (try replace BK818 := Aside0.mk (blk_below BK818.out hBw_))
      (try replace BK819 := Aside0.mk (blk_below BK819.out hBw_))
      (try replace HB := Aside0.mk (below_step HB.out hBw_))
      refine goes_ Try.func22 (by kernel_rfl) rfl #[.agg #[.bool t799, .slice Ao20 t800.length co20], .agg #[.bool t805, .slice Ao25 t806.length co25]] (by rfl) rfl rfl uM ?_
      with_reducible refine (windbreakref03_Floor.calls kj4 t799 _ _ t800 t805 _ _ t806 t809 t810 t813 t814 t817 _ ?side1 ?side2 ?side3 ?side4 A13.out).mono ?_
      (case side1 => exact uC (Kd.R_reads' HO802.out).2.2)
      (case side2 => exact (Kd.R_reads' HO802.out).2.1)
      (case side3 => exact uC (Kd.R_reads' HO808.out).2.2)
      (case side4 => exact (Kd.R_reads' HO808.out).2.1)
      rintro e w26 ⟨v811, v815, rfl, ho0, ho1, hb⟩
      refine ⟨_, rfl, ?_⟩; have HBK_ := Aside0.mk hb; have HO812 := ulo (unw (unw ho0 HO802) HO808); have HO816 := ulo (unw (unw ho1 HO802) HO808); replace HO802 := Aside0.mk (Kd.R_mono (Kd.R_told (Kd.R_told (Kd.R_old (uR HO802.out) hb) (Kd.R_base ho0)) (Kd.R_base ho1)) (fun _ h_ => h_.1)); replace HO808 := Aside0.mk (Kd.R_mono (Kd.R_told (Kd.R_told (Kd.R_old (uR HO808.out) hb) (Kd.R_base ho0)) (Kd.R_base ho1)) (fun _ h_ => h_.1)); replace BK804 := ux BK804 hb; replace HB := uy hb; (try clear hb ho0 ho1); refine hK.out _ _ ⟨(blk_cell BK804.out 0).trans rfl, (blk_cell BK804.out 1).trans rfl⟩ HBK_.out (fun hHeld => ?_); clear hK K HBK_
      refine normF_ (a' := ?_) ?_ ?_
      rotate_left
      · exact (show Act.put _ (some 44) _ = _ from uQ)
      refine pureF_ (i := 4) (N := some 40) (v := ?_) (a' := ?_) (uA 13 31) rfl rfl (pureF_of HT_.out (by kernel_rfl)) (fun _ _ _ h => h) (Or.inl ⟨by rfl, ?_⟩) ?_ ?_
      rotate_left
      ·
       intro w'
       go_simp
       with_reducible rfl
      rotate_left
      · exact uQ
      refine pureF_ (i := 5) (N := some 45) (v := ?_) (a' := ?_) (uA 13 63) rfl rfl (pureF_of HT_.out (by kernel_rfl)) (fun _ _ _ h => h) (Or.inl ⟨by rfl, ?_⟩) ?_ ?_
      rotate_left
      ·
       intro w'
       go_simp
       with_reducible rfl
      rotate_left
      · exact uQ
      refine pureF_ (i := 6) (N := some 46) (v := ?_) (a' := ?_) (uA 13 127) rfl rfl (pureF_of HT_.out (by kernel_rfl)) (fun _ _ _ h => h) (Or.inl ⟨by rfl, ?_⟩) ?_ ?_
      rotate_left
      ·
       intro w'
       go_simp
       with_reducible rfl
      rotate_left
      · exact uQ
      refine pureF_ (i := 7) (N := some 47) (v := ?_) (a' := ?_) (uA 13 255) rfl rfl (pureF_of HT_.out (by kernel_rfl)) (fun _ _ _ h => h) (Or.inl ⟨by rfl, ?_⟩) ?_ ?_
      rotate_left
      ·
       intro w'
       go_simp
       with_reducible rfl
      rotate_left
      · exact uQ
      exact normF_ uP (hJ2_3 (.slice Ao25 t806.length co25, v811, v815) _ ⟨hHeld, (uR (Kd.R_mono HO802.out (fun _ hk => ⟨hk.1.1, ⟨hk.1.2, hk.2⟩⟩))), (uR (Kd.R_mono HO808.out (fun _ hk => ⟨hk.1.1, ⟨hk.1.2, hk.2⟩⟩))), (uR (Kd.R_mono HO812.out (fun _ hk => ⟨hk.1.2, ⟨hk.2, hk.1.1⟩⟩))), (uR (Kd.R_mono HO816.out (fun _ hk => ⟨hk.1.2, ⟨hk.2, hk.1.1⟩⟩))), (uK BK804.out), uB⟩)
     rintro ⟨v807, v811, v815⟩ w26 ⟨hS_, h0_, h1_, h2_, h3_, h4_, h5_⟩
     replace HO802 : Aside0 (Kd.R (Kd.int .u64) 42 w26 w.heap.size (fun k_ => some k_ ≠ (v807 : Value).ownBlock ∧ some k_ ≠ (v811 : Value).ownBlock ∧ some k_ ≠ (v815 : Value).ownBlock) (.slice Ao20 t800.length co20) t800) := ⟨h0_⟩; have HO808 : Aside0 (Kd.R (Kd.int .u64) 42 w26 w.heap.size (fun k_ => some k_ ≠ (.slice Ao20 t800.length co20 : Value).ownBlock ∧ some k_ ≠ (v811 : Value).ownBlock ∧ some k_ ≠ (v815 : Value).ownBlock) v807 t806) := ⟨h1_⟩; have HO812 : Aside0 (Kd.R (Kd.int .u64) 42 w26 w.heap.size (fun k_ => some k_ ≠ (.slice Ao20 t800.length co20 : Value).ownBlock ∧ some k_ ≠ (v807 : Value).ownBlock ∧ some k_ ≠ (v815 : Value).ownBlock) v811 t810) := ⟨h2_⟩; have HO816 : Aside0 (Kd.R (Kd.int .u64) 42 w26 w.heap.size (fun k_ => some k_ ≠ (.slice Ao20 t800.length co20 : Value).ownBlock ∧ some k_ ≠ (v807 : Value).ownBlock ∧ some k_ ≠ (v811 : Value).ownBlock) v815 t814) := ⟨h3_⟩; replace BK804 : Aside0 (w26.heap[gb804]? = some (.cells #[.bool t799, .slice Ao20 t800.length co20] 44 (0, 0))) := ⟨h4_⟩; replace HB : Aside0 (Below w.heap.size w w26) := ⟨h5_⟩; clear h0_ h1_ h2_ h3_ h4_ h5_
     have hHeld : w26.cell? ⟨gb804, 0, none⟩ = some (.bool t799) ∧ w26.cell? ⟨gb804, 1, none⟩ = some (.slice Ao20 t800.length co20) := hS_
     refine normF_ (a' := ?_) ?_ ?_
     rotate_left
     ·
      simp only [putAll, Act.put, List.setIfInBounds_toArray, List.set_cons_zero, List.set_cons_succ]
      rfl
     refine free_ (uA 13 1023) (endF_of HT_.out (by kernel_rfl)) (fun _ o_ h_ => ⟨cellA h_.1 o_, cellA h_.2 o_⟩) (fun gs_ wF_ hl_ hBw_ hHeld hH_ => ?_)
     obtain ⟨gb818, gb819, rfl⟩ := len2 hl_
     (try replace HO802 := Aside0.mk (Kd.R_below HO802.out hBw_))
     (try replace HO808 := Aside0.mk (Kd.R_below HO808.out hBw_))
     (try replace HO812 := Aside0.mk (Kd.R_below HO812.out hBw_))
     (try replace HO816 := Aside0.mk (Kd.R_below HO816.out hBw_))
     (try replace BK804 := Aside0.mk (blk_below BK804.out hBw_))
     (try replace BK818 := Aside0.mk (blk_below BK818.out hBw_))
     (try replace BK819 := Aside0.mk (blk_below BK819.out hBw_))
     (try replace HB := Aside0.mk (below_step HB.out hBw_))
     have BK818 := Aside0.mk (show wF_.heap[gb818]? = some (.cells #[.bool false, .slice none 0 0] 44 (0, 0)) from (hH_.at 0 rfl rfl).1)
     have GW818 := Aside0.mk (Nat.le_trans HBF_.out (hH_.at 0 rfl rfl).2)
     have GE818 := Aside0.mk (Nat.le_trans HBF_.out (hH_.at 0 rfl rfl).2)
     have NB804_818 := Aside0.mk (Nat.ne_of_lt (Nat.lt_of_lt_of_le LTgb804.out (hH_.at 0 rfl rfl).2))
     have NB818_804 := Aside0.mk (Nat.ne_of_gt (Nat.lt_of_lt_of_le LTgb804.out (hH_.at 0 rfl rfl).2))
     have NB819_818 := Aside0.mk (hH_.ne 1 0 rfl rfl (by decide))
     have NB818_819 := Aside0.mk (hH_.ne 0 1 rfl rfl (by decide))
     have BK819 := Aside0.mk (show wF_.heap[gb819]? = some (.cells #[.bool false, .slice none 0 0] 44 (0, 0)) from (hH_.at 1 rfl rfl).1)
     have GW819 := Aside0.mk (Nat.le_trans HBF_.out (hH_.at 1 rfl rfl).2)
     have GE819 := Aside0.mk (Nat.le_trans HBF_.out (hH_.at 1 rfl rfl).2)
     have NB804_819 := Aside0.mk (Nat.ne_of_lt (Nat.lt_of_lt_of_le LTgb804.out (hH_.at 1 rfl rfl).2))
     have NB819_804 := Aside0.mk (Nat.ne_of_gt (Nat.lt_of_lt_of_le LTgb804.out (hH_.at 1 rfl rfl).2))
     have NB818_819 := Aside0.mk (hH_.ne 0 1 rfl rfl (by decide))
     have NB819_818 := Aside0.mk (hH_.ne 1 0 rfl rfl (by decide))
     exact norm_ uPF (hJ2_3_8_9 (v807, v811, v815, gb818, gb819) _ ⟨hHeld, (uR HO802.out), (uR HO808.out), (uR HO812.out), (uR HO816.out), (uK BK804.out), (uK BK818.out), (uK BK819.out), GW818.out, GE818.out, NB804_818.out, NB818_804.out, NB819_818.out, NB818_819.out, GW819.out, GE819.out, NB804_819.out, NB819_804.out, uB⟩)
    rintro ⟨v807, v811, v815, gb818, gb819⟩ w28 ⟨hS_, h0_, h1_, h2_, h3_, h4_, h5_, h6_, h7_, h8_, h9_, h10_, h11_, h12_, h13_, h14_, h15_, h16_, h17_⟩
    replace HO802 : Aside0 (Kd.R (Kd.int .u64) 42 w28 w.heap.size (fun k_ => some k_ ≠ (v807 : Value).ownBlock ∧ some k_ ≠ (v811 : Value).ownBlock ∧ some k_ ≠ (v815 : Value).ownBlock) (.slice Ao20 t800.length co20) t800) := ⟨h0_⟩; have HO808 : Aside0 (Kd.R (Kd.int .u64) 42 w28 w.heap.size (fun k_ => some k_ ≠ (.slice Ao20 t800.length co20 : Value).ownBlock ∧ some k_ ≠ (v811 : Value).ownBlock ∧ some k_ ≠ (v815 : Value).ownBlock) v807 t806) := ⟨h1_⟩; have HO812 : Aside0 (Kd.R (Kd.int .u64) 42 w28 w.heap.size (fun k_ => some k_ ≠ (.slice Ao20 t800.length co20 : Value).ownBlock ∧ some k_ ≠ (v807 : Value).ownBlock ∧ some k_ ≠ (v815 : Value).ownBlock) v811 t810) := ⟨h2_⟩; have HO816 : Aside0 (Kd.R (Kd.int .u64) 42 w28 w.heap.size (fun k_ => some k_ ≠ (.slice Ao20 t800.length co20 : Value).ownBlock ∧ some k_ ≠ (v807 : Value).ownBlock ∧ some k_ ≠ (v811 : Value).ownBlock) v815 t814) := ⟨h3_⟩; replace BK804 : Aside0 (w28.heap[gb804]? = some (.cells #[.bool t799, .slice Ao20 t800.length co20] 44 (0, 0))) := ⟨h4_⟩; have BK818 : Aside0 (w28.heap[gb818]? = some (.cells #[.bool false, .slice none 0 0] 44 (0, 0))) := ⟨h5_⟩; have BK819 : Aside0 (w28.heap[gb819]? = some (.cells #[.bool false, .slice none 0 0] 44 (0, 0))) := ⟨h6_⟩; have GW818 : Aside0 (w.heap.size ≤ gb818) := ⟨h7_⟩; have GE818 : Aside0 (w.heap.size ≤ gb818) := ⟨h8_⟩; have NB804_818 : Aside0 (gb804 ≠ gb818) := ⟨h9_⟩; have NB818_804 : Aside0 (gb818 ≠ gb804) := ⟨h10_⟩; have NB819_818 : Aside0 (gb819 ≠ gb818) := ⟨h11_⟩; have NB818_819 : Aside0 (gb818 ≠ gb819) := ⟨h12_⟩; have GW819 : Aside0 (w.heap.size ≤ gb819) := ⟨h13_⟩; have GE819 : Aside0 (w.heap.size ≤ gb819) := ⟨h14_⟩; have NB804_819 : Aside0 (gb804 ≠ gb819) := ⟨h15_⟩; have NB819_804 : Aside0 (gb819 ≠ gb804) := ⟨h16_⟩; replace HB : Aside0 (Below w.heap.size w w28) := ⟨h17_⟩; clear h0_ h1_ h2_ h3_ h4_ h5_ h6_ h7_ h8_ h9_ h10_ h11_ h12_ h13_ h14_ h15_ h16_ h17_
    have hHeld : w28.cell? ⟨gb804, 0, none⟩ = some (.bool t799) ∧ w28.cell? ⟨gb804, 1, none⟩ = some (.slice Ao20 t800.length co20) := hS_
    obtain ⟨Ao30, co30, eo30⟩ := Kd.R_slice HO812.out
    (first | subst eo30 | (injection eo30 with f1_ f2_ f3_; have f4_ := f1_.symm; have f5_ := f3_.symm; clear f1_ f2_ f3_; subst f4_; subst f5_))
    obtain ⟨Ao33, co33, eo33⟩ := Kd.R_slice HO816.out
    (first | subst eo33 | (injection eo33 with f1_ f2_ f3_; have f4_ := f1_.symm; have f5_ := f3_.symm; clear f1_ f2_ f3_; subst f4_; subst f5_))
    refine norm_ (a' := ?_) ?_ ?_; rotate_left
    ·
     simp only [putAll, Act.put, List.setIfInBounds_toArray, List.set_cons_zero, List.set_cons_succ]
     rfl
    refine one_ (i := 10) (N := none) (uA 13 2047) rfl rfl (one_of HT_.out (by kernel_rfl)) (by decide) (fun K hK => ?_)
    have hs29 : w28.cell? ⟨gb818, 0, none⟩ = some (.bool false) := (blk_cell BK818.out 0).trans rfl
    have hfs29 := blk_frozen BK818.out 0
    have hns29_0 := NB804_818.out
    have hns29_2 := NB819_818.out
    have hms29_0 := NB818_804.out
    have hms29_2 := NB818_819.out
    have hs31 : w28.cell? ⟨gb818, 1, none⟩ = some (.slice none 0 0) := (blk_cell BK818.out 1).trans rfl
    have hfs31 := blk_frozen BK818.out 1
    have hns31_0 := NB804_818.out
    have hns31_2 := NB819_818.out
    have hms31_0 := NB818_804.out
    have hms31_2 := NB818_819.out
    refine skip_ (w1 := ?_) (by rfl) rfl ?_ ?_
    rotate_left
    ·
     go_simp
     rfl
    refine hK.out _ _ ⟨((cell_far (p := ⟨gb818, _, none⟩) NB804_818.out _).trans (((cell_far (p := ⟨gb818, _, none⟩) NB804_818.out _).trans (hHeld.1)))), ((cell_far (p := ⟨gb818, _, none⟩) NB804_818.out _).trans (((cell_far (p := ⟨gb818, _, none⟩) NB804_818.out _).trans (hHeld.2))))⟩ (fun hHeld => ?_); clear hK K
    refine one_ (i := 11) (N := none) (uA 13 4095) rfl rfl (one_of HT_.out (by kernel_rfl)) (by decide) (fun K hK => ?_)
    have hs32 : w28.cell? ⟨gb819, 0, none⟩ = some (.bool false) := (blk_cell BK819.out 0).trans rfl
    have hfs32 := blk_frozen BK819.out 0
    have hns32_0 := NB804_819.out
    have hns32_1 := NB818_819.out
    have hms32_0 := NB819_804.out
    have hms32_1 := NB819_818.out
    have hs34 : w28.cell? ⟨gb819, 1, none⟩ = some (.slice none 0 0) := (blk_cell BK819.out 1).trans rfl
    have hfs34 := blk_frozen BK819.out 1
    have hns34_0 := NB804_819.out
    have hns34_1 := NB818_819.out
    have hms34_0 := NB819_804.out
    have hms34_1 := NB819_818.out
    refine skip_ (w1 := ?_) (by rfl) rfl ?_ ?_
    rotate_left
    ·
     go_simp
     rfl
    refine hK.out _ _ ⟨((cell_far (p := ⟨gb819, _, none⟩) NB804_819.out _).trans (((cell_far (p := ⟨gb819, _, none⟩) NB804_819.out _).trans (hHeld.1)))), ((cell_far (p := ⟨gb819, _, none⟩) NB804_819.out _).trans (((cell_far (p := ⟨gb819, _, none⟩) NB804_819.out _).trans (hHeld.2))))⟩ (fun hHeld => ?_); clear hK K
    refine upu 12 (some 14) (uA 13 8191) rfl rfl HT_ ?_
    refine done_ (done_of HT_.out (by kernel_rfl)) ?_
    have H := HS_.out; clear HS_
    by_cases c15 : t821 = true
    ·
     subst c15
     have H1 : ((windbreakref03_Small.f kj4 t813 t814).bind fun bt822 => (some (t820, bt822.1, 0))) = some (r1, r2, r3) := by rw [if_pos rfl] at H; exact H
     clear H; have H := H1; clear H1
     replace H := ub H; obtain ⟨⟨t822, t823⟩, A16, H⟩ := H
     (try dsimp only at H)
     simp only [Option.some.injEq, Prod.mk.injEq] at H
     obtain ⟨rfl, rfl, rfl⟩ := H
     have hnb35 := NB818_804.out
     have hnc35 := NB804_818.out
     have hnb36 := NB818_819.out
     have hnc36 := NB819_818.out
     obtain ⟨hcz37_0, hcz37_1, hfz37_0, hfz37_1⟩ := uz2 w28 BK818
     try go_wp2_with (first | ((with_reducible refine ug 24 rfl ?_); refine uh (some 50) rfl Try.func24 #[.agg #[.bool t809, .slice Ao30 t810.length co30]] ?_; (with_reducible refine (windbreakref03_Small.calls kj4 t809 _ _ t810 t820 true _ ?side1 ?side2 A14.out).mono ?_); (case side1 => refine (Kd.R_reads' (e := 42) (base := w.heap.size) (ok := fun k_ => (some k_ ≠ (.slice Ao20 t800.length co20 : Value).ownBlock ∧ (some k_ ≠ (v807 : Value).ownBlock ∧ some k_ ≠ (.slice Ao33 t814.length co33 : Value).ownBlock))) (n := t810.length) (c := co30) ?_).2.2; exact (uR ((Kd.R_mono (Kd.R_mono (Kd.R_far (p := ⟨gb819, 1, none⟩) (Kd.R_far (p := ⟨gb819, 0, none⟩) (Kd.R_far (p := ⟨gb818, 1, none⟩) (Kd.R_far (p := ⟨gb818, 0, none⟩) (Kd.R_types (Kd.R_types HO812.out BK818.out (by decide)) BK819.out (by decide)) (fun _ hk => hk.1.2) (.bool t809)) (fun _ hk => hk.1.2) (.slice Ao30 t810.length co30)) (fun _ hk => hk.2) (.bool t813)) (fun _ hk => hk.2) (.slice Ao33 t814.length co33)) (fun _ h_ => h_.1)) (fun _ h_ => h_.1))))); (case side2 => exact (Kd.R_reads' HO812.out).2.1); rintro e w38 ⟨rfl, hb⟩; refine ⟨_, rfl, ?_⟩; replace HO802 := Aside0.mk (Kd.R_below (uR ((Kd.R_mono (Kd.R_mono (Kd.R_far (p := ⟨gb819, 1, none⟩) (Kd.R_far (p := ⟨gb819, 0, none⟩) (Kd.R_far (p := ⟨gb818, 1, none⟩) (Kd.R_far (p := ⟨gb818, 0, none⟩) (Kd.R_types (Kd.R_types HO802.out BK818.out (by decide)) BK819.out (by decide)) (fun _ hk => hk.1.2) (.bool t809)) (fun _ hk => hk.1.2) (.slice Ao30 t810.length co30)) (fun _ hk => hk.2) (.bool t813)) (fun _ hk => hk.2) (.slice Ao33 t814.length co33)) (fun _ h_ => h_.1)) (fun _ h_ => h_.1)))) hb); replace HO808 := Aside0.mk (Kd.R_below (uR ((Kd.R_mono (Kd.R_mono (Kd.R_far (p := ⟨gb819, 1, none⟩) (Kd.R_far (p := ⟨gb819, 0, none⟩) (Kd.R_far (p := ⟨gb818, 1, none⟩) (Kd.R_far (p := ⟨gb818, 0, none⟩) (Kd.R_types (Kd.R_types HO808.out BK818.out (by decide)) BK819.out (by decide)) (fun _ hk => hk.1.2) (.bool t809)) (fun _ hk => hk.1.2) (.slice Ao30 t810.length co30)) (fun _ hk => hk.2) (.bool t813)) (fun _ hk => hk.2) (.slice Ao33 t814.length co33)) (fun _ h_ => h_.1)) (fun _ h_ => h_.1)))) hb); replace HO812 := Aside0.mk (Kd.R_below (uR ((Kd.R_mono (Kd.R_mono (Kd.R_far (p := ⟨gb819, 1, none⟩) (Kd.R_far (p := ⟨gb819, 0, none⟩) (Kd.R_far (p := ⟨gb818, 1, none⟩) (Kd.R_far (p := ⟨gb818, 0, none⟩) (Kd.R_types (Kd.R_types HO812.out BK818.out (by decide)) BK819.out (by decide)) (fun _ hk => hk.1.2) (.bool t809)) (fun _ hk => hk.1.2) (.slice Ao30 t810.length co30)) (fun _ hk => hk.2) (.bool t813)) (fun _ hk => hk.2) (.slice Ao33 t814.length co33)) (fun _ h_ => h_.1)) (fun _ h_ => h_.1)))) hb); replace HO816 := Aside0.mk (Kd.R_below (uR ((Kd.R_mono (Kd.R_mono (Kd.R_far (p := ⟨gb819, 1, none⟩) (Kd.R_far (p := ⟨gb819, 0, none⟩) (Kd.R_far (p := ⟨gb818, 1, none⟩) (Kd.R_far (p := ⟨gb818, 0, none⟩) (Kd.R_types (Kd.R_types HO816.out BK818.out (by decide)) BK819.out (by decide)) (fun _ hk => hk.1.2) (.bool t809)) (fun _ hk => hk.1.2) (.slice Ao30 t810.length co30)) (fun _ hk => hk.2) (.bool t813)) (fun _ hk => hk.2) (.slice Ao33 t814.length co33)) (fun _ h_ => h_.1)) (fun _ h_ => h_.1)))) hb); replace BK804 := Aside0.mk (blk_below (g := gb804) (o := .cells #[.bool t799, .slice Ao20 t800.length co20] 44 (0, 0)) (by refine blk_far ?_ NB804_819.out _; refine blk_far ?_ NB804_819.out _; refine blk_far ?_ NB804_818.out _; refine blk_far ?_ NB804_818.out _; exact uK BK804.out) hb); replace BK818 := Aside0.mk (blk_below (g := gb818) (o := .cells #[.bool t809, .slice Ao30 t810.length co30] 44 (0, 0)) (by refine blk_far ?_ NB818_819.out _; refine blk_far ?_ NB818_819.out _; refine blk_put (cs := #[.bool t809, .slice none 0 0]) ?_ 1 _ rfl; refine blk_put (cs := #[.bool false, .slice none 0 0]) ?_ 0 _ rfl; exact uK BK818.out) hb); replace BK819 := Aside0.mk (blk_below (g := gb819) (o := .cells #[.bool t813, .slice Ao33 t814.length co33] 44 (0, 0)) (by refine blk_put (cs := #[.bool t813, .slice none 0 0]) ?_ 1 _ rfl; refine blk_put (cs := #[.bool false, .slice none 0 0]) ?_ 0 _ rfl; refine blk_far ?_ NB819_818.out _; refine blk_far ?_ NB819_818.out _; exact uK BK819.out) hb); replace HB := uy hb; (try clear hb); (try clear hb2); (try clear hk); (try clear hi); have hnb39 := NB819_804.out; have hnc39 := NB804_819.out; obtain ⟨hcz40_0, hcz40_1, hfz40_0, hfz40_1⟩ := uz2 w38 BK819) | ((with_reducible refine ug 24 rfl ?_); refine uh (some 57) rfl Try.func24 #[.agg #[.bool t813, .slice Ao33 t814.length co33]] ?_; (with_reducible refine (windbreakref03_Small.calls kj4 t813 _ _ t814 t822 t823 _ ?side1 ?side2 A16.out).mono ?_); (case side1 => exact uC (Kd.R_reads' HO816.out).2.2); (case side2 => exact (Kd.R_reads' HO816.out).2.1); rintro e w41 ⟨rfl, hb⟩; refine ⟨_, rfl, ?_⟩; replace HO802 := urb HO802 hb; replace HO808 := urb HO808 hb; replace HO812 := urb HO812 hb; replace HO816 := urb HO816 hb; replace BK804 := ux BK804 hb; replace BK818 := ux BK818 hb; replace BK819 := ux BK819 hb; replace HB := uy hb; (try clear hb)))
     go_ret3
     exact ⟨uF, uB⟩
    replace c15 := Bool.eq_false_iff.mpr c15
    subst c15
    have H1 : (some (0, 0, 12)) = some (r1, r2, r3) := by rw [if_neg (show ¬ (false = true) by decide)] at H; exact H
    clear H; have H := H1; clear H1
    simp only [Option.some.injEq, Prod.mk.injEq] at H
    obtain ⟨rfl, rfl, rfl⟩ := H
    have hnb60 := NB818_804.out
    have hnc60 := NB804_818.out
    have hnb61 := NB818_819.out
    have hnc61 := NB819_818.out
    obtain ⟨hcz62_0, hcz62_1, hfz62_0, hfz62_1⟩ := uz2 w28 BK818
    try go_wp2_with (first | ((with_reducible refine ug 24 rfl ?_); refine uh (some 50) rfl Try.func24 #[.agg #[.bool t809, .slice Ao30 t810.length co30]] ?_; (with_reducible refine (windbreakref03_Small.calls kj4 t809 _ _ t810 t820 false _ ?side1 ?side2 A14.out).mono ?_); (case side1 => refine (Kd.R_reads' (e := 42) (base := w.heap.size) (ok := fun k_ => (some k_ ≠ (.slice Ao20 t800.length co20 : Value).ownBlock ∧ (some k_ ≠ (v807 : Value).ownBlock ∧ some k_ ≠ (.slice Ao33 t814.length co33 : Value).ownBlock))) (n := t810.length) (c := co30) ?_).2.2; exact (uR ((Kd.R_mono (Kd.R_mono (Kd.R_far (p := ⟨gb819, 1, none⟩) (Kd.R_far (p := ⟨gb819, 0, none⟩) (Kd.R_far (p := ⟨gb818, 1, none⟩) (Kd.R_far (p := ⟨gb818, 0, none⟩) (Kd.R_types (Kd.R_types HO812.out BK818.out (by decide)) BK819.out (by decide)) (fun _ hk => hk.1.2) (.bool t809)) (fun _ hk => hk.1.2) (.slice Ao30 t810.length co30)) (fun _ hk => hk.2) (.bool t813)) (fun _ hk => hk.2) (.slice Ao33 t814.length co33)) (fun _ h_ => h_.1)) (fun _ h_ => h_.1))))); (case side2 => exact (Kd.R_reads' HO812.out).2.1); rintro e w63 ⟨rfl, hb⟩; refine ⟨_, rfl, ?_⟩; replace HO802 := Aside0.mk (Kd.R_below (uR ((Kd.R_mono (Kd.R_mono (Kd.R_far (p := ⟨gb819, 1, none⟩) (Kd.R_far (p := ⟨gb819, 0, none⟩) (Kd.R_far (p := ⟨gb818, 1, none⟩) (Kd.R_far (p := ⟨gb818, 0, none⟩) (Kd.R_types (Kd.R_types HO802.out BK818.out (by decide)) BK819.out (by decide)) (fun _ hk => hk.1.2) (.bool t809)) (fun _ hk => hk.1.2) (.slice Ao30 t810.length co30)) (fun _ hk => hk.2) (.bool t813)) (fun _ hk => hk.2) (.slice Ao33 t814.length co33)) (fun _ h_ => h_.1)) (fun _ h_ => h_.1)))) hb); replace HO808 := Aside0.mk (Kd.R_below (uR ((Kd.R_mono (Kd.R_mono (Kd.R_far (p := ⟨gb819, 1, none⟩) (Kd.R_far (p := ⟨gb819, 0, none⟩) (Kd.R_far (p := ⟨gb818, 1, none⟩) (Kd.R_far (p := ⟨gb818, 0, none⟩) (Kd.R_types (Kd.R_types HO808.out BK818.out (by decide)) BK819.out (by decide)) (fun _ hk => hk.1.2) (.bool t809)) (fun _ hk => hk.1.2) (.slice Ao30 t810.length co30)) (fun _ hk => hk.2) (.bool t813)) (fun _ hk => hk.2) (.slice Ao33 t814.length co33)) (fun _ h_ => h_.1)) (fun _ h_ => h_.1)))) hb); replace HO812 := Aside0.mk (Kd.R_below (uR ((Kd.R_mono (Kd.R_mono (Kd.R_far (p := ⟨gb819, 1, none⟩) (Kd.R_far (p := ⟨gb819, 0, none⟩) (Kd.R_far (p := ⟨gb818, 1, none⟩) (Kd.R_far (p := ⟨gb818, 0, none⟩) (Kd.R_types (Kd.R_types HO812.out BK818.out (by decide)) BK819.out (by decide)) (fun _ hk => hk.1.2) (.bool t809)) (fun _ hk => hk.1.2) (.slice Ao30 t810.length co30)) (fun _ hk => hk.2) (.bool t813)) (fun _ hk => hk.2) (.slice Ao33 t814.length co33)) (fun _ h_ => h_.1)) (fun _ h_ => h_.1)))) hb); replace HO816 := Aside0.mk (Kd.R_below (uR ((Kd.R_mono (Kd.R_mono (Kd.R_far (p := ⟨gb819, 1, none⟩) (Kd.R_far (p := ⟨gb819, 0, none⟩) (Kd.R_far (p := ⟨gb818, 1, none⟩) (Kd.R_far (p := ⟨gb818, 0, none⟩) (Kd.R_types (Kd.R_types HO816.out BK818.out (by decide)) BK819.out (by decide)) (fun _ hk => hk.1.2) (.bool t809)) (fun _ hk => hk.1.2) (.slice Ao30 t810.length co30)) (fun _ hk => hk.2) (.bool t813)) (fun _ hk => hk.2) (.slice Ao33 t814.length co33)) (fun _ h_ => h_.1)) (fun _ h_ => h_.1)))) hb); replace BK804 := Aside0.mk (blk_below (g := gb804) (o := .cells #[.bool t799, .slice Ao20 t800.length co20] 44 (0, 0)) (by refine blk_far ?_ NB804_819.out _; refine blk_far ?_ NB804_819.out _; refine blk_far ?_ NB804_818.out _; refine blk_far ?_ NB804_818.out _; exact uK BK804.out) hb); replace BK818 := Aside0.mk (blk_below (g := gb818) (o := .cells #[.bool t809, .slice Ao30 t810.length co30] 44 (0, 0)) (by refine blk_far ?_ NB818_819.out _; refine blk_far ?_ NB818_819.out _; refine blk_put (cs := #[.bool t809, .slice none 0 0]) ?_ 1 _ rfl; refine blk_put (cs := #[.bool false, .slice none 0 0]) ?_ 0 _ rfl; exact uK BK818.out) hb); replace BK819 := Aside0.mk (blk_below (g := gb819) (o := .cells #[.bool t813, .slice Ao33 t814.length co33] 44 (0, 0)) (by refine blk_put (cs := #[.bool t813, .slice none 0 0]) ?_ 1 _ rfl; refine blk_put (cs := #[.bool false, .slice none 0 0]) ?_ 0 _ rfl; refine blk_far ?_ NB819_818.out _; refine blk_far ?_ NB819_818.out _; exact uK BK819.out) hb); replace HB := uy hb; (try clear hb); (try clear hb2); (try clear hk); (try clear hi)))
    go_ret3
    exact ⟨uF, uB⟩
   rw [if_neg c11] at H
   have c11b0 := beq_eq_false_iff_ne.mpr c11
   have c11b1 := bne_iff_ne.mpr c11
   simp only [Option.some.injEq, Prod.mk.injEq] at H
   obtain ⟨rfl, rfl, rfl⟩ := H
   go_wp2_with (first | ((with_reducible refine ug 21 rfl ?_); refine uh (some 34) rfl Try.func21 #[.slice A0 l0.length c0, .slice A2 l2.length c2] ?_; (with_reducible refine (windbreakref07_Decode.calls kj4 _ _ l0 _ _ l2 t799 t800 t803 _ ?side1 ?side2 ?side3 ?side4 A10.out).mono ?_); (case side1 => exact uC (Kd.C_below HR0.out HB.out)); (case side2 => exact HC0.out); (case side3 => exact uC (Kd.C_below HR2.out HB.out)); (case side4 => exact HC2.out); rintro e w64 ⟨v801, rfl, ho0, hb⟩; refine ⟨_, rfl, ?_⟩; have HO802 := ulo ho0; replace HB := uy hb; (try clear hb ho0)) | ((with_reducible refine gate_dst (N := 10) rfl ?_); refine ubx 10 #[.bool false, .slice none 0 0] 44 rfl rfl ?_; intro gb804 hg w65 hbox hb; replace HO802 := urb HO802 hb; have BK804 := Aside0.mk (hbox); have GW804 := us hg; have GE804 := us hg; replace HB := uy hb; clear hb hbox hg; obtain ⟨hcz66_0, hcz66_1, hfz66_0, hfz66_1⟩ := uz2 w65 BK804; obtain ⟨Ao67, co67, eo67⟩ := Kd.R_slice HO802.out; subst eo67))
   go_ret3
   exact ⟨uF, uB⟩
def windbreaklaw07_FixencUnpacks.f (k : Nat) (l0 : List Int) (a1 : Int) (l2 : List Int) : Option (Bool) := (windbreaklaw07_few.f k (([l0, l2] : List (List Int)))).bind fun t827 => (if t827 = true then ((windbreaklaw07_awake.f k).bind fun t828 => ((fixenc_Unpack.f k l0 a1 l2).bind fun bt829 => ((windbreakref07_Unpack.f k l0 a1 l2).bind fun bt832 => (if t828 = true then (if bt829.1 = bt832.1 then (if bt829.2.1 = bt832.2.1 then (some (bt829.2.2 == bt832.2.2)) else (some false)) else (some false)) else (some false))))) else (some true))
theorem windbreaklaw07_FixencUnpacks.calls (k : Nat) (P0_ : Nat → Prop) (A0 : Option Addr) (c0 : Nat) (l0 : List Int) (a1 : Int) (P2_ : Nat → Prop) (A2 : Option Addr) (c2 : Nat) (l2 : List Int) (r : Bool) (w : World) (hs0 : Kd.V (Kd.int .u64) 42 w w.heap.size (fun k_ => P0_ k_) (.slice A0 l0.length c0) l0) (hs2 : Kd.V (Kd.int .u64) 42 w w.heap.size (fun k_ => P2_ k_) (.slice A2 l2.length c2) l2) (h : windbreaklaw07_FixencUnpacks.f k l0 a1 l2 = some r) :
  Calls Try.prog 3 #[.slice A0 l0.length c0, .int .i64 a1, .slice A2 l2.length c2] w fun e w' => e = .returned (.bool r) ∧ Below w.heap.size w w' := by
 have HO0 := Aside0.mk (show Kd.V (Kd.int .u64) 42 w w.heap.size (fun k_ => ((P0_ k_ ∨ P2_ k_) ∨ w.heap.size ≤ k_)) (.slice A0 l0.length c0) l0 from Kd.V_mono hs0 (fun k_ hk => .inl (.inl hk)))
 have HO2 := Aside0.mk (show Kd.V (Kd.int .u64) 42 w w.heap.size (fun k_ => ((P0_ k_ ∨ P2_ k_) ∨ w.heap.size ≤ k_)) (.slice A2 l2.length c2) l2 from Kd.V_mono hs2 (fun k_ hk => .inl (.inr hk)))
 have HB := Aside0.mk (Below.refl w.heap.size w)
 have H : ((windbreaklaw07_few.f k (([l0, l2] : List (List Int)))).bind fun t827 => (if t827 = true then ((windbreaklaw07_awake.f k).bind fun t828 => ((fixenc_Unpack.f k l0 a1 l2).bind fun bt829 => ((windbreakref07_Unpack.f k l0 a1 l2).bind fun bt832 => (if t828 = true then (if bt829.1 = bt832.1 then (if bt829.2.1 = bt832.2.1 then (some (bt829.2.2 == bt832.2.2)) else (some false)) else (some false)) else (some false))))) else (some true))) = some r := h
 clear h
 obtain ⟨y824, hy824⟩ : ∃ y_ : List (List Int), y_ = (([l0, l2] : List (List Int))) := ⟨_, rfl⟩
 replace H : ((windbreaklaw07_few.f k y824).bind fun t827 => (if t827 = true then ((windbreaklaw07_awake.f k).bind fun t828 => ((fixenc_Unpack.f k l0 a1 l2).bind fun bt829 => ((windbreakref07_Unpack.f k l0 a1 l2).bind fun bt832 => (if t828 = true then (if bt829.1 = bt832.1 then (if bt829.2.1 = bt832.2.1 then (some (bt829.2.2 == bt832.2.2)) else (some false)) else (some false)) else (some false))))) else (some true))) = some r := by first | (rw [hy824]; with_reducible exact H) | (have H2_ := (Option.bind_some _ _).symm.trans H; rw [hy824]; with_reducible exact H2_) | (have H2_ := (Option.bind_some _ _).symm.trans H; with_reducible exact H2_) | with_reducible exact H | (rw [hy824]; exact H) | exact H
 have Ny824 := Aside0.mk hy824; clear hy824
 replace H := ub H; obtain ⟨t827, A4, H⟩ := H
 by_cases c5 : t827 = true
 ·
  subst c5
  have H1 : ((windbreaklaw07_awake.f k).bind fun t828 => ((fixenc_Unpack.f k l0 a1 l2).bind fun bt829 => ((windbreakref07_Unpack.f k l0 a1 l2).bind fun bt832 => (if t828 = true then (if bt829.1 = bt832.1 then (if bt829.2.1 = bt832.2.1 then (some (bt829.2.2 == bt832.2.2)) else (some false)) else (some false)) else (some false))))) = some r := by rw [if_pos rfl] at H; exact H
  clear H; have H := H1; clear H1
  replace H := ub H; obtain ⟨t828, A6, H⟩ := H
  replace H := ub H; obtain ⟨⟨t829, t830, t831⟩, A7, H⟩ := H
  (try dsimp only at H)
  replace H := ub H; obtain ⟨⟨t832, t833, t834⟩, A8, H⟩ := H
  (try dsimp only at H)
  by_cases c9 : t828 = true
  ·
   subst c9
   have H1 : (if t829 = t832 then (if t830 = t833 then (some (t831 == t834)) else (some false)) else (some false)) = some r := by rw [if_pos rfl] at H; exact H
   clear H; have H := H1; clear H1
   by_cases c10 : t829 = t832
   ·
    rw [if_pos c10] at H
    have c10b0 := beq_iff_eq.mpr c10
    have c10b1 := bne_eq_false_iff_eq.mpr c10
    clear c10
    by_cases c11 : t830 = t833
    ·
     rw [if_pos c11] at H
     have c11b0 := beq_iff_eq.mpr c11
     have c11b1 := bne_eq_false_iff_eq.mpr c11
     clear c11
     obtain rfl := Option.some.inj H
     go_enter Try.func3, Try.ntmps3
     go_wp2_with (first | ((with_reducible refine gate_dst (N := 16) rfl ?_); refine Kd.N_lit (Kd.slice 42 (Kd.int .u64)) _ 23 ?hg (N' := 16) ?hd (xs := ([l0, l2] : List (List Int))) (inner := [.slice A0 l0.length c0, .slice A2 l2.length c2]) (ok := (fun k_ => ((P0_ k_ ∨ P2_ k_) ∨ w.heap.size ≤ k_))) (okp := (fun k_ => ((P0_ k_ ∨ P2_ k_) ∨ w.heap.size ≤ k_))) ?hr ?hp (fun _ hk => hk) ((show ∀ k_, w.heap.size ≤ k_ → (fun k_ => ((P0_ k_ ∨ P2_ k_) ∨ w.heap.size ≤ k_)) k_ from fun k_ hk => (.inr (Nat.le_trans (below_size uB) hk))) _ (Nat.le_refl _)) (Below.refl _ _) (Nat.le_refl _) (by simp) ?_; (case hd => rfl); (case hg => rfl); (case hr => first | (go_simp; done) | (go_simp; rfl) | (go_simp; simp only [u64_u8]; done) | (go_simp; simp only [u64_u8]; rfl)); (case hp => exact (Reps.one (show Kd.FK (Kd.slice 42 (Kd.int .u64)) _ _ l0 [.slice A0 l0.length c0] from (Kd.FK_slice_mk (Kd.V_reads' (Kd.V_mono (ok' := (fun k_ => ((P0_ k_ ∨ P2_ k_) ∨ w.heap.size ≤ k_))) (HO0.out) (fun k_ hk => hk))).2.1 (Kd.V_F (Kd.V_mono (ok' := (fun k_ => ((P0_ k_ ∨ P2_ k_) ∨ w.heap.size ≤ k_))) (HO0.out) (fun k_ hk => hk))))) (Reps.one (show Kd.FK (Kd.slice 42 (Kd.int .u64)) _ _ l2 [.slice A2 l2.length c2] from (Kd.FK_slice_mk (Kd.V_reads' (Kd.V_mono (ok' := (fun k_ => ((P0_ k_ ∨ P2_ k_) ∨ w.heap.size ≤ k_))) (HO2.out) (fun k_ hk => hk))).2.1 (Kd.V_F (Kd.V_mono (ok' := (fun k_ => ((P0_ k_ ∨ P2_ k_) ∨ w.heap.size ≤ k_))) (HO2.out) (fun k_ hk => hk))))) (Reps.none _ _)))); intro v825 w12 ho13 hb hg_ hnew_; clear hg_ hnew_; (first | rw [← Ny824.out] at ho13 | (simp only [Int.reduceToNat] at ho13; rw [← Ny824.out] at ho13)); replace HO0 := Aside0.mk (Kd.V_elder' (uV HO0.out) (Kd.N_base ho13) hb); replace HO2 := Aside0.mk (Kd.V_elder' (uV HO2.out) (Kd.N_base ho13) hb); have HO826 := Aside0.mk (Kd.N_lower ho13 (below_size uB)); replace HB := uy hb; clear hb ho13; obtain ⟨Ao14, co14, eo14⟩ := Kd.N_slice HO826.out; subst eo14) | ((with_reducible refine ug 5 rfl ?_); refine uh (some 17) rfl Try.func5 #[.slice Ao14 y824.length co14] ?_; (with_reducible refine (windbreaklaw07_few.calls k _ _ y824 true _ ?side1 ?side2 A4.out).mono ?_); (case side1 => exact uC (Kd.N_reads' HO826.out).2.2); (case side2 => exact (Kd.N_reads' HO826.out).2.1); rintro e w' ⟨rfl, ⟨nd, rfl⟩⟩; refine ⟨_, rfl, ?_⟩) | ((with_reducible refine ug 6 rfl ?_); refine uh (some 19) rfl Try.func6 #[] ?_; (with_reducible refine (windbreaklaw07_awake.calls k  true _ A6.out).mono ?_); rintro e w15 ⟨rfl, hb⟩; refine ⟨_, rfl, ?_⟩; replace HO0 := Aside0.mk (Kd.V_below (uV HO0.out) hb); replace HO2 := Aside0.mk (Kd.V_below (uV HO2.out) hb); replace HO826 := Aside0.mk (Kd.N_below (uN HO826.out) hb); replace HB := uy hb; (try clear hb)) | ((with_reducible refine ug 7 rfl ?_); refine uh (some 24) rfl Try.func7 #[.slice A0 l0.length c0, .int .i64 a1, .slice A2 l2.length c2] ?_; (with_reducible refine (fixenc_Unpack.calls k _ _ l0 a1 _ _ l2 t829 t830 t831 _ ?side1 ?side2 ?side3 ?side4 A7.out).mono ?_); (case side1 => exact uC (Kd.V_reads' HO0.out).2.2); (case side2 => exact (Kd.V_reads' HO0.out).2.1); (case side3 => exact uC (Kd.V_reads' HO2.out).2.2); (case side4 => exact (Kd.V_reads' HO2.out).2.1); rintro e w16 ⟨rfl, hb⟩; refine ⟨_, rfl, ?_⟩; replace HO0 := Aside0.mk (Kd.V_below (uV HO0.out) hb); replace HO2 := Aside0.mk (Kd.V_below (uV HO2.out) hb); replace HO826 := Aside0.mk (Kd.N_below (uN HO826.out) hb); replace HB := uy hb; (try clear hb)) | ((with_reducible refine ug 8 rfl ?_); refine uh (some 32) rfl Try.func8 #[.slice A0 l0.length c0, .int .i64 a1, .slice A2 l2.length c2] ?_; (with_reducible refine (windbreakref07_Unpack.calls k _ _ l0 a1 _ _ l2 t832 t833 t834 _ ?side1 ?side2 ?side3 ?side4 A8.out).mono ?_); (case side1 => exact uC (Kd.V_reads' HO0.out).2.2); (case side2 => exact (Kd.V_reads' HO0.out).2.1); (case side3 => exact uC (Kd.V_reads' HO2.out).2.2); (case side4 => exact (Kd.V_reads' HO2.out).2.1); rintro e w17 ⟨rfl, hb⟩; refine ⟨_, rfl, ?_⟩; replace HO0 := Aside0.mk (Kd.V_below (uV HO0.out) hb); replace HO2 := Aside0.mk (Kd.V_below (uV HO2.out) hb); replace HO826 := Aside0.mk (Kd.N_below (uN HO826.out) hb); replace HB := uy hb; (try clear hb)))
     go_ret
     exact ⟨uF, uB⟩
    rw [if_neg c11] at H
    have c11b0 := beq_eq_false_iff_ne.mpr c11
    have c11b1 := bne_iff_ne.mpr c11
    obtain rfl := Option.some.inj H
    go_enter Try.func3, Try.ntmps3
    go_wp2_with (first | ((with_reducible refine gate_dst (N := 16) rfl ?_); refine Kd.N_lit (Kd.slice 42 (Kd.int .u64)) _ 23 ?hg (N' := 16) ?hd (xs := ([l0, l2] : List (List Int))) (inner := [.slice A0 l0.length c0, .slice A2 l2.length c2]) (ok := (fun k_ => ((P0_ k_ ∨ P2_ k_) ∨ w.heap.size ≤ k_))) (okp := (fun k_ => ((P0_ k_ ∨ P2_ k_) ∨ w.heap.size ≤ k_))) ?hr ?hp (fun _ hk => hk) ((show ∀ k_, w.heap.size ≤ k_ → (fun k_ => ((P0_ k_ ∨ P2_ k_) ∨ w.heap.size ≤ k_)) k_ from fun k_ hk => (.inr (Nat.le_trans (below_size uB) hk))) _ (Nat.le_refl _)) (Below.refl _ _) (Nat.le_refl _) (by simp) ?_; (case hd => rfl); (case hg => rfl); (case hr => first | (go_simp; done) | (go_simp; rfl) | (go_simp; simp only [u64_u8]; done) | (go_simp; simp only [u64_u8]; rfl)); (case hp => exact (Reps.one (show Kd.FK (Kd.slice 42 (Kd.int .u64)) _ _ l0 [.slice A0 l0.length c0] from (Kd.FK_slice_mk (Kd.V_reads' (Kd.V_mono (ok' := (fun k_ => ((P0_ k_ ∨ P2_ k_) ∨ w.heap.size ≤ k_))) (HO0.out) (fun k_ hk => hk))).2.1 (Kd.V_F (Kd.V_mono (ok' := (fun k_ => ((P0_ k_ ∨ P2_ k_) ∨ w.heap.size ≤ k_))) (HO0.out) (fun k_ hk => hk))))) (Reps.one (show Kd.FK (Kd.slice 42 (Kd.int .u64)) _ _ l2 [.slice A2 l2.length c2] from (Kd.FK_slice_mk (Kd.V_reads' (Kd.V_mono (ok' := (fun k_ => ((P0_ k_ ∨ P2_ k_) ∨ w.heap.size ≤ k_))) (HO2.out) (fun k_ hk => hk))).2.1 (Kd.V_F (Kd.V_mono (ok' := (fun k_ => ((P0_ k_ ∨ P2_ k_) ∨ w.heap.size ≤ k_))) (HO2.out) (fun k_ hk => hk))))) (Reps.none _ _)))); intro v825 w18 ho19 hb hg_ hnew_; clear hg_ hnew_; (first | rw [← Ny824.out] at ho19 | (simp only [Int.reduceToNat] at ho19; rw [← Ny824.out] at ho19)); replace HO0 := Aside0.mk (Kd.V_elder' (uV HO0.out) (Kd.N_base ho19) hb); replace HO2 := Aside0.mk (Kd.V_elder' (uV HO2.out) (Kd.N_base ho19) hb); have HO826 := Aside0.mk (Kd.N_lower ho19 (below_size uB)); replace HB := uy hb; clear hb ho19; obtain ⟨Ao20, co20, eo20⟩ := Kd.N_slice HO826.out; subst eo20) | ((with_reducible refine ug 5 rfl ?_); refine uh (some 17) rfl Try.func5 #[.slice Ao20 y824.length co20] ?_; (with_reducible refine (windbreaklaw07_few.calls k _ _ y824 true _ ?side1 ?side2 A4.out).mono ?_); (case side1 => exact uC (Kd.N_reads' HO826.out).2.2); (case side2 => exact (Kd.N_reads' HO826.out).2.1); rintro e w' ⟨rfl, ⟨nd, rfl⟩⟩; refine ⟨_, rfl, ?_⟩) | ((with_reducible refine ug 6 rfl ?_); refine uh (some 19) rfl Try.func6 #[] ?_; (with_reducible refine (windbreaklaw07_awake.calls k  true _ A6.out).mono ?_); rintro e w21 ⟨rfl, hb⟩; refine ⟨_, rfl, ?_⟩; replace HO0 := Aside0.mk (Kd.V_below (uV HO0.out) hb); replace HO2 := Aside0.mk (Kd.V_below (uV HO2.out) hb); replace HO826 := Aside0.mk (Kd.N_below (uN HO826.out) hb); replace HB := uy hb; (try clear hb)) | ((with_reducible refine ug 7 rfl ?_); refine uh (some 24) rfl Try.func7 #[.slice A0 l0.length c0, .int .i64 a1, .slice A2 l2.length c2] ?_; (with_reducible refine (fixenc_Unpack.calls k _ _ l0 a1 _ _ l2 t829 t830 t831 _ ?side1 ?side2 ?side3 ?side4 A7.out).mono ?_); (case side1 => exact uC (Kd.V_reads' HO0.out).2.2); (case side2 => exact (Kd.V_reads' HO0.out).2.1); (case side3 => exact uC (Kd.V_reads' HO2.out).2.2); (case side4 => exact (Kd.V_reads' HO2.out).2.1); rintro e w22 ⟨rfl, hb⟩; refine ⟨_, rfl, ?_⟩; replace HO0 := Aside0.mk (Kd.V_below (uV HO0.out) hb); replace HO2 := Aside0.mk (Kd.V_below (uV HO2.out) hb); replace HO826 := Aside0.mk (Kd.N_below (uN HO826.out) hb); replace HB := uy hb; (try clear hb)) | ((with_reducible refine ug 8 rfl ?_); refine uh (some 32) rfl Try.func8 #[.slice A0 l0.length c0, .int .i64 a1, .slice A2 l2.length c2] ?_; (with_reducible refine (windbreakref07_Unpack.calls k _ _ l0 a1 _ _ l2 t832 t833 t834 _ ?side1 ?side2 ?side3 ?side4 A8.out).mono ?_); (case side1 => exact uC (Kd.V_reads' HO0.out).2.2); (case side2 => exact (Kd.V_reads' HO0.out).2.1); (case side3 => exact uC (Kd.V_reads' HO2.out).2.2); (case side4 => exact (Kd.V_reads' HO2.out).2.1); rintro e w23 ⟨rfl, hb⟩; refine ⟨_, rfl, ?_⟩; replace HO0 := Aside0.mk (Kd.V_below (uV HO0.out) hb); replace HO2 := Aside0.mk (Kd.V_below (uV HO2.out) hb); replace HO826 := Aside0.mk (Kd.N_below (uN HO826.out) hb); replace HB := uy hb; (try clear hb)))
    go_ret
    exact ⟨uF, uB⟩
   rw [if_neg c10] at H
   have c10b0 := beq_eq_false_iff_ne.mpr c10
   have c10b1 := bne_iff_ne.mpr c10
   obtain rfl := Option.some.inj H
   go_enter Try.func3, Try.ntmps3
   go_wp2_with (first | ((with_reducible refine gate_dst (N := 16) rfl ?_); refine Kd.N_lit (Kd.slice 42 (Kd.int .u64)) _ 23 ?hg (N' := 16) ?hd (xs := ([l0, l2] : List (List Int))) (inner := [.slice A0 l0.length c0, .slice A2 l2.length c2]) (ok := (fun k_ => ((P0_ k_ ∨ P2_ k_) ∨ w.heap.size ≤ k_))) (okp := (fun k_ => ((P0_ k_ ∨ P2_ k_) ∨ w.heap.size ≤ k_))) ?hr ?hp (fun _ hk => hk) ((show ∀ k_, w.heap.size ≤ k_ → (fun k_ => ((P0_ k_ ∨ P2_ k_) ∨ w.heap.size ≤ k_)) k_ from fun k_ hk => (.inr (Nat.le_trans (below_size uB) hk))) _ (Nat.le_refl _)) (Below.refl _ _) (Nat.le_refl _) (by simp) ?_; (case hd => rfl); (case hg => rfl); (case hr => first | (go_simp; done) | (go_simp; rfl) | (go_simp; simp only [u64_u8]; done) | (go_simp; simp only [u64_u8]; rfl)); (case hp => exact (Reps.one (show Kd.FK (Kd.slice 42 (Kd.int .u64)) _ _ l0 [.slice A0 l0.length c0] from (Kd.FK_slice_mk (Kd.V_reads' (Kd.V_mono (ok' := (fun k_ => ((P0_ k_ ∨ P2_ k_) ∨ w.heap.size ≤ k_))) (HO0.out) (fun k_ hk => hk))).2.1 (Kd.V_F (Kd.V_mono (ok' := (fun k_ => ((P0_ k_ ∨ P2_ k_) ∨ w.heap.size ≤ k_))) (HO0.out) (fun k_ hk => hk))))) (Reps.one (show Kd.FK (Kd.slice 42 (Kd.int .u64)) _ _ l2 [.slice A2 l2.length c2] from (Kd.FK_slice_mk (Kd.V_reads' (Kd.V_mono (ok' := (fun k_ => ((P0_ k_ ∨ P2_ k_) ∨ w.heap.size ≤ k_))) (HO2.out) (fun k_ hk => hk))).2.1 (Kd.V_F (Kd.V_mono (ok' := (fun k_ => ((P0_ k_ ∨ P2_ k_) ∨ w.heap.size ≤ k_))) (HO2.out) (fun k_ hk => hk))))) (Reps.none _ _)))); intro v825 w24 ho25 hb hg_ hnew_; clear hg_ hnew_; (first | rw [← Ny824.out] at ho25 | (simp only [Int.reduceToNat] at ho25; rw [← Ny824.out] at ho25)); replace HO0 := Aside0.mk (Kd.V_elder' (uV HO0.out) (Kd.N_base ho25) hb); replace HO2 := Aside0.mk (Kd.V_elder' (uV HO2.out) (Kd.N_base ho25) hb); have HO826 := Aside0.mk (Kd.N_lower ho25 (below_size uB)); replace HB := uy hb; clear hb ho25; obtain ⟨Ao26, co26, eo26⟩ := Kd.N_slice HO826.out; subst eo26) | ((with_reducible refine ug 5 rfl ?_); refine uh (some 17) rfl Try.func5 #[.slice Ao26 y824.length co26] ?_; (with_reducible refine (windbreaklaw07_few.calls k _ _ y824 true _ ?side1 ?side2 A4.out).mono ?_); (case side1 => exact uC (Kd.N_reads' HO826.out).2.2); (case side2 => exact (Kd.N_reads' HO826.out).2.1); rintro e w' ⟨rfl, ⟨nd, rfl⟩⟩; refine ⟨_, rfl, ?_⟩) | ((with_reducible refine ug 6 rfl ?_); refine uh (some 19) rfl Try.func6 #[] ?_; (with_reducible refine (windbreaklaw07_awake.calls k  true _ A6.out).mono ?_); rintro e w27 ⟨rfl, hb⟩; refine ⟨_, rfl, ?_⟩; replace HO0 := Aside0.mk (Kd.V_below (uV HO0.out) hb); replace HO2 := Aside0.mk (Kd.V_below (uV HO2.out) hb); replace HO826 := Aside0.mk (Kd.N_below (uN HO826.out) hb); replace HB := uy hb; (try clear hb)) | ((with_reducible refine ug 7 rfl ?_); refine uh (some 24) rfl Try.func7 #[.slice A0 l0.length c0, .int .i64 a1, .slice A2 l2.length c2] ?_; (with_reducible refine (fixenc_Unpack.calls k _ _ l0 a1 _ _ l2 t829 t830 t831 _ ?side1 ?side2 ?side3 ?side4 A7.out).mono ?_); (case side1 => exact uC (Kd.V_reads' HO0.out).2.2); (case side2 => exact (Kd.V_reads' HO0.out).2.1); (case side3 => exact uC (Kd.V_reads' HO2.out).2.2); (case side4 => exact (Kd.V_reads' HO2.out).2.1); rintro e w28 ⟨rfl, hb⟩; refine ⟨_, rfl, ?_⟩; replace HO0 := Aside0.mk (Kd.V_below (uV HO0.out) hb); replace HO2 := Aside0.mk (Kd.V_below (uV HO2.out) hb); replace HO826 := Aside0.mk (Kd.N_below (uN HO826.out) hb); replace HB := uy hb; (try clear hb)) | ((with_reducible refine ug 8 rfl ?_); refine uh (some 32) rfl Try.func8 #[.slice A0 l0.length c0, .int .i64 a1, .slice A2 l2.length c2] ?_; (with_reducible refine (windbreakref07_Unpack.calls k _ _ l0 a1 _ _ l2 t832 t833 t834 _ ?side1 ?side2 ?side3 ?side4 A8.out).mono ?_); (case side1 => exact uC (Kd.V_reads' HO0.out).2.2); (case side2 => exact (Kd.V_reads' HO0.out).2.1); (case side3 => exact uC (Kd.V_reads' HO2.out).2.2); (case side4 => exact (Kd.V_reads' HO2.out).2.1); rintro e w29 ⟨rfl, hb⟩; refine ⟨_, rfl, ?_⟩; replace HO0 := Aside0.mk (Kd.V_below (uV HO0.out) hb); replace HO2 := Aside0.mk (Kd.V_below (uV HO2.out) hb); replace HO826 := Aside0.mk (Kd.N_below (uN HO826.out) hb); replace HB := uy hb; (try clear hb)))
   go_ret
   exact ⟨uF, uB⟩
  replace c9 := Bool.eq_false_iff.mpr c9
  subst c9
  have H1 : (some false) = some r := by rw [if_neg (show ¬ (false = true) by decide)] at H; exact H
  clear H; have H := H1; clear H1
  obtain rfl := Option.some.inj H
  go_enter Try.func3, Try.ntmps3
  go_wp2_with (first | ((with_reducible refine gate_dst (N := 16) rfl ?_); refine Kd.N_lit (Kd.slice 42 (Kd.int .u64)) _ 23 ?hg (N' := 16) ?hd (xs := ([l0, l2] : List (List Int))) (inner := [.slice A0 l0.length c0, .slice A2 l2.length c2]) (ok := (fun k_ => ((P0_ k_ ∨ P2_ k_) ∨ w.heap.size ≤ k_))) (okp := (fun k_ => ((P0_ k_ ∨ P2_ k_) ∨ w.heap.size ≤ k_))) ?hr ?hp (fun _ hk => hk) ((show ∀ k_, w.heap.size ≤ k_ → (fun k_ => ((P0_ k_ ∨ P2_ k_) ∨ w.heap.size ≤ k_)) k_ from fun k_ hk => (.inr (Nat.le_trans (below_size uB) hk))) _ (Nat.le_refl _)) (Below.refl _ _) (Nat.le_refl _) (by simp) ?_; (case hd => rfl); (case hg => rfl); (case hr => first | (go_simp; done) | (go_simp; rfl) | (go_simp; simp only [u64_u8]; done) | (go_simp; simp only [u64_u8]; rfl)); (case hp => exact (Reps.one (show Kd.FK (Kd.slice 42 (Kd.int .u64)) _ _ l0 [.slice A0 l0.length c0] from (Kd.FK_slice_mk (Kd.V_reads' (Kd.V_mono (ok' := (fun k_ => ((P0_ k_ ∨ P2_ k_) ∨ w.heap.size ≤ k_))) (HO0.out) (fun k_ hk => hk))).2.1 (Kd.V_F (Kd.V_mono (ok' := (fun k_ => ((P0_ k_ ∨ P2_ k_) ∨ w.heap.size ≤ k_))) (HO0.out) (fun k_ hk => hk))))) (Reps.one (show Kd.FK (Kd.slice 42 (Kd.int .u64)) _ _ l2 [.slice A2 l2.length c2] from (Kd.FK_slice_mk (Kd.V_reads' (Kd.V_mono (ok' := (fun k_ => ((P0_ k_ ∨ P2_ k_) ∨ w.heap.size ≤ k_))) (HO2.out) (fun k_ hk => hk))).2.1 (Kd.V_F (Kd.V_mono (ok' := (fun k_ => ((P0_ k_ ∨ P2_ k_) ∨ w.heap.size ≤ k_))) (HO2.out) (fun k_ hk => hk))))) (Reps.none _ _)))); intro v825 w30 ho31 hb hg_ hnew_; clear hg_ hnew_; (first | rw [← Ny824.out] at ho31 | (simp only [Int.reduceToNat] at ho31; rw [← Ny824.out] at ho31)); replace HO0 := Aside0.mk (Kd.V_elder' (uV HO0.out) (Kd.N_base ho31) hb); replace HO2 := Aside0.mk (Kd.V_elder' (uV HO2.out) (Kd.N_base ho31) hb); have HO826 := Aside0.mk (Kd.N_lower ho31 (below_size uB)); replace HB := uy hb; clear hb ho31; obtain ⟨Ao32, co32, eo32⟩ := Kd.N_slice HO826.out; subst eo32) | ((with_reducible refine ug 5 rfl ?_); refine uh (some 17) rfl Try.func5 #[.slice Ao32 y824.length co32] ?_; (with_reducible refine (windbreaklaw07_few.calls k _ _ y824 true _ ?side1 ?side2 A4.out).mono ?_); (case side1 => exact uC (Kd.N_reads' HO826.out).2.2); (case side2 => exact (Kd.N_reads' HO826.out).2.1); rintro e w' ⟨rfl, ⟨nd, rfl⟩⟩; refine ⟨_, rfl, ?_⟩) | ((with_reducible refine ug 6 rfl ?_); refine uh (some 19) rfl Try.func6 #[] ?_; (with_reducible refine (windbreaklaw07_awake.calls k  false _ A6.out).mono ?_); rintro e w33 ⟨rfl, hb⟩; refine ⟨_, rfl, ?_⟩; replace HO0 := Aside0.mk (Kd.V_below (uV HO0.out) hb); replace HO2 := Aside0.mk (Kd.V_below (uV HO2.out) hb); replace HO826 := Aside0.mk (Kd.N_below (uN HO826.out) hb); replace HB := uy hb; (try clear hb)) | ((with_reducible refine ug 7 rfl ?_); refine uh (some 24) rfl Try.func7 #[.slice A0 l0.length c0, .int .i64 a1, .slice A2 l2.length c2] ?_; (with_reducible refine (fixenc_Unpack.calls k _ _ l0 a1 _ _ l2 t829 t830 t831 _ ?side1 ?side2 ?side3 ?side4 A7.out).mono ?_); (case side1 => exact uC (Kd.V_reads' HO0.out).2.2); (case side2 => exact (Kd.V_reads' HO0.out).2.1); (case side3 => exact uC (Kd.V_reads' HO2.out).2.2); (case side4 => exact (Kd.V_reads' HO2.out).2.1); rintro e w34 ⟨rfl, hb⟩; refine ⟨_, rfl, ?_⟩; replace HO0 := Aside0.mk (Kd.V_below (uV HO0.out) hb); replace HO2 := Aside0.mk (Kd.V_below (uV HO2.out) hb); replace HO826 := Aside0.mk (Kd.N_below (uN HO826.out) hb); replace HB := uy hb; (try clear hb)) | ((with_reducible refine ug 8 rfl ?_); refine uh (some 32) rfl Try.func8 #[.slice A0 l0.length c0, .int .i64 a1, .slice A2 l2.length c2] ?_; (with_reducible refine (windbreakref07_Unpack.calls k _ _ l0 a1 _ _ l2 t832 t833 t834 _ ?side1 ?side2 ?side3 ?side4 A8.out).mono ?_); (case side1 => exact uC (Kd.V_reads' HO0.out).2.2); (case side2 => exact (Kd.V_reads' HO0.out).2.1); (case side3 => exact uC (Kd.V_reads' HO2.out).2.2); (case side4 => exact (Kd.V_reads' HO2.out).2.1); rintro e w35 ⟨rfl, hb⟩; refine ⟨_, rfl, ?_⟩; replace HO0 := Aside0.mk (Kd.V_below (uV HO0.out) hb); replace HO2 := Aside0.mk (Kd.V_below (uV HO2.out) hb); replace HO826 := Aside0.mk (Kd.N_below (uN HO826.out) hb); replace HB := uy hb; (try clear hb)))
  go_ret
  exact ⟨uF, uB⟩
 replace c5 := Bool.eq_false_iff.mpr c5
 subst c5
 have H1 : (some true) = some r := by rw [if_neg (show ¬ (false = true) by decide)] at H; exact H
 clear H; have H := H1; clear H1
 obtain rfl := Option.some.inj H
 go_enter Try.func3, Try.ntmps3
 go_wp2_with (first | ((with_reducible refine gate_dst (N := 16) rfl ?_); refine Kd.N_lit (Kd.slice 42 (Kd.int .u64)) _ 23 ?hg (N' := 16) ?hd (xs := ([l0, l2] : List (List Int))) (inner := [.slice A0 l0.length c0, .slice A2 l2.length c2]) (ok := (fun k_ => ((P0_ k_ ∨ P2_ k_) ∨ w.heap.size ≤ k_))) (okp := (fun k_ => ((P0_ k_ ∨ P2_ k_) ∨ w.heap.size ≤ k_))) ?hr ?hp (fun _ hk => hk) ((show ∀ k_, w.heap.size ≤ k_ → (fun k_ => ((P0_ k_ ∨ P2_ k_) ∨ w.heap.size ≤ k_)) k_ from fun k_ hk => (.inr (Nat.le_trans (below_size uB) hk))) _ (Nat.le_refl _)) (Below.refl _ _) (Nat.le_refl _) (by simp) ?_; (case hd => rfl); (case hg => rfl); (case hr => first | (go_simp; done) | (go_simp; rfl) | (go_simp; simp only [u64_u8]; done) | (go_simp; simp only [u64_u8]; rfl)); (case hp => exact (Reps.one (show Kd.FK (Kd.slice 42 (Kd.int .u64)) _ _ l0 [.slice A0 l0.length c0] from (Kd.FK_slice_mk (Kd.V_reads' (Kd.V_mono (ok' := (fun k_ => ((P0_ k_ ∨ P2_ k_) ∨ w.heap.size ≤ k_))) (HO0.out) (fun k_ hk => hk))).2.1 (Kd.V_F (Kd.V_mono (ok' := (fun k_ => ((P0_ k_ ∨ P2_ k_) ∨ w.heap.size ≤ k_))) (HO0.out) (fun k_ hk => hk))))) (Reps.one (show Kd.FK (Kd.slice 42 (Kd.int .u64)) _ _ l2 [.slice A2 l2.length c2] from (Kd.FK_slice_mk (Kd.V_reads' (Kd.V_mono (ok' := (fun k_ => ((P0_ k_ ∨ P2_ k_) ∨ w.heap.size ≤ k_))) (HO2.out) (fun k_ hk => hk))).2.1 (Kd.V_F (Kd.V_mono (ok' := (fun k_ => ((P0_ k_ ∨ P2_ k_) ∨ w.heap.size ≤ k_))) (HO2.out) (fun k_ hk => hk))))) (Reps.none _ _)))); intro v825 w36 ho37 hb hg_ hnew_; clear hg_ hnew_; (first | rw [← Ny824.out] at ho37 | (simp only [Int.reduceToNat] at ho37; rw [← Ny824.out] at ho37)); replace HO0 := Aside0.mk (Kd.V_elder' (uV HO0.out) (Kd.N_base ho37) hb); replace HO2 := Aside0.mk (Kd.V_elder' (uV HO2.out) (Kd.N_base ho37) hb); have HO826 := Aside0.mk (Kd.N_lower ho37 (below_size uB)); replace HB := uy hb; clear hb ho37; obtain ⟨Ao38, co38, eo38⟩ := Kd.N_slice HO826.out; subst eo38) | ((with_reducible refine ug 5 rfl ?_); refine uh (some 17) rfl Try.func5 #[.slice Ao38 y824.length co38] ?_; (with_reducible refine (windbreaklaw07_few.calls k _ _ y824 false _ ?side1 ?side2 A4.out).mono ?_); (case side1 => exact uC (Kd.N_reads' HO826.out).2.2); (case side2 => exact (Kd.N_reads' HO826.out).2.1); rintro e w' ⟨rfl, ⟨nd, rfl⟩⟩; refine ⟨_, rfl, ?_⟩))
 go_ret
 exact ⟨uF, uB⟩
def windbreaklaw07_FixencUnpacks.Pure : Prop := ∀ (l0 : List Int) (a1 : Int) (l2 : List Int), l0.length ≤ maxLen → l0.length * 8 ≤ 140737488351232 → (∀ x ∈ l0, (Lit.int .u64 x).wf = true) → (Lit.int .i64 a1).wf = true → l2.length ≤ maxLen → l2.length * 8 ≤ 140737488351232 → (∀ x ∈ l2, (Lit.int .u64 x).wf = true) → ∃ k, windbreaklaw07_FixencUnpacks.f k l0 a1 l2 = some true
theorem windbreaklaw07_FixencUnpacks.walk (P : windbreaklaw07_FixencUnpacks.Pure) (a0 : Option Addr) (len0 cap0 : Nat) (z0 : List Int) (a1 : Int) (a2 : Option Addr) (len2 cap2 : Nat) (z2 : List Int) (w : World) (w0 : (a0 = none ∧ len0 = 0 ∧ cap0 = 0 ∧ z0 = []) ∨ ∃ x, a0 = some x ∧ len0 ≤ cap0 ∧ cap0 ≤ maxLen ∧ z0.length = cap0 ∧ (∀ i, i < z0.length → w.cell? (x.add i) = some (.int .u64 (z0.getD i 0))) ∧ ∀ n ∈ z0, (Lit.int .u64 n).wf = true) (y0 : len0 * 8 ≤ 140737488351232) (w1 : (Lit.int .i64 a1).wf = true) (w2 : (a2 = none ∧ len2 = 0 ∧ cap2 = 0 ∧ z2 = []) ∨ ∃ x, a2 = some x ∧ len2 ≤ cap2 ∧ cap2 ≤ maxLen ∧ z2.length = cap2 ∧ (∀ i, i < z2.length → w.cell? (x.add i) = some (.int .u64 (z2.getD i 0))) ∧ ∀ n ∈ z2, (Lit.int .u64 n).wf = true) (y2 : len2 * 8 ≤ 140737488351232) :
  Calls Try.prog 3 #[.slice a0 len0 cap0, .int .i64 a1, .slice a2 len2 cap2] w fun e w' => e = .returned (.bool true) ∧ Below w.heap.size w w' := by
 obtain ⟨l0, rfl, hr0, hm0, hw0, hc0⟩ := ReadsInt.ofRowC w0
 obtain ⟨l2, rfl, hr2, hm2, hw2, hc2⟩ := ReadsInt.ofRowC w2
 obtain ⟨k, h⟩ := P l0 a1 l2 hm0 y0 hw0 w1 hm2 y2 hw2
 refine (windbreaklaw07_FixencUnpacks.calls k (fun k_ => k_ < w.heap.size) _ _ l0 a1 (fun k_ => k_ < w.heap.size) _ _ l2 true w (Kd.V_mk hc0 (Kd.C_F (Kd.heap_int .u64) (Kd.C_of_reads (d := (0 : Int)) (h1 := fun _ => rfl) hr0))) (Kd.V_mk hc2 (Kd.C_F (Kd.heap_int .u64) (Kd.C_of_reads (d := (0 : Int)) (h1 := fun _ => rfl) hr2))) h).mono ?_
 rintro e w' ⟨rfl, hd⟩
 exact ⟨rfl, hd⟩
end Go.Proofs.Ytnaphgnkhhapoab.F
end
section
namespace Go.Proofs.Ytnaphgnkhhapoab.Z
open Go.RowKit Go.Proofs.YtnaphgnkhhapoabW.PrintWords
set_option linter.unusedSimpArgs false
set_option linter.unusedVariables false
def Evt {α : Type} (g : Nat → Option α) (r : α) : Prop := ∃ n, ∀ k, n ≤ k → g k = some r
theorem Evt.of {α : Type} {g : Nat → Option α} {r : α} (h : ∀ k, g k = some r) : Evt g r := ⟨0, fun k _ => h k⟩
theorem Evt.pure {α : Type} (r : α) : Evt (fun _ => some r) r := ⟨0, fun _ _ => rfl⟩
theorem Evt.bind {α β : Type} {g : Nat → Option α} {h : α → Nat → Option β} {a : α} {b : β} (h1 : Evt g a) (h2 : Evt (h a) b) : Evt (fun k => (g k).bind fun x => h x k) b := by
  obtain ⟨n, hn⟩ := h1
  obtain ⟨m, hm⟩ := h2
  exact ⟨n + m, fun k hk => by simp only [hn k (by omega), Option.bind_some]; exact hm k (by omega)⟩
theorem Evt.succ {α : Type} {g : Nat → Option α} {r : α} (h : Evt (fun k => g (k + 1)) r) : Evt g r := by
  obtain ⟨n, hn⟩ := h
  refine ⟨n + 1, fun k hk => ?_⟩
  obtain ⟨m, rfl⟩ : ∃ m, k = m + 1 := ⟨k - 1, by omega⟩
  exact hn m (by omega)
theorem Evt.get {α : Type} {g : Nat → Option α} {r : α} (h : Evt g r) : ∃ k, g k = some r := by
  obtain ⟨n, hn⟩ := h
  exact ⟨n, hn n (Nat.le_refl _)⟩
theorem Evt.congr {α : Type} {g g' : Nat → Option α} {r r' : α} (h : Evt g r) (hg : ∀ k, g' k = g k) (hr : r = r') : Evt g' r' := by
  subst hr
  obtain ⟨n, hn⟩ := h
  exact ⟨n, fun k hk => (hg k).trans (hn k hk)⟩
theorem Evt.ite_pos {α : Type} {c : Prop} [Decidable c] {g h : Nat → Option α} {r : α} (hc : c) (hg : Evt g r) : Evt (fun k => if c then g k else h k) r := by
  obtain ⟨n, hn⟩ := hg
  exact ⟨n, fun k hk => (if_pos hc).trans (hn k hk)⟩
theorem Evt.ite_neg {α : Type} {c : Prop} [Decidable c] {g h : Nat → Option α} {r : α} (hc : ¬ c) (hg : Evt h r) : Evt (fun k => if c then g k else h k) r := by
  obtain ⟨n, hn⟩ := hg
  exact ⟨n, fun k hk => (if_neg hc).trans (hn k hk)⟩
theorem Evt.cond {α : Type} {c : Prop} [Decidable c] {g h : Nat → Option α} {r s : α} (hg : c → Evt g r) (hh : ¬ c → Evt h s) : Evt (fun k => if c then g k else h k) (if c then r else s) := by
  by_cases hc : c
  · rw [if_pos hc]; exact Evt.ite_pos hc (hg hc)
  · rw [if_neg hc]; exact Evt.ite_neg hc (hh hc)
theorem Evt.cond' {α : Type} {c : Prop} [Decidable c] {g h : Nat → Option α} {r : α} (hg : c → Evt g r) (hh : ¬ c → Evt h r) : Evt (fun k => if c then g k else h k) r := by
  by_cases hc : c
  · exact Evt.ite_pos hc (hg hc)
  · exact Evt.ite_neg hc (hh hc)
theorem w64 {x : Int} (h0 : -9223372036854775808 ≤ x) (h1 : x < 9223372036854775808) : wrap64 x = x := by unfold wrap64; omega
theorem wu64 (x : Int) : IntKind.u64.wrap x = x % 18446744073709551616 := by simp [IntKind.wrap, IntKind.bits, IntKind.signed]
theorem wu64_of {x : Int} (h0 : 0 ≤ x) (h1 : x < 18446744073709551616) : IntKind.u64.wrap x = x := by rw [wu64]; omega
theorem wf_u64 {x : Int} (h : (Lit.int .u64 x).wf = true) : 0 ≤ x ∧ x < 18446744073709551616 := by
  simp [Lit.wf, IntKind.min, IntKind.max, IntKind.bits, IntKind.signed] at h
  omega
theorem rd_getD (l : List Int) (i : Int) : rd l i = l.getD i.toNat 0 := rfl
theorem rd_nat (l : List Int) (i : Nat) : rd l (i : Int) = l.getD i 0 := rfl
def val (B : Int) : List Int → Int
  | [] => 0
  | d :: l => d + B * val B l
def Dig (B : Int) (l : List Int) : Prop := ∀ x, x ∈ l → 0 ≤ x ∧ x < B
def Can (l : List Int) : Prop := ∀ h : l ≠ [], l.getLast h ≠ 0
def strip : List Int → List Int
  | [] => []
  | d :: l => if strip l = [] then (if d = 0 then [] else [d]) else d :: strip l
theorem Dig.nil {B : Int} : Dig B [] := fun _ h => by simp at h
theorem Dig.cons {B d : Int} {l : List Int} : Dig B (d :: l) ↔ (0 ≤ d ∧ d < B) ∧ Dig B l := by
  unfold Dig
  simp
theorem Dig.append {B : Int} {l m : List Int} : Dig B (l ++ m) ↔ Dig B l ∧ Dig B m := by
  unfold Dig
  constructor
  · intro h
    exact ⟨fun x hx => h x (by simp [hx]), fun x hx => h x (by simp [hx])⟩
  · intro h x hx
    rcases List.mem_append.1 hx with hx | hx
    · exact h.1 x hx
    · exact h.2 x hx
theorem Dig.take {B : Int} {l : List Int} (h : Dig B l) (n : Nat) : Dig B (l.take n) := fun x hx => h x (List.mem_of_mem_take hx)
theorem Dig.drop {B : Int} {l : List Int} (h : Dig B l) (n : Nat) : Dig B (l.drop n) := fun x hx => h x (List.mem_of_mem_drop hx)
theorem Dig.getD {B : Int} {l : List Int} (h : Dig B l) (hB : 0 < B) (i : Nat) : 0 ≤ l.getD i 0 ∧ l.getD i 0 < B := by
  rw [List.getD_eq_getElem?_getD]
  cases he : l[i]? with
  | none => simp; omega
  | some x => simpa using h x (List.mem_of_getElem? he)
theorem Dig.set {B : Int} {l : List Int} (h : Dig B l) (i : Nat) {v : Int} (hv : 0 ≤ v ∧ v < B) : Dig B (l.set i v) := by
  intro x hx
  rcases List.mem_or_eq_of_mem_set hx with hx | rfl
  · exact h x hx
  · exact hv
theorem Dig.replicate {B : Int} (hB : 0 < B) (n : Nat) : Dig B (List.replicate n 0) := by
  intro x hx
  have := List.eq_of_mem_replicate hx
  omega
theorem val_append (B : Int) (l m : List Int) : val B (l ++ m) = val B l + B ^ l.length * val B m := by
  induction l with
  | nil => simp [val]
  | cons d l ih => simp only [List.cons_append, val, ih, List.length_cons, Int.pow_succ]; grind
theorem val_replicate (B : Int) (n : Nat) : val B (List.replicate n 0) = 0 := by
  induction n with
  | zero => rfl
  | succ n ih => simp [List.replicate_succ, val, ih]
theorem val_nonneg {B : Int} (hB : 0 < B) {l : List Int} (h : Dig B l) : 0 ≤ val B l := by
  induction l with
  | nil => simp [val]
  | cons d l ih =>
    have h' := Dig.cons.1 h
    have h1 := ih h'.2
    have : 0 ≤ B * val B l := Int.mul_nonneg (by omega) h1
    simp only [val]
    omega
theorem val_lt {B : Int} (hB : 0 < B) {l : List Int} (h : Dig B l) : val B l < B ^ l.length := by
  induction l with
  | nil => simp [val]
  | cons d l ih =>
    have h' := Dig.cons.1 h
    have h1 := ih h'.2
    have h2 : B * val B l ≤ B * (B ^ l.length - 1) := Int.mul_le_mul_of_nonneg_left (by omega) (by omega)
    have h3 : B * (B ^ l.length - 1) = B * B ^ l.length - B := by grind
    simp only [val, List.length_cons, Int.pow_succ]
    have h4 : B ^ l.length * B = B * B ^ l.length := Int.mul_comm _ _
    omega
theorem Can.nil : Can [] := fun h => absurd rfl h
theorem Can.tail {d : Int} {l : List Int} (h : Can (d :: l)) : Can l := by
  intro hl
  have := h (by simp)
  rwa [List.getLast_cons hl] at this
theorem Can.one {d : Int} (h : d ≠ 0) : Can [d] := fun _ => by simpa using h
theorem Can.cons {d : Int} {l : List Int} (h : Can l) (hl : l ≠ []) : Can (d :: l) := by
  intro _
  rw [List.getLast_cons hl]
  exact h hl
theorem val_pos {B : Int} (hB : 0 < B) {l : List Int} (h : Dig B l) (hc : Can l) (hl : l ≠ []) : B ^ (l.length - 1) ≤ val B l := by
  induction l with
  | nil => exact absurd rfl hl
  | cons d l ih =>
    have h' := Dig.cons.1 h
    by_cases e : l = []
    · subst e
      have := hc (by simp)
      simp [val] at this ⊢
      omega
    · have h1 := ih h'.2 hc.tail e
      have h2 : l.length - 1 + 1 = l.length := by have := List.length_pos_iff.2 e; omega
      simp only [val, List.length_cons, Nat.add_sub_cancel]
      rw [← h2, Int.pow_succ, Int.mul_comm]
      have : B * B ^ (l.length - 1) ≤ B * val B l := Int.mul_le_mul_of_nonneg_left h1 (by omega)
      omega
theorem val_zero {B : Int} (hB : 0 < B) {l : List Int} (h : Dig B l) (hc : Can l) (h0 : val B l = 0) : l = [] := by
  by_cases e : l = []
  · exact e
  · have := val_pos hB h hc e
    have h2 : 0 < B ^ (l.length - 1) := Int.pow_pos hB
    omega
theorem val_inj {B : Int} (hB : 0 < B) {l m : List Int} (hl : Dig B l) (hm : Dig B m) (cl : Can l) (cm : Can m) (h : val B l = val B m) : l = m := by
  induction l generalizing m with
  | nil => exact (val_zero hB hm cm h.symm).symm
  | cons d l ih =>
    cases m with
    | nil => exact val_zero hB hl cl h
    | cons e m =>
      have h1 := Dig.cons.1 hl
      have h2 := Dig.cons.1 hm
      simp only [val] at h
      have h3 : d = e := by
        have a1 : (d + B * val B l) % B = d := by rw [Int.add_mul_emod_self_left]; exact Int.emod_eq_of_lt h1.1.1 h1.1.2
        have a2 : (e + B * val B m) % B = e := by rw [Int.add_mul_emod_self_left]; exact Int.emod_eq_of_lt h2.1.1 h2.1.2
        rw [← a1, ← a2, h]
      subst h3
      have h4 : val B l = val B m := by
        have : B * val B l = B * val B m := by omega
        exact Int.eq_of_mul_eq_mul_left (by omega) this
      rw [ih h1.2 h2.2 cl.tail cm.tail h4]
theorem strip_val (B : Int) (l : List Int) : val B (strip l) = val B l := by
  induction l with
  | nil => rfl
  | cons d l ih =>
    simp only [strip]
    split
    · rename_i h
      rw [h] at ih
      simp only [val] at ih
      split
      · rename_i h0; simp [val, ← ih, h0]
      · simp [val, ← ih]
    · simp [val, ih]
theorem strip_can (l : List Int) : Can (strip l) := by
  induction l with
  | nil => exact Can.nil
  | cons d l ih =>
    simp only [strip]
    split
    · split
      · exact Can.nil
      · rename_i h; exact Can.one h
    · rename_i h; exact ih.cons h
theorem strip_dig {B : Int} {l : List Int} (h : Dig B l) : Dig B (strip l) := by
  induction l with
  | nil => exact Dig.nil
  | cons d l ih =>
    have h' := Dig.cons.1 h
    simp only [strip]
    split
    · split
      · exact Dig.nil
      · exact Dig.cons.2 ⟨h'.1, Dig.nil⟩
    · exact Dig.cons.2 ⟨h'.1, ih h'.2⟩
theorem strip_length (l : List Int) : (strip l).length ≤ l.length := by
  induction l with
  | nil => simp [strip]
  | cons d l ih =>
    simp only [strip]
    split
    · split <;> simp
    · simp; omega
theorem strip_of_can {l : List Int} (h : Can l) : strip l = l := by
  induction l with
  | nil => rfl
  | cons d l ih =>
    simp only [strip]
    rw [ih h.tail]
    split
    · rename_i e
      subst e
      have := h (by simp)
      simp at this
      simp [this]
    · rfl
theorem strip_snoc_zero (l : List Int) : strip (l ++ [0]) = strip l := by
  induction l with
  | nil => simp [strip]
  | cons d l ih => simp only [List.cons_append, strip, ih]
theorem strip_snoc {l : List Int} {d : Int} (h : d ≠ 0) : strip (l ++ [d]) = l ++ [d] := by
  apply strip_of_can
  intro hl
  simpa using h
theorem pow_mono {B : Int} (hB : 0 < B) {m n : Nat} (h : m ≤ n) : B ^ m ≤ B ^ n := by
  induction n with
  | zero => have : m = 0 := by omega
            subst this
            exact Int.le_refl _
  | succ n ih =>
    by_cases e : m = n + 1
    · subst e
      exact Int.le_refl _
    · have h1 := ih (by omega)
      have h2 : 0 < B ^ n := Int.pow_pos hB
      have h3 : 1 * B ^ n ≤ B * B ^ n := Int.mul_le_mul_of_nonneg_right (by omega) (by omega)
      rw [Int.pow_succ, Int.mul_comm]
      omega
theorem val_lt_of_length {B : Int} (hB : 0 < B) {l m : List Int} (hl : Dig B l) (hm : Dig B m) (cm : Can m) (h : l.length < m.length) : val B l < val B m := by
  have h1 := val_lt hB hl
  have h2 := val_pos hB hm cm (by intro e; subst e; simp at h)
  have h3 : B ^ l.length ≤ B ^ (m.length - 1) := pow_mono hB (by omega)
  omega
def rightB (l : List Int) : Bool := decide (l.length ≤ 64) && ((l.length == 0) || (l.getD (l.length - 1) 0 != 0))
theorem can_iff (l : List Int) : Can l ↔ ((l.length == 0) || (l.getD (l.length - 1) 0 != 0)) = true := by
  cases l with
  | nil => simp [Can]
  | cons d l =>
    have h : (d :: l).getLast (by simp) = (d :: l).getD ((d :: l).length - 1) 0 := by
      rw [List.getLast_eq_getElem]
      simp
    unfold Can
    simp only [List.length_cons, Nat.add_one_ne_zero, beq_iff_eq, Bool.or_eq_true, bne_iff_ne, false_or]
    constructor
    · intro hc
      have := hc (by simp)
      rw [h] at this
      exact this
    · intro hc _
      rw [h]
      exact hc
theorem rightB_iff (l : List Int) : rightB l = true ↔ l.length ≤ 64 ∧ Can l := by
  unfold rightB
  rw [Bool.and_eq_true, decide_eq_true_iff, ← can_iff]
def smallV (l : List Int) : Int × Bool := if rightB l = true ∧ l.length ≤ 1 then (l.getD 0 0, true) else (0, false)
def toD (B : Nat) (v : Nat) : List Int := if h : 2 ≤ B ∧ 0 < v then ((v % B : Nat) : Int) :: toD B (v / B) else []
termination_by v
decreasing_by exact Nat.div_lt_self h.2 (by omega)
theorem toD_zero (B : Nat) : toD B 0 = [] := by rw [toD]; simp
theorem toD_pos {B v : Nat} (hB : 2 ≤ B) (hv : 0 < v) : toD B v = ((v % B : Nat) : Int) :: toD B (v / B) := by rw [toD]; simp [hB, hv]
theorem toD_dig {B : Nat} (hB : 2 ≤ B) (v : Nat) : Dig (B : Int) (toD B v) := by
  induction v using Nat.strongRecOn with
  | _ v ih =>
    by_cases hv : v = 0
    · subst hv; rw [toD_zero]; exact Dig.nil
    · rw [toD_pos hB (by omega)]
      have := Nat.mod_lt v (show B > 0 by omega)
      exact Dig.cons.2 ⟨by omega, ih _ (Nat.div_lt_self (by omega) (by omega))⟩
theorem toD_eq_nil {B v : Nat} (hB : 2 ≤ B) : toD B v = [] ↔ v = 0 := by
  constructor
  · intro h
    by_cases hv : v = 0
    · exact hv
    · rw [toD_pos hB (by omega)] at h; cases h
  · rintro rfl; exact toD_zero B
theorem toD_can {B : Nat} (hB : 2 ≤ B) (v : Nat) : Can (toD B v) := by
  induction v using Nat.strongRecOn with
  | _ v ih =>
    by_cases hv : v = 0
    · subst hv; rw [toD_zero]; exact Can.nil
    · rw [toD_pos hB (by omega)]
      by_cases hq : v / B = 0
      · rw [hq, toD_zero]
        have hlt : v < B := (Nat.div_eq_zero_iff_lt (by omega)).1 hq
        rw [Nat.mod_eq_of_lt hlt]
        exact Can.one (by omega)
      · exact (ih _ (Nat.div_lt_self (by omega) (by omega))).cons (fun e => hq ((toD_eq_nil hB).1 e))
theorem val_toD {B : Nat} (hB : 2 ≤ B) (v : Nat) : val (B : Int) (toD B v) = (v : Int) := by
  induction v using Nat.strongRecOn with
  | _ v ih =>
    by_cases hv : v = 0
    · subst hv; rw [toD_zero]; rfl
    · rw [toD_pos hB (by omega)]
      simp only [val]
      rw [ih _ (Nat.div_lt_self (by omega) (by omega))]
      have h2 := Nat.mod_add_div v B
      have h3 : ((v % B + B * (v / B) : Nat) : Int) = (v : Int) := by rw [h2]
      simpa using h3
theorem strip_toD {B : Nat} (hB : 2 ≤ B) {l : List Int} (h : Dig (B : Int) l) : strip l = toD B (val (B : Int) l).toNat := by
  have h0 : (0 : Int) < (B : Int) := by omega
  refine val_inj h0 (strip_dig h) (toD_dig hB _) (strip_can l) (toD_can hB _) ?_
  rw [strip_val, val_toD hB]
  have := val_nonneg h0 h
  omega
theorem can_toD {B : Nat} (hB : 2 ≤ B) {l : List Int} (h : Dig (B : Int) l) (hc : Can l) : l = toD B (val (B : Int) l).toNat := by
  rw [← strip_toD hB h, strip_of_can hc]
theorem pow_cast (B n : Nat) : ((B : Int)) ^ n = ((B ^ n : Nat) : Int) := by simp
theorem toD_len_le {B : Nat} (hB : 2 ≤ B) {v n : Nat} (h : v < B ^ n) : (toD B v).length ≤ n := by
  by_cases hv : v = 0
  · subst hv; rw [toD_zero]; simp
  · have h1 := val_pos (show (0 : Int) < (B : Int) by omega) (toD_dig hB v) (toD_can hB v) (fun e => hv ((toD_eq_nil hB).1 e))
    rw [val_toD hB, pow_cast] at h1
    have h2 : B ^ ((toD B v).length - 1) ≤ v := by omega
    have h3 : B ^ ((toD B v).length - 1) < B ^ n := by omega
    have h4 := (Nat.pow_lt_pow_iff_right (show 1 < B by omega)).1 h3
    omega
theorem toD_lt_pow {B : Nat} (hB : 2 ≤ B) (v : Nat) : v < B ^ (toD B v).length := by
  have h1 := val_lt (show (0 : Int) < (B : Int) by omega) (toD_dig hB v)
  rw [val_toD hB, pow_cast] at h1
  omega
theorem toD_len_iff {B : Nat} (hB : 2 ≤ B) (v n : Nat) : (toD B v).length ≤ n ↔ v < B ^ n :=
  ⟨fun h => Nat.lt_of_lt_of_le (toD_lt_pow hB v) (Nat.pow_le_pow_right (by omega) h), toD_len_le hB⟩
def b64 : Nat := 18446744073709551616
def b16 : Nat := 65536
theorem b64_two : 2 ≤ b64 := by decide
theorem b16_two : 2 ≤ b16 := by decide
theorem b64_pow : b64 = b16 ^ 4 := by decide
def num (l : List Int) : Nat := (val (b64 : Int) l).toNat
def num16 (l : List Int) : Nat := (val (b16 : Int) l).toNat
abbrev limbs (v : Nat) : List Int := toD b64 v
abbrev digs (v : Nat) : List Int := toD b16 v
theorem b64_pos : (0 : Int) < (b64 : Int) := by decide
theorem b16_pos : (0 : Int) < (b16 : Int) := by decide
theorem num_val {l : List Int} (h : Dig (b64 : Int) l) : (num l : Int) = val (b64 : Int) l := by
  have := val_nonneg b64_pos h
  unfold num; omega
theorem num16_val {l : List Int} (h : Dig (b16 : Int) l) : (num16 l : Int) = val (b16 : Int) l := by
  have := val_nonneg b16_pos h
  unfold num16; omega
theorem num_limbs (v : Nat) : num (limbs v) = v := by unfold num limbs; rw [val_toD b64_two]; omega
theorem num16_digs (v : Nat) : num16 (digs v) = v := by unfold num16 digs; rw [val_toD b16_two]; omega
theorem limbs_num {l : List Int} (h : Dig (b64 : Int) l) (hc : Can l) : limbs (num l) = l := (can_toD b64_two h hc).symm
theorem digs_num {l : List Int} (h : Dig (b16 : Int) l) (hc : Can l) : digs (num16 l) = l := (can_toD b16_two h hc).symm
theorem strip_limbs {l : List Int} (h : Dig (b64 : Int) l) : strip l = limbs (num l) := strip_toD b64_two h
theorem strip_digs {l : List Int} (h : Dig (b16 : Int) l) : strip l = digs (num16 l) := strip_toD b16_two h
theorem dig_of_wf {l : List Int} (h : ∀ x ∈ l, (Lit.int .u64 x).wf = true) : Dig (b64 : Int) l := fun x hx => wf_u64 (h x hx)
theorem num_lt {l : List Int} (h : Dig (b64 : Int) l) : num l < b64 ^ l.length := by
  have h1 := val_lt b64_pos h
  rw [← num_val h, pow_cast] at h1
  omega
theorem num_nil : num [] = 0 := rfl
theorem num_one {x : Int} (h : 0 ≤ x) : num [x] = x.toNat := by simp [num, val]
theorem num16_nil : num16 [] = 0 := rfl
theorem num_cons {d : Int} {l : List Int} (h : Dig (b64 : Int) (d :: l)) : num (d :: l) = d.toNat + b64 * num l := by
  have h1 := Dig.cons.1 h
  have h2 := num_val h
  have h3 := num_val h1.2
  have h4 : ((d.toNat + b64 * num l : Nat) : Int) = d + (b64 : Int) * val (b64 : Int) l := by
    rw [← h3]; simp; omega
  have h5 : val (b64 : Int) (d :: l) = d + (b64 : Int) * val (b64 : Int) l := rfl
  omega
def thousand : Nat := 1000
def lim : Nat := b64 ^ thousand
theorem lim_pow {n : Nat} (h : n ≤ 1000) : b64 ^ n ≤ lim := Nat.pow_le_pow_right (by decide) (show n ≤ thousand from h)
theorem pow_lt_lim {n : Nat} (h : n < 1000) : b64 ^ n + b64 ^ n ≤ lim := by
  have h1 : b64 ^ (n + 1) ≤ lim := lim_pow h
  have h2 : b64 ^ n * 2 ≤ b64 ^ n * b64 := Nat.mul_le_mul_left _ b64_two
  rw [Nat.pow_succ] at h1
  omega
theorem num_lt_lim {l : List Int} (h : Dig (b64 : Int) l) (hl : l.length ≤ 1000) : num l < lim := Nat.lt_of_lt_of_le (num_lt h) (lim_pow hl)
theorem digs_len {v : Nat} (hv : v < lim) : (digs v).length ≤ 4000 := by
  have h : lim = b16 ^ (4 * thousand) := by
    unfold lim
    rw [b64_pow, ← Nat.pow_mul]
  rw [h] at hv
  have h2 := toD_len_le b16_two hv
  exact Nat.le_trans h2 (by decide)
theorem b64_pow2 (m : Nat) : b64 ^ m = 2 ^ (64 * m) := by
  have h : b64 = 2 ^ 64 := by decide
  rw [h, ← Nat.pow_mul]
theorem pow2_le_b64 {n m : Nat} (h : n ≤ 64 * m) : 2 ^ n ≤ b64 ^ m := by
  rw [b64_pow2]
  exact Nat.pow_le_pow_right (by decide) h
theorem b64_le_pow2 {n m : Nat} (h : 64 * m ≤ n) : b64 ^ m ≤ 2 ^ n := by
  rw [b64_pow2]
  exact Nat.pow_le_pow_right (by decide) h
theorem num_lt_p {a : List Int} (da : Dig (b64 : Int) a) (ha : a.length ≤ 64) : num a < b64 ^ 64 := Nat.lt_of_lt_of_le (num_lt da) (Nat.pow_le_pow_right (show b64 > 0 by decide) ha)
def cmpN (x y : Nat) : Int := if x < y then -1 else if x = y then 0 else 1
def toldV (v : Nat) : List Int × Int := if v < b64 ^ 64 then (limbs v, 0) else ([], 4)
theorem limbs_long (v : Nat) : (limbs v).length ≤ 64 ↔ v < b64 ^ 64 := toD_len_iff b64_two v 64
theorem val_base (l : List Int) (hl : Dig (b64 : Int) l) : ∃ m, Dig (b16 : Int) m ∧ m.length = 4 * l.length ∧ val (b16 : Int) m = val (b64 : Int) l ∧ m = l.flatMap (fun x => [x % 65536, x / 65536 % 65536, x / 65536 / 65536 % 65536, x / 65536 / 65536 / 65536 % 65536]) := by
  induction l with
  | nil => exact ⟨[], Dig.nil, rfl, rfl, rfl⟩
  | cons d l ih =>
    have h1 := Dig.cons.1 hl
    obtain ⟨m, hm, hlen, hv, he⟩ := ih h1.2
    refine ⟨[d % 65536, d / 65536 % 65536, d / 65536 / 65536 % 65536, d / 65536 / 65536 / 65536 % 65536] ++ m, ?_, ?_, ?_, ?_⟩
    · refine Dig.append.2 ⟨?_, hm⟩
      intro x hx
      simp only [List.mem_cons, List.not_mem_nil, or_false] at hx
      simp only [b16]
      omega
    · simp only [List.length_append, List.length_cons, List.length_nil, hlen]; omega
    · rw [val_append, hv]
      have h2 := h1.1
      simp only [b64] at h2 ⊢
      simp only [val, b16, List.length_cons, List.length_nil]
      omega
    · simp only [List.flatMap_cons, ← he]
def bl (n : Nat) : Nat := if n = 0 then 0 else n.log2 + 1
theorem bl_lt (n : Nat) : n < 2 ^ bl n := by
  unfold bl
  by_cases h : n = 0
  · subst h; decide
  · rw [if_neg h]; exact Nat.lt_log2_self
theorem bl_ge {n : Nat} (h : n ≠ 0) : 2 ^ (bl n - 1) ≤ n := by
  unfold bl
  rw [if_neg h, Nat.add_sub_cancel]
  exact Nat.log2_self_le h
theorem bl_pos {n : Nat} (h : n ≠ 0) : 0 < bl n := by unfold bl; rw [if_neg h]; omega
theorem bl_unique {n m : Nat} (h1 : n < 2 ^ m) (h2 : m = 0 ∨ 2 ^ (m - 1) ≤ n) : bl n = m := by
  by_cases h : n = 0
  · subst h
    rcases h2 with h2 | h2
    · rw [h2]; rfl
    · have := Nat.pow_pos (a := 2) (n := m - 1) (by decide)
      omega
  · have a1 := bl_lt n
    have a2 := bl_ge h
    have a3 := bl_pos h
    have hm : 0 < m := by
      by_cases e : m = 0
      · subst e; simp at h1; omega
      · omega
    have b1 : bl n - 1 < m := (Nat.pow_lt_pow_iff_right (a := 2) (by decide)).1 (by omega)
    have b2 : m - 1 < bl n := by
      rcases h2 with h2 | h2
      · omega
      · exact (Nat.pow_lt_pow_iff_right (a := 2) (by decide)).1 (by omega)
    omega
theorem bl_shift (n s : Nat) (h : n / 2 ^ s ≠ 0) : bl n = s + bl (n / 2 ^ s) := by
  have a1 := bl_lt (n / 2 ^ s)
  have a2 := bl_ge h
  have a3 := bl_pos h
  have hp : 0 < 2 ^ s := Nat.pow_pos (by decide)
  refine bl_unique ?_ (Or.inr ?_)
  · rw [Nat.pow_add]
    have := Nat.lt_mul_of_div_lt a1 hp
    rw [Nat.mul_comm]
    exact this
  · rw [show s + bl (n / 2 ^ s) - 1 = s + (bl (n / 2 ^ s) - 1) from by omega, Nat.pow_add]
    have := Nat.mul_le_mul_left (2 ^ s) a2
    exact Nat.le_trans this (Nat.mul_div_le n (2 ^ s))
theorem bl_le {x m : Nat} (h : x < 2 ^ m) : bl x ≤ m := by
  by_cases hx : x = 0
  · subst hx; exact Nat.zero_le _
  · have a2 := bl_ge hx
    have a3 := bl_pos hx
    have : bl x - 1 < m := (Nat.pow_lt_pow_iff_right (a := 2) (by decide)).1 (by omega)
    omega
theorem bl_le8 {x : Nat} (h : x < 256) : bl x ≤ 8 := bl_le h
theorem mul_pow_lim {a : List Int} (da : Dig (b64 : Int) a) (ha : a.length ≤ 64) {n : Nat} (hn : n ≤ 4096) : num a * 2 ^ n < lim := by
  have h1 := num_lt_p da ha
  have h2 : 2 ^ n ≤ b64 ^ 64 := pow2_le_b64 (by omega)
  have h3 : num a * 2 ^ n ≤ num a * b64 ^ 64 := Nat.mul_le_mul_left _ h2
  have h4 : num a * b64 ^ 64 < b64 ^ 64 * b64 ^ 64 := Nat.mul_lt_mul_of_pos_right h1 (Nat.pow_pos (by decide))
  rw [← Nat.pow_add] at h4
  exact Nat.lt_of_le_of_lt h3 (Nat.lt_of_lt_of_le h4 (lim_pow (by omega)))
theorem pow2_lim {n : Nat} (hn : n ≤ 4096) : 2 ^ n * 65536 < lim := by
  have h2 : 2 ^ n ≤ b64 ^ 64 := pow2_le_b64 (by omega)
  have h3 : 2 ^ n * 65536 ≤ b64 ^ 64 * 65536 := Nat.mul_le_mul_right _ h2
  have h4 : b64 ^ 64 * 65536 < b64 ^ 64 * b64 := Nat.mul_lt_mul_of_pos_left (by decide) (Nat.pow_pos (by decide))
  have h5 : b64 ^ (64 + 1) ≤ lim := lim_pow (by omega)
  rw [Nat.pow_succ] at h5
  exact Nat.lt_of_le_of_lt h3 (Nat.lt_of_lt_of_le h4 h5)
end Go.Proofs.Ytnaphgnkhhapoab.Z
end
section
namespace Go.Proofs.Ytnaphgnkhhapoab.Z
open Go.RowKit Go.Proofs.Ytnaphgnkhhapoab.F Go.Proofs.YtnaphgnkhhapoabW.PrintWords
set_option linter.unusedSimpArgs false
set_option linter.unusedVariables false
theorem few7_loop (ls : List (List Int)) (h : ls.length ≤ maxLen) (d : Nat) : ∀ i : Nat, i ≤ ls.length → ls.length - i = d → Evt (fun k => windbreaklaw07_few.l0 k ls (i : Int)) ((ls.drop i).all fun a => decide (a.length ≤ 20)) := by
  unfold maxLen at h
  induction d with
  | zero =>
    intro i hi hd
    refine Evt.succ ?_
    simp only [windbreaklaw07_few.l0]
    refine Evt.ite_neg (by omega) ?_
    rw [show ls.drop i = [] from List.drop_of_length_le (by omega)]
    exact Evt.pure _
  | succ d ih =>
    intro i hi hd
    have hlt : i < ls.length := by omega
    refine Evt.succ ?_
    simp only [windbreaklaw07_few.l0]
    refine Evt.ite_pos (by omega) (Evt.ite_pos (by omega) ?_)
    have hx : rd_L1 ls (i : Int) = ls[i] := by simp [rd_L1, hlt]
    rw [hx, List.drop_eq_getElem_cons hlt, List.all_cons]
    by_cases h70 : ls[i].length ≤ 20
    · refine Evt.ite_neg (by omega) ?_
      rw [w64 (by omega) (by omega)]
      have := ih (i + 1) (by omega) (by omega)
      refine this.congr (fun k => rfl) ?_
      rw [decide_eq_true h70, Bool.true_and]
    · refine Evt.ite_pos (by omega) ?_
      rw [decide_eq_false h70, Bool.false_and]
      exact Evt.pure _
theorem few7_ev (ls : List (List Int)) (h : ls.length ≤ maxLen) : Evt (fun k => windbreaklaw07_few.f k ls) (ls.all fun a => decide (a.length ≤ 20)) := by
  have := few7_loop ls h ls.length 0 (Nat.zero_le _) (by omega)
  exact this.congr (fun k => rfl) (by simp)
theorem set_at {α : Type} (p : List α) (x v : α) (r : List α) : (p ++ x :: r).set p.length v = p ++ v :: r := by simp
theorem nat_Right_eq {l : List Int} (h : l.length ≤ maxLen) : nat_Right.f l = some (rightB l) := by
  unfold maxLen at h
  unfold nat_Right.f rightB
  by_cases h1 : l.length ≤ 64
  · rw [if_pos (by omega)]
    by_cases h2 : l.length = 0
    · rw [if_pos (by omega)]
      simp [h1, h2]
    · rw [if_neg (by omega), w64 (by omega) (by omega), if_pos (by omega), if_pos (by omega), rd_getD]
      rw [show ((l.length : Int) - 1).toNat = l.length - 1 from by omega]
      have h3 : (l.length == 0) = false := by simpa using h2
      rw [h3]
      simp [h1]
  · rw [if_neg (by omega)]
    simp [h1]
theorem nat_trim_loop (l : List Int) (h : l.length ≤ maxLen) : ∀ n : Nat, n ≤ l.length → Evt (fun k => nat_trim.l0 k l (n : Int)) (strip (l.take n)) := by
  unfold maxLen at h
  intro n
  induction n with
  | zero =>
    intro _
    refine Evt.succ ?_
    simp only [nat_trim.l0]
    refine Evt.ite_neg (by omega) (Evt.ite_pos (by omega) (Evt.ite_pos (by omega) ?_))
    simp [strip]
    exact Evt.pure _
  | succ n ih =>
    intro hn
    refine Evt.succ ?_
    simp only [nat_trim.l0]
    rw [w64 (by omega) (by omega), show ((n + 1 : Nat) : Int) - 1 = (n : Int) from by omega]
    refine Evt.ite_pos (by omega) (Evt.ite_pos (by omega) (Evt.ite_pos (by omega) ?_))
    rw [rd_nat, List.take_succ_eq_append_getElem (show n < l.length by omega)]
    have hg : l.getD n 0 = l[n] := by simp [show n < l.length by omega]
    rw [hg]
    by_cases h0 : l[n] = 0
    · rw [h0, strip_snoc_zero]
      exact Evt.ite_pos rfl (ih (by omega))
    · rw [strip_snoc h0]
      refine Evt.ite_neg h0 (Evt.ite_pos (by omega) (Evt.ite_pos (by omega) ?_))
      rw [← List.take_succ_eq_append_getElem (show n < l.length by omega)]
      exact Evt.pure _
theorem nat_trim_ev (l : List Int) (h : l.length ≤ maxLen) : Evt (fun k => nat_trim.f k l) (strip l) := by
  have := nat_trim_loop l h l.length (Nat.le_refl _)
  exact this.congr (fun k => rfl) (by rw [List.take_length])
theorem nat_told_ev (l : List Int) (h : l.length ≤ 1000000) (d : Dig (b64 : Int) l) : Evt (fun k => nat_told.f k l) (toldV (num l)) := by
  unfold nat_told.f toldV
  refine Evt.bind (nat_trim_ev l (by simp [maxLen]; omega)) ?_
  rw [strip_limbs d]
  have hl := limbs_long (num l)
  by_cases h1 : num l < b64 ^ 64
  · rw [if_pos h1]
    have := hl.2 h1
    exact Evt.ite_neg (by omega) (Evt.pure _)
  · rw [if_neg h1]
    have : ¬ (limbs (num l)).length ≤ 64 := fun hh => h1 (hl.1 hh)
    exact Evt.ite_pos (by omega) (Evt.pure _)
theorem carry_of {c : Int} (h : c = 0 ∨ c = 1) : carry01 c = true := decide_eq_true h
def lessL : List Int → List Int → Int → List Int
  | [], _, _ => []
  | x :: a, b, c => sub64_s x (b.getD 0 0) c :: lessL a (b.drop 1) (sub64_c x (b.getD 0 0) c)
theorem sub64_facts {x y c : Int} (hx : 0 ≤ x ∧ x < (b64 : Int)) (hy : 0 ≤ y ∧ y < (b64 : Int)) (hc : c = 0 ∨ c = 1) :
    sub64_s x y c - (b64 : Int) * sub64_c x y c = x - y - c ∧ (0 ≤ sub64_s x y c ∧ sub64_s x y c < (b64 : Int)) ∧ (sub64_c x y c = 0 ∨ sub64_c x y c = 1) := by
  unfold sub64_s sub64_c
  simp only [b64] at *
  by_cases h : x.toNat < y.toNat + c.toNat
  · rw [if_pos h]; omega
  · rw [if_neg h]; omega
theorem lessL_len : ∀ (a b : List Int) (c : Int), (lessL a b c).length = a.length := by
  intro a
  induction a with
  | nil => intro b c; rfl
  | cons z x ih => intro b c; simp only [lessL, List.length_cons, ih]
theorem lessL_facts : ∀ (a b : List Int) (c : Int), Dig (b64 : Int) a → Dig (b64 : Int) b → b.length ≤ a.length → (c = 0 ∨ c = 1) →
    Dig (b64 : Int) (lessL a b c) ∧ ∃ t, 0 ≤ t ∧ val (b64 : Int) (lessL a b c) = val (b64 : Int) a - val (b64 : Int) b - c + (b64 : Int) ^ a.length * t := by
  intro a
  induction a with
  | nil =>
    intro b c _ _ hlen hc
    have : b = [] := List.length_eq_zero_iff.1 (by simpa using hlen)
    subst this
    exact ⟨Dig.nil, c, by omega, by simp [lessL, val]; omega⟩
  | cons x a ih =>
    intro b c da db hlen hc
    have d1 := Dig.cons.1 da
    have hy := db.getD b64_pos 0
    obtain ⟨e1, e2, e3⟩ := sub64_facts d1.1 hy hc
    obtain ⟨i1, t, ht, i2⟩ := ih (b.drop 1) _ d1.2 (db.drop 1) (by simp at hlen ⊢; omega) e3
    refine ⟨Dig.cons.2 ⟨e2, i1⟩, t, ht, ?_⟩
    simp only [lessL, val]
    rw [i2]
    have hb : val (b64 : Int) b = b.getD 0 0 + (b64 : Int) * val (b64 : Int) (b.drop 1) := by
      cases b with
      | nil => simp [val]
      | cons y b => simp [val]
    rw [hb]
    generalize (b64 : Int) = B at *
    generalize sub64_s x (b.getD 0 0) c = s at *
    generalize sub64_c x (b.getD 0 0) c = u at *
    generalize val B a = va at *
    generalize val B (b.drop 1) = vb at *
    generalize b.getD 0 0 = y at *
    rw [List.length_cons, Int.pow_succ]
    generalize B ^ a.length = P at *
    have h1 : B * (va - vb - u + P * t) = B * va - B * vb - B * u + P * B * t := by grind
    omega
theorem nat_less_l0 (a b : List Int) (ha : a.length ≤ 1000) (hb : b.length ≤ 1000) (da : Dig (b64 : Int) a) (db : Dig (b64 : Int) b) (n : Nat) : ∀ (i : Nat) (p : List Int) (c : Int), p.length = i → i ≤ a.length → a.length - i = n → (c = 0 ∨ c = 1) →
    Evt (fun k => nat_less.l0 k a b (p ++ List.replicate n 0) c (a.length : Int) (i : Int)) (p ++ lessL (a.drop i) (b.drop i) c) := by
  induction n with
  | zero =>
    intro i p c hp hi hn hc
    refine Evt.succ ?_
    simp only [nat_less.l0]
    refine Evt.ite_neg (by omega) ?_
    rw [List.drop_of_length_le (show a.length ≤ i by omega)]
    simp only [lessL, List.replicate_zero]
    exact Evt.pure _
  | succ n ih =>
    intro i p c hp hi hn hc
    have hlt : i < a.length := by omega
    refine Evt.succ ?_
    simp only [nat_less.l0]
    refine Evt.ite_pos (by omega) ?_
    have hx : rd a (i : Int) = a[i] := by simp [rd_nat, hlt]
    have hxr := da a[i] (List.getElem_mem hlt)
    have hset : ∀ v : Int, (p ++ List.replicate (n + 1) 0).set ((i : Int)).toNat v = (p ++ [v]) ++ List.replicate n 0 := by
      intro v
      rw [show ((i : Int)).toNat = p.length from by omega, List.replicate_succ, set_at, List.append_assoc]
      rfl
    have hyr := (db.drop i).getD b64_pos 0
    have hfin : ∀ y : Int, y = (b.drop i).getD 0 0 → Evt (fun k => nat_less.l0 k a b ((p ++ List.replicate (n + 1) 0).set ((i : Int)).toNat (sub64_s (rd a (i : Int)) y c)) (sub64_c (rd a (i : Int)) y c) (a.length : Int) (wrap64 ((i : Int) + 1))) (p ++ lessL (a.drop i) (b.drop i) c) := by
      intro y hy
      subst hy
      obtain ⟨e1, e2, e3⟩ := sub64_facts hxr hyr hc
      rw [hx, hset, w64 (by omega) (by omega)]
      have h := ih (i + 1) (p ++ [sub64_s a[i] ((b.drop i).getD 0 0) c]) (sub64_c a[i] ((b.drop i).getD 0 0) c) (by simp [hp]) (by omega) (by omega) e3
      refine h.congr (fun k => rfl) ?_
      rw [List.drop_eq_getElem_cons hlt]
      simp only [lessL, List.drop_drop, List.append_assoc, List.singleton_append]
    by_cases hib : i < b.length
    · refine Evt.ite_pos (by omega) (Evt.ite_pos (by omega) (Evt.ite_pos (by omega) (Evt.ite_pos (carry_of hc) (Evt.ite_pos (by simp; omega) ?_))))
      refine hfin _ ?_
      simp [rd_nat, hib]
    · refine Evt.ite_neg (by omega) (Evt.ite_pos (by omega) (Evt.ite_pos (by omega) (Evt.ite_pos (carry_of hc) (Evt.ite_pos (by simp; omega) ?_))))
      refine hfin _ ?_
      simp [List.drop_of_length_le (show b.length ≤ i by omega)]
theorem nat_less_ev (a b : List Int) (ha : a.length ≤ 1000) (hb : b.length ≤ a.length) (da : Dig (b64 : Int) a) (db : Dig (b64 : Int) b) (hle : num b ≤ num a) : ∃ s, Evt (fun k => nat_less.f k a b) s ∧ Dig (b64 : Int) s ∧ num s = num a - num b ∧ s.length = a.length := by
  refine ⟨lessL a b 0, ?_, ?_⟩
  · unfold nat_less.f
    refine Evt.ite_pos (by omega) (Evt.ite_pos (by omega) ?_)
    have h := nat_less_l0 a b ha (by omega) da db a.length 0 [] 0 rfl (Nat.zero_le _) (by omega) (Or.inl rfl)
    exact h.congr (fun k => by simp) (by simp)
  · obtain ⟨f1, t, ht, f2⟩ := lessL_facts a b 0 da db hb (Or.inl rfl)
    refine ⟨f1, ?_, lessL_len a b 0⟩
    have h1 := num_val f1
    have h2 := num_val da
    have h3 := num_val db
    have h4 := num_lt f1
    rw [lessL_len] at h4
    rw [pow_cast] at f2
    have ht0 : t = 0 := by
      by_cases e : t = 0
      · exact e
      · have h5 : ((b64 ^ a.length : Nat) : Int) * 1 ≤ ((b64 ^ a.length : Nat) : Int) * t := Int.mul_le_mul_of_nonneg_left (by omega) (by omega)
        omega
    subst ht0
    rw [Int.mul_zero] at f2
    omega
def cmpL (B : Int) (l m : List Int) : Int := if val B l < val B m then -1 else if val B l = val B m then 0 else 1
theorem val_take_succ (B : Int) (l : List Int) (i : Nat) (h : i < l.length) : val B (l.take (i + 1)) = val B (l.take i) + B ^ i * l[i] := by
  rw [List.take_succ_eq_append_getElem h, val_append]
  simp only [val, List.length_take]
  rw [show min i l.length = i from by omega, Int.mul_zero, Int.add_zero]
theorem cmp_step {B : Int} (hB : 0 < B) {l m : List Int} (hl : Dig B l) (hm : Dig B m) (i : Nat) (h1 : i < l.length) (h2 : i < m.length) :
    (l[i] < m[i] → cmpL B (l.take (i + 1)) (m.take (i + 1)) = -1) ∧ (m[i] < l[i] → cmpL B (l.take (i + 1)) (m.take (i + 1)) = 1) ∧ (l[i] = m[i] → cmpL B (l.take (i + 1)) (m.take (i + 1)) = cmpL B (l.take i) (m.take i)) := by
  have a1 := val_nonneg hB (hl.take i)
  have a2 := val_nonneg hB (hm.take i)
  have b1 := val_lt hB (hl.take i)
  have b2 := val_lt hB (hm.take i)
  rw [List.length_take, show min i l.length = i from by omega] at b1
  rw [List.length_take, show min i m.length = i from by omega] at b2
  have hp : 0 < B ^ i := Int.pow_pos hB
  unfold cmpL
  rw [val_take_succ B l i h1, val_take_succ B m i h2]
  refine ⟨fun h => ?_, fun h => ?_, fun h => ?_⟩
  · have h3 : B ^ i * (l[i] + 1) ≤ B ^ i * m[i] := Int.mul_le_mul_of_nonneg_left (by omega) (by omega)
    rw [Int.mul_add, Int.mul_one] at h3
    rw [if_pos (by omega)]
  · have h3 : B ^ i * (m[i] + 1) ≤ B ^ i * l[i] := Int.mul_le_mul_of_nonneg_left (by omega) (by omega)
    rw [Int.mul_add, Int.mul_one] at h3
    rw [if_neg (by omega), if_neg (by omega)]
  · rw [h]
    by_cases c1 : val B (l.take i) < val B (m.take i)
    · rw [if_pos c1, if_pos (by omega)]
    · by_cases c2 : val B (l.take i) = val B (m.take i)
      · rw [if_neg c1, if_pos c2, if_neg (by omega), if_pos (by omega)]
      · rw [if_neg c1, if_neg c2, if_neg (by omega), if_neg (by omega)]
theorem ref_compare_loop {B : Int} (hB : 0 < B) (l m : List Int) (hl : Dig B l) (hm : Dig B m) (hlen : l.length = m.length) (hb : l.length ≤ 1000000) : ∀ i : Nat, i ≤ l.length → Evt (fun k => windbreakref01_compare.l0 k l m ((i : Int) - 1)) (cmpL B (l.take i) (m.take i)) := by
  intro i
  induction i with
  | zero =>
    intro _
    refine Evt.succ ?_
    simp only [windbreakref01_compare.l0]
    refine Evt.ite_neg (by omega) ?_
    exact Evt.pure _
  | succ i ih =>
    intro hi
    have h1 : i < l.length := by omega
    have h2 : i < m.length := by omega
    obtain ⟨s1, s2, s3⟩ := cmp_step hB hl hm i h1 h2
    rw [show (((i + 1 : Nat) : Int) - 1) = (i : Int) from by omega]
    refine Evt.succ ?_
    simp only [windbreakref01_compare.l0]
    refine Evt.ite_pos (by omega) (Evt.ite_pos (by omega) (Evt.ite_pos (by omega) (Evt.ite_pos (by omega) ?_)))
    have e1 : rd l (i : Int) = l[i] := by simp [rd_nat, h1]
    have e2 : rd m (i : Int) = m[i] := by simp [rd_nat, h2]
    rw [e1, e2]
    by_cases c1 : l[i] < m[i]
    · rw [s1 c1]; exact Evt.ite_pos c1 (Evt.pure _)
    · by_cases c2 : m[i] < l[i]
      · rw [s2 c2]; exact Evt.ite_neg c1 (Evt.ite_pos c2 (Evt.pure _))
      · rw [s3 (by omega)]
        refine Evt.ite_neg c1 (Evt.ite_neg c2 ?_)
        rw [w64 (by omega) (by omega)]
        exact ih (by omega)
theorem ref_compare_any {B : Int} (hB : 0 < B) (l m : List Int) (hl : Dig B l) (hm : Dig B m) (cl : Can l) (cm : Can m) (hb : l.length ≤ 1000000) : Evt (fun k => windbreakref01_compare.f k l m) (cmpL B l m) := by
  unfold windbreakref01_compare.f
  by_cases hlen : l.length = m.length
  · refine Evt.ite_pos (by omega) ?_
    rw [w64 (by omega) (by omega)]
    have := ref_compare_loop hB l m hl hm hlen hb l.length (Nat.le_refl _)
    refine this.congr (fun k => rfl) ?_
    rw [List.take_length, hlen, List.take_length]
  · refine Evt.ite_neg (by omega) ?_
    by_cases h2 : l.length < m.length
    · have := val_lt_of_length hB hl hm cm h2
      have e : cmpL B l m = -1 := if_pos this
      rw [e]
      exact Evt.ite_pos (by omega) (Evt.pure _)
    · have := val_lt_of_length hB hm hl cl (by omega)
      have e : cmpL B l m = 1 := by unfold cmpL; rw [if_neg (by omega), if_neg (by omega)]
      rw [e]
      exact Evt.ite_neg (by omega) (Evt.pure _)
theorem ref_compare_ev (v w : Nat) (hv : v < lim) : Evt (fun k => windbreakref01_compare.f k (digs v) (digs w)) (cmpN v w) := by
  have hlen : (digs v).length ≤ 1000000 := Nat.le_trans (digs_len hv) (by omega)
  refine (ref_compare_any b16_pos _ _ (toD_dig b16_two v) (toD_dig b16_two w) (toD_can b16_two v) (toD_can b16_two w) hlen).congr (fun k => rfl) ?_
  unfold cmpL cmpN
  rw [val_toD b16_two, val_toD b16_two]
  simp only [Int.ofNat_lt, Int.natCast_inj]
theorem nat_compare_loop {B : Int} (hB : 0 < B) (l m : List Int) (hl : Dig B l) (hm : Dig B m) (hlen : l.length = m.length) (hb : l.length ≤ 1000000) : ∀ i : Nat, i ≤ l.length → Evt (fun k => nat_compare.l0 k l m ((i : Int) - 1)) (cmpL B (l.take i) (m.take i)) := by
  intro i
  induction i with
  | zero =>
    intro _
    refine Evt.succ ?_
    simp only [nat_compare.l0]
    refine Evt.ite_neg (by omega) ?_
    exact Evt.pure _
  | succ i ih =>
    intro hi
    have h1 : i < l.length := by omega
    have h2 : i < m.length := by omega
    obtain ⟨s1, s2, s3⟩ := cmp_step hB hl hm i h1 h2
    rw [show (((i + 1 : Nat) : Int) - 1) = (i : Int) from by omega]
    refine Evt.succ ?_
    simp only [nat_compare.l0]
    refine Evt.ite_pos (by omega) (Evt.ite_pos (by omega) (Evt.ite_pos (by omega) (Evt.ite_pos (by omega) ?_)))
    have e1 : rd l (i : Int) = l[i] := by simp [rd_nat, h1]
    have e2 : rd m (i : Int) = m[i] := by simp [rd_nat, h2]
    rw [e1, e2]
    by_cases c0 : l[i] = m[i]
    · rw [s3 c0]
      refine Evt.ite_pos c0 ?_
      rw [w64 (by omega) (by omega)]
      exact ih (by omega)
    · refine Evt.ite_neg c0 ?_
      by_cases c1 : l[i] < m[i]
      · rw [s1 c1]; exact Evt.ite_pos c1 (Evt.pure _)
      · rw [s2 (by omega)]; exact Evt.ite_neg c1 (Evt.pure _)
theorem nat_compare_any {B : Int} (hB : 0 < B) (l m : List Int) (hl : Dig B l) (hm : Dig B m) (cl : Can l) (cm : Can m) (hb : l.length ≤ 1000000) : Evt (fun k => nat_compare.f k l m) (cmpL B l m) := by
  unfold nat_compare.f
  by_cases hlen : l.length = m.length
  · refine Evt.ite_pos (by omega) ?_
    rw [w64 (by omega) (by omega)]
    have := nat_compare_loop hB l m hl hm hlen hb l.length (Nat.le_refl _)
    refine this.congr (fun k => rfl) ?_
    rw [List.take_length, hlen, List.take_length]
  · refine Evt.ite_neg (by omega) ?_
    by_cases h2 : l.length < m.length
    · have := val_lt_of_length hB hl hm cm h2
      have e : cmpL B l m = -1 := if_pos this
      rw [e]
      exact Evt.ite_pos (by omega) (Evt.pure _)
    · have := val_lt_of_length hB hm hl cl (by omega)
      have e : cmpL B l m = 1 := by unfold cmpL; rw [if_neg (by omega), if_neg (by omega)]
      rw [e]
      exact Evt.ite_neg (by omega) (Evt.pure _)
theorem nat_compare_ev (l m : List Int) (hl : Dig (b64 : Int) l) (hm : Dig (b64 : Int) m) (cl : Can l) (cm : Can m) (hb : l.length ≤ 1000000) : Evt (fun k => nat_compare.f k l m) (cmpN (num l) (num m)) := by
  refine (nat_compare_any b64_pos l m hl hm cl cm hb).congr (fun k => rfl) ?_
  unfold cmpL cmpN
  rw [← num_val hl, ← num_val hm]
  simp only [Int.ofNat_lt, Int.natCast_inj]
theorem nat_right_eq (ls : List (List Int)) (h : ∀ l ∈ ls, l.length ≤ maxLen) : nat_right.f ls = some (ls.all rightB) := by
  induction ls with
  | nil => rfl
  | cons a ls ih =>
    simp only [nat_right.f]
    rw [nat_Right_eq (h a (by simp)), ih (fun l hl => h l (by simp [hl]))]
    simp only [Option.bind_some, List.all_cons]
    cases rightB a <;> simp
def subV (a b : List Int) : List Int × Int := if rightB a = true ∧ rightB b = true then (if num a < num b then ([], 2) else (limbs (num a - num b), 0)) else ([], 1)
theorem len_of_num_le {a b : List Int} (da : Dig (b64 : Int) a) (db : Dig (b64 : Int) b) (ca : Can a) (cb : Can b) (h : num b ≤ num a) : b.length ≤ a.length := by
  by_cases hl : b.length ≤ a.length
  · exact hl
  · have := val_lt_of_length b64_pos da db cb (by omega)
    rw [← num_val da, ← num_val db] at this
    omega
theorem toldV_small {v : Nat} (h : v < b64 ^ 64) : toldV v = (limbs v, 0) := if_pos h
theorem nat_Sub_ev (a b : List Int) (ha : a.length ≤ maxLen) (hb : b.length ≤ maxLen) (da : Dig (b64 : Int) a) (db : Dig (b64 : Int) b) : Evt (fun k => nat_Sub.f k a b) (subV a b) := by
  unfold nat_Sub.f subV
  rw [nat_right_eq _ (by intro l hl; simp at hl; rcases hl with rfl | rfl <;> assumption)]
  simp only [Option.bind_some, List.all_cons, List.all_nil, Bool.and_true, Bool.and_eq_true]
  by_cases h : rightB a = true ∧ rightB b = true
  · rw [if_pos h]
    refine Evt.ite_pos h ?_
    obtain ⟨h1, c1⟩ := (rightB_iff a).1 h.1
    obtain ⟨h2, c2⟩ := (rightB_iff b).1 h.2
    refine Evt.bind (nat_compare_ev a b da db c1 c2 (by omega)) ?_
    by_cases hlt : num a < num b
    · have e : cmpN (num a) (num b) = -1 := if_pos hlt
      rw [e, if_pos hlt]
      exact Evt.ite_pos (by omega) (Evt.pure _)
    · have e : ¬ cmpN (num a) (num b) < 0 := by
        unfold cmpN
        rw [if_neg hlt]
        by_cases e2 : num a = num b
        · rw [if_pos e2]; omega
        · rw [if_neg e2]; omega
      rw [if_neg hlt]
      refine Evt.ite_neg e ?_
      obtain ⟨s, e1, e2, e3, e4⟩ := nat_less_ev a b (by omega) (len_of_num_le da db c1 c2 (by omega)) da db (by omega)
      refine Evt.bind e1 ?_
      have n1 : num a - num b < b64 ^ 64 := by
        have := num_lt_p da h1
        omega
      have h5 := nat_told_ev s (by omega) e2
      rw [e3, toldV_small n1] at h5
      exact Evt.bind h5 (h := fun t _ => some (t.1, t.2)) (Evt.pure _)
  · rw [if_neg h]
    exact Evt.ite_neg h (Evt.pure _)
def sumL : List Int → List Int → Int → List Int
  | [], _, c => [c]
  | x :: a, b, c => add64_s x (b.getD 0 0) c :: sumL a (b.drop 1) (add64_c x (b.getD 0 0) c)
theorem add64_facts {x y c : Int} (hx : 0 ≤ x ∧ x < (b64 : Int)) (hy : 0 ≤ y ∧ y < (b64 : Int)) (hc : c = 0 ∨ c = 1) :
    add64_s x y c + (b64 : Int) * add64_c x y c = x + y + c ∧ (0 ≤ add64_s x y c ∧ add64_s x y c < (b64 : Int)) ∧ (add64_c x y c = 0 ∨ add64_c x y c = 1) := by
  unfold add64_s add64_c
  simp only [b64] at *
  omega
theorem sumL_facts : ∀ (a b : List Int) (c : Int), Dig (b64 : Int) a → Dig (b64 : Int) b → b.length ≤ a.length → (c = 0 ∨ c = 1) →
    Dig (b64 : Int) (sumL a b c) ∧ val (b64 : Int) (sumL a b c) = val (b64 : Int) a + val (b64 : Int) b + c := by
  intro a
  induction a with
  | nil =>
    intro b c _ _ hlen hc
    have : b = [] := List.length_eq_zero_iff.1 (by simpa using hlen)
    subst this
    refine ⟨?_, ?_⟩
    · intro x hx
      simp [sumL] at hx
      subst hx
      simp only [b64]; omega
    · simp [sumL, val]
  | cons x a ih =>
    intro b c da db hlen hc
    have d1 := Dig.cons.1 da
    have hy := db.getD b64_pos 0
    obtain ⟨e1, e2, e3⟩ := add64_facts d1.1 hy hc
    obtain ⟨i1, i2⟩ := ih (b.drop 1) _ d1.2 (db.drop 1) (by simp at hlen ⊢; omega) e3
    refine ⟨Dig.cons.2 ⟨e2, i1⟩, ?_⟩
    simp only [sumL, val]
    rw [i2]
    have hb : val (b64 : Int) b = b.getD 0 0 + (b64 : Int) * val (b64 : Int) (b.drop 1) := by
      cases b with
      | nil => simp [val]
      | cons y b => simp [val]
    rw [hb]
    generalize (b64 : Int) = B at *
    generalize add64_s x (b.getD 0 0) c = s at *
    generalize add64_c x (b.getD 0 0) c = t at *
    generalize val B a = va at *
    generalize val B (b.drop 1) = vb at *
    generalize b.getD 0 0 = y at *
    have : B * (va + vb + t) = B * va + B * vb + B * t := by rw [Int.mul_add, Int.mul_add]
    omega
theorem nat_sum_l0 (a b : List Int) (ha : a.length ≤ 1000) (hb : b.length ≤ 1000) (da : Dig (b64 : Int) a) (db : Dig (b64 : Int) b) (n : Nat) : ∀ (i : Nat) (p : List Int) (c : Int), p.length = i → i ≤ a.length → a.length - i = n → (c = 0 ∨ c = 1) →
    Evt (fun k => nat_sum.l0 k a b (p ++ List.replicate (n + 1) 0) c (a.length : Int) (i : Int)) (p ++ sumL (a.drop i) (b.drop i) c) := by
  induction n with
  | zero =>
    intro i p c hp hi hn hc
    refine Evt.succ ?_
    simp only [nat_sum.l0]
    refine Evt.ite_neg (by omega) (Evt.ite_pos (by omega) (Evt.ite_pos (by simp; omega) ?_))
    rw [List.drop_of_length_le (show a.length ≤ i by omega), show ((a.length : Int)).toNat = p.length from by omega]
    simp only [sumL, List.replicate_succ, List.replicate_zero]
    rw [set_at]
    exact Evt.pure _
  | succ n ih =>
    intro i p c hp hi hn hc
    have hlt : i < a.length := by omega
    refine Evt.succ ?_
    simp only [nat_sum.l0]
    refine Evt.ite_pos (by omega) ?_
    have hx : rd a (i : Int) = a[i] := by simp [rd_nat, hlt]
    have hxr := da a[i] (List.getElem_mem hlt)
    have hset : ∀ v : Int, (p ++ List.replicate (n + 1 + 1) 0).set ((i : Int)).toNat v = (p ++ [v]) ++ List.replicate (n + 1) 0 := by
      intro v
      rw [show ((i : Int)).toNat = p.length from by omega, List.replicate_succ, set_at, List.append_assoc]
      rfl
    have hyr := (db.drop i).getD b64_pos 0
    have hfin : ∀ y : Int, y = (b.drop i).getD 0 0 → Evt (fun k => nat_sum.l0 k a b ((p ++ List.replicate (n + 1 + 1) 0).set ((i : Int)).toNat (add64_s (rd a (i : Int)) y c)) (add64_c (rd a (i : Int)) y c) (a.length : Int) (wrap64 ((i : Int) + 1))) (p ++ sumL (a.drop i) (b.drop i) c) := by
      intro y hy
      subst hy
      obtain ⟨e1, e2, e3⟩ := add64_facts hxr hyr hc
      rw [hx, hset, w64 (by omega) (by omega)]
      have h := ih (i + 1) (p ++ [add64_s a[i] ((b.drop i).getD 0 0) c]) (add64_c a[i] ((b.drop i).getD 0 0) c) (by simp [hp]) (by omega) (by omega) e3
      refine h.congr (fun k => rfl) ?_
      rw [List.drop_eq_getElem_cons hlt]
      simp only [sumL, List.drop_drop, List.append_assoc, List.singleton_append]
    by_cases hib : i < b.length
    · refine Evt.ite_pos (by omega) (Evt.ite_pos (by omega) (Evt.ite_pos (by omega) (Evt.ite_pos (carry_of hc) (Evt.ite_pos (by simp; omega) ?_))))
      refine hfin _ ?_
      simp [rd_nat, hib]
    · refine Evt.ite_neg (by omega) (Evt.ite_pos (by omega) (Evt.ite_pos (by omega) (Evt.ite_pos (carry_of hc) (Evt.ite_pos (by simp; omega) ?_))))
      refine hfin _ ?_
      simp [List.drop_of_length_le (show b.length ≤ i by omega)]
theorem nat_sum_l51 (a b : List Int) (ha : a.length ≤ 1000) (hb : b.length ≤ 1000) (da : Dig (b64 : Int) a) (db : Dig (b64 : Int) b) (n : Nat) : ∀ (i : Nat) (p : List Int) (c : Int), p.length = i → i ≤ a.length → a.length - i = n → (c = 0 ∨ c = 1) →
    Evt (fun k => nat_sum.l51 k a b (p ++ List.replicate (n + 1) 0) c (a.length : Int) (i : Int)) (p ++ sumL (a.drop i) (b.drop i) c) := by
  induction n with
  | zero =>
    intro i p c hp hi hn hc
    refine Evt.succ ?_
    simp only [nat_sum.l51]
    refine Evt.ite_neg (by omega) (Evt.ite_pos (by omega) (Evt.ite_pos (by simp; omega) ?_))
    rw [List.drop_of_length_le (show a.length ≤ i by omega), show ((a.length : Int)).toNat = p.length from by omega]
    simp only [sumL, List.replicate_succ, List.replicate_zero]
    rw [set_at]
    exact Evt.pure _
  | succ n ih =>
    intro i p c hp hi hn hc
    have hlt : i < a.length := by omega
    refine Evt.succ ?_
    simp only [nat_sum.l51]
    refine Evt.ite_pos (by omega) ?_
    have hx : rd a (i : Int) = a[i] := by simp [rd_nat, hlt]
    have hxr := da a[i] (List.getElem_mem hlt)
    have hset : ∀ v : Int, (p ++ List.replicate (n + 1 + 1) 0).set ((i : Int)).toNat v = (p ++ [v]) ++ List.replicate (n + 1) 0 := by
      intro v
      rw [show ((i : Int)).toNat = p.length from by omega, List.replicate_succ, set_at, List.append_assoc]
      rfl
    have hyr := (db.drop i).getD b64_pos 0
    have hfin : ∀ y : Int, y = (b.drop i).getD 0 0 → Evt (fun k => nat_sum.l51 k a b ((p ++ List.replicate (n + 1 + 1) 0).set ((i : Int)).toNat (add64_s (rd a (i : Int)) y c)) (add64_c (rd a (i : Int)) y c) (a.length : Int) (wrap64 ((i : Int) + 1))) (p ++ sumL (a.drop i) (b.drop i) c) := by
      intro y hy
      subst hy
      obtain ⟨e1, e2, e3⟩ := add64_facts hxr hyr hc
      rw [hx, hset, w64 (by omega) (by omega)]
      have h := ih (i + 1) (p ++ [add64_s a[i] ((b.drop i).getD 0 0) c]) (add64_c a[i] ((b.drop i).getD 0 0) c) (by simp [hp]) (by omega) (by omega) e3
      refine h.congr (fun k => rfl) ?_
      rw [List.drop_eq_getElem_cons hlt]
      simp only [sumL, List.drop_drop, List.append_assoc, List.singleton_append]
    by_cases hib : i < b.length
    · refine Evt.ite_pos (by omega) (Evt.ite_pos (by omega) (Evt.ite_pos (by omega) (Evt.ite_pos (carry_of hc) (Evt.ite_pos (by simp; omega) ?_))))
      refine hfin _ ?_
      simp [rd_nat, hib]
    · refine Evt.ite_neg (by omega) (Evt.ite_pos (by omega) (Evt.ite_pos (by omega) (Evt.ite_pos (carry_of hc) (Evt.ite_pos (by simp; omega) ?_))))
      refine hfin _ ?_
      simp [List.drop_of_length_le (show b.length ≤ i by omega)]
theorem nat_sum_ev (a b : List Int) (ha : a.length ≤ 1000) (hb : b.length ≤ 1000) (da : Dig (b64 : Int) a) (db : Dig (b64 : Int) b) : ∃ s, Evt (fun k => nat_sum.f k a b) s ∧ Dig (b64 : Int) s ∧ num s = num a + num b ∧ s.length ≤ 1002 := by
  unfold nat_sum.f
  have fin : ∀ (x y : List Int), Dig (b64 : Int) x → Dig (b64 : Int) y → y.length ≤ x.length → x.length ≤ 1000 → Dig (b64 : Int) (sumL x y 0) ∧ num (sumL x y 0) = num x + num y ∧ (sumL x y 0).length ≤ 1002 := by
    intro x y dx dy hlen hx
    obtain ⟨f1, f2⟩ := sumL_facts x y 0 dx dy hlen (Or.inl rfl)
    have l1 : ∀ (x y : List Int) (c : Int), (sumL x y c).length = x.length + 1 := by
      intro x
      induction x with
      | nil => intro y c; rfl
      | cons z x ih => intro y c; simp only [sumL, List.length_cons, ih]
    refine ⟨f1, ?_, by rw [l1]; omega⟩
    have := num_val f1
    have := num_val dx
    have := num_val dy
    omega
  have ex : ∀ x : List Int, x.length ≤ 1000 → wrap64 ((x.length : Int) + 1) = ((x.length + 1 : Nat) : Int) := fun x hx => by rw [w64 (by omega) (by omega)]; omega
  by_cases h : a.length < b.length
  · refine ⟨sumL b a 0, Evt.ite_pos (by omega) ?_, (fin b a db da (by omega) hb).1, by rw [(fin b a db da (by omega) hb).2.1]; omega, (fin b a db da (by omega) hb).2.2⟩
    rw [ex b hb]
    refine Evt.ite_pos (by omega) (Evt.ite_pos (by omega) ?_)
    exact (nat_sum_l0 b a hb ha db da b.length 0 [] 0 rfl (Nat.zero_le _) (by omega) (Or.inl rfl)).congr (fun k => rfl) (by simp)
  · refine ⟨sumL a b 0, Evt.ite_neg (by omega) ?_, (fin a b da db (by omega) ha).1, (fin a b da db (by omega) ha).2.1, (fin a b da db (by omega) ha).2.2⟩
    rw [ex a ha]
    refine Evt.ite_pos (by omega) (Evt.ite_pos (by omega) ?_)
    exact (nat_sum_l51 a b ha hb da db a.length 0 [] 0 rfl (Nat.zero_le _) (by omega) (Or.inl rfl)).congr (fun k => rfl) (by simp)
def addV (a b : List Int) : List Int × Int := if rightB a = true ∧ rightB b = true then toldV (num a + num b) else ([], 1)
theorem nat_Add_ev (a b : List Int) (ha : a.length ≤ maxLen) (hb : b.length ≤ maxLen) (da : Dig (b64 : Int) a) (db : Dig (b64 : Int) b) : Evt (fun k => nat_Add.f k a b) (addV a b) := by
  unfold nat_Add.f addV
  rw [nat_right_eq _ (by intro l hl; simp at hl; rcases hl with rfl | rfl <;> assumption)]
  simp only [Option.bind_some, List.all_cons, List.all_nil, Bool.and_true, Bool.and_eq_true]
  by_cases h : rightB a = true ∧ rightB b = true
  · rw [if_pos h]
    refine Evt.ite_pos h ?_
    obtain ⟨h1, c1⟩ := (rightB_iff a).1 h.1
    obtain ⟨h2, c2⟩ := (rightB_iff b).1 h.2
    obtain ⟨s, e1, e2, e3, e4⟩ := nat_sum_ev a b (by omega) (by omega) da db
    refine Evt.bind e1 ?_
    rw [← e3]
    exact Evt.bind (nat_told_ev s (by omega) e2) (h := fun t _ => some (t.1, t.2)) (Evt.pure _)
  · rw [if_neg h]
    exact Evt.ite_neg h (Evt.pure _)
def cmpV (a b : List Int) : Int := if rightB a = true ∧ rightB b = true then cmpN (num a) (num b) else 0
theorem nat_Cmp_ev (a b : List Int) (ha : a.length ≤ maxLen) (hb : b.length ≤ maxLen) (da : Dig (b64 : Int) a) (db : Dig (b64 : Int) b) : Evt (fun k => nat_Cmp.f k a b) (cmpV a b) := by
  unfold nat_Cmp.f cmpV
  rw [nat_right_eq _ (by intro l hl; simp at hl; rcases hl with rfl | rfl <;> assumption)]
  simp only [Option.bind_some, List.all_cons, List.all_nil, Bool.and_true, Bool.and_eq_true]
  by_cases h : rightB a = true ∧ rightB b = true
  · rw [if_pos h]
    refine Evt.ite_pos h ?_
    obtain ⟨h1, c1⟩ := (rightB_iff a).1 h.1
    obtain ⟨h2, c2⟩ := (rightB_iff b).1 h.2
    exact Evt.bind (nat_compare_ev a b da db c1 c2 (by omega)) (h := fun t _ => some t) (Evt.pure _)
  · rw [if_neg h]
    exact Evt.ite_neg h (Evt.pure _)
theorem nat_Of_ev (n : Int) : Evt (fun k => nat_Of.f k n) (strip [n]) := by
  refine (Evt.bind (nat_trim_ev [n] (by simp [maxLen])) (h := fun t _ => some t) (Evt.pure _)).congr (fun k => rfl) rfl
theorem nat_Small_ev (l : List Int) (h : l.length ≤ maxLen) : Evt (fun k => nat_Small.f k l) (smallV l) := by
  unfold nat_Small.f smallV
  rw [nat_Right_eq h]
  simp only [Option.bind_some]
  have J : ∀ x : Bool, Evt (fun k => nat_Small.j0 k l x) (if x = true then (0, false) else (l.getD 0 0, true)) := by
    intro x
    refine Evt.succ ?_
    simp only [nat_Small.j0]
    refine Evt.cond (fun _ => Evt.pure _) (fun _ => ?_)
    by_cases h0 : l.length = 0
    · refine Evt.ite_pos (by omega) ?_
      rw [List.length_eq_zero_iff.1 h0]
      exact Evt.pure _
    · exact Evt.ite_neg (by omega) (Evt.ite_pos (by omega) (Evt.pure _))
  cases hr : rightB l with
  | true =>
    refine Evt.ite_pos rfl ?_
    refine (J _).congr (fun k => rfl) ?_
    by_cases h1 : l.length ≤ 1
    · rw [if_neg (by simp; omega), if_pos ⟨rfl, h1⟩]
    · rw [if_pos (by simp; omega), if_neg (fun h => h1 h.2)]
  | false =>
    refine Evt.ite_neg (by simp) ?_
    refine (J _).congr (fun k => rfl) ?_
    simp
theorem windbreakref01_Right_eq {l : List Int} (h : l.length ≤ maxLen) : windbreakref01_Right.f l = some (rightB l) := by
  unfold maxLen at h
  unfold windbreakref01_Right.f rightB
  by_cases h1 : l.length ≤ 64
  · rw [if_pos (by omega)]
    by_cases h2 : l.length = 0
    · rw [if_pos (by omega)]
      simp [h1, h2]
    · rw [if_neg (by omega), w64 (by omega) (by omega), if_pos (by omega), if_pos (by omega), rd_getD]
      rw [show ((l.length : Int) - 1).toNat = l.length - 1 from by omega]
      have h3 : (l.length == 0) = false := by simpa using h2
      rw [h3]
      simp [h1]
  · rw [if_neg (by omega)]
    simp [h1]
theorem windbreakref01_cut_loop (l : List Int) (h : l.length ≤ maxLen) : ∀ n : Nat, n ≤ l.length → Evt (fun k => windbreakref01_cut.l0 k l (n : Int)) (strip (l.take n)) := by
  unfold maxLen at h
  intro n
  induction n with
  | zero =>
    intro _
    refine Evt.succ ?_
    simp only [windbreakref01_cut.l0]
    refine Evt.ite_neg (by omega) (Evt.ite_pos (by omega) (Evt.ite_pos (by omega) ?_))
    simp [strip]
    exact Evt.pure _
  | succ n ih =>
    intro hn
    refine Evt.succ ?_
    simp only [windbreakref01_cut.l0]
    rw [w64 (by omega) (by omega), show ((n + 1 : Nat) : Int) - 1 = (n : Int) from by omega]
    refine Evt.ite_pos (by omega) (Evt.ite_pos (by omega) (Evt.ite_pos (by omega) ?_))
    rw [rd_nat, List.take_succ_eq_append_getElem (show n < l.length by omega)]
    have hg : l.getD n 0 = l[n] := by simp [show n < l.length by omega]
    rw [hg]
    by_cases h0 : l[n] = 0
    · rw [h0, strip_snoc_zero]
      exact Evt.ite_pos rfl (ih (by omega))
    · rw [strip_snoc h0]
      refine Evt.ite_neg h0 (Evt.ite_pos (by omega) (Evt.ite_pos (by omega) ?_))
      rw [← List.take_succ_eq_append_getElem (show n < l.length by omega)]
      exact Evt.pure _
theorem windbreakref01_cut_ev (l : List Int) (h : l.length ≤ maxLen) : Evt (fun k => windbreakref01_cut.f k l) (strip l) := by
  have := windbreakref01_cut_loop l h l.length (Nat.le_refl _)
  exact this.congr (fun k => rfl) (by rw [List.take_length])
def dg (x : Int) : List Int := [x % 65536, x / 65536 % 65536, x / 65536 / 65536 % 65536, x / 65536 / 65536 / 65536 % 65536]
theorem wdiv {x : Int} (h0 : 0 ≤ x) (h1 : x < 18446744073709551616) (c : Int) (hc : 0 < c) : IntKind.u64.wrap (Int.tdiv x c) = x / c := by
  rw [Int.tdiv_eq_ediv_of_nonneg h0]
  have h2 := Int.ediv_nonneg h0 (Int.le_of_lt hc)
  have h3 := Int.ediv_le_self c h0
  exact wu64_of h2 (by omega)
theorem in_step (a d : List Int) (i : Nat) (x : Int) (hx : 0 ≤ x ∧ x < 18446744073709551616) (hd : d.length ≤ 1000000) (hi : i ≤ 1000000) {r : List Int}
    (h : Evt (fun k => windbreakref01_In.l0 k a (d ++ dg x) ((i + 1 : Nat) : Int)) r) : Evt (fun k => windbreakref01_In.l1 k a d (i : Int) x 0) r := by
  refine Evt.succ ?_
  simp only [windbreakref01_In.l1]
  refine Evt.ite_pos (by omega) (Evt.ite_pos (by omega) ?_)
  rw [Int.tmod_eq_emod_of_nonneg hx.1, wdiv hx.1 hx.2 65536 (by omega), w64 (by omega) (by omega)]
  refine Evt.succ ?_
  simp only [windbreakref01_In.l1]
  refine Evt.ite_pos (by omega) (Evt.ite_pos (by simp; omega) ?_)
  rw [Int.tmod_eq_emod_of_nonneg (show 0 ≤ x / 65536 by omega), wdiv (show 0 ≤ x / 65536 by omega) (by omega) 65536 (by omega), w64 (by omega) (by omega)]
  refine Evt.succ ?_
  simp only [windbreakref01_In.l1]
  refine Evt.ite_pos (by omega) (Evt.ite_pos (by simp; omega) ?_)
  rw [Int.tmod_eq_emod_of_nonneg (show 0 ≤ x / 65536 / 65536 by omega), wdiv (show 0 ≤ x / 65536 / 65536 by omega) (by omega) 65536 (by omega), w64 (by omega) (by omega)]
  refine Evt.succ ?_
  simp only [windbreakref01_In.l1]
  refine Evt.ite_pos (by omega) (Evt.ite_pos (by simp; omega) ?_)
  rw [Int.tmod_eq_emod_of_nonneg (show 0 ≤ x / 65536 / 65536 / 65536 by omega), wdiv (show 0 ≤ x / 65536 / 65536 / 65536 by omega) (by omega) 65536 (by omega), w64 (by omega) (by omega)]
  refine Evt.succ ?_
  simp only [windbreakref01_In.l1]
  refine Evt.ite_neg (by omega) ?_
  rw [w64 (by omega) (by omega)]
  refine h.congr (fun k => ?_) rfl
  simp [dg]
theorem in_loop (a : List Int) (ha : a.length ≤ 1000) (hd : Dig (b64 : Int) a) (n : Nat) : ∀ i : Nat, i ≤ a.length → a.length - i = n → Evt (fun k => windbreakref01_In.l0 k a ((a.take i).flatMap dg) (i : Int)) (strip (a.flatMap dg)) := by
  have hlen : ∀ l : List Int, (l.flatMap dg).length = 4 * l.length := by
    intro l
    induction l with
    | nil => rfl
    | cons x l ih => simp only [List.flatMap_cons, List.length_append, ih, dg, List.length_cons, List.length_nil]; omega
  induction n with
  | zero =>
    intro i hi hn
    refine Evt.succ ?_
    simp only [windbreakref01_In.l0]
    refine Evt.ite_neg (by omega) ?_
    rw [List.take_of_length_le (by omega)]
    refine Evt.bind (windbreakref01_cut_ev _ (by rw [hlen]; simp [maxLen]; omega)) (h := fun t _ => some t) (Evt.pure _)
  | succ n ih =>
    intro i hi hn
    have hlt : i < a.length := by omega
    refine Evt.succ ?_
    simp only [windbreakref01_In.l0]
    refine Evt.ite_pos (by omega) (Evt.ite_pos (by omega) ?_)
    have hx : rd a (i : Int) = a[i] := by simp [rd_nat, hlt]
    have hr := hd a[i] (List.getElem_mem hlt)
    rw [hx]
    refine in_step a _ i _ hr (by rw [hlen, List.length_take]; omega) (by omega) ?_
    have := ih (i + 1) (by omega) (by omega)
    rw [List.take_succ_eq_append_getElem hlt, List.flatMap_append] at this
    refine this.congr (fun k => ?_) rfl
    simp
theorem ref_In_ev (a : List Int) (ha : a.length ≤ 1000) (hd : Dig (b64 : Int) a) : Evt (fun k => windbreakref01_In.f k a) (digs (num a)) := by
  have h := in_loop a ha hd a.length 0 (Nat.zero_le _) (by omega)
  obtain ⟨m, hm, _, hv, he⟩ := val_base a hd
  refine h.congr (fun k => rfl) ?_
  have e2 : a.flatMap dg = m := he.symm
  rw [e2, strip_digs hm]
  unfold num16 num
  rw [hv]
theorem strip_split (l : List Int) : ∃ n, l = strip l ++ List.replicate n 0 := by
  induction l with
  | nil => exact ⟨0, rfl⟩
  | cons d l ih =>
    obtain ⟨n, hn⟩ := ih
    simp only [strip]
    by_cases h : strip l = []
    · rw [if_pos h]
      rw [h, List.nil_append] at hn
      by_cases h0 : d = 0
      · rw [if_pos h0]
        refine ⟨n + 1, ?_⟩
        rw [h0, List.replicate_succ, List.nil_append, ← hn]
      · rw [if_neg h0]
        refine ⟨n, ?_⟩
        rw [List.singleton_append, ← hn]
    · rw [if_neg h]
      refine ⟨n, ?_⟩
      rw [List.cons_append, ← hn]
theorem can_of_val {B : Nat} (hB : 2 ≤ B) {l : List Int} (h : Dig (B : Int) l) (hv : l ≠ [] → (B : Int) ^ (l.length - 1) ≤ val (B : Int) l) : Can l := by
  by_cases e : l = []
  · subst e; exact Can.nil
  · have h1 := hv e
    obtain ⟨n, hn⟩ := strip_split l
    have h2 := val_lt (show (0 : Int) < (B : Int) by omega) (strip_dig h)
    rw [strip_val] at h2
    have h3 : l.length = (strip l).length + n := by
      have := congrArg List.length hn
      simpa using this
    have h4 : n = 0 := by
      by_cases hn0 : n = 0
      · exact hn0
      · have := pow_mono (show (0 : Int) < (B : Int) by omega) (show (strip l).length ≤ l.length - 1 by omega)
        omega
    subst h4
    rw [List.replicate_zero, List.append_nil] at hn
    rw [hn]
    exact strip_can l
def grp (d : List Int) : Int := d.getD 0 0 + 65536 * (d.getD 1 0 + 65536 * (d.getD 2 0 + 65536 * d.getD 3 0))
def outN : Nat → List Int → List Int
  | 0, _ => []
  | n + 1, d => grp d :: outN n (d.drop 4)
theorem grp_range {d : List Int} (h : Dig (b16 : Int) d) : 0 ≤ grp d ∧ grp d < (b64 : Int) := by
  have h0 := h.getD b16_pos 0
  have h1 := h.getD b16_pos 1
  have h2 := h.getD b16_pos 2
  have h3 := h.getD b16_pos 3
  unfold grp
  simp only [b16, b64] at *
  omega
theorem val_four (d : List Int) : val (b16 : Int) d = grp d + (b64 : Int) * val (b16 : Int) (d.drop 4) := by
  unfold grp
  simp only [b16, b64]
  match d with
  | [] => simp [val]
  | [a] => simp [val]
  | [a, b] => simp [val]
  | [a, b, c] => simp [val]
  | a :: b :: c :: e :: d => simp [val]; omega
theorem outN_facts (n : Nat) : ∀ d : List Int, Dig (b16 : Int) d → d.length ≤ 4 * n → Dig (b64 : Int) (outN n d) ∧ val (b64 : Int) (outN n d) = val (b16 : Int) d ∧ (outN n d).length = n := by
  induction n with
  | zero =>
    intro d _ h
    have : d = [] := List.length_eq_zero_iff.1 (by omega)
    subst this
    exact ⟨Dig.nil, rfl, rfl⟩
  | succ n ih =>
    intro d hd h
    obtain ⟨i1, i2, i3⟩ := ih (d.drop 4) (hd.drop 4) (by simp; omega)
    refine ⟨Dig.cons.2 ⟨grp_range hd, i1⟩, ?_, by simp [outN, i3]⟩
    rw [val_four d]
    simp only [outN, val, i2]
theorem out_limbs (v : Nat) : outN (((digs v).length + 3) / 4) (digs v) = limbs v := by
  obtain ⟨f1, f2, f3⟩ := outN_facts (((digs v).length + 3) / 4) (digs v) (toD_dig b16_two v) (by omega)
  rw [val_toD b16_two] at f2
  have hc : Can (outN (((digs v).length + 3) / 4) (digs v)) := by
    refine can_of_val b64_two f1 (fun hne => ?_)
    rw [f2, f3, b64_pow, pow_cast, ← Nat.pow_mul]
    have hl : 0 < ((digs v).length + 3) / 4 := by rw [← f3]; exact List.length_pos_iff.2 hne
    have hd : digs v ≠ [] := by intro e; rw [e] at hl; simp at hl
    have h1 := val_pos b16_pos (toD_dig b16_two v) (toD_can b16_two v) hd
    rw [val_toD b16_two, pow_cast] at h1
    have h2 : b16 ^ (4 * (((digs v).length + 3) / 4 - 1)) ≤ b16 ^ ((digs v).length - 1) := Nat.pow_le_pow_right (by decide) (by omega)
    exact Int.le_trans (Int.ofNat_le.2 h2) h1
  have := limbs_num f1 hc
  rw [← this]
  unfold num
  rw [f2]
  rfl
theorem out_inner (d acc : List Int) (i : Nat) (hd : Dig (b16 : Int) d) (hacc : acc.length ≤ 1000000) (hi : i ≤ 4000000) {r : List Int × Bool}
    (h : Evt (fun k => windbreakref01_Out.l0 k d (acc ++ [grp (d.drop i)]) ((i + 4 : Nat) : Int)) r) : Evt (fun k => windbreakref01_Out.l1 k d acc (i : Int) 0 3) r := by
  have step : ∀ (x : Int) (j : Nat), j ≤ 3 → 0 ≤ x → x * 65536 + 65535 < 18446744073709551616 →
      Evt (fun k => windbreakref01_Out.l1 k d acc (i : Int) (x * 65536 + (d.drop i).getD j 0) ((j : Int) - 1)) r →
      Evt (fun k => windbreakref01_Out.l1 k d acc (i : Int) x (j : Int)) r := by
    intro x j hj hx hx2 hs
    have hdig := (hd.drop i).getD b16_pos j
    simp only [b16] at hdig
    refine Evt.succ ?_
    simp only [windbreakref01_Out.l1]
    refine Evt.ite_pos (by omega) ?_
    rw [w64 (show -9223372036854775808 ≤ (i : Int) + (j : Int) by omega) (by omega), w64 (show -9223372036854775808 ≤ (j : Int) - 1 by omega) (by omega), wu64_of (show 0 ≤ x * 65536 by omega) (by omega)]
    by_cases hlt : i + j < d.length
    · refine Evt.ite_pos (by omega) (Evt.ite_pos (by omega) ?_)
      have e : rd d ((i : Int) + (j : Int)) = (d.drop i).getD j 0 := by
        rw [rd_getD, show ((i : Int) + (j : Int)).toNat = i + j from by omega]
        simp [List.getD_eq_getElem?_getD]
      rw [e, wu64_of (by omega) (by omega)]
      exact hs
    · refine Evt.ite_neg (by omega) ?_
      have e : (d.drop i).getD j 0 = 0 := by
        simp [List.getD_eq_getElem?_getD, List.getElem?_eq_none (by omega : d.length ≤ i + j)]
      rw [e, Int.add_zero] at hs
      exact hs
  have h0 := (hd.drop i).getD b16_pos 0
  have h1 := (hd.drop i).getD b16_pos 1
  have h2 := (hd.drop i).getD b16_pos 2
  have h3 := (hd.drop i).getD b16_pos 3
  simp only [b16] at h0 h1 h2 h3
  refine step 0 3 (by omega) (by omega) (by omega) ?_
  refine (step (0 * 65536 + (d.drop i).getD 3 0) 2 (by omega) (by omega) (by omega) ?_).congr (fun k => rfl) rfl
  refine (step ((0 * 65536 + (d.drop i).getD 3 0) * 65536 + (d.drop i).getD 2 0) 1 (by omega) (by omega) (by omega) ?_).congr (fun k => rfl) rfl
  refine (step (((0 * 65536 + (d.drop i).getD 3 0) * 65536 + (d.drop i).getD 2 0) * 65536 + (d.drop i).getD 1 0) 0 (by omega) (by omega) (by omega) ?_).congr (fun k => rfl) rfl
  refine Evt.succ ?_
  simp only [windbreakref01_Out.l1]
  refine Evt.ite_neg (by omega) (Evt.ite_pos (by omega) ?_)
  rw [w64 (by omega) (by omega)]
  refine h.congr (fun k => ?_) rfl
  have e : (((0 * 65536 + (d.drop i).getD 3 0) * 65536 + (d.drop i).getD 2 0) * 65536 + (d.drop i).getD 1 0) * 65536 + (d.drop i).getD 0 0 = grp (d.drop i) := by
    unfold grp; omega
  rw [e, show (i : Int) + 4 = ((i + 4 : Nat) : Int) from by omega]
theorem out_loop (d : List Int) (hd : Dig (b16 : Int) d) (hlen : d.length ≤ 1000000) (n : Nat) : ∀ (i : Nat) (acc : List Int), acc.length ≤ i → i ≤ d.length + 3 → (d.length - i + 3) / 4 = n →
    Evt (fun k => windbreakref01_Out.l0 k d acc (i : Int)) (acc ++ outN n (d.drop i), decide ((acc ++ outN n (d.drop i)).length ≤ 64)) := by
  induction n with
  | zero =>
    intro i acc hacc hi hn
    refine Evt.succ ?_
    simp only [windbreakref01_Out.l0]
    refine Evt.ite_neg (by omega) ?_
    simp only [outN, List.append_nil]
    refine (Evt.pure _).congr (fun k => rfl) ?_
    congr 1
    simp only [decide_eq_decide]
    omega
  | succ n ih =>
    intro i acc hacc hi hn
    refine Evt.succ ?_
    simp only [windbreakref01_Out.l0]
    refine Evt.ite_pos (by omega) ?_
    refine out_inner d acc i hd (by omega) (by omega) ?_
    refine (ih (i + 4) (acc ++ [grp (d.drop i)]) (by simp; omega) (by omega) (by omega)).congr (fun k => rfl) ?_
    simp [outN, List.drop_drop]
theorem ref_Out_ev (v : Nat) (hv : v < lim) : Evt (fun k => windbreakref01_Out.f k (digs v)) (limbs v, decide (v < b64 ^ 64)) := by
  have hlen : (digs v).length ≤ 1000000 := Nat.le_trans (digs_len hv) (by omega)
  have h := out_loop (digs v) (toD_dig b16_two v) hlen (((digs v).length + 3) / 4) 0 [] (Nat.le_refl _) (by omega) (by omega)
  refine h.congr (fun k => rfl) ?_
  rw [List.nil_append, List.drop_zero, out_limbs]
  have := limbs_long v
  simp only [this]
theorem ref_told_ev (v : Nat) (hv : v < lim) : Evt (fun k => windbreakref01_told.f k (digs v)) (toldV v) := by
  unfold windbreakref01_told.f toldV
  refine Evt.bind (ref_Out_ev v hv) ?_
  by_cases h : v < b64 ^ 64
  · simp only [h, decide_true, if_true]
    exact Evt.pure _
  · simp only [h, decide_false, if_false]
    exact Evt.ite_neg (by simp) (Evt.pure _)
theorem ref_digit_eq (l : List Int) (i : Nat) : windbreakref01_digit.f l (i : Int) = some (l.getD i 0) := by
  unfold windbreakref01_digit.f
  by_cases h : i < l.length
  · rw [if_pos (by omega), if_pos (by omega), rd_nat]
  · rw [if_neg (by omega)]
    simp [List.getD_eq_getElem?_getD, List.getElem?_eq_none (by omega : l.length ≤ i)]
def subL : Nat → List Int → List Int → Int → List Int
  | 0, _, _, _ => []
  | n + 1, a, b, c => (65536 + a.getD 0 0 - b.getD 0 0 - c) % 65536 :: subL n (a.drop 1) (b.drop 1) (1 - (65536 + a.getD 0 0 - b.getD 0 0 - c) / 65536)
theorem val_headS (B : Int) (b : List Int) : val B b = b.getD 0 0 + B * val B (b.drop 1) := by
  cases b with
  | nil => simp [val]
  | cons y b => simp [val]
theorem subL_len (n : Nat) : ∀ (a b : List Int) (c : Int), (subL n a b c).length = n := by
  induction n with
  | zero => intro a b c; rfl
  | succ n ih => intro a b c; simp only [subL, List.length_cons, ih]
theorem subL_facts (n : Nat) : ∀ (a b : List Int) (c : Int), Dig (b16 : Int) a → Dig (b16 : Int) b → a.length ≤ n → b.length ≤ n → (c = 0 ∨ c = 1) →
    Dig (b16 : Int) (subL n a b c) ∧ ∃ t, 0 ≤ t ∧ val (b16 : Int) (subL n a b c) = val (b16 : Int) a - val (b16 : Int) b - c + (b16 : Int) ^ n * t := by
  induction n with
  | zero =>
    intro a b c _ _ ha hb hc
    have e1 : a = [] := List.length_eq_zero_iff.1 (by omega)
    have e2 : b = [] := List.length_eq_zero_iff.1 (by omega)
    subst e1 e2
    exact ⟨Dig.nil, c, by omega, by simp [subL, val]; omega⟩
  | succ n ih =>
    intro a b c da db ha hb hc
    have h1 := da.getD b16_pos 0
    have h2 := db.getD b16_pos 0
    simp only [b16] at h1 h2
    obtain ⟨i1, t, ht, i2⟩ := ih (a.drop 1) (b.drop 1) (1 - (65536 + a.getD 0 0 - b.getD 0 0 - c) / 65536) (da.drop 1) (db.drop 1) (by simp; omega) (by simp; omega) (by omega)
    refine ⟨Dig.cons.2 ⟨by simp only [b16]; omega, i1⟩, t, ht, ?_⟩
    rw [val_headS (b16 : Int) a, val_headS (b16 : Int) b]
    simp only [subL, val]
    rw [i2, Int.pow_succ]
    generalize (b16 : Int) ^ n = P at *
    simp only [b16]
    generalize val ((65536 : Nat) : Int) (a.drop 1) = va at *
    generalize val ((65536 : Nat) : Int) (b.drop 1) = vb at *
    have h3 : ((65536 : Nat) : Int) * (va - vb - (1 - (65536 + a.getD 0 0 - b.getD 0 0 - c) / 65536) + P * t) = 65536 * va - 65536 * vb - 65536 * (1 - (65536 + a.getD 0 0 - b.getD 0 0 - c) / 65536) + P * ((65536 : Nat) : Int) * t := by grind
    rw [h3]
    omega
theorem ref_sub_loop (a b : List Int) (da : Dig (b16 : Int) a) (db : Dig (b16 : Int) b) (ha : a.length ≤ 1000000) (n : Nat) : ∀ (i : Nat) (p : List Int) (c : Int), p.length = i → i ≤ a.length → a.length - i = n → (c = 0 ∨ c = 1) →
    Evt (fun k => windbreakref01_sub.l0 k a b p c (i : Int)) (strip (p ++ subL n (a.drop i) (b.drop i) c)) := by
  induction n with
  | zero =>
    intro i p c hp hi hn hc
    refine Evt.succ ?_
    simp only [windbreakref01_sub.l0]
    refine Evt.ite_neg (by omega) ?_
    simp only [subL, List.append_nil]
    exact Evt.bind (windbreakref01_cut_ev p (by simp [maxLen]; omega)) (h := fun t _ => some t) (Evt.pure _)
  | succ n ih =>
    intro i p c hp hi hn hc
    have hlt : i < a.length := by omega
    refine Evt.succ ?_
    simp only [windbreakref01_sub.l0]
    refine Evt.ite_pos (by omega) (Evt.ite_pos (by omega) ?_)
    rw [ref_digit_eq, rd_nat]
    simp only [Option.bind_some]
    refine Evt.ite_pos (by omega) ?_
    have h1 := da.getD b16_pos i
    have h2 := db.getD b16_pos i
    simp only [b16] at h1 h2
    rw [wu64_of (show 0 ≤ 65536 + a.getD i 0 by omega) (by omega), wu64_of (show 0 ≤ 65536 + a.getD i 0 - b.getD i 0 by omega) (by omega), wu64_of (show 0 ≤ 65536 + a.getD i 0 - b.getD i 0 - c by omega) (by omega)]
    rw [Int.tmod_eq_emod_of_nonneg (by omega), Int.tdiv_eq_ediv_of_nonneg (by omega), wu64_of (show 0 ≤ (65536 + a.getD i 0 - b.getD i 0 - c) / 65536 by omega) (by omega), wu64_of (by omega) (by omega), w64 (by omega) (by omega)]
    have e1 : (a.drop i).getD 0 0 = a.getD i 0 := by simp [List.getD_eq_getElem?_getD]
    have e2 : (b.drop i).getD 0 0 = b.getD i 0 := by simp [List.getD_eq_getElem?_getD]
    refine (ih (i + 1) (p ++ [(65536 + a.getD i 0 - b.getD i 0 - c) % 65536]) (1 - (65536 + a.getD i 0 - b.getD i 0 - c) / 65536) (by simp [hp]) (by omega) (by omega) (by omega)).congr (fun k => rfl) ?_
    simp only [subL, e1, e2, List.drop_drop, List.append_assoc, List.singleton_append]
theorem ref_sub_ev (v w : Nat) (hv : v < lim) (hle : w ≤ v) : Evt (fun k => windbreakref01_sub.f k (digs v) (digs w)) (digs (v - w)) := by
  have h1 := digs_len hv
  have d1 := toD_dig b16_two v
  have d2 := toD_dig b16_two w
  have hlen : (digs w).length ≤ (digs v).length := by
    rw [toD_len_iff b16_two]
    exact Nat.lt_of_le_of_lt hle (toD_lt_pow b16_two v)
  have h := ref_sub_loop (digs v) (digs w) d1 d2 (by omega) (digs v).length 0 [] 0 rfl (Nat.zero_le _) (by omega) (Or.inl rfl)
  refine h.congr (fun k => rfl) ?_
  obtain ⟨f1, t, ht, f2⟩ := subL_facts (digs v).length (digs v) (digs w) 0 d1 d2 (Nat.le_refl _) hlen (Or.inl rfl)
  rw [List.nil_append, List.drop_zero, List.drop_zero, strip_digs f1]
  rw [val_toD b16_two, val_toD b16_two, pow_cast] at f2
  have h4 := val_lt b16_pos f1
  rw [subL_len, pow_cast] at h4
  have ht0 : t = 0 := by
    by_cases e : t = 0
    · exact e
    · have h5 : ((b16 ^ (digs v).length : Nat) : Int) * 1 ≤ ((b16 ^ (digs v).length : Nat) : Int) * t := Int.mul_le_mul_of_nonneg_left (by omega) (by omega)
      omega
  subst ht0
  rw [Int.mul_zero] at f2
  unfold num16
  rw [f2]
  congr 1
  omega
def subW (a b : List Int) : List Int × Int := if rightB a = true ∧ rightB b = true then (if num a < num b then ([], 2) else (limbs (num a - num b), 0)) else ([], 1)
theorem ref_Sub_ev (a b : List Int) (ha : a.length ≤ maxLen) (hb : b.length ≤ maxLen) (da : Dig (b64 : Int) a) (db : Dig (b64 : Int) b) : Evt (fun k => windbreakref01_Sub.f k a b) (subW a b) := by
  unfold windbreakref01_Sub.f subW
  rw [windbreakref01_Right_eq ha, windbreakref01_Right_eq hb]
  simp only [Option.bind_some]
  have J : ∀ x : Bool, (x = false → rightB a = true ∧ rightB b = true) → Evt (fun k => windbreakref01_Sub.j0 k a b x) (if x = true then ([], 1) else if num a < num b then ([], 2) else (limbs (num a - num b), 0)) := by
    intro x hx
    refine Evt.succ ?_
    simp only [windbreakref01_Sub.j0]
    refine Evt.cond (fun _ => Evt.pure _) (fun hc => ?_)
    have h := hx (by simpa using hc)
    obtain ⟨h1, c1⟩ := (rightB_iff a).1 h.1
    obtain ⟨h2, c2⟩ := (rightB_iff b).1 h.2
    have n1 : num a < b64 ^ 64 := num_lt_p da h1
    have n2 := num_lt_lim da (by omega)
    refine Evt.bind (ref_In_ev a (by omega) da) (Evt.bind (ref_In_ev b (by omega) db) ?_)
    refine Evt.bind (ref_compare_ev (num a) (num b) n2) ?_
    by_cases hlt : num a < num b
    · have e : cmpN (num a) (num b) = -1 := if_pos hlt
      rw [e, if_pos hlt]
      exact Evt.ite_pos (by omega) (Evt.pure _)
    · have e : ¬ cmpN (num a) (num b) < 0 := by
        unfold cmpN
        rw [if_neg hlt]
        by_cases e2 : num a = num b
        · rw [if_pos e2]; omega
        · rw [if_neg e2]; omega
      rw [if_neg hlt]
      refine Evt.ite_neg e ?_
      refine Evt.bind (ref_sub_ev (num a) (num b) n2 (by omega)) ?_
      have h5 := ref_told_ev (num a - num b) (by omega)
      have e3 : toldV (num a - num b) = (limbs (num a - num b), 0) := if_pos (by omega)
      rw [e3] at h5
      exact Evt.bind h5 (h := fun t _ => some (t.1, t.2)) (Evt.pure _)
  cases hA : rightB a with
  | true =>
    refine Evt.ite_pos rfl ((J _ (fun h => ⟨hA, by simpa using h⟩)).congr (fun k => rfl) ?_)
    cases hB : rightB b <;> simp
  | false =>
    refine Evt.ite_neg (by simp) ((J _ (fun h => by simp at h)).congr (fun k => rfl) ?_)
    simp
def cmpW (a b : List Int) : Int := if rightB a = true ∧ rightB b = true then cmpN (num a) (num b) else 0
theorem ref_Cmp_ev (a b : List Int) (ha : a.length ≤ maxLen) (hb : b.length ≤ maxLen) (da : Dig (b64 : Int) a) (db : Dig (b64 : Int) b) : Evt (fun k => windbreakref01_Cmp.f k a b) (cmpW a b) := by
  unfold windbreakref01_Cmp.f cmpW
  rw [windbreakref01_Right_eq ha, windbreakref01_Right_eq hb]
  simp only [Option.bind_some]
  have J : ∀ x : Bool, (x = false → rightB a = true ∧ rightB b = true) → Evt (fun k => windbreakref01_Cmp.j0 k a b x) (if x = true then 0 else cmpN (num a) (num b)) := by
    intro x hx
    refine Evt.succ ?_
    simp only [windbreakref01_Cmp.j0]
    refine Evt.cond (fun _ => Evt.pure _) (fun hc => ?_)
    have h := hx (by simpa using hc)
    obtain ⟨h1, c1⟩ := (rightB_iff a).1 h.1
    obtain ⟨h2, c2⟩ := (rightB_iff b).1 h.2
    refine Evt.bind (ref_In_ev a (by omega) da) (Evt.bind (ref_In_ev b (by omega) db) ?_)
    exact Evt.bind (ref_compare_ev _ _ (num_lt_lim da (by omega))) (h := fun t _ => some t) (Evt.pure _)
  cases hA : rightB a with
  | true =>
    refine Evt.ite_pos rfl ((J _ (fun h => ⟨hA, by simpa using h⟩)).congr (fun k => rfl) ?_)
    cases hB : rightB b <;> simp
  | false =>
    refine Evt.ite_neg (by simp) ((J _ (fun h => by simp at h)).congr (fun k => rfl) ?_)
    simp
theorem ref_Of_eq (n : Int) : windbreakref01_Of.f n = some (strip [n]) := by
  unfold windbreakref01_Of.f
  by_cases h : n = 0
  · simp [h, strip]
  · simp [h, strip]
def addL : Nat → List Int → List Int → Int → List Int
  | 0, _, _, c => [c]
  | n + 1, a, b, c => (a.getD 0 0 + b.getD 0 0 + c) % 65536 :: addL n (a.drop 1) (b.drop 1) ((a.getD 0 0 + b.getD 0 0 + c) / 65536)
theorem val_head (B : Int) (b : List Int) : val B b = b.getD 0 0 + B * val B (b.drop 1) := by
  cases b with
  | nil => simp [val]
  | cons y b => simp [val]
theorem addL_facts (n : Nat) : ∀ (a b : List Int) (c : Int), Dig (b16 : Int) a → Dig (b16 : Int) b → a.length ≤ n → b.length ≤ n → (c = 0 ∨ c = 1) →
    Dig (b16 : Int) (addL n a b c) ∧ val (b16 : Int) (addL n a b c) = val (b16 : Int) a + val (b16 : Int) b + c ∧ (addL n a b c).length = n + 1 := by
  induction n with
  | zero =>
    intro a b c _ _ ha hb hc
    have e1 : a = [] := List.length_eq_zero_iff.1 (by omega)
    have e2 : b = [] := List.length_eq_zero_iff.1 (by omega)
    subst e1 e2
    refine ⟨?_, by simp [addL, val], rfl⟩
    intro x hx
    simp [addL] at hx
    subst hx
    simp only [b16]; omega
  | succ n ih =>
    intro a b c da db ha hb hc
    have h1 := da.getD b16_pos 0
    have h2 := db.getD b16_pos 0
    simp only [b16] at h1 h2
    obtain ⟨i1, i2, i3⟩ := ih (a.drop 1) (b.drop 1) ((a.getD 0 0 + b.getD 0 0 + c) / 65536) (da.drop 1) (db.drop 1) (by simp; omega) (by simp; omega) (by omega)
    refine ⟨Dig.cons.2 ⟨by simp only [b16]; omega, i1⟩, ?_, by simp only [addL, List.length_cons, i3]⟩
    rw [val_head (b16 : Int) a, val_head (b16 : Int) b]
    simp only [addL, val]
    rw [i2]
    simp only [b16]
    omega
theorem ref_add_loop (a b : List Int) (da : Dig (b16 : Int) a) (db : Dig (b16 : Int) b) (ha : a.length ≤ 1000000) (hb : b.length ≤ 1000000) (n : Nat) : ∀ (i : Nat) (p : List Int) (c : Int), p.length = i → i ≤ max a.length b.length → max a.length b.length - i = n → (c = 0 ∨ c = 1) →
    Evt (fun k => windbreakref01_add.l0 k a b p c (i : Int)) (strip (p ++ addL n (a.drop i) (b.drop i) c)) := by
  induction n with
  | zero =>
    intro i p c hp hi hn hc
    have hJ : Evt (fun k => windbreakref01_add.j1 k a b p c (i : Int) false) (strip (p ++ addL 0 (a.drop i) (b.drop i) c)) := by
      refine Evt.succ ?_
      simp only [windbreakref01_add.j1]
      refine Evt.ite_neg (by simp) (Evt.ite_pos (by omega) ?_)
      exact Evt.bind (windbreakref01_cut_ev (p ++ [c]) (by simp [maxLen]; omega)) (h := fun t _ => some t) (Evt.pure _)
    refine Evt.succ ?_
    simp only [windbreakref01_add.l0]
    refine Evt.ite_neg (by omega) ?_
    have : decide ((i : Int) < (b.length : Int)) = false := by simp; omega
    rw [this]
    exact hJ
  | succ n ih =>
    intro i p c hp hi hn hc
    have hJ : Evt (fun k => windbreakref01_add.j1 k a b p c (i : Int) true) (strip (p ++ addL (n + 1) (a.drop i) (b.drop i) c)) := by
      refine Evt.succ ?_
      simp only [windbreakref01_add.j1]
      refine Evt.ite_pos trivial ?_
      rw [ref_digit_eq, ref_digit_eq]
      simp only [Option.bind_some]
      refine Evt.ite_pos (by omega) ?_
      have h1 := da.getD b16_pos i
      have h2 := db.getD b16_pos i
      simp only [b16] at h1 h2
      rw [wu64_of (show 0 ≤ a.getD i 0 + b.getD i 0 by omega) (by omega), wu64_of (show 0 ≤ a.getD i 0 + b.getD i 0 + c by omega) (by omega)]
      rw [Int.tmod_eq_emod_of_nonneg (by omega), Int.tdiv_eq_ediv_of_nonneg (by omega), wu64_of (by omega) (by omega), w64 (by omega) (by omega)]
      have e1 : (a.drop i).getD 0 0 = a.getD i 0 := by simp [List.getD_eq_getElem?_getD]
      have e2 : (b.drop i).getD 0 0 = b.getD i 0 := by simp [List.getD_eq_getElem?_getD]
      refine (ih (i + 1) (p ++ [(a.getD i 0 + b.getD i 0 + c) % 65536]) ((a.getD i 0 + b.getD i 0 + c) / 65536) (by simp [hp]) (by omega) (by omega) (by omega)).congr (fun k => rfl) ?_
      simp only [addL, e1, e2, List.drop_drop, List.append_assoc, List.singleton_append]
    refine Evt.succ ?_
    simp only [windbreakref01_add.l0]
    by_cases h : i < a.length
    · exact Evt.ite_pos (by omega) hJ
    · refine Evt.ite_neg (by omega) ?_
      have : decide ((i : Int) < (b.length : Int)) = true := by simp; omega
      rw [this]
      exact hJ
theorem ref_add_ev (v w : Nat) (hv : v < lim) (hw : w < lim) : Evt (fun k => windbreakref01_add.f k (digs v) (digs w)) (digs (v + w)) := by
  have h1 := digs_len hv
  have h2 := digs_len hw
  have d1 := toD_dig b16_two v
  have d2 := toD_dig b16_two w
  have h := ref_add_loop (digs v) (digs w) d1 d2 (by omega) (by omega) (max (digs v).length (digs w).length) 0 [] 0 rfl (Nat.zero_le _) (by omega) (Or.inl rfl)
  refine h.congr (fun k => rfl) ?_
  obtain ⟨f1, f2, f3⟩ := addL_facts (max (digs v).length (digs w).length) (digs v) (digs w) 0 d1 d2 (by omega) (by omega) (Or.inl rfl)
  rw [List.nil_append, List.drop_zero, List.drop_zero, strip_digs f1]
  unfold num16
  rw [f2, val_toD b16_two, val_toD b16_two]
  congr 1
def addW (a b : List Int) : List Int × Int := if rightB a = true ∧ rightB b = true then toldV (num a + num b) else ([], 1)
theorem num_lt_64 {a : List Int} (da : Dig (b64 : Int) a) (ha : a.length ≤ 64) : num a < b64 ^ 64 :=
  Nat.lt_of_lt_of_le (num_lt da) (Nat.pow_le_pow_right (by decide) ha)
theorem ref_Add_ev (a b : List Int) (ha : a.length ≤ maxLen) (hb : b.length ≤ maxLen) (da : Dig (b64 : Int) a) (db : Dig (b64 : Int) b) : Evt (fun k => windbreakref01_Add.f k a b) (addW a b) := by
  unfold windbreakref01_Add.f addW
  rw [windbreakref01_Right_eq ha, windbreakref01_Right_eq hb]
  simp only [Option.bind_some]
  have J : ∀ x : Bool, (x = false → rightB a = true ∧ rightB b = true) → Evt (fun k => windbreakref01_Add.j0 k a b x) (if x = true then ([], 1) else toldV (num a + num b)) := by
    intro x hx
    refine Evt.succ ?_
    simp only [windbreakref01_Add.j0]
    refine Evt.cond (fun _ => Evt.pure _) (fun hc => ?_)
    have h := hx (by simpa using hc)
    obtain ⟨h1, c1⟩ := (rightB_iff a).1 h.1
    obtain ⟨h2, c2⟩ := (rightB_iff b).1 h.2
    have n1 := num_lt_64 da h1
    have n2 := num_lt_64 db h2
    have n3 := pow_lt_lim (n := 64) (by omega)
    refine Evt.bind (ref_In_ev a (by omega) da) (Evt.bind (ref_In_ev b (by omega) db) ?_)
    refine Evt.bind (ref_add_ev (num a) (num b) (by omega) (by omega)) ?_
    exact Evt.bind (ref_told_ev (num a + num b) (by omega)) (h := fun t _ => some (t.1, t.2)) (Evt.pure _)
  cases hA : rightB a with
  | true =>
    refine Evt.ite_pos rfl ((J _ (fun h => ⟨hA, by simpa using h⟩)).congr (fun k => rfl) ?_)
    cases hB : rightB b <;> simp
  | false =>
    refine Evt.ite_neg (by simp) ((J _ (fun h => by simp at h)).congr (fun k => rfl) ?_)
    simp
theorem windbreakref01_Small_ev (l : List Int) (h : l.length ≤ maxLen) : Evt (fun k => windbreakref01_Small.f k l) (smallV l) := by
  unfold windbreakref01_Small.f smallV
  rw [windbreakref01_Right_eq h]
  simp only [Option.bind_some]
  have J : ∀ x : Bool, Evt (fun k => windbreakref01_Small.j0 k l x) (if x = true then (0, false) else (l.getD 0 0, true)) := by
    intro x
    refine Evt.succ ?_
    simp only [windbreakref01_Small.j0]
    refine Evt.cond (fun _ => Evt.pure _) (fun _ => ?_)
    by_cases h0 : l.length = 0
    · refine Evt.ite_pos (by omega) ?_
      rw [List.length_eq_zero_iff.1 h0]
      exact Evt.pure _
    · exact Evt.ite_neg (by omega) (Evt.ite_pos (by omega) (Evt.pure _))
  cases hr : rightB l with
  | true =>
    refine Evt.ite_pos rfl ?_
    refine (J _).congr (fun k => rfl) ?_
    by_cases h1 : l.length ≤ 1
    · rw [if_neg (by simp; omega), if_pos ⟨rfl, h1⟩]
    · rw [if_pos (by simp; omega), if_neg (fun h => h1 h.2)]
  | false =>
    refine Evt.ite_neg (by simp) ?_
    refine (J _).congr (fun k => rfl) ?_
    simp
end Go.Proofs.Ytnaphgnkhhapoab.Z
end
section
namespace Go.Proofs.Ytnaphgnkhhapoab.Z
open Go.RowKit Go.Proofs.Ytnaphgnkhhapoab.F Go.Proofs.YtnaphgnkhhapoabW.PrintWords Go.Proofs.YtnaphgnkhhapoabW.PrintMore
set_option linter.unusedSimpArgs false
set_option linter.unusedVariables false
theorem val_set (B : Int) (l : List Int) : ∀ (i : Nat) (v : Int), i < l.length → val B (l.set i v) = val B l + B ^ i * (v - l.getD i 0) := by
  induction l with
  | nil => intro i v h; simp at h
  | cons d l ih =>
    intro i v h
    cases i with
    | zero => simp [val]; omega
    | succ i =>
      have h2 := ih i v (by simpa using h)
      simp only [List.set_cons_succ, val, h2, Int.pow_succ, List.getD_cons_succ]
      generalize l.getD i 0 = y
      generalize B ^ i = P
      generalize val B l = V
      grind
theorem getD_append_left {l m : List Int} {i : Nat} (h : i < l.length) : (l ++ m).getD i 0 = l.getD i 0 := by
  simp [List.getD_eq_getElem?_getD, List.getElem?_append_left h]
theorem set_append_left {l m : List Int} {i : Nat} {v : Int} (h : i < l.length) : (l ++ m).set i v = l.set i v ++ m := by
  rw [List.set_append, if_pos h]
theorem val_take_step (B : Int) (l : List Int) (i : Nat) (h : i < l.length) : val B (l.take (i + 1)) = val B (l.take i) + B ^ i * l[i] := by
  rw [List.take_succ_eq_append_getElem h, val_append]
  simp only [val, List.length_take]
  rw [show min i l.length = i from by omega, Int.mul_zero, Int.add_zero]
theorem wraps_u64 (n : Int) (h0 : 0 ≤ n) (h1 : n < 2 ^ 64) : IntKind.u64.wrap n = n := wu64_of h0 (by omega)
theorem or_u64 {x y : Int} (s : Nat) (hs : s ≤ 64) (hx0 : 0 ≤ x) (hx : x % 2 ^ s = 0) (hx1 : x < 18446744073709551616) (hy0 : 0 ≤ y) (hy : y < 2 ^ s) : Go.bits .or .u64 x y = x + y := by
  have h2 : (2 : Int) ^ s ≤ 2 ^ 64 := pow_mono (by omega) hs
  exact bits_join .u64 64 (by decide) wraps_u64 s x y hx0 hx (by omega) hy0 hy (by omega)
theorem or_comm_u64 {x y : Int} (hx0 : 0 ≤ x) (hx1 : x < 18446744073709551616) (hy0 : 0 ≤ y) (hy1 : y < 18446744073709551616) : Go.bits .or .u64 x y = Go.bits .or .u64 y x := by
  obtain ⟨a, rfl⟩ := Int.eq_ofNat_of_zero_le hx0
  obtain ⟨b, rfl⟩ := Int.eq_ofNat_of_zero_le hy0
  rw [(bits_nat .u64 64 (by decide) wraps_u64 a b (by omega) (by omega)).2, (bits_nat .u64 64 (by decide) wraps_u64 b a (by omega) (by omega)).2, Nat.or_comm]
theorem shl_u64 (x : Int) (s : Nat) (hs : s ≤ 64) : shl .u64 x (s : Int) = (x * 2 ^ s) % 18446744073709551616 := by
  unfold shl
  rw [wu64]
  simp only [IntKind.bits, Int.toNat_natCast]
  rw [show min s 64 = s from by omega]
theorem shr_u64 (x : Int) (s : Nat) (hs : s ≤ 64) : shr .u64 x (s : Int) = x / 2 ^ s := by
  unfold shr
  simp only [IntKind.bits, Int.toNat_natCast]
  rw [show min s 64 = s from by omega]
theorem pow64_split {s : Nat} (hs : s ≤ 64) : (2 : Int) ^ s * 2 ^ (64 - s) = 18446744073709551616 := by
  rw [← Int.pow_add, show s + (64 - s) = 64 from by omega]
  decide
theorem pow2_pos (s : Nat) : (0 : Int) < 2 ^ s := Int.pow_pos (by omega)
theorem shl_facts {x : Int} (hx : 0 ≤ x ∧ x < 18446744073709551616) {s : Nat} (hs : s ≤ 64) :
    (x * 2 ^ s) % 18446744073709551616 + 18446744073709551616 * (x / 2 ^ (64 - s)) = x * 2 ^ s ∧ ((x * 2 ^ s) % 18446744073709551616) % 2 ^ s = 0 ∧ 0 ≤ x / 2 ^ (64 - s) ∧ x / 2 ^ (64 - s) < 2 ^ s := by
  have hp := pow64_split hs
  have h1 := pow2_pos s
  have h2 := pow2_pos (64 - s)
  generalize (2 : Int) ^ s = P at *
  generalize (2 : Int) ^ (64 - s) = Q at *
  have h3 : (x * P) / 18446744073709551616 = x / Q := by
    rw [← hp, Int.mul_comm x P, Int.mul_ediv_mul_of_pos _ _ h1]
  refine ⟨?_, ?_, Int.ediv_nonneg hx.1 (by omega), ?_⟩
  · have := Int.emod_add_mul_ediv (x * P) 18446744073709551616
    rw [h3] at this
    exact this
  · rw [← hp]
    have := Int.mul_emod_mul_of_pos (a := P) x Q h1
    rw [Int.mul_comm x P, this]
    exact Int.mul_emod_right P _
  · apply Int.ediv_lt_of_lt_mul h2
    rw [hp]
    exact hx.2
def bitV (a : List Int) (i : Int) : Bool := rightB a && decide (0 ≤ i) && decide (i / 64 < a.length) && ((a.getD (i.toNat / 64) 0 / 2 ^ (i.toNat % 64)) % 2 == 1)
theorem and_one {x : Int} (h0 : 0 ≤ x) (h1 : x < 18446744073709551616) : Go.bits .and .u64 x 1 = x % 2 := bits_mask .u64 64 (by decide) wraps_u64 1 (by decide) x h0 (by omega)
theorem nat_Bit_eq (a : List Int) (i : Int) (ha : a.length ≤ maxLen) (da : Dig (b64 : Int) a) (hi : i < 9223372036854775808) : nat_Bit.f a i = some (bitV a i) := by
  unfold nat_Bit.f bitV
  rw [nat_Right_eq ha]
  simp only [Option.bind_some]
  cases hA : rightB a with
  | false => simp
  | true =>
    rw [if_pos rfl]
    by_cases h0 : 0 ≤ i
    · obtain ⟨n, rfl⟩ := Int.eq_ofNat_of_zero_le h0
      rw [if_pos (by omega), Int.tdiv_eq_ediv_of_nonneg (by omega), Int.tmod_eq_emod_of_nonneg (by omega), w64 (by omega) (by omega)]
      by_cases h1 : (n : Int) / 64 < a.length
      · rw [if_pos h1, if_pos (by omega), if_pos (by omega)]
        rw [rd_getD, show ((n : Int) / 64).toNat = n / 64 from by omega, show (n : Int) % 64 = ((n % 64 : Nat) : Int) from by omega, shr_u64 _ _ (by omega), Int.toNat_natCast]
        have hr := da.getD b64_pos (n / 64)
        simp only [b64] at hr
        have hp := pow2_pos (n % 64)
        have h5 := Int.ediv_nonneg hr.1 (Int.le_of_lt hp)
        have h6 := Int.ediv_le_self (2 ^ (n % 64)) hr.1
        rw [and_one h5 (by omega)]
        simp [h1]
      · rw [if_neg h1]
        simp [h1]
    · rw [if_neg (by omega)]
      simp [h0]
theorem nat_up_loop (a : List Int) (da : Dig (b64 : Int) a) (ha : a.length ≤ 100000) (s : Nat) (hs : s < 64) (n : Nat) :
    ∀ (i : Nat) (p : List Int) (c : Int), a.length - i = n → i ≤ a.length → p.length = i → Dig (b64 : Int) p → 0 ≤ c ∧ c < 2 ^ s → val (b64 : Int) p + c * (b64 : Int) ^ i = val (b64 : Int) (a.take i) * 2 ^ s →
      ∃ r, Evt (fun k => nat_up.l0 k (s : Int) (p ++ c :: List.replicate n 0) a (a.length : Int) (i : Int)) r ∧ Dig (b64 : Int) r ∧ r.length = a.length + 1 ∧ val (b64 : Int) r = val (b64 : Int) a * 2 ^ s := by
  have hs64 : (2 : Int) ^ s ≤ 2 ^ 63 := pow_mono (by omega) (by omega)
  have hB : (b64 : Int) = 18446744073709551616 := rfl
  induction n with
  | zero =>
    intro i p c hn hi hp dp hc hv
    refine ⟨p ++ [c], ?_, Dig.append.2 ⟨dp, Dig.cons.2 ⟨by rw [hB]; omega, Dig.nil⟩⟩, by simp; omega, ?_⟩
    · refine Evt.succ ?_
      simp only [nat_up.l0]
      exact Evt.ite_neg (by omega) (Evt.pure _)
    · rw [List.take_of_length_le (by omega)] at hv
      rw [val_append, hp]
      simp only [val, Int.mul_zero, Int.add_zero]
      rw [Int.mul_comm ((b64 : Int) ^ i) c]
      exact hv
  | succ n ih =>
    intro i p c hn hi hp dp hc hv
    have hlt : i < a.length := by omega
    have rx := da a[i] (List.getElem_mem hlt)
    rw [hB] at rx
    obtain ⟨f1, f2, f3, f4⟩ := shl_facts rx (s := s) (by omega)
    have f5 : 0 ≤ (a[i] * 2 ^ s) % 18446744073709551616 := by omega
    have f6 : (a[i] * 2 ^ s) % 18446744073709551616 < 18446744073709551616 := by omega
    have hor : Go.bits .or .u64 c ((a[i] * 2 ^ s) % 18446744073709551616) = (a[i] * 2 ^ s) % 18446744073709551616 + c := by
      rw [or_comm_u64 hc.1 (by omega) f5 f6]
      exact or_u64 s (by omega) f5 f2 f6 hc.1 hc.2
    have hlow : (a[i] * 2 ^ s) % 18446744073709551616 + c < 18446744073709551616 := by
      have hp64 := pow64_split (s := s) (by omega)
      have hq := pow2_pos (64 - s)
      have hps := pow2_pos s
      generalize (a[i] * 2 ^ s) % 18446744073709551616 = z at *
      generalize (2 : Int) ^ s = P at *
      generalize (2 : Int) ^ (64 - s) = Q at *
      obtain ⟨t, ht⟩ := Int.dvd_of_emod_eq_zero f2
      subst ht
      have ht2 : t < Q := by
        refine Int.not_le.1 (fun hle => ?_)
        have := Int.mul_le_mul_of_nonneg_left hle (Int.le_of_lt hps)
        omega
      have : P * (t + 1) ≤ P * Q := Int.mul_le_mul_of_nonneg_left (by omega) (by omega)
      rw [Int.mul_add] at this
      omega
    generalize hz : (a[i] * 2 ^ s) % 18446744073709551616 = z at *
    obtain ⟨r, e1, e2, e3, e4⟩ := ih (i + 1) (p ++ [z + c]) (a[i] / 2 ^ (64 - s)) (by omega) (by omega) (by simp; omega) (Dig.append.2 ⟨dp, Dig.cons.2 ⟨by rw [hB]; omega, Dig.nil⟩⟩) ⟨f3, f4⟩ (by
      rw [val_append, hp, val_take_step (b64 : Int) a i hlt, Int.pow_succ]
      simp only [val, Int.mul_zero, Int.add_zero]
      rw [hB]
      rw [hB] at hv
      generalize (18446744073709551616 : Int) ^ i = P at *
      generalize a[i] / 2 ^ (64 - s) = h at *
      generalize val 18446744073709551616 (a.take i) = va at *
      generalize val 18446744073709551616 p = vp at *
      generalize (2 : Int) ^ s = S at *
      generalize a[i] = x at *
      have e : z = x * S - 18446744073709551616 * h := by omega
      rw [e]
      have e2 : vp = va * S - c * P := by omega
      rw [e2]
      grind)
    refine ⟨r, ?_, e2, e3, e4⟩
    refine Evt.succ ?_
    simp only [nat_up.l0]
    have hx : rd a (i : Int) = a[i] := by simp [rd_nat, hlt]
    have hc0 : rd (p ++ c :: List.replicate (n + 1) 0) (i : Int) = c := by
      rw [rd_nat]
      simp [List.getD_eq_getElem?_getD, ← hp]
    refine Evt.ite_pos (by omega) (Evt.ite_pos (by omega) (Evt.ite_pos (by omega) (Evt.ite_pos (by simp; omega) (Evt.ite_pos (by omega) ?_))))
    simp only [Option.bind_some]
    rw [hx, hc0, shl_u64 _ s (by omega), hz, hor, show ((i : Int)).toNat = p.length from by omega, set_at]
    rw [w64 (show -9223372036854775808 ≤ (i : Int) + 1 by omega) (by omega)]
    by_cases h0 : s = 0
    · refine Evt.ite_neg (by omega) ?_
      refine e1.congr (fun k => ?_) rfl
      have e0 : a[i] / 2 ^ (64 - s) = 0 := by
        rw [h0] at f4 f3 ⊢
        simp only [Int.pow_zero] at f4
        omega
      rw [e0, List.append_assoc]
      rfl
    · refine Evt.ite_pos (by omega) (Evt.ite_pos ?_ (Evt.ite_pos (by omega) (Evt.ite_pos (by simp; omega) ?_)))
      · rw [wu64_of (by omega) (by omega)]; omega
      · rw [wu64_of (by omega) (by omega), show (64 : Int) - (s : Int) = ((64 - s : Nat) : Int) from by omega, shr_u64 _ (64 - s) (by omega)]
        refine e1.congr (fun k => ?_) rfl
        have hset : (p ++ (z + c) :: List.replicate (n + 1) 0).set ((i : Int) + 1).toNat (a[i] / 2 ^ (64 - s)) = (p ++ [z + c]) ++ (a[i] / 2 ^ (64 - s)) :: List.replicate n 0 := by
          have e : p ++ (z + c) :: List.replicate (n + 1) 0 = (p ++ [z + c]) ++ 0 :: List.replicate n 0 := by rw [List.append_assoc, List.replicate_succ]; rfl
          rw [e, show ((i : Int) + 1).toNat = (p ++ [z + c]).length from by simp; omega]
          exact set_at _ _ _ _
        rw [hset]
        rfl
theorem nat_up_ev (a : List Int) (da : Dig (b64 : Int) a) (ha : a.length ≤ 100000) (s : Nat) (hs : s < 64) : ∃ r, Evt (fun k => nat_up.f k a (s : Int)) r ∧ Dig (b64 : Int) r ∧ r.length = a.length + 1 ∧ num r = num a * 2 ^ s := by
  obtain ⟨r, e1, e2, e3, e4⟩ := nat_up_loop a da ha s hs a.length 0 [] 0 (by omega) (by omega) rfl Dig.nil ⟨by omega, pow2_pos s⟩ (by simp [val])
  refine ⟨r, ?_, e2, e3, ?_⟩
  · unfold nat_up.f
    rw [w64 (show -9223372036854775808 ≤ (a.length : Int) + 1 by omega) (by omega)]
    refine Evt.ite_pos (by omega) (Evt.ite_pos (by omega) ?_)
    refine e1.congr (fun k => ?_) rfl
    rw [show ((a.length : Int) + 1).toNat = a.length + 1 from by omega, List.nil_append, List.replicate_succ]
    rfl
  · have h1 := num_val e2
    have h2 := num_val da
    have h3 : ((num a * 2 ^ s : Nat) : Int) = (num a : Int) * 2 ^ s := by simp
    rw [e4, ← h2, ← h3] at h1
    omega
end Go.Proofs.Ytnaphgnkhhapoab.Z
end
section
namespace Go.Proofs.Ytnaphgnkhhapoab.Z
open Go.RowKit Go.Proofs.YtnaphgnkhhapoabW.PrintWords
set_option linter.unusedSimpArgs false
set_option linter.unusedVariables false
theorem can_last {a : List Int} (ca : Can a) (h0 : a.length ≠ 0) : a.getD (a.length - 1) 0 ≠ 0 := by
  have h : a ≠ [] := fun e => h0 (by rw [e]; rfl)
  have h2 := ca h
  rw [List.getLast_eq_getElem] at h2
  rw [List.getD_eq_getElem?_getD, List.getElem?_eq_getElem (show a.length - 1 < a.length by omega)]
  exact h2
def mayV (n : List Int) : Bool := rightB n && decide (n.length ≤ 8) && decide (3 ≤ num n)
def halfV (n : List Int) : Nat := (num n - 1) / 2
def intR (a : Bool) (l : List Int) : Bool := rightB l && (!a || decide (0 < l.length))
def fromV (a : Bool) (l : List Int) : Bool × List Int := if rightB l = true ∧ l.length ≠ 0 then (a, l) else (false, [])
def encV (n : List Int) (a : Bool) (x : List Int) : List Int × Int :=
  if mayV n = true ∧ intR a x = true then (if num x ≤ halfV n then (if a = true then (limbs (num n - num x), 0) else (x, 0)) else ([], 12)) else ([], 1)
def decV (n v : List Int) : Bool × List Int × Int :=
  if mayV n = true then (if rightB v = true ∧ num v < num n then (if num v ≤ halfV n then ((fromV false v).1, (fromV false v).2, 0) else ((fromV true (limbs (num n - num v))).1, (fromV true (limbs (num n - num v))).2, 0)) else (false, [], 10)) else (false, [], 1)
theorem dig_one {x : Int} (h0 : 0 ≤ x) (h1 : x < 18446744073709551616) : Dig (b64 : Int) [x] := Dig.cons.2 ⟨⟨h0, h1⟩, Dig.nil⟩
theorem right_one {x : Int} (h : x ≠ 0) : rightB [x] = true := (rightB_iff _).2 ⟨by simp, Can.one h⟩
theorem right_limbs' {v : Nat} (h : v < b64 ^ 64) : rightB (limbs v) = true := (rightB_iff _).2 ⟨(limbs_long v).2 h, toD_can b64_two v⟩
theorem dig_limbs' (v : Nat) : Dig (b64 : Int) (limbs v) := toD_dig b64_two v
theorem mayV_iff (n : List Int) : mayV n = true ↔ rightB n = true ∧ n.length ≤ 8 ∧ 3 ≤ num n := by
  unfold mayV
  simp [and_assoc]
theorem may_lt {n : List Int} (dn : Dig (b64 : Int) n) (h : mayV n = true) : num n < b64 ^ 64 := by
  obtain ⟨h1, h2, _⟩ := (mayV_iff n).1 h
  exact num_lt_p dn (by omega)
theorem limbs_le64 {v : Nat} (h : v < b64 ^ 64) : (limbs v).length ≤ 64 := (limbs_long v).2 h
theorem cmpN_ge (x y : Nat) : decide (cmpN x y ≥ 0) = decide (y ≤ x) := by
  unfold cmpN
  by_cases h : x < y
  · rw [if_pos h]; simp; omega
  · rw [if_neg h]; split <;> simp <;> omega
theorem cmpN_le (x y : Nat) : decide (cmpN x y ≤ 0) = decide (x ≤ y) := by
  unfold cmpN
  by_cases h : x < y
  · rw [if_pos h]; simp; omega
  · rw [if_neg h]
    by_cases h2 : x = y
    · rw [if_pos h2]; simp; omega
    · rw [if_neg h2]; simp; omega
def ofI (x : Int) : Bool × List Int := (decide (x < 0), limbs x.natAbs)
def sI (a : Bool) (m : Nat) : Int := if a = true then -(m : Int) else (m : Int)
theorem sI_of (x : Int) : sI (decide (x < 0)) x.natAbs = x := by
  unfold sI
  by_cases h : x < 0
  · rw [if_pos (by simpa using h)]; omega
  · rw [if_neg (by simpa using h)]; omega
theorem sI_abs (a : Bool) (m : Nat) : (sI a m).natAbs = m := by
  unfold sI
  cases a <;> simp
theorem limbs_zero : limbs 0 = [] := toD_zero b64
theorem ofI_zero : ofI 0 = (false, []) := by
  unfold ofI
  rw [show (0 : Int).natAbs = 0 from rfl, limbs_zero]
  rfl
theorem limbs_nil_iff (m : Nat) : (limbs m).length = 0 ↔ m = 0 := by
  constructor
  · intro h
    have h1 := num_limbs m
    rw [List.eq_nil_of_length_eq_zero h] at h1
    rw [← h1]; rfl
  · rintro rfl
    rw [limbs_zero]; rfl
theorem fromV_s {a : Bool} {m : Nat} (h : m < b64 ^ 64) : fromV a (limbs m) = ofI (sI a m) := by
  unfold fromV
  by_cases h0 : m = 0
  · subst h0
    rw [if_neg (fun h' => h'.2 ((limbs_nil_iff 0).2 rfl))]
    unfold ofI sI
    cases a <;> simp [limbs_zero]
  · rw [if_pos ⟨right_limbs' h, fun e => h0 ((limbs_nil_iff m).1 e)⟩]
    unfold ofI
    rw [sI_abs]
    unfold sI
    cases a
    · simp
    · simp; omega
theorem intR_of {x : Int} (h : x.natAbs < b64 ^ 64) : intR (ofI x).1 (ofI x).2 = true := by
  unfold intR ofI
  simp only [right_limbs' h, Bool.true_and, Bool.or_eq_true, Bool.not_eq_true', decide_eq_false_iff_not, decide_eq_true_eq]
  by_cases h0 : x < 0
  · right
    have h1 : (limbs x.natAbs).length ≠ 0 := fun e => by
      have := (limbs_nil_iff _).1 e
      omega
    omega
  · exact Or.inl h0
theorem intR_s {a : Bool} {m : Nat} (h : m < b64 ^ 64) (ha : a = true → m ≠ 0) : intR a (limbs m) = true := by
  unfold intR
  cases a with
  | false => simp [right_limbs' h]
  | true =>
    have h1 : (limbs m).length ≠ 0 := fun e => ha rfl ((limbs_nil_iff m).1 e)
    simp only [right_limbs' h, Bool.true_and, Bool.not_true, Bool.false_or, decide_eq_true_eq]
    omega
theorem neg_abs {x : Int} : decide (x < 0) = true → x.natAbs ≠ 0 := by
  intro h
  have := of_decide_eq_true h
  omega
def SmI (x : Int) : Prop := x.natAbs < b64 ^ 30
theorem SmI.lt {x : Int} (h : SmI x) : x.natAbs < b64 ^ 64 := Nat.lt_of_lt_of_le h (Nat.pow_le_pow_right (by decide) (by decide))
theorem SmI.prod {m n : Nat} (h : m < b64 ^ 30) (k : n < b64 ^ 30) : m * n < b64 ^ 64 := by
  have h1 : b64 ^ 60 ≤ b64 ^ 64 := Nat.pow_le_pow_right (by decide) (by decide)
  have h2 := Nat.mul_lt_mul'' h k
  rw [← Nat.pow_add] at h2
  exact Nat.lt_of_lt_of_le h2 h1
def Sz (j : Nat) (x : Int) : Prop := x.natAbs < b64 ^ j
theorem Sz.smI {j : Nat} {x : Int} (h : Sz j x) (hj : j ≤ 30) : SmI x := Nat.lt_of_lt_of_le h (Nat.pow_le_pow_right (by decide) hj)
theorem Sz.i64 {x : Int} (h0 : -9223372036854775808 ≤ x) (h1 : x < 9223372036854775808) : Sz 1 x := by
  have hb : b64 = 18446744073709551616 := rfl
  unfold Sz
  rw [Nat.pow_one]
  omega
theorem Sz.add {j : Nat} {x y : Int} (h : Sz j x) (k : Sz j y) : Sz (j + 1) (x + y) := by
  unfold Sz at h k ⊢
  have h1 := Int.natAbs_add_le x y
  have h2 : b64 ^ j * 2 ≤ b64 ^ (j + 1) := Nat.mul_le_mul_left _ b64_two
  generalize b64 ^ (j + 1) = Y at *
  generalize b64 ^ j = X at *
  omega
theorem Sz.pow {s : Nat} (hs : s ≤ 64) : Sz 2 (2 ^ s) := by
  unfold Sz
  have h2 : 2 ^ s ≤ b64 ^ 1 := pow2_le_b64 (by omega)
  have h3 : 2 ^ s < b64 ^ 2 := Nat.lt_of_le_of_lt h2 ((Nat.pow_lt_pow_iff_right (by decide)).2 (by decide))
  rwa [Int.natAbs_pow]
theorem limbs_max {m : Nat} (h : m < b64 ^ 64) : (limbs m).length ≤ maxLen := by
  have := limbs_le64 h
  simp only [maxLen]
  omega
theorem sI_pow (a : Bool) (m s : Nat) : sI a (m * 2 ^ s) = sI a m * 2 ^ s := by
  unfold sI
  cases a <;> simp [Int.natCast_mul, Int.neg_mul]
theorem floor_neg {m n : Nat} (hn : 0 < n) : (-(m : Int)) / (n : Int) = (if m % n = 0 then -((m / n : Nat) : Int) else -((m / n + 1 : Nat) : Int)) ∧ (-(m : Int)) % (n : Int) = (if m % n = 0 then 0 else ((n - m % n : Nat) : Int)) := by
  have h1 := Nat.div_add_mod m n
  have h2 := Nat.mod_lt m hn
  have h3 : (n : Int) * ((m / n : Nat) : Int) + ((m % n : Nat) : Int) = (m : Int) := by rw [← Int.natCast_mul, ← Int.natCast_add, h1]
  apply (Int.ediv_emod_unique (by omega)).2
  by_cases h : m % n = 0
  · rw [if_pos h, if_pos h]
    rw [h] at h3
    refine ⟨?_, by omega, by omega⟩
    rw [Int.mul_neg]
    omega
  · rw [if_neg h, if_neg h]
    refine ⟨?_, by omega, by omega⟩
    rw [Int.mul_neg, Int.natCast_add, Int.mul_add]
    have : ((n - m % n : Nat) : Int) = (n : Int) - ((m % n : Nat) : Int) := by omega
    rw [this]
    simp only [Int.natCast_one, Int.mul_one]
    omega
def divV (a b : List Int) : List Int × List Int × Int :=
  if rightB a = true ∧ rightB b = true then (if num b = 0 then ([], [], 3) else (limbs (num a / num b), limbs (num a % num b), 0)) else ([], [], 1)
theorem num_zero_iff {b : List Int} (db : Dig (b64 : Int) b) (cb : Can b) : num b = 0 ↔ b.length = 0 := by
  constructor
  · intro h
    have := limbs_num db cb
    rw [h] at this
    rw [← this, show limbs 0 = [] from toD_zero b64]
    rfl
  · intro h
    rw [List.eq_nil_of_length_eq_zero h]
    rfl
theorem num_len_le {a b : List Int} (da : Dig (b64 : Int) a) (ca : Can a) (db : Dig (b64 : Int) b) (h : num a ≤ num b) : a.length ≤ b.length := by
  have h1 := limbs_num da ca
  rw [← h1]
  exact toD_len_le b64_two (Nat.lt_of_le_of_lt h (num_lt db))
theorem div_lt_lim {m n : Nat} (hm : m < b64 ^ 30) : m / n + 1 < b64 ^ 64 := by
  have h1 : m / n ≤ m := Nat.div_le_self _ _
  have h2 : b64 ^ 30 + 1 ≤ b64 ^ 64 := (Nat.pow_lt_pow_iff_right (by decide)).2 (by decide)
  generalize b64 ^ 64 = Y at *
  generalize b64 ^ 30 = X at *
  omega
def smI (x : Int) : Int × Bool := if -9223372036854775808 ≤ x ∧ x < 9223372036854775808 then (x, true) else (0, false)
theorem small_limbs {m : Nat} (hm : m < b64 ^ 64) : smallV (limbs m) = if m < b64 then ((m : Int), true) else (0, false) := by
  unfold smallV
  by_cases h : m < b64
  · have h1 : (limbs m).length ≤ 1 := toD_len_le b64_two (by rw [Nat.pow_one]; exact h)
    rw [if_pos ⟨right_limbs' hm, h1⟩, if_pos h]
    by_cases h0 : m = 0
    · subst h0
      rw [limbs_zero]; rfl
    · have e : limbs m = [(m : Int)] := by
        unfold limbs
        rw [toD_pos b64_two (by omega), Nat.mod_eq_of_lt h, Nat.div_eq_of_lt h, toD_zero]
      rw [e]; rfl
  · rw [if_neg h, if_neg (fun e => h (by have := (toD_len_iff b64_two m 1).1 e.2; rwa [Nat.pow_one] at this))]
def decI (n v : List Int) : Int := if num v ≤ halfV n then (num v : Int) else -((num n - num v : Nat) : Int)
def unpackV (n : List Int) (s : Int) (v : List Int) : Int × Int × Int :=
  if mayV n = true ∧ 1 ≤ s ∧ s ≤ 62 then (if rightB v = true ∧ num v < num n then (if -9223372036854775808 ≤ decI n v / 2 ^ s.toNat ∧ decI n v / 2 ^ s.toNat < 9223372036854775808 then (decI n v / 2 ^ s.toNat, decI n v % 2 ^ s.toNat, 0) else (0, 0, 12)) else (0, 0, 10)) else (0, 0, 1)
theorem mod_pow_i64 (x : Int) {q : Nat} (hq : q ≤ 62) : 0 ≤ x % 2 ^ q ∧ x % 2 ^ q < 9223372036854775808 := by
  have hp : (0 : Int) < 2 ^ q := Int.pow_pos (by omega)
  have h1 := Int.emod_nonneg x (show (2 : Int) ^ q ≠ 0 by omega)
  have h2 := Int.emod_lt_of_pos x hp
  have h3 : (2 : Int) ^ q ≤ 2 ^ 62 := pow_mono (by omega) hq
  omega
theorem decV_eq {n v : List Int} (dn : Dig (b64 : Int) n) (dv : Dig (b64 : Int) v) (hm : mayV n = true) : decV n v = if rightB v = true ∧ num v < num n then ((ofI (decI n v)).1, (ofI (decI n v)).2, 0) else (false, [], 10) := by
  unfold decV decI
  rw [if_pos hm]
  by_cases h : rightB v = true ∧ num v < num n
  · rw [if_pos h, if_pos h]
    have hlt := may_lt dn hm
    have e : v = limbs (num v) := (limbs_num dv ((rightB_iff v).1 h.1).2).symm
    by_cases hh : num v ≤ halfV n
    · rw [if_pos hh, if_pos hh]
      have h1 : fromV false v = ofI (num v : Int) := by
        conv => lhs; rw [e]
        rw [fromV_s (Nat.lt_trans h.2 hlt)]
        rfl
      rw [h1]
    · rw [if_neg hh, if_neg hh]
      have h1 : fromV true (limbs (num n - num v)) = ofI (-((num n - num v : Nat) : Int)) := by
        rw [fromV_s (Nat.lt_of_le_of_lt (Nat.sub_le _ _) hlt)]
        rfl
      rw [h1]
  · rw [if_neg h, if_neg h]
theorem may_lt8 {n : List Int} (dn : Dig (b64 : Int) n) (h : mayV n = true) : num n < b64 ^ 8 := by
  obtain ⟨h1, h2, _⟩ := (mayV_iff n).1 h
  exact Nat.lt_of_lt_of_le (num_lt dn) (Nat.pow_le_pow_right (show b64 > 0 by decide) h2)
theorem decI_sz {n v : List Int} (dn : Dig (b64 : Int) n) (hm : mayV n = true) (hv : num v < num n) : Sz 8 (decI n v) := by
  have := may_lt8 dn hm
  unfold Sz decI
  split <;> omega
theorem smI_of (x : Int) : smI x = if -9223372036854775808 ≤ x ∧ x < 9223372036854775808 then (x, true) else (0, false) := rfl
theorem Sz.ediv {j : Nat} {x y : Int} (h : Sz j x) (hy : 0 < y) : Sz (j + 1) (x / y) := by
  unfold Sz at h ⊢
  have h1 := Int.natAbs_ediv_le_natAbs x y
  have h2 : b64 ^ j ≤ b64 ^ (j + 1) := Nat.pow_le_pow_right (by decide) (by omega)
  omega
end Go.Proofs.Ytnaphgnkhhapoab.Z
end
section
namespace Go.Proofs.Ytnaphgnkhhapoab.Z
open Go.RowKit Go.Proofs.YtnaphgnkhhapoabW.PrintWords Go.Proofs.YtnaphgnkhhapoabW.PrintMore
set_option linter.unusedSimpArgs false
set_option linter.unusedVariables false
def downL (s : Nat) : List Int → List Int
  | [] => []
  | x :: l => (x / 2 ^ s + (if s = 0 then 0 else (l.getD 0 0 * 2 ^ (64 - s)) % 18446744073709551616)) :: downL s l
theorem downL_facts (s : Nat) (hs : s < 64) (l : List Int) (d : Dig (b64 : Int) l) : Dig (b64 : Int) (downL s l) ∧ (downL s l).length = l.length ∧ val (b64 : Int) (downL s l) * 2 ^ s + l.getD 0 0 % 2 ^ s = val (b64 : Int) l := by
  have hB : (b64 : Int) = 18446744073709551616 := rfl
  have hps := pow2_pos s
  induction l with
  | nil => exact ⟨Dig.nil, rfl, by simp [downL, val]⟩
  | cons x l ih =>
    have d1 := Dig.cons.1 d
    obtain ⟨i1, i2, i3⟩ := ih d1.2
    have rx := d1.1
    have ry := d1.2.getD b64_pos 0
    rw [hB] at rx ry
    by_cases h0 : s = 0
    · subst h0
      simp only [downL, Int.pow_zero, Int.ediv_one, if_true, Int.add_zero] at i3 ⊢
      refine ⟨Dig.cons.2 ⟨by rw [hB]; exact rx, i1⟩, by simp [i2], ?_⟩
      simp only [val, List.getD_cons_zero, Int.emod_one, Int.add_zero, Int.mul_one] at i3 ⊢
      rw [i3]
    · have hp64 := pow64_split (s := s) (by omega)
      have hq := pow2_pos (64 - s)
      obtain ⟨f1, f2, f3, f4⟩ := shl_facts ry (s := 64 - s) (by omega)
      rw [show 64 - (64 - s) = s from by omega] at f1 f3 f4
      simp only [downL, if_neg h0]
      have e1 := Int.emod_add_mul_ediv x (2 ^ s)
      have e2 := Int.emod_nonneg x (show (2 : Int) ^ s ≠ 0 by omega)
      have e3 := Int.emod_lt_of_pos x hps
      have e4 := Int.emod_add_mul_ediv (l.getD 0 0) (2 ^ s)
      generalize hz : (l.getD 0 0 * 2 ^ (64 - s)) % 18446744073709551616 = z at *
      generalize hxd : x / 2 ^ s = xd at *
      generalize hyd : l.getD 0 0 / 2 ^ s = yd at *
      generalize l.getD 0 0 = y at *
      have hxd1 : xd < 2 ^ (64 - s) := by
        rw [← hxd]
        apply Int.ediv_lt_of_lt_mul hps
        rw [Int.mul_comm, hp64]
        exact rx.2
      have hxd0 : 0 ≤ xd := by rw [← hxd]; exact Int.ediv_nonneg rx.1 (by omega)
      obtain ⟨t, ht⟩ := Int.dvd_of_emod_eq_zero f2
      have hz0 : 0 ≤ z := by omega
      have hz1 : z < 18446744073709551616 := by omega
      refine ⟨Dig.cons.2 ⟨?_, i1⟩, by simp [i2], ?_⟩
      · rw [hB]
        refine ⟨by omega, ?_⟩
        have ht2 : t < 2 ^ s := by
          refine Int.not_le.1 (fun hle => ?_)
          have := Int.mul_le_mul_of_nonneg_left hle (Int.le_of_lt hq)
          rw [Int.mul_comm ((2 : Int) ^ (64 - s)) (2 ^ s), hp64] at this
          omega
        have h5 : 2 ^ (64 - s) * (t + 1) ≤ (2 : Int) ^ (64 - s) * 2 ^ s := Int.mul_le_mul_of_nonneg_left (by omega) (by omega)
        rw [Int.mul_comm ((2 : Int) ^ (64 - s)) (2 ^ s), hp64, Int.mul_add] at h5
        omega
      · simp only [val, List.getD_cons_zero]
        rw [hB] at i3 ⊢
        generalize val 18446744073709551616 (downL s l) = vd at *
        generalize val 18446744073709551616 l = vl at *
        generalize x % 2 ^ s = xm at *
        generalize y % 2 ^ s = ym at *
        have hP : (2 : Int) ^ (64 - s) * 2 ^ s = 18446744073709551616 := by rw [Int.mul_comm]; exact hp64
        generalize (2 : Int) ^ s = P at *
        generalize (2 : Int) ^ (64 - s) = Q at *
        have e5 : (xd + z + 18446744073709551616 * vd) * P + xm = P * xd + xm + (z * P + 18446744073709551616 * (vd * P)) := by grind
        rw [e5]
        have e6 : z = y * Q - 18446744073709551616 * yd := by omega
        have e7 : z * P = 18446744073709551616 * ym := by
          rw [e6, ← e4, ← hP]
          grind
        rw [e7]
        omega
theorem num_drop {a : List Int} (da : Dig (b64 : Int) a) (m : Nat) (hm : m ≤ a.length) : num (a.drop m) = num a / b64 ^ m := by
  have h1 := num_val da
  have h2 := num_val (da.drop m)
  have h3 := num_val (da.take m)
  have h4 := num_lt (da.take m)
  have h5 := val_append (b64 : Int) (a.take m) (a.drop m)
  rw [List.take_append_drop, ← h1, ← h2, ← h3, List.length_take, show min m a.length = m from by omega, pow_cast] at h5
  rw [List.length_take, show min m a.length = m from by omega] at h4
  have h6 : num a = num (a.take m) + b64 ^ m * num (a.drop m) := by
    have : ((num (a.take m) + b64 ^ m * num (a.drop m) : Nat) : Int) = (num (a.take m) : Int) + ((b64 ^ m : Nat) : Int) * (num (a.drop m) : Int) := by simp
    omega
  rw [h6, Nat.add_mul_div_left _ _ (Nat.pow_pos (by decide)), Nat.div_eq_of_lt h4, Nat.zero_add]
theorem num_down {a : List Int} (da : Dig (b64 : Int) a) (s : Nat) (hs : s < 64) : num (downL s a) = num a / 2 ^ s := by
  obtain ⟨d, _, e⟩ := downL_facts s hs a da
  have h1 := num_val d
  have h2 := num_val da
  have hp := pow2_pos s
  have hr0 := Int.emod_nonneg (a.getD 0 0) (show (2 : Int) ^ s ≠ 0 by omega)
  have hr1 := Int.emod_lt_of_pos (a.getD 0 0) hp
  rw [← h1, ← h2] at e
  generalize a.getD 0 0 % 2 ^ s = r at *
  obtain ⟨r', rfl⟩ := Int.eq_ofNat_of_zero_le hr0
  have hP : (2 : Int) ^ s = ((2 ^ s : Nat) : Int) := by simp
  rw [hP] at e hr1
  have e2 : num a = r' + 2 ^ s * num (downL s a) := by
    have : ((r' + 2 ^ s * num (downL s a) : Nat) : Int) = (r' : Int) + ((2 ^ s : Nat) : Int) * (num (downL s a) : Int) := by simp
    rw [Int.mul_comm] at e
    omega
  rw [e2, Nat.add_mul_div_left _ _ (Nat.pow_pos (by decide)), Nat.div_eq_of_lt (by omega), Nat.zero_add]
end Go.Proofs.Ytnaphgnkhhapoab.Z
end
section
namespace Go.Proofs.Ytnaphgnkhhapoab.Z
open Go.RowKit Go.Proofs.Ytnaphgnkhhapoab.F Go.Proofs.YtnaphgnkhhapoabW.PrintWords Go.Proofs.YtnaphgnkhhapoabW.PrintMore
set_option linter.unusedSimpArgs false
set_option linter.unusedVariables false
def shrV (a : List Int) (n : Int) : List Int × Int :=
  if rightB a = true ∧ 0 ≤ n then (limbs (num a / 2 ^ n.toNat), 0) else ([], 1)
theorem nat_Shr_loop (a : List Int) (da : Dig (b64 : Int) a) (ha : a.length ≤ 100000) (s : Nat) (hs : s < 64) {r : List Int × Int} (fin : Evt (fun k => nat_told.f k (downL s a)) r) (n : Nat) :
    ∀ (i : Nat) (p : List Int), a.length - i = n → i ≤ a.length → p.length = i → p ++ downL s (a.drop i) = downL s a →
      Evt (fun k => nat_Shr.l0 k a (s : Int) (p ++ List.replicate n 0) (a.length : Int) (i : Int)) (r.1, r.2) := by
  induction n with
  | zero =>
    intro i p hn hi hp he
    refine Evt.succ ?_
    simp only [nat_Shr.l0]
    refine Evt.ite_neg (by omega) ?_
    rw [List.drop_of_length_le (by omega)] at he
    simp only [downL, List.append_nil] at he
    rw [List.replicate_zero, List.append_nil, he]
    exact Evt.bind fin (h := fun t _ => some (t.1, t.2)) (Evt.pure _)
  | succ n ih =>
    intro i p hn hi hp he
    have hlt : i < a.length := by omega
    have rx := da a[i] (List.getElem_mem hlt)
    have ry := (da.drop (i + 1)).getD b64_pos 0
    have hB : (b64 : Int) = 18446744073709551616 := rfl
    rw [hB] at rx ry
    rw [List.drop_eq_getElem_cons hlt] at he
    simp only [downL] at he
    have hx : rd a (i : Int) = a[i] := by simp [rd_nat, hlt]
    refine Evt.succ ?_
    simp only [nat_Shr.l0]
    refine Evt.ite_pos (by omega) (Evt.ite_pos (by omega) (Evt.ite_pos (by omega) (Evt.ite_pos (by omega) (Evt.ite_pos (by simp; omega) ?_))))
    refine Evt.bind (Evt.pure _) ?_
    rw [hx, shr_u64 _ s (by omega), show ((i : Int)).toNat = p.length from by omega, List.replicate_succ, set_at, w64 (show -9223372036854775808 ≤ (i : Int) + 1 by omega) (by omega)]
    have hps := pow2_pos s
    have hxd0 : 0 ≤ a[i] / 2 ^ s := Int.ediv_nonneg rx.1 (by omega)
    by_cases h0 : s = 0
    · refine Evt.ite_neg (by omega) ?_
      rw [if_pos h0, Int.add_zero] at he
      refine (ih (i + 1) (p ++ [a[i] / 2 ^ s]) (by omega) (by omega) (by simp; omega) (by rw [List.append_assoc]; exact he)).congr (fun k => ?_) rfl
      rw [List.append_assoc]; rfl
    · refine Evt.ite_pos (by omega) ?_
      rw [if_neg h0] at he
      by_cases h1 : i + 1 < a.length
      · refine Evt.ite_pos (by omega) (Evt.ite_pos (by omega) (Evt.ite_pos (by rw [wu64_of (by omega) (by omega)]; omega) ?_))
        have hy : rd a ((i : Int) + 1) = a[i + 1] := by
          rw [show (i : Int) + 1 = ((i + 1 : Nat) : Int) from by omega, rd_nat]
          simp [List.getD_eq_getElem?_getD, h1]
        have hy2 : (a.drop (i + 1)).getD 0 0 = a[i + 1] := by simp [List.getD_eq_getElem?_getD, h1]
        have hg : rd (p ++ a[i] / 2 ^ s :: List.replicate n 0) (i : Int) = a[i] / 2 ^ s := by
          rw [rd_nat]
          simp [List.getD_eq_getElem?_getD, ← hp]
        rw [hy2] at he ry
        obtain ⟨f1, f2, f3, f4⟩ := shl_facts ry (s := 64 - s) (by omega)
        have hxd1 : a[i] / 2 ^ s < 2 ^ (64 - s) := by
          apply Int.ediv_lt_of_lt_mul hps
          rw [Int.mul_comm, pow64_split (by omega)]
          exact rx.2
        have hz0 : 0 ≤ (a[i + 1] * 2 ^ (64 - s)) % 18446744073709551616 := by omega
        have hz1 : (a[i + 1] * 2 ^ (64 - s)) % 18446744073709551616 < 18446744073709551616 := by omega
        have hq64 : (2 : Int) ^ (64 - s) ≤ 2 ^ 64 := pow_mono (by omega) (by omega)
        rw [hy, hg, wu64_of (show (0 : Int) ≤ 64 - (s : Int) by omega) (by omega), show (64 : Int) - (s : Int) = ((64 - s : Nat) : Int) from by omega, shl_u64 _ (64 - s) (by omega), set_at, or_comm_u64 hxd0 (by omega) hz0 hz1, or_u64 (64 - s) (by omega) hz0 f2 hz1 hxd0 hxd1]
        refine (ih (i + 1) (p ++ [(a[i + 1] * 2 ^ (64 - s)) % 18446744073709551616 + a[i] / 2 ^ s]) (by omega) (by omega) (by simp; omega) (by rw [List.append_assoc, Int.add_comm ((a[i + 1] * 2 ^ (64 - s)) % 18446744073709551616)]; exact he)).congr (fun k => ?_) rfl
        rw [List.append_assoc]; rfl
      · refine Evt.ite_neg (by omega) ?_
        have hy2 : (a.drop (i + 1)).getD 0 0 = 0 := by rw [List.drop_of_length_le (by omega)]; rfl
        rw [hy2, Int.zero_mul, Int.zero_emod, Int.add_zero] at he
        refine (ih (i + 1) (p ++ [a[i] / 2 ^ s]) (by omega) (by omega) (by simp; omega) (by rw [List.append_assoc]; exact he)).congr (fun k => ?_) rfl
        rw [List.append_assoc]; rfl
theorem nat_Shr_ev (a : List Int) (n : Int) (ha : a.length ≤ maxLen) (da : Dig (b64 : Int) a) (hn9 : n < 9223372036854775808) : Evt (fun k => nat_Shr.f k a n) (shrV a n) := by
  unfold nat_Shr.f shrV
  rw [nat_Right_eq ha]
  simp only [Option.bind_some]
  have J : ∀ x : Bool, (x = false → rightB a = true ∧ 0 ≤ n) → Evt (fun k => nat_Shr.j0 k a n x) (if x = true then ([], 1) else (limbs (num a / 2 ^ n.toNat), 0)) := by
    intro x hx
    refine Evt.succ ?_
    simp only [nat_Shr.j0]
    refine Evt.cond (fun _ => Evt.pure _) (fun hc => ?_)
    have h := hx (by simpa using hc)
    obtain ⟨h1, c1⟩ := (rightB_iff a).1 h.1
    obtain ⟨m, rfl⟩ := Int.eq_ofNat_of_zero_le h.2
    rw [show ((m : Int)).toNat = m from Int.toNat_natCast m]
    have e1 : Int.tdiv (m : Int) 64 = ((m / 64 : Nat) : Int) := by rw [Int.tdiv_eq_ediv_of_nonneg (by omega)]; omega
    rw [e1, w64 (show -9223372036854775808 ≤ ((m / 64 : Nat) : Int) by omega) (by omega)]
    have hp := num_lt_p da h1
    by_cases hlen : a.length ≤ m / 64
    · have e : num a / 2 ^ m = 0 := by
        apply Nat.div_eq_of_lt
        exact Nat.lt_of_lt_of_le (num_lt da) (b64_le_pow2 (by omega))
      rw [e, show limbs 0 = [] from toD_zero b64]
      exact Evt.ite_pos (by omega) (Evt.pure _)
    · have e2 : IntKind.u64.wrap (Int.tmod (m : Int) 64) = ((m % 64 : Nat) : Int) := by
        rw [Int.tmod_eq_emod_of_nonneg (by omega), wu64_of (by omega) (by omega)]; omega
      rw [e2, Int.toNat_natCast]
      refine Evt.ite_neg (by omega) (Evt.ite_pos (by omega) (Evt.ite_pos (by omega) (Evt.ite_pos (by omega) (Evt.ite_pos (by simp; omega) ?_))))
      have dd := da.drop (m / 64)
      obtain ⟨g1, g2, g3⟩ := downL_facts (m % 64) (by omega) (a.drop (m / 64)) dd
      have hnum : num (downL (m % 64) (a.drop (m / 64))) = num a / 2 ^ m := by
        rw [num_down dd _ (by omega), num_drop da _ (by omega), b64_pow2, Nat.div_div_eq_div_mul, ← Nat.pow_add, show 64 * (m / 64) + m % 64 = m from by omega]
      have h3 : num a / 2 ^ m ≤ num a := Nat.div_le_self _ _
      have ht := nat_told_ev (downL (m % 64) (a.drop (m / 64))) (by rw [g2]; simp; omega) g1
      have e : toldV (num a / 2 ^ m) = (limbs (num a / 2 ^ m), 0) := if_pos (Nat.lt_of_le_of_lt h3 hp)
      rw [hnum, e] at ht
      refine (nat_Shr_loop (a.drop (m / 64)) dd (by simp; omega) (m % 64) (by omega) ht (a.drop (m / 64)).length 0 [] (by omega) (by omega) rfl (by simp)).congr (fun k => ?_) rfl
      rw [Int.toNat_natCast]
      rfl
  cases hA : rightB a with
  | true =>
    refine Evt.ite_pos rfl ((J _ (fun h => ⟨hA, by simpa using h⟩)).congr (fun k => rfl) ?_)
    by_cases hn : n < 0
    · rw [decide_eq_true hn, if_pos rfl, if_neg (show ¬ (true = true ∧ 0 ≤ n) by omega)]
    · rw [decide_eq_false hn, if_neg (by simp), if_pos (show true = true ∧ 0 ≤ n from ⟨rfl, by omega⟩)]
  | false =>
    refine Evt.ite_neg (by simp) ((J _ (fun h => by simp at h)).congr (fun k => rfl) ?_)
    simp
end Go.Proofs.Ytnaphgnkhhapoab.Z
end
section
namespace Go.Proofs.Ytnaphgnkhhapoab.Z
open Go.RowKit Go.Proofs.Ytnaphgnkhhapoab.F Go.Proofs.YtnaphgnkhhapoabW.PrintWords
set_option linter.unusedSimpArgs false
set_option linter.unusedVariables false
theorem may_ev (n : List Int) (hn : n.length ≤ maxLen) (dn : Dig (b64 : Int) n) : Evt (fun k => fixenc_modulus_may.f k n) (mayV n) := by
  unfold fixenc_modulus_may.f mayV
  rw [nat_Right_eq hn]
  simp only [Option.bind_some]
  cases hR : rightB n with
  | false => exact Evt.ite_neg (by simp) (Evt.pure _)
  | true =>
    refine Evt.ite_pos rfl ?_
    by_cases h8 : n.length ≤ 8
    · refine Evt.ite_pos (by omega) ?_
      have d3 : Dig (b64 : Int) [3] := dig_one (by omega) (by omega)
      refine (Evt.bind (nat_Cmp_ev n [3] hn (by simp [maxLen]) dn d3) (h := fun t _ => some (decide (t ≥ 0))) (Evt.pure _)).congr (fun k => rfl) ?_
      unfold cmpV
      rw [if_pos ⟨hR, right_one (by omega)⟩, cmpN_ge, num_one (by omega)]
      simp [h8]
    · refine Evt.ite_neg (by omega) ((Evt.pure _).congr (fun k => rfl) ?_)
      simp [h8]
theorem half_ev (n : List Int) (dn : Dig (b64 : Int) n) (hm : mayV n = true) : Evt (fun k => fixenc_modulus_half.f k n) (limbs (halfV n)) := by
  obtain ⟨hR, h8, h3⟩ := (mayV_iff n).1 hm
  have hlt := may_lt dn hm
  unfold fixenc_modulus_half.f
  have hs := nat_Shr_ev n 1 (by simp only [maxLen]; omega) dn (by omega)
  unfold shrV at hs
  rw [if_pos ⟨hR, by omega⟩] at hs
  refine Evt.bind hs ?_
  refine Evt.bind (Evt.of (fun _ => nat_Bit_eq n 0 (by simp only [maxLen]; omega) dn (by omega))) ?_
  have h0 : n.length ≠ 0 := by
    intro h
    rw [List.eq_nil_of_length_eq_zero h] at h3
    simp [num, val] at h3
  obtain ⟨x, l, rfl⟩ : ∃ x l, n = x :: l := by
    cases n with
    | nil => simp at h0
    | cons x l => exact ⟨x, l, rfl⟩
  have hx := (Dig.cons.1 dn).1
  have hb : bitV (x :: l) 0 = decide (num (x :: l) % 2 = 1) := by
    unfold bitV
    rw [hR, num_cons dn]
    have hB : b64 = 18446744073709551616 := rfl
    rw [hB] at hx ⊢
    simp
    have h1 : (0 : Int) < (l.length : Int) + 1 := by omega
    by_cases h2 : x % 2 = 1
    · have : (x.toNat + 18446744073709551616 * num l) % 2 = 1 := by omega
      simp [h1, h2, this]
    · have h4 : ¬ (x.toNat + 18446744073709551616 * num l) % 2 = 1 := by omega
      simp [h2, h4]
  rw [hb]
  by_cases hp : num (x :: l) % 2 = 1
  · refine Evt.ite_pos (by simpa using hp) ((Evt.pure _).congr (fun k => rfl) ?_)
    unfold halfV
    rw [show (2 : Nat) ^ (1 : Int).toNat = 2 from rfl, show num (x :: l) / 2 = (num (x :: l) - 1) / 2 by omega]
  · refine Evt.ite_neg (by simpa using hp) ?_
    have d1 : Dig (b64 : Int) [1] := dig_one (by omega) (by omega)
    have hv : num (x :: l) / 2 ^ (1 : Int).toNat = num (x :: l) / 2 := rfl
    have hlt2 : num (x :: l) / 2 < b64 ^ 64 := Nat.lt_of_le_of_lt (Nat.div_le_self _ _) hlt
    have hsub := nat_Sub_ev (limbs (num (x :: l) / 2)) [1] (by have := limbs_le64 hlt2; simp only [maxLen]; omega) (by simp [maxLen]) (dig_limbs' _) d1
    rw [hv]
    refine (Evt.bind hsub (h := fun t _ => some t.1) (Evt.pure _)).congr (fun k => rfl) ?_
    unfold subV halfV
    rw [if_pos ⟨right_limbs' hlt2, right_one (by omega)⟩, num_limbs, num_one (by omega), if_neg (by omega), show num (x :: l) / 2 - (1 : Int).toNat = (num (x :: l) - 1) / 2 by omega]
theorem fits_ev (n x : List Int) (dn : Dig (b64 : Int) n) (dx : Dig (b64 : Int) x) (hm : mayV n = true) (hx : rightB x = true) : Evt (fun k => fixenc_fits.f k n x) (decide (num x ≤ halfV n)) := by
  obtain ⟨hR, h8, h3⟩ := (mayV_iff n).1 hm
  have hlt := may_lt dn hm
  obtain ⟨hx1, _⟩ := (rightB_iff x).1 hx
  have hh : halfV n < b64 ^ 64 := by unfold halfV; omega
  unfold fixenc_fits.f
  refine Evt.bind (half_ev n dn hm) ?_
  refine (Evt.bind (nat_Cmp_ev x (limbs (halfV n)) (by simp only [maxLen]; omega) (by have := limbs_le64 hh; simp only [maxLen]; omega) dx (dig_limbs' _)) (h := fun t _ => some (decide (t ≤ 0))) (Evt.pure _)).congr (fun k => rfl) ?_
  unfold cmpV
  rw [if_pos ⟨hx, right_limbs' hh⟩, cmpN_le, num_limbs]
theorem modint_Right_eq (a : Bool) (l : List Int) (h : l.length ≤ maxLen) : modint_Right.f a l = some (intR a l) := by
  unfold modint_Right.f intR
  rw [nat_Right_eq h]
  cases hR : rightB l <;> cases a <;> simp
theorem clone7 (l : List Int) (h : l.length ≤ 100000) : api_Nat_uint64.f l = some l := by
  unfold api_Nat_uint64.f
  simp only [Option.bind_some, List.nil_append, List.length_nil]
  rw [if_pos (by omega)]
theorem modint_From_eq (a : Bool) (l : List Int) (h : l.length ≤ 64) : modint_From.f a l = some (fromV a l) := by
  unfold modint_From.f fromV
  rw [nat_Right_eq (by simp only [maxLen]; omega), clone7 l (by omega)]
  cases hR : rightB l with
  | false => simp
  | true =>
    by_cases h0 : l.length = 0
    · simp [h0]
    · have : ¬ l = [] := fun e => h0 (by rw [e]; rfl)
      simp [this]
theorem fix_Encode_ev (n : List Int) (a : Bool) (x : List Int) (hn : n.length ≤ maxLen) (hx : x.length ≤ maxLen) (dn : Dig (b64 : Int) n) (dx : Dig (b64 : Int) x) : Evt (fun k => fixenc_Encode.f k n a x) (encV n a x) := by
  unfold fixenc_Encode.f encV
  have J : ∀ b : Bool, (b = false → mayV n = true ∧ intR a x = true) → Evt (fun k => fixenc_Encode.j0 k n b a x) (if b = true then ([], 1) else (if num x ≤ halfV n then (if a = true then (limbs (num n - num x), 0) else (x, 0)) else ([], 12))) := by
    intro b hb
    refine Evt.succ ?_
    simp only [fixenc_Encode.j0]
    refine Evt.cond (fun _ => Evt.pure _) (fun hc => ?_)
    obtain ⟨hm, hi⟩ := hb (by simpa using hc)
    have hR : rightB x = true := by unfold intR at hi; simp only [Bool.and_eq_true] at hi; exact hi.1
    obtain ⟨hx1, cx⟩ := (rightB_iff x).1 hR
    obtain ⟨hRn, h8, h3⟩ := (mayV_iff n).1 hm
    have hlt := may_lt dn hm
    refine Evt.bind (fits_ev n x dn dx hm hR) ?_
    by_cases hf : num x ≤ halfV n
    · rw [if_pos hf]
      refine Evt.ite_pos (by simpa using hf) ?_
      have hxn : num x < num n := by unfold halfV at hf; omega
      cases a with
      | true =>
        refine Evt.ite_pos rfl ?_
        have hs := nat_Sub_ev n x hn hx dn dx
        unfold subV at hs
        rw [if_pos ⟨hRn, hR⟩, if_neg (by omega)] at hs
        exact Evt.bind hs (h := fun t _ => some (t.1, t.2)) (Evt.pure _)
      | false =>
        refine Evt.ite_neg (by simp) ?_
        have hs := nat_Add_ev x [] hx (by simp) dx Dig.nil
        unfold addV toldV at hs
        rw [if_pos ⟨hR, by decide⟩, num_nil, Nat.add_zero, if_pos (by omega), limbs_num dx cx] at hs
        exact Evt.bind hs (h := fun t _ => some (t.1, t.2)) (Evt.pure _)
    · rw [if_neg hf]
      exact Evt.ite_neg (by simpa using hf) (Evt.pure _)
  refine Evt.bind (may_ev n hn dn) ?_
  cases hm : mayV n with
  | false =>
    refine Evt.ite_neg (by simp) ((J true (by simp)).congr (fun k => rfl) ?_)
    simp
  | true =>
    refine Evt.ite_pos rfl ?_
    refine Evt.bind (Evt.of (fun _ => modint_Right_eq a x hx)) ?_
    refine (J (!intR a x) (fun h => ⟨hm, by simpa using h⟩)).congr (fun k => rfl) ?_
    cases hi : intR a x <;> simp
theorem fix_Decode_ev (n v : List Int) (hn : n.length ≤ maxLen) (hv : v.length ≤ maxLen) (dn : Dig (b64 : Int) n) (dv : Dig (b64 : Int) v) : Evt (fun k => fixenc_Decode.f k n v) (decV n v) := by
  unfold fixenc_Decode.f decV
  refine Evt.bind (may_ev n hn dn) ?_
  cases hm : mayV n with
  | false => exact Evt.ite_neg (by simp) ((Evt.pure _).congr (fun k => rfl) (by simp))
  | true =>
    obtain ⟨hRn, h8, h3⟩ := (mayV_iff n).1 hm
    have hlt := may_lt dn hm
    have J : ∀ b : Bool, (b = false → rightB v = true ∧ num v < num n) → Evt (fun k => fixenc_Decode.j0 k n v b) (if b = true then (false, [], 10) else (if num v ≤ halfV n then ((fromV false v).1, (fromV false v).2, 0) else ((fromV true (limbs (num n - num v))).1, (fromV true (limbs (num n - num v))).2, 0))) := by
      intro b hb
      refine Evt.succ ?_
      simp only [fixenc_Decode.j0]
      refine Evt.cond (fun _ => Evt.pure _) (fun hc => ?_)
      obtain ⟨hR, hvn⟩ := hb (by simpa using hc)
      obtain ⟨hv1, cv⟩ := (rightB_iff v).1 hR
      refine Evt.bind (fits_ev n v dn dv hm hR) ?_
      by_cases hf : num v ≤ halfV n
      · rw [if_pos hf]
        refine Evt.ite_pos (by simpa using hf) ?_
        exact Evt.bind (Evt.of (fun _ => modint_From_eq false v hv1)) (h := fun t _ => some (t.1, t.2, (0 : Int))) (Evt.pure _)
      · rw [if_neg hf]
        refine Evt.ite_neg (by simpa using hf) ?_
        have hs := nat_Sub_ev n v hn hv dn dv
        unfold subV at hs
        rw [if_pos ⟨hRn, hR⟩, if_neg (by omega)] at hs
        refine Evt.bind hs ?_
        exact Evt.bind (Evt.of (fun _ => modint_From_eq true (limbs (num n - num v)) (limbs_le64 (Nat.lt_of_le_of_lt (Nat.sub_le _ _) hlt)))) (h := fun t _ => some (t.1, t.2, (0 : Int))) (Evt.pure _)
    refine Evt.ite_pos rfl ?_
    refine Evt.bind (Evt.of (fun _ => nat_Right_eq hv)) ?_
    cases hR : rightB v with
    | false =>
      refine Evt.ite_neg (by simp) ((J true (by simp)).congr (fun k => rfl) ?_)
      simp
    | true =>
      refine Evt.ite_pos rfl ?_
      refine Evt.bind (nat_Cmp_ev v n hv hn dv dn) ?_
      unfold cmpV
      rw [if_pos ⟨hR, hRn⟩, cmpN_ge]
      refine (J (decide (num n ≤ num v)) (fun h => ⟨hR, by simpa using h⟩)).congr (fun k => rfl) ?_
      by_cases hvn : num n ≤ num v
      · have : ¬ num v < num n := by omega
        simp [hvn, this]
      · have : num v < num n := by omega
        simp [hvn, this]
theorem awake_ev : Evt (fun k => windbreaklaw07_awake.f k) true := by
  have d101 : Dig (b64 : Int) [101] := dig_one (by omega) (by omega)
  have d1 : Dig (b64 : Int) [1] := dig_one (by omega) (by omega)
  have d100 : Dig (b64 : Int) [100] := dig_one (by omega) (by omega)
  have e1 : encV [101] true [1] = ([100], 0) := by
    have n1 : num [101] = 101 := num_one (by omega)
    have n2 : num [1] = 1 := num_one (by omega)
    have n3 : num [100] = 100 := num_one (by omega)
    unfold encV mayV intR halfV
    rw [n1, n2]
    have := limbs_num d100 (Can.one (by omega))
    rw [n3] at this
    rw [if_pos ⟨by decide, by decide⟩, if_pos (by decide), if_pos rfl, this]
  unfold windbreaklaw07_awake.f
  have h := fix_Encode_ev [101] true [1] (by simp [maxLen]) (by simp [maxLen]) d101 d1
  rw [e1] at h
  refine Evt.bind h ?_
  exact Evt.ite_pos rfl (Evt.ite_pos rfl (Evt.ite_pos (by decide) (Evt.pure _)))
theorem mask32m {x : Int} (h0 : 0 ≤ x) (h1 : x < 18446744073709551616) : Go.bits .and .u64 x 4294967295 = x % 4294967296 := by
  have h := bits_mask .u64 64 (by decide) wraps_u64 32 (by decide) x h0 (by omega)
  rw [show (2 : Int) ^ 32 = 4294967296 from by decide] at h
  exact h
theorem half_mul {x y : Int} (hx : 0 ≤ x ∧ x < 4294967296) (hy : 0 ≤ y ∧ y < 4294967296) : 0 ≤ x * y ∧ x * y ≤ 18446744065119617025 := by
  refine ⟨Int.mul_nonneg hx.1 hy.1, ?_⟩
  have : x * y ≤ 4294967295 * 4294967295 := Int.mul_le_mul (by omega) (by omega) hy.1 (by omega)
  omega
theorem bits_Mul64_eq {x y : Int} (hx : 0 ≤ x ∧ x < 18446744073709551616) (hy : 0 ≤ y ∧ y < 18446744073709551616) :
    ∃ hi lo : Int, bits_Mul64.f x y = some (hi, lo) ∧ hi * 18446744073709551616 + lo = x * y ∧ (0 ≤ hi ∧ hi < 18446744073709551616) ∧ (0 ≤ lo ∧ lo < 18446744073709551616) := by
  unfold bits_Mul64.f
  have ex : x = x / 4294967296 * 4294967296 + x % 4294967296 := by omega
  have ey : y = y / 4294967296 * 4294967296 + y % 4294967296 := by omega
  have xl : 0 ≤ x % 4294967296 ∧ x % 4294967296 < 4294967296 := by omega
  have yl : 0 ≤ y % 4294967296 ∧ y % 4294967296 < 4294967296 := by omega
  have xh : 0 ≤ x / 4294967296 ∧ x / 4294967296 < 4294967296 := by omega
  have yh : 0 ≤ y / 4294967296 ∧ y / 4294967296 < 4294967296 := by omega
  rw [mask32m hx.1 hx.2, mask32m hy.1 hy.2]
  have p1 := half_mul xh yh
  have p2 := half_mul xh yl
  have p3 := half_mul xl yh
  have p4 := half_mul xl yl
  have e : x * y = (x / 4294967296 * (y / 4294967296)) * 18446744073709551616 + (x / 4294967296 * (y % 4294967296) + x % 4294967296 * (y / 4294967296)) * 4294967296 + x % 4294967296 * (y % 4294967296) := by
    generalize x / 4294967296 = a at *
    generalize x % 4294967296 = b at *
    generalize y / 4294967296 = c at *
    generalize y % 4294967296 = d at *
    subst ex ey
    grind
  rw [e]
  generalize x / 4294967296 * (y / 4294967296) = A at *
  generalize x / 4294967296 * (y % 4294967296) = B at *
  generalize x % 4294967296 * (y / 4294967296) = C at *
  generalize x % 4294967296 * (y % 4294967296) = D at *
  clear e ex ey xl yl xh yh hx hy
  rw [wu64_of (x := A) p1.1 (by omega), wu64_of (x := B) p2.1 (by omega), wu64_of (x := C) p3.1 (by omega), wu64_of (x := D) p4.1 (by omega)]
  rw [wu64_of (x := B + D / 4294967296) (by omega) (by omega)]
  rw [mask32m (x := B + D / 4294967296) (by omega) (by omega)]
  rw [wu64_of (x := (B + D / 4294967296) % 4294967296 + C) (by omega) (by omega)]
  rw [wu64_of (x := A + (B + D / 4294967296) / 4294967296) (by omega) (by omega)]
  rw [wu64_of (x := A + (B + D / 4294967296) / 4294967296 + _) (by omega) (by omega)]
  exact ⟨_, _, rfl, by rw [wu64]; omega, by omega, by rw [wu64]; omega⟩
theorem add0_of {x y : Int} (hx : 0 ≤ x ∧ x < 18446744073709551616) (hy : 0 ≤ y ∧ y < 18446744073709551616) :
    add64_s x y 0 + 18446744073709551616 * add64_c x y 0 = x + y ∧ (0 ≤ add64_s x y 0 ∧ add64_s x y 0 < 18446744073709551616) ∧ (add64_c x y 0 = 0 ∨ add64_c x y 0 = 1) := by
  unfold add64_s add64_c
  omega
theorem getD_set_ne {l : List Int} {i j : Nat} {v : Int} (h : i ≠ j) : (l.set i v).getD j 0 = l.getD j 0 := by
  rw [List.getD_eq_getElem?_getD, List.getElem?_set_ne h, ← List.getD_eq_getElem?_getD]
theorem school_key {W p t B x y c o s Q : Int} (h : s + B * Q = x * y + o + c) : p + W * (s - o) + W * B * (x * t + Q) = p + W * (x * (y + B * t) + c) := by
  have e9 : W * (x * (y + B * t) + c) = W * (x * y + o + c) - W * o + W * (B * (x * t)) := by grind
  rw [e9, ← h]
  grind
theorem school_digit {x y hi lo o c s1 q1 s2 q2 : Int} (hx : 0 ≤ x ∧ x < 18446744073709551616) (hy : 0 ≤ y ∧ y < 18446744073709551616) (h3 : 0 ≤ hi ∧ hi < 18446744073709551616) (e2 : hi * 18446744073709551616 + lo = x * y) (ho : 0 ≤ o ∧ o < 18446744073709551616) (hc : 0 ≤ c ∧ c < 18446744073709551616)
    (a1 : s1 + 18446744073709551616 * q1 = lo + o) (a3 : q1 = 0 ∨ q1 = 1) (b1 : s2 + 18446744073709551616 * q2 = s1 + c) (b2 : 0 ≤ s2) (b3 : q2 = 0 ∨ q2 = 1) :
    0 ≤ hi + q1 ∧ hi + q1 < 18446744073709551616 ∧ 0 ≤ hi + q1 + q2 ∧ hi + q1 + q2 < 18446744073709551616 ∧ s2 + 18446744073709551616 * (hi + q1 + q2) = x * y + o + c := by
  have hxy : x * y ≤ 18446744073709551615 * 18446744073709551615 := Int.mul_le_mul (by omega) (by omega) hy.1 (by omega)
  have h0 : (18446744073709551615 : Int) * 18446744073709551615 = 340282366920938463426481119284349108225 := by decide
  rw [h0] at hxy
  generalize x * y = z at *
  omega
theorem school_l1 (l0 l1 : List Int) (i : Nat) (x m : Int) (hx : 0 ≤ x ∧ x < 18446744073709551616) (d1 : Dig (b64 : Int) l1) {res : List Int} : ∀ (S P out : List Int) (c : Int), l1 = P ++ S → out.length ≤ 1000000 → i + l1.length < out.length → Dig (b64 : Int) out → 0 ≤ c ∧ c < 18446744073709551616 → out.getD (i + l1.length) 0 = 0 →
    (∀ out' : List Int, out'.length = out.length → Dig (b64 : Int) out' → (∀ j, i + l1.length < j → out'.getD j 0 = out.getD j 0) → val (b64 : Int) out' = val (b64 : Int) out + (b64 : Int) ^ (i + P.length) * (x * val (b64 : Int) S + c) →
      Evt (fun k => nat_school.l0 k l1 out' l0 m (wrap64 ((i : Int) + 1))) res) →
    Evt (fun k => nat_school.l1 k l1 out (i : Int) x c l0 m (i : Int) l1 (l1.length : Int) (P.length : Int)) res := by
  intro S
  induction S with
  | nil =>
    intro P out c hl hlen hfit dO hc h0 cont
    obtain rfl : l1 = P := by simpa using hl
    refine Evt.succ ?_
    simp only [nat_school.l1]
    rw [w64 (x := (i : Int) + (l1.length : Int)) (by omega) (by omega)]
    refine Evt.ite_neg (by omega) (Evt.ite_pos (by omega) (Evt.ite_pos (by omega) ?_))
    have e : ((i : Int) + (l1.length : Int)).toNat = i + l1.length := by omega
    rw [e]
    have hB : (b64 : Int) = 18446744073709551616 := rfl
    refine cont _ (by simp) (dO.set _ (by rw [hB]; exact hc)) (fun j hj => getD_set_ne (by omega)) ?_
    rw [val_set _ _ _ _ hfit, h0]
    simp [val]
  | cons y S ih =>
    intro P out c hl hlen hfit dO hc h0 cont
    have hB : (b64 : Int) = 18446744073709551616 := rfl
    have hll : l1.length = P.length + (S.length + 1) := by rw [hl]; simp
    have hy : 0 ≤ y ∧ y < 18446744073709551616 := by
      have := d1 y (by rw [hl]; simp)
      rwa [hB] at this
    refine Evt.succ ?_
    simp only [nat_school.l1]
    refine Evt.ite_pos (by omega) (Evt.ite_pos (by omega) (Evt.ite_pos (by omega) ?_))
    have er : rd l1 (P.length : Int) = y := by rw [rd_nat, hl]; simp
    rw [er]
    obtain ⟨hi, lo, e1, e2, h3, h4⟩ := bits_Mul64_eq hx hy
    refine Evt.bind (Evt.of fun _ => e1) ?_
    rw [w64 (x := (i : Int) + (P.length : Int)) (by omega) (by omega)]
    refine Evt.ite_pos (by omega) (Evt.ite_pos (by omega) (Evt.ite_pos (carry_of (Or.inl rfl)) ?_))
    rw [show (i : Int) + (P.length : Int) = ((i + P.length : Nat) : Int) from by omega, rd_nat, Int.toNat_natCast]
    have ho := dO.getD b64_pos (i + P.length)
    rw [hB] at ho
    generalize hO : out.getD (i + P.length) 0 = o at *
    obtain ⟨a1, a2, a3⟩ := add0_of h4 ho
    generalize add64_s lo o 0 = s1 at *
    generalize add64_c lo o 0 = q1 at *
    obtain ⟨b1, b2, b3⟩ := add0_of a2 hc
    generalize add64_s s1 c 0 = s2 at *
    generalize add64_c s1 c 0 = q2 at *
    obtain ⟨k0, hq1, k1, hq2, k2⟩ := school_digit hx hy h3 e2 ho hc a1 a3 b1 b2.1 b3
    rw [wu64_of (x := hi + q1) k0 hq1, wu64_of (x := hi + q1 + q2) k1 hq2, w64 (x := (P.length : Int) + 1) (by omega) (by omega)]
    have h := ih (P ++ [y]) (out.set (i + P.length) s2) (hi + q1 + q2) (by rw [hl]; simp) (by simpa using hlen) (by simpa using hfit) (dO.set _ (by rw [hB]; exact b2)) ⟨k1, hq2⟩ (by rw [getD_set_ne (by omega)]; exact h0) ?_
    · rw [show ((P ++ [y]).length : Int) = (P.length : Int) + 1 from by simp] at h
      exact h
    · intro out' hl' d' hj' hv
      refine cont out' (by rw [hl']; simp) d' (fun j hj => by rw [hj' j hj, getD_set_ne (by omega)]) ?_
      rw [hv, val_set _ _ _ _ (by omega), hO, List.length_append, List.length_singleton, ← Nat.add_assoc, Int.pow_succ]
      simp only [val]
      exact school_key (by rw [hB]; exact k2)
theorem school_l0 (l0 l1 : List Int) (h0 : l0.length ≤ 100000) (h1 : l1.length ≤ 100000) (d0 : Dig (b64 : Int) l0) (d1 : Dig (b64 : Int) l1) (n : Nat) : ∀ (i : Nat) (out : List Int), i + n = l0.length → out.length = l0.length + l1.length → Dig (b64 : Int) out → (∀ j, i + l1.length ≤ j → out.getD j 0 = 0) → val (b64 : Int) out = val (b64 : Int) (l0.take i) * val (b64 : Int) l1 →
    Evt (fun k => nat_school.l0 k l1 out l0 (l0.length : Int) (i : Int)) (limbs (num l0 * num l1)) := by
  induction n with
  | zero =>
    intro i out hi hl dO _ hv
    refine Evt.succ ?_
    simp only [nat_school.l0]
    refine Evt.ite_neg (by omega) ?_
    refine Evt.bind (nat_trim_ev out (by simp [maxLen]; omega)) ?_
    rw [strip_limbs dO]
    have e : num out = num l0 * num l1 := by
      have e1 := num_val dO
      rw [hv, List.take_of_length_le (by omega), ← num_val d0, ← num_val d1, ← Int.natCast_mul] at e1
      omega
    rw [e]
    exact Evt.pure _
  | succ n ih =>
    intro i out hi hl dO hz hv
    have hil : i < l0.length := by omega
    refine Evt.succ ?_
    simp only [nat_school.l0]
    refine Evt.ite_pos (by omega) (Evt.ite_pos (by omega) (Evt.ite_pos (by omega) ?_))
    rw [rd_nat]
    have hx := d0.getD b64_pos i
    have hx' : 0 ≤ l0.getD i 0 ∧ l0.getD i 0 < 18446744073709551616 := hx
    have hg : l0.getD i 0 = l0[i] := by simp [hil]
    refine school_l1 l0 l1 i (l0.getD i 0) (l0.length : Int) hx' d1 l1 [] out 0 rfl (by omega) (by omega) dO (by omega) (hz _ (Nat.le_refl _)) ?_
    intro out' hl' d' hj' hv'
    rw [w64 (by omega) (by omega)]
    refine ih (i + 1) out' (by omega) (by omega) d' (fun j hj => by rw [hj' j (by omega), hz j (by omega)]) ?_
    rw [hv', hv, val_take_step _ _ _ hil, ← hg]
    simp only [List.length_nil, Nat.add_zero, Int.add_zero]
    grind
theorem nat_school_ev (l0 l1 : List Int) (h0 : l0.length ≤ 100000) (h1 : l1.length ≤ 100000) (d0 : Dig (b64 : Int) l0) (d1 : Dig (b64 : Int) l1) : Evt (fun k => nat_school.f k l0 l1) (limbs (num l0 * num l1)) := by
  unfold nat_school.f
  rw [w64 (by omega) (by omega), show ((l0.length : Int) + (l1.length : Int)).toNat = l0.length + l1.length from by omega]
  refine Evt.ite_pos (by omega) (Evt.ite_pos (by omega) ?_)
  refine school_l0 l0 l1 h0 h1 d0 d1 l0.length 0 _ (by omega) (by simp) (Dig.replicate b64_pos _) (fun j _ => ?_) ?_
  · rw [List.getD_eq_getElem?_getD, List.getElem?_replicate]
    split <;> rfl
  · rw [val_replicate]
    simp [val]
def shlV (a : List Int) (n : Int) : List Int × Int :=
  if rightB a = true ∧ 0 ≤ n then (if a.length = 0 then ([], 0) else if 4096 < n then ([], 4) else toldV (num a * 2 ^ n.toNat)) else ([], 1)
theorem num_zeros_append {r : List Int} (d : Dig (b64 : Int) r) (m : Nat) : Dig (b64 : Int) (List.replicate m 0 ++ r) ∧ num (List.replicate m 0 ++ r) = b64 ^ m * num r := by
  have d2 : Dig (b64 : Int) (List.replicate m 0 ++ r) := Dig.append.2 ⟨Dig.replicate b64_pos m, d⟩
  refine ⟨d2, ?_⟩
  have h := num_val d2
  rw [val_append, val_replicate, List.length_replicate, ← num_val d, pow_cast] at h
  have : ((b64 ^ m : Nat) : Int) * (num r : Int) = ((b64 ^ m * num r : Nat) : Int) := by simp
  omega
theorem nat_Shl_ev (a : List Int) (n : Int) (ha : a.length ≤ maxLen) (da : Dig (b64 : Int) a) : Evt (fun k => nat_Shl.f k a n) (shlV a n) := by
  unfold nat_Shl.f shlV
  rw [nat_Right_eq ha]
  simp only [Option.bind_some]
  have J : ∀ x : Bool, (x = false → rightB a = true ∧ 0 ≤ n) → Evt (fun k => nat_Shl.j0 k a n x) (if x = true then ([], 1) else if a.length = 0 then ([], 0) else if 4096 < n then ([], 4) else toldV (num a * 2 ^ n.toNat)) := by
    intro x hx
    refine Evt.succ ?_
    simp only [nat_Shl.j0]
    refine Evt.cond (fun _ => Evt.pure _) (fun hc => ?_)
    have h := hx (by simpa using hc)
    obtain ⟨h1, c1⟩ := (rightB_iff a).1 h.1
    by_cases h0 : a.length = 0
    · rw [if_pos h0]; exact Evt.ite_pos (by omega) (Evt.pure _)
    · rw [if_neg h0]
      refine Evt.ite_neg (by omega) ?_
      by_cases hn : 4096 < n
      · rw [if_pos hn]; exact Evt.ite_pos (by omega) (Evt.pure _)
      · rw [if_neg hn]
        refine Evt.ite_neg (by omega) ?_
        obtain ⟨m, rfl⟩ := Int.eq_ofNat_of_zero_le h.2
        have e1 : Int.tdiv (m : Int) 64 = ((m / 64 : Nat) : Int) := by rw [Int.tdiv_eq_ediv_of_nonneg (by omega)]; omega
        have e2 : IntKind.u64.wrap (Int.tmod (m : Int) 64) = ((m % 64 : Nat) : Int) := by
          rw [Int.tmod_eq_emod_of_nonneg (by omega), wu64_of (by omega) (by omega)]; omega
        rw [e1, e2, w64 (show -9223372036854775808 ≤ ((m / 64 : Nat) : Int) by omega) (by omega)]
        refine Evt.ite_pos (by omega) (Evt.ite_pos (by omega) ?_)
        refine Evt.bind (Evt.pure _) ?_
        obtain ⟨r, g1, g2, g3, g4⟩ := nat_up_ev a da (by omega) (m % 64) (by omega)
        refine Evt.bind g1 ?_
        rw [Int.toNat_natCast, Int.toNat_natCast]
        refine Evt.ite_pos (by simp; omega) ?_
        obtain ⟨d2, k2⟩ := num_zeros_append g2 (m / 64)
        have h5 := nat_told_ev (List.replicate (m / 64) 0 ++ r) (by simp; omega) d2
        have e3 : b64 ^ (m / 64) * num r = num a * 2 ^ m := by
          rw [g4]
          rw [b64_pow2, Nat.mul_left_comm, ← Nat.pow_add, show 64 * (m / 64) + m % 64 = m from by omega]
        rw [k2, e3] at h5
        exact Evt.bind h5 (h := fun t _ => some (t.1, t.2)) (Evt.pure _)
  cases hA : rightB a with
  | true =>
    refine Evt.ite_pos rfl ((J _ (fun h => ⟨hA, by simpa using h⟩)).congr (fun k => rfl) ?_)
    by_cases hn : n < 0
    · rw [decide_eq_true hn, if_pos rfl, if_neg (show ¬ (true = true ∧ 0 ≤ n) by omega)]
    · rw [decide_eq_false hn, if_neg (by simp), if_pos (show true = true ∧ 0 ≤ n from ⟨rfl, by omega⟩)]
  | false =>
    refine Evt.ite_neg (by simp) ((J _ (fun h => by simp at h)).congr (fun k => rfl) ?_)
    simp
theorem len8 : ∀ n : Fin 256, bt (⟨#[0, 1, 2, 2, 3, 3, 3, 3, 4, 4, 4, 4, 4, 4, 4, 4, 5, 5, 5, 5, 5, 5, 5, 5, 5, 5, 5, 5, 5, 5, 5, 5, 6, 6, 6, 6, 6, 6, 6, 6, 6, 6, 6, 6, 6, 6, 6, 6, 6, 6, 6, 6, 6, 6, 6, 6, 6, 6, 6, 6, 6, 6, 6, 6, 7, 7, 7, 7, 7, 7, 7, 7, 7, 7, 7, 7, 7, 7, 7, 7, 7, 7, 7, 7, 7, 7, 7, 7, 7, 7, 7, 7, 7, 7, 7, 7, 7, 7, 7, 7, 7, 7, 7, 7, 7, 7, 7, 7, 7, 7, 7, 7, 7, 7, 7, 7, 7, 7, 7, 7, 7, 7, 7, 7, 7, 7, 7, 7, 8, 8, 8, 8, 8, 8, 8, 8, 8, 8, 8, 8, 8, 8, 8, 8, 8, 8, 8, 8, 8, 8, 8, 8, 8, 8, 8, 8, 8, 8, 8, 8, 8, 8, 8, 8, 8, 8, 8, 8, 8, 8, 8, 8, 8, 8, 8, 8, 8, 8, 8, 8, 8, 8, 8, 8, 8, 8, 8, 8, 8, 8, 8, 8, 8, 8, 8, 8, 8, 8, 8, 8, 8, 8, 8, 8, 8, 8, 8, 8, 8, 8, 8, 8, 8, 8, 8, 8, 8, 8, 8, 8, 8, 8, 8, 8, 8, 8, 8, 8, 8, 8, 8, 8, 8, 8, 8, 8, 8, 8, 8, 8, 8, 8, 8, 8, 8, 8, 8, 8, 8, 8, 8, 8, 8, 8, 8, 8]⟩ : ByteArray) ((n.val : Nat) : Int) = ((bl n.val : Nat) : Int) := by decide +kernel
theorem len8_at {x : Int} (h0 : 0 ≤ x) (h1 : x < 256) : bt (⟨#[0, 1, 2, 2, 3, 3, 3, 3, 4, 4, 4, 4, 4, 4, 4, 4, 5, 5, 5, 5, 5, 5, 5, 5, 5, 5, 5, 5, 5, 5, 5, 5, 6, 6, 6, 6, 6, 6, 6, 6, 6, 6, 6, 6, 6, 6, 6, 6, 6, 6, 6, 6, 6, 6, 6, 6, 6, 6, 6, 6, 6, 6, 6, 6, 7, 7, 7, 7, 7, 7, 7, 7, 7, 7, 7, 7, 7, 7, 7, 7, 7, 7, 7, 7, 7, 7, 7, 7, 7, 7, 7, 7, 7, 7, 7, 7, 7, 7, 7, 7, 7, 7, 7, 7, 7, 7, 7, 7, 7, 7, 7, 7, 7, 7, 7, 7, 7, 7, 7, 7, 7, 7, 7, 7, 7, 7, 7, 7, 8, 8, 8, 8, 8, 8, 8, 8, 8, 8, 8, 8, 8, 8, 8, 8, 8, 8, 8, 8, 8, 8, 8, 8, 8, 8, 8, 8, 8, 8, 8, 8, 8, 8, 8, 8, 8, 8, 8, 8, 8, 8, 8, 8, 8, 8, 8, 8, 8, 8, 8, 8, 8, 8, 8, 8, 8, 8, 8, 8, 8, 8, 8, 8, 8, 8, 8, 8, 8, 8, 8, 8, 8, 8, 8, 8, 8, 8, 8, 8, 8, 8, 8, 8, 8, 8, 8, 8, 8, 8, 8, 8, 8, 8, 8, 8, 8, 8, 8, 8, 8, 8, 8, 8, 8, 8, 8, 8, 8, 8, 8, 8, 8, 8, 8, 8, 8, 8, 8, 8, 8, 8, 8, 8, 8, 8, 8, 8]⟩ : ByteArray) x = ((bl x.toNat : Nat) : Int) := by
  obtain ⟨n, rfl⟩ := Int.eq_ofNat_of_zero_le h0
  exact len8 ⟨n, by omega⟩
theorem len64_j {x : Int} (h0 : 0 ≤ x) (h1 : x < 4294967296) (c : Int) (hc : 0 ≤ c ∧ c ≤ 1000) : Evt (fun k => bits_Len64.j0 k x c) (c + ((bl x.toNat : Nat) : Int)) := by
  have key : ∀ (s : Nat) (y : Int), 0 ≤ y → y < 256 → (s ≤ 24) → (y = 0 → s = 0) → y = x / 2 ^ s → ((bl x.toNat : Nat) : Int) = (s : Int) + ((bl y.toNat : Nat) : Int) := by
    intro s y hy0 hy1 hs hz he
    have : bl x.toNat = s + bl y.toNat := by
      by_cases h : y = 0
      · have hs0 := hz h
        subst hs0
        simp at he
        rw [he, Nat.zero_add]
      · have e : y.toNat = x.toNat / 2 ^ s := by
          rw [he]
          have h2 : x = ((x.toNat : Nat) : Int) := by omega
          rw [h2]
          have h3 : ((2 : Int) ^ s) = ((2 ^ s : Nat) : Int) := by simp
          rw [h3, ← Int.natCast_ediv, Int.toNat_natCast, Int.toNat_natCast]
        rw [e]
        exact bl_shift x.toNat s (by rw [← e]; omega)
    omega
  refine Evt.succ ?_
  simp only [bits_Len64.j0]
  by_cases c1 : x ≥ 65536
  · refine Evt.ite_pos c1 ?_
    by_cases c2 : x / 65536 ≥ 256
    · refine Evt.ite_pos c2 (Evt.ite_pos (by omega) (Evt.ite_pos (by omega) ?_))
      have e : x / 65536 / 256 % 256 = x / 65536 / 256 := by omega
      rw [e, len8_at (by omega) (by omega)]
      have k1 := key 24 (x / 65536 / 256) (by omega) (by omega) (by omega) (by omega) (by rw [Int.ediv_ediv_of_nonneg (by omega)]; rfl)
      have k2 := bl_le8 (x := (x / 65536 / 256).toNat) (by omega)
      rw [w64 (show -9223372036854775808 ≤ c + 16 by omega) (by omega), w64 (show -9223372036854775808 ≤ c + 16 + 8 by omega) (by omega), w64 (show -9223372036854775808 ≤ ((bl (x / 65536 / 256).toNat : Nat) : Int) by omega) (by omega), w64 (by omega) (by omega), k1]
      refine (Evt.pure _).congr (fun k => rfl) (by omega)
    · refine Evt.ite_neg c2 (Evt.ite_pos (by omega) (Evt.ite_pos (by omega) ?_))
      have e : x / 65536 % 256 = x / 65536 := by omega
      rw [e, len8_at (by omega) (by omega)]
      have k1 := key 16 (x / 65536) (by omega) (by omega) (by omega) (by omega) rfl
      have k2 := bl_le8 (x := (x / 65536).toNat) (by omega)
      rw [w64 (show -9223372036854775808 ≤ c + 16 by omega) (by omega), w64 (show -9223372036854775808 ≤ ((bl (x / 65536).toNat : Nat) : Int) by omega) (by omega), w64 (by omega) (by omega), k1]
      refine (Evt.pure _).congr (fun k => rfl) (by omega)
  · refine Evt.ite_neg c1 ?_
    by_cases c2 : x ≥ 256
    · refine Evt.ite_pos c2 (Evt.ite_pos (by omega) (Evt.ite_pos (by omega) ?_))
      have e : x / 256 % 256 = x / 256 := by omega
      rw [e, len8_at (by omega) (by omega)]
      have k1 := key 8 (x / 256) (by omega) (by omega) (by omega) (by omega) rfl
      have k2 := bl_le8 (x := (x / 256).toNat) (by omega)
      rw [w64 (show -9223372036854775808 ≤ c + 8 by omega) (by omega), w64 (show -9223372036854775808 ≤ ((bl (x / 256).toNat : Nat) : Int) by omega) (by omega), w64 (by omega) (by omega), k1]
      refine (Evt.pure _).congr (fun k => rfl) (by omega)
    · refine Evt.ite_neg c2 (Evt.ite_pos (by omega) (Evt.ite_pos (by omega) ?_))
      have e : x % 256 = x := by omega
      rw [e, len8_at (by omega) (by omega)]
      have k2 := bl_le8 (x := x.toNat) (by omega)
      rw [w64 (show -9223372036854775808 ≤ ((bl x.toNat : Nat) : Int) by omega) (by omega), w64 (by omega) (by omega)]
      exact Evt.pure _
theorem bits_Len64_ev {x : Int} (h0 : 0 ≤ x) (h1 : x < 18446744073709551616) : Evt (fun k => bits_Len64.f k x) ((bl x.toNat : Nat) : Int) := by
  unfold bits_Len64.f
  by_cases c1 : x ≥ 4294967296
  · refine Evt.ite_pos c1 ?_
    refine (len64_j (x := x / 4294967296) (by omega) (by omega) 32 (by omega)).congr (fun k => rfl) ?_
    have e : (x / 4294967296).toNat = x.toNat / 2 ^ 32 := by omega
    have := bl_shift x.toNat 32 (by omega)
    rw [e]
    omega
  · refine Evt.ite_neg c1 ?_
    exact (len64_j (x := x) (by omega) (by omega) 0 (by omega)).congr (fun k => rfl) (by omega)
end Go.Proofs.Ytnaphgnkhhapoab.Z
end
