/- Proved: the law FixencPacks of layer 7: any two whole numbers in one, as the document says; for every input, without a condition. -/
import Derived.Test.YtgeanpnkllnipabMFixencPacksd
import Derived.Laws.BitsLemmas
import Derived.Deep.RegionHeld3

section
namespace Go.Proofs.Ytgeanpnkllnipab.F
open Go.RowKit Go.Proofs.YtgeanpnkllnipabW.PrintWords Go.Proofs.YtgeanpnkllnipabW.PrintLast Go.Proofs.YtgeanpnkllnipabW.PrintMore
attribute [local go_sem] max2_int min2_int max_two min_two max_three min_three max_four min_four
set_option linter.unusedVariables false
set_option linter.unusedSimpArgs false

def windbreakref07_half.f (k : Nat) (l0 : List Int) : Option (List Int) := (windbreakref01_Of.f 1).bind fun t883 => ((windbreakref01_Sub.f k l0 t883).bind fun bt886 => ((windbreakref01_Shr.f k bt886.1 1).bind fun bt890 => (some bt890.1)))
set_option maxHeartbeats 8000000 in
set_option maxRecDepth 100000 in
theorem windbreakref07_half.calls (k : Nat) (A0 : Option Addr) (c0 : Nat) (l0 : List Int) (r : List Int) (w : World) (hr0 : Kd.C (Kd.int .u64) w A0 l0.length l0) (hc0 : l0.length ≤ c0) (h : windbreakref07_half.f k l0 = some r) :
  Calls Try.prog 73 #[.slice A0 l0.length c0] w fun e w' => ∃ v0_ : Value, e = .returned (v0_) ∧ Kd.R (Kd.int .u64) 27 w' w.heap.size (fun _ => True) v0_ r ∧ Below w.heap.size w w' := by
 have HR0 := Aside0.mk hr0; have HC0 := Aside0.mk hc0; clear hr0 hc0
 have HB := Aside0.mk (Below.refl w.heap.size w)
 have H : ((windbreakref01_Of.f 1).bind fun t883 => ((windbreakref01_Sub.f k l0 t883).bind fun bt886 => ((windbreakref01_Shr.f k bt886.1 1).bind fun bt890 => (some bt890.1)))) = some r := h
 clear h
 replace H := Option.bind_eq_some_iff.mp H
 obtain ⟨t883, A20, H⟩ := H
 replace H : ((windbreakref01_Sub.f k l0 t883).bind fun bt886 => ((windbreakref01_Shr.f k bt886.1 1).bind fun bt890 => (some bt890.1))) = some r := H
 have A2 := Aside0.mk A20; clear A20
 replace H := Option.bind_eq_some_iff.mp H
 obtain ⟨⟨t886, t887⟩, A30, H⟩ := H
 replace H : ((windbreakref01_Shr.f k t886 1).bind fun bt890 => (some bt890.1)) = some r := H
 have A3 := Aside0.mk A30; clear A30
 replace H := Option.bind_eq_some_iff.mp H
 obtain ⟨⟨t890, t891⟩, A40, H⟩ := H
 replace H : (some t890) = some r := H
 have A4 := Aside0.mk A40; clear A40
 obtain rfl := Option.some.inj H
 go_enter Try.func73, Try.ntmps73
 go_wp2_with (first | ((with_reducible refine gate_callee (f := 94) rfl ?_); refine goesL_ (some 9) rfl rfl Try.func94 (by kernel_rfl) rfl #[.int .u64 1] rfl uM ?_; (with_reducible refine (windbreakref01_Of.calls 1 t883 _ A2.out).mono ?_); rintro e w5 ⟨v884, rfl, ho0, hb⟩; refine ⟨_, rfl, ?_⟩; have n0_ := Aside0.mk (Kd.R_lower ho0 (below_size uB)); have n1_ := Aside0.mk (below_step uB hb); clear HB; have HO885 := n0_; have HB := n1_; clear n0_ n1_; (try clear hb); (try clear hb2); (try clear hk); (try clear hi); (try clear ho0); obtain ⟨Ao6, co6, eo6⟩ := Kd.R_slice HO885.out; subst eo6) | ((with_reducible refine gate_callee (f := 105) rfl ?_); refine goesL_ (some 10) rfl rfl Try.func105 (by kernel_rfl) rfl #[.slice A0 l0.length c0, .slice Ao6 t883.length co6] rfl uM ?_; (with_reducible refine (windbreakref01_Sub.calls k _ _ l0 _ _ t883 t886 t887 _ ?side1 ?side2 ?side3 ?side4 A3.out).mono ?_); (case side1 => exact uC (Kd.C_below HR0.out HB.out)); (case side2 => exact HC0.out); (case side3 => exact uC (Kd.R_reads' HO885.out).2.2); (case side4 => exact (Kd.R_reads' HO885.out).2.1); rintro e w7 ⟨v888, rfl, ho0, hb⟩; refine ⟨_, rfl, ?_⟩; have n0_ := Aside0.mk (Kd.R_elder' (uR HO885.out) (Kd.R_base ho0) hb); have n1_ := Aside0.mk (Kd.R_lower (Kd.R_new' ho0 (Kd.R_lt (uR HO885.out))) (below_size uB)); have n2_ := Aside0.mk (below_step uB hb); clear HO885; clear HB; have HO885 := n0_; have HO889 := n1_; have HB := n2_; clear n0_ n1_ n2_; (try clear hb); (try clear hb2); (try clear hk); (try clear hi); (try clear ho0); obtain ⟨Ao8, co8, eo8⟩ := Kd.R_slice HO889.out; subst eo8) | ((with_reducible refine gate_callee (f := 93) rfl ?_); refine goesL_ (some 15) rfl rfl Try.func93 (by kernel_rfl) rfl #[.slice Ao8 t886.length co8, .int .i64 1] rfl uM ?_; (with_reducible refine (windbreakref01_Shr.calls k _ _ t886 1 t890 t891 _ ?side1 ?side2 A4.out).mono ?_); (case side1 => exact uC (Kd.R_reads' HO889.out).2.2); (case side2 => exact (Kd.R_reads' HO889.out).2.1); rintro e w9 ⟨v892, rfl, ho0, hb⟩; refine ⟨_, rfl, ?_⟩; have n0_ := Aside0.mk (Kd.R_elder' (uR HO885.out) (Kd.R_base ho0) hb); have n1_ := Aside0.mk (Kd.R_elder' (uR HO889.out) (Kd.R_base ho0) hb); have n2_ := Aside0.mk (Kd.R_lower (Kd.R_new' (Kd.R_new' ho0 (Kd.R_lt (uR HO885.out))) (Kd.R_lt (uR HO889.out))) (below_size uB)); have n3_ := Aside0.mk (below_step uB hb); clear HO885; clear HO889; clear HB; have HO885 := n0_; have HO889 := n1_; have HO893 := n2_; have HB := n3_; clear n0_ n1_ n2_ n3_; (try clear hb); (try clear hb2); (try clear hk); (try clear hi); (try clear ho0)))
 go_ret
 exact ⟨_, by first | rfl | (simp [errW_none, errW_some] <;> rfl) | (simp [*, errW_none, errW_some] <;> rfl), by (with_reducible repeat (first | apply Kd.R_alloc | apply Kd.R_drewN | apply Kd.R_drew)); exact Kd.R_mono HO893.out (fun _ hk => trivial), uB⟩

end Go.Proofs.Ytgeanpnkllnipab.F
end

section
namespace Go.Proofs.Ytgeanpnkllnipab.F
open Go.RowKit Go.Proofs.YtgeanpnkllnipabW.PrintWords Go.Proofs.YtgeanpnkllnipabW.PrintLast Go.Proofs.YtgeanpnkllnipabW.PrintMore
attribute [local go_sem] max2_int min2_int max_two min_two max_three min_three max_four min_four
set_option linter.unusedVariables false
set_option linter.unusedSimpArgs false

def windbreakref07_Encode.j0 : Nat → List Int → Bool → Bool → List Int → Option (List Int × Int)
 | 0, _, _, _, _ => none
 | k + 1, x0, x17, x895000, x895001 => if x17 = true then (some (([] : List Int), 1)) else ((windbreakref07_half.f k x0).bind fun t897 => ((windbreakref01_Cmp.f k x895001 t897).bind fun t900 => (if t900 > 0 then (some (([] : List Int), 12)) else (if x895000 = true then ((windbreakref01_Sub.f k x0 x895001).bind fun bt901 => (some (bt901.1, bt901.2))) else ((some (([] : List Int) : List Int)).bind fun y905 => (if y905.length + x895001.length < 17592186044416 then (some ((y905 ++ x895001), 0)) else (none)))))))
def windbreakref07_Encode.f (k : Nat) (l0 : List Int) (a1_0 : Bool) (l1_1 : List Int) : Option (List Int × Int) := (windbreakref07_May.f k l0).bind fun t895 => ((windbreakref03_Right.f a1_0 l1_1).bind fun t896 => (if t895 = true then (windbreakref07_Encode.j0 k l0 (!t896) a1_0 l1_1) else (windbreakref07_Encode.j0 k l0 true a1_0 l1_1)))
set_option maxHeartbeats 8000000 in
set_option maxRecDepth 100000 in
theorem windbreakref07_Encode.calls (k : Nat) (A0 : Option Addr) (c0 : Nat) (l0 : List Int) (a1_0 : Bool) (A1_1 : Option Addr) (c1_1 : Nat) (l1_1 : List Int) (r1 : List Int) (r2 : Int) (w : World) (hr0 : Kd.C (Kd.int .u64) w A0 l0.length l0) (hc0 : l0.length ≤ c0) (hr1_1 : Kd.C (Kd.int .u64) w A1_1 l1_1.length l1_1) (hc1_1 : l1_1.length ≤ c1_1) (h : windbreakref07_Encode.f k l0 a1_0 l1_1 = some (r1, r2)) :
  Calls Try.prog 65 #[.slice A0 l0.length c0, .agg #[.bool a1_0, .slice A1_1 l1_1.length c1_1]] w fun e w' => ∃ v0_ : Value, e = .returned (.tuple #[v0_, .int .i64 r2]) ∧ Kd.R (Kd.int .u64) 27 w' w.heap.size (fun _ => True) v0_ r1 ∧ Below w.heap.size w w' := by
 have hu52 := Try.underlying52
 have HR0 := Aside0.mk hr0; have HC0 := Aside0.mk hc0; clear hr0 hc0; have HR1_1 := Aside0.mk hr1_1; have HC1_1 := Aside0.mk hc1_1; clear hr1_1 hc1_1
 have HB := Aside0.mk (Below.refl w.heap.size w)
 have H : ((windbreakref07_May.f k l0).bind fun t895 => ((windbreakref03_Right.f a1_0 l1_1).bind fun t896 => (if t895 = true then (windbreakref07_Encode.j0 k l0 (!t896) a1_0 l1_1) else (windbreakref07_Encode.j0 k l0 true a1_0 l1_1)))) = some (r1, r2) := h
 clear h
 replace H := Option.bind_eq_some_iff.mp H
 obtain ⟨t895, A30, H⟩ := H
 replace H : ((windbreakref03_Right.f a1_0 l1_1).bind fun t896 => (if t895 = true then (windbreakref07_Encode.j0 k l0 (!t896) a1_0 l1_1) else (windbreakref07_Encode.j0 k l0 true a1_0 l1_1))) = some (r1, r2) := H
 have A3 := Aside0.mk A30; clear A30
 replace H := Option.bind_eq_some_iff.mp H
 obtain ⟨t896, A40, H⟩ := H
 replace H : (if t895 = true then (windbreakref07_Encode.j0 k l0 (!t896) a1_0 l1_1) else (windbreakref07_Encode.j0 k l0 true a1_0 l1_1)) = some (r1, r2) := H
 have A4 := Aside0.mk A40; clear A40; have HC5 := Aside0.mk H; clear H
 go_enter Try.func65, Try.ntmps65
 go_upto_region 3 with (first | ((with_reducible refine gate_dst (N := 3) rfl ?_); refine box_event ?hg (N := 3) ?hd (cs := #[.bool a1_0, .slice A1_1 l1_1.length c1_1]) (t := 52) ?hr ?_; (case hd => rfl); (case hg => rfl); (case hr => first | (go_simp; done) | (go_simp; rfl)); intro gb894 hg w6 hbox hb; have n0_ := Aside0.mk (below_step uB hb); have n1_ := Aside0.mk (hbox); have n2_ := Aside0.mk ((by rw [hg]; exact (below_size uB) : w.heap.size ≤ gb894)); have n3_ := Aside0.mk ((by rw [hg]; exact (below_size uB) : w.heap.size ≤ gb894)); clear HB; have HB := n0_; have BK894 := n1_; have GW894 := n2_; have GE894 := n3_; clear n0_ n1_ n2_ n3_; clear hb hbox hg) | ((with_reducible refine gate_callee (f := 59) rfl ?_); refine goesL_ (some 9) rfl rfl Try.func59 (by kernel_rfl) rfl #[.slice A0 l0.length c0] rfl uM ?_; (with_reducible refine (windbreakref07_May.calls k _ _ l0 t895 _ ?side1 ?side2 A3.out).mono ?_); (case side1 => exact uC (Kd.C_below HR0.out HB.out)); (case side2 => exact HC0.out); rintro e w7 ⟨rfl, hb⟩; refine ⟨_, rfl, ?_⟩; have n0_ := Aside0.mk (blk_below (uK BK894.out) hb); have n1_ := Aside0.mk (below_step uB hb); clear BK894; clear HB; have BK894 := n0_; have HB := n1_; clear n0_ n1_; (try clear hb); (try clear hb2); (try clear hk); (try clear hi); have hcz8_0 : w7.cell? ⟨gb894, 0, none⟩ = some (.bool a1_0) := (blk_cell BK894.out 0).trans rfl; have hcz8_1 : w7.cell? ⟨gb894, 1, none⟩ = some (.slice A1_1 l1_1.length c1_1) := (blk_cell BK894.out 1).trans rfl; have hfz8_0 := blk_frozen BK894.out 0; have hfz8_1 := blk_frozen BK894.out 1) | ((with_reducible refine gate_callee (f := 103) rfl ?_); refine goesL_ (some 11) rfl rfl Try.func103 (by kernel_rfl) rfl #[.agg #[.bool a1_0, .slice A1_1 l1_1.length c1_1]] rfl uM ?_; (with_reducible refine (windbreakref03_Right.calls a1_0 _ _ l1_1 t896 _ ?side1 ?side2 A4.out).mono ?_); (case side1 => exact uC (Kd.C_below HR1_1.out HB.out)); (case side2 => exact HC1_1.out); rintro e w9 ⟨rfl, hb⟩; refine ⟨_, rfl, ?_⟩; have n0_ := Aside0.mk (blk_below (uK BK894.out) hb); have n1_ := Aside0.mk (below_step uB hb); clear BK894; clear HB; have BK894 := n0_; have HB := n1_; clear n0_ n1_; (try clear hb); (try clear hb2); (try clear hk); (try clear hi)))
 (try simp only [Act.put, List.setIfInBounds_toArray, List.set_cons_zero, List.set_cons_succ])
 go_cut [17] (fun v17 wc => ∃ (kq : Nat) (x17_4 : Bool), v17 = .bool x17_4 ∧ Aside0 (windbreakref07_Encode.j0 kq l0 x17_4 a1_0 l1_1 = some (r1, r2)) ∧ Aside0 (kq ≤ k) ∧ Aside0 (wc.heap[gb894]? = some (.cells #[.bool a1_0, (.slice A1_1 l1_1.length c1_1)] 52 (0, 0))) ∧ Aside0 (Below w.heap.size w wc))
 case first =>
  have H := HC5.out
  clear HC5
  by_cases c10 : t895 = true
  ·
   subst c10
   have H1 : (windbreakref07_Encode.j0 k l0 (!t896) a1_0 l1_1) = some (r1, r2) := by rw [if_pos rfl] at H; exact H
   clear H; have H := H1; clear H1
   have H' := Aside0.mk H
   clear H
   go_wp2
   go_meet
   case rel => exact ⟨_, (!t896), (by first | rfl | (simp; done) | (simp [*]; done)), H', ⟨by first | omega | exact Nat.le_refl _⟩, ⟨uK BK894.out⟩, ⟨uB⟩⟩
  ·
   replace c10 := Bool.eq_false_iff.mpr c10
   subst c10
   have H1 : (windbreakref07_Encode.j0 k l0 true a1_0 l1_1) = some (r1, r2) := by rw [if_neg (show ¬ (false = true) by decide)] at H; exact H
   clear H; have H := H1; clear H1
   have H' := Aside0.mk H
   clear H
   go_wp2
   go_meet
   case rel => exact ⟨_, (true), (by first | rfl | (simp; done) | (simp [*]; done)), H', ⟨by first | omega | exact Nat.le_refl _⟩, ⟨uK BK894.out⟩, ⟨uB⟩⟩
 case rest =>
  clear HC5
  try clear c1
  try clear p2
  try clear c5
  try clear c6
  try clear c10
  try clear hcz8_0
  try clear hcz8_1
  try clear hfz8_0
  try clear hfz8_1
  obtain ⟨kq, x17_4, rfl, HA, HJ4, BK894, HB⟩ := hcut
  cases kq with
  | zero => exact absurd HA.out (by simp [windbreakref07_Encode.j0])
  | succ kj4 =>
   have H := HA.out
   clear HA
   simp only [windbreakref07_Encode.j0] at H
   by_cases c11 : x17_4 = true
   ·
    subst c11
    have H1 : (some (([] : List Int), 1)) = some (r1, r2) := by rw [if_pos rfl] at H; exact H
    clear H; have H := H1; clear H1
    simp only [Option.some.injEq, Prod.mk.injEq] at H
    obtain ⟨rfl, rfl⟩ := H
    go_wp2
    go_ret2
    exact ⟨_, by first | rfl | (simp [errW_none, errW_some] <;> rfl) | (simp [*, errW_none, errW_some] <;> rfl), by first | exact Kd.R_nil _ _ _ _ _ | exact Kd.N_nil _ _ _ _ _ | exact Kd.V_nil _ _ _ _ _ | exact Kd.Q_nil _ _ _ _ _ | exact Kd.S_nil _ _ _ _ _, uB⟩
   ·
    replace c11 := Bool.eq_false_iff.mpr c11
    subst c11
    have H1 : ((windbreakref07_half.f kj4 l0).bind fun t897 => ((windbreakref01_Cmp.f kj4 l1_1 t897).bind fun t900 => (if t900 > 0 then (some (([] : List Int), 12)) else (if a1_0 = true then ((windbreakref01_Sub.f kj4 l0 l1_1).bind fun bt901 => (some (bt901.1, bt901.2))) else ((some (([] : List Int) : List Int)).bind fun y905 => (if y905.length + l1_1.length < 17592186044416 then (some ((y905 ++ l1_1), 0)) else (none))))))) = some (r1, r2) := by rw [if_neg (show ¬ (false = true) by decide)] at H; exact H
    clear H; have H := H1; clear H1
    replace H := Option.bind_eq_some_iff.mp H
    obtain ⟨t897, A120, H⟩ := H
    replace H : ((windbreakref01_Cmp.f kj4 l1_1 t897).bind fun t900 => (if t900 > 0 then (some (([] : List Int), 12)) else (if a1_0 = true then ((windbreakref01_Sub.f kj4 l0 l1_1).bind fun bt901 => (some (bt901.1, bt901.2))) else ((some (([] : List Int) : List Int)).bind fun y905 => (if y905.length + l1_1.length < 17592186044416 then (some ((y905 ++ l1_1), 0)) else (none)))))) = some (r1, r2) := H
    have A12 := Aside0.mk A120; clear A120
    replace H := Option.bind_eq_some_iff.mp H
    obtain ⟨t900, A130, H⟩ := H
    replace H : (if t900 > 0 then (some (([] : List Int), 12)) else (if a1_0 = true then ((windbreakref01_Sub.f kj4 l0 l1_1).bind fun bt901 => (some (bt901.1, bt901.2))) else ((some (([] : List Int) : List Int)).bind fun y905 => (if y905.length + l1_1.length < 17592186044416 then (some ((y905 ++ l1_1), 0)) else (none))))) = some (r1, r2) := H
    have A13 := Aside0.mk A130; clear A130
    by_cases c14 : t900 > 0
    ·
     rw [if_pos c14] at H
     have c14b0 : decide (0 < t900) = true := decide_eq_true c14
     clear c14
     simp only [Option.some.injEq, Prod.mk.injEq] at H
     obtain ⟨rfl, rfl⟩ := H
     try go_wp2
     have n0_ := Aside0.mk (blk_drew BK894.out)
     have n1_ := Aside0.mk (below_drew1 HB.out)
     clear BK894; clear HB; have BK894 := n0_; have HB := n1_; clear n0_ n1_
     refine start_ (n := 6) (S := fun w' => w'.cell? ⟨gb894, 0, none⟩ = some (.bool a1_0) ∧ w'.cell? ⟨gb894, 1, none⟩ = some (.slice A1_1 l1_1.length c1_1)) (ds := []) #[false, false, false, false, false, false] (by kernel_rfl) rfl rfl ⟨(blk_cell BK894.out 0).trans rfl, (blk_cell BK894.out 1).trans rfl⟩ (fun hHeld => ?_)
     generalize wc.drew = w15 at BK894 HB hHeld ⊢
     refine pure_ (i := 0) (N := some 18) (v := ?_) (a' := ?_) #[true, false, false, false, false, false] rfl rfl (by kernel_rfl) (fun _ _ _ h => h) (Or.inl ⟨by rfl, ?_⟩) ?_ ?_
     rotate_left
     ·
      intro w'
      go_simp
      with_reducible rfl
     rotate_left
     ·
      simp only [Act.put, List.setIfInBounds_toArray, List.set_cons_zero, List.set_cons_succ, i64_w, i32_w]
      rfl
     refine pure_ (i := 2) (N := some 20) (v := ?_) (a' := ?_) #[true, false, true, false, false, false] rfl rfl (by kernel_rfl) (fun _ _ _ h => h) (Or.inl ⟨by rfl, ?_⟩) ?_ ?_
     rotate_left
     ·
      intro w'
      go_simp
      with_reducible rfl
     rotate_left
     ·
      simp only [Act.put, List.setIfInBounds_toArray, List.set_cons_zero, List.set_cons_succ, i64_w, i32_w]
      rfl
     refine take_ (i := 1) (N := some 19) (v := ?_) (a' := ?_) #[true, true, true, false, false, false] rfl rfl (by kernel_rfl) (fun _ _ _ h => h) (Or.inl ⟨by rfl, ?_⟩) hHeld ?_ ?_
     rotate_left
     ·
      rintro w' ⟨s0, s1⟩
      go_simp
      with_reducible rfl
     rotate_left
     ·
      simp only [Act.put, List.setIfInBounds_toArray, List.set_cons_zero, List.set_cons_succ, i64_w, i32_w]
      rfl
     refine one_ (i := 3) (N := some 21) #[true, true, true, true, false, false] rfl rfl (by kernel_rfl) (by decide) (fun K hK => ?_)
     refine goes_ Try.func73 (by kernel_rfl) rfl #[.slice A0 l0.length c0] (by rfl) rfl rfl uM ?_
     with_reducible refine (windbreakref07_half.calls kj4 _ _ l0 t897 _ ?side1 ?side2 A12.out).mono ?_
     (case side1 => exact uC (Kd.C_below HR0.out HB.out))
     (case side2 => exact HC0.out)
     rintro e w16 ⟨v898, rfl, ho0, hb⟩
     refine ⟨_, rfl, ?_⟩
     have n0_ := Aside0.mk (Kd.R_lower ho0 (below_size uB))
     have n1_ := Aside0.mk (blk_below (uK BK894.out) hb)
     have n2_ := Aside0.mk (below_step uB hb)
     clear BK894; clear HB; have HO899 := n0_; have BK894 := n1_; have HB := n2_; clear n0_ n1_ n2_; (try clear hb); (try clear hb2); (try clear hk); (try clear hi); (try clear ho0)
     obtain ⟨Ao17, co17, eo17⟩ := Kd.R_slice HO899.out
     (first | subst eo17 | (injection eo17 with f1_ f2_ f3_; have f4_ := f1_.symm; have f5_ := f3_.symm; clear f1_ f2_ f3_; subst f4_; subst f5_))
     refine hK.out _ _ ⟨(blk_cell BK894.out 0).trans rfl, (blk_cell BK894.out 1).trans rfl⟩ (fun hHeld => ?_)
     clear hK K
     refine norm_ (a' := ?_) ?_ ?_
     rotate_left
     ·
      show Act.put _ (some 21) _ = _
      simp only [Act.put, List.setIfInBounds_toArray, List.set_cons_zero, List.set_cons_succ, i64_w, i32_w]
      rfl
     refine one_ (i := 4) (N := some 22) #[true, true, true, true, true, false] rfl rfl (by kernel_rfl) (by decide) (fun K hK => ?_)
     refine goes_ Try.func72 (by kernel_rfl) rfl #[.slice A1_1 l1_1.length c1_1, .slice Ao17 t897.length co17] (by rfl) rfl rfl uM ?_
     with_reducible refine (windbreakref01_Cmp.calls kj4 _ _ l1_1 _ _ t897 t900 _ ?side1 ?side2 ?side3 ?side4 A13.out).mono ?_
     (case side1 => exact uC (Kd.C_below HR1_1.out HB.out))
     (case side2 => exact HC1_1.out)
     (case side3 => exact uC (Kd.R_reads' HO899.out).2.2)
     (case side4 => exact (Kd.R_reads' HO899.out).2.1)
     rintro e w18 ⟨rfl, hb⟩
     refine ⟨_, rfl, ?_⟩
     have n0_ := Aside0.mk (Kd.R_below (uR HO899.out) hb)
     have n1_ := Aside0.mk (blk_below (uK BK894.out) hb)
     have n2_ := Aside0.mk (below_step uB hb)
     clear HO899; clear BK894; clear HB; have HO899 := n0_; have BK894 := n1_; have HB := n2_; clear n0_ n1_ n2_; (try clear hb); (try clear hb2); (try clear hk); (try clear hi)
     refine hK.out _ _ ⟨(blk_cell BK894.out 0).trans rfl, (blk_cell BK894.out 1).trans rfl⟩ (fun hHeld => ?_)
     clear hK K
     refine norm_ (a' := ?_) ?_ ?_
     rotate_left
     ·
      show Act.put _ (some 22) _ = _
      simp only [Act.put, List.setIfInBounds_toArray, List.set_cons_zero, List.set_cons_succ, i64_w, i32_w]
      rfl
     refine pure_ (i := 5) (N := some 23) (v := ?_) (a' := ?_) #[true, true, true, true, true, true] rfl rfl (by kernel_rfl) (fun _ _ _ h => h) (Or.inl ⟨by rfl, ?_⟩) ?_ ?_
     rotate_left
     ·
      intro w'
      go_simp
      with_reducible rfl
     rotate_left
     ·
      simp only [Act.put, List.setIfInBounds_toArray, List.set_cons_zero, List.set_cons_succ, i64_w, i32_w]
      rfl
     refine done_ (by kernel_rfl) ?_
     try go_wp2
     go_ret2
     exact ⟨_, by first | rfl | (simp [errW_none, errW_some] <;> rfl) | (simp [*, errW_none, errW_some] <;> rfl), by first | exact Kd.R_nil _ _ _ _ _ | exact Kd.N_nil _ _ _ _ _ | exact Kd.V_nil _ _ _ _ _ | exact Kd.Q_nil _ _ _ _ _ | exact Kd.S_nil _ _ _ _ _, uB⟩
    ·
     rw [if_neg c14] at H
     have c14b0 : decide (0 < t900) = false := decide_eq_false c14
     clear c14
     by_cases c19 : a1_0 = true
     ·
      subst c19
      have H1 : ((windbreakref01_Sub.f kj4 l0 l1_1).bind fun bt901 => (some (bt901.1, bt901.2))) = some (r1, r2) := by rw [if_pos rfl] at H; exact H
      clear H; have H := H1; clear H1
      replace H := Option.bind_eq_some_iff.mp H
      obtain ⟨⟨t901, t902⟩, A200, H⟩ := H
      replace H : (some (t901, t902)) = some (r1, r2) := H
      have A20 := Aside0.mk A200; clear A200
      simp only [Option.some.injEq, Prod.mk.injEq] at H
      obtain ⟨rfl, rfl⟩ := H
      try go_wp2
      have n0_ := Aside0.mk (blk_drew BK894.out)
      have n1_ := Aside0.mk (below_drew1 HB.out)
      clear BK894; clear HB; have BK894 := n0_; have HB := n1_; clear n0_ n1_
      refine start_ (n := 6) (S := fun w' => w'.cell? ⟨gb894, 0, none⟩ = some (.bool true) ∧ w'.cell? ⟨gb894, 1, none⟩ = some (.slice A1_1 l1_1.length c1_1)) (ds := []) #[false, false, false, false, false, false] (by kernel_rfl) rfl rfl ⟨(blk_cell BK894.out 0).trans rfl, (blk_cell BK894.out 1).trans rfl⟩ (fun hHeld => ?_)
      generalize wc.drew = w21 at BK894 HB hHeld ⊢
      refine pure_ (i := 0) (N := some 18) (v := ?_) (a' := ?_) #[true, false, false, false, false, false] rfl rfl (by kernel_rfl) (fun _ _ _ h => h) (Or.inl ⟨by rfl, ?_⟩) ?_ ?_
      rotate_left
      ·
       intro w'
       go_simp
       with_reducible rfl
      rotate_left
      ·
       simp only [Act.put, List.setIfInBounds_toArray, List.set_cons_zero, List.set_cons_succ, i64_w, i32_w]
       rfl
      refine pure_ (i := 2) (N := some 20) (v := ?_) (a' := ?_) #[true, false, true, false, false, false] rfl rfl (by kernel_rfl) (fun _ _ _ h => h) (Or.inl ⟨by rfl, ?_⟩) ?_ ?_
      rotate_left
      ·
       intro w'
       go_simp
       with_reducible rfl
      rotate_left
      ·
       simp only [Act.put, List.setIfInBounds_toArray, List.set_cons_zero, List.set_cons_succ, i64_w, i32_w]
       rfl
      refine take_ (i := 1) (N := some 19) (v := ?_) (a' := ?_) #[true, true, true, false, false, false] rfl rfl (by kernel_rfl) (fun _ _ _ h => h) (Or.inl ⟨by rfl, ?_⟩) hHeld ?_ ?_
      rotate_left
      ·
       rintro w' ⟨s0, s1⟩
       go_simp
       with_reducible rfl
      rotate_left
      ·
       simp only [Act.put, List.setIfInBounds_toArray, List.set_cons_zero, List.set_cons_succ, i64_w, i32_w]
       rfl
      refine one_ (i := 3) (N := some 21) #[true, true, true, true, false, false] rfl rfl (by kernel_rfl) (by decide) (fun K hK => ?_)
      refine goes_ Try.func73 (by kernel_rfl) rfl #[.slice A0 l0.length c0] (by rfl) rfl rfl uM ?_
      with_reducible refine (windbreakref07_half.calls kj4 _ _ l0 t897 _ ?side1 ?side2 A12.out).mono ?_
      (case side1 => exact uC (Kd.C_below HR0.out HB.out))
      (case side2 => exact HC0.out)
      rintro e w22 ⟨v898, rfl, ho0, hb⟩
      refine ⟨_, rfl, ?_⟩
      have n0_ := Aside0.mk (Kd.R_lower ho0 (below_size uB))
      have n1_ := Aside0.mk (blk_below (uK BK894.out) hb)
      have n2_ := Aside0.mk (below_step uB hb)
      clear BK894; clear HB; have HO899 := n0_; have BK894 := n1_; have HB := n2_; clear n0_ n1_ n2_; (try clear hb); (try clear hb2); (try clear hk); (try clear hi); (try clear ho0)
      obtain ⟨Ao23, co23, eo23⟩ := Kd.R_slice HO899.out
      (first | subst eo23 | (injection eo23 with f1_ f2_ f3_; have f4_ := f1_.symm; have f5_ := f3_.symm; clear f1_ f2_ f3_; subst f4_; subst f5_))
      refine hK.out _ _ ⟨(blk_cell BK894.out 0).trans rfl, (blk_cell BK894.out 1).trans rfl⟩ (fun hHeld => ?_)
      clear hK K
      refine norm_ (a' := ?_) ?_ ?_
      rotate_left
      ·
       show Act.put _ (some 21) _ = _
       simp only [Act.put, List.setIfInBounds_toArray, List.set_cons_zero, List.set_cons_succ, i64_w, i32_w]
       rfl
      refine one_ (i := 4) (N := some 22) #[true, true, true, true, true, false] rfl rfl (by kernel_rfl) (by decide) (fun K hK => ?_)
      refine goes_ Try.func72 (by kernel_rfl) rfl #[.slice A1_1 l1_1.length c1_1, .slice Ao23 t897.length co23] (by rfl) rfl rfl uM ?_
      with_reducible refine (windbreakref01_Cmp.calls kj4 _ _ l1_1 _ _ t897 t900 _ ?side1 ?side2 ?side3 ?side4 A13.out).mono ?_
      (case side1 => exact uC (Kd.C_below HR1_1.out HB.out))
      (case side2 => exact HC1_1.out)
      (case side3 => exact uC (Kd.R_reads' HO899.out).2.2)
      (case side4 => exact (Kd.R_reads' HO899.out).2.1)
      rintro e w24 ⟨rfl, hb⟩
      refine ⟨_, rfl, ?_⟩
      have n0_ := Aside0.mk (Kd.R_below (uR HO899.out) hb)
      have n1_ := Aside0.mk (blk_below (uK BK894.out) hb)
      have n2_ := Aside0.mk (below_step uB hb)
      clear HO899; clear BK894; clear HB; have HO899 := n0_; have BK894 := n1_; have HB := n2_; clear n0_ n1_ n2_; (try clear hb); (try clear hb2); (try clear hk); (try clear hi)
      refine hK.out _ _ ⟨(blk_cell BK894.out 0).trans rfl, (blk_cell BK894.out 1).trans rfl⟩ (fun hHeld => ?_)
      clear hK K
      refine norm_ (a' := ?_) ?_ ?_
      rotate_left
      ·
       show Act.put _ (some 22) _ = _
       simp only [Act.put, List.setIfInBounds_toArray, List.set_cons_zero, List.set_cons_succ, i64_w, i32_w]
       rfl
      refine pure_ (i := 5) (N := some 23) (v := ?_) (a' := ?_) #[true, true, true, true, true, true] rfl rfl (by kernel_rfl) (fun _ _ _ h => h) (Or.inl ⟨by rfl, ?_⟩) ?_ ?_
      rotate_left
      ·
       intro w'
       go_simp
       with_reducible rfl
      rotate_left
      ·
       simp only [Act.put, List.setIfInBounds_toArray, List.set_cons_zero, List.set_cons_succ, i64_w, i32_w]
       rfl
      refine done_ (by kernel_rfl) ?_
      have hcz25_0 : w24.cell? ⟨gb894, 0, none⟩ = some (.bool true) := (blk_cell BK894.out 0).trans rfl
      have hcz25_1 : w24.cell? ⟨gb894, 1, none⟩ = some (.slice A1_1 l1_1.length c1_1) := (blk_cell BK894.out 1).trans rfl
      have hfz25_0 := blk_frozen BK894.out 0
      have hfz25_1 := blk_frozen BK894.out 1
      try go_wp2_with (first | ((with_reducible refine gate_callee (f := 105) rfl ?_); refine goesL_ (some 34) rfl rfl Try.func105 (by kernel_rfl) rfl #[.slice A0 l0.length c0, .slice A1_1 l1_1.length c1_1] rfl uM ?_; (with_reducible refine (windbreakref01_Sub.calls kj4 _ _ l0 _ _ l1_1 t901 t902 _ ?side1 ?side2 ?side3 ?side4 A20.out).mono ?_); (case side1 => exact uC (Kd.C_below HR0.out HB.out)); (case side2 => exact HC0.out); (case side3 => exact uC (Kd.C_below HR1_1.out HB.out)); (case side4 => exact HC1_1.out); rintro e w26 ⟨v903, rfl, ho0, hb⟩; refine ⟨_, rfl, ?_⟩; have n0_ := Aside0.mk (Kd.R_elder' (uR HO899.out) (Kd.R_base ho0) hb); have n1_ := Aside0.mk (Kd.R_lower (Kd.R_new' ho0 (Kd.R_lt (uR HO899.out))) (below_size uB)); have n2_ := Aside0.mk (blk_below (uK BK894.out) hb); have n3_ := Aside0.mk (below_step uB hb); clear HO899; clear BK894; clear HB; have HO899 := n0_; have HO904 := n1_; have BK894 := n2_; have HB := n3_; clear n0_ n1_ n2_ n3_; (try clear hb); (try clear hb2); (try clear hk); (try clear hi); (try clear ho0)))
      go_ret2
      exact ⟨_, by first | rfl | (simp [errW_none, errW_some] <;> rfl) | (simp [*, errW_none, errW_some] <;> rfl), by (with_reducible repeat (first | apply Kd.R_alloc | apply Kd.R_drewN | apply Kd.R_drew)); exact Kd.R_mono HO904.out (fun _ hk => trivial), uB⟩
     ·
      replace c19 := Bool.eq_false_iff.mpr c19
      subst c19
      have H1 : ((some (([] : List Int) : List Int)).bind fun y905 => (if y905.length + l1_1.length < 17592186044416 then (some ((y905 ++ l1_1), 0)) else (none))) = some (r1, r2) := by rw [if_neg (show ¬ (false = true) by decide)] at H; exact H
      clear H; have H := H1; clear H1
      obtain ⟨y905, hy905⟩ : ∃ y_ : List Int, y_ = (([] : List Int)) := ⟨_, rfl⟩
      replace H : (if y905.length + l1_1.length < 17592186044416 then (some ((y905 ++ l1_1), 0)) else (none)) = some (r1, r2) := by first | (rw [hy905]; with_reducible exact H) | (have H2_ := (Option.bind_some _ _).symm.trans H; rw [hy905]; with_reducible exact H2_) | (have H2_ := (Option.bind_some _ _).symm.trans H; with_reducible exact H2_) | with_reducible exact H | (rw [hy905]; exact H) | exact H
      have Ny905 := Aside0.mk hy905; clear hy905
      by_cases c27 : y905.length + l1_1.length < 17592186044416
      ·
       rw [if_pos c27] at H
       have LMc27 := Aside0.mk c27; clear c27
       obtain ⟨y908, hy908⟩ : ∃ y_ : List Int, y_ = (y905 ++ l1_1) := ⟨_, rfl⟩
       replace H : (some (y908, 0)) = some (r1, r2) := by first | (rw [hy908]; with_reducible exact H) | (have H2_ := (Option.bind_some _ _).symm.trans H; rw [hy908]; with_reducible exact H2_) | (have H2_ := (Option.bind_some _ _).symm.trans H; with_reducible exact H2_) | with_reducible exact H | (rw [hy908]; exact H) | exact H
       have Ny908 := Aside0.mk hy908; clear hy908
       simp only [Option.some.injEq, Prod.mk.injEq] at H
       obtain ⟨rfl, rfl⟩ := H
       try go_wp2
       have n0_ := Aside0.mk (blk_drew BK894.out)
       have n1_ := Aside0.mk (below_drew1 HB.out)
       clear BK894; clear HB; have BK894 := n0_; have HB := n1_; clear n0_ n1_
       refine start_ (n := 6) (S := fun w' => w'.cell? ⟨gb894, 0, none⟩ = some (.bool false) ∧ w'.cell? ⟨gb894, 1, none⟩ = some (.slice A1_1 l1_1.length c1_1)) (ds := []) #[false, false, false, false, false, false] (by kernel_rfl) rfl rfl ⟨(blk_cell BK894.out 0).trans rfl, (blk_cell BK894.out 1).trans rfl⟩ (fun hHeld => ?_)
       generalize wc.drew = w28 at BK894 HB hHeld ⊢
       refine pure_ (i := 0) (N := some 18) (v := ?_) (a' := ?_) #[true, false, false, false, false, false] rfl rfl (by kernel_rfl) (fun _ _ _ h => h) (Or.inl ⟨by rfl, ?_⟩) ?_ ?_
       rotate_left
       ·
        intro w'
        go_simp
        with_reducible rfl
       rotate_left
       ·
        simp only [Act.put, List.setIfInBounds_toArray, List.set_cons_zero, List.set_cons_succ, i64_w, i32_w]
        rfl
       refine pure_ (i := 2) (N := some 20) (v := ?_) (a' := ?_) #[true, false, true, false, false, false] rfl rfl (by kernel_rfl) (fun _ _ _ h => h) (Or.inl ⟨by rfl, ?_⟩) ?_ ?_
       rotate_left
       ·
        intro w'
        go_simp
        with_reducible rfl
       rotate_left
       ·
        simp only [Act.put, List.setIfInBounds_toArray, List.set_cons_zero, List.set_cons_succ, i64_w, i32_w]
        rfl
       refine take_ (i := 1) (N := some 19) (v := ?_) (a' := ?_) #[true, true, true, false, false, false] rfl rfl (by kernel_rfl) (fun _ _ _ h => h) (Or.inl ⟨by rfl, ?_⟩) hHeld ?_ ?_
       rotate_left
       ·
        rintro w' ⟨s0, s1⟩
        go_simp
        with_reducible rfl
       rotate_left
       ·
        simp only [Act.put, List.setIfInBounds_toArray, List.set_cons_zero, List.set_cons_succ, i64_w, i32_w]
        rfl
       refine one_ (i := 3) (N := some 21) #[true, true, true, true, false, false] rfl rfl (by kernel_rfl) (by decide) (fun K hK => ?_)
       refine goes_ Try.func73 (by kernel_rfl) rfl #[.slice A0 l0.length c0] (by rfl) rfl rfl uM ?_
       with_reducible refine (windbreakref07_half.calls kj4 _ _ l0 t897 _ ?side1 ?side2 A12.out).mono ?_
       (case side1 => exact uC (Kd.C_below HR0.out HB.out))
       (case side2 => exact HC0.out)
       rintro e w29 ⟨v898, rfl, ho0, hb⟩
       refine ⟨_, rfl, ?_⟩
       have n0_ := Aside0.mk (Kd.R_lower ho0 (below_size uB))
       have n1_ := Aside0.mk (blk_below (uK BK894.out) hb)
       have n2_ := Aside0.mk (below_step uB hb)
       clear BK894; clear HB; have HO899 := n0_; have BK894 := n1_; have HB := n2_; clear n0_ n1_ n2_; (try clear hb); (try clear hb2); (try clear hk); (try clear hi); (try clear ho0)
       obtain ⟨Ao30, co30, eo30⟩ := Kd.R_slice HO899.out
       (first | subst eo30 | (injection eo30 with f1_ f2_ f3_; have f4_ := f1_.symm; have f5_ := f3_.symm; clear f1_ f2_ f3_; subst f4_; subst f5_))
       refine hK.out _ _ ⟨(blk_cell BK894.out 0).trans rfl, (blk_cell BK894.out 1).trans rfl⟩ (fun hHeld => ?_)
       clear hK K
       refine norm_ (a' := ?_) ?_ ?_
       rotate_left
       ·
        show Act.put _ (some 21) _ = _
        simp only [Act.put, List.setIfInBounds_toArray, List.set_cons_zero, List.set_cons_succ, i64_w, i32_w]
        rfl
       refine one_ (i := 4) (N := some 22) #[true, true, true, true, true, false] rfl rfl (by kernel_rfl) (by decide) (fun K hK => ?_)
       refine goes_ Try.func72 (by kernel_rfl) rfl #[.slice A1_1 l1_1.length c1_1, .slice Ao30 t897.length co30] (by rfl) rfl rfl uM ?_
       with_reducible refine (windbreakref01_Cmp.calls kj4 _ _ l1_1 _ _ t897 t900 _ ?side1 ?side2 ?side3 ?side4 A13.out).mono ?_
       (case side1 => exact uC (Kd.C_below HR1_1.out HB.out))
       (case side2 => exact HC1_1.out)
       (case side3 => exact uC (Kd.R_reads' HO899.out).2.2)
       (case side4 => exact (Kd.R_reads' HO899.out).2.1)
       rintro e w31 ⟨rfl, hb⟩
       refine ⟨_, rfl, ?_⟩
       have n0_ := Aside0.mk (Kd.R_below (uR HO899.out) hb)
       have n1_ := Aside0.mk (blk_below (uK BK894.out) hb)
       have n2_ := Aside0.mk (below_step uB hb)
       clear HO899; clear BK894; clear HB; have HO899 := n0_; have BK894 := n1_; have HB := n2_; clear n0_ n1_ n2_; (try clear hb); (try clear hb2); (try clear hk); (try clear hi)
       refine hK.out _ _ ⟨(blk_cell BK894.out 0).trans rfl, (blk_cell BK894.out 1).trans rfl⟩ (fun hHeld => ?_)
       clear hK K
       refine norm_ (a' := ?_) ?_ ?_
       rotate_left
       ·
        show Act.put _ (some 22) _ = _
        simp only [Act.put, List.setIfInBounds_toArray, List.set_cons_zero, List.set_cons_succ, i64_w, i32_w]
        rfl
       refine pure_ (i := 5) (N := some 23) (v := ?_) (a' := ?_) #[true, true, true, true, true, true] rfl rfl (by kernel_rfl) (fun _ _ _ h => h) (Or.inl ⟨by rfl, ?_⟩) ?_ ?_
       rotate_left
       ·
        intro w'
        go_simp
        with_reducible rfl
       rotate_left
       ·
        simp only [Act.put, List.setIfInBounds_toArray, List.set_cons_zero, List.set_cons_succ, i64_w, i32_w]
        rfl
       refine done_ (by kernel_rfl) ?_
       have hcz32_0 : w31.cell? ⟨gb894, 0, none⟩ = some (.bool false) := (blk_cell BK894.out 0).trans rfl
       have hcz32_1 : w31.cell? ⟨gb894, 1, none⟩ = some (.slice A1_1 l1_1.length c1_1) := (blk_cell BK894.out 1).trans rfl
       have hfz32_0 := blk_frozen BK894.out 0
       have hfz32_1 := blk_frozen BK894.out 1
       try go_wp2_with (first | ((with_reducible refine gate_dst (N := 27) rfl ?_); refine Kd.R_lit (Kd.int .u64) _ 27 ?hg (N := 27) ?hd (xs := ([] : List Int)) (inner := []) (ok := fun _ => True) (okp := fun _ => True) ?hr ?hp (fun _ hk => hk) trivial (Below.refl _ _) (Nat.le_refl _) (by simp) ?_; (case hd => rfl); (case hg => rfl); (case hr => first | (go_simp; done) | (go_simp; rfl) | (go_simp; simp only [u64_u8]; done) | (go_simp; simp only [u64_u8]; rfl)); (case hp => exact (Reps.none _ _)); intro v906 w33 ho34 hb hg_ hnew_; clear hg_ hnew_; (first | rw [← Ny905.out] at ho34 | (simp only [Int.reduceToNat] at ho34; rw [← Ny905.out] at ho34)); have n0_ := Aside0.mk (Kd.R_elder' (uR HO899.out) (Kd.R_base ho34) hb); have n1_ := Aside0.mk (Kd.R_lower (Kd.R_new' ho34 (Kd.R_lt (uR HO899.out))) (below_size uB)); have n2_ := Aside0.mk (blk_below (uK BK894.out) hb); have n3_ := Aside0.mk (below_step uB hb); clear HO899; clear BK894; clear HB; have HO899 := n0_; have HO907 := n1_; have BK894 := n2_; have HB := n3_; clear n0_ n1_ n2_ n3_; clear hb ho34; have hcz35_0 : w33.cell? ⟨gb894, 0, none⟩ = some (.bool false) := (blk_cell BK894.out 0).trans rfl; have hcz35_1 : w33.cell? ⟨gb894, 1, none⟩ = some (.slice A1_1 l1_1.length c1_1) := (blk_cell BK894.out 1).trans rfl; have hfz35_0 := blk_frozen BK894.out 0; have hfz35_1 := blk_frozen BK894.out 1) | ((with_reducible refine gate_builtin (b := .append) (xs := #[.tmp 27, .tmp 29]) rfl ?_); at_builtin; refine Kd.R_append_rows (Kd.int .u64) (w0 := w) w.heap.size rfl (.tmp 27) (.tmp 29) 23 27 (.int .u64 0) 8 rfl Try.underlying23 info27 rfl (by decide) (by omega) v906 y905 l1_1 _ _ _ (fun k_ => some k_ ≠ (.slice Ao30 t897.length co30 : Value).ownBlock) (fun _ => False) rfl rfl ?aO ?aR (fun _ _ h => h) (fun _ h => h.elim) ?aF ?aB ?aS ?aL ?_; (case aR => exact uC (Kd.C_below HR1_1.out HB.out)); (case aB => exact uB); (case aF => exact (fun k_ hk => Kd.fresh' (Kd.R_lt (uR HO899.out)) k_ hk)); (case aO => exact (uR (Kd.R_mono HO907.out (fun _ hk => hk.2)))); (case aS => exact (below_size uB)); (case aL => have := LMc27.out; omega); intro v909 w36 ho hb hg hat; rw [← Ny908.out] at ho; have n0_ := Aside0.mk (blk_grown (g := gb894) (o := .cells #[.bool false, .slice A1_1 l1_1.length c1_1] 52 (0, 0)) (uK BK894.out) hg (Kd.R_ne HO907.out BK894.out (by decide))); have n1_ := Aside0.mk (Kd.R_after (ok := (fun _ => True)) (uR HO899.out) hg hat); have n2_ := Aside0.mk (hb); have n3_ := Aside0.mk (ho); clear BK894; clear HO899; clear HB; clear HO907; have BK894 := n0_; have HO899 := n1_; have HB := n2_; have HO910 := n3_; clear n0_ n1_ n2_ n3_; clear ho hb hg hat))
       go_ret2
       exact ⟨_, by first | rfl | (simp [errW_none, errW_some] <;> rfl) | (simp [*, errW_none, errW_some] <;> rfl), by (with_reducible repeat (first | apply Kd.R_alloc | apply Kd.R_drewN | apply Kd.R_drew)); exact Kd.R_mono HO910.out (fun _ hk => trivial), uB⟩
      ·
       rw [if_neg c27] at H
       exact absurd H (by simp)

end Go.Proofs.Ytgeanpnkllnipab.F
end

section
namespace Go.Proofs.Ytgeanpnkllnipab.F
open Go.RowKit Go.Proofs.YtgeanpnkllnipabW.PrintWords Go.Proofs.YtgeanpnkllnipabW.PrintLast Go.Proofs.YtgeanpnkllnipabW.PrintMore
attribute [local go_sem] max2_int min2_int max_two min_two max_three min_three max_four min_four
set_option linter.unusedVariables false
set_option linter.unusedSimpArgs false

mutual
def windbreakref07_Pack.j0 : Nat → List Int → Int → Int → Int → Bool → Option (List Int × Int)
 | 0, _, _, _, _, _ => none
 | k + 1, x0, x1, x2, x3, x24 => if x24 = true then (some (([] : List Int), 1)) else (if x3 < 0 then (windbreakref07_Pack.j1 k x0 x1 x2 x3 true) else ((windbreakref03_Of.f x3).bind fun bt912 => ((windbreakref07_power.f k x1).bind fun bt916 => ((windbreakref03_Cmp.f k bt912.1 bt912.2 bt916.1 bt916.2).bind fun t920 => (windbreakref07_Pack.j1 k x0 x1 x2 x3 (decide (t920 ≥ 0)))))))
def windbreakref07_Pack.j1 : Nat → List Int → Int → Int → Int → Bool → Option (List Int × Int)
 | 0, _, _, _, _, _ => none
 | k + 1, x0, x1, x2, x3, x34 => if x34 = true then (some (([] : List Int), 12)) else ((windbreakref03_Of.f x2).bind fun bt921 => ((windbreakref07_power.f k x1).bind fun bt925 => ((windbreakref03_Mul.f k bt921.1 bt921.2 bt925.1 bt925.2).bind fun bt929 => ((windbreakref03_Of.f x3).bind fun bt935 => ((windbreakref03_Add.f k bt929.1 bt929.2.1 bt935.1 bt935.2).bind fun bt939 => ((windbreakref07_Encode.f k x0 bt939.1 bt939.2.1).bind fun bt944 => (some (bt944.1, bt944.2))))))))
end
def windbreakref07_Pack.f (k : Nat) (l0 : List Int) (a1 : Int) (a2 : Int) (a3 : Int) : Option (List Int × Int) := (windbreakref07_May.f k l0).bind fun t911 => (if t911 = true then (if a1 < 1 then (windbreakref07_Pack.j0 k l0 a1 a2 a3 true) else (windbreakref07_Pack.j0 k l0 a1 a2 a3 (decide (a1 > 62)))) else (windbreakref07_Pack.j0 k l0 a1 a2 a3 true))
def windbreakref07_Pack.T7 : Bool × List (List Nat × List Nat) := (true, [([], []), ([], []), ([1], [1]), ([0, 2, 2], [0, 2]), ([3], [3]), ([4], [4]), ([4], [4]), ([5, 3, 0, 1, 2, 3, 4, 5], [5])])
def windbreakref07_Pack.B7 : List Nat := [0, 0, 2, 7, 15, 31, 31, 63]
theorem windbreakref07_Pack.tab7 : rtab .any (opsOf Try.f30 7) = windbreakref07_Pack.T7 := by kernel_rfl
theorem windbreakref07_Pack.bits7 : waitsOk windbreakref07_Pack.T7.2 windbreakref07_Pack.B7 = true := by kernel_rfl
set_option maxHeartbeats 8000000 in
set_option maxRecDepth 100000 in
theorem windbreakref07_Pack.calls (k : Nat) (A0 : Option Addr) (c0 : Nat) (l0 : List Int) (a1 : Int) (a2 : Int) (a3 : Int) (r1 : List Int) (r2 : Int) (w : World) (hr0 : Kd.C (Kd.int .u64) w A0 l0.length l0) (hc0 : l0.length ≤ c0) (h : windbreakref07_Pack.f k l0 a1 a2 a3 = some (r1, r2)) :
  Calls Try.prog 30 #[.slice A0 l0.length c0, .int .i64 a1, .int .i64 a2, .int .i64 a3] w fun e w' => ∃ v0_ : Value, e = .returned (.tuple #[v0_, .int .i64 r2]) ∧ Kd.R (Kd.int .u64) 27 w' w.heap.size (fun _ => True) v0_ r1 ∧ Below w.heap.size w w' := by
 have hu52 := Try.underlying52
 have HR0 := Aside0.mk hr0; have HC0 := Aside0.mk hc0; clear hr0 hc0
 have HB := Aside0.mk (Below.refl w.heap.size w)
 have H : ((windbreakref07_May.f k l0).bind fun t911 => (if t911 = true then (if a1 < 1 then (windbreakref07_Pack.j0 k l0 a1 a2 a3 true) else (windbreakref07_Pack.j0 k l0 a1 a2 a3 (decide (a1 > 62)))) else (windbreakref07_Pack.j0 k l0 a1 a2 a3 true))) = some (r1, r2) := h
 clear h
 replace H := Option.bind_eq_some_iff.mp H
 obtain ⟨t911, A50, H⟩ := H
 replace H : (if t911 = true then (if a1 < 1 then (windbreakref07_Pack.j0 k l0 a1 a2 a3 true) else (windbreakref07_Pack.j0 k l0 a1 a2 a3 (decide (a1 > 62)))) else (windbreakref07_Pack.j0 k l0 a1 a2 a3 true)) = some (r1, r2) := H
 have A5 := Aside0.mk A50; clear A50; have HC6 := Aside0.mk H; clear H
 go_enter Try.func30, Try.ntmps30
 go_upto_region 2 with (first | ((with_reducible refine gate_callee (f := 59) rfl ?_); refine goesL_ (some 14) rfl rfl Try.func59 (by kernel_rfl) rfl #[.slice A0 l0.length c0] rfl uM ?_; (with_reducible refine (windbreakref07_May.calls k _ _ l0 t911 _ ?side1 ?side2 A5.out).mono ?_); (case side1 => exact uC HR0.out); (case side2 => exact HC0.out); rintro e w7 ⟨rfl, hb⟩; refine ⟨_, rfl, ?_⟩; have n0_ := Aside0.mk (below_step uB hb); clear HB; have HB := n0_; clear n0_; (try clear hb); (try clear hb2); (try clear hk); (try clear hi)))
 (try simp only [Act.put, List.setIfInBounds_toArray, List.set_cons_zero, List.set_cons_succ])
 go_cut [24] (fun v24 wc => ∃ (kq : Nat) (x24_5 : Bool), v24 = .bool x24_5 ∧ Aside0 (windbreakref07_Pack.j0 kq l0 a1 a2 a3 x24_5 = some (r1, r2)) ∧ Aside0 (kq ≤ k) ∧ Aside0 (Below w.heap.size w wc))
 case first =>
  have H := HC6.out
  clear HC6
  by_cases c8 : t911 = true
  ·
   subst c8
   have H1 : (if a1 < 1 then (windbreakref07_Pack.j0 k l0 a1 a2 a3 true) else (windbreakref07_Pack.j0 k l0 a1 a2 a3 (decide (a1 > 62)))) = some (r1, r2) := by rw [if_pos rfl] at H; exact H
   clear H; have H := H1; clear H1
   by_cases c9 : a1 < 1
   ·
    rw [if_pos c9] at H
    have c9b0 : decide (a1 < 1) = true := decide_eq_true c9
    clear c9
    (first | rw [c9b0] | (simp only [i64_w, i32_w]; rw [c9b0]) | skip)
    have H' := Aside0.mk H
    clear H
    go_wp2
    go_meet
    case rel => exact ⟨_, (true), (by first | rfl | (simp; done) | (simp [*]; done)), H', ⟨by first | omega | exact Nat.le_refl _⟩, ⟨uB⟩⟩
   ·
    rw [if_neg c9] at H
    have c9b0 : decide (a1 < 1) = false := decide_eq_false c9
    clear c9
    (first | rw [c9b0] | (simp only [i64_w, i32_w]; rw [c9b0]) | skip)
    have H' := Aside0.mk H
    clear H
    go_wp2
    go_meet
    case rel => exact ⟨_, (decide (a1 > 62)), (by first | rfl | (simp; done) | (simp [*]; done)), H', ⟨by first | omega | exact Nat.le_refl _⟩, ⟨uB⟩⟩
  ·
   replace c8 := Bool.eq_false_iff.mpr c8
   subst c8
   have H1 : (windbreakref07_Pack.j0 k l0 a1 a2 a3 true) = some (r1, r2) := by rw [if_neg (show ¬ (false = true) by decide)] at H; exact H
   clear H; have H := H1; clear H1
   have H' := Aside0.mk H
   clear H
   go_wp2
   go_meet
   case rel => exact ⟨_, (true), (by first | rfl | (simp; done) | (simp [*]; done)), H', ⟨by first | omega | exact Nat.le_refl _⟩, ⟨uB⟩⟩
 case rest =>
  clear HC6
  try clear p2
  try clear c3
  try clear c5
  try clear c8
  try clear c9
  try clear c9b0
  obtain ⟨kq, x24_5, rfl, HA, HJ5, HB⟩ := hcut
  cases kq with
  | zero => exact absurd HA.out (by simp [windbreakref07_Pack.j0])
  | succ kj5 =>
   have H := HA.out
   clear HA
   simp only [windbreakref07_Pack.j0] at H
   by_cases c10 : x24_5 = true
   ·
    subst c10
    have H1 : (some (([] : List Int), 1)) = some (r1, r2) := by rw [if_pos rfl] at H; exact H
    clear H; have H := H1; clear H1
    simp only [Option.some.injEq, Prod.mk.injEq] at H
    obtain ⟨rfl, rfl⟩ := H
    go_wp2
    go_ret2
    exact ⟨_, by first | rfl | (simp [errW_none, errW_some] <;> rfl) | (simp [*, errW_none, errW_some] <;> rfl), by first | exact Kd.R_nil _ _ _ _ _ | exact Kd.N_nil _ _ _ _ _ | exact Kd.V_nil _ _ _ _ _ | exact Kd.Q_nil _ _ _ _ _ | exact Kd.S_nil _ _ _ _ _, uB⟩
   ·
    replace c10 := Bool.eq_false_iff.mpr c10
    subst c10
    have H1 : (if a3 < 0 then (windbreakref07_Pack.j1 kj5 l0 a1 a2 a3 true) else ((windbreakref03_Of.f a3).bind fun bt912 => ((windbreakref07_power.f kj5 a1).bind fun bt916 => ((windbreakref03_Cmp.f kj5 bt912.1 bt912.2 bt916.1 bt916.2).bind fun t920 => (windbreakref07_Pack.j1 kj5 l0 a1 a2 a3 (decide (t920 ≥ 0))))))) = some (r1, r2) := by rw [if_neg (show ¬ (false = true) by decide)] at H; exact H
    clear H; have H := H1; clear H1; have HC11 := Aside0.mk H; clear H
    go_upto_region 4 with (fail)
    go_cut [34] (fun v34 wc => ∃ (kq : Nat) (x34_10 : Bool), v34 = .bool x34_10 ∧ Aside0 (windbreakref07_Pack.j1 kq l0 a1 a2 a3 x34_10 = some (r1, r2)) ∧ Aside0 (kq ≤ kj5) ∧ Aside0 (Below w.heap.size w wc))
    case first =>
     have H := HC11.out
     clear HC11
     by_cases c12 : a3 < 0
     ·
      rw [if_pos c12] at H
      have c12b0 : decide (a3 < 0) = true := decide_eq_true c12
      clear c12
      (first | rw [c12b0] | (simp only [i64_w, i32_w]; rw [c12b0]) | skip)
      have H' := Aside0.mk H
      clear H
      go_wp2
      go_meet
      case rel => exact ⟨_, (true), (by first | rfl | (simp; done) | (simp [*]; done)), H', ⟨by have := HJ5.out; first | omega | exact Nat.le_refl _⟩, ⟨uB⟩⟩
     ·
      rw [if_neg c12] at H
      have c12b0 : decide (a3 < 0) = false := decide_eq_false c12
      clear c12
      (first | rw [c12b0] | (simp only [i64_w, i32_w]; rw [c12b0]) | skip)
      replace H := Option.bind_eq_some_iff.mp H
      obtain ⟨⟨t912, t913⟩, A130, H⟩ := H
      replace H : ((windbreakref07_power.f kj5 a1).bind fun bt916 => ((windbreakref03_Cmp.f kj5 t912 t913 bt916.1 bt916.2).bind fun t920 => (windbreakref07_Pack.j1 kj5 l0 a1 a2 a3 (decide (t920 ≥ 0))))) = some (r1, r2) := H
      have A13 := Aside0.mk A130; clear A130
      replace H := Option.bind_eq_some_iff.mp H
      obtain ⟨⟨t916, t917⟩, A140, H⟩ := H
      replace H : ((windbreakref03_Cmp.f kj5 t912 t913 t916 t917).bind fun t920 => (windbreakref07_Pack.j1 kj5 l0 a1 a2 a3 (decide (t920 ≥ 0)))) = some (r1, r2) := H
      have A14 := Aside0.mk A140; clear A140
      replace H := Option.bind_eq_some_iff.mp H
      obtain ⟨t920, A150, H⟩ := H
      replace H : (windbreakref07_Pack.j1 kj5 l0 a1 a2 a3 (decide (t920 ≥ 0))) = some (r1, r2) := H
      have A15 := Aside0.mk A150; clear A150
      have H' := Aside0.mk H
      clear H
      go_wp2_with (first | (go_at_call 61; (with_reducible refine (windbreakref03_Of.calls a3 t912 t913 _ A13.out).mono ?_); rintro e w16 ⟨v914, rfl, ho0, hb⟩; have n0_ := Aside0.mk (Kd.R_lower ho0 (below_size uB)); have n1_ := Aside0.mk (below_step uB hb); clear HB; have HO915 := n0_; have HB := n1_; clear n0_ n1_; (try clear hb); (try clear hb2); (try clear hk); (try clear hi); (try clear ho0)) | (go_at_call 62; (with_reducible refine (windbreakref07_power.calls kj5 a1 t916 t917 _ A14.out).mono ?_); rintro e w17 ⟨v918, rfl, ho0, hb⟩; have n0_ := Aside0.mk (Kd.R_elder' (uR HO915.out) (Kd.R_base ho0) hb); have n1_ := Aside0.mk (Kd.R_lower (Kd.R_new' ho0 (Kd.R_lt (uR HO915.out))) (below_size uB)); have n2_ := Aside0.mk (below_step uB hb); clear HO915; clear HB; have HO915 := n0_; have HO919 := n1_; have HB := n2_; clear n0_ n1_ n2_; (try clear hb); (try clear hb2); (try clear hk); (try clear hi); (try clear ho0); obtain ⟨Ao18, co18, eo18⟩ := Kd.R_slice HO915.out; subst eo18; obtain ⟨Ao19, co19, eo19⟩ := Kd.R_slice HO919.out; subst eo19) | (go_at_call 60; (with_reducible refine (windbreakref03_Cmp.calls kj5 t912 _ _ t913 t916 _ _ t917 t920 _ ?side1 ?side2 ?side3 ?side4 A15.out).mono ?_); (case side1 => exact uC (Kd.R_reads' HO915.out).2.2); (case side2 => exact (Kd.R_reads' HO915.out).2.1); (case side3 => exact uC (Kd.R_reads' HO919.out).2.2); (case side4 => exact (Kd.R_reads' HO919.out).2.1); rintro e w20 ⟨rfl, hb⟩; have n0_ := Aside0.mk (Kd.R_below (uR HO915.out) hb); have n1_ := Aside0.mk (Kd.R_below (uR HO919.out) hb); have n2_ := Aside0.mk (below_step uB hb); clear HO915; clear HO919; clear HB; have HO915 := n0_; have HO919 := n1_; have HB := n2_; clear n0_ n1_ n2_; (try clear hb); (try clear hb2); (try clear hk); (try clear hi)))
      go_meet
      case rel => exact ⟨_, (decide (t920 ≥ 0)), (by first | rfl | (simp; done) | (simp [*]; done)), H', ⟨by have := HJ5.out; first | omega | exact Nat.le_refl _⟩, ⟨uB⟩⟩
    case rest =>
     clear HC11
     try clear c1
     try clear p2
     try clear c3
     try clear c5
     try clear c8
     try clear c9
     try clear c9b0
     try clear c10
     try clear c12
     try clear c12b0
     try clear p2
     obtain ⟨kq, x34_10, rfl, HA, HJ10, HB⟩ := hcut
     cases kq with
     | zero => exact absurd HA.out (by simp [windbreakref07_Pack.j1])
     | succ kj10 =>
      have H := HA.out
      clear HA
      simp only [windbreakref07_Pack.j1] at H
      by_cases c21 : x34_10 = true
      ·
       subst c21
       have H1 : (some (([] : List Int), 12)) = some (r1, r2) := by rw [if_pos rfl] at H; exact H
       clear H; have H := H1; clear H1
       simp only [Option.some.injEq, Prod.mk.injEq] at H
       obtain ⟨rfl, rfl⟩ := H
       go_wp2
       go_ret2
       exact ⟨_, by first | rfl | (simp [errW_none, errW_some] <;> rfl) | (simp [*, errW_none, errW_some] <;> rfl), by first | exact Kd.R_nil _ _ _ _ _ | exact Kd.N_nil _ _ _ _ _ | exact Kd.V_nil _ _ _ _ _ | exact Kd.Q_nil _ _ _ _ _ | exact Kd.S_nil _ _ _ _ _, uB⟩
      ·
       replace c21 := Bool.eq_false_iff.mpr c21
       subst c21
       have H1 : ((windbreakref03_Of.f a2).bind fun bt921 => ((windbreakref07_power.f kj10 a1).bind fun bt925 => ((windbreakref03_Mul.f kj10 bt921.1 bt921.2 bt925.1 bt925.2).bind fun bt929 => ((windbreakref03_Of.f a3).bind fun bt935 => ((windbreakref03_Add.f kj10 bt929.1 bt929.2.1 bt935.1 bt935.2).bind fun bt939 => ((windbreakref07_Encode.f kj10 l0 bt939.1 bt939.2.1).bind fun bt944 => (some (bt944.1, bt944.2)))))))) = some (r1, r2) := by rw [if_neg (show ¬ (false = true) by decide)] at H; exact H
       clear H; have H := H1; clear H1
       replace H := Option.bind_eq_some_iff.mp H
       obtain ⟨⟨t921, t922⟩, A220, H⟩ := H
       replace H : ((windbreakref07_power.f kj10 a1).bind fun bt925 => ((windbreakref03_Mul.f kj10 t921 t922 bt925.1 bt925.2).bind fun bt929 => ((windbreakref03_Of.f a3).bind fun bt935 => ((windbreakref03_Add.f kj10 bt929.1 bt929.2.1 bt935.1 bt935.2).bind fun bt939 => ((windbreakref07_Encode.f kj10 l0 bt939.1 bt939.2.1).bind fun bt944 => (some (bt944.1, bt944.2))))))) = some (r1, r2) := H
       have A22 := Aside0.mk A220; clear A220
       replace H := Option.bind_eq_some_iff.mp H
       obtain ⟨⟨t925, t926⟩, A230, H⟩ := H
       replace H : ((windbreakref03_Mul.f kj10 t921 t922 t925 t926).bind fun bt929 => ((windbreakref03_Of.f a3).bind fun bt935 => ((windbreakref03_Add.f kj10 bt929.1 bt929.2.1 bt935.1 bt935.2).bind fun bt939 => ((windbreakref07_Encode.f kj10 l0 bt939.1 bt939.2.1).bind fun bt944 => (some (bt944.1, bt944.2)))))) = some (r1, r2) := H
       have A23 := Aside0.mk A230; clear A230
       replace H := Option.bind_eq_some_iff.mp H
       obtain ⟨⟨t929, t930, t933⟩, A240, H⟩ := H
       replace H : ((windbreakref03_Of.f a3).bind fun bt935 => ((windbreakref03_Add.f kj10 t929 t930 bt935.1 bt935.2).bind fun bt939 => ((windbreakref07_Encode.f kj10 l0 bt939.1 bt939.2.1).bind fun bt944 => (some (bt944.1, bt944.2))))) = some (r1, r2) := H
       have A24 := Aside0.mk A240; clear A240
       replace H := Option.bind_eq_some_iff.mp H
       obtain ⟨⟨t935, t936⟩, A250, H⟩ := H
       replace H : ((windbreakref03_Add.f kj10 t929 t930 t935 t936).bind fun bt939 => ((windbreakref07_Encode.f kj10 l0 bt939.1 bt939.2.1).bind fun bt944 => (some (bt944.1, bt944.2)))) = some (r1, r2) := H
       have A25 := Aside0.mk A250; clear A250
       replace H := Option.bind_eq_some_iff.mp H
       obtain ⟨⟨t939, t940, t943⟩, A260, H⟩ := H
       replace H : ((windbreakref07_Encode.f kj10 l0 t939 t940).bind fun bt944 => (some (bt944.1, bt944.2))) = some (r1, r2) := H
       have A26 := Aside0.mk A260; clear A260
       replace H := Option.bind_eq_some_iff.mp H
       obtain ⟨⟨t944, t947⟩, A270, H⟩ := H
       replace H : (some (t944, t947)) = some (r1, r2) := H
       have A27 := Aside0.mk A270; clear A270
       simp only [Option.some.injEq, Prod.mk.injEq] at H
       obtain ⟨rfl, rfl⟩ := H
       try go_wp2_with (first | ((with_reducible refine gate_callee (f := 61) rfl ?_); refine goesL_ (some 37) rfl rfl Try.func61 (by kernel_rfl) rfl #[.int .i64 a2] rfl uM ?_; (with_reducible refine (windbreakref03_Of.calls a2 t921 t922 _ A22.out).mono ?_); rintro e w28 ⟨v923, rfl, ho0, hb⟩; refine ⟨_, rfl, ?_⟩; have n0_ := Aside0.mk (Kd.R_lower ho0 (below_size uB)); have n1_ := Aside0.mk (below_step uB hb); clear HB; have HO924 := n0_; have HB := n1_; clear n0_ n1_; (try clear hb); (try clear hb2); (try clear hk); (try clear hi); (try clear ho0)) | ((with_reducible refine gate_callee (f := 62) rfl ?_); refine goesL_ (some 39) rfl rfl Try.func62 (by kernel_rfl) rfl #[.int .i64 a1] rfl uM ?_; (with_reducible refine (windbreakref07_power.calls kj10 a1 t925 t926 _ A23.out).mono ?_); rintro e w29 ⟨v927, rfl, ho0, hb⟩; refine ⟨_, rfl, ?_⟩; have n0_ := Aside0.mk (Kd.R_elder' (uR HO924.out) (Kd.R_base ho0) hb); have n1_ := Aside0.mk (Kd.R_lower (Kd.R_new' ho0 (Kd.R_lt (uR HO924.out))) (below_size uB)); have n2_ := Aside0.mk (below_step uB hb); clear HO924; clear HB; have HO924 := n0_; have HO928 := n1_; have HB := n2_; clear n0_ n1_ n2_; (try clear hb); (try clear hb2); (try clear hk); (try clear hi); (try clear ho0); obtain ⟨Ao30, co30, eo30⟩ := Kd.R_slice HO924.out; subst eo30; obtain ⟨Ao31, co31, eo31⟩ := Kd.R_slice HO928.out; subst eo31) | ((with_reducible refine gate_callee (f := 63) rfl ?_); refine goesL_ (some 40) rfl rfl Try.func63 (by kernel_rfl) rfl #[.agg #[.bool t921, .slice Ao30 t922.length co30], .agg #[.bool t925, .slice Ao31 t926.length co31]] rfl uM ?_; (with_reducible refine (windbreakref03_Mul.calls kj10 t921 _ _ t922 t925 _ _ t926 t929 t930 t933 _ ?side1 ?side2 ?side3 ?side4 A24.out).mono ?_); (case side1 => exact uC (Kd.R_reads' HO924.out).2.2); (case side2 => exact (Kd.R_reads' HO924.out).2.1); (case side3 => exact uC (Kd.R_reads' HO928.out).2.2); (case side4 => exact (Kd.R_reads' HO928.out).2.1); rintro e w32 ⟨v931, rfl, ho0, hb⟩; refine ⟨_, rfl, ?_⟩; have n0_ := Aside0.mk (Kd.R_elder' (uR HO924.out) (Kd.R_base ho0) hb); have n1_ := Aside0.mk (Kd.R_elder' (uR HO928.out) (Kd.R_base ho0) hb); have n2_ := Aside0.mk (Kd.R_lower (Kd.R_new' (Kd.R_new' ho0 (Kd.R_lt (uR HO924.out))) (Kd.R_lt (uR HO928.out))) (below_size uB)); have n3_ := Aside0.mk (below_step uB hb); clear HO924; clear HO928; clear HB; have HO924 := n0_; have HO928 := n1_; have HO932 := n2_; have HB := n3_; clear n0_ n1_ n2_ n3_; (try clear hb); (try clear hb2); (try clear hk); (try clear hi); (try clear ho0)) | ((with_reducible refine gate_dst (N := 11) rfl ?_); refine box_event ?hg (N := 11) ?hd (cs := #[.bool false, .slice none 0 0]) (t := 52) ?hr ?_; (case hd => rfl); (case hg => rfl); (case hr => first | (go_simp; done) | (go_simp; rfl)); intro gb934 hg w33 hbox hb; have n0_ := Aside0.mk (Kd.R_below (uR HO924.out) hb); have n1_ := Aside0.mk (Kd.R_below (uR HO928.out) hb); have n2_ := Aside0.mk (Kd.R_below (uR HO932.out) hb); have n3_ := Aside0.mk (below_step uB hb); have n4_ := Aside0.mk (hbox); have n5_ := Aside0.mk ((by rw [hg]; exact (below_size uB) : w.heap.size ≤ gb934)); have n6_ := Aside0.mk ((by rw [hg]; exact (below_size uB) : w.heap.size ≤ gb934)); clear HO924; clear HO928; clear HO932; clear HB; have HO924 := n0_; have HO928 := n1_; have HO932 := n2_; have HB := n3_; have BK934 := n4_; have GW934 := n5_; have GE934 := n6_; clear n0_ n1_ n2_ n3_ n4_ n5_ n6_; clear hb hbox hg; have hcz34_0 : w33.cell? ⟨gb934, 0, none⟩ = some (.bool false) := (blk_cell BK934.out 0).trans rfl; have hcz34_1 : w33.cell? ⟨gb934, 1, none⟩ = some (.slice none 0 0) := (blk_cell BK934.out 1).trans rfl; have hfz34_0 := blk_frozen BK934.out 0; have hfz34_1 := blk_frozen BK934.out 1; obtain ⟨Ao35, co35, eo35⟩ := Kd.R_slice HO932.out; subst eo35))
       have n0_ : Aside0 (Kd.R (Kd.int .u64) 27 ((w33.setCell ⟨gb934, 0, none⟩ (.bool t929)).setCell ⟨gb934, 1, none⟩ (.slice Ao35 t930.length co35)) w.heap.size (fun k_ => some k_ ≠ (.slice Ao31 t926.length co31 : Value).ownBlock ∧ some k_ ≠ (.slice Ao35 t930.length co35 : Value).ownBlock) (.slice Ao30 t922.length co30) t922) := ⟨by (with_reducible repeat (first | apply Kd.R_alloc | apply Kd.R_drewN | apply Kd.R_drew)); exact Kd.R_mono (Kd.R_far (p := ⟨gb934, 1, none⟩) (Kd.R_far (p := ⟨gb934, 0, none⟩) (Kd.R_types HO924.out BK934.out (by decide)) (fun _ hk => hk.2) (.bool t929)) (fun _ hk => hk.2) (.slice Ao35 t930.length co35)) (fun _ hk => ⟨hk.1.1.2, hk.1.2⟩)⟩
       have n1_ : Aside0 (Kd.R (Kd.int .u64) 27 ((w33.setCell ⟨gb934, 0, none⟩ (.bool t929)).setCell ⟨gb934, 1, none⟩ (.slice Ao35 t930.length co35)) w.heap.size (fun k_ => some k_ ≠ (.slice Ao30 t922.length co30 : Value).ownBlock ∧ some k_ ≠ (.slice Ao35 t930.length co35 : Value).ownBlock) (.slice Ao31 t926.length co31) t926) := ⟨by (with_reducible repeat (first | apply Kd.R_alloc | apply Kd.R_drewN | apply Kd.R_drew)); exact Kd.R_mono (Kd.R_far (p := ⟨gb934, 1, none⟩) (Kd.R_far (p := ⟨gb934, 0, none⟩) (Kd.R_types HO928.out BK934.out (by decide)) (fun _ hk => hk.2) (.bool t929)) (fun _ hk => hk.2) (.slice Ao35 t930.length co35)) (fun _ hk => ⟨hk.1.1.2, hk.1.2⟩)⟩
       have n2_ : Aside0 (Kd.R (Kd.int .u64) 27 ((w33.setCell ⟨gb934, 0, none⟩ (.bool t929)).setCell ⟨gb934, 1, none⟩ (.slice Ao35 t930.length co35)) w.heap.size (fun k_ => some k_ ≠ (.slice Ao30 t922.length co30 : Value).ownBlock ∧ some k_ ≠ (.slice Ao31 t926.length co31 : Value).ownBlock) (.slice Ao35 t930.length co35) t930) := ⟨by (with_reducible repeat (first | apply Kd.R_alloc | apply Kd.R_drewN | apply Kd.R_drew)); exact Kd.R_mono (Kd.R_far (p := ⟨gb934, 1, none⟩) (Kd.R_far (p := ⟨gb934, 0, none⟩) (Kd.R_types HO932.out BK934.out (by decide)) (fun _ hk => hk.2) (.bool t929)) (fun _ hk => hk.2) (.slice Ao35 t930.length co35)) (fun _ hk => ⟨hk.1.1.2, hk.1.2⟩)⟩
       have n3_ : Aside0 (((w33.setCell ⟨gb934, 0, none⟩ (.bool t929)).setCell ⟨gb934, 1, none⟩ (.slice Ao35 t930.length co35)).heap[gb934]? = some (.cells #[.bool t929, .slice Ao35 t930.length co35] 52 (0, 0))) := ⟨by (with_reducible repeat (first | refine blk_drewN ?_ _ | refine blk_drew ?_ | refine blk_alloc ?_ _)); refine blk_put (cs := #[.bool t929, .slice none 0 0]) ?_ 1 _ rfl; (with_reducible repeat (first | refine blk_drewN ?_ _ | refine blk_drew ?_ | refine blk_alloc ?_ _)); refine blk_put (cs := #[.bool false, .slice none 0 0]) ?_ 0 _ rfl; (with_reducible repeat (first | refine blk_drewN ?_ _ | refine blk_drew ?_ | refine blk_alloc ?_ _)); exact BK934.out⟩
       have n4_ : Aside0 (Below w.heap.size w ((w33.setCell ⟨gb934, 0, none⟩ (.bool t929)).setCell ⟨gb934, 1, none⟩ (.slice Ao35 t930.length co35))) := ⟨uB⟩
       (try clear HO924); (try clear HO928); (try clear HO932); (try clear BK934); (try clear HB)
       generalize ((w33.setCell ⟨gb934, 0, none⟩ (.bool t929)).setCell ⟨gb934, 1, none⟩ (.slice Ao35 t930.length co35)) = w36 at n0_ n1_ n2_ n3_ n4_ ⊢
       have HO924 := n0_; have HO928 := n1_; have HO932 := n2_; have BK934 := n3_; have HB := n4_; clear n0_ n1_ n2_ n3_ n4_
       have n0_ := Aside0.mk (Kd.R_drew HO924.out)
       have n1_ := Aside0.mk (Kd.R_drew HO928.out)
       have n2_ := Aside0.mk (Kd.R_drew HO932.out)
       have n3_ := Aside0.mk (blk_drew BK934.out)
       have n4_ := Aside0.mk (below_drew1 HB.out)
       clear HO924; clear HO928; clear HO932; clear BK934; clear HB; have HO924 := n0_; have HO928 := n1_; have HO932 := n2_; have BK934 := n3_; have HB := n4_; clear n0_ n1_ n2_ n3_ n4_
       refine start_ (n := 8) (S := fun w' => w'.cell? ⟨gb934, 0, none⟩ = some (.bool t929) ∧ w'.cell? ⟨gb934, 1, none⟩ = some (.slice Ao35 t930.length co35)) (ds := [7]) #[false, false, false, false, false, false, false, false] (by kernel_rfl) rfl rfl ⟨(blk_cell BK934.out 0).trans rfl, (blk_cell BK934.out 1).trans rfl⟩ (fun hHeld => ?_); refine with_tabW windbreakref07_Pack.tab7 windbreakref07_Pack.bits7 (fun HT_ HW_ => ?_)
       generalize w36.drew = w37 at HO924 HO928 HO932 BK934 HB hHeld ⊢
       refine pure_ (i := 1) (N := some 45) (v := ?_) (a' := ?_) #[false, true, false, false, false, false, false, false] rfl rfl (any_of HT_.out (by kernel_rfl)) (fun _ _ _ h => h) (Or.inl ⟨by rfl, ?_⟩) ?_ ?_
       rotate_left
       ·
        intro w'
        go_simp
        with_reducible rfl
       rotate_left
       ·
        simp only [Act.put, List.setIfInBounds_toArray, List.set_cons_zero, List.set_cons_succ, i64_w, i32_w]
        rfl
       refine take_ (i := 0) (N := some 44) (v := ?_) (a' := ?_) #[true, true, false, false, false, false, false, false] rfl rfl (take_ofW HT_.out HW_.out (by kernel_rfl)) (fun _ _ _ h => h) (Or.inl ⟨by rfl, ?_⟩) hHeld ?_ ?_
       rotate_left
       ·
        rintro w' ⟨s0, s1⟩
        go_simp
        with_reducible rfl
       rotate_left
       ·
        simp only [Act.put, List.setIfInBounds_toArray, List.set_cons_zero, List.set_cons_succ, i64_w, i32_w]
        rfl
       refine one_ (i := 2) (N := some 46) #[true, true, true, false, false, false, false, false] rfl rfl (one_of HT_.out (by kernel_rfl)) (by decide) (fun K hK => ?_)
       refine goes_ Try.func61 (by kernel_rfl) rfl #[.int .i64 a3] (by rfl) rfl rfl uM ?_
       with_reducible refine (windbreakref03_Of.calls a3 t935 t936 _ A25.out).mono ?_
       rintro e w38 ⟨v937, rfl, ho0, hb⟩
       refine ⟨_, rfl, ?_⟩
       have n0_ := Aside0.mk (Kd.R_elder' (uR HO924.out) (Kd.R_base ho0) hb)
       have n1_ := Aside0.mk (Kd.R_elder' (uR HO928.out) (Kd.R_base ho0) hb)
       have n2_ := Aside0.mk (Kd.R_elder' (uR HO932.out) (Kd.R_base ho0) hb)
       have n3_ := Aside0.mk (Kd.R_lower (Kd.R_new' (Kd.R_new' (Kd.R_new' ho0 (Kd.R_lt (uR HO924.out))) (Kd.R_lt (uR HO928.out))) (Kd.R_lt (uR HO932.out))) (below_size uB))
       have n4_ := Aside0.mk (blk_below (uK BK934.out) hb)
       have n5_ := Aside0.mk (below_step uB hb)
       clear HO924; clear HO928; clear HO932; clear BK934; clear HB; have HO924 := n0_; have HO928 := n1_; have HO932 := n2_; have HO938 := n3_; have BK934 := n4_; have HB := n5_; clear n0_ n1_ n2_ n3_ n4_ n5_; (try clear hb); (try clear hb2); (try clear hk); (try clear hi); (try clear ho0)
       obtain ⟨Ao39, co39, eo39⟩ := Kd.R_slice HO938.out
       (first | subst eo39 | (injection eo39 with f1_ f2_ f3_; have f4_ := f1_.symm; have f5_ := f3_.symm; clear f1_ f2_ f3_; subst f4_; subst f5_))
       refine hK.out _ _ ⟨(blk_cell BK934.out 0).trans rfl, (blk_cell BK934.out 1).trans rfl⟩ (fun hHeld => ?_)
       clear hK K
       refine norm_ (a' := ?_) ?_ ?_
       rotate_left
       ·
        show Act.put _ (some 46) _ = _
        simp only [Act.put, List.setIfInBounds_toArray, List.set_cons_zero, List.set_cons_succ, i64_w, i32_w]
        rfl
       refine one_ (i := 3) (N := some 47) #[true, true, true, true, false, false, false, false] rfl rfl (one_of HT_.out (by kernel_rfl)) (by decide) (fun K hK => ?_)
       refine goes_ Try.func64 (by kernel_rfl) rfl #[.agg #[.bool t929, .slice Ao35 t930.length co35], .agg #[.bool t935, .slice Ao39 t936.length co39]] (by rfl) rfl rfl uM ?_
       with_reducible refine (windbreakref03_Add.calls kj10 t929 _ _ t930 t935 _ _ t936 t939 t940 t943 _ ?side1 ?side2 ?side3 ?side4 A26.out).mono ?_
       (case side1 => exact uC (Kd.R_reads' HO932.out).2.2)
       (case side2 => exact (Kd.R_reads' HO932.out).2.1)
       (case side3 => exact uC (Kd.R_reads' HO938.out).2.2)
       (case side4 => exact (Kd.R_reads' HO938.out).2.1)
       rintro e w40 ⟨v941, rfl, ho0, hb⟩
       refine ⟨_, rfl, ?_⟩
       have n0_ := Aside0.mk (Kd.R_elder' (uR HO924.out) (Kd.R_base ho0) hb)
       have n1_ := Aside0.mk (Kd.R_elder' (uR HO928.out) (Kd.R_base ho0) hb)
       have n2_ := Aside0.mk (Kd.R_elder' (uR HO932.out) (Kd.R_base ho0) hb)
       have n3_ := Aside0.mk (Kd.R_elder' (uR HO938.out) (Kd.R_base ho0) hb)
       have n4_ := Aside0.mk (Kd.R_lower (Kd.R_new' (Kd.R_new' (Kd.R_new' (Kd.R_new' ho0 (Kd.R_lt (uR HO924.out))) (Kd.R_lt (uR HO928.out))) (Kd.R_lt (uR HO932.out))) (Kd.R_lt (uR HO938.out))) (below_size uB))
       have n5_ := Aside0.mk (blk_below (uK BK934.out) hb)
       have n6_ := Aside0.mk (below_step uB hb)
       clear HO924; clear HO928; clear HO932; clear HO938; clear BK934; clear HB; have HO924 := n0_; have HO928 := n1_; have HO932 := n2_; have HO938 := n3_; have HO942 := n4_; have BK934 := n5_; have HB := n6_; clear n0_ n1_ n2_ n3_ n4_ n5_ n6_; (try clear hb); (try clear hb2); (try clear hk); (try clear hi); (try clear ho0)
       obtain ⟨Ao42, co42, eo42⟩ := Kd.R_slice HO942.out
       (first | subst eo42 | (injection eo42 with f1_ f2_ f3_; have f4_ := f1_.symm; have f5_ := f3_.symm; clear f1_ f2_ f3_; subst f4_; subst f5_))
       refine hK.out _ _ ⟨(blk_cell BK934.out 0).trans rfl, (blk_cell BK934.out 1).trans rfl⟩ (fun hHeld => ?_)
       clear hK K
       refine norm_ (a' := ?_) ?_ ?_
       rotate_left
       ·
        show Act.put _ (some 47) _ = _
        simp only [Act.put, List.setIfInBounds_toArray, List.set_cons_zero, List.set_cons_succ, i64_w, i32_w]
        rfl
       refine pure_ (i := 4) (N := some 43) (v := ?_) (a' := ?_) #[true, true, true, true, true, false, false, false] rfl rfl (any_of HT_.out (by kernel_rfl)) (fun _ _ _ h => h) (Or.inl ⟨by rfl, ?_⟩) ?_ ?_
       rotate_left
       ·
        intro w'
        go_simp
        with_reducible rfl
       rotate_left
       ·
        simp only [Act.put, List.setIfInBounds_toArray, List.set_cons_zero, List.set_cons_succ, i64_w, i32_w]
        rfl
       refine pure_ (i := 5) (N := some 48) (v := ?_) (a' := ?_) #[true, true, true, true, true, true, false, false] rfl rfl (any_of HT_.out (by kernel_rfl)) (fun _ _ _ h => h) (Or.inl ⟨by rfl, ?_⟩) ?_ ?_
       rotate_left
       ·
        intro w'
        go_simp
        with_reducible rfl
       rotate_left
       ·
        simp only [Act.put, List.setIfInBounds_toArray, List.set_cons_zero, List.set_cons_succ, i64_w, i32_w]
        rfl
       refine pure_ (i := 6) (N := some 49) (v := ?_) (a' := ?_) #[true, true, true, true, true, true, true, false] rfl rfl (any_of HT_.out (by kernel_rfl)) (fun _ _ _ h => h) (Or.inl ⟨by rfl, ?_⟩) ?_ ?_
       rotate_left
       ·
        intro w'
        go_simp
        with_reducible rfl
       rotate_left
       ·
        simp only [Act.put, List.setIfInBounds_toArray, List.set_cons_zero, List.set_cons_succ, i64_w, i32_w]
        rfl
       refine last_ (i := 7) (N := none) #[true, true, true, true, true, true, true, true] rfl rfl (one_of HT_.out (by kernel_rfl)) (by decide) (fun K hK => ?_)
       have hs41 : w40.cell? ⟨gb934, 0, none⟩ = some (.bool t929) := (blk_cell BK934.out 0).trans rfl
       have hfs41 := blk_frozen BK934.out 0
       have hs43 : w40.cell? ⟨gb934, 1, none⟩ = some (.slice Ao35 t930.length co35) := (blk_cell BK934.out 1).trans rfl
       have hfs43 := blk_frozen BK934.out 1
       refine skip_ (w1 := ?_) (by rfl) rfl ?_ ?_
       rotate_left
       ·
        go_simp
        rfl
       refine hK.out _ _ ?_
       clear hK K
       refine done_ (done_of HT_.out (by kernel_rfl)) ?_
       have hcz44_0 : w40.cell? ⟨gb934, 0, none⟩ = some (.bool t929) := (blk_cell BK934.out 0).trans rfl
       have hcz44_1 : w40.cell? ⟨gb934, 1, none⟩ = some (.slice Ao35 t930.length co35) := (blk_cell BK934.out 1).trans rfl
       have hfz44_0 := blk_frozen BK934.out 0
       have hfz44_1 := blk_frozen BK934.out 1
       try go_wp2_with (first | ((with_reducible refine gate_callee (f := 65) rfl ?_); refine goesL_ (some 52) rfl rfl Try.func65 (by kernel_rfl) rfl #[.slice A0 l0.length c0, .agg #[.bool t939, .slice Ao42 t940.length co42]] rfl uM ?_; (with_reducible refine (windbreakref07_Encode.calls kj10 _ _ l0 t939 _ _ t940 t944 t947 _ ?side1 ?side2 ?side3 ?side4 A27.out).mono ?_); (case side1 => exact Kd.C_below HR0.out uB); (case side2 => exact HC0.out); (case side3 => refine (Kd.R_reads' (e := 27) (base := w.heap.size) (ok := fun k_ => ((((True ∧ some k_ ≠ (.slice Ao30 t922.length co30 : Value).ownBlock) ∧ some k_ ≠ (.slice Ao31 t926.length co31 : Value).ownBlock) ∧ some k_ ≠ (.slice Ao35 t930.length co35 : Value).ownBlock) ∧ some k_ ≠ (.slice Ao39 t936.length co39 : Value).ownBlock)) (n := t940.length) (c := co42) ?_).2.2; exact (uR ((Kd.R_mono (Kd.R_far (p := ⟨gb934, 1, none⟩) (Kd.R_far (p := ⟨gb934, 0, none⟩) (Kd.R_types HO942.out BK934.out (by decide)) (fun _ hk => hk.2) (.bool t939)) (fun _ hk => hk.2) (.slice Ao42 t940.length co42)) (fun _ h_ => h_.1))))); (case side4 => exact (Kd.R_reads' HO942.out).2.1); rintro e w45 ⟨v945, rfl, ho0, hb⟩; refine ⟨_, rfl, ?_⟩; have n0_ := Aside0.mk (Kd.R_elder' (uR ((Kd.R_mono (Kd.R_far (p := ⟨gb934, 1, none⟩) (Kd.R_far (p := ⟨gb934, 0, none⟩) (Kd.R_types HO924.out BK934.out (by decide)) (fun _ hk => hk.2) (.bool t939)) (fun _ hk => hk.2) (.slice Ao42 t940.length co42)) (fun _ h_ => h_.1)))) (Kd.R_base ho0) hb); have n1_ := Aside0.mk (Kd.R_elder' (uR ((Kd.R_mono (Kd.R_far (p := ⟨gb934, 1, none⟩) (Kd.R_far (p := ⟨gb934, 0, none⟩) (Kd.R_types HO928.out BK934.out (by decide)) (fun _ hk => hk.2) (.bool t939)) (fun _ hk => hk.2) (.slice Ao42 t940.length co42)) (fun _ h_ => h_.1)))) (Kd.R_base ho0) hb); have n2_ := Aside0.mk (Kd.R_elder' (uR ((Kd.R_mono (Kd.R_far (p := ⟨gb934, 1, none⟩) (Kd.R_far (p := ⟨gb934, 0, none⟩) (Kd.R_types HO932.out BK934.out (by decide)) (fun _ hk => hk.2) (.bool t939)) (fun _ hk => hk.2) (.slice Ao42 t940.length co42)) (fun _ h_ => h_.1)))) (Kd.R_base ho0) hb); have n3_ := Aside0.mk (Kd.R_elder' (uR ((Kd.R_mono (Kd.R_far (p := ⟨gb934, 1, none⟩) (Kd.R_far (p := ⟨gb934, 0, none⟩) (Kd.R_types HO938.out BK934.out (by decide)) (fun _ hk => hk.2) (.bool t939)) (fun _ hk => hk.2) (.slice Ao42 t940.length co42)) (fun _ h_ => h_.1)))) (Kd.R_base ho0) hb); have n4_ := Aside0.mk (Kd.R_elder' (uR ((Kd.R_mono (Kd.R_far (p := ⟨gb934, 1, none⟩) (Kd.R_far (p := ⟨gb934, 0, none⟩) (Kd.R_types HO942.out BK934.out (by decide)) (fun _ hk => hk.2) (.bool t939)) (fun _ hk => hk.2) (.slice Ao42 t940.length co42)) (fun _ h_ => h_.1)))) (Kd.R_base ho0) hb); have n5_ := Aside0.mk (Kd.R_lower (Kd.R_new' (Kd.R_new' (Kd.R_new' (Kd.R_new' (Kd.R_new' ho0 (Kd.R_lt (uR ((Kd.R_mono (Kd.R_far (p := ⟨gb934, 1, none⟩) (Kd.R_far (p := ⟨gb934, 0, none⟩) (Kd.R_types HO924.out BK934.out (by decide)) (fun _ hk => hk.2) (.bool t939)) (fun _ hk => hk.2) (.slice Ao42 t940.length co42)) (fun _ h_ => h_.1)))))) (Kd.R_lt (uR ((Kd.R_mono (Kd.R_far (p := ⟨gb934, 1, none⟩) (Kd.R_far (p := ⟨gb934, 0, none⟩) (Kd.R_types HO928.out BK934.out (by decide)) (fun _ hk => hk.2) (.bool t939)) (fun _ hk => hk.2) (.slice Ao42 t940.length co42)) (fun _ h_ => h_.1)))))) (Kd.R_lt (uR ((Kd.R_mono (Kd.R_far (p := ⟨gb934, 1, none⟩) (Kd.R_far (p := ⟨gb934, 0, none⟩) (Kd.R_types HO932.out BK934.out (by decide)) (fun _ hk => hk.2) (.bool t939)) (fun _ hk => hk.2) (.slice Ao42 t940.length co42)) (fun _ h_ => h_.1)))))) (Kd.R_lt (uR ((Kd.R_mono (Kd.R_far (p := ⟨gb934, 1, none⟩) (Kd.R_far (p := ⟨gb934, 0, none⟩) (Kd.R_types HO938.out BK934.out (by decide)) (fun _ hk => hk.2) (.bool t939)) (fun _ hk => hk.2) (.slice Ao42 t940.length co42)) (fun _ h_ => h_.1)))))) (Kd.R_lt (uR ((Kd.R_mono (Kd.R_far (p := ⟨gb934, 1, none⟩) (Kd.R_far (p := ⟨gb934, 0, none⟩) (Kd.R_types HO942.out BK934.out (by decide)) (fun _ hk => hk.2) (.bool t939)) (fun _ hk => hk.2) (.slice Ao42 t940.length co42)) (fun _ h_ => h_.1)))))) (below_size uB)); have n6_ := Aside0.mk (blk_below (g := gb934) (o := .cells #[.bool t939, .slice Ao42 t940.length co42] 52 (0, 0)) (by (with_reducible repeat (first | refine blk_drewN ?_ _ | refine blk_drew ?_ | refine blk_alloc ?_ _)); refine blk_put (cs := #[.bool t939, .slice Ao35 t930.length co35]) ?_ 1 _ rfl; (with_reducible repeat (first | refine blk_drewN ?_ _ | refine blk_drew ?_ | refine blk_alloc ?_ _)); refine blk_put (cs := #[.bool t929, .slice Ao35 t930.length co35]) ?_ 0 _ rfl; (with_reducible repeat (first | refine blk_drewN ?_ _ | refine blk_drew ?_ | refine blk_alloc ?_ _)); exact BK934.out) hb); have n7_ := Aside0.mk (below_step uB hb); clear HO924; clear HO928; clear HO932; clear HO938; clear HO942; clear BK934; clear HB; have HO924 := n0_; have HO928 := n1_; have HO932 := n2_; have HO938 := n3_; have HO942 := n4_; have HO946 := n5_; have BK934 := n6_; have HB := n7_; clear n0_ n1_ n2_ n3_ n4_ n5_ n6_ n7_; (try clear hb); (try clear hb2); (try clear hk); (try clear hi); (try clear ho0)))
       go_ret2
       exact ⟨_, by first | rfl | (simp [errW_none, errW_some] <;> rfl) | (simp [*, errW_none, errW_some] <;> rfl), by (with_reducible repeat (first | apply Kd.R_alloc | apply Kd.R_drewN | apply Kd.R_drew)); exact Kd.R_mono HO946.out (fun _ hk => trivial), uB⟩

end Go.Proofs.Ytgeanpnkllnipab.F
end

section
namespace Go.Proofs.Ytgeanpnkllnipab.F
open Go.RowKit Go.Proofs.YtgeanpnkllnipabW.PrintWords Go.Proofs.YtgeanpnkllnipabW.PrintLast Go.Proofs.YtgeanpnkllnipabW.PrintMore
attribute [local go_sem] max2_int min2_int max_two min_two max_three min_three max_four min_four
set_option linter.unusedVariables false
set_option linter.unusedSimpArgs false

def windbreaklaw07_FixencPacks.f (k : Nat) (l0 : List Int) (a1 : Int) (a2_0 : Int) (a2_1 : Int) : Option (Bool) := (windbreaklaw07_few.f k (([l0] : List (List Int)))).bind fun t952 => (if t952 = true then ((windbreaklaw07_awake.f k).bind fun t953 => ((fixenc_Pack.f k l0 a1 a2_0 a2_1).bind fun bt954 => ((windbreakref07_Pack.f k l0 a1 a2_0 a2_1).bind fun bt958 => ((windbreakref01_Same.f k bt954.1 bt958.1).bind fun t962 => (if t953 = true then (if t962 = true then (some (bt954.2 == bt958.2)) else (some false)) else (some false)))))) else (some true))
set_option maxHeartbeats 8000000 in
set_option maxRecDepth 100000 in
theorem windbreaklaw07_FixencPacks.calls (k : Nat) (P0_ : Nat → Prop) (A0 : Option Addr) (c0 : Nat) (l0 : List Int) (a1 : Int) (a2_0 : Int) (a2_1 : Int) (r : Bool) (w : World) (hs0 : Kd.V (Kd.int .u64) 27 w w.heap.size (fun k_ => P0_ k_) (.slice A0 l0.length c0) l0) (h : windbreaklaw07_FixencPacks.f k l0 a1 a2_0 a2_1 = some r) :
  Calls Try.prog 10 #[.slice A0 l0.length c0, .int .i64 a1, .agg #[.int .i64 a2_0, .int .i64 a2_1]] w fun e w' => e = .returned (.bool r) ∧ Below w.heap.size w w' := by
 have hu39 := Try.underlying39
 have HO0 := Aside0.mk (show Kd.V (Kd.int .u64) 27 w w.heap.size (fun k_ => (P0_ k_ ∨ w.heap.size ≤ k_)) (.slice A0 l0.length c0) l0 from Kd.V_mono hs0 (fun k_ hk => .inl hk))
 have HB := Aside0.mk (Below.refl w.heap.size w)
 have H : ((windbreaklaw07_few.f k (([l0] : List (List Int)))).bind fun t952 => (if t952 = true then ((windbreaklaw07_awake.f k).bind fun t953 => ((fixenc_Pack.f k l0 a1 a2_0 a2_1).bind fun bt954 => ((windbreakref07_Pack.f k l0 a1 a2_0 a2_1).bind fun bt958 => ((windbreakref01_Same.f k bt954.1 bt958.1).bind fun t962 => (if t953 = true then (if t962 = true then (some (bt954.2 == bt958.2)) else (some false)) else (some false)))))) else (some true))) = some r := h
 clear h
 obtain ⟨y949, hy949⟩ : ∃ y_ : List (List Int), y_ = (([l0] : List (List Int))) := ⟨_, rfl⟩
 replace H : ((windbreaklaw07_few.f k y949).bind fun t952 => (if t952 = true then ((windbreaklaw07_awake.f k).bind fun t953 => ((fixenc_Pack.f k l0 a1 a2_0 a2_1).bind fun bt954 => ((windbreakref07_Pack.f k l0 a1 a2_0 a2_1).bind fun bt958 => ((windbreakref01_Same.f k bt954.1 bt958.1).bind fun t962 => (if t953 = true then (if t962 = true then (some (bt954.2 == bt958.2)) else (some false)) else (some false)))))) else (some true))) = some r := by first | (rw [hy949]; with_reducible exact H) | (have H2_ := (Option.bind_some _ _).symm.trans H; rw [hy949]; with_reducible exact H2_) | (have H2_ := (Option.bind_some _ _).symm.trans H; with_reducible exact H2_) | with_reducible exact H | (rw [hy949]; exact H) | exact H
 have Ny949 := Aside0.mk hy949; clear hy949
 replace H := Option.bind_eq_some_iff.mp H
 obtain ⟨t952, A40, H⟩ := H
 replace H : (if t952 = true then ((windbreaklaw07_awake.f k).bind fun t953 => ((fixenc_Pack.f k l0 a1 a2_0 a2_1).bind fun bt954 => ((windbreakref07_Pack.f k l0 a1 a2_0 a2_1).bind fun bt958 => ((windbreakref01_Same.f k bt954.1 bt958.1).bind fun t962 => (if t953 = true then (if t962 = true then (some (bt954.2 == bt958.2)) else (some false)) else (some false)))))) else (some true)) = some r := H
 have A4 := Aside0.mk A40; clear A40
 by_cases c5 : t952 = true
 ·
  subst c5
  have H1 : ((windbreaklaw07_awake.f k).bind fun t953 => ((fixenc_Pack.f k l0 a1 a2_0 a2_1).bind fun bt954 => ((windbreakref07_Pack.f k l0 a1 a2_0 a2_1).bind fun bt958 => ((windbreakref01_Same.f k bt954.1 bt958.1).bind fun t962 => (if t953 = true then (if t962 = true then (some (bt954.2 == bt958.2)) else (some false)) else (some false)))))) = some r := by rw [if_pos rfl] at H; exact H
  clear H; have H := H1; clear H1
  replace H := Option.bind_eq_some_iff.mp H
  obtain ⟨t953, A60, H⟩ := H
  replace H : ((fixenc_Pack.f k l0 a1 a2_0 a2_1).bind fun bt954 => ((windbreakref07_Pack.f k l0 a1 a2_0 a2_1).bind fun bt958 => ((windbreakref01_Same.f k bt954.1 bt958.1).bind fun t962 => (if t953 = true then (if t962 = true then (some (bt954.2 == bt958.2)) else (some false)) else (some false))))) = some r := H
  have A6 := Aside0.mk A60; clear A60
  replace H := Option.bind_eq_some_iff.mp H
  obtain ⟨⟨t954, t955⟩, A70, H⟩ := H
  replace H : ((windbreakref07_Pack.f k l0 a1 a2_0 a2_1).bind fun bt958 => ((windbreakref01_Same.f k t954 bt958.1).bind fun t962 => (if t953 = true then (if t962 = true then (some (t955 == bt958.2)) else (some false)) else (some false)))) = some r := H
  have A7 := Aside0.mk A70; clear A70
  replace H := Option.bind_eq_some_iff.mp H
  obtain ⟨⟨t958, t959⟩, A80, H⟩ := H
  replace H : ((windbreakref01_Same.f k t954 t958).bind fun t962 => (if t953 = true then (if t962 = true then (some (t955 == t959)) else (some false)) else (some false))) = some r := H
  have A8 := Aside0.mk A80; clear A80
  replace H := Option.bind_eq_some_iff.mp H
  obtain ⟨t962, A90, H⟩ := H
  replace H : (if t953 = true then (if t962 = true then (some (t955 == t959)) else (some false)) else (some false)) = some r := H
  have A9 := Aside0.mk A90; clear A90
  by_cases c10 : t953 = true
  ·
   subst c10
   have H1 : (if t962 = true then (some (t955 == t959)) else (some false)) = some r := by rw [if_pos rfl] at H; exact H
   clear H; have H := H1; clear H1
   by_cases c11 : t962 = true
   ·
    subst c11
    have H1 : (some (t955 == t959)) = some r := by rw [if_pos rfl] at H; exact H
    clear H; have H := H1; clear H1
    obtain rfl := Option.some.inj H
    go_enter Try.func10, Try.ntmps10
    go_wp2_with (first | ((with_reducible refine gate_dst (N := 5) rfl ?_); refine box_event ?hg (N := 5) ?hd (cs := #[.int .i64 a2_0, .int .i64 a2_1]) (t := 39) ?hr ?_; (case hd => rfl); (case hg => rfl); (case hr => first | (go_simp; done) | (go_simp; rfl)); intro gb948 hg w12 hbox hb; have n0_ := Aside0.mk (Kd.V_below (Kd.V_elderB (uV HO0.out) gb948 (Nat.le_of_eq hg.symm)) hb); have n1_ := Aside0.mk (below_step uB hb); have n2_ := Aside0.mk (hbox); have n3_ := Aside0.mk ((by rw [hg]; exact (below_size uB) : w.heap.size ≤ gb948)); have n4_ := Aside0.mk ((by rw [hg]; exact (below_size uB) : w.heap.size ≤ gb948)); clear HO0; clear HB; have HO0 := n0_; have HB := n1_; have BK948 := n2_; have GW948 := n3_; have GE948 := n4_; clear n0_ n1_ n2_ n3_ n4_; clear hb hbox hg) | ((with_reducible refine gate_dst (N := 14) rfl ?_); refine Kd.N_lit (Kd.slice 27 (Kd.int .u64)) _ 23 ?hg (N' := 14) ?hd (xs := ([l0] : List (List Int))) (inner := [.slice A0 l0.length c0]) (ok := (fun k_ => (P0_ k_ ∨ w.heap.size ≤ k_) ∧ k_ ≠ gb948)) (okp := (fun k_ => (P0_ k_ ∨ w.heap.size ≤ k_) ∧ k_ ≠ gb948)) ?hr ?hp (fun _ hk => hk) ((show ∀ k_, w12.heap.size ≤ k_ → (fun k_ => (P0_ k_ ∨ w.heap.size ≤ k_) ∧ k_ ≠ gb948) k_ from fun k_ hk => ⟨(.inr (Nat.le_trans (below_size uB) hk)), Kd.freshB (g := gb948) (o := .cells #[.int .i64 a2_0, .int .i64 a2_1] 39 (0, 0)) (uK BK948.out) k_ hk⟩) _ (Nat.le_refl _)) (Below.refl _ _) (Nat.le_refl _) (by simp) ?_; (case hd => rfl); (case hg => rfl); (case hr => first | (go_simp; done) | (go_simp; rfl) | (go_simp; simp only [u64_u8]; done) | (go_simp; simp only [u64_u8]; rfl)); (case hp => exact (Reps.one (show Kd.FK (Kd.slice 27 (Kd.int .u64)) _ _ l0 [.slice A0 l0.length c0] from (Kd.FK_slice_mk (Kd.V_reads' (Kd.V_mono (ok' := (fun k_ => (P0_ k_ ∨ w.heap.size ≤ k_) ∧ k_ ≠ gb948)) (HO0.out) (fun k_ hk => ⟨hk.1, hk.2⟩))).2.1 (Kd.V_F (Kd.V_mono (ok' := (fun k_ => (P0_ k_ ∨ w.heap.size ≤ k_) ∧ k_ ≠ gb948)) (HO0.out) (fun k_ hk => ⟨hk.1, hk.2⟩))))) (Reps.none _ _))); intro v950 w13 ho14 hb hg_ hnew_; clear hg_ hnew_; (first | rw [← Ny949.out] at ho14 | (simp only [Int.reduceToNat] at ho14; rw [← Ny949.out] at ho14)); have n0_ := Aside0.mk (Kd.V_elder' (uV HO0.out) (Kd.N_base ho14) hb); have n1_ := Aside0.mk (Kd.N_lower ho14 (below_size uB)); have n2_ := Aside0.mk (blk_below (uK BK948.out) hb); have n3_ := Aside0.mk (below_step uB hb); clear HO0; clear BK948; clear HB; have HO0 := n0_; have HO951 := n1_; have BK948 := n2_; have HB := n3_; clear n0_ n1_ n2_ n3_; clear hb ho14; obtain ⟨Ao15, co15, eo15⟩ := Kd.N_slice HO951.out; subst eo15) | ((with_reducible refine gate_callee (f := 27) rfl ?_); refine goesL_ (some 15) rfl rfl Try.func27 (by kernel_rfl) rfl #[.slice Ao15 y949.length co15] rfl uM ?_; (with_reducible refine (windbreaklaw07_few.calls k _ _ y949 true _ ?side1 ?side2 A4.out).mono ?_); (case side1 => exact uC (Kd.N_reads' HO951.out).2.2); (case side2 => exact (Kd.N_reads' HO951.out).2.1); rintro e w' ⟨rfl, ⟨nd, rfl⟩⟩; refine ⟨_, rfl, ?_⟩) | ((with_reducible refine gate_callee (f := 28) rfl ?_); refine goesL_ (some 17) rfl rfl Try.func28 (by kernel_rfl) rfl #[] rfl uM ?_; (with_reducible refine (windbreaklaw07_awake.calls k  true _ A6.out).mono ?_); rintro e w16 ⟨rfl, hb⟩; refine ⟨_, rfl, ?_⟩; have n0_ := Aside0.mk (Kd.V_below (uV HO0.out) hb); have n1_ := Aside0.mk (Kd.N_below (uN HO951.out) hb); have n2_ := Aside0.mk (blk_below (uK BK948.out) hb); have n3_ := Aside0.mk (below_step uB hb); clear HO0; clear HO951; clear BK948; clear HB; have HO0 := n0_; have HO951 := n1_; have BK948 := n2_; have HB := n3_; clear n0_ n1_ n2_ n3_; (try clear hb); (try clear hb2); (try clear hk); (try clear hi); have hcz17_0 : w16.cell? ⟨gb948, 0, none⟩ = some (.int .i64 a2_0) := (blk_cell BK948.out 0).trans rfl; have hcz17_1 : w16.cell? ⟨gb948, 1, none⟩ = some (.int .i64 a2_1) := (blk_cell BK948.out 1).trans rfl; have hfz17_0 := blk_frozen BK948.out 0; have hfz17_1 := blk_frozen BK948.out 1) | ((with_reducible refine gate_callee (f := 29) rfl ?_); refine goesL_ (some 25) rfl rfl Try.func29 (by kernel_rfl) rfl #[.slice A0 l0.length c0, .int .i64 a1, .int .i64 a2_0, .int .i64 a2_1] rfl uM ?_; (with_reducible refine (fixenc_Pack.calls k _ _ l0 a1 a2_0 a2_1 t954 t955 _ ?side1 ?side2 A7.out).mono ?_); (case side1 => exact uC (Kd.V_reads' HO0.out).2.2); (case side2 => exact (Kd.V_reads' HO0.out).2.1); rintro e w18 ⟨v956, rfl, ho0, hb⟩; refine ⟨_, rfl, ?_⟩; have n0_ := Aside0.mk (Kd.V_elder' (uV HO0.out) (Kd.R_base ho0) hb); have n1_ := Aside0.mk (Kd.N_elder' (uN HO951.out) (Kd.R_base ho0) hb); have n2_ := Aside0.mk (Kd.R_lower (Kd.R_newM (M := fun k_ => (w.heap.size ≤ k_)) ho0 (below_size uB) (fun k_ h_ => h_)) (below_size uB)); have n3_ := Aside0.mk (blk_below (uK BK948.out) hb); have n4_ := Aside0.mk (below_step uB hb); clear HO0; clear HO951; clear BK948; clear HB; have HO0 := n0_; have HO951 := n1_; have HO957 := n2_; have BK948 := n3_; have HB := n4_; clear n0_ n1_ n2_ n3_ n4_; (try clear hb); (try clear hb2); (try clear hk); (try clear hi); (try clear ho0); have hcz19_0 : w18.cell? ⟨gb948, 0, none⟩ = some (.int .i64 a2_0) := (blk_cell BK948.out 0).trans rfl; have hcz19_1 : w18.cell? ⟨gb948, 1, none⟩ = some (.int .i64 a2_1) := (blk_cell BK948.out 1).trans rfl; have hfz19_0 := blk_frozen BK948.out 0; have hfz19_1 := blk_frozen BK948.out 1) | ((with_reducible refine gate_callee (f := 30) rfl ?_); refine goesL_ (some 35) rfl rfl Try.func30 (by kernel_rfl) rfl #[.slice A0 l0.length c0, .int .i64 a1, .int .i64 a2_0, .int .i64 a2_1] rfl uM ?_; (with_reducible refine (windbreakref07_Pack.calls k _ _ l0 a1 a2_0 a2_1 t958 t959 _ ?side1 ?side2 A8.out).mono ?_); (case side1 => exact uC (Kd.V_reads' HO0.out).2.2); (case side2 => exact (Kd.V_reads' HO0.out).2.1); rintro e w20 ⟨v960, rfl, ho0, hb⟩; refine ⟨_, rfl, ?_⟩; have n0_ := Aside0.mk (Kd.V_elder' (uV HO0.out) (Kd.R_base ho0) hb); have n1_ := Aside0.mk (Kd.N_elder' (uN HO951.out) (Kd.R_base ho0) hb); have n2_ := Aside0.mk (Kd.R_elder' (uR HO957.out) (Kd.R_base ho0) hb); have n3_ := Aside0.mk (Kd.R_lower (Kd.R_new' (Kd.R_newM (M := fun k_ => (w.heap.size ≤ k_)) ho0 (below_size uB) (fun k_ h_ => h_)) (Kd.R_lt (uR HO957.out))) (below_size uB)); have n4_ := Aside0.mk (blk_below (uK BK948.out) hb); have n5_ := Aside0.mk (below_step uB hb); clear HO0; clear HO951; clear HO957; clear BK948; clear HB; have HO0 := n0_; have HO951 := n1_; have HO957 := n2_; have HO961 := n3_; have BK948 := n4_; have HB := n5_; clear n0_ n1_ n2_ n3_ n4_ n5_; (try clear hb); (try clear hb2); (try clear hk); (try clear hi); (try clear ho0); obtain ⟨Ao21, co21, eo21⟩ := Kd.R_slice HO957.out; subst eo21; obtain ⟨Ao22, co22, eo22⟩ := Kd.R_slice HO961.out; subst eo22) | ((with_reducible refine gate_callee (f := 18) rfl ?_); refine goesL_ (some 40) rfl rfl Try.func18 (by kernel_rfl) rfl #[.slice Ao21 t954.length co21, .slice Ao22 t958.length co22] rfl uM ?_; (with_reducible refine (windbreakref01_Same.calls k _ _ t954 _ _ t958 true _ ?side1 ?side2 ?side3 ?side4 A9.out).mono ?_); (case side1 => exact uC (Kd.R_reads' HO957.out).2.2); (case side2 => exact (Kd.R_reads' HO957.out).2.1); (case side3 => exact uC (Kd.R_reads' HO961.out).2.2); (case side4 => exact (Kd.R_reads' HO961.out).2.1); rintro e w' ⟨rfl, ⟨nd, rfl⟩⟩; refine ⟨_, rfl, ?_⟩))
    go_ret
    exact ⟨by first | rfl | (simp [errW_none, errW_some] <;> rfl) | (simp [*, errW_none, errW_some] <;> rfl), uB⟩
   ·
    replace c11 := Bool.eq_false_iff.mpr c11
    subst c11
    have H1 : (some false) = some r := by rw [if_neg (show ¬ (false = true) by decide)] at H; exact H
    clear H; have H := H1; clear H1
    obtain rfl := Option.some.inj H
    go_enter Try.func10, Try.ntmps10
    go_wp2_with (first | ((with_reducible refine gate_dst (N := 5) rfl ?_); refine box_event ?hg (N := 5) ?hd (cs := #[.int .i64 a2_0, .int .i64 a2_1]) (t := 39) ?hr ?_; (case hd => rfl); (case hg => rfl); (case hr => first | (go_simp; done) | (go_simp; rfl)); intro gb948 hg w23 hbox hb; have n0_ := Aside0.mk (Kd.V_below (Kd.V_elderB (uV HO0.out) gb948 (Nat.le_of_eq hg.symm)) hb); have n1_ := Aside0.mk (below_step uB hb); have n2_ := Aside0.mk (hbox); have n3_ := Aside0.mk ((by rw [hg]; exact (below_size uB) : w.heap.size ≤ gb948)); have n4_ := Aside0.mk ((by rw [hg]; exact (below_size uB) : w.heap.size ≤ gb948)); clear HO0; clear HB; have HO0 := n0_; have HB := n1_; have BK948 := n2_; have GW948 := n3_; have GE948 := n4_; clear n0_ n1_ n2_ n3_ n4_; clear hb hbox hg) | ((with_reducible refine gate_dst (N := 14) rfl ?_); refine Kd.N_lit (Kd.slice 27 (Kd.int .u64)) _ 23 ?hg (N' := 14) ?hd (xs := ([l0] : List (List Int))) (inner := [.slice A0 l0.length c0]) (ok := (fun k_ => (P0_ k_ ∨ w.heap.size ≤ k_) ∧ k_ ≠ gb948)) (okp := (fun k_ => (P0_ k_ ∨ w.heap.size ≤ k_) ∧ k_ ≠ gb948)) ?hr ?hp (fun _ hk => hk) ((show ∀ k_, w23.heap.size ≤ k_ → (fun k_ => (P0_ k_ ∨ w.heap.size ≤ k_) ∧ k_ ≠ gb948) k_ from fun k_ hk => ⟨(.inr (Nat.le_trans (below_size uB) hk)), Kd.freshB (g := gb948) (o := .cells #[.int .i64 a2_0, .int .i64 a2_1] 39 (0, 0)) (uK BK948.out) k_ hk⟩) _ (Nat.le_refl _)) (Below.refl _ _) (Nat.le_refl _) (by simp) ?_; (case hd => rfl); (case hg => rfl); (case hr => first | (go_simp; done) | (go_simp; rfl) | (go_simp; simp only [u64_u8]; done) | (go_simp; simp only [u64_u8]; rfl)); (case hp => exact (Reps.one (show Kd.FK (Kd.slice 27 (Kd.int .u64)) _ _ l0 [.slice A0 l0.length c0] from (Kd.FK_slice_mk (Kd.V_reads' (Kd.V_mono (ok' := (fun k_ => (P0_ k_ ∨ w.heap.size ≤ k_) ∧ k_ ≠ gb948)) (HO0.out) (fun k_ hk => ⟨hk.1, hk.2⟩))).2.1 (Kd.V_F (Kd.V_mono (ok' := (fun k_ => (P0_ k_ ∨ w.heap.size ≤ k_) ∧ k_ ≠ gb948)) (HO0.out) (fun k_ hk => ⟨hk.1, hk.2⟩))))) (Reps.none _ _))); intro v950 w24 ho25 hb hg_ hnew_; clear hg_ hnew_; (first | rw [← Ny949.out] at ho25 | (simp only [Int.reduceToNat] at ho25; rw [← Ny949.out] at ho25)); have n0_ := Aside0.mk (Kd.V_elder' (uV HO0.out) (Kd.N_base ho25) hb); have n1_ := Aside0.mk (Kd.N_lower ho25 (below_size uB)); have n2_ := Aside0.mk (blk_below (uK BK948.out) hb); have n3_ := Aside0.mk (below_step uB hb); clear HO0; clear BK948; clear HB; have HO0 := n0_; have HO951 := n1_; have BK948 := n2_; have HB := n3_; clear n0_ n1_ n2_ n3_; clear hb ho25; obtain ⟨Ao26, co26, eo26⟩ := Kd.N_slice HO951.out; subst eo26) | ((with_reducible refine gate_callee (f := 27) rfl ?_); refine goesL_ (some 15) rfl rfl Try.func27 (by kernel_rfl) rfl #[.slice Ao26 y949.length co26] rfl uM ?_; (with_reducible refine (windbreaklaw07_few.calls k _ _ y949 true _ ?side1 ?side2 A4.out).mono ?_); (case side1 => exact uC (Kd.N_reads' HO951.out).2.2); (case side2 => exact (Kd.N_reads' HO951.out).2.1); rintro e w' ⟨rfl, ⟨nd, rfl⟩⟩; refine ⟨_, rfl, ?_⟩) | ((with_reducible refine gate_callee (f := 28) rfl ?_); refine goesL_ (some 17) rfl rfl Try.func28 (by kernel_rfl) rfl #[] rfl uM ?_; (with_reducible refine (windbreaklaw07_awake.calls k  true _ A6.out).mono ?_); rintro e w27 ⟨rfl, hb⟩; refine ⟨_, rfl, ?_⟩; have n0_ := Aside0.mk (Kd.V_below (uV HO0.out) hb); have n1_ := Aside0.mk (Kd.N_below (uN HO951.out) hb); have n2_ := Aside0.mk (blk_below (uK BK948.out) hb); have n3_ := Aside0.mk (below_step uB hb); clear HO0; clear HO951; clear BK948; clear HB; have HO0 := n0_; have HO951 := n1_; have BK948 := n2_; have HB := n3_; clear n0_ n1_ n2_ n3_; (try clear hb); (try clear hb2); (try clear hk); (try clear hi); have hcz28_0 : w27.cell? ⟨gb948, 0, none⟩ = some (.int .i64 a2_0) := (blk_cell BK948.out 0).trans rfl; have hcz28_1 : w27.cell? ⟨gb948, 1, none⟩ = some (.int .i64 a2_1) := (blk_cell BK948.out 1).trans rfl; have hfz28_0 := blk_frozen BK948.out 0; have hfz28_1 := blk_frozen BK948.out 1) | ((with_reducible refine gate_callee (f := 29) rfl ?_); refine goesL_ (some 25) rfl rfl Try.func29 (by kernel_rfl) rfl #[.slice A0 l0.length c0, .int .i64 a1, .int .i64 a2_0, .int .i64 a2_1] rfl uM ?_; (with_reducible refine (fixenc_Pack.calls k _ _ l0 a1 a2_0 a2_1 t954 t955 _ ?side1 ?side2 A7.out).mono ?_); (case side1 => exact uC (Kd.V_reads' HO0.out).2.2); (case side2 => exact (Kd.V_reads' HO0.out).2.1); rintro e w29 ⟨v956, rfl, ho0, hb⟩; refine ⟨_, rfl, ?_⟩; have n0_ := Aside0.mk (Kd.V_elder' (uV HO0.out) (Kd.R_base ho0) hb); have n1_ := Aside0.mk (Kd.N_elder' (uN HO951.out) (Kd.R_base ho0) hb); have n2_ := Aside0.mk (Kd.R_lower (Kd.R_newM (M := fun k_ => (w.heap.size ≤ k_)) ho0 (below_size uB) (fun k_ h_ => h_)) (below_size uB)); have n3_ := Aside0.mk (blk_below (uK BK948.out) hb); have n4_ := Aside0.mk (below_step uB hb); clear HO0; clear HO951; clear BK948; clear HB; have HO0 := n0_; have HO951 := n1_; have HO957 := n2_; have BK948 := n3_; have HB := n4_; clear n0_ n1_ n2_ n3_ n4_; (try clear hb); (try clear hb2); (try clear hk); (try clear hi); (try clear ho0); have hcz30_0 : w29.cell? ⟨gb948, 0, none⟩ = some (.int .i64 a2_0) := (blk_cell BK948.out 0).trans rfl; have hcz30_1 : w29.cell? ⟨gb948, 1, none⟩ = some (.int .i64 a2_1) := (blk_cell BK948.out 1).trans rfl; have hfz30_0 := blk_frozen BK948.out 0; have hfz30_1 := blk_frozen BK948.out 1) | ((with_reducible refine gate_callee (f := 30) rfl ?_); refine goesL_ (some 35) rfl rfl Try.func30 (by kernel_rfl) rfl #[.slice A0 l0.length c0, .int .i64 a1, .int .i64 a2_0, .int .i64 a2_1] rfl uM ?_; (with_reducible refine (windbreakref07_Pack.calls k _ _ l0 a1 a2_0 a2_1 t958 t959 _ ?side1 ?side2 A8.out).mono ?_); (case side1 => exact uC (Kd.V_reads' HO0.out).2.2); (case side2 => exact (Kd.V_reads' HO0.out).2.1); rintro e w31 ⟨v960, rfl, ho0, hb⟩; refine ⟨_, rfl, ?_⟩; have n0_ := Aside0.mk (Kd.V_elder' (uV HO0.out) (Kd.R_base ho0) hb); have n1_ := Aside0.mk (Kd.N_elder' (uN HO951.out) (Kd.R_base ho0) hb); have n2_ := Aside0.mk (Kd.R_elder' (uR HO957.out) (Kd.R_base ho0) hb); have n3_ := Aside0.mk (Kd.R_lower (Kd.R_new' (Kd.R_newM (M := fun k_ => (w.heap.size ≤ k_)) ho0 (below_size uB) (fun k_ h_ => h_)) (Kd.R_lt (uR HO957.out))) (below_size uB)); have n4_ := Aside0.mk (blk_below (uK BK948.out) hb); have n5_ := Aside0.mk (below_step uB hb); clear HO0; clear HO951; clear HO957; clear BK948; clear HB; have HO0 := n0_; have HO951 := n1_; have HO957 := n2_; have HO961 := n3_; have BK948 := n4_; have HB := n5_; clear n0_ n1_ n2_ n3_ n4_ n5_; (try clear hb); (try clear hb2); (try clear hk); (try clear hi); (try clear ho0); obtain ⟨Ao32, co32, eo32⟩ := Kd.R_slice HO957.out; subst eo32; obtain ⟨Ao33, co33, eo33⟩ := Kd.R_slice HO961.out; subst eo33) | ((with_reducible refine gate_callee (f := 18) rfl ?_); refine goesL_ (some 40) rfl rfl Try.func18 (by kernel_rfl) rfl #[.slice Ao32 t954.length co32, .slice Ao33 t958.length co33] rfl uM ?_; (with_reducible refine (windbreakref01_Same.calls k _ _ t954 _ _ t958 false _ ?side1 ?side2 ?side3 ?side4 A9.out).mono ?_); (case side1 => exact uC (Kd.R_reads' HO957.out).2.2); (case side2 => exact (Kd.R_reads' HO957.out).2.1); (case side3 => exact uC (Kd.R_reads' HO961.out).2.2); (case side4 => exact (Kd.R_reads' HO961.out).2.1); rintro e w' ⟨rfl, ⟨nd, rfl⟩⟩; refine ⟨_, rfl, ?_⟩))
    go_ret
    exact ⟨by first | rfl | (simp [errW_none, errW_some] <;> rfl) | (simp [*, errW_none, errW_some] <;> rfl), uB⟩
  ·
   replace c10 := Bool.eq_false_iff.mpr c10
   subst c10
   have H1 : (some false) = some r := by rw [if_neg (show ¬ (false = true) by decide)] at H; exact H
   clear H; have H := H1; clear H1
   obtain rfl := Option.some.inj H
   go_enter Try.func10, Try.ntmps10
   go_wp2_with (first | ((with_reducible refine gate_dst (N := 5) rfl ?_); refine box_event ?hg (N := 5) ?hd (cs := #[.int .i64 a2_0, .int .i64 a2_1]) (t := 39) ?hr ?_; (case hd => rfl); (case hg => rfl); (case hr => first | (go_simp; done) | (go_simp; rfl)); intro gb948 hg w34 hbox hb; have n0_ := Aside0.mk (Kd.V_below (Kd.V_elderB (uV HO0.out) gb948 (Nat.le_of_eq hg.symm)) hb); have n1_ := Aside0.mk (below_step uB hb); have n2_ := Aside0.mk (hbox); have n3_ := Aside0.mk ((by rw [hg]; exact (below_size uB) : w.heap.size ≤ gb948)); have n4_ := Aside0.mk ((by rw [hg]; exact (below_size uB) : w.heap.size ≤ gb948)); clear HO0; clear HB; have HO0 := n0_; have HB := n1_; have BK948 := n2_; have GW948 := n3_; have GE948 := n4_; clear n0_ n1_ n2_ n3_ n4_; clear hb hbox hg) | ((with_reducible refine gate_dst (N := 14) rfl ?_); refine Kd.N_lit (Kd.slice 27 (Kd.int .u64)) _ 23 ?hg (N' := 14) ?hd (xs := ([l0] : List (List Int))) (inner := [.slice A0 l0.length c0]) (ok := (fun k_ => (P0_ k_ ∨ w.heap.size ≤ k_) ∧ k_ ≠ gb948)) (okp := (fun k_ => (P0_ k_ ∨ w.heap.size ≤ k_) ∧ k_ ≠ gb948)) ?hr ?hp (fun _ hk => hk) ((show ∀ k_, w34.heap.size ≤ k_ → (fun k_ => (P0_ k_ ∨ w.heap.size ≤ k_) ∧ k_ ≠ gb948) k_ from fun k_ hk => ⟨(.inr (Nat.le_trans (below_size uB) hk)), Kd.freshB (g := gb948) (o := .cells #[.int .i64 a2_0, .int .i64 a2_1] 39 (0, 0)) (uK BK948.out) k_ hk⟩) _ (Nat.le_refl _)) (Below.refl _ _) (Nat.le_refl _) (by simp) ?_; (case hd => rfl); (case hg => rfl); (case hr => first | (go_simp; done) | (go_simp; rfl) | (go_simp; simp only [u64_u8]; done) | (go_simp; simp only [u64_u8]; rfl)); (case hp => exact (Reps.one (show Kd.FK (Kd.slice 27 (Kd.int .u64)) _ _ l0 [.slice A0 l0.length c0] from (Kd.FK_slice_mk (Kd.V_reads' (Kd.V_mono (ok' := (fun k_ => (P0_ k_ ∨ w.heap.size ≤ k_) ∧ k_ ≠ gb948)) (HO0.out) (fun k_ hk => ⟨hk.1, hk.2⟩))).2.1 (Kd.V_F (Kd.V_mono (ok' := (fun k_ => (P0_ k_ ∨ w.heap.size ≤ k_) ∧ k_ ≠ gb948)) (HO0.out) (fun k_ hk => ⟨hk.1, hk.2⟩))))) (Reps.none _ _))); intro v950 w35 ho36 hb hg_ hnew_; clear hg_ hnew_; (first | rw [← Ny949.out] at ho36 | (simp only [Int.reduceToNat] at ho36; rw [← Ny949.out] at ho36)); have n0_ := Aside0.mk (Kd.V_elder' (uV HO0.out) (Kd.N_base ho36) hb); have n1_ := Aside0.mk (Kd.N_lower ho36 (below_size uB)); have n2_ := Aside0.mk (blk_below (uK BK948.out) hb); have n3_ := Aside0.mk (below_step uB hb); clear HO0; clear BK948; clear HB; have HO0 := n0_; have HO951 := n1_; have BK948 := n2_; have HB := n3_; clear n0_ n1_ n2_ n3_; clear hb ho36; obtain ⟨Ao37, co37, eo37⟩ := Kd.N_slice HO951.out; subst eo37) | ((with_reducible refine gate_callee (f := 27) rfl ?_); refine goesL_ (some 15) rfl rfl Try.func27 (by kernel_rfl) rfl #[.slice Ao37 y949.length co37] rfl uM ?_; (with_reducible refine (windbreaklaw07_few.calls k _ _ y949 true _ ?side1 ?side2 A4.out).mono ?_); (case side1 => exact uC (Kd.N_reads' HO951.out).2.2); (case side2 => exact (Kd.N_reads' HO951.out).2.1); rintro e w' ⟨rfl, ⟨nd, rfl⟩⟩; refine ⟨_, rfl, ?_⟩) | ((with_reducible refine gate_callee (f := 28) rfl ?_); refine goesL_ (some 17) rfl rfl Try.func28 (by kernel_rfl) rfl #[] rfl uM ?_; (with_reducible refine (windbreaklaw07_awake.calls k  false _ A6.out).mono ?_); rintro e w38 ⟨rfl, hb⟩; refine ⟨_, rfl, ?_⟩; have n0_ := Aside0.mk (Kd.V_below (uV HO0.out) hb); have n1_ := Aside0.mk (Kd.N_below (uN HO951.out) hb); have n2_ := Aside0.mk (blk_below (uK BK948.out) hb); have n3_ := Aside0.mk (below_step uB hb); clear HO0; clear HO951; clear BK948; clear HB; have HO0 := n0_; have HO951 := n1_; have BK948 := n2_; have HB := n3_; clear n0_ n1_ n2_ n3_; (try clear hb); (try clear hb2); (try clear hk); (try clear hi); have hcz39_0 : w38.cell? ⟨gb948, 0, none⟩ = some (.int .i64 a2_0) := (blk_cell BK948.out 0).trans rfl; have hcz39_1 : w38.cell? ⟨gb948, 1, none⟩ = some (.int .i64 a2_1) := (blk_cell BK948.out 1).trans rfl; have hfz39_0 := blk_frozen BK948.out 0; have hfz39_1 := blk_frozen BK948.out 1) | ((with_reducible refine gate_callee (f := 29) rfl ?_); refine goesL_ (some 25) rfl rfl Try.func29 (by kernel_rfl) rfl #[.slice A0 l0.length c0, .int .i64 a1, .int .i64 a2_0, .int .i64 a2_1] rfl uM ?_; (with_reducible refine (fixenc_Pack.calls k _ _ l0 a1 a2_0 a2_1 t954 t955 _ ?side1 ?side2 A7.out).mono ?_); (case side1 => exact uC (Kd.V_reads' HO0.out).2.2); (case side2 => exact (Kd.V_reads' HO0.out).2.1); rintro e w40 ⟨v956, rfl, ho0, hb⟩; refine ⟨_, rfl, ?_⟩; have n0_ := Aside0.mk (Kd.V_elder' (uV HO0.out) (Kd.R_base ho0) hb); have n1_ := Aside0.mk (Kd.N_elder' (uN HO951.out) (Kd.R_base ho0) hb); have n2_ := Aside0.mk (Kd.R_lower (Kd.R_newM (M := fun k_ => (w.heap.size ≤ k_)) ho0 (below_size uB) (fun k_ h_ => h_)) (below_size uB)); have n3_ := Aside0.mk (blk_below (uK BK948.out) hb); have n4_ := Aside0.mk (below_step uB hb); clear HO0; clear HO951; clear BK948; clear HB; have HO0 := n0_; have HO951 := n1_; have HO957 := n2_; have BK948 := n3_; have HB := n4_; clear n0_ n1_ n2_ n3_ n4_; (try clear hb); (try clear hb2); (try clear hk); (try clear hi); (try clear ho0); have hcz41_0 : w40.cell? ⟨gb948, 0, none⟩ = some (.int .i64 a2_0) := (blk_cell BK948.out 0).trans rfl; have hcz41_1 : w40.cell? ⟨gb948, 1, none⟩ = some (.int .i64 a2_1) := (blk_cell BK948.out 1).trans rfl; have hfz41_0 := blk_frozen BK948.out 0; have hfz41_1 := blk_frozen BK948.out 1) | ((with_reducible refine gate_callee (f := 30) rfl ?_); refine goesL_ (some 35) rfl rfl Try.func30 (by kernel_rfl) rfl #[.slice A0 l0.length c0, .int .i64 a1, .int .i64 a2_0, .int .i64 a2_1] rfl uM ?_; (with_reducible refine (windbreakref07_Pack.calls k _ _ l0 a1 a2_0 a2_1 t958 t959 _ ?side1 ?side2 A8.out).mono ?_); (case side1 => exact uC (Kd.V_reads' HO0.out).2.2); (case side2 => exact (Kd.V_reads' HO0.out).2.1); rintro e w42 ⟨v960, rfl, ho0, hb⟩; refine ⟨_, rfl, ?_⟩; have n0_ := Aside0.mk (Kd.V_elder' (uV HO0.out) (Kd.R_base ho0) hb); have n1_ := Aside0.mk (Kd.N_elder' (uN HO951.out) (Kd.R_base ho0) hb); have n2_ := Aside0.mk (Kd.R_elder' (uR HO957.out) (Kd.R_base ho0) hb); have n3_ := Aside0.mk (Kd.R_lower (Kd.R_new' (Kd.R_newM (M := fun k_ => (w.heap.size ≤ k_)) ho0 (below_size uB) (fun k_ h_ => h_)) (Kd.R_lt (uR HO957.out))) (below_size uB)); have n4_ := Aside0.mk (blk_below (uK BK948.out) hb); have n5_ := Aside0.mk (below_step uB hb); clear HO0; clear HO951; clear HO957; clear BK948; clear HB; have HO0 := n0_; have HO951 := n1_; have HO957 := n2_; have HO961 := n3_; have BK948 := n4_; have HB := n5_; clear n0_ n1_ n2_ n3_ n4_ n5_; (try clear hb); (try clear hb2); (try clear hk); (try clear hi); (try clear ho0); obtain ⟨Ao43, co43, eo43⟩ := Kd.R_slice HO957.out; subst eo43; obtain ⟨Ao44, co44, eo44⟩ := Kd.R_slice HO961.out; subst eo44) | ((with_reducible refine gate_callee (f := 18) rfl ?_); refine goesL_ (some 40) rfl rfl Try.func18 (by kernel_rfl) rfl #[.slice Ao43 t954.length co43, .slice Ao44 t958.length co44] rfl uM ?_; (with_reducible refine (windbreakref01_Same.calls k _ _ t954 _ _ t958 t962 _ ?side1 ?side2 ?side3 ?side4 A9.out).mono ?_); (case side1 => exact uC (Kd.R_reads' HO957.out).2.2); (case side2 => exact (Kd.R_reads' HO957.out).2.1); (case side3 => exact uC (Kd.R_reads' HO961.out).2.2); (case side4 => exact (Kd.R_reads' HO961.out).2.1); rintro e w' ⟨rfl, ⟨nd, rfl⟩⟩; refine ⟨_, rfl, ?_⟩))
   go_ret
   exact ⟨by first | rfl | (simp [errW_none, errW_some] <;> rfl) | (simp [*, errW_none, errW_some] <;> rfl), uB⟩
 ·
  replace c5 := Bool.eq_false_iff.mpr c5
  subst c5
  have H1 : (some true) = some r := by rw [if_neg (show ¬ (false = true) by decide)] at H; exact H
  clear H; have H := H1; clear H1
  obtain rfl := Option.some.inj H
  go_enter Try.func10, Try.ntmps10
  go_wp2_with (first | ((with_reducible refine gate_dst (N := 5) rfl ?_); refine box_event ?hg (N := 5) ?hd (cs := #[.int .i64 a2_0, .int .i64 a2_1]) (t := 39) ?hr ?_; (case hd => rfl); (case hg => rfl); (case hr => first | (go_simp; done) | (go_simp; rfl)); intro gb948 hg w45 hbox hb; have n0_ := Aside0.mk (Kd.V_below (Kd.V_elderB (uV HO0.out) gb948 (Nat.le_of_eq hg.symm)) hb); have n1_ := Aside0.mk (below_step uB hb); have n2_ := Aside0.mk (hbox); have n3_ := Aside0.mk ((by rw [hg]; exact (below_size uB) : w.heap.size ≤ gb948)); have n4_ := Aside0.mk ((by rw [hg]; exact (below_size uB) : w.heap.size ≤ gb948)); clear HO0; clear HB; have HO0 := n0_; have HB := n1_; have BK948 := n2_; have GW948 := n3_; have GE948 := n4_; clear n0_ n1_ n2_ n3_ n4_; clear hb hbox hg) | ((with_reducible refine gate_dst (N := 14) rfl ?_); refine Kd.N_lit (Kd.slice 27 (Kd.int .u64)) _ 23 ?hg (N' := 14) ?hd (xs := ([l0] : List (List Int))) (inner := [.slice A0 l0.length c0]) (ok := (fun k_ => (P0_ k_ ∨ w.heap.size ≤ k_) ∧ k_ ≠ gb948)) (okp := (fun k_ => (P0_ k_ ∨ w.heap.size ≤ k_) ∧ k_ ≠ gb948)) ?hr ?hp (fun _ hk => hk) ((show ∀ k_, w45.heap.size ≤ k_ → (fun k_ => (P0_ k_ ∨ w.heap.size ≤ k_) ∧ k_ ≠ gb948) k_ from fun k_ hk => ⟨(.inr (Nat.le_trans (below_size uB) hk)), Kd.freshB (g := gb948) (o := .cells #[.int .i64 a2_0, .int .i64 a2_1] 39 (0, 0)) (uK BK948.out) k_ hk⟩) _ (Nat.le_refl _)) (Below.refl _ _) (Nat.le_refl _) (by simp) ?_; (case hd => rfl); (case hg => rfl); (case hr => first | (go_simp; done) | (go_simp; rfl) | (go_simp; simp only [u64_u8]; done) | (go_simp; simp only [u64_u8]; rfl)); (case hp => exact (Reps.one (show Kd.FK (Kd.slice 27 (Kd.int .u64)) _ _ l0 [.slice A0 l0.length c0] from (Kd.FK_slice_mk (Kd.V_reads' (Kd.V_mono (ok' := (fun k_ => (P0_ k_ ∨ w.heap.size ≤ k_) ∧ k_ ≠ gb948)) (HO0.out) (fun k_ hk => ⟨hk.1, hk.2⟩))).2.1 (Kd.V_F (Kd.V_mono (ok' := (fun k_ => (P0_ k_ ∨ w.heap.size ≤ k_) ∧ k_ ≠ gb948)) (HO0.out) (fun k_ hk => ⟨hk.1, hk.2⟩))))) (Reps.none _ _))); intro v950 w46 ho47 hb hg_ hnew_; clear hg_ hnew_; (first | rw [← Ny949.out] at ho47 | (simp only [Int.reduceToNat] at ho47; rw [← Ny949.out] at ho47)); have n0_ := Aside0.mk (Kd.V_elder' (uV HO0.out) (Kd.N_base ho47) hb); have n1_ := Aside0.mk (Kd.N_lower ho47 (below_size uB)); have n2_ := Aside0.mk (blk_below (uK BK948.out) hb); have n3_ := Aside0.mk (below_step uB hb); clear HO0; clear BK948; clear HB; have HO0 := n0_; have HO951 := n1_; have BK948 := n2_; have HB := n3_; clear n0_ n1_ n2_ n3_; clear hb ho47; obtain ⟨Ao48, co48, eo48⟩ := Kd.N_slice HO951.out; subst eo48) | ((with_reducible refine gate_callee (f := 27) rfl ?_); refine goesL_ (some 15) rfl rfl Try.func27 (by kernel_rfl) rfl #[.slice Ao48 y949.length co48] rfl uM ?_; (with_reducible refine (windbreaklaw07_few.calls k _ _ y949 false _ ?side1 ?side2 A4.out).mono ?_); (case side1 => exact uC (Kd.N_reads' HO951.out).2.2); (case side2 => exact (Kd.N_reads' HO951.out).2.1); rintro e w' ⟨rfl, ⟨nd, rfl⟩⟩; refine ⟨_, rfl, ?_⟩))
  go_ret
  exact ⟨by first | rfl | (simp [errW_none, errW_some] <;> rfl) | (simp [*, errW_none, errW_some] <;> rfl), uB⟩

def windbreaklaw07_FixencPacks.Pure : Prop := ∀ (l0 : List Int) (a1 : Int) (a2_0 : Int) (a2_1 : Int), l0.length ≤ maxLen → l0.length * 8 ≤ 140737488351232 → (∀ x ∈ l0, (Lit.int .u64 x).wf = true) → (Lit.int .i64 a1).wf = true → (Lit.int .i64 a2_0).wf = true → (Lit.int .i64 a2_1).wf = true → ∃ k, windbreaklaw07_FixencPacks.f k l0 a1 a2_0 a2_1 = some true
theorem windbreaklaw07_FixencPacks.walk (P : windbreaklaw07_FixencPacks.Pure) (a0 : Option Addr) (len0 cap0 : Nat) (z0 : List Int) (a1 : Int) (a2_0 : Int) (a2_1 : Int) (w : World) (w0 : (a0 = none ∧ len0 = 0 ∧ cap0 = 0 ∧ z0 = []) ∨ ∃ x, a0 = some x ∧ len0 ≤ cap0 ∧ cap0 ≤ maxLen ∧ z0.length = cap0 ∧ (∀ i, i < z0.length → w.cell? (x.add i) = some (.int .u64 (z0.getD i 0))) ∧ ∀ n ∈ z0, (Lit.int .u64 n).wf = true) (y0 : len0 * 8 ≤ 140737488351232) (w1 : (Lit.int .i64 a1).wf = true) (w2_0 : (Lit.int .i64 a2_0).wf = true) (w2_1 : (Lit.int .i64 a2_1).wf = true) :
  Calls Try.prog 10 #[.slice a0 len0 cap0, .int .i64 a1, .agg #[.int .i64 a2_0, .int .i64 a2_1]] w fun e w' => e = .returned (.bool true) ∧ Below w.heap.size w w' := by
 obtain ⟨l0, rfl, hr0, hm0, hw0, hc0⟩ := ReadsInt.ofRowC w0
 obtain ⟨k, h⟩ := P l0 a1 a2_0 a2_1 hm0 y0 hw0 w1 w2_0 w2_1
 refine (windbreaklaw07_FixencPacks.calls k (fun k_ => k_ < w.heap.size) _ _ l0 a1 a2_0 a2_1 true w (Kd.V_mk hc0 (Kd.C_F (Kd.heap_int .u64) (Kd.C_of_reads (d := (0 : Int)) (h1 := fun _ => rfl) hr0))) h).mono ?_
 rintro e w' ⟨rfl, hd⟩
 exact ⟨rfl, hd⟩

end Go.Proofs.Ytgeanpnkllnipab.F
end

section
namespace Go.Proofs.Ytgeanpnkllnipab.Z
open Go.RowKit Go.Proofs.YtgeanpnkllnipabW.PrintWords
set_option linter.unusedSimpArgs false
set_option linter.unusedVariables false

def Evt {α : Type} (g : Nat → Option α) (r : α) : Prop := ∃ n, ∀ k, n ≤ k → g k = some r
theorem Evt.of {α : Type} {g : Nat → Option α} {r : α} (h : ∀ k, g k = some r) : Evt g r := ⟨0, fun k _ => h k⟩
theorem Evt.pure {α : Type} (r : α) : Evt (fun _ => some r) r := ⟨0, fun _ _ => rfl⟩
theorem Evt.bind {α β : Type} {g : Nat → Option α} {h : α → Nat → Option β} {a : α} {b : β} (h1 : Evt g a) (h2 : Evt (h a) b) : Evt (fun k => (g k).bind fun x => h x k) b := by
  obtain ⟨n, hn⟩ := h1
  obtain ⟨m, hm⟩ := h2
  exact ⟨n + m, fun k hk => by simp only [hn k (by omega), Option.bind_some]; exact hm k (by omega)⟩
theorem Evt.succ {α : Type} {g : Nat → Option α} {r : α} (h : Evt (fun k => g (k + 1)) r) : Evt g r := by
  obtain ⟨n, hn⟩ := h
  refine ⟨n + 1, fun k hk => ?_⟩
  obtain ⟨m, rfl⟩ : ∃ m, k = m + 1 := ⟨k - 1, by omega⟩
  exact hn m (by omega)
theorem Evt.get {α : Type} {g : Nat → Option α} {r : α} (h : Evt g r) : ∃ k, g k = some r := by
  obtain ⟨n, hn⟩ := h
  exact ⟨n, hn n (Nat.le_refl _)⟩
theorem Evt.congr {α : Type} {g g' : Nat → Option α} {r r' : α} (h : Evt g r) (hg : ∀ k, g' k = g k) (hr : r = r') : Evt g' r' := by
  subst hr
  obtain ⟨n, hn⟩ := h
  exact ⟨n, fun k hk => (hg k).trans (hn k hk)⟩
theorem Evt.ite_pos {α : Type} {c : Prop} [Decidable c] {g h : Nat → Option α} {r : α} (hc : c) (hg : Evt g r) : Evt (fun k => if c then g k else h k) r := by
  obtain ⟨n, hn⟩ := hg
  exact ⟨n, fun k hk => (if_pos hc).trans (hn k hk)⟩
theorem Evt.ite_neg {α : Type} {c : Prop} [Decidable c] {g h : Nat → Option α} {r : α} (hc : ¬ c) (hg : Evt h r) : Evt (fun k => if c then g k else h k) r := by
  obtain ⟨n, hn⟩ := hg
  exact ⟨n, fun k hk => (if_neg hc).trans (hn k hk)⟩
theorem Evt.cond {α : Type} {c : Prop} [Decidable c] {g h : Nat → Option α} {r s : α} (hg : c → Evt g r) (hh : ¬ c → Evt h s) : Evt (fun k => if c then g k else h k) (if c then r else s) := by
  by_cases hc : c
  · rw [if_pos hc]; exact Evt.ite_pos hc (hg hc)
  · rw [if_neg hc]; exact Evt.ite_neg hc (hh hc)

theorem Evt.cond' {α : Type} {c : Prop} [Decidable c] {g h : Nat → Option α} {r : α} (hg : c → Evt g r) (hh : ¬ c → Evt h r) : Evt (fun k => if c then g k else h k) r := by
  by_cases hc : c
  · exact Evt.ite_pos hc (hg hc)
  · exact Evt.ite_neg hc (hh hc)

theorem w64 {x : Int} (h0 : -9223372036854775808 ≤ x) (h1 : x < 9223372036854775808) : wrap64 x = x := by unfold wrap64; omega
theorem wu64 (x : Int) : IntKind.u64.wrap x = x % 18446744073709551616 := by simp [IntKind.wrap, IntKind.bits, IntKind.signed]
theorem wu64_of {x : Int} (h0 : 0 ≤ x) (h1 : x < 18446744073709551616) : IntKind.u64.wrap x = x := by rw [wu64]; omega
theorem wf_u64 {x : Int} (h : (Lit.int .u64 x).wf = true) : 0 ≤ x ∧ x < 18446744073709551616 := by
  simp [Lit.wf, IntKind.min, IntKind.max, IntKind.bits, IntKind.signed] at h
  omega
theorem wf_i64 {x : Int} (h : (Lit.int .i64 x).wf = true) : -9223372036854775808 ≤ x ∧ x < 9223372036854775808 := by
  simp [Lit.wf, IntKind.min, IntKind.max, IntKind.bits, IntKind.signed] at h
  omega
theorem rd_getD (l : List Int) (i : Int) : rd l i = l.getD i.toNat 0 := rfl
theorem rd_nat (l : List Int) (i : Nat) : rd l (i : Int) = l.getD i 0 := rfl

def val (B : Int) : List Int → Int
  | [] => 0
  | d :: l => d + B * val B l
def Dig (B : Int) (l : List Int) : Prop := ∀ x, x ∈ l → 0 ≤ x ∧ x < B
def Can (l : List Int) : Prop := ∀ h : l ≠ [], l.getLast h ≠ 0
def strip : List Int → List Int
  | [] => []
  | d :: l => if strip l = [] then (if d = 0 then [] else [d]) else d :: strip l

theorem Dig.nil {B : Int} : Dig B [] := fun _ h => by simp at h
theorem Dig.cons {B d : Int} {l : List Int} : Dig B (d :: l) ↔ (0 ≤ d ∧ d < B) ∧ Dig B l := by
  unfold Dig
  simp
theorem Dig.append {B : Int} {l m : List Int} : Dig B (l ++ m) ↔ Dig B l ∧ Dig B m := by
  unfold Dig
  constructor
  · intro h
    exact ⟨fun x hx => h x (by simp [hx]), fun x hx => h x (by simp [hx])⟩
  · intro h x hx
    rcases List.mem_append.1 hx with hx | hx
    · exact h.1 x hx
    · exact h.2 x hx
theorem Dig.take {B : Int} {l : List Int} (h : Dig B l) (n : Nat) : Dig B (l.take n) := fun x hx => h x (List.mem_of_mem_take hx)
theorem Dig.drop {B : Int} {l : List Int} (h : Dig B l) (n : Nat) : Dig B (l.drop n) := fun x hx => h x (List.mem_of_mem_drop hx)
theorem Dig.getD {B : Int} {l : List Int} (h : Dig B l) (hB : 0 < B) (i : Nat) : 0 ≤ l.getD i 0 ∧ l.getD i 0 < B := by
  rw [List.getD_eq_getElem?_getD]
  cases he : l[i]? with
  | none => simp; omega
  | some x => simpa using h x (List.mem_of_getElem? he)
theorem Dig.set {B : Int} {l : List Int} (h : Dig B l) (i : Nat) {v : Int} (hv : 0 ≤ v ∧ v < B) : Dig B (l.set i v) := by
  intro x hx
  rcases List.mem_or_eq_of_mem_set hx with hx | rfl
  · exact h x hx
  · exact hv
theorem Dig.replicate {B : Int} (hB : 0 < B) (n : Nat) : Dig B (List.replicate n 0) := by
  intro x hx
  have := List.eq_of_mem_replicate hx
  omega

theorem val_append (B : Int) (l m : List Int) : val B (l ++ m) = val B l + B ^ l.length * val B m := by
  induction l with
  | nil => simp [val]
  | cons d l ih => simp only [List.cons_append, val, ih, List.length_cons, Int.pow_succ]; grind
theorem val_replicate (B : Int) (n : Nat) : val B (List.replicate n 0) = 0 := by
  induction n with
  | zero => rfl
  | succ n ih => simp [List.replicate_succ, val, ih]
theorem val_nonneg {B : Int} (hB : 0 < B) {l : List Int} (h : Dig B l) : 0 ≤ val B l := by
  induction l with
  | nil => simp [val]
  | cons d l ih =>
    have h' := Dig.cons.1 h
    have h1 := ih h'.2
    have : 0 ≤ B * val B l := Int.mul_nonneg (by omega) h1
    simp only [val]
    omega
theorem val_lt {B : Int} (hB : 0 < B) {l : List Int} (h : Dig B l) : val B l < B ^ l.length := by
  induction l with
  | nil => simp [val]
  | cons d l ih =>
    have h' := Dig.cons.1 h
    have h1 := ih h'.2
    have h2 : B * val B l ≤ B * (B ^ l.length - 1) := Int.mul_le_mul_of_nonneg_left (by omega) (by omega)
    have h3 : B * (B ^ l.length - 1) = B * B ^ l.length - B := by grind
    simp only [val, List.length_cons, Int.pow_succ]
    have h4 : B ^ l.length * B = B * B ^ l.length := Int.mul_comm _ _
    omega
theorem Can.nil : Can [] := fun h => absurd rfl h
theorem Can.tail {d : Int} {l : List Int} (h : Can (d :: l)) : Can l := by
  intro hl
  have := h (by simp)
  rwa [List.getLast_cons hl] at this
theorem Can.one {d : Int} (h : d ≠ 0) : Can [d] := fun _ => by simpa using h
theorem Can.cons {d : Int} {l : List Int} (h : Can l) (hl : l ≠ []) : Can (d :: l) := by
  intro _
  rw [List.getLast_cons hl]
  exact h hl
theorem val_pos {B : Int} (hB : 0 < B) {l : List Int} (h : Dig B l) (hc : Can l) (hl : l ≠ []) : B ^ (l.length - 1) ≤ val B l := by
  induction l with
  | nil => exact absurd rfl hl
  | cons d l ih =>
    have h' := Dig.cons.1 h
    by_cases e : l = []
    · subst e
      have := hc (by simp)
      simp [val] at this ⊢
      omega
    · have h1 := ih h'.2 hc.tail e
      have h2 : l.length - 1 + 1 = l.length := by have := List.length_pos_iff.2 e; omega
      simp only [val, List.length_cons, Nat.add_sub_cancel]
      rw [← h2, Int.pow_succ, Int.mul_comm]
      have : B * B ^ (l.length - 1) ≤ B * val B l := Int.mul_le_mul_of_nonneg_left h1 (by omega)
      omega
theorem val_zero {B : Int} (hB : 0 < B) {l : List Int} (h : Dig B l) (hc : Can l) (h0 : val B l = 0) : l = [] := by
  by_cases e : l = []
  · exact e
  · have := val_pos hB h hc e
    have h2 : 0 < B ^ (l.length - 1) := Int.pow_pos hB
    omega
theorem val_inj {B : Int} (hB : 0 < B) {l m : List Int} (hl : Dig B l) (hm : Dig B m) (cl : Can l) (cm : Can m) (h : val B l = val B m) : l = m := by
  induction l generalizing m with
  | nil => exact (val_zero hB hm cm h.symm).symm
  | cons d l ih =>
    cases m with
    | nil => exact val_zero hB hl cl h
    | cons e m =>
      have h1 := Dig.cons.1 hl
      have h2 := Dig.cons.1 hm
      simp only [val] at h
      have h3 : d = e := by
        have a1 : (d + B * val B l) % B = d := by rw [Int.add_mul_emod_self_left]; exact Int.emod_eq_of_lt h1.1.1 h1.1.2
        have a2 : (e + B * val B m) % B = e := by rw [Int.add_mul_emod_self_left]; exact Int.emod_eq_of_lt h2.1.1 h2.1.2
        rw [← a1, ← a2, h]
      subst h3
      have h4 : val B l = val B m := by
        have : B * val B l = B * val B m := by omega
        exact Int.eq_of_mul_eq_mul_left (by omega) this
      rw [ih h1.2 h2.2 cl.tail cm.tail h4]
theorem strip_val (B : Int) (l : List Int) : val B (strip l) = val B l := by
  induction l with
  | nil => rfl
  | cons d l ih =>
    simp only [strip]
    split
    · rename_i h
      rw [h] at ih
      simp only [val] at ih
      split
      · rename_i h0; simp [val, ← ih, h0]
      · simp [val, ← ih]
    · simp [val, ih]
theorem strip_can (l : List Int) : Can (strip l) := by
  induction l with
  | nil => exact Can.nil
  | cons d l ih =>
    simp only [strip]
    split
    · split
      · exact Can.nil
      · rename_i h; exact Can.one h
    · rename_i h; exact ih.cons h
theorem strip_dig {B : Int} {l : List Int} (h : Dig B l) : Dig B (strip l) := by
  induction l with
  | nil => exact Dig.nil
  | cons d l ih =>
    have h' := Dig.cons.1 h
    simp only [strip]
    split
    · split
      · exact Dig.nil
      · exact Dig.cons.2 ⟨h'.1, Dig.nil⟩
    · exact Dig.cons.2 ⟨h'.1, ih h'.2⟩
theorem strip_of_can {l : List Int} (h : Can l) : strip l = l := by
  induction l with
  | nil => rfl
  | cons d l ih =>
    simp only [strip]
    rw [ih h.tail]
    split
    · rename_i e
      subst e
      have := h (by simp)
      simp at this
      simp [this]
    · rfl
theorem strip_snoc_zero (l : List Int) : strip (l ++ [0]) = strip l := by
  induction l with
  | nil => simp [strip]
  | cons d l ih => simp only [List.cons_append, strip, ih]
theorem strip_snoc {l : List Int} {d : Int} (h : d ≠ 0) : strip (l ++ [d]) = l ++ [d] := by
  apply strip_of_can
  intro hl
  simpa using h
theorem pow_mono {B : Int} (hB : 0 < B) {m n : Nat} (h : m ≤ n) : B ^ m ≤ B ^ n := by
  induction n with
  | zero => have : m = 0 := by omega
            subst this
            exact Int.le_refl _
  | succ n ih =>
    by_cases e : m = n + 1
    · subst e
      exact Int.le_refl _
    · have h1 := ih (by omega)
      have h2 : 0 < B ^ n := Int.pow_pos hB
      have h3 : 1 * B ^ n ≤ B * B ^ n := Int.mul_le_mul_of_nonneg_right (by omega) (by omega)
      rw [Int.pow_succ, Int.mul_comm]
      omega
theorem val_lt_of_length {B : Int} (hB : 0 < B) {l m : List Int} (hl : Dig B l) (hm : Dig B m) (cm : Can m) (h : l.length < m.length) : val B l < val B m := by
  have h1 := val_lt hB hl
  have h2 := val_pos hB hm cm (by intro e; subst e; simp at h)
  have h3 : B ^ l.length ≤ B ^ (m.length - 1) := pow_mono hB (by omega)
  omega
def rightB (l : List Int) : Bool := decide (l.length ≤ 64) && ((l.length == 0) || (l.getD (l.length - 1) 0 != 0))
theorem can_iff (l : List Int) : Can l ↔ ((l.length == 0) || (l.getD (l.length - 1) 0 != 0)) = true := by
  cases l with
  | nil => simp [Can]
  | cons d l =>
    have h : (d :: l).getLast (by simp) = (d :: l).getD ((d :: l).length - 1) 0 := by
      rw [List.getLast_eq_getElem]
      simp
    unfold Can
    simp only [List.length_cons, Nat.add_one_ne_zero, beq_iff_eq, Bool.or_eq_true, bne_iff_ne, false_or]
    constructor
    · intro hc
      have := hc (by simp)
      rw [h] at this
      exact this
    · intro hc _
      rw [h]
      exact hc
theorem rightB_iff (l : List Int) : rightB l = true ↔ l.length ≤ 64 ∧ Can l := by
  unfold rightB
  rw [Bool.and_eq_true, decide_eq_true_iff, ← can_iff]
end Go.Proofs.Ytgeanpnkllnipab.Z
end

section
namespace Go.Proofs.Ytgeanpnkllnipab.Z
open Go.RowKit Go.Proofs.Ytgeanpnkllnipab.F Go.Proofs.YtgeanpnkllnipabW.PrintWords
set_option linter.unusedSimpArgs false
set_option linter.unusedVariables false
theorem few7_loop (ls : List (List Int)) (h : ls.length ≤ maxLen) (d : Nat) : ∀ i : Nat, i ≤ ls.length → ls.length - i = d → Evt (fun k => windbreaklaw07_few.l0 k ls (i : Int)) ((ls.drop i).all fun a => decide (a.length ≤ 20)) := by
  unfold maxLen at h
  induction d with
  | zero =>
    intro i hi hd
    refine Evt.succ ?_
    simp only [windbreaklaw07_few.l0]
    refine Evt.ite_neg (by omega) ?_
    rw [show ls.drop i = [] from List.drop_of_length_le (by omega)]
    exact Evt.pure _
  | succ d ih =>
    intro i hi hd
    have hlt : i < ls.length := by omega
    refine Evt.succ ?_
    simp only [windbreaklaw07_few.l0]
    refine Evt.ite_pos (by omega) (Evt.ite_pos (by omega) ?_)
    have hx : rd_L1 ls (i : Int) = ls[i] := by simp [rd_L1, hlt]
    rw [hx, List.drop_eq_getElem_cons hlt, List.all_cons]
    by_cases h70 : ls[i].length ≤ 20
    · refine Evt.ite_neg (by omega) ?_
      rw [w64 (by omega) (by omega)]
      have := ih (i + 1) (by omega) (by omega)
      refine this.congr (fun k => rfl) ?_
      rw [decide_eq_true h70, Bool.true_and]
    · refine Evt.ite_pos (by omega) ?_
      rw [decide_eq_false h70, Bool.false_and]
      exact Evt.pure _
theorem few7_ev (ls : List (List Int)) (h : ls.length ≤ maxLen) : Evt (fun k => windbreaklaw07_few.f k ls) (ls.all fun a => decide (a.length ≤ 20)) := by
  have := few7_loop ls h ls.length 0 (Nat.zero_le _) (by omega)
  exact this.congr (fun k => rfl) (by simp)
end Go.Proofs.Ytgeanpnkllnipab.Z
end

section
namespace Go.Proofs.Ytgeanpnkllnipab.Z
open Go.RowKit Go.Proofs.YtgeanpnkllnipabW.PrintWords
set_option linter.unusedSimpArgs false
set_option linter.unusedVariables false

def toD (B : Nat) (v : Nat) : List Int := if h : 2 ≤ B ∧ 0 < v then ((v % B : Nat) : Int) :: toD B (v / B) else []
termination_by v
decreasing_by exact Nat.div_lt_self h.2 (by omega)
theorem toD_zero (B : Nat) : toD B 0 = [] := by rw [toD]; simp
theorem toD_pos {B v : Nat} (hB : 2 ≤ B) (hv : 0 < v) : toD B v = ((v % B : Nat) : Int) :: toD B (v / B) := by rw [toD]; simp [hB, hv]
theorem toD_dig {B : Nat} (hB : 2 ≤ B) (v : Nat) : Dig (B : Int) (toD B v) := by
  induction v using Nat.strongRecOn with
  | _ v ih =>
    by_cases hv : v = 0
    · subst hv; rw [toD_zero]; exact Dig.nil
    · rw [toD_pos hB (by omega)]
      have := Nat.mod_lt v (show B > 0 by omega)
      exact Dig.cons.2 ⟨by omega, ih _ (Nat.div_lt_self (by omega) (by omega))⟩
theorem toD_eq_nil {B v : Nat} (hB : 2 ≤ B) : toD B v = [] ↔ v = 0 := by
  constructor
  · intro h
    by_cases hv : v = 0
    · exact hv
    · rw [toD_pos hB (by omega)] at h; cases h
  · rintro rfl; exact toD_zero B
theorem toD_can {B : Nat} (hB : 2 ≤ B) (v : Nat) : Can (toD B v) := by
  induction v using Nat.strongRecOn with
  | _ v ih =>
    by_cases hv : v = 0
    · subst hv; rw [toD_zero]; exact Can.nil
    · rw [toD_pos hB (by omega)]
      by_cases hq : v / B = 0
      · rw [hq, toD_zero]
        have hlt : v < B := (Nat.div_eq_zero_iff_lt (by omega)).1 hq
        rw [Nat.mod_eq_of_lt hlt]
        exact Can.one (by omega)
      · exact (ih _ (Nat.div_lt_self (by omega) (by omega))).cons (fun e => hq ((toD_eq_nil hB).1 e))
theorem val_toD {B : Nat} (hB : 2 ≤ B) (v : Nat) : val (B : Int) (toD B v) = (v : Int) := by
  induction v using Nat.strongRecOn with
  | _ v ih =>
    by_cases hv : v = 0
    · subst hv; rw [toD_zero]; rfl
    · rw [toD_pos hB (by omega)]
      simp only [val]
      rw [ih _ (Nat.div_lt_self (by omega) (by omega))]
      have h2 := Nat.mod_add_div v B
      have h3 : ((v % B + B * (v / B) : Nat) : Int) = (v : Int) := by rw [h2]
      simpa using h3
theorem strip_toD {B : Nat} (hB : 2 ≤ B) {l : List Int} (h : Dig (B : Int) l) : strip l = toD B (val (B : Int) l).toNat := by
  have h0 : (0 : Int) < (B : Int) := by omega
  refine val_inj h0 (strip_dig h) (toD_dig hB _) (strip_can l) (toD_can hB _) ?_
  rw [strip_val, val_toD hB]
  have := val_nonneg h0 h
  omega
theorem can_toD {B : Nat} (hB : 2 ≤ B) {l : List Int} (h : Dig (B : Int) l) (hc : Can l) : l = toD B (val (B : Int) l).toNat := by
  rw [← strip_toD hB h, strip_of_can hc]
theorem pow_cast (B n : Nat) : ((B : Int)) ^ n = ((B ^ n : Nat) : Int) := by simp
theorem toD_len_le {B : Nat} (hB : 2 ≤ B) {v n : Nat} (h : v < B ^ n) : (toD B v).length ≤ n := by
  by_cases hv : v = 0
  · subst hv; rw [toD_zero]; simp
  · have h1 := val_pos (show (0 : Int) < (B : Int) by omega) (toD_dig hB v) (toD_can hB v) (fun e => hv ((toD_eq_nil hB).1 e))
    rw [val_toD hB, pow_cast] at h1
    have h2 : B ^ ((toD B v).length - 1) ≤ v := by omega
    have h3 : B ^ ((toD B v).length - 1) < B ^ n := by omega
    have h4 := (Nat.pow_lt_pow_iff_right (show 1 < B by omega)).1 h3
    omega
theorem toD_lt_pow {B : Nat} (hB : 2 ≤ B) (v : Nat) : v < B ^ (toD B v).length := by
  have h1 := val_lt (show (0 : Int) < (B : Int) by omega) (toD_dig hB v)
  rw [val_toD hB, pow_cast] at h1
  omega
theorem toD_len_iff {B : Nat} (hB : 2 ≤ B) (v n : Nat) : (toD B v).length ≤ n ↔ v < B ^ n :=
  ⟨fun h => Nat.lt_of_lt_of_le (toD_lt_pow hB v) (Nat.pow_le_pow_right (by omega) h), toD_len_le hB⟩

def b64 : Nat := 18446744073709551616
def b16 : Nat := 65536
theorem b64_two : 2 ≤ b64 := by decide
theorem b16_two : 2 ≤ b16 := by decide
theorem b64_pow : b64 = b16 ^ 4 := by decide
def num (l : List Int) : Nat := (val (b64 : Int) l).toNat
def num16 (l : List Int) : Nat := (val (b16 : Int) l).toNat
abbrev limbs (v : Nat) : List Int := toD b64 v
abbrev digs (v : Nat) : List Int := toD b16 v
theorem b64_pos : (0 : Int) < (b64 : Int) := by decide
theorem b16_pos : (0 : Int) < (b16 : Int) := by decide
theorem num_val {l : List Int} (h : Dig (b64 : Int) l) : (num l : Int) = val (b64 : Int) l := by
  have := val_nonneg b64_pos h
  unfold num; omega
theorem num16_val {l : List Int} (h : Dig (b16 : Int) l) : (num16 l : Int) = val (b16 : Int) l := by
  have := val_nonneg b16_pos h
  unfold num16; omega
theorem num_limbs (v : Nat) : num (limbs v) = v := by unfold num limbs; rw [val_toD b64_two]; omega
theorem num16_digs (v : Nat) : num16 (digs v) = v := by unfold num16 digs; rw [val_toD b16_two]; omega
theorem limbs_num {l : List Int} (h : Dig (b64 : Int) l) (hc : Can l) : limbs (num l) = l := (can_toD b64_two h hc).symm
theorem digs_num {l : List Int} (h : Dig (b16 : Int) l) (hc : Can l) : digs (num16 l) = l := (can_toD b16_two h hc).symm
theorem strip_limbs {l : List Int} (h : Dig (b64 : Int) l) : strip l = limbs (num l) := strip_toD b64_two h
theorem strip_digs {l : List Int} (h : Dig (b16 : Int) l) : strip l = digs (num16 l) := strip_toD b16_two h
theorem dig_of_wf {l : List Int} (h : ∀ x ∈ l, (Lit.int .u64 x).wf = true) : Dig (b64 : Int) l := fun x hx => wf_u64 (h x hx)
theorem num_lt {l : List Int} (h : Dig (b64 : Int) l) : num l < b64 ^ l.length := by
  have h1 := val_lt b64_pos h
  rw [← num_val h, pow_cast] at h1
  omega
theorem num_nil : num [] = 0 := rfl
theorem num_one {x : Int} (h : 0 ≤ x) : num [x] = x.toNat := by simp [num, val]
theorem num16_nil : num16 [] = 0 := rfl
theorem num_cons {d : Int} {l : List Int} (h : Dig (b64 : Int) (d :: l)) : num (d :: l) = d.toNat + b64 * num l := by
  have h1 := Dig.cons.1 h
  have h2 := num_val h
  have h3 := num_val h1.2
  have h4 : ((d.toNat + b64 * num l : Nat) : Int) = d + (b64 : Int) * val (b64 : Int) l := by
    rw [← h3]; simp; omega
  have h5 : val (b64 : Int) (d :: l) = d + (b64 : Int) * val (b64 : Int) l := rfl
  omega
def thousand : Nat := 1000
def lim : Nat := b64 ^ thousand
theorem lim_pow {n : Nat} (h : n ≤ 1000) : b64 ^ n ≤ lim := Nat.pow_le_pow_right (by decide) (show n ≤ thousand from h)
theorem pow_lt_lim {n : Nat} (h : n < 1000) : b64 ^ n + b64 ^ n ≤ lim := by
  have h1 : b64 ^ (n + 1) ≤ lim := lim_pow h
  have h2 : b64 ^ n * 2 ≤ b64 ^ n * b64 := Nat.mul_le_mul_left _ b64_two
  rw [Nat.pow_succ] at h1
  omega
theorem num_lt_lim {l : List Int} (h : Dig (b64 : Int) l) (hl : l.length ≤ 1000) : num l < lim := Nat.lt_of_lt_of_le (num_lt h) (lim_pow hl)
theorem digs_len {v : Nat} (hv : v < lim) : (digs v).length ≤ 4000 := by
  have h : lim = b16 ^ (4 * thousand) := by
    unfold lim
    rw [b64_pow, ← Nat.pow_mul]
  rw [h] at hv
  have h2 := toD_len_le b16_two hv
  exact Nat.le_trans h2 (by decide)
theorem b64_pow2 (m : Nat) : b64 ^ m = 2 ^ (64 * m) := by
  have h : b64 = 2 ^ 64 := by decide
  rw [h, ← Nat.pow_mul]
theorem pow2_le_b64 {n m : Nat} (h : n ≤ 64 * m) : 2 ^ n ≤ b64 ^ m := by
  rw [b64_pow2]
  exact Nat.pow_le_pow_right (by decide) h
theorem b64_le_pow2 {n m : Nat} (h : 64 * m ≤ n) : b64 ^ m ≤ 2 ^ n := by
  rw [b64_pow2]
  exact Nat.pow_le_pow_right (by decide) h
theorem num_lt_p {a : List Int} (da : Dig (b64 : Int) a) (ha : a.length ≤ 64) : num a < b64 ^ 64 := Nat.lt_of_lt_of_le (num_lt da) (Nat.pow_le_pow_right (show b64 > 0 by decide) ha)
def cmpN (x y : Nat) : Int := if x < y then -1 else if x = y then 0 else 1
def toldV (v : Nat) : List Int × Int := if v < b64 ^ 64 then (limbs v, 0) else ([], 4)
theorem limbs_long (v : Nat) : (limbs v).length ≤ 64 ↔ v < b64 ^ 64 := toD_len_iff b64_two v 64
theorem val_base (l : List Int) (hl : Dig (b64 : Int) l) : ∃ m, Dig (b16 : Int) m ∧ m.length = 4 * l.length ∧ val (b16 : Int) m = val (b64 : Int) l ∧ m = l.flatMap (fun x => [x % 65536, x / 65536 % 65536, x / 65536 / 65536 % 65536, x / 65536 / 65536 / 65536 % 65536]) := by
  induction l with
  | nil => exact ⟨[], Dig.nil, rfl, rfl, rfl⟩
  | cons d l ih =>
    have h1 := Dig.cons.1 hl
    obtain ⟨m, hm, hlen, hv, he⟩ := ih h1.2
    refine ⟨[d % 65536, d / 65536 % 65536, d / 65536 / 65536 % 65536, d / 65536 / 65536 / 65536 % 65536] ++ m, ?_, ?_, ?_, ?_⟩
    · refine Dig.append.2 ⟨?_, hm⟩
      intro x hx
      simp only [List.mem_cons, List.not_mem_nil, or_false] at hx
      simp only [b16]
      omega
    · simp only [List.length_append, List.length_cons, List.length_nil, hlen]; omega
    · rw [val_append, hv]
      have h2 := h1.1
      simp only [b64] at h2 ⊢
      simp only [val, b16, List.length_cons, List.length_nil]
      omega
    · simp only [List.flatMap_cons, ← he]
end Go.Proofs.Ytgeanpnkllnipab.Z
end

section
namespace Go.Proofs.Ytgeanpnkllnipab.Z
open Go.RowKit Go.Proofs.Ytgeanpnkllnipab.F Go.Proofs.YtgeanpnkllnipabW.PrintWords
set_option linter.unusedSimpArgs false
set_option linter.unusedVariables false
theorem nat_trim_loop (l : List Int) (h : l.length ≤ maxLen) : ∀ n : Nat, n ≤ l.length → Evt (fun k => nat_trim.l0 k l (n : Int)) (strip (l.take n)) := by
  unfold maxLen at h
  intro n
  induction n with
  | zero =>
    intro _
    refine Evt.succ ?_
    simp only [nat_trim.l0]
    refine Evt.ite_neg (by omega) (Evt.ite_pos (by omega) (Evt.ite_pos (by omega) ?_))
    simp [strip]
    exact Evt.pure _
  | succ n ih =>
    intro hn
    refine Evt.succ ?_
    simp only [nat_trim.l0]
    rw [w64 (by omega) (by omega), show ((n + 1 : Nat) : Int) - 1 = (n : Int) from by omega]
    refine Evt.ite_pos (by omega) (Evt.ite_pos (by omega) (Evt.ite_pos (by omega) ?_))
    rw [rd_nat, List.take_succ_eq_append_getElem (show n < l.length by omega)]
    have hg : l.getD n 0 = l[n] := by simp [show n < l.length by omega]
    rw [hg]
    by_cases h0 : l[n] = 0
    · rw [h0, strip_snoc_zero]
      exact Evt.ite_pos rfl (ih (by omega))
    · rw [strip_snoc h0]
      refine Evt.ite_neg h0 (Evt.ite_pos (by omega) (Evt.ite_pos (by omega) ?_))
      rw [← List.take_succ_eq_append_getElem (show n < l.length by omega)]
      exact Evt.pure _
theorem nat_trim_ev (l : List Int) (h : l.length ≤ maxLen) : Evt (fun k => nat_trim.f k l) (strip l) := by
  have := nat_trim_loop l h l.length (Nat.le_refl _)
  exact this.congr (fun k => rfl) (by rw [List.take_length])
end Go.Proofs.Ytgeanpnkllnipab.Z
end

section
namespace Go.Proofs.Ytgeanpnkllnipab.Z
open Go.RowKit Go.Proofs.Ytgeanpnkllnipab.F Go.Proofs.YtgeanpnkllnipabW.PrintWords
set_option linter.unusedSimpArgs false
set_option linter.unusedVariables false
theorem nat_told_ev (l : List Int) (h : l.length ≤ 1000000) (d : Dig (b64 : Int) l) : Evt (fun k => nat_told.f k l) (toldV (num l)) := by
  unfold nat_told.f toldV
  refine Evt.bind (nat_trim_ev l (by simp [maxLen]; omega)) ?_
  rw [strip_limbs d]
  have hl := limbs_long (num l)
  by_cases h1 : num l < b64 ^ 64
  · rw [if_pos h1]
    have := hl.2 h1
    exact Evt.ite_neg (by omega) (Evt.pure _)
  · rw [if_neg h1]
    have : ¬ (limbs (num l)).length ≤ 64 := fun hh => h1 (hl.1 hh)
    exact Evt.ite_pos (by omega) (Evt.pure _)
end Go.Proofs.Ytgeanpnkllnipab.Z
end

section
namespace Go.Proofs.Ytgeanpnkllnipab.Z
open Go.RowKit Go.Proofs.YtgeanpnkllnipabW.PrintWords
set_option linter.unusedSimpArgs false
set_option linter.unusedVariables false
end Go.Proofs.Ytgeanpnkllnipab.Z
end

section
namespace Go.Proofs.Ytgeanpnkllnipab.Z
open Go.RowKit Go.Proofs.Ytgeanpnkllnipab.F Go.Proofs.YtgeanpnkllnipabW.PrintWords
set_option linter.unusedSimpArgs false
set_option linter.unusedVariables false
theorem set_at {α : Type} (p : List α) (x v : α) (r : List α) : (p ++ x :: r).set p.length v = p ++ v :: r := by simp
end Go.Proofs.Ytgeanpnkllnipab.Z
end

section
namespace Go.Proofs.Ytgeanpnkllnipab.Z
open Go.RowKit Go.Proofs.Ytgeanpnkllnipab.F Go.Proofs.YtgeanpnkllnipabW.PrintWords Go.Proofs.YtgeanpnkllnipabW.PrintMore
set_option linter.unusedSimpArgs false
set_option linter.unusedVariables false
theorem val_set (B : Int) (l : List Int) : ∀ (i : Nat) (v : Int), i < l.length → val B (l.set i v) = val B l + B ^ i * (v - l.getD i 0) := by
  induction l with
  | nil => intro i v h; simp at h
  | cons d l ih =>
    intro i v h
    cases i with
    | zero => simp [val]; omega
    | succ i =>
      have h2 := ih i v (by simpa using h)
      simp only [List.set_cons_succ, val, h2, Int.pow_succ, List.getD_cons_succ]
      generalize l.getD i 0 = y
      generalize B ^ i = P
      generalize val B l = V
      grind
theorem getD_append_left {l m : List Int} {i : Nat} (h : i < l.length) : (l ++ m).getD i 0 = l.getD i 0 := by
  simp [List.getD_eq_getElem?_getD, List.getElem?_append_left h]
theorem set_append_left {l m : List Int} {i : Nat} {v : Int} (h : i < l.length) : (l ++ m).set i v = l.set i v ++ m := by
  rw [List.set_append, if_pos h]
theorem val_take_step (B : Int) (l : List Int) (i : Nat) (h : i < l.length) : val B (l.take (i + 1)) = val B (l.take i) + B ^ i * l[i] := by
  rw [List.take_succ_eq_append_getElem h, val_append]
  simp only [val, List.length_take]
  rw [show min i l.length = i from by omega, Int.mul_zero, Int.add_zero]
theorem wraps_u64 (n : Int) (h0 : 0 ≤ n) (h1 : n < 2 ^ 64) : IntKind.u64.wrap n = n := wu64_of h0 (by omega)
theorem or_u64 {x y : Int} (s : Nat) (hs : s ≤ 64) (hx0 : 0 ≤ x) (hx : x % 2 ^ s = 0) (hx1 : x < 18446744073709551616) (hy0 : 0 ≤ y) (hy : y < 2 ^ s) : Go.bits .or .u64 x y = x + y := by
  have h2 : (2 : Int) ^ s ≤ 2 ^ 64 := pow_mono (by omega) hs
  exact bits_join .u64 64 (by decide) wraps_u64 s x y hx0 hx (by omega) hy0 hy (by omega)
theorem or_comm_u64 {x y : Int} (hx0 : 0 ≤ x) (hx1 : x < 18446744073709551616) (hy0 : 0 ≤ y) (hy1 : y < 18446744073709551616) : Go.bits .or .u64 x y = Go.bits .or .u64 y x := by
  obtain ⟨a, rfl⟩ := Int.eq_ofNat_of_zero_le hx0
  obtain ⟨b, rfl⟩ := Int.eq_ofNat_of_zero_le hy0
  rw [(bits_nat .u64 64 (by decide) wraps_u64 a b (by omega) (by omega)).2, (bits_nat .u64 64 (by decide) wraps_u64 b a (by omega) (by omega)).2, Nat.or_comm]
theorem shl_u64 (x : Int) (s : Nat) (hs : s ≤ 64) : shl .u64 x (s : Int) = (x * 2 ^ s) % 18446744073709551616 := by
  unfold shl
  rw [wu64]
  simp only [IntKind.bits, Int.toNat_natCast]
  rw [show min s 64 = s from by omega]
theorem shr_u64 (x : Int) (s : Nat) (hs : s ≤ 64) : shr .u64 x (s : Int) = x / 2 ^ s := by
  unfold shr
  simp only [IntKind.bits, Int.toNat_natCast]
  rw [show min s 64 = s from by omega]
theorem pow64_split {s : Nat} (hs : s ≤ 64) : (2 : Int) ^ s * 2 ^ (64 - s) = 18446744073709551616 := by
  rw [← Int.pow_add, show s + (64 - s) = 64 from by omega]
  decide
theorem pow2_pos (s : Nat) : (0 : Int) < 2 ^ s := Int.pow_pos (by omega)
theorem shl_facts {x : Int} (hx : 0 ≤ x ∧ x < 18446744073709551616) {s : Nat} (hs : s ≤ 64) :
    (x * 2 ^ s) % 18446744073709551616 + 18446744073709551616 * (x / 2 ^ (64 - s)) = x * 2 ^ s ∧ ((x * 2 ^ s) % 18446744073709551616) % 2 ^ s = 0 ∧ 0 ≤ x / 2 ^ (64 - s) ∧ x / 2 ^ (64 - s) < 2 ^ s := by
  have hp := pow64_split hs
  have h1 := pow2_pos s
  have h2 := pow2_pos (64 - s)
  generalize (2 : Int) ^ s = P at *
  generalize (2 : Int) ^ (64 - s) = Q at *
  have h3 : (x * P) / 18446744073709551616 = x / Q := by
    rw [← hp, Int.mul_comm x P, Int.mul_ediv_mul_of_pos _ _ h1]
  refine ⟨?_, ?_, Int.ediv_nonneg hx.1 (by omega), ?_⟩
  · have := Int.emod_add_mul_ediv (x * P) 18446744073709551616
    rw [h3] at this
    exact this
  · rw [← hp]
    have := Int.mul_emod_mul_of_pos (a := P) x Q h1
    rw [Int.mul_comm x P, this]
    exact Int.mul_emod_right P _
  · apply Int.ediv_lt_of_lt_mul h2
    rw [hp]
    exact hx.2
end Go.Proofs.Ytgeanpnkllnipab.Z
end

section
namespace Go.Proofs.Ytgeanpnkllnipab.Z
open Go.RowKit Go.Proofs.YtgeanpnkllnipabW.PrintWords
set_option linter.unusedSimpArgs false
set_option linter.unusedVariables false
end Go.Proofs.Ytgeanpnkllnipab.Z
end

section
namespace Go.Proofs.Ytgeanpnkllnipab.Z
open Go.RowKit Go.Proofs.YtgeanpnkllnipabW.PrintWords
set_option linter.unusedSimpArgs false
set_option linter.unusedVariables false
def mayV (n : List Int) : Bool := rightB n && decide (n.length ≤ 8) && decide (3 ≤ num n)
def halfV (n : List Int) : Nat := (num n - 1) / 2
def intR (a : Bool) (l : List Int) : Bool := rightB l && (!a || decide (0 < l.length))
def fromV (a : Bool) (l : List Int) : Bool × List Int := if rightB l = true ∧ l.length ≠ 0 then (a, l) else (false, [])
def encV (n : List Int) (a : Bool) (x : List Int) : List Int × Int :=
  if mayV n = true ∧ intR a x = true then (if num x ≤ halfV n then (if a = true then (limbs (num n - num x), 0) else (x, 0)) else ([], 12)) else ([], 1)
theorem dig_one {x : Int} (h0 : 0 ≤ x) (h1 : x < 18446744073709551616) : Dig (b64 : Int) [x] := Dig.cons.2 ⟨⟨h0, h1⟩, Dig.nil⟩
theorem right_one {x : Int} (h : x ≠ 0) : rightB [x] = true := (rightB_iff _).2 ⟨by simp, Can.one h⟩
theorem right_limbs' {v : Nat} (h : v < b64 ^ 64) : rightB (limbs v) = true := (rightB_iff _).2 ⟨(limbs_long v).2 h, toD_can b64_two v⟩
theorem dig_limbs' (v : Nat) : Dig (b64 : Int) (limbs v) := toD_dig b64_two v
theorem mayV_iff (n : List Int) : mayV n = true ↔ rightB n = true ∧ n.length ≤ 8 ∧ 3 ≤ num n := by
  unfold mayV
  simp [and_assoc]
theorem may_lt {n : List Int} (dn : Dig (b64 : Int) n) (h : mayV n = true) : num n < b64 ^ 64 := by
  obtain ⟨h1, h2, _⟩ := (mayV_iff n).1 h
  exact num_lt_p dn (by omega)
theorem limbs_le64 {v : Nat} (h : v < b64 ^ 64) : (limbs v).length ≤ 64 := (limbs_long v).2 h
theorem cmpN_ge (x y : Nat) : decide (cmpN x y ≥ 0) = decide (y ≤ x) := by
  unfold cmpN
  by_cases h : x < y
  · rw [if_pos h]; simp; omega
  · rw [if_neg h]; split <;> simp <;> omega
theorem cmpN_le (x y : Nat) : decide (cmpN x y ≤ 0) = decide (x ≤ y) := by
  unfold cmpN
  by_cases h : x < y
  · rw [if_pos h]; simp; omega
  · rw [if_neg h]
    by_cases h2 : x = y
    · rw [if_pos h2]; simp; omega
    · rw [if_neg h2]; simp; omega
theorem encV_len {n : List Int} {a : Bool} {x : List Int} (dn : Dig (b64 : Int) n) : (encV n a x).1.length ≤ 64 := by
  unfold encV
  by_cases h : mayV n = true ∧ intR a x = true
  · rw [if_pos h]
    by_cases h2 : num x ≤ halfV n
    · rw [if_pos h2]
      cases a with
      | true => rw [if_pos rfl]; exact limbs_le64 (Nat.lt_of_le_of_lt (Nat.sub_le _ _) (may_lt dn h.1))
      | false =>
        rw [if_neg (by simp)]
        have h3 := h.2
        unfold intR at h3
        simp only [Bool.not_false, Bool.true_or, Bool.and_true] at h3
        exact ((rightB_iff x).1 h3).1
    · rw [if_neg h2]; simp
  · rw [if_neg h]; simp
end Go.Proofs.Ytgeanpnkllnipab.Z
end

section
namespace Go.Proofs.Ytgeanpnkllnipab.Z
open Go.RowKit Go.Proofs.Ytgeanpnkllnipab.F Go.Proofs.YtgeanpnkllnipabW.PrintWords
set_option linter.unusedSimpArgs false
set_option linter.unusedVariables false
theorem nat_Right_eq {l : List Int} (h : l.length ≤ maxLen) : nat_Right.f l = some (rightB l) := by
  unfold maxLen at h
  unfold nat_Right.f rightB
  by_cases h1 : l.length ≤ 64
  · rw [if_pos (by omega)]
    by_cases h2 : l.length = 0
    · rw [if_pos (by omega)]
      simp [h1, h2]
    · rw [if_neg (by omega), w64 (by omega) (by omega), if_pos (by omega), if_pos (by omega), rd_getD]
      rw [show ((l.length : Int) - 1).toNat = l.length - 1 from by omega]
      have h3 : (l.length == 0) = false := by simpa using h2
      rw [h3]
      simp [h1]
  · rw [if_neg (by omega)]
    simp [h1]
end Go.Proofs.Ytgeanpnkllnipab.Z
end

section
namespace Go.Proofs.Ytgeanpnkllnipab.Z
open Go.RowKit Go.Proofs.YtgeanpnkllnipabW.PrintWords Go.Proofs.YtgeanpnkllnipabW.PrintMore
set_option linter.unusedSimpArgs false
set_option linter.unusedVariables false
def downL (s : Nat) : List Int → List Int
  | [] => []
  | x :: l => (x / 2 ^ s + (if s = 0 then 0 else (l.getD 0 0 * 2 ^ (64 - s)) % 18446744073709551616)) :: downL s l
theorem downL_facts (s : Nat) (hs : s < 64) (l : List Int) (d : Dig (b64 : Int) l) : Dig (b64 : Int) (downL s l) ∧ (downL s l).length = l.length ∧ val (b64 : Int) (downL s l) * 2 ^ s + l.getD 0 0 % 2 ^ s = val (b64 : Int) l := by
  have hB : (b64 : Int) = 18446744073709551616 := rfl
  have hps := pow2_pos s
  induction l with
  | nil => exact ⟨Dig.nil, rfl, by simp [downL, val]⟩
  | cons x l ih =>
    have d1 := Dig.cons.1 d
    obtain ⟨i1, i2, i3⟩ := ih d1.2
    have rx := d1.1
    have ry := d1.2.getD b64_pos 0
    rw [hB] at rx ry
    by_cases h0 : s = 0
    · subst h0
      simp only [downL, Int.pow_zero, Int.ediv_one, if_true, Int.add_zero] at i3 ⊢
      refine ⟨Dig.cons.2 ⟨by rw [hB]; exact rx, i1⟩, by simp [i2], ?_⟩
      simp only [val, List.getD_cons_zero, Int.emod_one, Int.add_zero, Int.mul_one] at i3 ⊢
      rw [i3]
    · have hp64 := pow64_split (s := s) (by omega)
      have hq := pow2_pos (64 - s)
      obtain ⟨f1, f2, f3, f4⟩ := shl_facts ry (s := 64 - s) (by omega)
      rw [show 64 - (64 - s) = s from by omega] at f1 f3 f4
      simp only [downL, if_neg h0]
      have e1 := Int.emod_add_mul_ediv x (2 ^ s)
      have e2 := Int.emod_nonneg x (show (2 : Int) ^ s ≠ 0 by omega)
      have e3 := Int.emod_lt_of_pos x hps
      have e4 := Int.emod_add_mul_ediv (l.getD 0 0) (2 ^ s)
      generalize hz : (l.getD 0 0 * 2 ^ (64 - s)) % 18446744073709551616 = z at *
      generalize hxd : x / 2 ^ s = xd at *
      generalize hyd : l.getD 0 0 / 2 ^ s = yd at *
      generalize l.getD 0 0 = y at *
      have hxd1 : xd < 2 ^ (64 - s) := by
        rw [← hxd]
        apply Int.ediv_lt_of_lt_mul hps
        rw [Int.mul_comm, hp64]
        exact rx.2
      have hxd0 : 0 ≤ xd := by rw [← hxd]; exact Int.ediv_nonneg rx.1 (by omega)
      obtain ⟨t, ht⟩ := Int.dvd_of_emod_eq_zero f2
      have hz0 : 0 ≤ z := by omega
      have hz1 : z < 18446744073709551616 := by omega
      refine ⟨Dig.cons.2 ⟨?_, i1⟩, by simp [i2], ?_⟩
      · rw [hB]
        refine ⟨by omega, ?_⟩
        have ht2 : t < 2 ^ s := by
          refine Int.not_le.1 (fun hle => ?_)
          have := Int.mul_le_mul_of_nonneg_left hle (Int.le_of_lt hq)
          rw [Int.mul_comm ((2 : Int) ^ (64 - s)) (2 ^ s), hp64] at this
          omega
        have h5 : 2 ^ (64 - s) * (t + 1) ≤ (2 : Int) ^ (64 - s) * 2 ^ s := Int.mul_le_mul_of_nonneg_left (by omega) (by omega)
        rw [Int.mul_comm ((2 : Int) ^ (64 - s)) (2 ^ s), hp64, Int.mul_add] at h5
        omega
      · simp only [val, List.getD_cons_zero]
        rw [hB] at i3 ⊢
        generalize val 18446744073709551616 (downL s l) = vd at *
        generalize val 18446744073709551616 l = vl at *
        generalize x % 2 ^ s = xm at *
        generalize y % 2 ^ s = ym at *
        have hP : (2 : Int) ^ (64 - s) * 2 ^ s = 18446744073709551616 := by rw [Int.mul_comm]; exact hp64
        generalize (2 : Int) ^ s = P at *
        generalize (2 : Int) ^ (64 - s) = Q at *
        have e5 : (xd + z + 18446744073709551616 * vd) * P + xm = P * xd + xm + (z * P + 18446744073709551616 * (vd * P)) := by grind
        rw [e5]
        have e6 : z = y * Q - 18446744073709551616 * yd := by omega
        have e7 : z * P = 18446744073709551616 * ym := by
          rw [e6, ← e4, ← hP]
          grind
        rw [e7]
        omega
theorem num_drop {a : List Int} (da : Dig (b64 : Int) a) (m : Nat) (hm : m ≤ a.length) : num (a.drop m) = num a / b64 ^ m := by
  have h1 := num_val da
  have h2 := num_val (da.drop m)
  have h3 := num_val (da.take m)
  have h4 := num_lt (da.take m)
  have h5 := val_append (b64 : Int) (a.take m) (a.drop m)
  rw [List.take_append_drop, ← h1, ← h2, ← h3, List.length_take, show min m a.length = m from by omega, pow_cast] at h5
  rw [List.length_take, show min m a.length = m from by omega] at h4
  have h6 : num a = num (a.take m) + b64 ^ m * num (a.drop m) := by
    have : ((num (a.take m) + b64 ^ m * num (a.drop m) : Nat) : Int) = (num (a.take m) : Int) + ((b64 ^ m : Nat) : Int) * (num (a.drop m) : Int) := by simp
    omega
  rw [h6, Nat.add_mul_div_left _ _ (Nat.pow_pos (by decide)), Nat.div_eq_of_lt h4, Nat.zero_add]
theorem num_down {a : List Int} (da : Dig (b64 : Int) a) (s : Nat) (hs : s < 64) : num (downL s a) = num a / 2 ^ s := by
  obtain ⟨d, _, e⟩ := downL_facts s hs a da
  have h1 := num_val d
  have h2 := num_val da
  have hp := pow2_pos s
  have hr0 := Int.emod_nonneg (a.getD 0 0) (show (2 : Int) ^ s ≠ 0 by omega)
  have hr1 := Int.emod_lt_of_pos (a.getD 0 0) hp
  rw [← h1, ← h2] at e
  generalize a.getD 0 0 % 2 ^ s = r at *
  obtain ⟨r', rfl⟩ := Int.eq_ofNat_of_zero_le hr0
  have hP : (2 : Int) ^ s = ((2 ^ s : Nat) : Int) := by simp
  rw [hP] at e hr1
  have e2 : num a = r' + 2 ^ s * num (downL s a) := by
    have : ((r' + 2 ^ s * num (downL s a) : Nat) : Int) = (r' : Int) + ((2 ^ s : Nat) : Int) * (num (downL s a) : Int) := by simp
    rw [Int.mul_comm] at e
    omega
  rw [e2, Nat.add_mul_div_left _ _ (Nat.pow_pos (by decide)), Nat.div_eq_of_lt (by omega), Nat.zero_add]
end Go.Proofs.Ytgeanpnkllnipab.Z
end

section
namespace Go.Proofs.Ytgeanpnkllnipab.Z
open Go.RowKit Go.Proofs.Ytgeanpnkllnipab.F Go.Proofs.YtgeanpnkllnipabW.PrintWords Go.Proofs.YtgeanpnkllnipabW.PrintMore
set_option linter.unusedSimpArgs false
set_option linter.unusedVariables false
def shrV (a : List Int) (n : Int) : List Int × Int :=
  if rightB a = true ∧ 0 ≤ n then (limbs (num a / 2 ^ n.toNat), 0) else ([], 1)
theorem nat_Shr_loop (a : List Int) (da : Dig (b64 : Int) a) (ha : a.length ≤ 100000) (s : Nat) (hs : s < 64) {r : List Int × Int} (fin : Evt (fun k => nat_told.f k (downL s a)) r) (n : Nat) :
    ∀ (i : Nat) (p : List Int), a.length - i = n → i ≤ a.length → p.length = i → p ++ downL s (a.drop i) = downL s a →
      Evt (fun k => nat_Shr.l0 k a (s : Int) (p ++ List.replicate n 0) (a.length : Int) (i : Int)) (r.1, r.2) := by
  induction n with
  | zero =>
    intro i p hn hi hp he
    refine Evt.succ ?_
    simp only [nat_Shr.l0]
    refine Evt.ite_neg (by omega) ?_
    rw [List.drop_of_length_le (by omega)] at he
    simp only [downL, List.append_nil] at he
    rw [List.replicate_zero, List.append_nil, he]
    exact Evt.bind fin (h := fun t _ => some (t.1, t.2)) (Evt.pure _)
  | succ n ih =>
    intro i p hn hi hp he
    have hlt : i < a.length := by omega
    have rx := da a[i] (List.getElem_mem hlt)
    have ry := (da.drop (i + 1)).getD b64_pos 0
    have hB : (b64 : Int) = 18446744073709551616 := rfl
    rw [hB] at rx ry
    rw [List.drop_eq_getElem_cons hlt] at he
    simp only [downL] at he
    have hx : rd a (i : Int) = a[i] := by simp [rd_nat, hlt]
    refine Evt.succ ?_
    simp only [nat_Shr.l0]
    refine Evt.ite_pos (by omega) (Evt.ite_pos (by omega) (Evt.ite_pos (by omega) (Evt.ite_pos (by omega) (Evt.ite_pos (by simp; omega) ?_))))
    refine Evt.bind (Evt.pure _) ?_
    rw [hx, shr_u64 _ s (by omega), show ((i : Int)).toNat = p.length from by omega, List.replicate_succ, set_at, w64 (show -9223372036854775808 ≤ (i : Int) + 1 by omega) (by omega)]
    have hps := pow2_pos s
    have hxd0 : 0 ≤ a[i] / 2 ^ s := Int.ediv_nonneg rx.1 (by omega)
    by_cases h0 : s = 0
    · refine Evt.ite_neg (by omega) ?_
      rw [if_pos h0, Int.add_zero] at he
      refine (ih (i + 1) (p ++ [a[i] / 2 ^ s]) (by omega) (by omega) (by simp; omega) (by rw [List.append_assoc]; exact he)).congr (fun k => ?_) rfl
      rw [List.append_assoc]; rfl
    · refine Evt.ite_pos (by omega) ?_
      rw [if_neg h0] at he
      by_cases h1 : i + 1 < a.length
      · refine Evt.ite_pos (by omega) (Evt.ite_pos (by omega) (Evt.ite_pos (by rw [wu64_of (by omega) (by omega)]; omega) ?_))
        have hy : rd a ((i : Int) + 1) = a[i + 1] := by
          rw [show (i : Int) + 1 = ((i + 1 : Nat) : Int) from by omega, rd_nat]
          simp [List.getD_eq_getElem?_getD, h1]
        have hy2 : (a.drop (i + 1)).getD 0 0 = a[i + 1] := by simp [List.getD_eq_getElem?_getD, h1]
        have hg : rd (p ++ a[i] / 2 ^ s :: List.replicate n 0) (i : Int) = a[i] / 2 ^ s := by
          rw [rd_nat]
          simp [List.getD_eq_getElem?_getD, ← hp]
        rw [hy2] at he ry
        obtain ⟨f1, f2, f3, f4⟩ := shl_facts ry (s := 64 - s) (by omega)
        have hxd1 : a[i] / 2 ^ s < 2 ^ (64 - s) := by
          apply Int.ediv_lt_of_lt_mul hps
          rw [Int.mul_comm, pow64_split (by omega)]
          exact rx.2
        have hz0 : 0 ≤ (a[i + 1] * 2 ^ (64 - s)) % 18446744073709551616 := by omega
        have hz1 : (a[i + 1] * 2 ^ (64 - s)) % 18446744073709551616 < 18446744073709551616 := by omega
        have hq64 : (2 : Int) ^ (64 - s) ≤ 2 ^ 64 := pow_mono (by omega) (by omega)
        rw [hy, hg, wu64_of (show (0 : Int) ≤ 64 - (s : Int) by omega) (by omega), show (64 : Int) - (s : Int) = ((64 - s : Nat) : Int) from by omega, shl_u64 _ (64 - s) (by omega), set_at, or_comm_u64 hxd0 (by omega) hz0 hz1, or_u64 (64 - s) (by omega) hz0 f2 hz1 hxd0 hxd1]
        refine (ih (i + 1) (p ++ [(a[i + 1] * 2 ^ (64 - s)) % 18446744073709551616 + a[i] / 2 ^ s]) (by omega) (by omega) (by simp; omega) (by rw [List.append_assoc, Int.add_comm ((a[i + 1] * 2 ^ (64 - s)) % 18446744073709551616)]; exact he)).congr (fun k => ?_) rfl
        rw [List.append_assoc]; rfl
      · refine Evt.ite_neg (by omega) ?_
        have hy2 : (a.drop (i + 1)).getD 0 0 = 0 := by rw [List.drop_of_length_le (by omega)]; rfl
        rw [hy2, Int.zero_mul, Int.zero_emod, Int.add_zero] at he
        refine (ih (i + 1) (p ++ [a[i] / 2 ^ s]) (by omega) (by omega) (by simp; omega) (by rw [List.append_assoc]; exact he)).congr (fun k => ?_) rfl
        rw [List.append_assoc]; rfl
theorem nat_Shr_ev (a : List Int) (n : Int) (ha : a.length ≤ maxLen) (da : Dig (b64 : Int) a) (hn9 : n < 9223372036854775808) : Evt (fun k => nat_Shr.f k a n) (shrV a n) := by
  unfold nat_Shr.f shrV
  rw [nat_Right_eq ha]
  simp only [Option.bind_some]
  have J : ∀ x : Bool, (x = false → rightB a = true ∧ 0 ≤ n) → Evt (fun k => nat_Shr.j0 k a n x) (if x = true then ([], 1) else (limbs (num a / 2 ^ n.toNat), 0)) := by
    intro x hx
    refine Evt.succ ?_
    simp only [nat_Shr.j0]
    refine Evt.cond (fun _ => Evt.pure _) (fun hc => ?_)
    have h := hx (by simpa using hc)
    obtain ⟨h1, c1⟩ := (rightB_iff a).1 h.1
    obtain ⟨m, rfl⟩ := Int.eq_ofNat_of_zero_le h.2
    rw [show ((m : Int)).toNat = m from Int.toNat_natCast m]
    have e1 : Int.tdiv (m : Int) 64 = ((m / 64 : Nat) : Int) := by rw [Int.tdiv_eq_ediv_of_nonneg (by omega)]; omega
    rw [e1, w64 (show -9223372036854775808 ≤ ((m / 64 : Nat) : Int) by omega) (by omega)]
    have hp := num_lt_p da h1
    by_cases hlen : a.length ≤ m / 64
    · have e : num a / 2 ^ m = 0 := by
        apply Nat.div_eq_of_lt
        exact Nat.lt_of_lt_of_le (num_lt da) (b64_le_pow2 (by omega))
      rw [e, show limbs 0 = [] from toD_zero b64]
      exact Evt.ite_pos (by omega) (Evt.pure _)
    · have e2 : IntKind.u64.wrap (Int.tmod (m : Int) 64) = ((m % 64 : Nat) : Int) := by
        rw [Int.tmod_eq_emod_of_nonneg (by omega), wu64_of (by omega) (by omega)]; omega
      rw [e2, Int.toNat_natCast]
      refine Evt.ite_neg (by omega) (Evt.ite_pos (by omega) (Evt.ite_pos (by omega) (Evt.ite_pos (by omega) (Evt.ite_pos (by simp; omega) ?_))))
      have dd := da.drop (m / 64)
      obtain ⟨g1, g2, g3⟩ := downL_facts (m % 64) (by omega) (a.drop (m / 64)) dd
      have hnum : num (downL (m % 64) (a.drop (m / 64))) = num a / 2 ^ m := by
        rw [num_down dd _ (by omega), num_drop da _ (by omega), b64_pow2, Nat.div_div_eq_div_mul, ← Nat.pow_add, show 64 * (m / 64) + m % 64 = m from by omega]
      have h3 : num a / 2 ^ m ≤ num a := Nat.div_le_self _ _
      have ht := nat_told_ev (downL (m % 64) (a.drop (m / 64))) (by rw [g2]; simp; omega) g1
      have e : toldV (num a / 2 ^ m) = (limbs (num a / 2 ^ m), 0) := if_pos (Nat.lt_of_le_of_lt h3 hp)
      rw [hnum, e] at ht
      refine (nat_Shr_loop (a.drop (m / 64)) dd (by simp; omega) (m % 64) (by omega) ht (a.drop (m / 64)).length 0 [] (by omega) (by omega) rfl (by simp)).congr (fun k => ?_) rfl
      rw [Int.toNat_natCast]
      rfl
  cases hA : rightB a with
  | true =>
    refine Evt.ite_pos rfl ((J _ (fun h => ⟨hA, by simpa using h⟩)).congr (fun k => rfl) ?_)
    by_cases hn : n < 0
    · rw [decide_eq_true hn, if_pos rfl, if_neg (show ¬ (true = true ∧ 0 ≤ n) by omega)]
    · rw [decide_eq_false hn, if_neg (by simp), if_pos (show true = true ∧ 0 ≤ n from ⟨rfl, by omega⟩)]
  | false =>
    refine Evt.ite_neg (by simp) ((J _ (fun h => by simp at h)).congr (fun k => rfl) ?_)
    simp
end Go.Proofs.Ytgeanpnkllnipab.Z
end

section
namespace Go.Proofs.Ytgeanpnkllnipab.Z
open Go.RowKit Go.Proofs.Ytgeanpnkllnipab.F Go.Proofs.YtgeanpnkllnipabW.PrintWords Go.Proofs.YtgeanpnkllnipabW.PrintMore
set_option linter.unusedSimpArgs false
set_option linter.unusedVariables false
def bitV (a : List Int) (i : Int) : Bool := rightB a && decide (0 ≤ i) && decide (i / 64 < a.length) && ((a.getD (i.toNat / 64) 0 / 2 ^ (i.toNat % 64)) % 2 == 1)
theorem and_one {x : Int} (h0 : 0 ≤ x) (h1 : x < 18446744073709551616) : Go.bits .and .u64 x 1 = x % 2 := bits_mask .u64 64 (by decide) wraps_u64 1 (by decide) x h0 (by omega)
theorem nat_Bit_eq (a : List Int) (i : Int) (ha : a.length ≤ maxLen) (da : Dig (b64 : Int) a) (hi : i < 9223372036854775808) : nat_Bit.f a i = some (bitV a i) := by
  unfold nat_Bit.f bitV
  rw [nat_Right_eq ha]
  simp only [Option.bind_some]
  cases hA : rightB a with
  | false => simp
  | true =>
    rw [if_pos rfl]
    by_cases h0 : 0 ≤ i
    · obtain ⟨n, rfl⟩ := Int.eq_ofNat_of_zero_le h0
      rw [if_pos (by omega), Int.tdiv_eq_ediv_of_nonneg (by omega), Int.tmod_eq_emod_of_nonneg (by omega), w64 (by omega) (by omega)]
      by_cases h1 : (n : Int) / 64 < a.length
      · rw [if_pos h1, if_pos (by omega), if_pos (by omega)]
        rw [rd_getD, show ((n : Int) / 64).toNat = n / 64 from by omega, show (n : Int) % 64 = ((n % 64 : Nat) : Int) from by omega, shr_u64 _ _ (by omega), Int.toNat_natCast]
        have hr := da.getD b64_pos (n / 64)
        simp only [b64] at hr
        have hp := pow2_pos (n % 64)
        have h5 := Int.ediv_nonneg hr.1 (Int.le_of_lt hp)
        have h6 := Int.ediv_le_self (2 ^ (n % 64)) hr.1
        rw [and_one h5 (by omega)]
        simp [h1]
      · rw [if_neg h1]
        simp [h1]
    · rw [if_neg (by omega)]
      simp [h0]
end Go.Proofs.Ytgeanpnkllnipab.Z
end

section
namespace Go.Proofs.Ytgeanpnkllnipab.Z
open Go.RowKit Go.Proofs.Ytgeanpnkllnipab.F Go.Proofs.YtgeanpnkllnipabW.PrintWords
set_option linter.unusedSimpArgs false
set_option linter.unusedVariables false
theorem carry_of {c : Int} (h : c = 0 ∨ c = 1) : carry01 c = true := decide_eq_true h
end Go.Proofs.Ytgeanpnkllnipab.Z
end

section
namespace Go.Proofs.Ytgeanpnkllnipab.Z
open Go.RowKit Go.Proofs.Ytgeanpnkllnipab.F Go.Proofs.YtgeanpnkllnipabW.PrintWords
set_option linter.unusedSimpArgs false
set_option linter.unusedVariables false
def lessL : List Int → List Int → Int → List Int
  | [], _, _ => []
  | x :: a, b, c => sub64_s x (b.getD 0 0) c :: lessL a (b.drop 1) (sub64_c x (b.getD 0 0) c)
theorem sub64_facts {x y c : Int} (hx : 0 ≤ x ∧ x < (b64 : Int)) (hy : 0 ≤ y ∧ y < (b64 : Int)) (hc : c = 0 ∨ c = 1) :
    sub64_s x y c - (b64 : Int) * sub64_c x y c = x - y - c ∧ (0 ≤ sub64_s x y c ∧ sub64_s x y c < (b64 : Int)) ∧ (sub64_c x y c = 0 ∨ sub64_c x y c = 1) := by
  unfold sub64_s sub64_c
  simp only [b64] at *
  by_cases h : x.toNat < y.toNat + c.toNat
  · rw [if_pos h]; omega
  · rw [if_neg h]; omega
theorem lessL_len : ∀ (a b : List Int) (c : Int), (lessL a b c).length = a.length := by
  intro a
  induction a with
  | nil => intro b c; rfl
  | cons z x ih => intro b c; simp only [lessL, List.length_cons, ih]
theorem lessL_facts : ∀ (a b : List Int) (c : Int), Dig (b64 : Int) a → Dig (b64 : Int) b → b.length ≤ a.length → (c = 0 ∨ c = 1) →
    Dig (b64 : Int) (lessL a b c) ∧ ∃ t, 0 ≤ t ∧ val (b64 : Int) (lessL a b c) = val (b64 : Int) a - val (b64 : Int) b - c + (b64 : Int) ^ a.length * t := by
  intro a
  induction a with
  | nil =>
    intro b c _ _ hlen hc
    have : b = [] := List.length_eq_zero_iff.1 (by simpa using hlen)
    subst this
    exact ⟨Dig.nil, c, by omega, by simp [lessL, val]; omega⟩
  | cons x a ih =>
    intro b c da db hlen hc
    have d1 := Dig.cons.1 da
    have hy := db.getD b64_pos 0
    obtain ⟨e1, e2, e3⟩ := sub64_facts d1.1 hy hc
    obtain ⟨i1, t, ht, i2⟩ := ih (b.drop 1) _ d1.2 (db.drop 1) (by simp at hlen ⊢; omega) e3
    refine ⟨Dig.cons.2 ⟨e2, i1⟩, t, ht, ?_⟩
    simp only [lessL, val]
    rw [i2]
    have hb : val (b64 : Int) b = b.getD 0 0 + (b64 : Int) * val (b64 : Int) (b.drop 1) := by
      cases b with
      | nil => simp [val]
      | cons y b => simp [val]
    rw [hb]
    generalize (b64 : Int) = B at *
    generalize sub64_s x (b.getD 0 0) c = s at *
    generalize sub64_c x (b.getD 0 0) c = u at *
    generalize val B a = va at *
    generalize val B (b.drop 1) = vb at *
    generalize b.getD 0 0 = y at *
    rw [List.length_cons, Int.pow_succ]
    generalize B ^ a.length = P at *
    have h1 : B * (va - vb - u + P * t) = B * va - B * vb - B * u + P * B * t := by grind
    omega
theorem nat_less_l0 (a b : List Int) (ha : a.length ≤ 1000) (hb : b.length ≤ 1000) (da : Dig (b64 : Int) a) (db : Dig (b64 : Int) b) (n : Nat) : ∀ (i : Nat) (p : List Int) (c : Int), p.length = i → i ≤ a.length → a.length - i = n → (c = 0 ∨ c = 1) →
    Evt (fun k => nat_less.l0 k a b (p ++ List.replicate n 0) c (a.length : Int) (i : Int)) (p ++ lessL (a.drop i) (b.drop i) c) := by
  induction n with
  | zero =>
    intro i p c hp hi hn hc
    refine Evt.succ ?_
    simp only [nat_less.l0]
    refine Evt.ite_neg (by omega) ?_
    rw [List.drop_of_length_le (show a.length ≤ i by omega)]
    simp only [lessL, List.replicate_zero]
    exact Evt.pure _
  | succ n ih =>
    intro i p c hp hi hn hc
    have hlt : i < a.length := by omega
    refine Evt.succ ?_
    simp only [nat_less.l0]
    refine Evt.ite_pos (by omega) ?_
    have hx : rd a (i : Int) = a[i] := by simp [rd_nat, hlt]
    have hxr := da a[i] (List.getElem_mem hlt)
    have hset : ∀ v : Int, (p ++ List.replicate (n + 1) 0).set ((i : Int)).toNat v = (p ++ [v]) ++ List.replicate n 0 := by
      intro v
      rw [show ((i : Int)).toNat = p.length from by omega, List.replicate_succ, set_at, List.append_assoc]
      rfl
    have hyr := (db.drop i).getD b64_pos 0
    have hfin : ∀ y : Int, y = (b.drop i).getD 0 0 → Evt (fun k => nat_less.l0 k a b ((p ++ List.replicate (n + 1) 0).set ((i : Int)).toNat (sub64_s (rd a (i : Int)) y c)) (sub64_c (rd a (i : Int)) y c) (a.length : Int) (wrap64 ((i : Int) + 1))) (p ++ lessL (a.drop i) (b.drop i) c) := by
      intro y hy
      subst hy
      obtain ⟨e1, e2, e3⟩ := sub64_facts hxr hyr hc
      rw [hx, hset, w64 (by omega) (by omega)]
      have h := ih (i + 1) (p ++ [sub64_s a[i] ((b.drop i).getD 0 0) c]) (sub64_c a[i] ((b.drop i).getD 0 0) c) (by simp [hp]) (by omega) (by omega) e3
      refine h.congr (fun k => rfl) ?_
      rw [List.drop_eq_getElem_cons hlt]
      simp only [lessL, List.drop_drop, List.append_assoc, List.singleton_append]
    by_cases hib : i < b.length
    · refine Evt.ite_pos (by omega) (Evt.ite_pos (by omega) (Evt.ite_pos (by omega) (Evt.ite_pos (carry_of hc) (Evt.ite_pos (by simp; omega) ?_))))
      refine hfin _ ?_
      simp [rd_nat, hib]
    · refine Evt.ite_neg (by omega) (Evt.ite_pos (by omega) (Evt.ite_pos (by omega) (Evt.ite_pos (carry_of hc) (Evt.ite_pos (by simp; omega) ?_))))
      refine hfin _ ?_
      simp [List.drop_of_length_le (show b.length ≤ i by omega)]
theorem nat_less_ev (a b : List Int) (ha : a.length ≤ 1000) (hb : b.length ≤ a.length) (da : Dig (b64 : Int) a) (db : Dig (b64 : Int) b) (hle : num b ≤ num a) : ∃ s, Evt (fun k => nat_less.f k a b) s ∧ Dig (b64 : Int) s ∧ num s = num a - num b ∧ s.length = a.length := by
  refine ⟨lessL a b 0, ?_, ?_⟩
  · unfold nat_less.f
    refine Evt.ite_pos (by omega) (Evt.ite_pos (by omega) ?_)
    have h := nat_less_l0 a b ha (by omega) da db a.length 0 [] 0 rfl (Nat.zero_le _) (by omega) (Or.inl rfl)
    exact h.congr (fun k => by simp) (by simp)
  · obtain ⟨f1, t, ht, f2⟩ := lessL_facts a b 0 da db hb (Or.inl rfl)
    refine ⟨f1, ?_, lessL_len a b 0⟩
    have h1 := num_val f1
    have h2 := num_val da
    have h3 := num_val db
    have h4 := num_lt f1
    rw [lessL_len] at h4
    rw [pow_cast] at f2
    have ht0 : t = 0 := by
      by_cases e : t = 0
      · exact e
      · have h5 : ((b64 ^ a.length : Nat) : Int) * 1 ≤ ((b64 ^ a.length : Nat) : Int) * t := Int.mul_le_mul_of_nonneg_left (by omega) (by omega)
        omega
    subst ht0
    rw [Int.mul_zero] at f2
    omega
end Go.Proofs.Ytgeanpnkllnipab.Z
end

section
namespace Go.Proofs.Ytgeanpnkllnipab.Z
open Go.RowKit Go.Proofs.Ytgeanpnkllnipab.F Go.Proofs.YtgeanpnkllnipabW.PrintWords
set_option linter.unusedSimpArgs false
set_option linter.unusedVariables false
def cmpL (B : Int) (l m : List Int) : Int := if val B l < val B m then -1 else if val B l = val B m then 0 else 1
theorem val_take_succ (B : Int) (l : List Int) (i : Nat) (h : i < l.length) : val B (l.take (i + 1)) = val B (l.take i) + B ^ i * l[i] := by
  rw [List.take_succ_eq_append_getElem h, val_append]
  simp only [val, List.length_take]
  rw [show min i l.length = i from by omega, Int.mul_zero, Int.add_zero]
theorem cmp_step {B : Int} (hB : 0 < B) {l m : List Int} (hl : Dig B l) (hm : Dig B m) (i : Nat) (h1 : i < l.length) (h2 : i < m.length) :
    (l[i] < m[i] → cmpL B (l.take (i + 1)) (m.take (i + 1)) = -1) ∧ (m[i] < l[i] → cmpL B (l.take (i + 1)) (m.take (i + 1)) = 1) ∧ (l[i] = m[i] → cmpL B (l.take (i + 1)) (m.take (i + 1)) = cmpL B (l.take i) (m.take i)) := by
  have a1 := val_nonneg hB (hl.take i)
  have a2 := val_nonneg hB (hm.take i)
  have b1 := val_lt hB (hl.take i)
  have b2 := val_lt hB (hm.take i)
  rw [List.length_take, show min i l.length = i from by omega] at b1
  rw [List.length_take, show min i m.length = i from by omega] at b2
  have hp : 0 < B ^ i := Int.pow_pos hB
  unfold cmpL
  rw [val_take_succ B l i h1, val_take_succ B m i h2]
  refine ⟨fun h => ?_, fun h => ?_, fun h => ?_⟩
  · have h3 : B ^ i * (l[i] + 1) ≤ B ^ i * m[i] := Int.mul_le_mul_of_nonneg_left (by omega) (by omega)
    rw [Int.mul_add, Int.mul_one] at h3
    rw [if_pos (by omega)]
  · have h3 : B ^ i * (m[i] + 1) ≤ B ^ i * l[i] := Int.mul_le_mul_of_nonneg_left (by omega) (by omega)
    rw [Int.mul_add, Int.mul_one] at h3
    rw [if_neg (by omega), if_neg (by omega)]
  · rw [h]
    by_cases c1 : val B (l.take i) < val B (m.take i)
    · rw [if_pos c1, if_pos (by omega)]
    · by_cases c2 : val B (l.take i) = val B (m.take i)
      · rw [if_neg c1, if_pos c2, if_neg (by omega), if_pos (by omega)]
      · rw [if_neg c1, if_neg c2, if_neg (by omega), if_neg (by omega)]
theorem ref_compare_loop {B : Int} (hB : 0 < B) (l m : List Int) (hl : Dig B l) (hm : Dig B m) (hlen : l.length = m.length) (hb : l.length ≤ 1000000) : ∀ i : Nat, i ≤ l.length → Evt (fun k => windbreakref01_compare.l0 k l m ((i : Int) - 1)) (cmpL B (l.take i) (m.take i)) := by
  intro i
  induction i with
  | zero =>
    intro _
    refine Evt.succ ?_
    simp only [windbreakref01_compare.l0]
    refine Evt.ite_neg (by omega) ?_
    exact Evt.pure _
  | succ i ih =>
    intro hi
    have h1 : i < l.length := by omega
    have h2 : i < m.length := by omega
    obtain ⟨s1, s2, s3⟩ := cmp_step hB hl hm i h1 h2
    rw [show (((i + 1 : Nat) : Int) - 1) = (i : Int) from by omega]
    refine Evt.succ ?_
    simp only [windbreakref01_compare.l0]
    refine Evt.ite_pos (by omega) (Evt.ite_pos (by omega) (Evt.ite_pos (by omega) (Evt.ite_pos (by omega) ?_)))
    have e1 : rd l (i : Int) = l[i] := by simp [rd_nat, h1]
    have e2 : rd m (i : Int) = m[i] := by simp [rd_nat, h2]
    rw [e1, e2]
    by_cases c1 : l[i] < m[i]
    · rw [s1 c1]; exact Evt.ite_pos c1 (Evt.pure _)
    · by_cases c2 : m[i] < l[i]
      · rw [s2 c2]; exact Evt.ite_neg c1 (Evt.ite_pos c2 (Evt.pure _))
      · rw [s3 (by omega)]
        refine Evt.ite_neg c1 (Evt.ite_neg c2 ?_)
        rw [w64 (by omega) (by omega)]
        exact ih (by omega)
theorem ref_compare_any {B : Int} (hB : 0 < B) (l m : List Int) (hl : Dig B l) (hm : Dig B m) (cl : Can l) (cm : Can m) (hb : l.length ≤ 1000000) : Evt (fun k => windbreakref01_compare.f k l m) (cmpL B l m) := by
  unfold windbreakref01_compare.f
  by_cases hlen : l.length = m.length
  · refine Evt.ite_pos (by omega) ?_
    rw [w64 (by omega) (by omega)]
    have := ref_compare_loop hB l m hl hm hlen hb l.length (Nat.le_refl _)
    refine this.congr (fun k => rfl) ?_
    rw [List.take_length, hlen, List.take_length]
  · refine Evt.ite_neg (by omega) ?_
    by_cases h2 : l.length < m.length
    · have := val_lt_of_length hB hl hm cm h2
      have e : cmpL B l m = -1 := if_pos this
      rw [e]
      exact Evt.ite_pos (by omega) (Evt.pure _)
    · have := val_lt_of_length hB hm hl cl (by omega)
      have e : cmpL B l m = 1 := by unfold cmpL; rw [if_neg (by omega), if_neg (by omega)]
      rw [e]
      exact Evt.ite_neg (by omega) (Evt.pure _)
theorem ref_compare_ev (v w : Nat) (hv : v < lim) : Evt (fun k => windbreakref01_compare.f k (digs v) (digs w)) (cmpN v w) := by
  have hlen : (digs v).length ≤ 1000000 := Nat.le_trans (digs_len hv) (by omega)
  refine (ref_compare_any b16_pos _ _ (toD_dig b16_two v) (toD_dig b16_two w) (toD_can b16_two v) (toD_can b16_two w) hlen).congr (fun k => rfl) ?_
  unfold cmpL cmpN
  rw [val_toD b16_two, val_toD b16_two]
  simp only [Int.ofNat_lt, Int.natCast_inj]
end Go.Proofs.Ytgeanpnkllnipab.Z
end

section
namespace Go.Proofs.Ytgeanpnkllnipab.Z
open Go.RowKit Go.Proofs.Ytgeanpnkllnipab.F Go.Proofs.YtgeanpnkllnipabW.PrintWords
set_option linter.unusedSimpArgs false
set_option linter.unusedVariables false
theorem nat_compare_loop {B : Int} (hB : 0 < B) (l m : List Int) (hl : Dig B l) (hm : Dig B m) (hlen : l.length = m.length) (hb : l.length ≤ 1000000) : ∀ i : Nat, i ≤ l.length → Evt (fun k => nat_compare.l0 k l m ((i : Int) - 1)) (cmpL B (l.take i) (m.take i)) := by
  intro i
  induction i with
  | zero =>
    intro _
    refine Evt.succ ?_
    simp only [nat_compare.l0]
    refine Evt.ite_neg (by omega) ?_
    exact Evt.pure _
  | succ i ih =>
    intro hi
    have h1 : i < l.length := by omega
    have h2 : i < m.length := by omega
    obtain ⟨s1, s2, s3⟩ := cmp_step hB hl hm i h1 h2
    rw [show (((i + 1 : Nat) : Int) - 1) = (i : Int) from by omega]
    refine Evt.succ ?_
    simp only [nat_compare.l0]
    refine Evt.ite_pos (by omega) (Evt.ite_pos (by omega) (Evt.ite_pos (by omega) (Evt.ite_pos (by omega) ?_)))
    have e1 : rd l (i : Int) = l[i] := by simp [rd_nat, h1]
    have e2 : rd m (i : Int) = m[i] := by simp [rd_nat, h2]
    rw [e1, e2]
    by_cases c0 : l[i] = m[i]
    · rw [s3 c0]
      refine Evt.ite_pos c0 ?_
      rw [w64 (by omega) (by omega)]
      exact ih (by omega)
    · refine Evt.ite_neg c0 ?_
      by_cases c1 : l[i] < m[i]
      · rw [s1 c1]; exact Evt.ite_pos c1 (Evt.pure _)
      · rw [s2 (by omega)]; exact Evt.ite_neg c1 (Evt.pure _)
theorem nat_compare_any {B : Int} (hB : 0 < B) (l m : List Int) (hl : Dig B l) (hm : Dig B m) (cl : Can l) (cm : Can m) (hb : l.length ≤ 1000000) : Evt (fun k => nat_compare.f k l m) (cmpL B l m) := by
  unfold nat_compare.f
  by_cases hlen : l.length = m.length
  · refine Evt.ite_pos (by omega) ?_
    rw [w64 (by omega) (by omega)]
    have := nat_compare_loop hB l m hl hm hlen hb l.length (Nat.le_refl _)
    refine this.congr (fun k => rfl) ?_
    rw [List.take_length, hlen, List.take_length]
  · refine Evt.ite_neg (by omega) ?_
    by_cases h2 : l.length < m.length
    · have := val_lt_of_length hB hl hm cm h2
      have e : cmpL B l m = -1 := if_pos this
      rw [e]
      exact Evt.ite_pos (by omega) (Evt.pure _)
    · have := val_lt_of_length hB hm hl cl (by omega)
      have e : cmpL B l m = 1 := by unfold cmpL; rw [if_neg (by omega), if_neg (by omega)]
      rw [e]
      exact Evt.ite_neg (by omega) (Evt.pure _)
theorem nat_compare_ev (l m : List Int) (hl : Dig (b64 : Int) l) (hm : Dig (b64 : Int) m) (cl : Can l) (cm : Can m) (hb : l.length ≤ 1000000) : Evt (fun k => nat_compare.f k l m) (cmpN (num l) (num m)) := by
  refine (nat_compare_any b64_pos l m hl hm cl cm hb).congr (fun k => rfl) ?_
  unfold cmpL cmpN
  rw [← num_val hl, ← num_val hm]
  simp only [Int.ofNat_lt, Int.natCast_inj]
end Go.Proofs.Ytgeanpnkllnipab.Z
end

section
namespace Go.Proofs.Ytgeanpnkllnipab.Z
open Go.RowKit Go.Proofs.Ytgeanpnkllnipab.F Go.Proofs.YtgeanpnkllnipabW.PrintWords
set_option linter.unusedSimpArgs false
set_option linter.unusedVariables false
theorem nat_right_eq (ls : List (List Int)) (h : ∀ l ∈ ls, l.length ≤ maxLen) : nat_right.f ls = some (ls.all rightB) := by
  induction ls with
  | nil => rfl
  | cons a ls ih =>
    simp only [nat_right.f]
    rw [nat_Right_eq (h a (by simp)), ih (fun l hl => h l (by simp [hl]))]
    simp only [Option.bind_some, List.all_cons]
    cases rightB a <;> simp
end Go.Proofs.Ytgeanpnkllnipab.Z
end

section
namespace Go.Proofs.Ytgeanpnkllnipab.Z
open Go.RowKit Go.Proofs.Ytgeanpnkllnipab.F Go.Proofs.YtgeanpnkllnipabW.PrintWords
set_option linter.unusedSimpArgs false
set_option linter.unusedVariables false
def subV (a b : List Int) : List Int × Int := if rightB a = true ∧ rightB b = true then (if num a < num b then ([], 2) else (limbs (num a - num b), 0)) else ([], 1)
theorem len_of_num_le {a b : List Int} (da : Dig (b64 : Int) a) (db : Dig (b64 : Int) b) (ca : Can a) (cb : Can b) (h : num b ≤ num a) : b.length ≤ a.length := by
  by_cases hl : b.length ≤ a.length
  · exact hl
  · have := val_lt_of_length b64_pos da db cb (by omega)
    rw [← num_val da, ← num_val db] at this
    omega
theorem toldV_small {v : Nat} (h : v < b64 ^ 64) : toldV v = (limbs v, 0) := if_pos h
theorem nat_Sub_ev (a b : List Int) (ha : a.length ≤ maxLen) (hb : b.length ≤ maxLen) (da : Dig (b64 : Int) a) (db : Dig (b64 : Int) b) : Evt (fun k => nat_Sub.f k a b) (subV a b) := by
  unfold nat_Sub.f subV
  rw [nat_right_eq _ (by intro l hl; simp at hl; rcases hl with rfl | rfl <;> assumption)]
  simp only [Option.bind_some, List.all_cons, List.all_nil, Bool.and_true, Bool.and_eq_true]
  by_cases h : rightB a = true ∧ rightB b = true
  · rw [if_pos h]
    refine Evt.ite_pos h ?_
    obtain ⟨h1, c1⟩ := (rightB_iff a).1 h.1
    obtain ⟨h2, c2⟩ := (rightB_iff b).1 h.2
    refine Evt.bind (nat_compare_ev a b da db c1 c2 (by omega)) ?_
    by_cases hlt : num a < num b
    · have e : cmpN (num a) (num b) = -1 := if_pos hlt
      rw [e, if_pos hlt]
      exact Evt.ite_pos (by omega) (Evt.pure _)
    · have e : ¬ cmpN (num a) (num b) < 0 := by
        unfold cmpN
        rw [if_neg hlt]
        by_cases e2 : num a = num b
        · rw [if_pos e2]; omega
        · rw [if_neg e2]; omega
      rw [if_neg hlt]
      refine Evt.ite_neg e ?_
      obtain ⟨s, e1, e2, e3, e4⟩ := nat_less_ev a b (by omega) (len_of_num_le da db c1 c2 (by omega)) da db (by omega)
      refine Evt.bind e1 ?_
      have n1 : num a - num b < b64 ^ 64 := by
        have := num_lt_p da h1
        omega
      have h5 := nat_told_ev s (by omega) e2
      rw [e3, toldV_small n1] at h5
      exact Evt.bind h5 (h := fun t _ => some (t.1, t.2)) (Evt.pure _)
  · rw [if_neg h]
    exact Evt.ite_neg h (Evt.pure _)
end Go.Proofs.Ytgeanpnkllnipab.Z
end

section
namespace Go.Proofs.Ytgeanpnkllnipab.Z
open Go.RowKit Go.Proofs.Ytgeanpnkllnipab.F Go.Proofs.YtgeanpnkllnipabW.PrintWords
set_option linter.unusedSimpArgs false
set_option linter.unusedVariables false
def sumL : List Int → List Int → Int → List Int
  | [], _, c => [c]
  | x :: a, b, c => add64_s x (b.getD 0 0) c :: sumL a (b.drop 1) (add64_c x (b.getD 0 0) c)
theorem add64_facts {x y c : Int} (hx : 0 ≤ x ∧ x < (b64 : Int)) (hy : 0 ≤ y ∧ y < (b64 : Int)) (hc : c = 0 ∨ c = 1) :
    add64_s x y c + (b64 : Int) * add64_c x y c = x + y + c ∧ (0 ≤ add64_s x y c ∧ add64_s x y c < (b64 : Int)) ∧ (add64_c x y c = 0 ∨ add64_c x y c = 1) := by
  unfold add64_s add64_c
  simp only [b64] at *
  omega
theorem sumL_facts : ∀ (a b : List Int) (c : Int), Dig (b64 : Int) a → Dig (b64 : Int) b → b.length ≤ a.length → (c = 0 ∨ c = 1) →
    Dig (b64 : Int) (sumL a b c) ∧ val (b64 : Int) (sumL a b c) = val (b64 : Int) a + val (b64 : Int) b + c := by
  intro a
  induction a with
  | nil =>
    intro b c _ _ hlen hc
    have : b = [] := List.length_eq_zero_iff.1 (by simpa using hlen)
    subst this
    refine ⟨?_, ?_⟩
    · intro x hx
      simp [sumL] at hx
      subst hx
      simp only [b64]; omega
    · simp [sumL, val]
  | cons x a ih =>
    intro b c da db hlen hc
    have d1 := Dig.cons.1 da
    have hy := db.getD b64_pos 0
    obtain ⟨e1, e2, e3⟩ := add64_facts d1.1 hy hc
    obtain ⟨i1, i2⟩ := ih (b.drop 1) _ d1.2 (db.drop 1) (by simp at hlen ⊢; omega) e3
    refine ⟨Dig.cons.2 ⟨e2, i1⟩, ?_⟩
    simp only [sumL, val]
    rw [i2]
    have hb : val (b64 : Int) b = b.getD 0 0 + (b64 : Int) * val (b64 : Int) (b.drop 1) := by
      cases b with
      | nil => simp [val]
      | cons y b => simp [val]
    rw [hb]
    generalize (b64 : Int) = B at *
    generalize add64_s x (b.getD 0 0) c = s at *
    generalize add64_c x (b.getD 0 0) c = t at *
    generalize val B a = va at *
    generalize val B (b.drop 1) = vb at *
    generalize b.getD 0 0 = y at *
    have : B * (va + vb + t) = B * va + B * vb + B * t := by rw [Int.mul_add, Int.mul_add]
    omega
theorem nat_sum_l0 (a b : List Int) (ha : a.length ≤ 1000) (hb : b.length ≤ 1000) (da : Dig (b64 : Int) a) (db : Dig (b64 : Int) b) (n : Nat) : ∀ (i : Nat) (p : List Int) (c : Int), p.length = i → i ≤ a.length → a.length - i = n → (c = 0 ∨ c = 1) →
    Evt (fun k => nat_sum.l0 k a b (p ++ List.replicate (n + 1) 0) c (a.length : Int) (i : Int)) (p ++ sumL (a.drop i) (b.drop i) c) := by
  induction n with
  | zero =>
    intro i p c hp hi hn hc
    refine Evt.succ ?_
    simp only [nat_sum.l0]
    refine Evt.ite_neg (by omega) (Evt.ite_pos (by omega) (Evt.ite_pos (by simp; omega) ?_))
    rw [List.drop_of_length_le (show a.length ≤ i by omega), show ((a.length : Int)).toNat = p.length from by omega]
    simp only [sumL, List.replicate_succ, List.replicate_zero]
    rw [set_at]
    exact Evt.pure _
  | succ n ih =>
    intro i p c hp hi hn hc
    have hlt : i < a.length := by omega
    refine Evt.succ ?_
    simp only [nat_sum.l0]
    refine Evt.ite_pos (by omega) ?_
    have hx : rd a (i : Int) = a[i] := by simp [rd_nat, hlt]
    have hxr := da a[i] (List.getElem_mem hlt)
    have hset : ∀ v : Int, (p ++ List.replicate (n + 1 + 1) 0).set ((i : Int)).toNat v = (p ++ [v]) ++ List.replicate (n + 1) 0 := by
      intro v
      rw [show ((i : Int)).toNat = p.length from by omega, List.replicate_succ, set_at, List.append_assoc]
      rfl
    have hyr := (db.drop i).getD b64_pos 0
    have hfin : ∀ y : Int, y = (b.drop i).getD 0 0 → Evt (fun k => nat_sum.l0 k a b ((p ++ List.replicate (n + 1 + 1) 0).set ((i : Int)).toNat (add64_s (rd a (i : Int)) y c)) (add64_c (rd a (i : Int)) y c) (a.length : Int) (wrap64 ((i : Int) + 1))) (p ++ sumL (a.drop i) (b.drop i) c) := by
      intro y hy
      subst hy
      obtain ⟨e1, e2, e3⟩ := add64_facts hxr hyr hc
      rw [hx, hset, w64 (by omega) (by omega)]
      have h := ih (i + 1) (p ++ [add64_s a[i] ((b.drop i).getD 0 0) c]) (add64_c a[i] ((b.drop i).getD 0 0) c) (by simp [hp]) (by omega) (by omega) e3
      refine h.congr (fun k => rfl) ?_
      rw [List.drop_eq_getElem_cons hlt]
      simp only [sumL, List.drop_drop, List.append_assoc, List.singleton_append]
    by_cases hib : i < b.length
    · refine Evt.ite_pos (by omega) (Evt.ite_pos (by omega) (Evt.ite_pos (by omega) (Evt.ite_pos (carry_of hc) (Evt.ite_pos (by simp; omega) ?_))))
      refine hfin _ ?_
      simp [rd_nat, hib]
    · refine Evt.ite_neg (by omega) (Evt.ite_pos (by omega) (Evt.ite_pos (by omega) (Evt.ite_pos (carry_of hc) (Evt.ite_pos (by simp; omega) ?_))))
      refine hfin _ ?_
      simp [List.drop_of_length_le (show b.length ≤ i by omega)]
theorem nat_sum_l51 (a b : List Int) (ha : a.length ≤ 1000) (hb : b.length ≤ 1000) (da : Dig (b64 : Int) a) (db : Dig (b64 : Int) b) (n : Nat) : ∀ (i : Nat) (p : List Int) (c : Int), p.length = i → i ≤ a.length → a.length - i = n → (c = 0 ∨ c = 1) →
    Evt (fun k => nat_sum.l51 k a b (p ++ List.replicate (n + 1) 0) c (a.length : Int) (i : Int)) (p ++ sumL (a.drop i) (b.drop i) c) := by
  induction n with
  | zero =>
    intro i p c hp hi hn hc
    refine Evt.succ ?_
    simp only [nat_sum.l51]
    refine Evt.ite_neg (by omega) (Evt.ite_pos (by omega) (Evt.ite_pos (by simp; omega) ?_))
    rw [List.drop_of_length_le (show a.length ≤ i by omega), show ((a.length : Int)).toNat = p.length from by omega]
    simp only [sumL, List.replicate_succ, List.replicate_zero]
    rw [set_at]
    exact Evt.pure _
  | succ n ih =>
    intro i p c hp hi hn hc
    have hlt : i < a.length := by omega
    refine Evt.succ ?_
    simp only [nat_sum.l51]
    refine Evt.ite_pos (by omega) ?_
    have hx : rd a (i : Int) = a[i] := by simp [rd_nat, hlt]
    have hxr := da a[i] (List.getElem_mem hlt)
    have hset : ∀ v : Int, (p ++ List.replicate (n + 1 + 1) 0).set ((i : Int)).toNat v = (p ++ [v]) ++ List.replicate (n + 1) 0 := by
      intro v
      rw [show ((i : Int)).toNat = p.length from by omega, List.replicate_succ, set_at, List.append_assoc]
      rfl
    have hyr := (db.drop i).getD b64_pos 0
    have hfin : ∀ y : Int, y = (b.drop i).getD 0 0 → Evt (fun k => nat_sum.l51 k a b ((p ++ List.replicate (n + 1 + 1) 0).set ((i : Int)).toNat (add64_s (rd a (i : Int)) y c)) (add64_c (rd a (i : Int)) y c) (a.length : Int) (wrap64 ((i : Int) + 1))) (p ++ sumL (a.drop i) (b.drop i) c) := by
      intro y hy
      subst hy
      obtain ⟨e1, e2, e3⟩ := add64_facts hxr hyr hc
      rw [hx, hset, w64 (by omega) (by omega)]
      have h := ih (i + 1) (p ++ [add64_s a[i] ((b.drop i).getD 0 0) c]) (add64_c a[i] ((b.drop i).getD 0 0) c) (by simp [hp]) (by omega) (by omega) e3
      refine h.congr (fun k => rfl) ?_
      rw [List.drop_eq_getElem_cons hlt]
      simp only [sumL, List.drop_drop, List.append_assoc, List.singleton_append]
    by_cases hib : i < b.length
    · refine Evt.ite_pos (by omega) (Evt.ite_pos (by omega) (Evt.ite_pos (by omega) (Evt.ite_pos (carry_of hc) (Evt.ite_pos (by simp; omega) ?_))))
      refine hfin _ ?_
      simp [rd_nat, hib]
    · refine Evt.ite_neg (by omega) (Evt.ite_pos (by omega) (Evt.ite_pos (by omega) (Evt.ite_pos (carry_of hc) (Evt.ite_pos (by simp; omega) ?_))))
      refine hfin _ ?_
      simp [List.drop_of_length_le (show b.length ≤ i by omega)]

theorem nat_sum_ev (a b : List Int) (ha : a.length ≤ 1000) (hb : b.length ≤ 1000) (da : Dig (b64 : Int) a) (db : Dig (b64 : Int) b) : ∃ s, Evt (fun k => nat_sum.f k a b) s ∧ Dig (b64 : Int) s ∧ num s = num a + num b ∧ s.length ≤ 1002 := by
  unfold nat_sum.f
  have fin : ∀ (x y : List Int), Dig (b64 : Int) x → Dig (b64 : Int) y → y.length ≤ x.length → x.length ≤ 1000 → Dig (b64 : Int) (sumL x y 0) ∧ num (sumL x y 0) = num x + num y ∧ (sumL x y 0).length ≤ 1002 := by
    intro x y dx dy hlen hx
    obtain ⟨f1, f2⟩ := sumL_facts x y 0 dx dy hlen (Or.inl rfl)
    have l1 : ∀ (x y : List Int) (c : Int), (sumL x y c).length = x.length + 1 := by
      intro x
      induction x with
      | nil => intro y c; rfl
      | cons z x ih => intro y c; simp only [sumL, List.length_cons, ih]
    refine ⟨f1, ?_, by rw [l1]; omega⟩
    have := num_val f1
    have := num_val dx
    have := num_val dy
    omega
  have ex : ∀ x : List Int, x.length ≤ 1000 → wrap64 ((x.length : Int) + 1) = ((x.length + 1 : Nat) : Int) := fun x hx => by rw [w64 (by omega) (by omega)]; omega
  by_cases h : a.length < b.length
  · refine ⟨sumL b a 0, Evt.ite_pos (by omega) ?_, (fin b a db da (by omega) hb).1, by rw [(fin b a db da (by omega) hb).2.1]; omega, (fin b a db da (by omega) hb).2.2⟩
    rw [ex b hb]
    refine Evt.ite_pos (by omega) (Evt.ite_pos (by omega) ?_)
    exact (nat_sum_l0 b a hb ha db da b.length 0 [] 0 rfl (Nat.zero_le _) (by omega) (Or.inl rfl)).congr (fun k => rfl) (by simp)
  · refine ⟨sumL a b 0, Evt.ite_neg (by omega) ?_, (fin a b da db (by omega) ha).1, (fin a b da db (by omega) ha).2.1, (fin a b da db (by omega) ha).2.2⟩
    rw [ex a ha]
    refine Evt.ite_pos (by omega) (Evt.ite_pos (by omega) ?_)
    exact (nat_sum_l51 a b ha hb da db a.length 0 [] 0 rfl (Nat.zero_le _) (by omega) (Or.inl rfl)).congr (fun k => rfl) (by simp)
end Go.Proofs.Ytgeanpnkllnipab.Z
end

section
namespace Go.Proofs.Ytgeanpnkllnipab.Z
open Go.RowKit Go.Proofs.Ytgeanpnkllnipab.F Go.Proofs.YtgeanpnkllnipabW.PrintWords
set_option linter.unusedSimpArgs false
set_option linter.unusedVariables false
def addV (a b : List Int) : List Int × Int := if rightB a = true ∧ rightB b = true then toldV (num a + num b) else ([], 1)
theorem nat_Add_ev (a b : List Int) (ha : a.length ≤ maxLen) (hb : b.length ≤ maxLen) (da : Dig (b64 : Int) a) (db : Dig (b64 : Int) b) : Evt (fun k => nat_Add.f k a b) (addV a b) := by
  unfold nat_Add.f addV
  rw [nat_right_eq _ (by intro l hl; simp at hl; rcases hl with rfl | rfl <;> assumption)]
  simp only [Option.bind_some, List.all_cons, List.all_nil, Bool.and_true, Bool.and_eq_true]
  by_cases h : rightB a = true ∧ rightB b = true
  · rw [if_pos h]
    refine Evt.ite_pos h ?_
    obtain ⟨h1, c1⟩ := (rightB_iff a).1 h.1
    obtain ⟨h2, c2⟩ := (rightB_iff b).1 h.2
    obtain ⟨s, e1, e2, e3, e4⟩ := nat_sum_ev a b (by omega) (by omega) da db
    refine Evt.bind e1 ?_
    rw [← e3]
    exact Evt.bind (nat_told_ev s (by omega) e2) (h := fun t _ => some (t.1, t.2)) (Evt.pure _)
  · rw [if_neg h]
    exact Evt.ite_neg h (Evt.pure _)
end Go.Proofs.Ytgeanpnkllnipab.Z
end

section
namespace Go.Proofs.Ytgeanpnkllnipab.Z
open Go.RowKit Go.Proofs.Ytgeanpnkllnipab.F Go.Proofs.YtgeanpnkllnipabW.PrintWords
set_option linter.unusedSimpArgs false
set_option linter.unusedVariables false
def cmpV (a b : List Int) : Int := if rightB a = true ∧ rightB b = true then cmpN (num a) (num b) else 0
theorem nat_Cmp_ev (a b : List Int) (ha : a.length ≤ maxLen) (hb : b.length ≤ maxLen) (da : Dig (b64 : Int) a) (db : Dig (b64 : Int) b) : Evt (fun k => nat_Cmp.f k a b) (cmpV a b) := by
  unfold nat_Cmp.f cmpV
  rw [nat_right_eq _ (by intro l hl; simp at hl; rcases hl with rfl | rfl <;> assumption)]
  simp only [Option.bind_some, List.all_cons, List.all_nil, Bool.and_true, Bool.and_eq_true]
  by_cases h : rightB a = true ∧ rightB b = true
  · rw [if_pos h]
    refine Evt.ite_pos h ?_
    obtain ⟨h1, c1⟩ := (rightB_iff a).1 h.1
    obtain ⟨h2, c2⟩ := (rightB_iff b).1 h.2
    exact Evt.bind (nat_compare_ev a b da db c1 c2 (by omega)) (h := fun t _ => some t) (Evt.pure _)
  · rw [if_neg h]
    exact Evt.ite_neg h (Evt.pure _)
end Go.Proofs.Ytgeanpnkllnipab.Z
end

section
namespace Go.Proofs.Ytgeanpnkllnipab.F
open Go.RowKit Go.Proofs.YtgeanpnkllnipabW.PrintWords Go.Proofs.YtgeanpnkllnipabW.PrintLast Go.Proofs.YtgeanpnkllnipabW.PrintMore
attribute [local go_sem] max2_int min2_int max_two min_two max_three min_three max_four min_four
set_option linter.unusedVariables false
set_option linter.unusedSimpArgs false

def fixenc_Decode.j0 : Nat → List Int → List Int → Bool → Option (Bool × List Int × Int)
 | 0, _, _, _ => none
 | k + 1, x0, x1, x13 => if x13 = true then (some (false, ([] : List Int), 10)) else ((fixenc_fits.f k x0 x1).bind fun t1160 => (if t1160 = true then ((modint_From.f false x1).bind fun bt1161 => (some (bt1161.1, bt1161.2, 0))) else ((nat_Sub.f k x0 x1).bind fun bt1165 => ((modint_From.f true bt1165.1).bind fun bt1169 => (some (bt1169.1, bt1169.2, 0))))))
def fixenc_Decode.f (k : Nat) (l0 : List Int) (l1 : List Int) : Option (Bool × List Int × Int) := (fixenc_modulus_may.f k l0).bind fun t1157 => (if t1157 = true then ((nat_Right.f l1).bind fun t1158 => (if t1158 = true then ((nat_Cmp.f k l1 l0).bind fun t1159 => (fixenc_Decode.j0 k l0 l1 (decide (t1159 ≥ 0)))) else (fixenc_Decode.j0 k l0 l1 true))) else (some (false, ([] : List Int), 1)))
end Go.Proofs.Ytgeanpnkllnipab.F
end

section
namespace Go.Proofs.Ytgeanpnkllnipab.Z
open Go.RowKit Go.Proofs.Ytgeanpnkllnipab.F Go.Proofs.YtgeanpnkllnipabW.PrintWords
set_option linter.unusedSimpArgs false
set_option linter.unusedVariables false
theorem may_ev (n : List Int) (hn : n.length ≤ maxLen) (dn : Dig (b64 : Int) n) : Evt (fun k => fixenc_modulus_may.f k n) (mayV n) := by
  unfold fixenc_modulus_may.f mayV
  rw [nat_Right_eq hn]
  simp only [Option.bind_some]
  cases hR : rightB n with
  | false => exact Evt.ite_neg (by simp) (Evt.pure _)
  | true =>
    refine Evt.ite_pos rfl ?_
    by_cases h8 : n.length ≤ 8
    · refine Evt.ite_pos (by omega) ?_
      have d3 : Dig (b64 : Int) [3] := dig_one (by omega) (by omega)
      refine (Evt.bind (nat_Cmp_ev n [3] hn (by simp [maxLen]) dn d3) (h := fun t _ => some (decide (t ≥ 0))) (Evt.pure _)).congr (fun k => rfl) ?_
      unfold cmpV
      rw [if_pos ⟨hR, right_one (by omega)⟩, cmpN_ge, num_one (by omega)]
      simp [h8]
    · refine Evt.ite_neg (by omega) ((Evt.pure _).congr (fun k => rfl) ?_)
      simp [h8]
theorem half_ev (n : List Int) (dn : Dig (b64 : Int) n) (hm : mayV n = true) : Evt (fun k => fixenc_modulus_half.f k n) (limbs (halfV n)) := by
  obtain ⟨hR, h8, h3⟩ := (mayV_iff n).1 hm
  have hlt := may_lt dn hm
  unfold fixenc_modulus_half.f
  have hs := nat_Shr_ev n 1 (by simp only [maxLen]; omega) dn (by omega)
  unfold shrV at hs
  rw [if_pos ⟨hR, by omega⟩] at hs
  refine Evt.bind hs ?_
  refine Evt.bind (Evt.of (fun _ => nat_Bit_eq n 0 (by simp only [maxLen]; omega) dn (by omega))) ?_
  have h0 : n.length ≠ 0 := by
    intro h
    rw [List.eq_nil_of_length_eq_zero h] at h3
    simp [num, val] at h3
  obtain ⟨x, l, rfl⟩ : ∃ x l, n = x :: l := by
    cases n with
    | nil => simp at h0
    | cons x l => exact ⟨x, l, rfl⟩
  have hx := (Dig.cons.1 dn).1
  have hb : bitV (x :: l) 0 = decide (num (x :: l) % 2 = 1) := by
    unfold bitV
    rw [hR, num_cons dn]
    have hB : b64 = 18446744073709551616 := rfl
    rw [hB] at hx ⊢
    simp
    have h1 : (0 : Int) < (l.length : Int) + 1 := by omega
    by_cases h2 : x % 2 = 1
    · have : (x.toNat + 18446744073709551616 * num l) % 2 = 1 := by omega
      simp [h1, h2, this]
    · have h4 : ¬ (x.toNat + 18446744073709551616 * num l) % 2 = 1 := by omega
      simp [h2, h4]
  rw [hb]
  by_cases hp : num (x :: l) % 2 = 1
  · refine Evt.ite_pos (by simpa using hp) ((Evt.pure _).congr (fun k => rfl) ?_)
    unfold halfV
    rw [show (2 : Nat) ^ (1 : Int).toNat = 2 from rfl, show num (x :: l) / 2 = (num (x :: l) - 1) / 2 by omega]
  · refine Evt.ite_neg (by simpa using hp) ?_
    have d1 : Dig (b64 : Int) [1] := dig_one (by omega) (by omega)
    have hv : num (x :: l) / 2 ^ (1 : Int).toNat = num (x :: l) / 2 := rfl
    have hlt2 : num (x :: l) / 2 < b64 ^ 64 := Nat.lt_of_le_of_lt (Nat.div_le_self _ _) hlt
    have hsub := nat_Sub_ev (limbs (num (x :: l) / 2)) [1] (by have := limbs_le64 hlt2; simp only [maxLen]; omega) (by simp [maxLen]) (dig_limbs' _) d1
    rw [hv]
    refine (Evt.bind hsub (h := fun t _ => some t.1) (Evt.pure _)).congr (fun k => rfl) ?_
    unfold subV halfV
    rw [if_pos ⟨right_limbs' hlt2, right_one (by omega)⟩, num_limbs, num_one (by omega), if_neg (by omega), show num (x :: l) / 2 - (1 : Int).toNat = (num (x :: l) - 1) / 2 by omega]
theorem fits_ev (n x : List Int) (dn : Dig (b64 : Int) n) (dx : Dig (b64 : Int) x) (hm : mayV n = true) (hx : rightB x = true) : Evt (fun k => fixenc_fits.f k n x) (decide (num x ≤ halfV n)) := by
  obtain ⟨hR, h8, h3⟩ := (mayV_iff n).1 hm
  have hlt := may_lt dn hm
  obtain ⟨hx1, _⟩ := (rightB_iff x).1 hx
  have hh : halfV n < b64 ^ 64 := by unfold halfV; omega
  unfold fixenc_fits.f
  refine Evt.bind (half_ev n dn hm) ?_
  refine (Evt.bind (nat_Cmp_ev x (limbs (halfV n)) (by simp only [maxLen]; omega) (by have := limbs_le64 hh; simp only [maxLen]; omega) dx (dig_limbs' _)) (h := fun t _ => some (decide (t ≤ 0))) (Evt.pure _)).congr (fun k => rfl) ?_
  unfold cmpV
  rw [if_pos ⟨hx, right_limbs' hh⟩, cmpN_le, num_limbs]
theorem modint_Right_eq (a : Bool) (l : List Int) (h : l.length ≤ maxLen) : modint_Right.f a l = some (intR a l) := by
  unfold modint_Right.f intR
  rw [nat_Right_eq h]
  cases hR : rightB l <;> cases a <;> simp
theorem clone7 (l : List Int) (h : l.length ≤ 100000) : api_Nat_uint64.f l = some l := by
  unfold api_Nat_uint64.f
  simp only [Option.bind_some, List.nil_append, List.length_nil]
  rw [if_pos (by omega)]
theorem modint_From_eq (a : Bool) (l : List Int) (h : l.length ≤ 64) : modint_From.f a l = some (fromV a l) := by
  unfold modint_From.f fromV
  rw [nat_Right_eq (by simp only [maxLen]; omega), clone7 l (by omega)]
  cases hR : rightB l with
  | false => simp
  | true =>
    by_cases h0 : l.length = 0
    · simp [h0]
    · have : ¬ l = [] := fun e => h0 (by rw [e]; rfl)
      simp [this]
theorem fix_Encode_ev (n : List Int) (a : Bool) (x : List Int) (hn : n.length ≤ maxLen) (hx : x.length ≤ maxLen) (dn : Dig (b64 : Int) n) (dx : Dig (b64 : Int) x) : Evt (fun k => fixenc_Encode.f k n a x) (encV n a x) := by
  unfold fixenc_Encode.f encV
  have J : ∀ b : Bool, (b = false → mayV n = true ∧ intR a x = true) → Evt (fun k => fixenc_Encode.j0 k n b a x) (if b = true then ([], 1) else (if num x ≤ halfV n then (if a = true then (limbs (num n - num x), 0) else (x, 0)) else ([], 12))) := by
    intro b hb
    refine Evt.succ ?_
    simp only [fixenc_Encode.j0]
    refine Evt.cond (fun _ => Evt.pure _) (fun hc => ?_)
    obtain ⟨hm, hi⟩ := hb (by simpa using hc)
    have hR : rightB x = true := by unfold intR at hi; simp only [Bool.and_eq_true] at hi; exact hi.1
    obtain ⟨hx1, cx⟩ := (rightB_iff x).1 hR
    obtain ⟨hRn, h8, h3⟩ := (mayV_iff n).1 hm
    have hlt := may_lt dn hm
    refine Evt.bind (fits_ev n x dn dx hm hR) ?_
    by_cases hf : num x ≤ halfV n
    · rw [if_pos hf]
      refine Evt.ite_pos (by simpa using hf) ?_
      have hxn : num x < num n := by unfold halfV at hf; omega
      cases a with
      | true =>
        refine Evt.ite_pos rfl ?_
        have hs := nat_Sub_ev n x hn hx dn dx
        unfold subV at hs
        rw [if_pos ⟨hRn, hR⟩, if_neg (by omega)] at hs
        exact Evt.bind hs (h := fun t _ => some (t.1, t.2)) (Evt.pure _)
      | false =>
        refine Evt.ite_neg (by simp) ?_
        have hs := nat_Add_ev x [] hx (by simp) dx Dig.nil
        unfold addV toldV at hs
        rw [if_pos ⟨hR, by decide⟩, num_nil, Nat.add_zero, if_pos (by omega), limbs_num dx cx] at hs
        exact Evt.bind hs (h := fun t _ => some (t.1, t.2)) (Evt.pure _)
    · rw [if_neg hf]
      exact Evt.ite_neg (by simpa using hf) (Evt.pure _)
  refine Evt.bind (may_ev n hn dn) ?_
  cases hm : mayV n with
  | false =>
    refine Evt.ite_neg (by simp) ((J true (by simp)).congr (fun k => rfl) ?_)
    simp
  | true =>
    refine Evt.ite_pos rfl ?_
    refine Evt.bind (Evt.of (fun _ => modint_Right_eq a x hx)) ?_
    refine (J (!intR a x) (fun h => ⟨hm, by simpa using h⟩)).congr (fun k => rfl) ?_
    cases hi : intR a x <;> simp
end Go.Proofs.Ytgeanpnkllnipab.Z
end

section
namespace Go.Proofs.Ytgeanpnkllnipab.Z
open Go.RowKit Go.Proofs.Ytgeanpnkllnipab.F Go.Proofs.YtgeanpnkllnipabW.PrintWords
set_option linter.unusedSimpArgs false
set_option linter.unusedVariables false
theorem awake_ev : Evt (fun k => windbreaklaw07_awake.f k) true := by
  have d101 : Dig (b64 : Int) [101] := dig_one (by omega) (by omega)
  have d1 : Dig (b64 : Int) [1] := dig_one (by omega) (by omega)
  have d100 : Dig (b64 : Int) [100] := dig_one (by omega) (by omega)
  have e1 : encV [101] true [1] = ([100], 0) := by
    have n1 : num [101] = 101 := num_one (by omega)
    have n2 : num [1] = 1 := num_one (by omega)
    have n3 : num [100] = 100 := num_one (by omega)
    unfold encV mayV intR halfV
    rw [n1, n2]
    have := limbs_num d100 (Can.one (by omega))
    rw [n3] at this
    rw [if_pos ⟨by decide, by decide⟩, if_pos (by decide), if_pos rfl, this]
  unfold windbreaklaw07_awake.f
  have h := fix_Encode_ev [101] true [1] (by simp [maxLen]) (by simp [maxLen]) d101 d1
  rw [e1] at h
  refine Evt.bind h ?_
  exact Evt.ite_pos rfl (Evt.ite_pos rfl (Evt.ite_pos (by decide) (Evt.pure _)))
end Go.Proofs.Ytgeanpnkllnipab.Z
end

section
namespace Go.Proofs.Ytgeanpnkllnipab.Z
open Go.RowKit Go.Proofs.YtgeanpnkllnipabW.PrintWords
set_option linter.unusedSimpArgs false
set_option linter.unusedVariables false
def ofI (x : Int) : Bool × List Int := (decide (x < 0), limbs x.natAbs)
def sI (a : Bool) (m : Nat) : Int := if a = true then -(m : Int) else (m : Int)
theorem sI_of (x : Int) : sI (decide (x < 0)) x.natAbs = x := by
  unfold sI
  by_cases h : x < 0
  · rw [if_pos (by simpa using h)]; omega
  · rw [if_neg (by simpa using h)]; omega
theorem sI_abs (a : Bool) (m : Nat) : (sI a m).natAbs = m := by
  unfold sI
  cases a <;> simp
theorem limbs_zero : limbs 0 = [] := toD_zero b64
theorem limbs_nil_iff (m : Nat) : (limbs m).length = 0 ↔ m = 0 := by
  constructor
  · intro h
    have h1 := num_limbs m
    rw [List.eq_nil_of_length_eq_zero h] at h1
    rw [← h1]; rfl
  · rintro rfl
    rw [limbs_zero]; rfl
theorem fromV_s {a : Bool} {m : Nat} (h : m < b64 ^ 64) : fromV a (limbs m) = ofI (sI a m) := by
  unfold fromV
  by_cases h0 : m = 0
  · subst h0
    rw [if_neg (fun h' => h'.2 ((limbs_nil_iff 0).2 rfl))]
    unfold ofI sI
    cases a <;> simp [limbs_zero]
  · rw [if_pos ⟨right_limbs' h, fun e => h0 ((limbs_nil_iff m).1 e)⟩]
    unfold ofI
    rw [sI_abs]
    unfold sI
    cases a
    · simp
    · simp; omega
theorem intR_s {a : Bool} {m : Nat} (h : m < b64 ^ 64) (ha : a = true → m ≠ 0) : intR a (limbs m) = true := by
  unfold intR
  cases a with
  | false => simp [right_limbs' h]
  | true =>
    have h1 : (limbs m).length ≠ 0 := fun e => ha rfl ((limbs_nil_iff m).1 e)
    simp only [right_limbs' h, Bool.true_and, Bool.not_true, Bool.false_or, decide_eq_true_eq]
    omega
theorem neg_abs {x : Int} : decide (x < 0) = true → x.natAbs ≠ 0 := by
  intro h
  have := of_decide_eq_true h
  omega
def SmI (x : Int) : Prop := x.natAbs < b64 ^ 30
theorem SmI.lt {x : Int} (h : SmI x) : x.natAbs < b64 ^ 64 := Nat.lt_of_lt_of_le h (Nat.pow_le_pow_right (by decide) (by decide))
theorem SmI.sum {m n : Nat} (h : m < b64 ^ 30) (k : n < b64 ^ 30) : m + n < b64 ^ 64 := by
  have h1 : b64 ^ 31 ≤ b64 ^ 64 := Nat.pow_le_pow_right (by decide) (by decide)
  have h2 : b64 ^ 30 * 2 ≤ b64 ^ 31 := Nat.mul_le_mul_left _ b64_two
  generalize b64 ^ 30 = X at *
  generalize b64 ^ 31 = Y at *
  omega
theorem SmI.prod {m n : Nat} (h : m < b64 ^ 30) (k : n < b64 ^ 30) : m * n < b64 ^ 64 := by
  have h1 : b64 ^ 60 ≤ b64 ^ 64 := Nat.pow_le_pow_right (by decide) (by decide)
  have h2 := Nat.mul_lt_mul'' h k
  rw [← Nat.pow_add] at h2
  exact Nat.lt_of_lt_of_le h2 h1
def Sz (j : Nat) (x : Int) : Prop := x.natAbs < b64 ^ j
theorem Sz.smI {j : Nat} {x : Int} (h : Sz j x) (hj : j ≤ 30) : SmI x := Nat.lt_of_lt_of_le h (Nat.pow_le_pow_right (by decide) hj)
theorem Sz.mono {j i : Nat} {x : Int} (h : Sz j x) (hj : j ≤ i) : Sz i x := Nat.lt_of_lt_of_le h (Nat.pow_le_pow_right (by decide) hj)
theorem Sz.i64 {x : Int} (h0 : -9223372036854775808 ≤ x) (h1 : x < 9223372036854775808) : Sz 1 x := by
  have hb : b64 = 18446744073709551616 := rfl
  unfold Sz
  rw [Nat.pow_one]
  omega
theorem Sz.mul {i j : Nat} {x y : Int} (h : Sz i x) (k : Sz j y) : Sz (i + j) (x * y) := by
  unfold Sz at h k ⊢
  rw [Int.natAbs_mul, Nat.pow_add]
  exact Nat.mul_lt_mul'' h k
theorem Sz.add {j : Nat} {x y : Int} (h : Sz j x) (k : Sz j y) : Sz (j + 1) (x + y) := by
  unfold Sz at h k ⊢
  have h1 := Int.natAbs_add_le x y
  have h2 : b64 ^ j * 2 ≤ b64 ^ (j + 1) := Nat.mul_le_mul_left _ b64_two
  generalize b64 ^ (j + 1) = Y at *
  generalize b64 ^ j = X at *
  omega
theorem Sz.pow {s : Nat} (hs : s ≤ 64) : Sz 2 (2 ^ s) := by
  unfold Sz
  have h2 : 2 ^ s ≤ b64 ^ 1 := pow2_le_b64 (by omega)
  have h3 : 2 ^ s < b64 ^ 2 := Nat.lt_of_le_of_lt h2 ((Nat.pow_lt_pow_iff_right (by decide)).2 (by decide))
  rwa [Int.natAbs_pow]
theorem limbs_max {m : Nat} (h : m < b64 ^ 64) : (limbs m).length ≤ maxLen := by
  have := limbs_le64 h
  simp only [maxLen]
  omega
theorem sI_add (a : Bool) (m n : Nat) : sI a (m + n) = sI a m + sI a n := by
  unfold sI
  cases a <;> simp <;> omega
theorem sI_sub {a b : Bool} {m n : Nat} (h : a ≠ b) (hm : n ≤ m) : sI a (m - n) = sI a m + sI b n := by
  unfold sI
  cases a <;> cases b <;> simp at h ⊢ <;> omega
theorem sI_mul (a b : Bool) (m n : Nat) : sI (a != b) (m * n) = sI a m * sI b n := by
  unfold sI
  cases a <;> cases b <;> simp [Int.natCast_mul, Int.neg_mul, Int.mul_neg]
theorem sI_pow (a : Bool) (m s : Nat) : sI a (m * 2 ^ s) = sI a m * 2 ^ s := by
  unfold sI
  cases a <;> simp [Int.natCast_mul, Int.neg_mul]
def packV (n : List Int) (s g h : Int) : List Int × Int :=
  if mayV n = true ∧ 1 ≤ s ∧ s ≤ 62 then (if h < 0 ∨ 2 ^ s.toNat ≤ h then ([], 12) else encV n (ofI (g * 2 ^ s.toNat + h)).1 (ofI (g * 2 ^ s.toNat + h)).2) else ([], 1)
end Go.Proofs.Ytgeanpnkllnipab.Z
end

section
namespace Go.Proofs.Ytgeanpnkllnipab.F
open Go.RowKit Go.Proofs.YtgeanpnkllnipabW.PrintWords Go.Proofs.YtgeanpnkllnipabW.PrintLast Go.Proofs.YtgeanpnkllnipabW.PrintMore
attribute [local go_sem] max2_int min2_int max_two min_two max_three min_three max_four min_four
set_option linter.unusedVariables false
set_option linter.unusedSimpArgs false
open Go.Proofs.Ytgeanpnkllnipab.Z (strip)
end Go.Proofs.Ytgeanpnkllnipab.F
end

section
namespace Go.Proofs.Ytgeanpnkllnipab.F
open Go.RowKit Go.Proofs.YtgeanpnkllnipabW.PrintWords Go.Proofs.YtgeanpnkllnipabW.PrintLast Go.Proofs.YtgeanpnkllnipabW.PrintMore
attribute [local go_sem] max2_int min2_int max_two min_two max_three min_three max_four min_four
set_option linter.unusedVariables false
set_option linter.unusedSimpArgs false

def bits_Mul64.f (a0 : Int) (a1 : Int) : Option (Int × Int) := some (IntKind.u64.wrap ((IntKind.u64.wrap ((IntKind.u64.wrap ((a0 / 4294967296) * (a1 / 4294967296))) + ((IntKind.u64.wrap ((IntKind.u64.wrap ((a0 / 4294967296) * (Go.bits .and .u64 a1 4294967295))) + ((IntKind.u64.wrap ((Go.bits .and .u64 a0 4294967295) * (Go.bits .and .u64 a1 4294967295))) / 4294967296))) / 4294967296))) + ((IntKind.u64.wrap ((Go.bits .and .u64 (IntKind.u64.wrap ((IntKind.u64.wrap ((a0 / 4294967296) * (Go.bits .and .u64 a1 4294967295))) + ((IntKind.u64.wrap ((Go.bits .and .u64 a0 4294967295) * (Go.bits .and .u64 a1 4294967295))) / 4294967296))) 4294967295) + (IntKind.u64.wrap ((Go.bits .and .u64 a0 4294967295) * (a1 / 4294967296))))) / 4294967296)), IntKind.u64.wrap (a0 * a1))
end Go.Proofs.Ytgeanpnkllnipab.F
end

section
namespace Go.Proofs.Ytgeanpnkllnipab.Z
open Go.RowKit Go.Proofs.Ytgeanpnkllnipab.F Go.Proofs.YtgeanpnkllnipabW.PrintWords
set_option linter.unusedSimpArgs false
set_option linter.unusedVariables false
end Go.Proofs.Ytgeanpnkllnipab.Z
end

section
namespace Go.Proofs.Ytgeanpnkllnipab.F
open Go.RowKit Go.Proofs.YtgeanpnkllnipabW.PrintWords Go.Proofs.YtgeanpnkllnipabW.PrintLast Go.Proofs.YtgeanpnkllnipabW.PrintMore
attribute [local go_sem] max2_int min2_int max_two min_two max_three min_three max_four min_four
set_option linter.unusedVariables false
set_option linter.unusedSimpArgs false

attribute [local go_sem] add64_run
mutual
def nat_school.l0 : Nat → List Int → List Int → List Int → Int → Int → Option (List Int)
 | 0, _, _, _, _, _ => none
 | k + 1, x1, x5, x20, x21, x22 => if x22 < x21 then (if 0 ≤ x22 then (if x22 < (x20.length : Int) then (nat_school.l1 k x1 x5 x22 (rd x20 x22) 0 x20 x21 x22 x1 (x1.length : Int) 0) else (none)) else (none)) else ((nat_trim.f k x5).bind fun t155 => (some t155))
def nat_school.l1 : Nat → List Int → List Int → Int → Int → Int → List Int → Int → Int → List Int → Int → Int → Option (List Int)
 | 0, _, _, _, _, _, _, _, _, _, _, _ => none
 | k + 1, x1, x5, x6, x7, x8, x20, x21, x22, x27, x28, x29 => if x29 < x28 then (if 0 ≤ x29 then (if x29 < (x27.length : Int) then ((bits_Mul64.f x7 (rd x27 x29)).bind fun bt160 => (if 0 ≤ (wrap64 (x6 + x29)) then (if (wrap64 (x6 + x29)) < (x5.length : Int) then (if carry01 0 = true then (nat_school.l1 k x1 (x5.set ((wrap64 (x6 + x29)) : Int).toNat (add64_s (add64_s bt160.2 (rd x5 (wrap64 (x6 + x29))) 0) x8 0)) x6 x7 (IntKind.u64.wrap ((IntKind.u64.wrap (bt160.1 + (add64_c bt160.2 (rd x5 (wrap64 (x6 + x29))) 0))) + (add64_c (add64_s bt160.2 (rd x5 (wrap64 (x6 + x29))) 0) x8 0))) x20 x21 x22 x27 x28 (wrap64 (x29 + 1))) else (none)) else (none)) else (none))) else (none)) else (none)) else (if 0 ≤ (wrap64 (x6 + (x1.length : Int))) then (if (wrap64 (x6 + (x1.length : Int))) < (x5.length : Int) then (nat_school.l0 k x1 (x5.set ((wrap64 (x6 + (x1.length : Int))) : Int).toNat x8) x20 x21 (wrap64 (x22 + 1))) else (none)) else (none))
end
def nat_school.f (k : Nat) (l0 : List Int) (l1 : List Int) : Option (List Int) := if 0 ≤ (wrap64 ((l0.length : Int) + (l1.length : Int))) then (if (wrap64 ((l0.length : Int) + (l1.length : Int)) : Int).toNat ≤ 35184372088832 then (nat_school.l0 k l1 (List.replicate (wrap64 ((l0.length : Int) + (l1.length : Int)) : Int).toNat 0) l0 (l0.length : Int) 0) else (none)) else (none)
end Go.Proofs.Ytgeanpnkllnipab.F
end

section
namespace Go.Proofs.Ytgeanpnkllnipab.Z
open Go.RowKit Go.Proofs.Ytgeanpnkllnipab.F Go.Proofs.YtgeanpnkllnipabW.PrintWords
set_option linter.unusedSimpArgs false
set_option linter.unusedVariables false
theorem getD_set_ne {l : List Int} {i j : Nat} {v : Int} (h : i ≠ j) : (l.set i v).getD j 0 = l.getD j 0 := by
  rw [List.getD_eq_getElem?_getD, List.getElem?_set_ne h, ← List.getD_eq_getElem?_getD]
end Go.Proofs.Ytgeanpnkllnipab.Z
end

section
namespace Go.Proofs.Ytgeanpnkllnipab.F
open Go.RowKit Go.Proofs.YtgeanpnkllnipabW.PrintWords Go.Proofs.YtgeanpnkllnipabW.PrintLast Go.Proofs.YtgeanpnkllnipabW.PrintMore
attribute [local go_sem] max2_int min2_int max_two min_two max_three min_three max_four min_four
set_option linter.unusedVariables false
set_option linter.unusedSimpArgs false

attribute [local go_sem] add64_run
mutual
def nat_into.l0 : Nat → List Int → List Int → Int → Int → Int → Option (List Int)
 | 0, _, _, _, _, _ => none
 | k + 1, x0, x1, x2, x6, x7 => if x7 < (x0.length : Int) then (if (wrap64 (x7 - x2)) < (x1.length : Int) then (nat_into.j1 k x0 x1 x2 x6 x7 true) else (nat_into.j1 k x0 x1 x2 x6 x7 (decide (x6 > 0)))) else (nat_into.j1 k x0 x1 x2 x6 x7 false)
def nat_into.j1 : Nat → List Int → List Int → Int → Int → Int → Bool → Option (List Int)
 | 0, _, _, _, _, _, _ => none
 | k + 1, x0, x1, x2, x6, x7, x25 => if x25 = true then (if (wrap64 (x7 - x2)) < (x1.length : Int) then (if 0 ≤ (wrap64 (x7 - x2)) then (if 0 ≤ x7 then (if x7 < (x0.length : Int) then (if carry01 x6 = true then (nat_into.l0 k (x0.set (x7 : Int).toNat (add64_s (rd x0 x7) (rd x1 (wrap64 (x7 - x2))) x6)) x1 x2 (add64_c (rd x0 x7) (rd x1 (wrap64 (x7 - x2))) x6) (wrap64 (x7 + 1))) else (none)) else (none)) else (none)) else (none)) else (if 0 ≤ x7 then (if x7 < (x0.length : Int) then (if carry01 x6 = true then (nat_into.l0 k (x0.set (x7 : Int).toNat (add64_s (rd x0 x7) 0 x6)) x1 x2 (add64_c (rd x0 x7) 0 x6) (wrap64 (x7 + 1))) else (none)) else (none)) else (none))) else (some x0)
end
def nat_into.f (k : Nat) (l0 : List Int) (l1 : List Int) (a2 : Int) : Option (List Int) := nat_into.l0 k l0 l1 a2 0 a2
end Go.Proofs.Ytgeanpnkllnipab.F
end

section
namespace Go.Proofs.Ytgeanpnkllnipab.Z
open Go.RowKit Go.Proofs.Ytgeanpnkllnipab.F Go.Proofs.YtgeanpnkllnipabW.PrintWords
set_option linter.unusedSimpArgs false
set_option linter.unusedVariables false
end Go.Proofs.Ytgeanpnkllnipab.Z
end

section
namespace Go.Proofs.Ytgeanpnkllnipab.Z
open Go.RowKit Go.Proofs.Ytgeanpnkllnipab.F Go.Proofs.YtgeanpnkllnipabW.PrintWords
set_option linter.unusedSimpArgs false
set_option linter.unusedVariables false
end Go.Proofs.Ytgeanpnkllnipab.Z
end

section
namespace Go.Proofs.Ytgeanpnkllnipab.F
open Go.RowKit Go.Proofs.YtgeanpnkllnipabW.PrintWords Go.Proofs.YtgeanpnkllnipabW.PrintLast Go.Proofs.YtgeanpnkllnipabW.PrintMore
theorem max2_mx (k k' : IntKind) (x y : Int) : Builtin.max2 (.int k x) (.int k' y) = pure (.int k (max x y)) := by
  rw [max2_int]
  congr 2
  by_cases h : x < y
  · rw [if_pos h]; omega
  · rw [if_neg h]; omega
attribute [local go_sem] max2_mx max_two
set_option linter.unusedVariables false
set_option linter.unusedSimpArgs false
open Go.Proofs.Ytgeanpnkllnipab.Z (strip Dig b64 num limbs)
end Go.Proofs.Ytgeanpnkllnipab.F
end

section
namespace Go.Proofs.Ytgeanpnkllnipab.F
open Go.RowKit Go.Proofs.YtgeanpnkllnipabW.PrintWords Go.Proofs.YtgeanpnkllnipabW.PrintLast Go.Proofs.YtgeanpnkllnipabW.PrintMore
set_option linter.unusedVariables false
set_option linter.unusedSimpArgs false
open Go.Proofs.Ytgeanpnkllnipab.Z (Dig b64 num limbs)
theorem run_store_func {P : Program} {w : World} {a : Addr} (f : Fn) (x y : Array Value) {m : Mode} : (store a (.func f x y) m).run P w = stored P w a (.func f x y) m := run_store P w a _ m rfl
attribute [local go_sem] run_store_func
def limbB (l : List Int) : Bool := l.all fun x => decide (0 ≤ x ∧ x < 18446744073709551616)
def nat_product.f (l0 l1 : List Int) : Option (List Int) := if (decide (l0.length ≤ 400) && decide (l1.length ≤ 400) && limbB l0 && limbB l1) = true then some (limbs (num l0 * num l1)) else none
end Go.Proofs.Ytgeanpnkllnipab.F
end

section
namespace Go.Proofs.Ytgeanpnkllnipab.F
open Go.RowKit Go.Proofs.YtgeanpnkllnipabW.PrintWords Go.Proofs.YtgeanpnkllnipabW.PrintLast Go.Proofs.YtgeanpnkllnipabW.PrintMore
attribute [local go_sem] max2_int min2_int max_two min_two max_three min_three max_four min_four
set_option linter.unusedVariables false
set_option linter.unusedSimpArgs false

def nat_Mul.f (k : Nat) (l0 : List Int) (l1 : List Int) : Option (List Int × Int) := (nat_right.f (([l0, l1] : List (List Int)))).bind fun t971 => (if t971 = true then ((nat_product.f l0 l1).bind fun t972 => ((nat_told.f k t972).bind fun bt975 => (some (bt975.1, bt975.2)))) else (some (([] : List Int), 1)))
end Go.Proofs.Ytgeanpnkllnipab.F
end

section
namespace Go.Proofs.Ytgeanpnkllnipab.Z
open Go.RowKit Go.Proofs.Ytgeanpnkllnipab.F Go.Proofs.YtgeanpnkllnipabW.PrintWords
set_option linter.unusedSimpArgs false
set_option linter.unusedVariables false
end Go.Proofs.Ytgeanpnkllnipab.Z
end

section
namespace Go.Proofs.Ytgeanpnkllnipab.Z
open Go.RowKit Go.Proofs.Ytgeanpnkllnipab.F Go.Proofs.YtgeanpnkllnipabW.PrintWords Go.Proofs.YtgeanpnkllnipabW.PrintMore
set_option linter.unusedSimpArgs false
set_option linter.unusedVariables false
theorem nat_up_loop (a : List Int) (da : Dig (b64 : Int) a) (ha : a.length ≤ 100000) (s : Nat) (hs : s < 64) (n : Nat) :
    ∀ (i : Nat) (p : List Int) (c : Int), a.length - i = n → i ≤ a.length → p.length = i → Dig (b64 : Int) p → 0 ≤ c ∧ c < 2 ^ s → val (b64 : Int) p + c * (b64 : Int) ^ i = val (b64 : Int) (a.take i) * 2 ^ s →
      ∃ r, Evt (fun k => nat_up.l0 k (s : Int) (p ++ c :: List.replicate n 0) a (a.length : Int) (i : Int)) r ∧ Dig (b64 : Int) r ∧ r.length = a.length + 1 ∧ val (b64 : Int) r = val (b64 : Int) a * 2 ^ s := by
  have hs64 : (2 : Int) ^ s ≤ 2 ^ 63 := pow_mono (by omega) (by omega)
  have hB : (b64 : Int) = 18446744073709551616 := rfl
  induction n with
  | zero =>
    intro i p c hn hi hp dp hc hv
    refine ⟨p ++ [c], ?_, Dig.append.2 ⟨dp, Dig.cons.2 ⟨by rw [hB]; omega, Dig.nil⟩⟩, by simp; omega, ?_⟩
    · refine Evt.succ ?_
      simp only [nat_up.l0]
      exact Evt.ite_neg (by omega) (Evt.pure _)
    · rw [List.take_of_length_le (by omega)] at hv
      rw [val_append, hp]
      simp only [val, Int.mul_zero, Int.add_zero]
      rw [Int.mul_comm ((b64 : Int) ^ i) c]
      exact hv
  | succ n ih =>
    intro i p c hn hi hp dp hc hv
    have hlt : i < a.length := by omega
    have rx := da a[i] (List.getElem_mem hlt)
    rw [hB] at rx
    obtain ⟨f1, f2, f3, f4⟩ := shl_facts rx (s := s) (by omega)
    have f5 : 0 ≤ (a[i] * 2 ^ s) % 18446744073709551616 := by omega
    have f6 : (a[i] * 2 ^ s) % 18446744073709551616 < 18446744073709551616 := by omega
    have hor : Go.bits .or .u64 c ((a[i] * 2 ^ s) % 18446744073709551616) = (a[i] * 2 ^ s) % 18446744073709551616 + c := by
      rw [or_comm_u64 hc.1 (by omega) f5 f6]
      exact or_u64 s (by omega) f5 f2 f6 hc.1 hc.2
    have hlow : (a[i] * 2 ^ s) % 18446744073709551616 + c < 18446744073709551616 := by
      have hp64 := pow64_split (s := s) (by omega)
      have hq := pow2_pos (64 - s)
      have hps := pow2_pos s
      generalize (a[i] * 2 ^ s) % 18446744073709551616 = z at *
      generalize (2 : Int) ^ s = P at *
      generalize (2 : Int) ^ (64 - s) = Q at *
      obtain ⟨t, ht⟩ := Int.dvd_of_emod_eq_zero f2
      subst ht
      have ht2 : t < Q := by
        refine Int.not_le.1 (fun hle => ?_)
        have := Int.mul_le_mul_of_nonneg_left hle (Int.le_of_lt hps)
        omega
      have : P * (t + 1) ≤ P * Q := Int.mul_le_mul_of_nonneg_left (by omega) (by omega)
      rw [Int.mul_add] at this
      omega
    generalize hz : (a[i] * 2 ^ s) % 18446744073709551616 = z at *
    obtain ⟨r, e1, e2, e3, e4⟩ := ih (i + 1) (p ++ [z + c]) (a[i] / 2 ^ (64 - s)) (by omega) (by omega) (by simp; omega) (Dig.append.2 ⟨dp, Dig.cons.2 ⟨by rw [hB]; omega, Dig.nil⟩⟩) ⟨f3, f4⟩ (by
      rw [val_append, hp, val_take_step (b64 : Int) a i hlt, Int.pow_succ]
      simp only [val, Int.mul_zero, Int.add_zero]
      rw [hB]
      rw [hB] at hv
      generalize (18446744073709551616 : Int) ^ i = P at *
      generalize a[i] / 2 ^ (64 - s) = h at *
      generalize val 18446744073709551616 (a.take i) = va at *
      generalize val 18446744073709551616 p = vp at *
      generalize (2 : Int) ^ s = S at *
      generalize a[i] = x at *
      have e : z = x * S - 18446744073709551616 * h := by omega
      rw [e]
      have e2 : vp = va * S - c * P := by omega
      rw [e2]
      grind)
    refine ⟨r, ?_, e2, e3, e4⟩
    refine Evt.succ ?_
    simp only [nat_up.l0]
    have hx : rd a (i : Int) = a[i] := by simp [rd_nat, hlt]
    have hc0 : rd (p ++ c :: List.replicate (n + 1) 0) (i : Int) = c := by
      rw [rd_nat]
      simp [List.getD_eq_getElem?_getD, ← hp]
    refine Evt.ite_pos (by omega) (Evt.ite_pos (by omega) (Evt.ite_pos (by omega) (Evt.ite_pos (by simp; omega) (Evt.ite_pos (by omega) ?_))))
    simp only [Option.bind_some]
    rw [hx, hc0, shl_u64 _ s (by omega), hz, hor, show ((i : Int)).toNat = p.length from by omega, set_at]
    rw [w64 (show -9223372036854775808 ≤ (i : Int) + 1 by omega) (by omega)]
    by_cases h0 : s = 0
    · refine Evt.ite_neg (by omega) ?_
      refine e1.congr (fun k => ?_) rfl
      have e0 : a[i] / 2 ^ (64 - s) = 0 := by
        rw [h0] at f4 f3 ⊢
        simp only [Int.pow_zero] at f4
        omega
      rw [e0, List.append_assoc]
      rfl
    · refine Evt.ite_pos (by omega) (Evt.ite_pos ?_ (Evt.ite_pos (by omega) (Evt.ite_pos (by simp; omega) ?_)))
      · rw [wu64_of (by omega) (by omega)]; omega
      · rw [wu64_of (by omega) (by omega), show (64 : Int) - (s : Int) = ((64 - s : Nat) : Int) from by omega, shr_u64 _ (64 - s) (by omega)]
        refine e1.congr (fun k => ?_) rfl
        have hset : (p ++ (z + c) :: List.replicate (n + 1) 0).set ((i : Int) + 1).toNat (a[i] / 2 ^ (64 - s)) = (p ++ [z + c]) ++ (a[i] / 2 ^ (64 - s)) :: List.replicate n 0 := by
          have e : p ++ (z + c) :: List.replicate (n + 1) 0 = (p ++ [z + c]) ++ 0 :: List.replicate n 0 := by rw [List.append_assoc, List.replicate_succ]; rfl
          rw [e, show ((i : Int) + 1).toNat = (p ++ [z + c]).length from by simp; omega]
          exact set_at _ _ _ _
        rw [hset]
        rfl
theorem nat_up_ev (a : List Int) (da : Dig (b64 : Int) a) (ha : a.length ≤ 100000) (s : Nat) (hs : s < 64) : ∃ r, Evt (fun k => nat_up.f k a (s : Int)) r ∧ Dig (b64 : Int) r ∧ r.length = a.length + 1 ∧ num r = num a * 2 ^ s := by
  obtain ⟨r, e1, e2, e3, e4⟩ := nat_up_loop a da ha s hs a.length 0 [] 0 (by omega) (by omega) rfl Dig.nil ⟨by omega, pow2_pos s⟩ (by simp [val])
  refine ⟨r, ?_, e2, e3, ?_⟩
  · unfold nat_up.f
    rw [w64 (show -9223372036854775808 ≤ (a.length : Int) + 1 by omega) (by omega)]
    refine Evt.ite_pos (by omega) (Evt.ite_pos (by omega) ?_)
    refine e1.congr (fun k => ?_) rfl
    rw [show ((a.length : Int) + 1).toNat = a.length + 1 from by omega, List.nil_append, List.replicate_succ]
    rfl
  · have h1 := num_val e2
    have h2 := num_val da
    have h3 : ((num a * 2 ^ s : Nat) : Int) = (num a : Int) * 2 ^ s := by simp
    rw [e4, ← h2, ← h3] at h1
    omega
end Go.Proofs.Ytgeanpnkllnipab.Z
end

section
namespace Go.Proofs.Ytgeanpnkllnipab.Z
open Go.RowKit Go.Proofs.Ytgeanpnkllnipab.F Go.Proofs.YtgeanpnkllnipabW.PrintWords
set_option linter.unusedSimpArgs false
set_option linter.unusedVariables false
def shlV (a : List Int) (n : Int) : List Int × Int :=
  if rightB a = true ∧ 0 ≤ n then (if a.length = 0 then ([], 0) else if 4096 < n then ([], 4) else toldV (num a * 2 ^ n.toNat)) else ([], 1)
theorem num_zeros_append {r : List Int} (d : Dig (b64 : Int) r) (m : Nat) : Dig (b64 : Int) (List.replicate m 0 ++ r) ∧ num (List.replicate m 0 ++ r) = b64 ^ m * num r := by
  have d2 : Dig (b64 : Int) (List.replicate m 0 ++ r) := Dig.append.2 ⟨Dig.replicate b64_pos m, d⟩
  refine ⟨d2, ?_⟩
  have h := num_val d2
  rw [val_append, val_replicate, List.length_replicate, ← num_val d, pow_cast] at h
  have : ((b64 ^ m : Nat) : Int) * (num r : Int) = ((b64 ^ m * num r : Nat) : Int) := by simp
  omega
theorem nat_Shl_ev (a : List Int) (n : Int) (ha : a.length ≤ maxLen) (da : Dig (b64 : Int) a) : Evt (fun k => nat_Shl.f k a n) (shlV a n) := by
  unfold nat_Shl.f shlV
  rw [nat_Right_eq ha]
  simp only [Option.bind_some]
  have J : ∀ x : Bool, (x = false → rightB a = true ∧ 0 ≤ n) → Evt (fun k => nat_Shl.j0 k a n x) (if x = true then ([], 1) else if a.length = 0 then ([], 0) else if 4096 < n then ([], 4) else toldV (num a * 2 ^ n.toNat)) := by
    intro x hx
    refine Evt.succ ?_
    simp only [nat_Shl.j0]
    refine Evt.cond (fun _ => Evt.pure _) (fun hc => ?_)
    have h := hx (by simpa using hc)
    obtain ⟨h1, c1⟩ := (rightB_iff a).1 h.1
    by_cases h0 : a.length = 0
    · rw [if_pos h0]; exact Evt.ite_pos (by omega) (Evt.pure _)
    · rw [if_neg h0]
      refine Evt.ite_neg (by omega) ?_
      by_cases hn : 4096 < n
      · rw [if_pos hn]; exact Evt.ite_pos (by omega) (Evt.pure _)
      · rw [if_neg hn]
        refine Evt.ite_neg (by omega) ?_
        obtain ⟨m, rfl⟩ := Int.eq_ofNat_of_zero_le h.2
        have e1 : Int.tdiv (m : Int) 64 = ((m / 64 : Nat) : Int) := by rw [Int.tdiv_eq_ediv_of_nonneg (by omega)]; omega
        have e2 : IntKind.u64.wrap (Int.tmod (m : Int) 64) = ((m % 64 : Nat) : Int) := by
          rw [Int.tmod_eq_emod_of_nonneg (by omega), wu64_of (by omega) (by omega)]; omega
        rw [e1, e2, w64 (show -9223372036854775808 ≤ ((m / 64 : Nat) : Int) by omega) (by omega)]
        refine Evt.ite_pos (by omega) (Evt.ite_pos (by omega) ?_)
        refine Evt.bind (Evt.pure _) ?_
        obtain ⟨r, g1, g2, g3, g4⟩ := nat_up_ev a da (by omega) (m % 64) (by omega)
        refine Evt.bind g1 ?_
        rw [Int.toNat_natCast, Int.toNat_natCast]
        refine Evt.ite_pos (by simp; omega) ?_
        obtain ⟨d2, k2⟩ := num_zeros_append g2 (m / 64)
        have h5 := nat_told_ev (List.replicate (m / 64) 0 ++ r) (by simp; omega) d2
        have e3 : b64 ^ (m / 64) * num r = num a * 2 ^ m := by
          rw [g4]
          rw [b64_pow2, Nat.mul_left_comm, ← Nat.pow_add, show 64 * (m / 64) + m % 64 = m from by omega]
        rw [k2, e3] at h5
        exact Evt.bind h5 (h := fun t _ => some (t.1, t.2)) (Evt.pure _)
  cases hA : rightB a with
  | true =>
    refine Evt.ite_pos rfl ((J _ (fun h => ⟨hA, by simpa using h⟩)).congr (fun k => rfl) ?_)
    by_cases hn : n < 0
    · rw [decide_eq_true hn, if_pos rfl, if_neg (show ¬ (true = true ∧ 0 ≤ n) by omega)]
    · rw [decide_eq_false hn, if_neg (by simp), if_pos (show true = true ∧ 0 ≤ n from ⟨rfl, by omega⟩)]
  | false =>
    refine Evt.ite_neg (by simp) ((J _ (fun h => by simp at h)).congr (fun k => rfl) ?_)
    simp
end Go.Proofs.Ytgeanpnkllnipab.Z
end

section
namespace Go.Proofs.Ytgeanpnkllnipab.Z
open Go.RowKit Go.Proofs.Ytgeanpnkllnipab.F Go.Proofs.YtgeanpnkllnipabW.PrintWords
set_option linter.unusedSimpArgs false
set_option linter.unusedVariables false
theorem nat_Of_ev (n : Int) : Evt (fun k => nat_Of.f k n) (strip [n]) := by
  refine (Evt.bind (nat_trim_ev [n] (by simp [maxLen])) (h := fun t _ => some t) (Evt.pure _)).congr (fun k => rfl) rfl
end Go.Proofs.Ytgeanpnkllnipab.Z
end

section
namespace Go.Proofs.Ytgeanpnkllnipab.F
open Go.RowKit Go.Proofs.YtgeanpnkllnipabW.PrintWords Go.Proofs.YtgeanpnkllnipabW.PrintLast Go.Proofs.YtgeanpnkllnipabW.PrintMore
attribute [local go_sem] max2_int min2_int max_two min_two max_three min_three max_four min_four
set_option linter.unusedVariables false
set_option linter.unusedSimpArgs false

def modint_Mul.f (k : Nat) (a0_0 : Bool) (l0_1 : List Int) (a1_0 : Bool) (l1_1 : List Int) : Option (Bool × List Int × Int) := (modint_right.f (([(⟨a0_0, l0_1⟩ : S52), (⟨a1_0, l1_1⟩ : S52)] : List (S52)))).bind fun t985 => (if t985 = true then ((nat_Mul.f k l0_1 l1_1).bind fun bt986 => ((modint_From.f (a0_0 != a1_0) bt986.1).bind fun bt990 => (some (bt990.1, bt990.2, bt986.2)))) else (some (false, ([] : List Int), 1)))
end Go.Proofs.Ytgeanpnkllnipab.F
end

section
namespace Go.Proofs.Ytgeanpnkllnipab.F
open Go.RowKit Go.Proofs.YtgeanpnkllnipabW.PrintWords Go.Proofs.YtgeanpnkllnipabW.PrintLast Go.Proofs.YtgeanpnkllnipabW.PrintMore
attribute [local go_sem] max2_int min2_int max_two min_two max_three min_three max_four min_four
set_option linter.unusedVariables false
set_option linter.unusedSimpArgs false

def modint_Neg.f (a0_0 : Bool) (l0_1 : List Int) : Option (Bool × List Int) := (modint_Right.f a0_0 l0_1).bind fun t996 => (if t996 = true then ((modint_From.f (!a0_0) l0_1).bind fun bt997 => (some (bt997.1, bt997.2))) else (some (false, ([] : List Int))))
end Go.Proofs.Ytgeanpnkllnipab.F
end

section
namespace Go.Proofs.Ytgeanpnkllnipab.F
open Go.RowKit Go.Proofs.YtgeanpnkllnipabW.PrintWords Go.Proofs.YtgeanpnkllnipabW.PrintLast Go.Proofs.YtgeanpnkllnipabW.PrintMore
attribute [local go_sem] max2_int min2_int max_two min_two max_three min_three max_four min_four
set_option linter.unusedVariables false
set_option linter.unusedSimpArgs false

def modint_Sub.f (k : Nat) (a0_0 : Bool) (l0_1 : List Int) (a1_0 : Bool) (l1_1 : List Int) : Option (Bool × List Int × Int) := (modint_right.f (([(⟨a0_0, l0_1⟩ : S52), (⟨a1_0, l1_1⟩ : S52)] : List (S52)))).bind fun t1007 => (if t1007 = true then ((modint_Neg.f a1_0 l1_1).bind fun bt1008 => ((modint_Add.f k a0_0 l0_1 bt1008.1 bt1008.2).bind fun bt1012 => (some (bt1012.1, bt1012.2.1, bt1012.2.2)))) else (some (false, ([] : List Int), 1)))
end Go.Proofs.Ytgeanpnkllnipab.F
end

section
namespace Go.Proofs.Ytgeanpnkllnipab.Z
open Go.RowKit Go.Proofs.Ytgeanpnkllnipab.F Go.Proofs.YtgeanpnkllnipabW.PrintWords
set_option linter.unusedSimpArgs false
set_option linter.unusedVariables false
theorem mi_right_eq (a : Bool) (l : List Int) (b : Bool) (m : List Int) (hl : l.length ≤ maxLen) (hm : m.length ≤ maxLen) : modint_right.f [⟨a, l⟩, ⟨b, m⟩] = some (intR a l && intR b m) := by
  simp only [modint_right.f, modint_Right_eq a l hl, modint_Right_eq b m hm, Option.bind_some]
  cases intR a l <;> cases intR b m <;> simp
theorem mi_right_s {a b : Bool} {m n : Nat} (hm : m < b64 ^ 64) (hn : n < b64 ^ 64) (ha : a = true → m ≠ 0) (hb : b = true → n ≠ 0) : modint_right.f [⟨a, limbs m⟩, ⟨b, limbs n⟩] = some true := by
  rw [mi_right_eq _ _ _ _ (limbs_max hm) (limbs_max hn), intR_s hm ha, intR_s hn hb]
  rfl
theorem mi_From {a : Bool} {m : Nat} (h : m < b64 ^ 64) : modint_From.f a (limbs m) = some (ofI (sI a m)) := by
  rw [modint_From_eq a _ (limbs_le64 h), fromV_s h]
theorem strip_one {x : Int} (h0 : 0 ≤ x) (h1 : x < 18446744073709551616) : strip [x] = limbs x.toNat := by
  rw [strip_limbs (dig_one h0 h1), num_one h0]
theorem b64_lt_pow {m : Nat} (h : m < b64) : m < b64 ^ 64 := Nat.lt_of_lt_of_le h (Nat.le_self_pow (by decide) b64)
theorem mi_Of_ev {x : Int} (h0 : -9223372036854775808 ≤ x) (h1 : x < 9223372036854775808) : Evt (fun k => modint_Of.f k x) (ofI x) := by
  have hb : b64 = 18446744073709551616 := rfl
  unfold modint_Of.f
  by_cases h : x < 0
  · refine Evt.ite_pos h ?_
    have e : IntKind.u64.wrap (-(IntKind.u64.wrap x)) = ((x.natAbs : Nat) : Int) := by rw [wu64, wu64]; omega
    rw [e]
    refine Evt.bind (nat_Of_ev _) ?_
    rw [strip_one (by omega) (by omega), Int.toNat_natCast]
    refine (Evt.of (fun _ => ?_))
    rw [mi_From (b64_lt_pow (by omega))]
    simp only [Option.bind_some, sI, if_true]
    rw [show -((x.natAbs : Nat) : Int) = x by omega]
  · refine Evt.ite_neg h ?_
    have e : IntKind.u64.wrap x = ((x.natAbs : Nat) : Int) := by rw [wu64]; omega
    rw [e]
    refine Evt.bind (nat_Of_ev _) ?_
    rw [strip_one (by omega) (by omega), Int.toNat_natCast]
    refine (Evt.of (fun _ => ?_))
    rw [mi_From (b64_lt_pow (by omega))]
    simp only [Option.bind_some, sI]
    rw [if_neg (by simp), show ((x.natAbs : Nat) : Int) = x by omega]
theorem toldV_of {m : Nat} (h : m < b64 ^ 64) : toldV m = (limbs m, 0) := by
  unfold toldV
  rw [if_pos h]
theorem mi_Add_s {a b : Bool} {m n : Nat} (hx : m < b64 ^ 30) (hy : n < b64 ^ 30) (ha : a = true → m ≠ 0) (hb : b = true → n ≠ 0) : Evt (fun k => modint_Add.f k a (limbs m) b (limbs n)) ((ofI (sI a m + sI b n)).1, (ofI (sI a m + sI b n)).2, 0) := by
  unfold modint_Add.f
  have hs := SmI.sum hx hy
  have hm : m < b64 ^ 64 := by omega
  have hn : n < b64 ^ 64 := by omega
  have rm := right_limbs' hm
  have rn := right_limbs' hn
  refine Evt.bind (Evt.of (fun _ => mi_right_s hm hn ha hb)) (Evt.ite_pos rfl ?_)
  by_cases hab : a = b
  · subst hab
    refine Evt.ite_pos (by simp) ?_
    have h1 := nat_Add_ev (limbs m) (limbs n) (limbs_max hm) (limbs_max hn) (dig_limbs' _) (dig_limbs' _)
    unfold addV at h1
    rw [if_pos ⟨rm, rn⟩, num_limbs, num_limbs, toldV_of hs] at h1
    refine Evt.bind h1 (Evt.of (fun _ => ?_))
    rw [mi_From hs, sI_add]
    rfl
  · refine Evt.ite_neg (by simpa using hab) ?_
    have h1 := nat_Cmp_ev (limbs m) (limbs n) (limbs_max hm) (limbs_max hn) (dig_limbs' _) (dig_limbs' _)
    unfold cmpV at h1
    rw [if_pos ⟨rm, rn⟩, num_limbs, num_limbs] at h1
    refine Evt.bind h1 ?_
    by_cases hlt : m < n
    · refine Evt.ite_pos (by unfold cmpN; rw [if_pos hlt]; omega) ?_
      have h2 := nat_Sub_ev (limbs n) (limbs m) (limbs_max hn) (limbs_max hm) (dig_limbs' _) (dig_limbs' _)
      unfold subV at h2
      rw [if_pos ⟨rn, rm⟩, num_limbs, num_limbs, if_neg (by omega)] at h2
      refine Evt.bind h2 (Evt.of (fun _ => ?_))
      rw [mi_From (Nat.lt_of_le_of_lt (Nat.sub_le _ _) hn), sI_sub (b := a) (fun e => hab e.symm) (by omega), Int.add_comm]
      rfl
    · refine Evt.ite_neg (by unfold cmpN; rw [if_neg hlt]; split <;> omega) ?_
      have h2 := nat_Sub_ev (limbs m) (limbs n) (limbs_max hm) (limbs_max hn) (dig_limbs' _) (dig_limbs' _)
      unfold subV at h2
      rw [if_pos ⟨rm, rn⟩, num_limbs, num_limbs, if_neg (by omega)] at h2
      refine Evt.bind h2 (Evt.of (fun _ => ?_))
      rw [mi_From (Nat.lt_of_le_of_lt (Nat.sub_le _ _) hm), sI_sub (b := b) hab (by omega)]
      rfl
theorem mi_Add_ev {x y : Int} (hx : SmI x) (hy : SmI y) : Evt (fun k => modint_Add.f k (ofI x).1 (ofI x).2 (ofI y).1 (ofI y).2) ((ofI (x + y)).1, (ofI (x + y)).2, 0) := by
  have h := mi_Add_s (a := decide (x < 0)) (b := decide (y < 0)) hx hy neg_abs neg_abs
  rw [sI_of, sI_of] at h
  exact h
theorem times2_ev {x : Int} {s : Nat} (hx : SmI x) (hs : s ≤ 64) : Evt (fun k => fixenc_times2.f k (ofI x).1 (ofI x).2 (s : Int)) (ofI (x * 2 ^ s)) := by
  unfold fixenc_times2.f
  have h2 : 2 ^ s ≤ b64 ^ 1 := pow2_le_b64 (by omega)
  have h3 : 2 ^ s < b64 ^ 30 := Nat.lt_of_le_of_lt h2 ((Nat.pow_lt_pow_iff_right (by decide)).2 (by decide))
  have hp := SmI.prod hx h3
  have h1 := nat_Shl_ev (limbs x.natAbs) (s : Int) (limbs_max hx.lt) (dig_limbs' _)
  unfold shlV at h1
  rw [if_pos ⟨right_limbs' hx.lt, by omega⟩, num_limbs, Int.toNat_natCast] at h1
  have h4 : (if (limbs x.natAbs).length = 0 then (([] : List Int), (0 : Int)) else if 4096 < (s : Int) then ([], 4) else toldV (x.natAbs * 2 ^ s)) = (limbs (x.natAbs * 2 ^ s), 0) := by
    by_cases h0 : x.natAbs = 0
    · rw [if_pos ((limbs_nil_iff _).2 h0), h0, Nat.zero_mul, limbs_zero]
    · rw [if_neg (fun e => h0 ((limbs_nil_iff _).1 e)), if_neg (by omega), toldV_of hp]
  rw [h4] at h1
  refine Evt.bind h1 (Evt.of (fun _ => ?_))
  rw [mi_From hp, sI_pow]
  have e : sI (ofI x).1 x.natAbs = x := sI_of x
  rw [e]
  rfl
end Go.Proofs.Ytgeanpnkllnipab.Z
end

section
namespace Go.Proofs.Ytgeanpnkllnipab.Z
open Go.RowKit Go.Proofs.Ytgeanpnkllnipab.F Go.Proofs.YtgeanpnkllnipabW.PrintWords Go.Proofs.YtgeanpnkllnipabW.PrintMore
set_option linter.unusedSimpArgs false
set_option linter.unusedVariables false
theorem shr_i64 (x : Int) (s : Nat) (hs : s ≤ 64) : shr .i64 x (s : Int) = x / 2 ^ s := by
  unfold shr
  simp only [IntKind.bits, Int.toNat_natCast]
  rw [show min s 64 = s from by omega]
theorem shr_zero_iff {x : Int} (h : 0 ≤ x) (s : Nat) : x / 2 ^ s = 0 ↔ x < 2 ^ s := by
  have hp : (0 : Int) < 2 ^ s := Int.pow_pos (by omega)
  constructor
  · intro e
    have h1 := Int.emod_lt_of_pos x hp
    have h2 := Int.emod_add_mul_ediv x (2 ^ s)
    rw [e] at h2
    omega
  · intro h1
    exact Int.ediv_eq_zero_of_lt h h1
theorem fix_Pack_ev (n : List Int) (s g h : Int) (hn : n.length ≤ maxLen) (dn : Dig (b64 : Int) n) (hg0 : -9223372036854775808 ≤ g) (hg1 : g < 9223372036854775808) (hh0 : -9223372036854775808 ≤ h) (hh1 : h < 9223372036854775808) : Evt (fun k => fixenc_Pack.f k n s g h) (packV n s g h) := by
  unfold fixenc_Pack.f packV
  refine Evt.bind (may_ev n hn dn) ?_
  have J : ∀ b : Bool, (b = false → mayV n = true ∧ 1 ≤ s ∧ s ≤ 62) → Evt (fun k => fixenc_Pack.j0 k n s g h b) (if b = true then ([], 1) else (if h < 0 ∨ 2 ^ s.toNat ≤ h then ([], 12) else encV n (ofI (g * 2 ^ s.toNat + h)).1 (ofI (g * 2 ^ s.toNat + h)).2)) := by
    intro b hb
    refine Evt.succ ?_
    simp only [fixenc_Pack.j0]
    refine Evt.cond (fun _ => Evt.pure _) (fun hc => ?_)
    obtain ⟨hm, h1, h2⟩ := hb (by simpa using hc)
    by_cases h0 : h < 0
    · rw [if_pos (Or.inl h0)]
      exact Evt.ite_pos h0 (Evt.pure _)
    · refine Evt.ite_neg h0 (Evt.ite_pos (by omega) ?_)
      obtain ⟨q, rfl⟩ : ∃ q : Nat, s = (q : Int) := ⟨s.toNat, by omega⟩
      rw [Int.toNat_natCast, shr_i64 h q (by omega)]
      by_cases h3 : h < 2 ^ q
      · rw [if_neg (by omega)]
        refine Evt.ite_pos ((shr_zero_iff (by omega) q).2 h3) ?_
        refine Evt.bind (mi_Of_ev hg0 hg1) ?_
        refine Evt.bind (times2_ev ((Sz.i64 hg0 hg1).smI (by omega)) (by omega)) ?_
        refine Evt.bind (mi_Of_ev hh0 hh1) ?_
        have z1 := Sz.mul (Sz.i64 hg0 hg1) (Sz.pow (s := q) (by omega))
        have z2 := Sz.mono (Sz.i64 hh0 hh1) (show 1 ≤ 3 by omega)
        refine Evt.bind (mi_Add_ev (z1.smI (by omega)) (z2.smI (by omega))) ?_
        have z3 := Sz.add z1 z2
        exact Evt.bind (fix_Encode_ev n (ofI (g * 2 ^ q + h)).1 (ofI (g * 2 ^ q + h)).2 hn (limbs_max (z3.smI (by omega)).lt) dn (dig_limbs' _)) (h := fun t _ => some (t.1, t.2)) (Evt.pure _)
      · rw [if_pos (by omega)]
        refine Evt.ite_neg (fun e => h3 ((shr_zero_iff (by omega) q).1 e)) (Evt.pure _)
  cases hm : mayV n with
  | false =>
    refine Evt.ite_neg (by simp) ((J true (by simp)).congr (fun k => rfl) ?_)
    simp
  | true =>
    refine Evt.ite_pos rfl ?_
    by_cases h1 : s < 1
    · refine Evt.ite_pos h1 ((J true (by simp)).congr (fun k => rfl) ?_)
      rw [if_pos rfl, if_neg (fun e => absurd e.2.1 (by omega))]
    · refine Evt.ite_neg h1 ((J _ (fun e => ⟨hm, by omega, by simpa using e⟩)).congr (fun k => rfl) ?_)
      have h1' : 1 ≤ s := by omega
      by_cases h2 : s ≤ 62
      · have h3 : ¬ s > 62 := by omega
        simp [h1', h2, h3]
      · have h3 : s > 62 := by omega
        simp [h2, h3]
end Go.Proofs.Ytgeanpnkllnipab.Z
end

section
namespace Go.Proofs.Ytgeanpnkllnipab.Z
open Go.RowKit Go.Proofs.Ytgeanpnkllnipab.F Go.Proofs.YtgeanpnkllnipabW.PrintWords
set_option linter.unusedSimpArgs false
set_option linter.unusedVariables false
theorem windbreakref01_Right_eq {l : List Int} (h : l.length ≤ maxLen) : windbreakref01_Right.f l = some (rightB l) := by
  unfold maxLen at h
  unfold windbreakref01_Right.f rightB
  by_cases h1 : l.length ≤ 64
  · rw [if_pos (by omega)]
    by_cases h2 : l.length = 0
    · rw [if_pos (by omega)]
      simp [h1, h2]
    · rw [if_neg (by omega), w64 (by omega) (by omega), if_pos (by omega), if_pos (by omega), rd_getD]
      rw [show ((l.length : Int) - 1).toNat = l.length - 1 from by omega]
      have h3 : (l.length == 0) = false := by simpa using h2
      rw [h3]
      simp [h1]
  · rw [if_neg (by omega)]
    simp [h1]
end Go.Proofs.Ytgeanpnkllnipab.Z
end

section
namespace Go.Proofs.Ytgeanpnkllnipab.Z
open Go.RowKit Go.Proofs.Ytgeanpnkllnipab.F Go.Proofs.YtgeanpnkllnipabW.PrintWords
set_option linter.unusedSimpArgs false
set_option linter.unusedVariables false
theorem windbreakref01_cut_loop (l : List Int) (h : l.length ≤ maxLen) : ∀ n : Nat, n ≤ l.length → Evt (fun k => windbreakref01_cut.l0 k l (n : Int)) (strip (l.take n)) := by
  unfold maxLen at h
  intro n
  induction n with
  | zero =>
    intro _
    refine Evt.succ ?_
    simp only [windbreakref01_cut.l0]
    refine Evt.ite_neg (by omega) (Evt.ite_pos (by omega) (Evt.ite_pos (by omega) ?_))
    simp [strip]
    exact Evt.pure _
  | succ n ih =>
    intro hn
    refine Evt.succ ?_
    simp only [windbreakref01_cut.l0]
    rw [w64 (by omega) (by omega), show ((n + 1 : Nat) : Int) - 1 = (n : Int) from by omega]
    refine Evt.ite_pos (by omega) (Evt.ite_pos (by omega) (Evt.ite_pos (by omega) ?_))
    rw [rd_nat, List.take_succ_eq_append_getElem (show n < l.length by omega)]
    have hg : l.getD n 0 = l[n] := by simp [show n < l.length by omega]
    rw [hg]
    by_cases h0 : l[n] = 0
    · rw [h0, strip_snoc_zero]
      exact Evt.ite_pos rfl (ih (by omega))
    · rw [strip_snoc h0]
      refine Evt.ite_neg h0 (Evt.ite_pos (by omega) (Evt.ite_pos (by omega) ?_))
      rw [← List.take_succ_eq_append_getElem (show n < l.length by omega)]
      exact Evt.pure _
theorem windbreakref01_cut_ev (l : List Int) (h : l.length ≤ maxLen) : Evt (fun k => windbreakref01_cut.f k l) (strip l) := by
  have := windbreakref01_cut_loop l h l.length (Nat.le_refl _)
  exact this.congr (fun k => rfl) (by rw [List.take_length])
end Go.Proofs.Ytgeanpnkllnipab.Z
end

section
namespace Go.Proofs.Ytgeanpnkllnipab.Z
open Go.RowKit Go.Proofs.Ytgeanpnkllnipab.F Go.Proofs.YtgeanpnkllnipabW.PrintWords
set_option linter.unusedSimpArgs false
set_option linter.unusedVariables false
def dg (x : Int) : List Int := [x % 65536, x / 65536 % 65536, x / 65536 / 65536 % 65536, x / 65536 / 65536 / 65536 % 65536]
theorem wdiv {x : Int} (h0 : 0 ≤ x) (h1 : x < 18446744073709551616) (c : Int) (hc : 0 < c) : IntKind.u64.wrap (Int.tdiv x c) = x / c := by
  rw [Int.tdiv_eq_ediv_of_nonneg h0]
  have h2 := Int.ediv_nonneg h0 (Int.le_of_lt hc)
  have h3 := Int.ediv_le_self c h0
  exact wu64_of h2 (by omega)
theorem in_step (a d : List Int) (i : Nat) (x : Int) (hx : 0 ≤ x ∧ x < 18446744073709551616) (hd : d.length ≤ 1000000) (hi : i ≤ 1000000) {r : List Int}
    (h : Evt (fun k => windbreakref01_In.l0 k a (d ++ dg x) ((i + 1 : Nat) : Int)) r) : Evt (fun k => windbreakref01_In.l1 k a d (i : Int) x 0) r := by
  refine Evt.succ ?_
  simp only [windbreakref01_In.l1]
  refine Evt.ite_pos (by omega) (Evt.ite_pos (by omega) ?_)
  rw [Int.tmod_eq_emod_of_nonneg hx.1, wdiv hx.1 hx.2 65536 (by omega), w64 (by omega) (by omega)]
  refine Evt.succ ?_
  simp only [windbreakref01_In.l1]
  refine Evt.ite_pos (by omega) (Evt.ite_pos (by simp; omega) ?_)
  rw [Int.tmod_eq_emod_of_nonneg (show 0 ≤ x / 65536 by omega), wdiv (show 0 ≤ x / 65536 by omega) (by omega) 65536 (by omega), w64 (by omega) (by omega)]
  refine Evt.succ ?_
  simp only [windbreakref01_In.l1]
  refine Evt.ite_pos (by omega) (Evt.ite_pos (by simp; omega) ?_)
  rw [Int.tmod_eq_emod_of_nonneg (show 0 ≤ x / 65536 / 65536 by omega), wdiv (show 0 ≤ x / 65536 / 65536 by omega) (by omega) 65536 (by omega), w64 (by omega) (by omega)]
  refine Evt.succ ?_
  simp only [windbreakref01_In.l1]
  refine Evt.ite_pos (by omega) (Evt.ite_pos (by simp; omega) ?_)
  rw [Int.tmod_eq_emod_of_nonneg (show 0 ≤ x / 65536 / 65536 / 65536 by omega), wdiv (show 0 ≤ x / 65536 / 65536 / 65536 by omega) (by omega) 65536 (by omega), w64 (by omega) (by omega)]
  refine Evt.succ ?_
  simp only [windbreakref01_In.l1]
  refine Evt.ite_neg (by omega) ?_
  rw [w64 (by omega) (by omega)]
  refine h.congr (fun k => ?_) rfl
  simp [dg]
theorem in_loop (a : List Int) (ha : a.length ≤ 1000) (hd : Dig (b64 : Int) a) (n : Nat) : ∀ i : Nat, i ≤ a.length → a.length - i = n → Evt (fun k => windbreakref01_In.l0 k a ((a.take i).flatMap dg) (i : Int)) (strip (a.flatMap dg)) := by
  have hlen : ∀ l : List Int, (l.flatMap dg).length = 4 * l.length := by
    intro l
    induction l with
    | nil => rfl
    | cons x l ih => simp only [List.flatMap_cons, List.length_append, ih, dg, List.length_cons, List.length_nil]; omega
  induction n with
  | zero =>
    intro i hi hn
    refine Evt.succ ?_
    simp only [windbreakref01_In.l0]
    refine Evt.ite_neg (by omega) ?_
    rw [List.take_of_length_le (by omega)]
    refine Evt.bind (windbreakref01_cut_ev _ (by rw [hlen]; simp [maxLen]; omega)) (h := fun t _ => some t) (Evt.pure _)
  | succ n ih =>
    intro i hi hn
    have hlt : i < a.length := by omega
    refine Evt.succ ?_
    simp only [windbreakref01_In.l0]
    refine Evt.ite_pos (by omega) (Evt.ite_pos (by omega) ?_)
    have hx : rd a (i : Int) = a[i] := by simp [rd_nat, hlt]
    have hr := hd a[i] (List.getElem_mem hlt)
    rw [hx]
    refine in_step a _ i _ hr (by rw [hlen, List.length_take]; omega) (by omega) ?_
    have := ih (i + 1) (by omega) (by omega)
    rw [List.take_succ_eq_append_getElem hlt, List.flatMap_append] at this
    refine this.congr (fun k => ?_) rfl
    simp
theorem ref_In_ev (a : List Int) (ha : a.length ≤ 1000) (hd : Dig (b64 : Int) a) : Evt (fun k => windbreakref01_In.f k a) (digs (num a)) := by
  have h := in_loop a ha hd a.length 0 (Nat.zero_le _) (by omega)
  obtain ⟨m, hm, _, hv, he⟩ := val_base a hd
  refine h.congr (fun k => rfl) ?_
  have e2 : a.flatMap dg = m := he.symm
  rw [e2, strip_digs hm]
  unfold num16 num
  rw [hv]
end Go.Proofs.Ytgeanpnkllnipab.Z
end

section
namespace Go.Proofs.Ytgeanpnkllnipab.Z
open Go.RowKit Go.Proofs.Ytgeanpnkllnipab.F Go.Proofs.YtgeanpnkllnipabW.PrintWords
set_option linter.unusedSimpArgs false
set_option linter.unusedVariables false
theorem mul_lt {x y : Int} (hx : 0 ≤ x ∧ x ≤ 65535) (hy : 0 ≤ y ∧ y ≤ 65535) : 0 ≤ x * y ∧ x * y ≤ 4294836225 := by
  have h1 := Int.mul_nonneg hx.1 hy.1
  have h2 : x * y ≤ 65535 * y := Int.mul_le_mul_of_nonneg_right hx.2 hy.1
  omega
theorem ref_mul_inner (a b : List Int) (da : Dig (b16 : Int) a) (db : Dig (b16 : Int) b) (ha : a.length ≤ 100000) (hb : b.length ≤ 100000) (i n : Nat) (hi : i < a.length) (hn : a.length - (i + 1) = n) {r : List Int}
    (next : ∀ p : List Int, p.length = i + 1 + b.length → Dig (b16 : Int) p → val (b16 : Int) p = val (b16 : Int) (a.take (i + 1)) * val (b16 : Int) b → Evt (fun k => windbreakref01_mul.l0 k a b (p ++ List.replicate n 0) ((i + 1 : Nat) : Int)) r) (m : Nat) :
    ∀ (j : Nat) (p : List Int) (c : Int), b.length - j = m → j ≤ b.length → p.length = i + b.length → Dig (b16 : Int) p → 0 ≤ c ∧ c < (b16 : Int) →
      val (b16 : Int) p + c * (b16 : Int) ^ (i + j) = val (b16 : Int) (a.take i) * val (b16 : Int) b + (b16 : Int) ^ i * a[i] * val (b16 : Int) (b.take j) →
      Evt (fun k => windbreakref01_mul.l1 k a b (p ++ List.replicate (n + 1) 0) (i : Int) c (j : Int)) r := by
  induction m with
  | zero =>
    intro j p c hj hjl hp dp hc hv
    refine Evt.succ ?_
    simp only [windbreakref01_mul.l1]
    refine Evt.ite_neg (by omega) ?_
    rw [w64 (show -9223372036854775808 ≤ (i : Int) + (b.length : Int) by omega) (by omega)]
    refine Evt.ite_pos (by omega) (Evt.ite_pos (by simp; omega) ?_)
    rw [w64 (by omega) (by omega), show ((i : Int) + (b.length : Int)).toNat = p.length from by omega, List.replicate_succ, set_at]
    have hj2 : j = b.length := by omega
    subst hj2
    rw [List.take_length] at hv
    refine (next (p ++ [c]) (by simp; omega) (Dig.append.2 ⟨dp, Dig.cons.2 ⟨hc, Dig.nil⟩⟩) ?_).congr (fun k => by rw [List.append_assoc]; rfl) rfl
    rw [val_append, hp, val_take_step (b16 : Int) a i hi]
    simp only [val, Int.mul_zero, Int.add_zero]
    generalize val (b16 : Int) (a.take i) = va at *
    generalize val (b16 : Int) b = vb at *
    generalize (b16 : Int) ^ (i + b.length) = P at *
    generalize (b16 : Int) ^ i = Q at *
    have : (va + Q * a[i]) * vb = va * vb + Q * a[i] * vb := by grind
    rw [this, ← hv, Int.mul_comm P c]
  | succ m ih =>
    intro j p c hj hjl hp dp hc hv
    have hjlt : j < b.length := by omega
    refine Evt.succ ?_
    simp only [windbreakref01_mul.l1]
    refine Evt.ite_pos (by omega) ?_
    rw [w64 (show -9223372036854775808 ≤ (i : Int) + (j : Int) by omega) (by omega)]
    refine Evt.ite_pos (by omega) (Evt.ite_pos (by simp; omega) (Evt.ite_pos (by omega) (Evt.ite_pos (by omega) (Evt.ite_pos (by omega) ?_))))
    have hx : rd a (i : Int) = a[i] := by simp [rd_nat, hi]
    have hy : rd b (j : Int) = b[j] := by simp [rd_nat, hjlt]
    have hz : rd (p ++ List.replicate (n + 1) 0) ((i : Int) + (j : Int)) = p.getD (i + j) 0 := by
      rw [rd_getD, show ((i : Int) + (j : Int)).toNat = i + j from by omega, getD_append_left (by omega)]
    have rx := da a[i] (List.getElem_mem hi)
    have ry := db b[j] (List.getElem_mem hjlt)
    have rz := dp.getD b16_pos (i + j)
    rw [hx, hy, hz, show ((i : Int) + (j : Int)).toNat = i + j from by omega, set_append_left (by omega)]
    have hB : (b16 : Int) = 65536 := rfl
    rw [hB] at rx ry rz hc
    obtain ⟨m1, m2⟩ := mul_lt (show 0 ≤ a[i] ∧ a[i] ≤ 65535 by omega) (show 0 ≤ b[j] ∧ b[j] ≤ 65535 by omega)
    have hv2 := val_set (b16 : Int) p (i + j) ((p.getD (i + j) 0 + a[i] * b[j] + c) % 65536) (by omega)
    have hvt := val_take_step (b16 : Int) b j hjlt
    generalize hxy : a[i] * b[j] = z at *
    rw [wu64_of m1 (by omega), wu64_of (show 0 ≤ p.getD (i + j) 0 + z by omega) (by omega), wu64_of (show 0 ≤ p.getD (i + j) 0 + z + c by omega) (by omega), Int.tmod_eq_emod_of_nonneg (by omega), Int.tdiv_eq_ediv_of_nonneg (by omega), wu64_of (by omega) (by omega), w64 (by omega) (by omega)]
    refine (ih (j + 1) (p.set (i + j) ((p.getD (i + j) 0 + z + c) % 65536)) ((p.getD (i + j) 0 + z + c) / 65536) (by omega) (by omega) (by simp; omega) (dp.set _ (by rw [hB]; omega)) (by rw [hB]; omega) ?_).congr (fun k => rfl) rfl
    rw [hv2, hvt]
    have hdm := Int.emod_add_mul_ediv (p.getD (i + j) 0 + z + c) 65536
    have hP : (b16 : Int) ^ (i + (j + 1)) = (b16 : Int) ^ (i + j) * 65536 := by rw [← Nat.add_assoc, Int.pow_succ]; rfl
    have hQ : (b16 : Int) ^ (i + j) = (b16 : Int) ^ i * (b16 : Int) ^ j := Int.pow_add ..
    rw [hP]
    generalize (p.getD (i + j) 0 + z + c) % 65536 = u at *
    generalize (p.getD (i + j) 0 + z + c) / 65536 = q at *
    generalize p.getD (i + j) 0 = y0 at *
    generalize val (b16 : Int) (a.take i) = va at *
    generalize val (b16 : Int) (b.take j) = vt at *
    generalize val (b16 : Int) b = vb at *
    generalize val (b16 : Int) p = vp at *
    generalize (b16 : Int) ^ (i + j) = P at *
    generalize (b16 : Int) ^ i = Q at *
    generalize (b16 : Int) ^ j = R at *
    subst hQ
    generalize a[i] = ai at *
    generalize b[j] = bj at *
    subst hxy
    have e1 : u = y0 + ai * bj + c - 65536 * q := by omega
    rw [e1]
    have e2 : vp = va * vb + Q * ai * vt - c * (Q * R) := by omega
    rw [e2]
    grind
theorem ref_mul_loop (a b : List Int) (da : Dig (b16 : Int) a) (db : Dig (b16 : Int) b) (ha : a.length ≤ 100000) (hb : b.length ≤ 100000) (n : Nat) :
    ∀ (i : Nat) (p : List Int), a.length - i = n → i ≤ a.length → p.length = i + b.length → Dig (b16 : Int) p → val (b16 : Int) p = val (b16 : Int) (a.take i) * val (b16 : Int) b →
      Evt (fun k => windbreakref01_mul.l0 k a b (p ++ List.replicate n 0) (i : Int)) (digs (num16 a * num16 b)) := by
  induction n with
  | zero =>
    intro i p hn hi hp dp hv
    refine Evt.succ ?_
    simp only [windbreakref01_mul.l0]
    refine Evt.ite_neg (by omega) ?_
    have h := windbreakref01_cut_ev (p ++ List.replicate 0 0) (by simp [maxLen]; omega)
    rw [List.replicate_zero, List.append_nil, strip_digs dp] at h
    have e : num16 p = num16 a * num16 b := by
      rw [List.take_of_length_le (by omega)] at hv
      have h1 := num16_val dp
      have h2 := num16_val da
      have h3 := num16_val db
      have : ((num16 p : Nat) : Int) = ((num16 a * num16 b : Nat) : Int) := by rw [h1, hv, Int.natCast_mul, h2, h3]
      omega
    rw [e] at h
    refine (Evt.bind h (h := fun t _ => some t) (Evt.pure _)).congr (fun k => by simp) rfl
  | succ n ih =>
    intro i p hn hi hp dp hv
    refine Evt.succ ?_
    simp only [windbreakref01_mul.l0]
    refine Evt.ite_pos (by omega) ?_
    refine ref_mul_inner a b da db ha hb i n (by omega) (by omega) (fun q h1 h2 h3 => ih (i + 1) q (by omega) (by omega) h1 h2 h3) b.length 0 p 0 (by omega) (by omega) hp dp (by decide) ?_
    simp [hv, val]
theorem ref_mul_ev (a b : List Int) (da : Dig (b16 : Int) a) (db : Dig (b16 : Int) b) (ha : a.length ≤ 100000) (hb : b.length ≤ 100000) : Evt (fun k => windbreakref01_mul.f k a b) (digs (num16 a * num16 b)) := by
  unfold windbreakref01_mul.f
  rw [w64 (show -9223372036854775808 ≤ (a.length : Int) + (b.length : Int) by omega) (by omega)]
  refine Evt.ite_pos (by omega) (Evt.ite_pos (by omega) ?_)
  refine (ref_mul_loop a b da db ha hb a.length 0 (List.replicate b.length 0) (by omega) (by omega) (by simp) (Dig.replicate b16_pos _) (by simp [val_replicate, val])).congr (fun k => ?_) rfl
  rw [show ((a.length : Int) + (b.length : Int)).toNat = b.length + a.length from by omega, List.replicate_append_replicate]
  rfl
end Go.Proofs.Ytgeanpnkllnipab.Z
end

section
namespace Go.Proofs.Ytgeanpnkllnipab.Z
open Go.RowKit Go.Proofs.Ytgeanpnkllnipab.F Go.Proofs.YtgeanpnkllnipabW.PrintWords
set_option linter.unusedSimpArgs false
set_option linter.unusedVariables false
theorem ref_power_loop (n : Nat) (hn : n ≤ 1000000) (m : Nat) : ∀ j : Nat, j ≤ n % 16 → n % 16 - j = m →
    Evt (fun k => windbreakref01_power.l0 k (n : Int) (List.replicate (n / 16) 0 ++ [2 ^ j]) (j : Int)) (List.replicate (n / 16) 0 ++ [2 ^ (n % 16)]) := by
  have e1 : Int.tmod (n : Int) 16 = ((n % 16 : Nat) : Int) := by rw [Int.tmod_eq_emod_of_nonneg (by omega)]; omega
  have e2 : Int.tdiv (n : Int) 16 = ((n / 16 : Nat) : Int) := by rw [Int.tdiv_eq_ediv_of_nonneg (by omega)]; omega
  induction m with
  | zero =>
    intro j hj hm
    refine Evt.succ ?_
    simp only [windbreakref01_power.l0]
    rw [e1]
    refine Evt.ite_neg (by omega) ?_
    rw [show n % 16 = j from by omega]
    exact Evt.pure _
  | succ m ih =>
    intro j hj hm
    refine Evt.succ ?_
    simp only [windbreakref01_power.l0]
    rw [e1, e2, w64 (show -9223372036854775808 ≤ ((n / 16 : Nat) : Int) by omega) (by omega)]
    refine Evt.ite_pos (by omega) (Evt.ite_pos (by omega) (Evt.ite_pos (by simp; omega) ?_))
    have hr : rd (List.replicate (n / 16) 0 ++ [2 ^ j]) ((n / 16 : Nat) : Int) = 2 ^ j := by
      rw [rd_nat]
      simp [List.getD_eq_getElem?_getD]
    have hb : (2 : Int) ^ j ≤ 2 ^ 16 := pow_mono (by omega) (by omega)
    have hp := pow2_pos j
    rw [hr, wu64_of (by omega) (by omega), w64 (by omega) (by omega)]
    refine (ih (j + 1) (by omega) (by omega)).congr (fun k => ?_) rfl
    have hs : (List.replicate (n / 16) (0 : Int) ++ [2 ^ j]).set ((n / 16 : Nat) : Int).toNat (2 ^ j * 2) = List.replicate (n / 16) 0 ++ [2 ^ (j + 1)] := by
      have := set_at (List.replicate (n / 16) (0 : Int)) (2 ^ j) (2 ^ j * 2) []
      rw [List.length_replicate] at this
      rw [Int.toNat_natCast, this, Int.pow_succ]
    rw [hs]
    rfl
theorem num16_power (n : Nat) : Dig (b16 : Int) (List.replicate (n / 16) 0 ++ [2 ^ (n % 16)]) ∧ Can (List.replicate (n / 16) 0 ++ [2 ^ (n % 16)]) ∧ num16 (List.replicate (n / 16) 0 ++ [2 ^ (n % 16)]) = 2 ^ n := by
  have hb : (2 : Int) ^ (n % 16) ≤ 2 ^ 15 := pow_mono (by omega) (by omega)
  have hp := pow2_pos (n % 16)
  have hd : Dig (b16 : Int) (List.replicate (n / 16) 0 ++ [2 ^ (n % 16)]) := Dig.append.2 ⟨Dig.replicate b16_pos _, Dig.cons.2 ⟨by simp only [b16]; omega, Dig.nil⟩⟩
  refine ⟨hd, ?_, ?_⟩
  · intro _
    simp
    omega
  · have h := num16_val hd
    rw [val_append, val_replicate] at h
    simp only [val, List.length_replicate, Int.mul_zero, Int.add_zero, Int.zero_add] at h
    have h2 : (b16 : Int) ^ (n / 16) * 2 ^ (n % 16) = 2 ^ n := by
      have : (b16 : Int) = 2 ^ 16 := by decide
      rw [this, ← Int.pow_mul, ← Int.pow_add, show 16 * (n / 16) + n % 16 = n from by omega]
    rw [h2] at h
    have h3 : ((2 : Int)) ^ n = ((2 ^ n : Nat) : Int) := by simp
    rw [h3] at h
    omega
theorem ref_power_ev (n : Nat) (hn : n ≤ 1000000) : Evt (fun k => windbreakref01_power.f k (n : Int)) (digs (2 ^ n)) := by
  unfold windbreakref01_power.f
  have e2 : Int.tdiv (n : Int) 16 = ((n / 16 : Nat) : Int) := by rw [Int.tdiv_eq_ediv_of_nonneg (by omega)]; omega
  rw [e2, w64 (show -9223372036854775808 ≤ ((n / 16 : Nat) : Int) by omega) (by omega), w64 (show -9223372036854775808 ≤ ((n / 16 : Nat) : Int) + 1 by omega) (by omega)]
  refine Evt.ite_pos (by omega) (Evt.ite_pos (by omega) ?_)
  rw [show (((n / 16 : Nat) : Int) + 1).toNat = n / 16 + 1 from by omega]
  simp only [Option.bind_some]
  refine Evt.ite_pos (by omega) (Evt.ite_pos (by simp; omega) ?_)
  obtain ⟨h1, h2, h3⟩ := num16_power n
  have h4 := digs_num h1 h2
  rw [h3] at h4
  rw [h4]
  refine (ref_power_loop n hn (n % 16) 0 (Nat.zero_le _) (by omega)).congr (fun k => ?_) rfl
  have hs : (List.replicate (n / 16 + 1) (0 : Int)).set ((n / 16 : Nat) : Int).toNat 1 = List.replicate (n / 16) 0 ++ [2 ^ 0] := by
    have := set_at (List.replicate (n / 16) (0 : Int)) 0 1 []
    rw [List.length_replicate] at this
    rw [Int.toNat_natCast, List.replicate_succ', this]
    rfl
  rw [hs]
  rfl
end Go.Proofs.Ytgeanpnkllnipab.Z
end

section
namespace Go.Proofs.Ytgeanpnkllnipab.Z
open Go.RowKit Go.Proofs.Ytgeanpnkllnipab.F Go.Proofs.YtgeanpnkllnipabW.PrintWords
set_option linter.unusedSimpArgs false
set_option linter.unusedVariables false
theorem strip_split (l : List Int) : ∃ n, l = strip l ++ List.replicate n 0 := by
  induction l with
  | nil => exact ⟨0, rfl⟩
  | cons d l ih =>
    obtain ⟨n, hn⟩ := ih
    simp only [strip]
    by_cases h : strip l = []
    · rw [if_pos h]
      rw [h, List.nil_append] at hn
      by_cases h0 : d = 0
      · rw [if_pos h0]
        refine ⟨n + 1, ?_⟩
        rw [h0, List.replicate_succ, List.nil_append, ← hn]
      · rw [if_neg h0]
        refine ⟨n, ?_⟩
        rw [List.singleton_append, ← hn]
    · rw [if_neg h]
      refine ⟨n, ?_⟩
      rw [List.cons_append, ← hn]
theorem can_of_val {B : Nat} (hB : 2 ≤ B) {l : List Int} (h : Dig (B : Int) l) (hv : l ≠ [] → (B : Int) ^ (l.length - 1) ≤ val (B : Int) l) : Can l := by
  by_cases e : l = []
  · subst e; exact Can.nil
  · have h1 := hv e
    obtain ⟨n, hn⟩ := strip_split l
    have h2 := val_lt (show (0 : Int) < (B : Int) by omega) (strip_dig h)
    rw [strip_val] at h2
    have h3 : l.length = (strip l).length + n := by
      have := congrArg List.length hn
      simpa using this
    have h4 : n = 0 := by
      by_cases hn0 : n = 0
      · exact hn0
      · have := pow_mono (show (0 : Int) < (B : Int) by omega) (show (strip l).length ≤ l.length - 1 by omega)
        omega
    subst h4
    rw [List.replicate_zero, List.append_nil] at hn
    rw [hn]
    exact strip_can l
def grp (d : List Int) : Int := d.getD 0 0 + 65536 * (d.getD 1 0 + 65536 * (d.getD 2 0 + 65536 * d.getD 3 0))
def outN : Nat → List Int → List Int
  | 0, _ => []
  | n + 1, d => grp d :: outN n (d.drop 4)
theorem grp_range {d : List Int} (h : Dig (b16 : Int) d) : 0 ≤ grp d ∧ grp d < (b64 : Int) := by
  have h0 := h.getD b16_pos 0
  have h1 := h.getD b16_pos 1
  have h2 := h.getD b16_pos 2
  have h3 := h.getD b16_pos 3
  unfold grp
  simp only [b16, b64] at *
  omega
theorem val_four (d : List Int) : val (b16 : Int) d = grp d + (b64 : Int) * val (b16 : Int) (d.drop 4) := by
  unfold grp
  simp only [b16, b64]
  match d with
  | [] => simp [val]
  | [a] => simp [val]
  | [a, b] => simp [val]
  | [a, b, c] => simp [val]
  | a :: b :: c :: e :: d => simp [val]; omega
theorem outN_facts (n : Nat) : ∀ d : List Int, Dig (b16 : Int) d → d.length ≤ 4 * n → Dig (b64 : Int) (outN n d) ∧ val (b64 : Int) (outN n d) = val (b16 : Int) d ∧ (outN n d).length = n := by
  induction n with
  | zero =>
    intro d _ h
    have : d = [] := List.length_eq_zero_iff.1 (by omega)
    subst this
    exact ⟨Dig.nil, rfl, rfl⟩
  | succ n ih =>
    intro d hd h
    obtain ⟨i1, i2, i3⟩ := ih (d.drop 4) (hd.drop 4) (by simp; omega)
    refine ⟨Dig.cons.2 ⟨grp_range hd, i1⟩, ?_, by simp [outN, i3]⟩
    rw [val_four d]
    simp only [outN, val, i2]
theorem out_limbs (v : Nat) : outN (((digs v).length + 3) / 4) (digs v) = limbs v := by
  obtain ⟨f1, f2, f3⟩ := outN_facts (((digs v).length + 3) / 4) (digs v) (toD_dig b16_two v) (by omega)
  rw [val_toD b16_two] at f2
  have hc : Can (outN (((digs v).length + 3) / 4) (digs v)) := by
    refine can_of_val b64_two f1 (fun hne => ?_)
    rw [f2, f3, b64_pow, pow_cast, ← Nat.pow_mul]
    have hl : 0 < ((digs v).length + 3) / 4 := by rw [← f3]; exact List.length_pos_iff.2 hne
    have hd : digs v ≠ [] := by intro e; rw [e] at hl; simp at hl
    have h1 := val_pos b16_pos (toD_dig b16_two v) (toD_can b16_two v) hd
    rw [val_toD b16_two, pow_cast] at h1
    have h2 : b16 ^ (4 * (((digs v).length + 3) / 4 - 1)) ≤ b16 ^ ((digs v).length - 1) := Nat.pow_le_pow_right (by decide) (by omega)
    exact Int.le_trans (Int.ofNat_le.2 h2) h1
  have := limbs_num f1 hc
  rw [← this]
  unfold num
  rw [f2]
  rfl
theorem out_inner (d acc : List Int) (i : Nat) (hd : Dig (b16 : Int) d) (hacc : acc.length ≤ 1000000) (hi : i ≤ 4000000) {r : List Int × Bool}
    (h : Evt (fun k => windbreakref01_Out.l0 k d (acc ++ [grp (d.drop i)]) ((i + 4 : Nat) : Int)) r) : Evt (fun k => windbreakref01_Out.l1 k d acc (i : Int) 0 3) r := by
  have step : ∀ (x : Int) (j : Nat), j ≤ 3 → 0 ≤ x → x * 65536 + 65535 < 18446744073709551616 →
      Evt (fun k => windbreakref01_Out.l1 k d acc (i : Int) (x * 65536 + (d.drop i).getD j 0) ((j : Int) - 1)) r →
      Evt (fun k => windbreakref01_Out.l1 k d acc (i : Int) x (j : Int)) r := by
    intro x j hj hx hx2 hs
    have hdig := (hd.drop i).getD b16_pos j
    simp only [b16] at hdig
    refine Evt.succ ?_
    simp only [windbreakref01_Out.l1]
    refine Evt.ite_pos (by omega) ?_
    rw [w64 (show -9223372036854775808 ≤ (i : Int) + (j : Int) by omega) (by omega), w64 (show -9223372036854775808 ≤ (j : Int) - 1 by omega) (by omega), wu64_of (show 0 ≤ x * 65536 by omega) (by omega)]
    by_cases hlt : i + j < d.length
    · refine Evt.ite_pos (by omega) (Evt.ite_pos (by omega) ?_)
      have e : rd d ((i : Int) + (j : Int)) = (d.drop i).getD j 0 := by
        rw [rd_getD, show ((i : Int) + (j : Int)).toNat = i + j from by omega]
        simp [List.getD_eq_getElem?_getD]
      rw [e, wu64_of (by omega) (by omega)]
      exact hs
    · refine Evt.ite_neg (by omega) ?_
      have e : (d.drop i).getD j 0 = 0 := by
        simp [List.getD_eq_getElem?_getD, List.getElem?_eq_none (by omega : d.length ≤ i + j)]
      rw [e, Int.add_zero] at hs
      exact hs
  have h0 := (hd.drop i).getD b16_pos 0
  have h1 := (hd.drop i).getD b16_pos 1
  have h2 := (hd.drop i).getD b16_pos 2
  have h3 := (hd.drop i).getD b16_pos 3
  simp only [b16] at h0 h1 h2 h3
  refine step 0 3 (by omega) (by omega) (by omega) ?_
  refine (step (0 * 65536 + (d.drop i).getD 3 0) 2 (by omega) (by omega) (by omega) ?_).congr (fun k => rfl) rfl
  refine (step ((0 * 65536 + (d.drop i).getD 3 0) * 65536 + (d.drop i).getD 2 0) 1 (by omega) (by omega) (by omega) ?_).congr (fun k => rfl) rfl
  refine (step (((0 * 65536 + (d.drop i).getD 3 0) * 65536 + (d.drop i).getD 2 0) * 65536 + (d.drop i).getD 1 0) 0 (by omega) (by omega) (by omega) ?_).congr (fun k => rfl) rfl
  refine Evt.succ ?_
  simp only [windbreakref01_Out.l1]
  refine Evt.ite_neg (by omega) (Evt.ite_pos (by omega) ?_)
  rw [w64 (by omega) (by omega)]
  refine h.congr (fun k => ?_) rfl
  have e : (((0 * 65536 + (d.drop i).getD 3 0) * 65536 + (d.drop i).getD 2 0) * 65536 + (d.drop i).getD 1 0) * 65536 + (d.drop i).getD 0 0 = grp (d.drop i) := by
    unfold grp; omega
  rw [e, show (i : Int) + 4 = ((i + 4 : Nat) : Int) from by omega]
theorem out_loop (d : List Int) (hd : Dig (b16 : Int) d) (hlen : d.length ≤ 1000000) (n : Nat) : ∀ (i : Nat) (acc : List Int), acc.length ≤ i → i ≤ d.length + 3 → (d.length - i + 3) / 4 = n →
    Evt (fun k => windbreakref01_Out.l0 k d acc (i : Int)) (acc ++ outN n (d.drop i), decide ((acc ++ outN n (d.drop i)).length ≤ 64)) := by
  induction n with
  | zero =>
    intro i acc hacc hi hn
    refine Evt.succ ?_
    simp only [windbreakref01_Out.l0]
    refine Evt.ite_neg (by omega) ?_
    simp only [outN, List.append_nil]
    refine (Evt.pure _).congr (fun k => rfl) ?_
    congr 1
    simp only [decide_eq_decide]
    omega
  | succ n ih =>
    intro i acc hacc hi hn
    refine Evt.succ ?_
    simp only [windbreakref01_Out.l0]
    refine Evt.ite_pos (by omega) ?_
    refine out_inner d acc i hd (by omega) (by omega) ?_
    refine (ih (i + 4) (acc ++ [grp (d.drop i)]) (by simp; omega) (by omega) (by omega)).congr (fun k => rfl) ?_
    simp [outN, List.drop_drop]
theorem ref_Out_ev (v : Nat) (hv : v < lim) : Evt (fun k => windbreakref01_Out.f k (digs v)) (limbs v, decide (v < b64 ^ 64)) := by
  have hlen : (digs v).length ≤ 1000000 := Nat.le_trans (digs_len hv) (by omega)
  have h := out_loop (digs v) (toD_dig b16_two v) hlen (((digs v).length + 3) / 4) 0 [] (Nat.le_refl _) (by omega) (by omega)
  refine h.congr (fun k => rfl) ?_
  rw [List.nil_append, List.drop_zero, out_limbs]
  have := limbs_long v
  simp only [this]
end Go.Proofs.Ytgeanpnkllnipab.Z
end

section
namespace Go.Proofs.Ytgeanpnkllnipab.Z
open Go.RowKit Go.Proofs.Ytgeanpnkllnipab.F Go.Proofs.YtgeanpnkllnipabW.PrintWords
set_option linter.unusedSimpArgs false
set_option linter.unusedVariables false
theorem ref_told_ev (v : Nat) (hv : v < lim) : Evt (fun k => windbreakref01_told.f k (digs v)) (toldV v) := by
  unfold windbreakref01_told.f toldV
  refine Evt.bind (ref_Out_ev v hv) ?_
  by_cases h : v < b64 ^ 64
  · simp only [h, decide_true, if_true]
    exact Evt.pure _
  · simp only [h, decide_false, if_false]
    exact Evt.ite_neg (by simp) (Evt.pure _)
end Go.Proofs.Ytgeanpnkllnipab.Z
end

section
namespace Go.Proofs.Ytgeanpnkllnipab.Z
open Go.RowKit Go.Proofs.YtgeanpnkllnipabW.PrintWords
set_option linter.unusedSimpArgs false
set_option linter.unusedVariables false
theorem mul_pow_lim {a : List Int} (da : Dig (b64 : Int) a) (ha : a.length ≤ 64) {n : Nat} (hn : n ≤ 4096) : num a * 2 ^ n < lim := by
  have h1 := num_lt_p da ha
  have h2 : 2 ^ n ≤ b64 ^ 64 := pow2_le_b64 (by omega)
  have h3 : num a * 2 ^ n ≤ num a * b64 ^ 64 := Nat.mul_le_mul_left _ h2
  have h4 : num a * b64 ^ 64 < b64 ^ 64 * b64 ^ 64 := Nat.mul_lt_mul_of_pos_right h1 (Nat.pow_pos (by decide))
  rw [← Nat.pow_add] at h4
  exact Nat.lt_of_le_of_lt h3 (Nat.lt_of_lt_of_le h4 (lim_pow (by omega)))
theorem pow2_lim {n : Nat} (hn : n ≤ 4096) : 2 ^ n * 65536 < lim := by
  have h2 : 2 ^ n ≤ b64 ^ 64 := pow2_le_b64 (by omega)
  have h3 : 2 ^ n * 65536 ≤ b64 ^ 64 * 65536 := Nat.mul_le_mul_right _ h2
  have h4 : b64 ^ 64 * 65536 < b64 ^ 64 * b64 := Nat.mul_lt_mul_of_pos_left (by decide) (Nat.pow_pos (by decide))
  have h5 : b64 ^ (64 + 1) ≤ lim := lim_pow (by omega)
  rw [Nat.pow_succ] at h5
  exact Nat.lt_of_le_of_lt h3 (Nat.lt_of_lt_of_le h4 h5)
end Go.Proofs.Ytgeanpnkllnipab.Z
end

section
namespace Go.Proofs.Ytgeanpnkllnipab.Z
open Go.RowKit Go.Proofs.Ytgeanpnkllnipab.F Go.Proofs.YtgeanpnkllnipabW.PrintWords
set_option linter.unusedSimpArgs false
set_option linter.unusedVariables false
theorem ref_digit_eq (l : List Int) (i : Nat) : windbreakref01_digit.f l (i : Int) = some (l.getD i 0) := by
  unfold windbreakref01_digit.f
  by_cases h : i < l.length
  · rw [if_pos (by omega), if_pos (by omega), rd_nat]
  · rw [if_neg (by omega)]
    simp [List.getD_eq_getElem?_getD, List.getElem?_eq_none (by omega : l.length ≤ i)]
end Go.Proofs.Ytgeanpnkllnipab.Z
end

section
namespace Go.Proofs.Ytgeanpnkllnipab.Z
open Go.RowKit Go.Proofs.Ytgeanpnkllnipab.F Go.Proofs.YtgeanpnkllnipabW.PrintWords
set_option linter.unusedSimpArgs false
set_option linter.unusedVariables false
def subL : Nat → List Int → List Int → Int → List Int
  | 0, _, _, _ => []
  | n + 1, a, b, c => (65536 + a.getD 0 0 - b.getD 0 0 - c) % 65536 :: subL n (a.drop 1) (b.drop 1) (1 - (65536 + a.getD 0 0 - b.getD 0 0 - c) / 65536)
theorem val_headS (B : Int) (b : List Int) : val B b = b.getD 0 0 + B * val B (b.drop 1) := by
  cases b with
  | nil => simp [val]
  | cons y b => simp [val]
theorem subL_len (n : Nat) : ∀ (a b : List Int) (c : Int), (subL n a b c).length = n := by
  induction n with
  | zero => intro a b c; rfl
  | succ n ih => intro a b c; simp only [subL, List.length_cons, ih]
theorem subL_facts (n : Nat) : ∀ (a b : List Int) (c : Int), Dig (b16 : Int) a → Dig (b16 : Int) b → a.length ≤ n → b.length ≤ n → (c = 0 ∨ c = 1) →
    Dig (b16 : Int) (subL n a b c) ∧ ∃ t, 0 ≤ t ∧ val (b16 : Int) (subL n a b c) = val (b16 : Int) a - val (b16 : Int) b - c + (b16 : Int) ^ n * t := by
  induction n with
  | zero =>
    intro a b c _ _ ha hb hc
    have e1 : a = [] := List.length_eq_zero_iff.1 (by omega)
    have e2 : b = [] := List.length_eq_zero_iff.1 (by omega)
    subst e1 e2
    exact ⟨Dig.nil, c, by omega, by simp [subL, val]; omega⟩
  | succ n ih =>
    intro a b c da db ha hb hc
    have h1 := da.getD b16_pos 0
    have h2 := db.getD b16_pos 0
    simp only [b16] at h1 h2
    obtain ⟨i1, t, ht, i2⟩ := ih (a.drop 1) (b.drop 1) (1 - (65536 + a.getD 0 0 - b.getD 0 0 - c) / 65536) (da.drop 1) (db.drop 1) (by simp; omega) (by simp; omega) (by omega)
    refine ⟨Dig.cons.2 ⟨by simp only [b16]; omega, i1⟩, t, ht, ?_⟩
    rw [val_headS (b16 : Int) a, val_headS (b16 : Int) b]
    simp only [subL, val]
    rw [i2, Int.pow_succ]
    generalize (b16 : Int) ^ n = P at *
    simp only [b16]
    generalize val ((65536 : Nat) : Int) (a.drop 1) = va at *
    generalize val ((65536 : Nat) : Int) (b.drop 1) = vb at *
    have h3 : ((65536 : Nat) : Int) * (va - vb - (1 - (65536 + a.getD 0 0 - b.getD 0 0 - c) / 65536) + P * t) = 65536 * va - 65536 * vb - 65536 * (1 - (65536 + a.getD 0 0 - b.getD 0 0 - c) / 65536) + P * ((65536 : Nat) : Int) * t := by grind
    rw [h3]
    omega
theorem ref_sub_loop (a b : List Int) (da : Dig (b16 : Int) a) (db : Dig (b16 : Int) b) (ha : a.length ≤ 1000000) (n : Nat) : ∀ (i : Nat) (p : List Int) (c : Int), p.length = i → i ≤ a.length → a.length - i = n → (c = 0 ∨ c = 1) →
    Evt (fun k => windbreakref01_sub.l0 k a b p c (i : Int)) (strip (p ++ subL n (a.drop i) (b.drop i) c)) := by
  induction n with
  | zero =>
    intro i p c hp hi hn hc
    refine Evt.succ ?_
    simp only [windbreakref01_sub.l0]
    refine Evt.ite_neg (by omega) ?_
    simp only [subL, List.append_nil]
    exact Evt.bind (windbreakref01_cut_ev p (by simp [maxLen]; omega)) (h := fun t _ => some t) (Evt.pure _)
  | succ n ih =>
    intro i p c hp hi hn hc
    have hlt : i < a.length := by omega
    refine Evt.succ ?_
    simp only [windbreakref01_sub.l0]
    refine Evt.ite_pos (by omega) (Evt.ite_pos (by omega) ?_)
    rw [ref_digit_eq, rd_nat]
    simp only [Option.bind_some]
    refine Evt.ite_pos (by omega) ?_
    have h1 := da.getD b16_pos i
    have h2 := db.getD b16_pos i
    simp only [b16] at h1 h2
    rw [wu64_of (show 0 ≤ 65536 + a.getD i 0 by omega) (by omega), wu64_of (show 0 ≤ 65536 + a.getD i 0 - b.getD i 0 by omega) (by omega), wu64_of (show 0 ≤ 65536 + a.getD i 0 - b.getD i 0 - c by omega) (by omega)]
    rw [Int.tmod_eq_emod_of_nonneg (by omega), Int.tdiv_eq_ediv_of_nonneg (by omega), wu64_of (show 0 ≤ (65536 + a.getD i 0 - b.getD i 0 - c) / 65536 by omega) (by omega), wu64_of (by omega) (by omega), w64 (by omega) (by omega)]
    have e1 : (a.drop i).getD 0 0 = a.getD i 0 := by simp [List.getD_eq_getElem?_getD]
    have e2 : (b.drop i).getD 0 0 = b.getD i 0 := by simp [List.getD_eq_getElem?_getD]
    refine (ih (i + 1) (p ++ [(65536 + a.getD i 0 - b.getD i 0 - c) % 65536]) (1 - (65536 + a.getD i 0 - b.getD i 0 - c) / 65536) (by simp [hp]) (by omega) (by omega) (by omega)).congr (fun k => rfl) ?_
    simp only [subL, e1, e2, List.drop_drop, List.append_assoc, List.singleton_append]
theorem ref_sub_ev (v w : Nat) (hv : v < lim) (hle : w ≤ v) : Evt (fun k => windbreakref01_sub.f k (digs v) (digs w)) (digs (v - w)) := by
  have h1 := digs_len hv
  have d1 := toD_dig b16_two v
  have d2 := toD_dig b16_two w
  have hlen : (digs w).length ≤ (digs v).length := by
    rw [toD_len_iff b16_two]
    exact Nat.lt_of_le_of_lt hle (toD_lt_pow b16_two v)
  have h := ref_sub_loop (digs v) (digs w) d1 d2 (by omega) (digs v).length 0 [] 0 rfl (Nat.zero_le _) (by omega) (Or.inl rfl)
  refine h.congr (fun k => rfl) ?_
  obtain ⟨f1, t, ht, f2⟩ := subL_facts (digs v).length (digs v) (digs w) 0 d1 d2 (Nat.le_refl _) hlen (Or.inl rfl)
  rw [List.nil_append, List.drop_zero, List.drop_zero, strip_digs f1]
  rw [val_toD b16_two, val_toD b16_two, pow_cast] at f2
  have h4 := val_lt b16_pos f1
  rw [subL_len, pow_cast] at h4
  have ht0 : t = 0 := by
    by_cases e : t = 0
    · exact e
    · have h5 : ((b16 ^ (digs v).length : Nat) : Int) * 1 ≤ ((b16 ^ (digs v).length : Nat) : Int) * t := Int.mul_le_mul_of_nonneg_left (by omega) (by omega)
      omega
  subst ht0
  rw [Int.mul_zero] at f2
  unfold num16
  rw [f2]
  congr 1
  omega
end Go.Proofs.Ytgeanpnkllnipab.Z
end
