/- Proved: the law FixencAdds of layer 7, the stage's theorem: if there is room, the sum of the packs of any list that is not too long, by the modulus, unpacks to the sums; for every input, without a condition. -/
import Derived.Test.YtnaphgnkhhapoabMFixencAddsc
import Derived.Laws.BitsLemmas
set_option maxHeartbeats 8000000
set_option maxRecDepth 100000
section
namespace Go.Proofs.Ytnaphgnkhhapoab.F
open Go.RowKit Go.Proofs.YtnaphgnkhhapoabW.PrintWords Go.Proofs.YtnaphgnkhhapoabW.PrintLast Go.Proofs.YtnaphgnkhhapoabW.PrintMore
attribute [local go_sem] max2_int min2_int max_two min_two max_three min_three max_four min_four
set_option linter.unusedVariables false
set_option linter.unusedSimpArgs false
def fixenc_Pack.j0 : Nat → List Int → Int → Int → Int → Bool → Option (List Int × Int)
 | 0, _, _, _, _, _ => none
 | k + 1, x0, x1, x2, x3, x12 => if x12 = true then (some (([] : List Int), 1)) else (if x3 < 0 then (some (([] : List Int), 12)) else (if 0 ≤ x1 then (if (shr .i64 x3 x1) = 0 then ((modint_Of.f k x2).bind fun bt964 => ((fixenc_times2.f k bt964.1 bt964.2 x1).bind fun bt968 => ((modint_Of.f k x3).bind fun bt972 => ((modint_Add.f k bt968.1 bt968.2 bt972.1 bt972.2).bind fun bt976 => ((fixenc_Encode.f k x0 bt976.1 bt976.2.1).bind fun bt982 => (some (bt982.1, bt982.2))))))) else (some (([] : List Int), 12))) else (none)))
def fixenc_Pack.f (k : Nat) (l0 : List Int) (a1 : Int) (a2 : Int) (a3 : Int) : Option (List Int × Int) := (fixenc_modulus_may.f k l0).bind fun t963 => (if t963 = true then (if a1 < 1 then (fixenc_Pack.j0 k l0 a1 a2 a3 true) else (fixenc_Pack.j0 k l0 a1 a2 a3 (decide (a1 > 62)))) else (fixenc_Pack.j0 k l0 a1 a2 a3 true))
theorem fixenc_Pack.calls (k : Nat) (A0 : Option Addr) (c0 : Nat) (l0 : List Int) (a1 : Int) (a2 : Int) (a3 : Int) (r1 : List Int) (r2 : Int) (w : World) (hr0 : Kd.C (Kd.int .u64) w A0 l0.length l0) (hc0 : l0.length ≤ c0) (h : fixenc_Pack.f k l0 a1 a2 a3 = some (r1, r2)) :
  Calls Try.prog 10 #[.slice A0 l0.length c0, .int .i64 a1, .int .i64 a2, .int .i64 a3] w fun e w' => ∃ v0_ : Value, e = .returned (.tuple #[v0_, .int .i64 r2]) ∧ Kd.R (Kd.int .u64) 42 w' w.heap.size (fun _ => True) v0_ r1 ∧ Below w.heap.size w w' := by
 have hu44 := Try.underlying44
 have HR0 := Aside0.mk hr0; have HC0 := Aside0.mk hc0; clear hr0 hc0
 have HB := Aside0.mk (Below.refl w.heap.size w)
 have H : ((fixenc_modulus_may.f k l0).bind fun t963 => (if t963 = true then (if a1 < 1 then (fixenc_Pack.j0 k l0 a1 a2 a3 true) else (fixenc_Pack.j0 k l0 a1 a2 a3 (decide (a1 > 62)))) else (fixenc_Pack.j0 k l0 a1 a2 a3 true))) = some (r1, r2) := h
 clear h; have HC5 := Aside0.mk H; clear H
 go_enter Try.func10, Try.ntmps10
 go_upto_region 1 with (fail)
 go_cut [12] (fun v12 wc => ∃ (kq : Nat) (x12_4 : Bool), v12 = .bool x12_4 ∧ Aside0 (fixenc_Pack.j0 kq l0 a1 a2 a3 x12_4 = some (r1, r2)) ∧ Aside0 (kq ≤ k) ∧ Aside0 (Below w.heap.size w wc))
 case first =>
  have H := HC5.out
  clear HC5
  replace ⟨t963, A6, H⟩ := ub H
  by_cases c7 : t963 = true
  ·
   subst c7
   rw [if_pos rfl] at H
   by_cases c8 : a1 < 1
   ·
    rw [if_pos c8] at H
    have c8b0 := decide_eq_true c8
    clear c8
    (first | rw [c8b0] | (simp only [i64_w, i32_w]; rw [c8b0]) | skip)
    have H' := Aside0.mk H
    clear H
    go_wp2_with (first | ((with_reducible refine ug 14 rfl ?_); refine uh (some 14) rfl Try.func14 #[.slice A0 l0.length c0] ?_; (with_reducible refine (fixenc_modulus_may.calls k _ _ l0 true _ (uC (Kd.C_below HR0.out HB.out)) HC0.out A6.out).mono ?_); rintro e w9 ⟨rfl, hb⟩; refine ⟨_, rfl, ?_⟩; replace HB := uy hb; (try clear hb)))
    go_meet
    case rel => exact ⟨_, (true), uG, H', ⟨uW⟩, ⟨uB⟩⟩
   rw [if_neg c8] at H
   have c8b0 := decide_eq_false c8
   clear c8
   (first | rw [c8b0] | (simp only [i64_w, i32_w]; rw [c8b0]) | skip)
   have H' := Aside0.mk H
   clear H
   go_wp2_with (first | ((with_reducible refine ug 14 rfl ?_); refine uh (some 14) rfl Try.func14 #[.slice A0 l0.length c0] ?_; (with_reducible refine (fixenc_modulus_may.calls k _ _ l0 true _ (uC (Kd.C_below HR0.out HB.out)) HC0.out A6.out).mono ?_); rintro e w10 ⟨rfl, hb⟩; refine ⟨_, rfl, ?_⟩; replace HB := uy hb; (try clear hb)))
   go_meet
   case rel => exact ⟨_, (decide (a1 > 62)), uG, H', ⟨uW⟩, ⟨uB⟩⟩
  replace c7 := Bool.eq_false_iff.mpr c7
  subst c7
  rw [if_neg (show ¬ (false = true) by decide)] at H
  have H' := Aside0.mk H
  clear H
  go_wp2_with (first | ((with_reducible refine ug 14 rfl ?_); refine uh (some 14) rfl Try.func14 #[.slice A0 l0.length c0] ?_; (with_reducible refine (fixenc_modulus_may.calls k _ _ l0 false _ (uC (Kd.C_below HR0.out HB.out)) HC0.out A6.out).mono ?_); rintro e w11 ⟨rfl, hb⟩; refine ⟨_, rfl, ?_⟩; replace HB := uy hb; (try clear hb)))
  go_meet
  case rel => exact ⟨_, (true), uG, H', ⟨uW⟩, ⟨uB⟩⟩
 case rest =>
  clear HC5
  obtain ⟨kq, x12_4, rfl, HA, HJ4, HB⟩ := hcut
  cases kq with
  | zero => exact absurd HA.out (by simp [fixenc_Pack.j0])
  | succ kj4 =>
   have H := HA.out
   clear HA
   simp only [fixenc_Pack.j0] at H
   by_cases c12 : x12_4 = true
   ·
    subst c12
    rw [if_pos rfl] at H
    simp only [Option.some.injEq, Prod.mk.injEq] at H
    obtain ⟨rfl, rfl⟩ := H
    go_wp2
    go_ret2
    exact ⟨_, uF, uI, uB⟩
   replace c12 := Bool.eq_false_iff.mpr c12
   subst c12
   rw [if_neg (show ¬ (false = true) by decide)] at H
   by_cases c13 : a3 < 0
   ·
    rw [if_pos c13] at H
    have c13b0 := decide_eq_true c13
    clear c13
    simp only [Option.some.injEq, Prod.mk.injEq] at H
    obtain ⟨rfl, rfl⟩ := H
    go_wp2
    go_ret2
    exact ⟨_, uF, uI, uB⟩
   rw [if_neg c13] at H
   have c13b0 := decide_eq_false c13
   clear c13
   replace ⟨c14b0, c14b1, H⟩ := uTe H
   obtain ⟨ji15, hji15⟩ : ∃ j_ : Int, (shr .i64 a3 a1) = j_ := ⟨_, rfl⟩
   first | rw [hji15] at H | simp only [hji15] at H
   have hji15_ : (a3 / 2 ^ min a1.toNat 64) = ji15 := hji15
   have hji15z : a1 ≤ 64 → (a3 / 2 ^ a1.toNat) = ji15 := shr_small hji15
   by_cases c16 : (ji15) = 0
   ·
    rw [if_pos c16] at H
    have c16b0 := beq_iff_eq.mpr c16
    have c16b1 := bne_eq_false_iff_eq.mpr c16
    clear c16
    replace ⟨⟨t964, t965⟩, A17, H⟩ := ub H
    (try dsimp only at H)
    replace ⟨⟨t968, t969⟩, A18, H⟩ := ub H
    (try dsimp only at H)
    replace ⟨⟨t972, t973⟩, A19, H⟩ := ub H
    (try dsimp only at H)
    replace ⟨⟨t976, t977, t980⟩, A20, H⟩ := ub H
    (try dsimp only at H)
    replace ⟨⟨t982, t985⟩, A21, H⟩ := ub H
    (try dsimp only at H)
    simp only [Option.some.injEq, Prod.mk.injEq] at H
    obtain ⟨rfl, rfl⟩ := H
    go_wp2_with (first | ((with_reducible refine ug 18 rfl ?_); refine uh (some 35) rfl Try.func18 #[.int .i64 a2] ?_; (with_reducible refine (modint_Of.calls kj4 a2 t964 t965 _ A17.out).mono ?_); rintro e w22 ⟨v966, rfl, ho0, hb⟩; refine ⟨_, rfl, ?_⟩; have HO967 := ulo ho0; replace HB := uy hb; (try clear hb ho0); obtain ⟨Ao23, co23, eo23⟩ := Kd.R_slice HO967.out; subst eo23) | ((with_reducible refine ug 17 rfl ?_); refine uh (some 37) rfl Try.func17 #[.agg #[.bool t964, .slice Ao23 t965.length co23], .int .i64 a1] ?_; (with_reducible refine (fixenc_times2.calls kj4 t964 _ _ t965 a1 t968 t969 _ (uC (Kd.R_reads' HO967.out).2.2) ((Kd.R_reads' HO967.out).2.1) A18.out).mono ?_); rintro e w24 ⟨v970, rfl, ho0, hb⟩; refine ⟨_, rfl, ?_⟩; have HO971 := ulo (unw ho0 HO967); replace HO967 := ueR HO967 ho0 hb; replace HB := uy hb; (try clear hb ho0)) | ((with_reducible refine ug 18 rfl ?_); refine uh (some 39) rfl Try.func18 #[.int .i64 a3] ?_; (with_reducible refine (modint_Of.calls kj4 a3 t972 t973 _ A19.out).mono ?_); rintro e w25 ⟨v974, rfl, ho0, hb⟩; refine ⟨_, rfl, ?_⟩; have HO975 := ulo (unw (unw ho0 HO967) HO971); replace HO967 := ueR HO967 ho0 hb; replace HO971 := ueR HO971 ho0 hb; replace HB := uy hb; (try clear hb ho0); obtain ⟨Ao26, co26, eo26⟩ := Kd.R_slice HO971.out; subst eo26; obtain ⟨Ao27, co27, eo27⟩ := Kd.R_slice HO975.out; subst eo27) | ((with_reducible refine ug 28 rfl ?_); refine uh (some 40) rfl Try.func28 #[.agg #[.bool t968, .slice Ao26 t969.length co26], .agg #[.bool t972, .slice Ao27 t973.length co27]] ?_; (with_reducible refine (modint_Add.calls kj4 t968 (fun k_ => some k_ = (.slice Ao26 t969.length co26 : Value).ownBlock) _ _ t969 t972 (fun k_ => some k_ = (.slice Ao27 t973.length co27 : Value).ownBlock) _ _ t973 t976 t977 t980 _ (Kd.R_V (Kd.R_tight rfl (HO971.out))) (Kd.R_V (Kd.R_tight rfl (HO975.out))) A20.out).mono ?_); rintro e w28 ⟨v978, rfl, ho0, hb⟩; refine ⟨_, rfl, ?_⟩; have HO979 := ulo (unw (unw (unw (Kd.R_mono (ok' := fun k_ => True) ho0 (fun _ hk_ => trivial)) HO967) HO971) HO975); replace HO967 := ueR HO967 ho0 hb; replace HO971 := ueR HO971 ho0 hb; replace HO975 := ueR HO975 ho0 hb; replace HB := uy hb; (try clear hb ho0)) | ((with_reducible refine gate_dst (N := 10) rfl ?_); refine ubx 10 #[.bool false, .slice none 0 0] 44 rfl rfl ?_; intro gb981 hg w29 hbox hb; replace HO967 := urb HO967 hb; replace HO971 := urb HO971 hb; replace HO975 := urb HO975 hb; replace HO979 := urb HO979 hb; have BK981 := Aside0.mk (hbox); have GW981 := us hg; have GE981 := us hg; replace HB := uy hb; clear hb hbox hg; obtain ⟨hcz30_0, hcz30_1, hfz30_0, hfz30_1⟩ := uz2 w29 BK981; obtain ⟨Ao31, co31, eo31⟩ := Kd.R_slice HO979.out; subst eo31) | ((with_reducible refine ug 13 rfl ?_); refine uh (some 45) rfl Try.func13 #[.slice A0 l0.length c0, .agg #[.bool t976, .slice Ao31 t977.length co31]] ?_; (with_reducible refine (fixenc_Encode.calls kj4 _ _ l0 t976 _ _ t977 t982 t985 _ ?side1 ?side2 ?side3 ?side4 A21.out).mono ?_); (case side1 => exact Kd.C_below HR0.out uB); (case side2 => exact HC0.out); (case side3 => refine (Kd.R_reads' (e := 42) (base := w.heap.size) (ok := fun k_ => (((True ∧ some k_ ≠ (.slice Ao23 t965.length co23 : Value).ownBlock) ∧ some k_ ≠ (.slice Ao26 t969.length co26 : Value).ownBlock) ∧ some k_ ≠ (.slice Ao27 t973.length co27 : Value).ownBlock)) (n := t977.length) (c := co31) ?_).2.2; exact (uR ((Kd.R_mono (Kd.R_far (p := ⟨gb981, 1, none⟩) (Kd.R_far (p := ⟨gb981, 0, none⟩) (Kd.R_types HO979.out BK981.out (by decide)) (fun _ hk => hk.2) (.bool t976)) (fun _ hk => hk.2) (.slice Ao31 t977.length co31)) (fun _ h_ => h_.1))))); (case side4 => exact (Kd.R_reads' HO979.out).2.1); rintro e w32 ⟨v983, rfl, ho0, hb⟩; refine ⟨_, rfl, ?_⟩; have HO984 := ulo (Kd.R_new' (Kd.R_new' (Kd.R_new' (Kd.R_new' ho0 (Kd.R_lt (uR ((Kd.R_mono (Kd.R_far (p := ⟨gb981, 1, none⟩) (Kd.R_far (p := ⟨gb981, 0, none⟩) (Kd.R_types HO967.out BK981.out (by decide)) (fun _ hk => hk.2) (.bool t976)) (fun _ hk => hk.2) (.slice Ao31 t977.length co31)) (fun _ h_ => h_.1)))))) (Kd.R_lt (uR ((Kd.R_mono (Kd.R_far (p := ⟨gb981, 1, none⟩) (Kd.R_far (p := ⟨gb981, 0, none⟩) (Kd.R_types HO971.out BK981.out (by decide)) (fun _ hk => hk.2) (.bool t976)) (fun _ hk => hk.2) (.slice Ao31 t977.length co31)) (fun _ h_ => h_.1)))))) (Kd.R_lt (uR ((Kd.R_mono (Kd.R_far (p := ⟨gb981, 1, none⟩) (Kd.R_far (p := ⟨gb981, 0, none⟩) (Kd.R_types HO975.out BK981.out (by decide)) (fun _ hk => hk.2) (.bool t976)) (fun _ hk => hk.2) (.slice Ao31 t977.length co31)) (fun _ h_ => h_.1)))))) (Kd.R_lt (uR ((Kd.R_mono (Kd.R_far (p := ⟨gb981, 1, none⟩) (Kd.R_far (p := ⟨gb981, 0, none⟩) (Kd.R_types HO979.out BK981.out (by decide)) (fun _ hk => hk.2) (.bool t976)) (fun _ hk => hk.2) (.slice Ao31 t977.length co31)) (fun _ h_ => h_.1)))))); replace HO967 := Aside0.mk (Kd.R_elder' (uR ((Kd.R_mono (Kd.R_far (p := ⟨gb981, 1, none⟩) (Kd.R_far (p := ⟨gb981, 0, none⟩) (Kd.R_types HO967.out BK981.out (by decide)) (fun _ hk => hk.2) (.bool t976)) (fun _ hk => hk.2) (.slice Ao31 t977.length co31)) (fun _ h_ => h_.1)))) (Kd.R_base ho0) hb); replace HO971 := Aside0.mk (Kd.R_elder' (uR ((Kd.R_mono (Kd.R_far (p := ⟨gb981, 1, none⟩) (Kd.R_far (p := ⟨gb981, 0, none⟩) (Kd.R_types HO971.out BK981.out (by decide)) (fun _ hk => hk.2) (.bool t976)) (fun _ hk => hk.2) (.slice Ao31 t977.length co31)) (fun _ h_ => h_.1)))) (Kd.R_base ho0) hb); replace HO975 := Aside0.mk (Kd.R_elder' (uR ((Kd.R_mono (Kd.R_far (p := ⟨gb981, 1, none⟩) (Kd.R_far (p := ⟨gb981, 0, none⟩) (Kd.R_types HO975.out BK981.out (by decide)) (fun _ hk => hk.2) (.bool t976)) (fun _ hk => hk.2) (.slice Ao31 t977.length co31)) (fun _ h_ => h_.1)))) (Kd.R_base ho0) hb); replace HO979 := Aside0.mk (Kd.R_elder' (uR ((Kd.R_mono (Kd.R_far (p := ⟨gb981, 1, none⟩) (Kd.R_far (p := ⟨gb981, 0, none⟩) (Kd.R_types HO979.out BK981.out (by decide)) (fun _ hk => hk.2) (.bool t976)) (fun _ hk => hk.2) (.slice Ao31 t977.length co31)) (fun _ h_ => h_.1)))) (Kd.R_base ho0) hb); replace BK981 := Aside0.mk (blk_below (g := gb981) (o := .cells #[.bool t976, .slice Ao31 t977.length co31] 44 (0, 0)) (by refine blk_put (cs := #[.bool t976, .slice none 0 0]) ?_ 1 _ rfl; refine blk_put (cs := #[.bool false, .slice none 0 0]) ?_ 0 _ rfl; exact uK BK981.out) hb); replace HB := uy hb; (try clear hb); (try clear hb2); (try clear hk); (try clear hi); (try clear ho0)))
    go_ret2
    exact ⟨_, by first | rfl | (simp [errW_none, errW_some] <;> rfl) | (simp only [← hji15]; first | rfl | (simp [errW_none, errW_some] <;> rfl)) | (simp [*, errW_none, errW_some] <;> rfl), by exact uR (Kd.R_mono HO984.out (fun _ hk => trivial)), uB⟩
   rw [if_neg c16] at H
   have c16b0 := beq_eq_false_iff_ne.mpr c16
   have c16b1 := bne_iff_ne.mpr c16
   simp only [Option.some.injEq, Prod.mk.injEq] at H
   obtain ⟨rfl, rfl⟩ := H
   go_wp2
   go_ret2
   exact ⟨_, by first | rfl | (simp [errW_none, errW_some] <;> rfl) | (simp only [← hji15]; first | rfl | (simp [errW_none, errW_some] <;> rfl)) | (simp [*, errW_none, errW_some] <;> rfl), uI, uB⟩
end Go.Proofs.Ytnaphgnkhhapoab.F
end
section
namespace Go.Proofs.Ytnaphgnkhhapoab.F
open Go.RowKit Go.Proofs.YtnaphgnkhhapoabW.PrintWords Go.Proofs.YtnaphgnkhhapoabW.PrintLast
set_option linter.unusedVariables false
set_option linter.unusedSimpArgs false
structure Fr where
  i : Nat
  N : Tmp
  obj : Obj
  val : Nat → Value
section
variable {P : Program} {ops : Array Oper} {Q : Exit → Act → World → Prop} {md : Region.Mode} {S : World → Prop} {ds : List Nat}
def FrOk (P : Program) (ops : Array Oper) (f : Fr) (a : Act) : Prop :=
  ∃ o, ops[f.i]? = some o ∧ o.dst = some f.N ∧ (∀ cs b, o.op ≠ .select cs b) ∧ Region.wanted o (yielded ops a.tmps) = true ∧ ∀ w, (execOp a.eval o).run P w = .ok (.value (f.val w.heap.size)) (w.alloc f.obj)
def layF : List Nat → List Bool → Array Bool → Array Bool
  | i :: is, b :: bs, l => layF is bs (if b then l.setIfInBounds i true else l)
  | _, _, l => l
def fillF : List Fr → List (Option Nat) → Act → Act
  | f :: fs, g :: gs, a => fillF fs gs (match g with
    | some x => a.put (some f.N) (f.val x)
    | none => a)
  | _, _, a => a
def flags (gs : List (Option Nat)) : List Bool := gs.map (·.isSome)
def openN (gs : List (Option Nat)) : Nat := gs.countP (·.isNone)
def HeldF (B : Nat) (fs : List Fr) (gs : List (Option Nat)) (w : World) : Prop :=
  (∀ (j : Nat) (f : Fr) (g : Nat), fs[j]? = some f → gs[j]? = some (some g) → w.heap[g]? = some f.obj ∧ B ≤ g) ∧ ∀ (j k g : Nat), gs[j]? = some (some g) → gs[k]? = some (some g) → j = k
def NodeF (P : Program) (md : Region.Mode) (ops : Array Oper) (Q : Exit → Act → World → Prop) (S : World → Prop) (ds : List Nat) (B : Nat) (fs : List Fr) (fuel : Nat) (l : Array Bool) (a : Act) (w : World) : Prop :=
  (∀ f ∈ fs, FrOk P ops f a) → ∀ gs w', gs.length = fs.length → Below w.heap.size w w' → S w' → B ≤ w'.heap.size → HeldF B fs gs w' →
    wpAnyLast P md ops Q S ds (fuel + openN gs) (layF (fs.map Fr.i) (flags gs) l) (fillF fs gs a) w'
def pats : Nat → List (List Bool)
  | 0 => [[]]
  | n + 1 => (pats n).flatMap fun b => [true :: b, false :: b]
theorem mem_pats : ∀ (b : List Bool), b ∈ pats b.length
  | [] => by simp [pats]
  | b :: bs => by
    have := mem_pats bs
    simp only [List.length_cons, pats, List.mem_flatMap]
    exact ⟨bs, this, by cases b <;> simp⟩
theorem flags_length (gs : List (Option Nat)) : (flags gs).length = gs.length := by simp [flags]
def apartF (ops : Array Oper) (is js : List Nat) : Bool := is.all fun i => js.all fun j => i == j || (match ops[i]?, ops[j]? with
  | some x, some y => x.apart ops y
  | _, _ => false)
theorem apartF_spec {is js : List Nat} (h : apartF ops is js = true) {i j : Nat} (hi : i ∈ is) (hj : j ∈ js) (hne : i ≠ j) {x y : Oper} (hx : ops[i]? = some x) (hy : ops[j]? = some y) : x.apart ops y = true := by
  have h1 := List.all_eq_true.1 (List.all_eq_true.1 h i hi) j hj
  simp only [hx, hy, Bool.or_eq_true, beq_iff_eq] at h1
  exact h1.resolve_left hne
theorem wpOp_unput {j : Nat} {oj : Oper} {N : Tmp} {v : Value} (hj : ops[j]? = some oj) (h1 : N ∉ oj.looksAt ops) (h2 : oj.dst ≠ some N) (hsj : ∀ cs b, oj.op ≠ .select cs b)
    (hQ : ∀ c a w v, Q (.panic c) a w → Q (.panic c) (a.put (some N) v) w) {K : Act → World → Prop} {a : Act} {w : World}
    (h : wpOp P ops Q j (fun a' w' => K (a'.put (some N) v) w') a w) : wpOp P ops Q j K (a.put (some N) v) w := by
  have h1' : ∀ d, some N = some d → d ∉ oj.looksAt ops := fun d hd => by injection hd with hd; subst hd; exact h1
  have h2' : ∀ d, some N = some d → oj.dst ≠ some d := fun d hd => by injection hd with hd; subst hd; exact h2
  unfold wpOp at *
  simp only [hj] at *
  rw [wanted_put oj a (some N) v h1']
  split
  · rename_i hw
    simp only [hw, if_true] at h
    rcases h with h | ⟨hasks, hlets⟩
    case inr => exact .inr ⟨by unfold Oper.asks at *; rw [execOp_put oj hsj a (some N) v h1']; exact hasks, hlets⟩
    refine .inl ?_
    unfold Oper.wp at *
    rw [execOp_put oj hsj a (some N) v h1']
    generalize (execOp a.eval oj).run P w = r at *
    cases r with
    | ok n w' =>
      cases n <;> simp only [Oper.upon] at h ⊢
      case value u => rw [Act.put_comm a v u h2']; exact h
      case skip => rw [Act.put_comm a v undef h2']; exact h
      case defer d =>
        rw [Act.put_defers, Act.put_comm _ v undef h2']
        exact h
      case enter f args =>
        refine Calls.mono h fun e w'' he => ?_
        cases e with
        | returned u => show K _ w''; rw [Act.put_comm a v u h2']; exact he
        | panicked c => exact hQ _ _ _ _ he
        | outgrown => exact he
      case row row args => exact Rows.mono h fun u w'' he => by rw [Act.put_comm a v u h2']; exact he
    | halt x w' =>
      cases x <;> simp only [Oper.upon] at h ⊢
      case panic u => exact hQ _ _ _ _ h
  · rename_i hw
    simp only [hw, Bool.false_eq_true, if_false] at h
    rw [Act.put_comm a v undef h2']; exact h
theorem wpOp_fill {j : Nat} {oj : Oper} (hj : ops[j]? = some oj) (hsj : ∀ cs b, oj.op ≠ .select cs b) (hQ : ∀ N c a w v, Q (.panic c) a w → Q (.panic c) (a.put (some N) v) w) {K : Act → World → Prop} {w : World} :
    ∀ (fs : List Fr) (gs : List (Option Nat)) (a : Act), (∀ f ∈ fs, f.N ∉ oj.looksAt ops ∧ oj.dst ≠ some f.N) → wpOp P ops Q j (fun a' w' => K (fillF fs gs a') w') a w → wpOp P ops Q j K (fillF fs gs a) w
  | [], _, _, _, h => h
  | _ :: _, [], _, _, h => h
  | f :: fs, none :: gs, a, hf, h => wpOp_fill hj hsj hQ fs gs a (fun f' hf' => hf f' (List.mem_cons_of_mem _ hf')) h
  | f :: fs, some x :: gs, a, hf, h => by
    have h0 := hf f List.mem_cons_self
    exact wpOp_fill hj hsj hQ fs gs _ (fun f' hf' => hf f' (List.mem_cons_of_mem _ hf')) (wpOp_unput hj h0.1 h0.2 hsj (hQ f.N) h)
theorem fill_put {N : Tmp} {v : Value} : ∀ (fs : List Fr) (gs : List (Option Nat)) (a : Act), (∀ f ∈ fs, f.N ≠ N) → (fillF fs gs a).put (some N) v = fillF fs gs (a.put (some N) v)
  | [], _, _, _ => rfl
  | _ :: _, [], _, _ => rfl
  | f :: fs, none :: gs, a, h => fill_put fs gs a (fun f' hf' => h f' (List.mem_cons_of_mem _ hf'))
  | f :: fs, some x :: gs, a, h => by
    have h0 := h f List.mem_cons_self
    show (fillF fs gs (a.put (some f.N) (f.val x))).put (some N) v = fillF fs gs ((a.put (some N) v).put (some f.N) (f.val x))
    rw [fill_put fs gs _ (fun f' hf' => h f' (List.mem_cons_of_mem _ hf')), Act.put_comm a (f.val x) v (fun d hd => by injection hd with hd; subst hd; exact fun e => h0 (Option.some.inj e).symm)]
theorem fill_putN {N : Option Tmp} {v : Value} (fs : List Fr) (gs : List (Option Nat)) (a : Act) (h : ∀ f ∈ fs, some f.N ≠ N) : (fillF fs gs a).put N v = fillF fs gs (a.put N v) := by
  cases N with
  | none => rfl
  | some N => exact fill_put fs gs a (fun f hf he => h f hf (by rw [he]))
theorem fill_exec {o : Oper} (hs : ∀ cs b, o.op ≠ .select cs b) : ∀ (fs : List Fr) (gs : List (Option Nat)) (a : Act), (∀ (j : Nat) (f : Fr), fs[j]? = some f → gs[j]? = some none ∨ f.N ∉ o.looksAt ops) → execOp (fillF fs gs a).eval o = execOp a.eval o ∧ Region.wanted o (yielded ops (fillF fs gs a).tmps) = Region.wanted o (yielded ops a.tmps)
  | [], _, _, _ => ⟨rfl, rfl⟩
  | _ :: _, [], _, _ => ⟨rfl, rfl⟩
  | f :: fs, none :: gs, a, h => fill_exec hs fs gs a (fun j f' hf' => by simpa using h (j + 1) f' (by simpa using hf'))
  | f :: fs, some x :: gs, a, h => by
    have h0 : f.N ∉ o.looksAt ops := (h 0 f rfl).resolve_left (by simp)
    have h1 : ∀ d, some f.N = some d → d ∉ o.looksAt ops := fun d hd => by injection hd with hd; subst hd; exact h0
    obtain ⟨e1, e2⟩ := fill_exec hs fs gs (a.put (some f.N) (f.val x)) (fun j f' hf' => by simpa using h (j + 1) f' (by simpa using hf'))
    exact ⟨e1.trans (execOp_put o hs a _ _ h1), e2.trans (wanted_put o a _ _ h1)⟩
theorem fill_set {x : Nat} : ∀ (fs : List Fr) (gs : List (Option Nat)) (a : Act) (j : Nat) (f : Fr), fs[j]? = some f → gs[j]? = some none → (∀ (k : Nat) (f' : Fr), fs[k]? = some f' → k ≠ j → f'.N ≠ f.N) →
    (fillF fs gs a).put (some f.N) (f.val x) = fillF fs (gs.set j (some x)) a
  | [], _, _, _, _, h, _, _ => by simp at h
  | _ :: _, [], _, _, _, _, h, _ => by simp at h
  | f0 :: fs, g0 :: gs, a, 0, f, h, hg, hne => by
    simp only [List.getElem?_cons_zero, Option.some.injEq] at h hg
    subst h
    subst hg
    have e := fill_put (N := f0.N) (v := f0.val x) fs gs a (fun f' hf' => by
      obtain ⟨k, hk⟩ := List.getElem?_of_mem hf'
      exact hne (k + 1) f' (by simpa using hk) (by omega))
    exact e
  | f0 :: fs, g0 :: gs, a, j + 1, f, h, hg, hne => by
    have h2 : ∀ a', (fillF fs gs a').put (some f.N) (f.val x) = fillF fs (gs.set j (some x)) a' := fun a' =>
      fill_set fs gs a' j f (by simpa using h) (by simpa using hg) (fun k f' hk hkj => hne (k + 1) f' (by simpa using hk) (by omega))
    exact h2 _
theorem FrOk.keep {f : Fr} {a : Act} {oj : Oper} {u : Value} (h : FrOk P ops f a) (hap : ∀ o, ops[f.i]? = some o → ∀ d, oj.dst = some d → d ∉ o.looksAt ops) : FrOk P ops f (a.put oj.dst u) := by
  obtain ⟨o, h1, h2, h3, h4, h5⟩ := h
  exact ⟨o, h1, h2, h3, by rw [wanted_put o a oj.dst u (hap o h1)]; exact h4, fun w => by rw [execOp_put o h3 a oj.dst u (hap o h1)]; exact h5 w⟩
theorem wpOp_keep {j : Nat} {oj : Oper} (hj : ops[j]? = some oj) {fs : List Fr} {K : Act → World → Prop} {a : Act} {w : World} (hf : ∀ f ∈ fs, FrOk P ops f a) (hap : ∀ f ∈ fs, ∀ o, ops[f.i]? = some o → ∀ d, oj.dst = some d → d ∉ o.looksAt ops)
    (h : wpOp P ops Q j K a w) : wpOp P ops Q j (fun a' w' => (∀ f ∈ fs, FrOk P ops f a') ∧ K a' w') a w := by
  have keep : ∀ u, ∀ f ∈ fs, FrOk P ops f (a.put oj.dst u) := fun u f hm => (hf f hm).keep (hap f hm)
  unfold wpOp at *
  simp only [hj] at *
  split
  · rename_i hw
    simp only [hw, if_true] at h
    rcases h with h | h
    case inr => exact .inr h
    refine .inl ?_
    unfold Oper.wp at *
    generalize (execOp a.eval oj).run P w = r at *
    cases r with
    | ok n w' =>
      cases n <;> simp only [Oper.upon] at h ⊢
      case value u => exact ⟨keep u, h⟩
      case skip => exact ⟨keep undef, h⟩
      case defer d => exact ⟨fun f hm => FrOk.keep (a := { a with defers := d :: a.defers }) (hf f hm) (hap f hm), h⟩
      case enter f args =>
        refine Calls.mono h fun e w'' he => ?_
        cases e with
        | returned u => exact ⟨keep u, he⟩
        | panicked c => exact he
        | outgrown => exact he
      case row row args => exact Rows.mono h fun u w'' he => ⟨keep u, he⟩
    | halt x w' => cases x <;> simp only [Oper.upon] at h ⊢ <;> exact h
  · rename_i hw
    simp only [hw, Bool.false_eq_true, if_false] at h
    exact ⟨keep undef, h⟩
theorem HeldF.below {B : Nat} {fs : List Fr} {gs : List (Option Nat)} {w w' : World} (h : HeldF B fs gs w) (hb : Below w.heap.size w w') : HeldF B fs gs w' :=
  ⟨fun j f g hf hg => ⟨blk_below (h.1 j f g hf hg).1 hb, (h.1 j f g hf hg).2⟩, h.2⟩
theorem HeldF.make {B : Nat} {fs : List Fr} {gs : List (Option Nat)} {w : World} (hl : gs.length = fs.length) (h : HeldF B fs gs w) (hB : B ≤ w.heap.size) {j : Nat} {f : Fr} (hf : fs[j]? = some f) : HeldF B fs (gs.set j (some w.heap.size)) (w.alloc f.obj) := by
  have hlt : ∀ k g, gs[k]? = some (some g) → g < w.heap.size := fun k g hg => by
    have hk : k < fs.length := by rw [← hl]; exact (List.getElem?_eq_some_iff.1 hg).1
    exact blk_lt (h.1 k _ g (List.getElem?_eq_getElem hk) hg).1
  have hj : j < gs.length := by rw [hl]; exact (List.getElem?_eq_some_iff.1 hf).1
  refine ⟨fun k f' g hf' hg => ?_, fun k m g hk hm => ?_⟩
  · by_cases hkj : j = k
    · subst hkj
      rw [hf] at hf'
      injection hf' with hf'
      subst hf'
      rw [List.getElem?_set_self hj] at hg
      simp only [Option.some.injEq] at hg
      subst hg
      exact ⟨blk_new w _, hB⟩
    · rw [List.getElem?_set_ne hkj] at hg
      exact ⟨blk_alloc (h.1 k f' g hf' hg).1 _, (h.1 k f' g hf' hg).2⟩
  · by_cases hkj : j = k <;> by_cases hmj : j = m
    · omega
    · subst hkj
      rw [List.getElem?_set_self hj] at hk
      rw [List.getElem?_set_ne hmj] at hm
      simp only [Option.some.injEq] at hk
      subst hk
      exact absurd (hlt _ _ hm) (Nat.lt_irrefl _)
    · subst hmj
      rw [List.getElem?_set_self hj] at hm
      rw [List.getElem?_set_ne hkj] at hk
      simp only [Option.some.injEq] at hm
      subst hm
      exact absurd (hlt _ _ hk) (Nat.lt_irrefl _)
    · rw [List.getElem?_set_ne hkj] at hk
      rw [List.getElem?_set_ne hmj] at hm
      exact h.2 k m g hk hm
theorem openN_set : ∀ {gs : List (Option Nat)} {j x : Nat}, gs[j]? = some none → openN gs = openN (gs.set j (some x)) + 1
  | [], _, _, h => by simp at h
  | g :: gs, 0, x, h => by
    simp only [List.getElem?_cons_zero, Option.some.injEq] at h
    subst h
    simp [openN]
  | g :: gs, j + 1, x, h => by
    have := openN_set (gs := gs) (j := j) (x := x) (by simpa using h)
    simp only [openN, List.set_cons_succ, List.countP_cons] at this ⊢
    omega
def nextF (md : Region.Mode) (ops : Array Oper) (is : List Nat) (c : Option Nat) (l : Array Bool) : Bool := (pats is.length).all fun bs =>
  let m := layF is bs l
  let r := Region.ready md ops m
  (bs.all id && c.isNone) || !r.isEmpty && r.all fun j => c == some j || (List.range is.length).any fun k => is.getD k 0 == j && bs.getD k true == false && m.setIfInBounds j true == layF is (bs.set k true) l
theorem flags_set {gs : List (Option Nat)} {k x : Nat} : flags (gs.set k (some x)) = (flags gs).set k true := by simp [flags, List.map_set]
theorem free_comes {B : Nat} {fs : List Fr} {fuel : Nat} {l : Array Bool} {a : Act} {c : Option Nat} (hf : ∀ f ∈ fs, FrOk P ops f a) (hap : apartF ops (fs.map Fr.i) (fs.map Fr.i) = true) (hnd : (fs.map Fr.i).Nodup)
    (hds : (fs.map Fr.i).all (fun i => !ds.contains i) = true) (hSa : ∀ w o, S w → S (w.alloc o)) (hc : nextF md ops (fs.map Fr.i) c l = true)
    {gs : List (Option Nat)} {w' : World} (hl : gs.length = fs.length) (hS : S w') (hB : B ≤ w'.heap.size) (hH : HeldF B fs gs w') {j : Nat} (hno : ((flags gs).all id && c.isNone) = false) (hj : j ∈ Region.ready md ops (layF (fs.map Fr.i) (flags gs) l)) (hjc : c ≠ some j)
    (K : ∀ gs' w'', gs'.length = fs.length → openN gs' + 1 = openN gs → Below w'.heap.size w' w'' → S w'' → B ≤ w''.heap.size → HeldF B fs gs' w'' → wpAnyLast P md ops Q S ds fuel (layF (fs.map Fr.i) (flags gs') l) (fillF fs gs' a) w'') :
    wpOp P ops Q j (fun a' w'' => (j ∉ ds → S w' → S w'') ∧ wpAnyLast P md ops Q S ds fuel ((layF (fs.map Fr.i) (flags gs) l).setIfInBounds j true) a' w'') (fillF fs gs a) w' := by
  have hp := List.all_eq_true.1 hc (flags gs) (by have := mem_pats (flags gs); rwa [flags_length, hl, ← List.length_map (f := Fr.i)] at this)
  simp only [hno, Bool.false_or, Bool.and_eq_true] at hp
  have h1 := List.all_eq_true.1 hp.2 j hj
  simp only [Bool.or_eq_true, beq_iff_eq] at h1
  obtain ⟨k, hk, h2⟩ := List.any_eq_true.1 (h1.resolve_left hjc)
  simp only [Bool.and_eq_true, beq_iff_eq] at h2
  obtain ⟨⟨h3, h4⟩, h5⟩ := h2
  have hk : k < fs.length := by simpa using hk
  obtain ⟨f, hfk⟩ : ∃ f, fs[k]? = some f := ⟨_, List.getElem?_eq_getElem hk⟩
  have hfi : f.i = j := by
    rw [← h3, List.getD_eq_getElem?_getD, List.getElem?_map, hfk]
    rfl
  have hg : gs[k]? = some none := by
    have hk' : k < gs.length := by omega
    rw [List.getElem?_eq_getElem hk']
    rw [List.getD_eq_getElem?_getD, flags, List.getElem?_map, List.getElem?_eq_getElem hk'] at h4
    cases hz : gs[k] with
    | none => rfl
    | some z => rw [hz] at h4; simp at h4
  have hmem : f ∈ fs := List.mem_of_getElem? hfk
  obtain ⟨o, ho, hdst, hsel, hw, hrun⟩ := hf f hmem
  have hother : ∀ m f', fs[m]? = some f' → m ≠ k → f'.N ∉ o.looksAt ops ∧ f'.N ≠ f.N := fun m f' hm hne => by
    obtain ⟨o', ho', hd', _⟩ := hf f' (List.mem_of_getElem? hm)
    have hne' : f'.i ≠ f.i := fun e => hne (by
      have hm' : m < fs.length := (List.getElem?_eq_some_iff.1 hm).1
      have hp := List.pairwise_iff_getElem.1 hnd
      have e1 : (fs.map Fr.i)[m]'(by simpa using hm') = (fs.map Fr.i)[k]'(by simpa using hk) := by
        rw [List.getElem_map, List.getElem_map]
        rw [List.getElem?_eq_getElem hm'] at hm
        rw [List.getElem?_eq_getElem hk] at hfk
        rw [Option.some.inj hm, Option.some.inj hfk]; exact e
      rcases Nat.lt_trichotomy m k with h7 | h7 | h7
      · exact absurd e1 (hp m k _ _ h7)
      · exact h7
      · exact absurd e1.symm (hp k m _ _ h7))
    obtain ⟨a1, a2, a3⟩ := Oper.apart_spec (apartF_spec hap (List.mem_map.2 ⟨f', List.mem_of_getElem? hm, rfl⟩) (List.mem_map.2 ⟨f, hmem, rfl⟩) hne' ho' ho)
    exact ⟨a1 _ hd', fun e => a2 _ hd' (by rw [hdst, e])⟩
  obtain ⟨e1, e2⟩ := fill_exec (ops := ops) hsel fs gs a (fun m f' hm => by
    by_cases hmk : m = k
    · exact .inl (hmk ▸ hg)
    · exact .inr (hother m f' hm hmk).1)
  rw [hfi] at ho
  unfold wpOp
  simp only [ho]
  rw [e2, if_pos hw]
  refine .inl ?_
  unfold Oper.wp
  rw [e1, hrun w']
  simp only [Oper.upon]
  rw [hdst, fill_set fs gs a k f hfk hg (fun m f' hm hne => (hother m f' hm hne).2), h5, ← flags_set (x := w'.heap.size)]
  exact ⟨fun _ _ => hSa _ _ hS, K _ _ (by simpa using hl) (openN_set hg).symm (below_alloc (Below.refl _ _) _) (hSa _ _ hS) (by simp; omega) (HeldF.make hl hH hB hfk)⟩
def coreF (md : Region.Mode) (ops : Array Oper) (ds is : List Nat) (l l' : Array Bool) (c : Nat) : Bool :=
  nextF md ops is (some c) l && (pats is.length).all (fun bs => (layF is bs l).setIfInBounds c true == layF is bs l') && apartF ops is is && apartF ops is [c] && Region.noSelect ops && decide is.Nodup && is.all (fun i => !ds.contains i) && !is.contains c && !ds.contains c
theorem apart_both {fs : List Fr} {a : Act} {c : Nat} {oc : Oper} (hoc : ops[c]? = some oc) (hf : ∀ f ∈ fs, FrOk P ops f a) (hap : apartF ops (fs.map Fr.i) [c] = true) (hcn : c ∉ fs.map Fr.i) :
    ∀ f ∈ fs, (f.N ∉ oc.looksAt ops ∧ oc.dst ≠ some f.N) ∧ ∀ o, ops[f.i]? = some o → ∀ d, oc.dst = some d → d ∉ o.looksAt ops := fun f hm => by
  obtain ⟨o, ho, hd, _⟩ := hf f hm
  have hne : f.i ≠ c := fun e => hcn (e ▸ List.mem_map.2 ⟨f, hm, rfl⟩)
  obtain ⟨a1, a2, a3⟩ := Oper.apart_spec (apartF_spec hap (List.mem_map.2 ⟨f, hm, rfl⟩) (List.mem_singleton.2 rfl) hne ho hoc)
  exact ⟨⟨a1 _ hd, a2 _ hd⟩, fun o' ho' => by rw [ho] at ho'; injection ho' with ho'; subst ho'; exact a3⟩
theorem core_ {B : Nat} {fs : List Fr} {c : Nat} {N : Option Tmp} {oc : Oper} {fuel : Nat} {l : Array Bool} {a : Act} {w : World} (l' : Array Bool) (hoc : ops[c]? = some oc) (hN : oc.dst = N) (hc : coreF md ops ds (fs.map Fr.i) l l' c = true)
    (hQ : ∀ N c a w v, Q (.panic c) a w → Q (.panic c) (a.put (some N) v) w) (hSa : ∀ w o, S w → S (w.alloc o))
    (h : ∀ w', Below w.heap.size w w' → S w' → ∀ K : Act → World → Prop, Shut (∀ a'' w'', S w'' → Below w'.heap.size w' w'' → (S w'' → NodeF P md ops Q S ds B fs fuel l' a'' w'') → K a'' w'') → if Region.wanted oc (yielded ops a.tmps) = true then Oper.wp P oc a w' K Q else K (a.put N undef) w') :
    NodeF P md ops Q S ds B fs (fuel + 1) l a w := by
  simp only [coreF, Bool.and_eq_true, decide_eq_true_eq, Bool.not_eq_true'] at hc
  obtain ⟨⟨⟨⟨⟨⟨⟨⟨c1, c2⟩, c3⟩, c4⟩, c5⟩, c6⟩, c7⟩, c8⟩, c9⟩ := hc
  intro hf
  have hboth := apart_both hoc hf c4 (by simpa using c8)
  have hsj : ∀ cs b, oc.op ≠ .select cs b := fun cs b => Region.noSelect_spec c5 c oc cs b hoc
  suffices H : ∀ n (gs : List (Option Nat)) w', openN gs = n → gs.length = fs.length → Below w.heap.size w w' → S w' → B ≤ w'.heap.size → HeldF B fs gs w' → wpAnyLast P md ops Q S ds (fuel + 1 + openN gs) (layF (fs.map Fr.i) (flags gs) l) (fillF fs gs a) w' from fun gs w' h1 h2 h3 h4 h5 => H _ gs w' rfl h1 h2 h3 h4 h5
  intro n
  induction n using Nat.strongRecOn with
  | _ n ih =>
    intro gs w' hn hl hb hS hB hH
    have hp := List.all_eq_true.1 c1 (flags gs) (by have := mem_pats (flags gs); rwa [flags_length, hl, ← List.length_map (f := Fr.i)] at this)
    have hp2 := List.all_eq_true.1 c2 (flags gs) (by have := mem_pats (flags gs); rwa [flags_length, hl, ← List.length_map (f := Fr.i)] at this)
    simp only [Bool.and_eq_true, Option.isNone_some, Bool.and_false, Bool.false_or, beq_iff_eq] at hp hp2
    rw [show fuel + 1 + openN gs = (fuel + openN gs) + 1 by omega]
    refine ⟨fun h0 => by rw [h0] at hp; simp at hp, fun j hj => ?_⟩
    by_cases hjc : j = c
    · subst hjc
      rw [hp2]
      refine wpOp_fill hoc hsj hQ fs gs a (fun f hm => (hboth f hm).1) ?_
      have h1 : wpOp P ops Q j (fun a'' w'' => S w'' ∧ Below w'.heap.size w' w'' ∧ NodeF P md ops Q S ds B fs fuel l' a'' w'') a w' := by
        have h2 := h w' hb hS (fun a'' w'' => S w'' ∧ Below w'.heap.size w' w'' ∧ NodeF P md ops Q S ds B fs fuel l' a'' w'') (show Shut _ from fun a'' w'' x1 x2 x3 => ⟨x1, x2, x3 x1⟩)
        unfold wpOp
        simp only [hoc]
        split
        · rename_i hw; rw [if_pos hw] at h2; exact .inl h2
        · rename_i hw; rw [if_neg hw, ← hN] at h2; exact h2
      refine wpOp_mono (fun a'' w'' hh => ?_) (wpOp_keep hoc hf (fun f hm => (hboth f hm).2) h1)
      obtain ⟨hf', s1, s2, s3⟩ := hh
      exact ⟨fun _ _ => s1, s3 hf' gs w'' hl (Below.refl _ _) s1 (Nat.le_trans hB s2.size) (hH.below s2)⟩
    · refine free_comes hf c3 c6 c7 hSa c1 hl hS hB hH (by simp) hj (fun e => hjc (Option.some.inj e).symm) (fun gs' w'' l1 l2 l3 l4 l5 l6 => ?_)
      have := ih (openN gs') (by omega) gs' w'' rfl l1 (below_step hb l3) l4 l5 l6
      rwa [show fuel + 1 + openN gs' = fuel + openN gs by omega] at this
def pureF (md : Region.Mode) (ops : Array Oper) (is : List Nat) (l l' : Array Bool) (i : Nat) : Bool :=
  (pats is.length).all (fun bs => anyB md ops (layF is bs l) (layF is bs l') i) && apartF ops is [i] && !is.contains i
theorem pureF_ {B : Nat} {fs : List Fr} {i : Nat} {N : Option Tmp} {oi : Oper} {v : Value} {fuel : Nat} {l : Array Bool} {a : Act} {w : World} (l' : Array Bool) (hi : ops[i]? = some oi) (hN : oi.dst = N) (hc : pureF md ops (fs.map Fr.i) l l' i = true)
    (hQ : ∀ c a w, Q (.panic c) (a.put oi.dst v) w → Q (.panic c) a w) (hy : Yields P ops oi v a) {a' : Act} (ha : a.put N v = a') (h : NodeF P md ops Q S ds B fs fuel l' a' w) : NodeF P md ops Q S ds B fs (fuel + 1) l a w := by
  subst ha
  subst hN
  simp only [pureF, Bool.and_eq_true, Bool.not_eq_true', List.contains_eq_mem, decide_eq_false_iff_not] at hc
  obtain ⟨⟨c1, c2⟩, c3⟩ := hc
  intro hf gs w' hl hb hS hB hH
  have hboth := apart_both hi hf c2 c3
  have hp := List.all_eq_true.1 c1 (flags gs) (by have := mem_pats (flags gs); rwa [flags_length, hl, ← List.length_map (f := Fr.i)] at this)
  have hsel : ∀ cs b, oi.op ≠ .select cs b := fun cs b => by
    have hs := hp
    simp only [anyB, Bool.and_eq_true] at hs
    exact Region.noSelect_spec hs.1.1.1 i oi cs b hi
  obtain ⟨e1, e2⟩ := fill_exec (ops := ops) hsel fs gs a (fun m f' hm => .inr (hboth f' (List.mem_of_getElem? hm)).1.1)
  rw [show fuel + 1 + openN gs = (fuel + openN gs) + 1 by omega]
  exact pure_ _ hi rfl hp hQ (hy.of_same e1 e2) (fill_putN fs gs a (fun f hm => ((hboth f hm).1.2).symm)) (h (fun f hm => (hf f hm).keep (hboth f hm).2) gs w' hl hb hS hB hH)
def endF (md : Region.Mode) (ops : Array Oper) (ds is : List Nat) (l l' : Array Bool) : Bool :=
  nextF md ops is none l && apartF ops is is && decide is.Nodup && is.all (fun i => !ds.contains i) && layF is (is.map fun _ => true) l == l'
theorem free_ {B : Nat} {fs : List Fr} {fuel : Nat} {l : Array Bool} {a : Act} {w : World} (l' : Array Bool) (hc : endF md ops ds (fs.map Fr.i) l l' = true) (hSa : ∀ w o, S w → S (w.alloc o))
    (h : ∀ (gs : List Nat) w', gs.length = fs.length → Below w.heap.size w w' → S w' → HeldF B fs (gs.map some) w' → wpAnyLast P md ops Q S ds fuel l' (fillF fs (gs.map some) a) w') : NodeF P md ops Q S ds B fs fuel l a w := by
  simp only [endF, Bool.and_eq_true, decide_eq_true_eq, beq_iff_eq] at hc
  obtain ⟨⟨⟨⟨c1, c2⟩, c3⟩, c4⟩, c5⟩ := hc
  intro hf
  suffices H : ∀ n (gs : List (Option Nat)) w', openN gs = n → gs.length = fs.length → Below w.heap.size w w' → S w' → B ≤ w'.heap.size → HeldF B fs gs w' → wpAnyLast P md ops Q S ds (fuel + openN gs) (layF (fs.map Fr.i) (flags gs) l) (fillF fs gs a) w' from fun gs w' h1 h2 h3 h4 h5 => H _ gs w' rfl h1 h2 h3 h4 h5
  intro n
  induction n with
  | zero =>
    intro gs w' hn hl hb hS hB hH
    have hall : ∀ g ∈ gs, g.isNone = false := by
      intro g hg
      have := List.countP_eq_zero.1 hn g hg
      exact Bool.eq_false_iff.mpr this
    obtain ⟨ns, rfl⟩ : ∃ ns : List Nat, gs = ns.map some := ⟨gs.map (·.getD 0), by
      rw [List.map_map]
      refine (List.map_id gs).symm.trans (List.map_congr_left fun g hg => ?_)
      cases g with
      | none => have := hall _ hg; simp at this
      | some x => rfl⟩
    have hfl : flags (ns.map some) = (fs.map Fr.i).map fun _ => true := by
      simp only [flags, List.map_map]
      refine List.ext_getElem (by simpa using hl) (fun i h1 h2 => by simp)
    rw [hn, hfl, c5]
    exact h ns w' (by simpa using hl) hb hS hH
  | succ n ih =>
    intro gs w' hn hl hb hS hB hH
    have hp := List.all_eq_true.1 c1 (flags gs) (by have := mem_pats (flags gs); rwa [flags_length, hl, ← List.length_map (f := Fr.i)] at this)
    have hno : ((flags gs).all id) = false := by
      rw [Bool.eq_false_iff]
      intro hz
      have : openN gs = 0 := List.countP_eq_zero.2 (fun g hg => by
        have := List.all_eq_true.1 hz g.isSome (List.mem_map.2 ⟨g, hg, rfl⟩)
        cases g <;> simp_all)
      omega
    simp only [hno, Bool.and_eq_true, Bool.false_and, Bool.false_or] at hp
    rw [hn, show fuel + (n + 1) = (fuel + n) + 1 by omega]
    refine ⟨fun h0 => by rw [h0] at hp; simp at hp, fun j hj => ?_⟩
    refine free_comes hf c2 c3 c4 hSa c1 hl hS hB hH (by rw [hno]; rfl) hj (by simp) (fun gs' w'' l1 l2 l3 l4 l5 l6 => ?_)
    have := ih gs' w'' (by omega) l1 (below_step hb l3) l4 l5 l6
    rwa [show openN gs' = n by omega] at this
theorem frees_ (fs : List Fr) (fuel : Nat) {l : Array Bool} {a : Act} {w : World} (hf : ∀ f ∈ fs, FrOk P ops f a) (hS : S w) (h : NodeF P md ops Q S ds w.heap.size fs fuel l a w) : wpAnyLast P md ops Q S ds (fuel + fs.length) l a w := by
  have h1 := h hf (fs.map fun _ => none) w (by simp) (Below.refl _ _) hS (Nat.le_refl _) ⟨fun j f g _ hg => by simp at hg, fun j k g hg => by simp at hg⟩
  have e1 : ∀ (is : List Nat) (l : Array Bool), layF is (flags (fs.map fun _ => none)) l = l := by
    intro is l
    clear h1 h hf
    induction fs generalizing is with
    | nil => cases is <;> rfl
    | cons f fs ih => cases is with
      | nil => rfl
      | cons i is => exact ih is
  have e2 : ∀ (fs : List Fr) (a : Act), fillF fs (fs.map fun _ => none) a = a := by
    intro fs
    induction fs with
    | nil => intro a; rfl
    | cons f fs ih => intro a; exact ih a
  have e3 : openN (fs.map fun _ => none) = fs.length := by
    simp [openN, List.countP_map]
  rw [e1, e2, e3] at h1
  exact h1
end
section
variable {P : Program} {ops : Array Oper} {Q : Exit → Act → World → Prop} {md : Region.Mode} {S : World → Prop} {ds : List Nat} {B : Nat} {fs : List Fr}
theorem joinF_ {σ : Type} {fuel : Nat} {l : Array Bool} {a : Act} {w : World} (fuel' : Nat) (l' : Array Bool) (ns : σ → List (Tmp × Value)) (F : σ → World → Prop)
    (hcont : ∀ s w', F s w' → NodeF P md ops Q S ds B fs fuel' l' (putAll a (ns s)) w')
    (h : (∀ s w', F s w' → NodeF P md ops Q S ds B fs fuel' l' (putAll a (ns s)) w') → NodeF P md ops Q S ds B fs fuel l a w) : NodeF P md ops Q S ds B fs fuel l a w := h hcont
theorem normF_ {fuel : Nat} {l : Array Bool} {a a' : Act} {w : World} (ha : a = a') (h : NodeF P md ops Q S ds B fs fuel l a' w) : NodeF P md ops Q S ds B fs fuel l a w := by
  subst ha
  exact h
end
section
variable {md : Region.Mode} {ops : Array Oper} {ds is : List Nat} {l l' : Array Bool} {T : Bool × List (List Nat × List Nat)}
def apartT (T : Bool × List (List Nat × List Nat)) (is js : List Nat) : Bool := is.all fun i => js.all fun j => i == j || (match T.2[i]?, T.2[j]? with
  | some r, some q => !r.2.contains j && !q.1.contains i
  | _, _ => false)
theorem apartF_of (hT : rtab md ops = T) {is js : List Nat} (h : apartT T is js = true) : apartF ops is js = true := by
  subst hT
  refine List.all_eq_true.2 fun i hi => List.all_eq_true.2 fun j hj => ?_
  have h1 := List.all_eq_true.1 (List.all_eq_true.1 h i hi) j hj
  by_cases hij : i = j
  · simp [hij]
  simp only [Bool.or_eq_true, beq_iff_eq, hij, false_or] at h1 ⊢
  cases ho : ops[i]? with
  | none => rw [rtab_none ho] at h1; simp at h1
  | some x =>
    cases hp : ops[j]? with
    | none => rw [rtab_some ho, rtab_none hp] at h1; simp at h1
    | some y =>
      rw [rtab_some ho, rtab_some hp] at h1
      simp only [Bool.and_eq_true, Bool.not_eq_true'] at h1 ⊢
      obtain ⟨h2, h3⟩ := h1
      · have hj' : j < ops.size := (Array.getElem?_eq_some_iff.1 hp).1
        simp only [clashOf, List.contains_eq_mem, decide_eq_false_iff_not, List.mem_filter, List.mem_range, hj', true_and, hp] at h2
        simp only [List.contains_eq_mem, decide_eq_false_iff_not] at h3
        have h4 : y.after.any (fun e => Region.binds md e && e.on == i) = false := by
          rw [needs_any y (fun k => k == i), List.any_eq_false]
          intro k hk hki
          simp only [beq_iff_eq] at hki
          exact h3 (hki ▸ hk)
        rw [h4] at h2
        have hij' : (j == i) = false := by simpa using fun e => hij e.symm
        rw [hij'] at h2
        simpa using h2
def nextT (T : Bool × List (List Nat × List Nat)) (is : List Nat) (c : Option Nat) (l : Array Bool) : Bool := (pats is.length).all fun bs =>
  let m := layF is bs l
  let r := readyT T.2 m.toList
  (bs.all id && c.isNone) || !r.isEmpty && r.all fun j => c == some j || (List.range is.length).any fun k => is.getD k 0 == j && bs.getD k true == false && m.setIfInBounds j true == layF is (bs.set k true) l
theorem nextF_of (hT : rtab md ops = T) {c : Option Nat} (h : nextT T is c l = true) : nextF md ops is c l = true := by
  subst hT
  unfold nextT at h
  unfold nextF
  simp only [ready_eq]
  exact h
def coreT (T : Bool × List (List Nat × List Nat)) (ds is : List Nat) (l l' : Array Bool) (c : Nat) : Bool :=
  nextT T is (some c) l && (pats is.length).all (fun bs => (layF is bs l).setIfInBounds c true == layF is bs l') && apartT T is is && apartT T is [c] && T.1 && decide is.Nodup && is.all (fun i => !ds.contains i) && !is.contains c && !ds.contains c
theorem coreF_of (hT : rtab md ops = T) {c : Nat} (h : coreT T ds is l l' c = true) : coreF md ops ds is l l' c = true := by
  unfold coreT at h
  unfold coreF
  simp only [Bool.and_eq_true] at h ⊢
  obtain ⟨⟨⟨⟨⟨⟨⟨⟨c1, c2⟩, c3⟩, c4⟩, c5⟩, c6⟩, c7⟩, c8⟩, c9⟩ := h
  refine ⟨⟨⟨⟨⟨⟨⟨⟨nextF_of hT c1, c2⟩, apartF_of hT c3⟩, apartF_of hT c4⟩, ?_⟩, c6⟩, c7⟩, c8⟩, c9⟩
  subst hT
  exact c5
def pureT (T : Bool × List (List Nat × List Nat)) (is : List Nat) (l l' : Array Bool) (i : Nat) : Bool :=
  (pats is.length).all (fun bs => anyT T (layF is bs l).toList (layF is bs l').toList i) && apartT T is [i] && !is.contains i
theorem pureF_of (hT : rtab md ops = T) {i : Nat} (h : pureT T is l l' i = true) : pureF md ops is l l' i = true := by
  unfold pureT at h
  unfold pureF
  simp only [Bool.and_eq_true] at h ⊢
  exact ⟨⟨List.all_eq_true.2 fun bs hbs => any_of hT (List.all_eq_true.1 h.1.1 bs hbs), apartF_of hT h.1.2⟩, h.2⟩
def endT (T : Bool × List (List Nat × List Nat)) (ds is : List Nat) (l l' : Array Bool) : Bool :=
  nextT T is none l && apartT T is is && decide is.Nodup && is.all (fun i => !ds.contains i) && layF is (is.map fun _ => true) l == l'
theorem endF_of (hT : rtab md ops = T) (h : endT T ds is l l' = true) : endF md ops ds is l l' = true := by
  unfold endT at h
  unfold endF
  simp only [Bool.and_eq_true] at h ⊢
  exact ⟨⟨⟨⟨nextF_of hT h.1.1.1.1, apartF_of hT h.1.1.1.2⟩, h.1.1.2⟩, h.1.2⟩, h.2⟩
end
theorem cellA {w : World} {p : Addr} {v : Value} (h : w.cell? p = some v) (o : Obj) : (w.alloc o).cell? p = some v := by
  rw [← h]
  refine World.cell?_of_block (Below.heap_alloc w o p.block ?_)
  unfold World.cell? at h
  rcases Nat.lt_or_ge p.block w.heap.size with h' | h'
  · exact h'
  · rw [Array.getElem?_eq_none h'] at h; cases h
theorem len2 {gs : List Nat} (h : gs.length = 2) : ∃ a b, gs = [a, b] := by
  match gs, h with
  | [a, b], _ => exact ⟨a, b, rfl⟩
theorem frok_ {P : Program} {ops : Array Oper} {i : Nat} {N : Tmp} {cs : Array Value} {t : TypeId} {a : Act} {o : Oper} (ho : ops[i]? = some o) (hN : o.dst = some N) (hs : ∀ cs b, o.op ≠ .select cs b) (hg : o.guard = none)
    (hr : ∀ w, (execOp a.eval o).run P w = .ok (.value (.pointer (some ⟨w.heap.size, 0, none⟩))) (w.alloc (.cells cs t (0, 0)))) : FrOk P ops ⟨i, N, .cells cs t (0, 0), fun g => .pointer (some ⟨g, 0, none⟩)⟩ a :=
  ⟨o, ho, hN, hs, by unfold Region.wanted; rw [hg], hr⟩
theorem HeldF.at {B : Nat} {fs : List Fr} {gs : List Nat} {w : World} (h : HeldF B fs (gs.map some) w) (j : Nat) {f : Fr} {g : Nat} (hf : fs[j]? = some f) (hg : gs[j]? = some g) : w.heap[g]? = some f.obj ∧ B ≤ g := h.1 j f g hf (by rw [List.getElem?_map, hg]; rfl)
theorem HeldF.ne {B : Nat} {fs : List Fr} {gs : List Nat} {w : World} (h : HeldF B fs (gs.map some) w) (j k : Nat) {g g' : Nat} (hg : gs[j]? = some g) (hg' : gs[k]? = some g') (hjk : j ≠ k) : g ≠ g' := fun e => by
  subst e
  exact hjk (h.2 j k g (by rw [List.getElem?_map, hg]; rfl) (by rw [List.getElem?_map, hg']; rfl))
theorem uPF {α : Type} {a b : α} (u : a = b := by first | (simp only [fillF, List.map_cons, List.map_nil, putAll, Act.put, List.setIfInBounds_toArray, List.set_cons_zero, List.set_cons_succ]; done) | (simp only [fillF, List.map_cons, List.map_nil, putAll, Act.put, List.setIfInBounds_toArray, List.set_cons_zero, List.set_cons_succ]; rfl) | rfl) : a = b := u
end Go.Proofs.Ytnaphgnkhhapoab.F
end
section
namespace Go.Proofs.Ytnaphgnkhhapoab.F
open Go.RowKit Go.Proofs.YtnaphgnkhhapoabW.PrintWords Go.Proofs.YtnaphgnkhhapoabW.PrintLast Go.Proofs.YtnaphgnkhhapoabW.PrintMore
attribute [local go_sem] max2_int min2_int max_two min_two max_three min_three max_four min_four
set_option linter.unusedVariables false
set_option linter.unusedSimpArgs false
def fixenc_Unpack.j0 : Nat → List Int → Int → List Int → Bool → Option (Int × Int × Int)
 | 0, _, _, _, _ => none
 | k + 1, x0, x1, x2, x28 => if x28 = true then (some (0, 0, 1)) else ((fixenc_Decode.f k x0 x2).bind fun bt468 => (if bt468.2.2 = 0 then ((modint_Of.f k 1).bind fun bt474 => ((fixenc_times2.f k bt474.1 bt474.2 x1).bind fun bt478 => ((modint_Floor.f k bt468.1 bt468.2.1 bt478.1 bt478.2).bind fun bt482 => ((modint_Small.f k bt482.1 bt482.2.1).bind fun bt493 => (if bt493.2 = true then ((modint_Small.f k bt482.2.2.1 bt482.2.2.2.1).bind fun bt495 => (some (bt493.1, bt495.1, 0))) else (some (0, 0, 12))))))) else (some (0, 0, bt468.2.2))))
def fixenc_Unpack.f (k : Nat) (l0 : List Int) (a1 : Int) (l2 : List Int) : Option (Int × Int × Int) := (fixenc_modulus_may.f k l0).bind fun t467 => (if t467 = true then (if a1 < 1 then (fixenc_Unpack.j0 k l0 a1 l2 true) else (fixenc_Unpack.j0 k l0 a1 l2 (decide (a1 > 62)))) else (fixenc_Unpack.j0 k l0 a1 l2 true))
def fixenc_Unpack.T6 : Bool × List (List Nat × List Nat) := (true, [([], []), ([], []), ([], []), ([1, 2, 1], [1, 2]), ([0, 3, 3], [0, 3]), ([4], [4]), ([5], [5]), ([5], [5]), ([5], [5]), ([], []), ([], []), ([9, 6, 4, 0, 1, 2, 3, 4, 5, 6, 9, 10], [6, 9]), ([10, 7, 11, 0, 1, 2, 3, 4, 5, 6, 7, 9, 10, 11], [7, 10]), ([8, 12, 0, 1, 2, 3, 4, 5, 6, 7, 8, 9, 10, 11, 12], [8])])
def fixenc_Unpack.B6 : List Nat := [0, 0, 0, 6, 15, 31, 63, 63, 63, 0, 0, 1663, 3839, 8191]
theorem fixenc_Unpack.tab6 : rtab .any (opsOf Try.f7 6) = fixenc_Unpack.T6 := by kernel_rfl
theorem fixenc_Unpack.bits6 : waitsOk fixenc_Unpack.T6.2 fixenc_Unpack.B6 = true := by kernel_rfl
theorem fixenc_Unpack.calls (k : Nat) (A0 : Option Addr) (c0 : Nat) (l0 : List Int) (a1 : Int) (A2 : Option Addr) (c2 : Nat) (l2 : List Int) (r1 : Int) (r2 : Int) (r3 : Int) (w : World) (hr0 : Kd.C (Kd.int .u64) w A0 l0.length l0) (hc0 : l0.length ≤ c0) (hr2 : Kd.C (Kd.int .u64) w A2 l2.length l2) (hc2 : l2.length ≤ c2) (h : fixenc_Unpack.f k l0 a1 l2 = some (r1, r2, r3)) :
  Calls Try.prog 7 #[.slice A0 l0.length c0, .int .i64 a1, .slice A2 l2.length c2] w fun e w' => e = .returned (.tuple #[.int .i64 r1, .int .i64 r2, .int .i64 r3]) ∧ Below w.heap.size w w' := by
 have hu44 := Try.underlying44
 have HR0 := Aside0.mk hr0; have HC0 := Aside0.mk hc0; clear hr0 hc0; have HR2 := Aside0.mk hr2; have HC2 := Aside0.mk hc2; clear hr2 hc2
 have HB := Aside0.mk (Below.refl w.heap.size w)
 have H : ((fixenc_modulus_may.f k l0).bind fun t467 => (if t467 = true then (if a1 < 1 then (fixenc_Unpack.j0 k l0 a1 l2 true) else (fixenc_Unpack.j0 k l0 a1 l2 (decide (a1 > 62)))) else (fixenc_Unpack.j0 k l0 a1 l2 true))) = some (r1, r2, r3) := h
 clear h; have HC4 := Aside0.mk H; clear H
 go_enter Try.func7, Try.ntmps7
 go_upto_region 1 with (fail)
 go_cut [28] (fun v28 wc => ∃ (kq : Nat) (x28_3 : Bool), v28 = .bool x28_3 ∧ Aside0 (fixenc_Unpack.j0 kq l0 a1 l2 x28_3 = some (r1, r2, r3)) ∧ Aside0 (kq ≤ k) ∧ Aside0 (Below w.heap.size w wc))
 case first =>
  have H := HC4.out
  clear HC4
  replace ⟨t467, A5, H⟩ := ub H
  by_cases c6 : t467 = true
  ·
   subst c6
   rw [if_pos rfl] at H
   by_cases c7 : a1 < 1
   ·
    rw [if_pos c7] at H
    have c7b0 := decide_eq_true c7
    clear c7
    (first | rw [c7b0] | (simp only [i64_w, i32_w]; rw [c7b0]) | skip)
    have H' := Aside0.mk H
    clear H
    go_wp2_with (first | ((with_reducible refine ug 14 rfl ?_); refine uh (some 19) rfl Try.func14 #[.slice A0 l0.length c0] ?_; (with_reducible refine (fixenc_modulus_may.calls k _ _ l0 true _ (uC (Kd.C_below HR0.out HB.out)) HC0.out A5.out).mono ?_); rintro e w8 ⟨rfl, hb⟩; refine ⟨_, rfl, ?_⟩; replace HB := uy hb; (try clear hb)))
    go_meet
    case rel => exact ⟨_, (true), uG, H', ⟨uW⟩, ⟨uB⟩⟩
   rw [if_neg c7] at H
   have c7b0 := decide_eq_false c7
   clear c7
   (first | rw [c7b0] | (simp only [i64_w, i32_w]; rw [c7b0]) | skip)
   have H' := Aside0.mk H
   clear H
   go_wp2_with (first | ((with_reducible refine ug 14 rfl ?_); refine uh (some 19) rfl Try.func14 #[.slice A0 l0.length c0] ?_; (with_reducible refine (fixenc_modulus_may.calls k _ _ l0 true _ (uC (Kd.C_below HR0.out HB.out)) HC0.out A5.out).mono ?_); rintro e w9 ⟨rfl, hb⟩; refine ⟨_, rfl, ?_⟩; replace HB := uy hb; (try clear hb)))
   go_meet
   case rel => exact ⟨_, (decide (a1 > 62)), uG, H', ⟨uW⟩, ⟨uB⟩⟩
  replace c6 := Bool.eq_false_iff.mpr c6
  subst c6
  rw [if_neg (show ¬ (false = true) by decide)] at H
  have H' := Aside0.mk H
  clear H
  go_wp2_with (first | ((with_reducible refine ug 14 rfl ?_); refine uh (some 19) rfl Try.func14 #[.slice A0 l0.length c0] ?_; (with_reducible refine (fixenc_modulus_may.calls k _ _ l0 false _ (uC (Kd.C_below HR0.out HB.out)) HC0.out A5.out).mono ?_); rintro e w10 ⟨rfl, hb⟩; refine ⟨_, rfl, ?_⟩; replace HB := uy hb; (try clear hb)))
  go_meet
  case rel => exact ⟨_, (true), uG, H', ⟨uW⟩, ⟨uB⟩⟩
 case rest =>
  clear HC4
  obtain ⟨kq, x28_3, rfl, HA, HJ3, HB⟩ := hcut
  cases kq with
  | zero => exact absurd HA.out (by simp [fixenc_Unpack.j0])
  | succ kj3 =>
   have H := HA.out
   clear HA
   simp only [fixenc_Unpack.j0] at H
   by_cases c11 : x28_3 = true
   ·
    subst c11
    rw [if_pos rfl] at H
    simp only [Option.some.injEq, Prod.mk.injEq] at H
    obtain ⟨rfl, rfl, rfl⟩ := H
    go_wp2
    go_ret3
    exact ⟨uF, uB⟩
   replace c11 := Bool.eq_false_iff.mpr c11
   subst c11
   rw [if_neg (show ¬ (false = true) by decide)] at H
   replace ⟨⟨t468, t469, t472⟩, A12, H⟩ := ub H
   (try dsimp only at H)
   by_cases c13 : t472 = 0
   ·
    rw [if_pos c13] at H
    have c13b0 := beq_iff_eq.mpr c13
    have c13b1 := bne_eq_false_iff_eq.mpr c13
    clear c13
    replace ⟨⟨t474, t475⟩, A14, H⟩ := ub H
    (try dsimp only at H)
    replace ⟨⟨t478, t479⟩, A15, H⟩ := ub H
    (try dsimp only at H)
    replace ⟨⟨t482, t483, t486, t487, t490⟩, A16, H⟩ := ub H
    (try dsimp only at H)
    replace ⟨⟨t493, t494⟩, A17, H⟩ := ub H
    (try dsimp only at H)
    have HS_ := Aside0.mk H; clear H
    try go_wp2_with (first | ((with_reducible refine ug 15 rfl ?_); refine uh (some 32) rfl Try.func15 #[.slice A0 l0.length c0, .slice A2 l2.length c2] ?_; (with_reducible refine (fixenc_Decode.calls kj3 _ _ l0 _ _ l2 t468 t469 t472 _ (uC (Kd.C_below HR0.out HB.out)) HC0.out (uC (Kd.C_below HR2.out HB.out)) HC2.out A12.out).mono ?_); rintro e w20 ⟨v470, rfl, ho0, hb⟩; refine ⟨_, rfl, ?_⟩; have HO471 := ulo ho0; replace HB := uy hb; (try clear hb ho0)) | ((with_reducible refine gate_dst (N := 9) rfl ?_); refine ubx 9 #[.bool false, .slice none 0 0] 44 rfl rfl ?_; intro gb473 hg w21 hbox hb; replace HO471 := urb HO471 hb; have BK473 := Aside0.mk (hbox); have GW473 := us hg; have GE473 := us hg; replace HB := uy hb; clear hb hbox hg; obtain ⟨hcz22_0, hcz22_1, hfz22_0, hfz22_1⟩ := uz2 w21 BK473; obtain ⟨Ao23, co23, eo23⟩ := Kd.R_slice HO471.out; subst eo23))
    have n0_ : Aside0 (Kd.R (Kd.int .u64) 42 ((w21.setCell ⟨gb473, 0, none⟩ (.bool t468)).setCell ⟨gb473, 1, none⟩ (.slice Ao23 t469.length co23)) w.heap.size (fun _ => True) (.slice Ao23 t469.length co23) t469) := ⟨by exact uR (Kd.R_mono (Kd.R_far (p := ⟨gb473, 1, none⟩) (Kd.R_far (p := ⟨gb473, 0, none⟩) (Kd.R_types HO471.out BK473.out (by decide)) (fun _ hk => hk.2) (.bool t468)) (fun _ hk => hk.2) (.slice Ao23 t469.length co23)) (fun _ hk => trivial))⟩
    have n1_ : Aside0 (((w21.setCell ⟨gb473, 0, none⟩ (.bool t468)).setCell ⟨gb473, 1, none⟩ (.slice Ao23 t469.length co23)).heap[gb473]? = some (.cells #[.bool t468, .slice Ao23 t469.length co23] 44 (0, 0))) := ⟨by refine blk_put (cs := #[.bool t468, .slice none 0 0]) ?_ 1 _ rfl; refine blk_put (cs := #[.bool false, .slice none 0 0]) ?_ 0 _ rfl; exact uK BK473.out⟩
    have n2_ : Aside0 (Below w.heap.size w ((w21.setCell ⟨gb473, 0, none⟩ (.bool t468)).setCell ⟨gb473, 1, none⟩ (.slice Ao23 t469.length co23))) := ⟨uB⟩
    (try clear HO471); (try clear BK473); (try clear HB)
    generalize ((w21.setCell ⟨gb473, 0, none⟩ (.bool t468)).setCell ⟨gb473, 1, none⟩ (.slice Ao23 t469.length co23)) = w24 at n0_ n1_ n2_ ⊢
    have HO471 := n0_; have BK473 := n1_; have HB := n2_; clear n0_ n1_ n2_; replace HO471 := Aside0.mk (Kd.R_drew HO471.out); replace BK473 := Aside0.mk (blk_drew BK473.out); replace HB := Aside0.mk (below_drew1 HB.out)
    refine start_ (n := 14) (S := fun w' => w'.cell? ⟨gb473, 0, none⟩ = some (.bool t468) ∧ w'.cell? ⟨gb473, 1, none⟩ = some (.slice Ao23 t469.length co23)) (ds := []) (.replicate 14 false) (by kernel_rfl) rfl rfl ⟨(blk_cell BK473.out 0).trans rfl, (blk_cell BK473.out 1).trans rfl⟩ (fun hHeld => ?_); refine with_tabW fixenc_Unpack.tab6 fixenc_Unpack.bits6 (fun HT_ HW_ => ?_)
    generalize w24.drew = w25 at HO471 BK473 HB hHeld ⊢
    refine upu 2 (some 41) (uA 14 4) rfl rfl HT_ ?_
    refine take_ (i := 0) (N := some 39) (v := ?_) (a' := ?_) (uA 14 5) rfl rfl (take_ofW HT_.out HW_.out (by kernel_rfl)) (fun _ _ _ h => h) (Or.inl ⟨by rfl, ?_⟩) hHeld ?_ ?_
    rotate_left
    ·
     rintro w' ⟨s0, s1⟩
     go_simp
     with_reducible rfl
    rotate_left
    · exact uQ
    refine join_ (σ := Value × Value × Value × Value × Nat × Nat) 3 (uA 14 2047) (fun s_ => [(40, .agg #[.bool t474, s_.1]), (42, .agg #[.bool t478, s_.2.1]), (43, .tuple #[.agg #[.bool t482, s_.2.2.1], .agg #[.bool t486, s_.2.2.2.1], .int .i64 t490]), (11, .pointer (some ⟨s_.2.2.2.2.1, 0, none⟩)), (12, .pointer (some ⟨s_.2.2.2.2.2, 0, none⟩)), (38, .tuple #[.agg #[.bool t482, s_.2.2.1], .agg #[.bool t486, s_.2.2.2.1], .int .i64 t490]), (44, .agg #[.bool t482, s_.2.2.1]), (45, .agg #[.bool t486, s_.2.2.2.1]), (46, .int .i64 t490)]) (fun s_ w' => (w'.cell? ⟨gb473, 0, none⟩ = some (.bool t468) ∧ w'.cell? ⟨gb473, 1, none⟩ = some (.slice Ao23 t469.length co23)) ∧ (Kd.R (Kd.int .u64) 42 w' w.heap.size (fun k_ => some k_ ≠ (s_.1 : Value).ownBlock ∧ some k_ ≠ (s_.2.1 : Value).ownBlock ∧ some k_ ≠ (s_.2.2.1 : Value).ownBlock ∧ some k_ ≠ (s_.2.2.2.1 : Value).ownBlock) (.slice Ao23 t469.length co23) t469) ∧ (Kd.R (Kd.int .u64) 42 w' w.heap.size (fun k_ => some k_ ≠ (.slice Ao23 t469.length co23 : Value).ownBlock ∧ some k_ ≠ (s_.2.1 : Value).ownBlock ∧ some k_ ≠ (s_.2.2.1 : Value).ownBlock ∧ some k_ ≠ (s_.2.2.2.1 : Value).ownBlock) s_.1 t475) ∧ (Kd.R (Kd.int .u64) 42 w' w.heap.size (fun k_ => some k_ ≠ (.slice Ao23 t469.length co23 : Value).ownBlock ∧ some k_ ≠ (s_.1 : Value).ownBlock ∧ some k_ ≠ (s_.2.2.1 : Value).ownBlock ∧ some k_ ≠ (s_.2.2.2.1 : Value).ownBlock) s_.2.1 t479) ∧ (Kd.R (Kd.int .u64) 42 w' w.heap.size (fun k_ => some k_ ≠ (.slice Ao23 t469.length co23 : Value).ownBlock ∧ some k_ ≠ (s_.1 : Value).ownBlock ∧ some k_ ≠ (s_.2.1 : Value).ownBlock ∧ some k_ ≠ (s_.2.2.2.1 : Value).ownBlock) s_.2.2.1 t483) ∧ (Kd.R (Kd.int .u64) 42 w' w.heap.size (fun k_ => some k_ ≠ (.slice Ao23 t469.length co23 : Value).ownBlock ∧ some k_ ≠ (s_.1 : Value).ownBlock ∧ some k_ ≠ (s_.2.1 : Value).ownBlock ∧ some k_ ≠ (s_.2.2.1 : Value).ownBlock) s_.2.2.2.1 t487) ∧ (w'.heap[gb473]? = some (.cells #[.bool t468, .slice Ao23 t469.length co23] 44 (0, 0))) ∧ (w'.heap[s_.2.2.2.2.1]? = some (.cells #[.bool false, .slice none 0 0] 44 (0, 0))) ∧ (w'.heap[s_.2.2.2.2.2]? = some (.cells #[.bool false, .slice none 0 0] 44 (0, 0))) ∧ (w.heap.size ≤ s_.2.2.2.2.1) ∧ (w.heap.size ≤ s_.2.2.2.2.1) ∧ (gb473 ≠ s_.2.2.2.2.1) ∧ (s_.2.2.2.2.1 ≠ gb473) ∧ (s_.2.2.2.2.2 ≠ s_.2.2.2.2.1) ∧ (s_.2.2.2.2.1 ≠ s_.2.2.2.2.2) ∧ (w.heap.size ≤ s_.2.2.2.2.2) ∧ (w.heap.size ≤ s_.2.2.2.2.2) ∧ (gb473 ≠ s_.2.2.2.2.2) ∧ (s_.2.2.2.2.2 ≠ gb473) ∧ (Below w.heap.size w w')) ?_ ?_
    rotate_left
    ·
     intro hJ1_3_4_9_10
     have HBF_ := Aside0.mk (below_size HB.out)
     have LTgb473 := Aside0.mk (blk_lt BK473.out)
     refine frees_ [⟨9, 11, .cells #[.bool false, .slice none 0 0] 44 (0, 0), fun g_ => .pointer (some ⟨g_, 0, none⟩)⟩, ⟨10, 12, .cells #[.bool false, .slice none 0 0] 44 (0, 0), fun g_ => .pointer (some ⟨g_, 0, none⟩)⟩] 10 ?_ hHeld ?_
     ·
      refine List.forall_mem_cons.2 ⟨frok_ rfl rfl (fun _ _ h_ => by cases h_) rfl ?_, List.forall_mem_cons.2 ⟨frok_ rfl rfl (fun _ _ h_ => by cases h_) rfl ?_, fun _ h_ => by cases h_⟩⟩
      all_goals (intro w_; first | (go_simp; done) | (go_simp; rfl))
     refine joinF_ (σ := Value) 9 (uA 14 7) (fun s_ => [(40, .agg #[.bool t474, s_])]) (fun s_ w' => (w'.cell? ⟨gb473, 0, none⟩ = some (.bool t468) ∧ w'.cell? ⟨gb473, 1, none⟩ = some (.slice Ao23 t469.length co23)) ∧ (Kd.R (Kd.int .u64) 42 w' w.heap.size (fun k_ => some k_ ≠ (s_ : Value).ownBlock) (.slice Ao23 t469.length co23) t469) ∧ (Kd.R (Kd.int .u64) 42 w' w.heap.size (fun k_ => some k_ ≠ (.slice Ao23 t469.length co23 : Value).ownBlock) s_ t475) ∧ (w'.heap[gb473]? = some (.cells #[.bool t468, .slice Ao23 t469.length co23] 44 (0, 0))) ∧ (Below w.heap.size w w')) ?_ ?_
     rotate_left
     ·
      intro hJ1
      refine core_ (c := 1) (N := some 40) (uA 14 7) rfl rfl (coreF_of HT_.out (by kernel_rfl)) (fun _ _ _ _ _ h => h) (fun _ o_ h_ => ⟨cellA h_.1 o_, cellA h_.2 o_⟩) (fun wB_ hBw_ hHeld K hK => ?_)
      (try replace HO471 := Aside0.mk (Kd.R_below HO471.out hBw_))
      (try replace HO477 := Aside0.mk (Kd.R_below HO477.out hBw_))
      (try replace HO481 := Aside0.mk (Kd.R_below HO481.out hBw_))
      (try replace HO485 := Aside0.mk (Kd.R_below HO485.out hBw_))
      (try replace HO489 := Aside0.mk (Kd.R_below HO489.out hBw_))
      (try replace BK473 := Aside0.mk (blk_below BK473.out hBw_))
      (try replace BK491 := Aside0.mk (blk_below BK491.out hBw_))
      (try replace BK492 := Aside0.mk (blk_below BK492.out hBw_))
      (try replace HB := Aside0.mk (below_step HB.out hBw_))
      refine goes_ Try.func18 (by kernel_rfl) rfl #[.int .i64 1] (by rfl) rfl rfl uM ?_
      with_reducible refine (modint_Of.calls kj3 1 t474 t475 _ A14.out).mono ?_
      rintro e w26 ⟨v476, rfl, ho0, hb⟩
      refine ⟨_, rfl, ?_⟩; have HBK_ := Aside0.mk hb; have HO477 := ulo (unw ho0 HO471); replace HO471 := ueR HO471 ho0 hb; replace BK473 := ux BK473 hb; replace HB := uy hb; (try clear hb ho0); refine hK.out _ _ ⟨(blk_cell BK473.out 0).trans rfl, (blk_cell BK473.out 1).trans rfl⟩ HBK_.out (fun hHeld => ?_); clear hK K HBK_
      refine normF_ (a' := ?_) ?_ ?_
      rotate_left
      · exact (show Act.put _ (some 40) _ = _ from uQ)
      exact normF_ uP (hJ1 (v476) _ ⟨hHeld, (uR (Kd.R_mono HO471.out (fun _ hk => hk.2))), (uR (Kd.R_mono HO477.out (fun _ hk => hk.2))), (uK BK473.out), uB⟩)
     rintro v476 w27 ⟨hS_, h0_, h1_, h2_, h3_⟩
     replace HO471 : Aside0 (Kd.R (Kd.int .u64) 42 w27 w.heap.size (fun k_ => some k_ ≠ (v476 : Value).ownBlock) (.slice Ao23 t469.length co23) t469) := ⟨h0_⟩; have HO477 : Aside0 (Kd.R (Kd.int .u64) 42 w27 w.heap.size (fun k_ => some k_ ≠ (.slice Ao23 t469.length co23 : Value).ownBlock) v476 t475) := ⟨h1_⟩; replace BK473 : Aside0 (w27.heap[gb473]? = some (.cells #[.bool t468, .slice Ao23 t469.length co23] 44 (0, 0))) := ⟨h2_⟩; replace HB : Aside0 (Below w.heap.size w w27) := ⟨h3_⟩; clear h0_ h1_ h2_ h3_
     have hHeld : w27.cell? ⟨gb473, 0, none⟩ = some (.bool t468) ∧ w27.cell? ⟨gb473, 1, none⟩ = some (.slice Ao23 t469.length co23) := hS_
     obtain ⟨Ao28, co28, eo28⟩ := Kd.R_slice HO477.out
     (first | subst eo28 | (injection eo28 with f1_ f2_ f3_; have f4_ := f1_.symm; have f5_ := f3_.symm; clear f1_ f2_ f3_; subst f4_; subst f5_))
     refine normF_ (a' := ?_) ?_ ?_
     rotate_left
     ·
      simp only [putAll, Act.put, List.setIfInBounds_toArray, List.set_cons_zero, List.set_cons_succ]
      rfl
     refine joinF_ (σ := Value × Value) 8 (uA 14 15) (fun s_ => [(40, .agg #[.bool t474, s_.1]), (42, .agg #[.bool t478, s_.2])]) (fun s_ w' => (w'.cell? ⟨gb473, 0, none⟩ = some (.bool t468) ∧ w'.cell? ⟨gb473, 1, none⟩ = some (.slice Ao23 t469.length co23)) ∧ (Kd.R (Kd.int .u64) 42 w' w.heap.size (fun k_ => some k_ ≠ (s_.1 : Value).ownBlock ∧ some k_ ≠ (s_.2 : Value).ownBlock) (.slice Ao23 t469.length co23) t469) ∧ (Kd.R (Kd.int .u64) 42 w' w.heap.size (fun k_ => some k_ ≠ (.slice Ao23 t469.length co23 : Value).ownBlock ∧ some k_ ≠ (s_.2 : Value).ownBlock) s_.1 t475) ∧ (Kd.R (Kd.int .u64) 42 w' w.heap.size (fun k_ => some k_ ≠ (.slice Ao23 t469.length co23 : Value).ownBlock ∧ some k_ ≠ (s_.1 : Value).ownBlock) s_.2 t479) ∧ (w'.heap[gb473]? = some (.cells #[.bool t468, .slice Ao23 t469.length co23] 44 (0, 0))) ∧ (Below w.heap.size w w')) ?_ ?_
     rotate_left
     ·
      intro hJ1_3
      refine core_ (c := 3) (N := some 42) (uA 14 15) rfl rfl (coreF_of HT_.out (by kernel_rfl)) (fun _ _ _ _ _ h => h) (fun _ o_ h_ => ⟨cellA h_.1 o_, cellA h_.2 o_⟩) (fun wB_ hBw_ hHeld K hK => ?_)
      (try replace HO471 := Aside0.mk (Kd.R_below HO471.out hBw_))
      (try replace HO477 := Aside0.mk (Kd.R_below HO477.out hBw_))
      (try replace HO481 := Aside0.mk (Kd.R_below HO481.out hBw_))
      (try replace HO485 := Aside0.mk (Kd.R_below HO485.out hBw_))
      (try replace HO489 := Aside0.mk (Kd.R_below HO489.out hBw_))
      (try replace BK473 := Aside0.mk (blk_below BK473.out hBw_))
      (try replace BK491 := Aside0.mk (blk_below BK491.out hBw_))
      (try replace BK492 := Aside0.mk (blk_below BK492.out hBw_))
      (try replace HB := Aside0.mk (below_step HB.out hBw_))
      refine goes_ Try.func17 (by kernel_rfl) rfl #[.agg #[.bool t474, .slice Ao28 t475.length co28], .int .i64 a1] (by rfl) rfl rfl uM ?_
      with_reducible refine (fixenc_times2.calls kj3 t474 _ _ t475 a1 t478 t479 _ ?side1 ?side2 A15.out).mono ?_
      (case side1 => exact uC (Kd.R_reads' HO477.out).2.2)
      (case side2 => exact (Kd.R_reads' HO477.out).2.1)
      rintro e w29 ⟨v480, rfl, ho0, hb⟩
      refine ⟨_, rfl, ?_⟩; have HBK_ := Aside0.mk hb; have HO481 := ulo (unw (unw ho0 HO471) HO477); replace HO471 := ueR HO471 ho0 hb; replace HO477 := ueR HO477 ho0 hb; replace BK473 := ux BK473 hb; replace HB := uy hb; (try clear hb ho0); refine hK.out _ _ ⟨(blk_cell BK473.out 0).trans rfl, (blk_cell BK473.out 1).trans rfl⟩ HBK_.out (fun hHeld => ?_); clear hK K HBK_
      refine normF_ (a' := ?_) ?_ ?_
      rotate_left
      · exact (show Act.put _ (some 42) _ = _ from uQ)
      exact normF_ uP (hJ1_3 (.slice Ao28 t475.length co28, v480) _ ⟨hHeld, (uR HO471.out), (uR HO477.out), (uR (Kd.R_mono HO481.out (fun _ hk => ⟨hk.1.2, hk.2⟩))), (uK BK473.out), uB⟩)
     rintro ⟨v476, v480⟩ w29 ⟨hS_, h0_, h1_, h2_, h3_, h4_⟩
     replace HO471 : Aside0 (Kd.R (Kd.int .u64) 42 w29 w.heap.size (fun k_ => some k_ ≠ (v476 : Value).ownBlock ∧ some k_ ≠ (v480 : Value).ownBlock) (.slice Ao23 t469.length co23) t469) := ⟨h0_⟩; have HO477 : Aside0 (Kd.R (Kd.int .u64) 42 w29 w.heap.size (fun k_ => some k_ ≠ (.slice Ao23 t469.length co23 : Value).ownBlock ∧ some k_ ≠ (v480 : Value).ownBlock) v476 t475) := ⟨h1_⟩; have HO481 : Aside0 (Kd.R (Kd.int .u64) 42 w29 w.heap.size (fun k_ => some k_ ≠ (.slice Ao23 t469.length co23 : Value).ownBlock ∧ some k_ ≠ (v476 : Value).ownBlock) v480 t479) := ⟨h2_⟩; replace BK473 : Aside0 (w29.heap[gb473]? = some (.cells #[.bool t468, .slice Ao23 t469.length co23] 44 (0, 0))) := ⟨h3_⟩; replace HB : Aside0 (Below w.heap.size w w29) := ⟨h4_⟩; clear h0_ h1_ h2_ h3_ h4_
     have hHeld : w29.cell? ⟨gb473, 0, none⟩ = some (.bool t468) ∧ w29.cell? ⟨gb473, 1, none⟩ = some (.slice Ao23 t469.length co23) := hS_
     obtain ⟨Ao30, co30, eo30⟩ := Kd.R_slice HO481.out
     (first | subst eo30 | (injection eo30 with f1_ f2_ f3_; have f4_ := f1_.symm; have f5_ := f3_.symm; clear f1_ f2_ f3_; subst f4_; subst f5_))
     refine normF_ (a' := ?_) ?_ ?_
     rotate_left
     ·
      simp only [putAll, Act.put, List.setIfInBounds_toArray, List.set_cons_zero, List.set_cons_succ]
      rfl
     refine joinF_ (σ := Value × Value × Value × Value) 3 (uA 14 511) (fun s_ => [(40, .agg #[.bool t474, s_.1]), (42, .agg #[.bool t478, s_.2.1]), (43, .tuple #[.agg #[.bool t482, s_.2.2.1], .agg #[.bool t486, s_.2.2.2], .int .i64 t490]), (38, .tuple #[.agg #[.bool t482, s_.2.2.1], .agg #[.bool t486, s_.2.2.2], .int .i64 t490]), (44, .agg #[.bool t482, s_.2.2.1]), (45, .agg #[.bool t486, s_.2.2.2]), (46, .int .i64 t490)]) (fun s_ w' => (w'.cell? ⟨gb473, 0, none⟩ = some (.bool t468) ∧ w'.cell? ⟨gb473, 1, none⟩ = some (.slice Ao23 t469.length co23)) ∧ (Kd.R (Kd.int .u64) 42 w' w.heap.size (fun k_ => some k_ ≠ (s_.1 : Value).ownBlock ∧ some k_ ≠ (s_.2.1 : Value).ownBlock ∧ some k_ ≠ (s_.2.2.1 : Value).ownBlock ∧ some k_ ≠ (s_.2.2.2 : Value).ownBlock) (.slice Ao23 t469.length co23) t469) ∧ (Kd.R (Kd.int .u64) 42 w' w.heap.size (fun k_ => some k_ ≠ (.slice Ao23 t469.length co23 : Value).ownBlock ∧ some k_ ≠ (s_.2.1 : Value).ownBlock ∧ some k_ ≠ (s_.2.2.1 : Value).ownBlock ∧ some k_ ≠ (s_.2.2.2 : Value).ownBlock) s_.1 t475) ∧ (Kd.R (Kd.int .u64) 42 w' w.heap.size (fun k_ => some k_ ≠ (.slice Ao23 t469.length co23 : Value).ownBlock ∧ some k_ ≠ (s_.1 : Value).ownBlock ∧ some k_ ≠ (s_.2.2.1 : Value).ownBlock ∧ some k_ ≠ (s_.2.2.2 : Value).ownBlock) s_.2.1 t479) ∧ (Kd.R (Kd.int .u64) 42 w' w.heap.size (fun k_ => some k_ ≠ (.slice Ao23 t469.length co23 : Value).ownBlock ∧ some k_ ≠ (s_.1 : Value).ownBlock ∧ some k_ ≠ (s_.2.1 : Value).ownBlock ∧ some k_ ≠ (s_.2.2.2 : Value).ownBlock) s_.2.2.1 t483) ∧ (Kd.R (Kd.int .u64) 42 w' w.heap.size (fun k_ => some k_ ≠ (.slice Ao23 t469.length co23 : Value).ownBlock ∧ some k_ ≠ (s_.1 : Value).ownBlock ∧ some k_ ≠ (s_.2.1 : Value).ownBlock ∧ some k_ ≠ (s_.2.2.1 : Value).ownBlock) s_.2.2.2 t487) ∧ (w'.heap[gb473]? = some (.cells #[.bool t468, .slice Ao23 t469.length co23] 44 (0, 0))) ∧ (Below w.heap.size w w')) ?_ ?_
     rotate_left
     ·
      intro hJ1_3_4
      refine core_ (c := 4) (N := some 43) (uA 14 31) rfl rfl (coreF_of HT_.out (by kernel_rfl)) (fun _ _ _ _ _ h => h) (fun _ o_ h_ => ⟨cellA h_.1 o_, cellA h_.2 o_⟩) (fun wB_ hBw_ hHeld K hK => ?_)
      (try replace HO471 := Aside0.mk (Kd.R_below HO471.out hBw_))
      (try replace HO477 := Aside0.mk (Kd.R_below HO477.out hBw_))
      (try replace HO481 := Aside0.mk (Kd.R_below HO481.out hBw_))
      (try replace HO485 := Aside0.mk (Kd.R_below HO485.out hBw_))
      (try replace HO489 := Aside0.mk (Kd.R_below HO489.out hBw_))
      (try replace BK473 := Aside0.mk (blk_below BK473.out hBw_))
      (try replace BK491 := Aside0.mk (blk_below BK491.out hBw_))
      (try replace BK492 := Aside0.mk (blk_below BK492.out hBw_))
      (try replace HB := Aside0.mk (below_step HB.out hBw_))
      refine goes_ Try.func16 (by kernel_rfl) rfl #[.agg #[.bool t468, .slice Ao23 t469.length co23], .agg #[.bool t478, .slice Ao30 t479.length co30]] (by rfl) rfl rfl uM ?_
      with_reducible refine (modint_Floor.calls kj3 t468 (fun k_ => some k_ = (.slice Ao23 t469.length co23 : Value).ownBlock) _ _ t469 t478 (fun k_ => some k_ = (.slice Ao30 t479.length co30 : Value).ownBlock) _ _ t479 t482 t483 t486 t487 t490 _ ?side1 ?side2 A16.out).mono ?_
      (case side1 => exact Kd.R_V (Kd.R_tight rfl (Kd.R_types (HO471.out) BK473.out (by decide))))
      (case side2 => exact Kd.R_V (Kd.R_tight rfl (Kd.R_types (HO481.out) BK473.out (by decide))))
      rintro e w31 ⟨v484, v488, rfl, ho0, ho1, hb⟩
      refine ⟨_, rfl, ?_⟩; have HBK_ := Aside0.mk hb; have HO485 := ulo (unw (unw (unw (Kd.R_mono (ok' := fun k_ => some k_ ≠ (v488 : Value).ownBlock) ho0 (fun _ hk_ => hk_.2)) HO471) HO477) HO481); have HO489 := ulo (unw (unw (unw (Kd.R_mono (ok' := fun k_ => some k_ ≠ (v484 : Value).ownBlock) ho1 (fun _ hk_ => hk_.2)) HO471) HO477) HO481); replace HO471 := Aside0.mk (Kd.R_mono (Kd.R_told (Kd.R_told (Kd.R_old (uR HO471.out) hb) (Kd.R_base ho0)) (Kd.R_base ho1)) (fun _ h_ => h_.1)); replace HO477 := Aside0.mk (Kd.R_mono (Kd.R_told (Kd.R_told (Kd.R_old (uR HO477.out) hb) (Kd.R_base ho0)) (Kd.R_base ho1)) (fun _ h_ => h_.1)); replace HO481 := Aside0.mk (Kd.R_mono (Kd.R_told (Kd.R_told (Kd.R_old (uR HO481.out) hb) (Kd.R_base ho0)) (Kd.R_base ho1)) (fun _ h_ => h_.1)); replace BK473 := ux BK473 hb; replace HB := uy hb; (try clear hb ho0 ho1); refine hK.out _ _ ⟨(blk_cell BK473.out 0).trans rfl, (blk_cell BK473.out 1).trans rfl⟩ HBK_.out (fun hHeld => ?_); clear hK K HBK_
      refine normF_ (a' := ?_) ?_ ?_
      rotate_left
      · exact (show Act.put _ (some 43) _ = _ from uQ)
      refine pureF_ (i := 5) (N := some 38) (v := ?_) (a' := ?_) (uA 14 63) rfl rfl (pureF_of HT_.out (by kernel_rfl)) (fun _ _ _ h => h) (Or.inl ⟨by rfl, ?_⟩) ?_ ?_
      rotate_left
      ·
       intro w'
       go_simp
       with_reducible rfl
      rotate_left
      · exact uQ
      refine pureF_ (i := 6) (N := some 44) (v := ?_) (a' := ?_) (uA 14 127) rfl rfl (pureF_of HT_.out (by kernel_rfl)) (fun _ _ _ h => h) (Or.inl ⟨by rfl, ?_⟩) ?_ ?_
      rotate_left
      ·
       intro w'
       go_simp
       with_reducible rfl
      rotate_left
      · exact uQ
      refine pureF_ (i := 7) (N := some 45) (v := ?_) (a' := ?_) (uA 14 255) rfl rfl (pureF_of HT_.out (by kernel_rfl)) (fun _ _ _ h => h) (Or.inl ⟨by rfl, ?_⟩) ?_ ?_
      rotate_left
      ·
       intro w'
       go_simp
       with_reducible rfl
      rotate_left
      · exact uQ
      refine pureF_ (i := 8) (N := some 46) (v := ?_) (a' := ?_) (uA 14 511) rfl rfl (pureF_of HT_.out (by kernel_rfl)) (fun _ _ _ h => h) (Or.inl ⟨by rfl, ?_⟩) ?_ ?_
      rotate_left
      ·
       intro w'
       go_simp
       with_reducible rfl
      rotate_left
      · exact uQ
      exact normF_ uP (hJ1_3_4 (v476, .slice Ao30 t479.length co30, v484, v488) _ ⟨hHeld, (uR (Kd.R_mono HO471.out (fun _ hk => ⟨hk.1.1.1, ⟨hk.1.1.2, ⟨hk.1.2, hk.2⟩⟩⟩))), (uR (Kd.R_mono HO477.out (fun _ hk => ⟨hk.1.1.1, ⟨hk.1.1.2, ⟨hk.1.2, hk.2⟩⟩⟩))), (uR (Kd.R_mono HO481.out (fun _ hk => ⟨hk.1.1.1, ⟨hk.1.1.2, ⟨hk.1.2, hk.2⟩⟩⟩))), (uR (Kd.R_mono HO485.out (fun _ hk => ⟨hk.1.1.2, ⟨hk.1.2, ⟨hk.2, hk.1.1.1⟩⟩⟩))), (uR (Kd.R_mono HO489.out (fun _ hk => ⟨hk.1.1.2, ⟨hk.1.2, ⟨hk.2, hk.1.1.1⟩⟩⟩))), (uK BK473.out), uB⟩)
     rintro ⟨v476, v480, v484, v488⟩ w31 ⟨hS_, h0_, h1_, h2_, h3_, h4_, h5_, h6_⟩
     replace HO471 : Aside0 (Kd.R (Kd.int .u64) 42 w31 w.heap.size (fun k_ => some k_ ≠ (v476 : Value).ownBlock ∧ some k_ ≠ (v480 : Value).ownBlock ∧ some k_ ≠ (v484 : Value).ownBlock ∧ some k_ ≠ (v488 : Value).ownBlock) (.slice Ao23 t469.length co23) t469) := ⟨h0_⟩; have HO477 : Aside0 (Kd.R (Kd.int .u64) 42 w31 w.heap.size (fun k_ => some k_ ≠ (.slice Ao23 t469.length co23 : Value).ownBlock ∧ some k_ ≠ (v480 : Value).ownBlock ∧ some k_ ≠ (v484 : Value).ownBlock ∧ some k_ ≠ (v488 : Value).ownBlock) v476 t475) := ⟨h1_⟩; have HO481 : Aside0 (Kd.R (Kd.int .u64) 42 w31 w.heap.size (fun k_ => some k_ ≠ (.slice Ao23 t469.length co23 : Value).ownBlock ∧ some k_ ≠ (v476 : Value).ownBlock ∧ some k_ ≠ (v484 : Value).ownBlock ∧ some k_ ≠ (v488 : Value).ownBlock) v480 t479) := ⟨h2_⟩; have HO485 : Aside0 (Kd.R (Kd.int .u64) 42 w31 w.heap.size (fun k_ => some k_ ≠ (.slice Ao23 t469.length co23 : Value).ownBlock ∧ some k_ ≠ (v476 : Value).ownBlock ∧ some k_ ≠ (v480 : Value).ownBlock ∧ some k_ ≠ (v488 : Value).ownBlock) v484 t483) := ⟨h3_⟩; have HO489 : Aside0 (Kd.R (Kd.int .u64) 42 w31 w.heap.size (fun k_ => some k_ ≠ (.slice Ao23 t469.length co23 : Value).ownBlock ∧ some k_ ≠ (v476 : Value).ownBlock ∧ some k_ ≠ (v480 : Value).ownBlock ∧ some k_ ≠ (v484 : Value).ownBlock) v488 t487) := ⟨h4_⟩; replace BK473 : Aside0 (w31.heap[gb473]? = some (.cells #[.bool t468, .slice Ao23 t469.length co23] 44 (0, 0))) := ⟨h5_⟩; replace HB : Aside0 (Below w.heap.size w w31) := ⟨h6_⟩; clear h0_ h1_ h2_ h3_ h4_ h5_ h6_
     have hHeld : w31.cell? ⟨gb473, 0, none⟩ = some (.bool t468) ∧ w31.cell? ⟨gb473, 1, none⟩ = some (.slice Ao23 t469.length co23) := hS_
     refine normF_ (a' := ?_) ?_ ?_
     rotate_left
     ·
      simp only [putAll, Act.put, List.setIfInBounds_toArray, List.set_cons_zero, List.set_cons_succ]
      rfl
     refine free_ (uA 14 2047) (endF_of HT_.out (by kernel_rfl)) (fun _ o_ h_ => ⟨cellA h_.1 o_, cellA h_.2 o_⟩) (fun gs_ wF_ hl_ hBw_ hHeld hH_ => ?_)
     obtain ⟨gb491, gb492, rfl⟩ := len2 hl_
     (try replace HO471 := Aside0.mk (Kd.R_below HO471.out hBw_))
     (try replace HO477 := Aside0.mk (Kd.R_below HO477.out hBw_))
     (try replace HO481 := Aside0.mk (Kd.R_below HO481.out hBw_))
     (try replace HO485 := Aside0.mk (Kd.R_below HO485.out hBw_))
     (try replace HO489 := Aside0.mk (Kd.R_below HO489.out hBw_))
     (try replace BK473 := Aside0.mk (blk_below BK473.out hBw_))
     (try replace BK491 := Aside0.mk (blk_below BK491.out hBw_))
     (try replace BK492 := Aside0.mk (blk_below BK492.out hBw_))
     (try replace HB := Aside0.mk (below_step HB.out hBw_))
     have BK491 := Aside0.mk (show wF_.heap[gb491]? = some (.cells #[.bool false, .slice none 0 0] 44 (0, 0)) from (hH_.at 0 rfl rfl).1)
     have GW491 := Aside0.mk (Nat.le_trans HBF_.out (hH_.at 0 rfl rfl).2)
     have GE491 := Aside0.mk (Nat.le_trans HBF_.out (hH_.at 0 rfl rfl).2)
     have NB473_491 := Aside0.mk (Nat.ne_of_lt (Nat.lt_of_lt_of_le LTgb473.out (hH_.at 0 rfl rfl).2))
     have NB491_473 := Aside0.mk (Nat.ne_of_gt (Nat.lt_of_lt_of_le LTgb473.out (hH_.at 0 rfl rfl).2))
     have NB492_491 := Aside0.mk (hH_.ne 1 0 rfl rfl (by decide))
     have NB491_492 := Aside0.mk (hH_.ne 0 1 rfl rfl (by decide))
     have BK492 := Aside0.mk (show wF_.heap[gb492]? = some (.cells #[.bool false, .slice none 0 0] 44 (0, 0)) from (hH_.at 1 rfl rfl).1)
     have GW492 := Aside0.mk (Nat.le_trans HBF_.out (hH_.at 1 rfl rfl).2)
     have GE492 := Aside0.mk (Nat.le_trans HBF_.out (hH_.at 1 rfl rfl).2)
     have NB473_492 := Aside0.mk (Nat.ne_of_lt (Nat.lt_of_lt_of_le LTgb473.out (hH_.at 1 rfl rfl).2))
     have NB492_473 := Aside0.mk (Nat.ne_of_gt (Nat.lt_of_lt_of_le LTgb473.out (hH_.at 1 rfl rfl).2))
     have NB491_492 := Aside0.mk (hH_.ne 0 1 rfl rfl (by decide))
     have NB492_491 := Aside0.mk (hH_.ne 1 0 rfl rfl (by decide))
     exact norm_ uPF (hJ1_3_4_9_10 (v476, v480, v484, v488, gb491, gb492) _ ⟨hHeld, (uR HO471.out), (uR HO477.out), (uR HO481.out), (uR HO485.out), (uR HO489.out), (uK BK473.out), (uK BK491.out), (uK BK492.out), GW491.out, GE491.out, NB473_491.out, NB491_473.out, NB492_491.out, NB491_492.out, GW492.out, GE492.out, NB473_492.out, NB492_473.out, uB⟩)
    rintro ⟨v476, v480, v484, v488, gb491, gb492⟩ w33 ⟨hS_, h0_, h1_, h2_, h3_, h4_, h5_, h6_, h7_, h8_, h9_, h10_, h11_, h12_, h13_, h14_, h15_, h16_, h17_, h18_⟩
    replace HO471 : Aside0 (Kd.R (Kd.int .u64) 42 w33 w.heap.size (fun k_ => some k_ ≠ (v476 : Value).ownBlock ∧ some k_ ≠ (v480 : Value).ownBlock ∧ some k_ ≠ (v484 : Value).ownBlock ∧ some k_ ≠ (v488 : Value).ownBlock) (.slice Ao23 t469.length co23) t469) := ⟨h0_⟩; have HO477 : Aside0 (Kd.R (Kd.int .u64) 42 w33 w.heap.size (fun k_ => some k_ ≠ (.slice Ao23 t469.length co23 : Value).ownBlock ∧ some k_ ≠ (v480 : Value).ownBlock ∧ some k_ ≠ (v484 : Value).ownBlock ∧ some k_ ≠ (v488 : Value).ownBlock) v476 t475) := ⟨h1_⟩; have HO481 : Aside0 (Kd.R (Kd.int .u64) 42 w33 w.heap.size (fun k_ => some k_ ≠ (.slice Ao23 t469.length co23 : Value).ownBlock ∧ some k_ ≠ (v476 : Value).ownBlock ∧ some k_ ≠ (v484 : Value).ownBlock ∧ some k_ ≠ (v488 : Value).ownBlock) v480 t479) := ⟨h2_⟩; have HO485 : Aside0 (Kd.R (Kd.int .u64) 42 w33 w.heap.size (fun k_ => some k_ ≠ (.slice Ao23 t469.length co23 : Value).ownBlock ∧ some k_ ≠ (v476 : Value).ownBlock ∧ some k_ ≠ (v480 : Value).ownBlock ∧ some k_ ≠ (v488 : Value).ownBlock) v484 t483) := ⟨h3_⟩; have HO489 : Aside0 (Kd.R (Kd.int .u64) 42 w33 w.heap.size (fun k_ => some k_ ≠ (.slice Ao23 t469.length co23 : Value).ownBlock ∧ some k_ ≠ (v476 : Value).ownBlock ∧ some k_ ≠ (v480 : Value).ownBlock ∧ some k_ ≠ (v484 : Value).ownBlock) v488 t487) := ⟨h4_⟩; replace BK473 : Aside0 (w33.heap[gb473]? = some (.cells #[.bool t468, .slice Ao23 t469.length co23] 44 (0, 0))) := ⟨h5_⟩; have BK491 : Aside0 (w33.heap[gb491]? = some (.cells #[.bool false, .slice none 0 0] 44 (0, 0))) := ⟨h6_⟩; have BK492 : Aside0 (w33.heap[gb492]? = some (.cells #[.bool false, .slice none 0 0] 44 (0, 0))) := ⟨h7_⟩; have GW491 : Aside0 (w.heap.size ≤ gb491) := ⟨h8_⟩; have GE491 : Aside0 (w.heap.size ≤ gb491) := ⟨h9_⟩; have NB473_491 : Aside0 (gb473 ≠ gb491) := ⟨h10_⟩; have NB491_473 : Aside0 (gb491 ≠ gb473) := ⟨h11_⟩; have NB492_491 : Aside0 (gb492 ≠ gb491) := ⟨h12_⟩; have NB491_492 : Aside0 (gb491 ≠ gb492) := ⟨h13_⟩; have GW492 : Aside0 (w.heap.size ≤ gb492) := ⟨h14_⟩; have GE492 : Aside0 (w.heap.size ≤ gb492) := ⟨h15_⟩; have NB473_492 : Aside0 (gb473 ≠ gb492) := ⟨h16_⟩; have NB492_473 : Aside0 (gb492 ≠ gb473) := ⟨h17_⟩; replace HB : Aside0 (Below w.heap.size w w33) := ⟨h18_⟩; clear h0_ h1_ h2_ h3_ h4_ h5_ h6_ h7_ h8_ h9_ h10_ h11_ h12_ h13_ h14_ h15_ h16_ h17_ h18_
    have hHeld : w33.cell? ⟨gb473, 0, none⟩ = some (.bool t468) ∧ w33.cell? ⟨gb473, 1, none⟩ = some (.slice Ao23 t469.length co23) := hS_
    obtain ⟨Ao35, co35, eo35⟩ := Kd.R_slice HO485.out
    (first | subst eo35 | (injection eo35 with f1_ f2_ f3_; have f4_ := f1_.symm; have f5_ := f3_.symm; clear f1_ f2_ f3_; subst f4_; subst f5_))
    obtain ⟨Ao38, co38, eo38⟩ := Kd.R_slice HO489.out
    (first | subst eo38 | (injection eo38 with f1_ f2_ f3_; have f4_ := f1_.symm; have f5_ := f3_.symm; clear f1_ f2_ f3_; subst f4_; subst f5_))
    refine norm_ (a' := ?_) ?_ ?_; rotate_left
    ·
     simp only [putAll, Act.put, List.setIfInBounds_toArray, List.set_cons_zero, List.set_cons_succ]
     rfl
    refine one_ (i := 11) (N := none) (uA 14 4095) rfl rfl (one_of HT_.out (by kernel_rfl)) (by decide) (fun K hK => ?_)
    have hs34 : w33.cell? ⟨gb491, 0, none⟩ = some (.bool false) := (blk_cell BK491.out 0).trans rfl
    have hfs34 := blk_frozen BK491.out 0
    have hns34_0 := NB473_491.out
    have hns34_2 := NB492_491.out
    have hms34_0 := NB491_473.out
    have hms34_2 := NB491_492.out
    have hs36 : w33.cell? ⟨gb491, 1, none⟩ = some (.slice none 0 0) := (blk_cell BK491.out 1).trans rfl
    have hfs36 := blk_frozen BK491.out 1
    have hns36_0 := NB473_491.out
    have hns36_2 := NB492_491.out
    have hms36_0 := NB491_473.out
    have hms36_2 := NB491_492.out
    refine skip_ (w1 := ?_) (by rfl) rfl ?_ ?_
    rotate_left
    ·
     go_simp
     rfl
    refine hK.out _ _ ⟨((cell_far (p := ⟨gb491, _, none⟩) NB473_491.out _).trans (((cell_far (p := ⟨gb491, _, none⟩) NB473_491.out _).trans (hHeld.1)))), ((cell_far (p := ⟨gb491, _, none⟩) NB473_491.out _).trans (((cell_far (p := ⟨gb491, _, none⟩) NB473_491.out _).trans (hHeld.2))))⟩ (fun hHeld => ?_); clear hK K
    refine one_ (i := 12) (N := none) (uA 14 8191) rfl rfl (one_of HT_.out (by kernel_rfl)) (by decide) (fun K hK => ?_)
    have hs37 : w33.cell? ⟨gb492, 0, none⟩ = some (.bool false) := (blk_cell BK492.out 0).trans rfl
    have hfs37 := blk_frozen BK492.out 0
    have hns37_0 := NB473_492.out
    have hns37_1 := NB491_492.out
    have hms37_0 := NB492_473.out
    have hms37_1 := NB492_491.out
    have hs39 : w33.cell? ⟨gb492, 1, none⟩ = some (.slice none 0 0) := (blk_cell BK492.out 1).trans rfl
    have hfs39 := blk_frozen BK492.out 1
    have hns39_0 := NB473_492.out
    have hns39_1 := NB491_492.out
    have hms39_0 := NB492_473.out
    have hms39_1 := NB492_491.out
    refine skip_ (w1 := ?_) (by rfl) rfl ?_ ?_
    rotate_left
    ·
     go_simp
     rfl
    refine hK.out _ _ ⟨((cell_far (p := ⟨gb492, _, none⟩) NB473_492.out _).trans (((cell_far (p := ⟨gb492, _, none⟩) NB473_492.out _).trans (hHeld.1)))), ((cell_far (p := ⟨gb492, _, none⟩) NB473_492.out _).trans (((cell_far (p := ⟨gb492, _, none⟩) NB473_492.out _).trans (hHeld.2))))⟩ (fun hHeld => ?_); clear hK K
    refine upu 13 (some 13) (uA 14 16383) rfl rfl HT_ ?_
    refine done_ (done_of HT_.out (by kernel_rfl)) ?_
    have H := HS_.out; clear HS_
    by_cases c18 : t494 = true
    ·
     subst c18
     rw [if_pos rfl] at H
     replace ⟨⟨t495, t496⟩, A19, H⟩ := ub H
     (try dsimp only at H)
     simp only [Option.some.injEq, Prod.mk.injEq] at H
     obtain ⟨rfl, rfl, rfl⟩ := H
     have hnb40 := NB491_473.out
     have hnc40 := NB473_491.out
     have hnb41 := NB491_492.out
     have hnc41 := NB492_491.out
     obtain ⟨hcz42_0, hcz42_1, hfz42_0, hfz42_1⟩ := uz2 w33 BK491
     try go_wp2_with (first | ((with_reducible refine ug 19 rfl ?_); refine uh (some 49) rfl Try.func19 #[.agg #[.bool t482, .slice Ao35 t483.length co35]] ?_; (with_reducible refine (modint_Small.calls kj3 t482 _ _ t483 t493 true _ ?side1 ?side2 A17.out).mono ?_); (case side1 => refine (Kd.R_reads' (e := 42) (base := w.heap.size) (ok := fun k_ => (some k_ ≠ (.slice Ao23 t469.length co23 : Value).ownBlock ∧ (some k_ ≠ (v476 : Value).ownBlock ∧ (some k_ ≠ (v480 : Value).ownBlock ∧ some k_ ≠ (.slice Ao38 t487.length co38 : Value).ownBlock)))) (n := t483.length) (c := co35) ?_).2.2; exact (uR ((Kd.R_mono (Kd.R_mono (Kd.R_far (p := ⟨gb492, 1, none⟩) (Kd.R_far (p := ⟨gb492, 0, none⟩) (Kd.R_far (p := ⟨gb491, 1, none⟩) (Kd.R_far (p := ⟨gb491, 0, none⟩) (Kd.R_types (Kd.R_types HO485.out BK491.out (by decide)) BK492.out (by decide)) (fun _ hk => hk.1.2) (.bool t482)) (fun _ hk => hk.1.2) (.slice Ao35 t483.length co35)) (fun _ hk => hk.2) (.bool t486)) (fun _ hk => hk.2) (.slice Ao38 t487.length co38)) (fun _ h_ => h_.1)) (fun _ h_ => h_.1))))); (case side2 => exact (Kd.R_reads' HO485.out).2.1); rintro e w43 ⟨rfl, hb⟩; refine ⟨_, rfl, ?_⟩; replace HO471 := Aside0.mk (Kd.R_below (uR ((Kd.R_mono (Kd.R_mono (Kd.R_far (p := ⟨gb492, 1, none⟩) (Kd.R_far (p := ⟨gb492, 0, none⟩) (Kd.R_far (p := ⟨gb491, 1, none⟩) (Kd.R_far (p := ⟨gb491, 0, none⟩) (Kd.R_types (Kd.R_types HO471.out BK491.out (by decide)) BK492.out (by decide)) (fun _ hk => hk.1.2) (.bool t482)) (fun _ hk => hk.1.2) (.slice Ao35 t483.length co35)) (fun _ hk => hk.2) (.bool t486)) (fun _ hk => hk.2) (.slice Ao38 t487.length co38)) (fun _ h_ => h_.1)) (fun _ h_ => h_.1)))) hb); replace HO477 := Aside0.mk (Kd.R_below (uR ((Kd.R_mono (Kd.R_mono (Kd.R_far (p := ⟨gb492, 1, none⟩) (Kd.R_far (p := ⟨gb492, 0, none⟩) (Kd.R_far (p := ⟨gb491, 1, none⟩) (Kd.R_far (p := ⟨gb491, 0, none⟩) (Kd.R_types (Kd.R_types HO477.out BK491.out (by decide)) BK492.out (by decide)) (fun _ hk => hk.1.2) (.bool t482)) (fun _ hk => hk.1.2) (.slice Ao35 t483.length co35)) (fun _ hk => hk.2) (.bool t486)) (fun _ hk => hk.2) (.slice Ao38 t487.length co38)) (fun _ h_ => h_.1)) (fun _ h_ => h_.1)))) hb); replace HO481 := Aside0.mk (Kd.R_below (uR ((Kd.R_mono (Kd.R_mono (Kd.R_far (p := ⟨gb492, 1, none⟩) (Kd.R_far (p := ⟨gb492, 0, none⟩) (Kd.R_far (p := ⟨gb491, 1, none⟩) (Kd.R_far (p := ⟨gb491, 0, none⟩) (Kd.R_types (Kd.R_types HO481.out BK491.out (by decide)) BK492.out (by decide)) (fun _ hk => hk.1.2) (.bool t482)) (fun _ hk => hk.1.2) (.slice Ao35 t483.length co35)) (fun _ hk => hk.2) (.bool t486)) (fun _ hk => hk.2) (.slice Ao38 t487.length co38)) (fun _ h_ => h_.1)) (fun _ h_ => h_.1)))) hb); replace HO485 := Aside0.mk (Kd.R_below (uR ((Kd.R_mono (Kd.R_mono (Kd.R_far (p := ⟨gb492, 1, none⟩) (Kd.R_far (p := ⟨gb492, 0, none⟩) (Kd.R_far (p := ⟨gb491, 1, none⟩) (Kd.R_far (p := ⟨gb491, 0, none⟩) (Kd.R_types (Kd.R_types HO485.out BK491.out (by decide)) BK492.out (by decide)) (fun _ hk => hk.1.2) (.bool t482)) (fun _ hk => hk.1.2) (.slice Ao35 t483.length co35)) (fun _ hk => hk.2) (.bool t486)) (fun _ hk => hk.2) (.slice Ao38 t487.length co38)) (fun _ h_ => h_.1)) (fun _ h_ => h_.1)))) hb); replace HO489 := Aside0.mk (Kd.R_below (uR ((Kd.R_mono (Kd.R_mono (Kd.R_far (p := ⟨gb492, 1, none⟩) (Kd.R_far (p := ⟨gb492, 0, none⟩) (Kd.R_far (p := ⟨gb491, 1, none⟩) (Kd.R_far (p := ⟨gb491, 0, none⟩) (Kd.R_types (Kd.R_types HO489.out BK491.out (by decide)) BK492.out (by decide)) (fun _ hk => hk.1.2) (.bool t482)) (fun _ hk => hk.1.2) (.slice Ao35 t483.length co35)) (fun _ hk => hk.2) (.bool t486)) (fun _ hk => hk.2) (.slice Ao38 t487.length co38)) (fun _ h_ => h_.1)) (fun _ h_ => h_.1)))) hb); replace BK473 := Aside0.mk (blk_below (g := gb473) (o := .cells #[.bool t468, .slice Ao23 t469.length co23] 44 (0, 0)) (by refine blk_far ?_ NB473_492.out _; refine blk_far ?_ NB473_492.out _; refine blk_far ?_ NB473_491.out _; refine blk_far ?_ NB473_491.out _; exact uK BK473.out) hb); replace BK491 := Aside0.mk (blk_below (g := gb491) (o := .cells #[.bool t482, .slice Ao35 t483.length co35] 44 (0, 0)) (by refine blk_far ?_ NB491_492.out _; refine blk_far ?_ NB491_492.out _; refine blk_put (cs := #[.bool t482, .slice none 0 0]) ?_ 1 _ rfl; refine blk_put (cs := #[.bool false, .slice none 0 0]) ?_ 0 _ rfl; exact uK BK491.out) hb); replace BK492 := Aside0.mk (blk_below (g := gb492) (o := .cells #[.bool t486, .slice Ao38 t487.length co38] 44 (0, 0)) (by refine blk_put (cs := #[.bool t486, .slice none 0 0]) ?_ 1 _ rfl; refine blk_put (cs := #[.bool false, .slice none 0 0]) ?_ 0 _ rfl; refine blk_far ?_ NB492_491.out _; refine blk_far ?_ NB492_491.out _; exact uK BK492.out) hb); replace HB := uy hb; (try clear hb); (try clear hb2); (try clear hk); (try clear hi); have hnb44 := NB492_473.out; have hnc44 := NB473_492.out; obtain ⟨hcz45_0, hcz45_1, hfz45_0, hfz45_1⟩ := uz2 w43 BK492) | ((with_reducible refine ug 19 rfl ?_); refine uh (some 56) rfl Try.func19 #[.agg #[.bool t486, .slice Ao38 t487.length co38]] ?_; (with_reducible refine (modint_Small.calls kj3 t486 _ _ t487 t495 t496 _ (uC (Kd.R_reads' HO489.out).2.2) ((Kd.R_reads' HO489.out).2.1) A19.out).mono ?_); rintro e w46 ⟨rfl, hb⟩; refine ⟨_, rfl, ?_⟩; replace HO471 := urb HO471 hb; replace HO477 := urb HO477 hb; replace HO481 := urb HO481 hb; replace HO485 := urb HO485 hb; replace HO489 := urb HO489 hb; replace BK473 := ux BK473 hb; replace BK491 := ux BK491 hb; replace BK492 := ux BK492 hb; replace HB := uy hb; (try clear hb)))
     go_ret3
     exact ⟨uF, uB⟩
    replace c18 := Bool.eq_false_iff.mpr c18
    subst c18
    rw [if_neg (show ¬ (false = true) by decide)] at H
    simp only [Option.some.injEq, Prod.mk.injEq] at H
    obtain ⟨rfl, rfl, rfl⟩ := H
    have hnb67 := NB491_473.out
    have hnc67 := NB473_491.out
    have hnb68 := NB491_492.out
    have hnc68 := NB492_491.out
    obtain ⟨hcz69_0, hcz69_1, hfz69_0, hfz69_1⟩ := uz2 w33 BK491
    try go_wp2_with (first | ((with_reducible refine ug 19 rfl ?_); refine uh (some 49) rfl Try.func19 #[.agg #[.bool t482, .slice Ao35 t483.length co35]] ?_; (with_reducible refine (modint_Small.calls kj3 t482 _ _ t483 t493 false _ ?side1 ?side2 A17.out).mono ?_); (case side1 => refine (Kd.R_reads' (e := 42) (base := w.heap.size) (ok := fun k_ => (some k_ ≠ (.slice Ao23 t469.length co23 : Value).ownBlock ∧ (some k_ ≠ (v476 : Value).ownBlock ∧ (some k_ ≠ (v480 : Value).ownBlock ∧ some k_ ≠ (.slice Ao38 t487.length co38 : Value).ownBlock)))) (n := t483.length) (c := co35) ?_).2.2; exact (uR ((Kd.R_mono (Kd.R_mono (Kd.R_far (p := ⟨gb492, 1, none⟩) (Kd.R_far (p := ⟨gb492, 0, none⟩) (Kd.R_far (p := ⟨gb491, 1, none⟩) (Kd.R_far (p := ⟨gb491, 0, none⟩) (Kd.R_types (Kd.R_types HO485.out BK491.out (by decide)) BK492.out (by decide)) (fun _ hk => hk.1.2) (.bool t482)) (fun _ hk => hk.1.2) (.slice Ao35 t483.length co35)) (fun _ hk => hk.2) (.bool t486)) (fun _ hk => hk.2) (.slice Ao38 t487.length co38)) (fun _ h_ => h_.1)) (fun _ h_ => h_.1))))); (case side2 => exact (Kd.R_reads' HO485.out).2.1); rintro e w70 ⟨rfl, hb⟩; refine ⟨_, rfl, ?_⟩; replace HO471 := Aside0.mk (Kd.R_below (uR ((Kd.R_mono (Kd.R_mono (Kd.R_far (p := ⟨gb492, 1, none⟩) (Kd.R_far (p := ⟨gb492, 0, none⟩) (Kd.R_far (p := ⟨gb491, 1, none⟩) (Kd.R_far (p := ⟨gb491, 0, none⟩) (Kd.R_types (Kd.R_types HO471.out BK491.out (by decide)) BK492.out (by decide)) (fun _ hk => hk.1.2) (.bool t482)) (fun _ hk => hk.1.2) (.slice Ao35 t483.length co35)) (fun _ hk => hk.2) (.bool t486)) (fun _ hk => hk.2) (.slice Ao38 t487.length co38)) (fun _ h_ => h_.1)) (fun _ h_ => h_.1)))) hb); replace HO477 := Aside0.mk (Kd.R_below (uR ((Kd.R_mono (Kd.R_mono (Kd.R_far (p := ⟨gb492, 1, none⟩) (Kd.R_far (p := ⟨gb492, 0, none⟩) (Kd.R_far (p := ⟨gb491, 1, none⟩) (Kd.R_far (p := ⟨gb491, 0, none⟩) (Kd.R_types (Kd.R_types HO477.out BK491.out (by decide)) BK492.out (by decide)) (fun _ hk => hk.1.2) (.bool t482)) (fun _ hk => hk.1.2) (.slice Ao35 t483.length co35)) (fun _ hk => hk.2) (.bool t486)) (fun _ hk => hk.2) (.slice Ao38 t487.length co38)) (fun _ h_ => h_.1)) (fun _ h_ => h_.1)))) hb); replace HO481 := Aside0.mk (Kd.R_below (uR ((Kd.R_mono (Kd.R_mono (Kd.R_far (p := ⟨gb492, 1, none⟩) (Kd.R_far (p := ⟨gb492, 0, none⟩) (Kd.R_far (p := ⟨gb491, 1, none⟩) (Kd.R_far (p := ⟨gb491, 0, none⟩) (Kd.R_types (Kd.R_types HO481.out BK491.out (by decide)) BK492.out (by decide)) (fun _ hk => hk.1.2) (.bool t482)) (fun _ hk => hk.1.2) (.slice Ao35 t483.length co35)) (fun _ hk => hk.2) (.bool t486)) (fun _ hk => hk.2) (.slice Ao38 t487.length co38)) (fun _ h_ => h_.1)) (fun _ h_ => h_.1)))) hb); replace HO485 := Aside0.mk (Kd.R_below (uR ((Kd.R_mono (Kd.R_mono (Kd.R_far (p := ⟨gb492, 1, none⟩) (Kd.R_far (p := ⟨gb492, 0, none⟩) (Kd.R_far (p := ⟨gb491, 1, none⟩) (Kd.R_far (p := ⟨gb491, 0, none⟩) (Kd.R_types (Kd.R_types HO485.out BK491.out (by decide)) BK492.out (by decide)) (fun _ hk => hk.1.2) (.bool t482)) (fun _ hk => hk.1.2) (.slice Ao35 t483.length co35)) (fun _ hk => hk.2) (.bool t486)) (fun _ hk => hk.2) (.slice Ao38 t487.length co38)) (fun _ h_ => h_.1)) (fun _ h_ => h_.1)))) hb); replace HO489 := Aside0.mk (Kd.R_below (uR ((Kd.R_mono (Kd.R_mono (Kd.R_far (p := ⟨gb492, 1, none⟩) (Kd.R_far (p := ⟨gb492, 0, none⟩) (Kd.R_far (p := ⟨gb491, 1, none⟩) (Kd.R_far (p := ⟨gb491, 0, none⟩) (Kd.R_types (Kd.R_types HO489.out BK491.out (by decide)) BK492.out (by decide)) (fun _ hk => hk.1.2) (.bool t482)) (fun _ hk => hk.1.2) (.slice Ao35 t483.length co35)) (fun _ hk => hk.2) (.bool t486)) (fun _ hk => hk.2) (.slice Ao38 t487.length co38)) (fun _ h_ => h_.1)) (fun _ h_ => h_.1)))) hb); replace BK473 := Aside0.mk (blk_below (g := gb473) (o := .cells #[.bool t468, .slice Ao23 t469.length co23] 44 (0, 0)) (by refine blk_far ?_ NB473_492.out _; refine blk_far ?_ NB473_492.out _; refine blk_far ?_ NB473_491.out _; refine blk_far ?_ NB473_491.out _; exact uK BK473.out) hb); replace BK491 := Aside0.mk (blk_below (g := gb491) (o := .cells #[.bool t482, .slice Ao35 t483.length co35] 44 (0, 0)) (by refine blk_far ?_ NB491_492.out _; refine blk_far ?_ NB491_492.out _; refine blk_put (cs := #[.bool t482, .slice none 0 0]) ?_ 1 _ rfl; refine blk_put (cs := #[.bool false, .slice none 0 0]) ?_ 0 _ rfl; exact uK BK491.out) hb); replace BK492 := Aside0.mk (blk_below (g := gb492) (o := .cells #[.bool t486, .slice Ao38 t487.length co38] 44 (0, 0)) (by refine blk_put (cs := #[.bool t486, .slice none 0 0]) ?_ 1 _ rfl; refine blk_put (cs := #[.bool false, .slice none 0 0]) ?_ 0 _ rfl; refine blk_far ?_ NB492_491.out _; refine blk_far ?_ NB492_491.out _; exact uK BK492.out) hb); replace HB := uy hb; (try clear hb); (try clear hb2); (try clear hk); (try clear hi)))
    go_ret3
    exact ⟨uF, uB⟩
   rw [if_neg c13] at H
   have c13b0 := beq_eq_false_iff_ne.mpr c13
   have c13b1 := bne_iff_ne.mpr c13
   simp only [Option.some.injEq, Prod.mk.injEq] at H
   obtain ⟨rfl, rfl, rfl⟩ := H
   go_wp2_with (first | ((with_reducible refine ug 15 rfl ?_); refine uh (some 32) rfl Try.func15 #[.slice A0 l0.length c0, .slice A2 l2.length c2] ?_; (with_reducible refine (fixenc_Decode.calls kj3 _ _ l0 _ _ l2 t468 t469 t472 _ (uC (Kd.C_below HR0.out HB.out)) HC0.out (uC (Kd.C_below HR2.out HB.out)) HC2.out A12.out).mono ?_); rintro e w71 ⟨v470, rfl, ho0, hb⟩; refine ⟨_, rfl, ?_⟩; have HO471 := ulo ho0; replace HB := uy hb; (try clear hb ho0)) | ((with_reducible refine gate_dst (N := 9) rfl ?_); refine ubx 9 #[.bool false, .slice none 0 0] 44 rfl rfl ?_; intro gb473 hg w72 hbox hb; replace HO471 := urb HO471 hb; have BK473 := Aside0.mk (hbox); have GW473 := us hg; have GE473 := us hg; replace HB := uy hb; clear hb hbox hg; obtain ⟨hcz73_0, hcz73_1, hfz73_0, hfz73_1⟩ := uz2 w72 BK473; obtain ⟨Ao74, co74, eo74⟩ := Kd.R_slice HO471.out; subst eo74))
   go_ret3
   exact ⟨uF, uB⟩
end Go.Proofs.Ytnaphgnkhhapoab.F
end
section
namespace Go.Proofs.Ytnaphgnkhhapoab.Z
open Go.RowKit Go.Proofs.YtnaphgnkhhapoabW.PrintWords
set_option linter.unusedSimpArgs false
set_option linter.unusedVariables false
def Evt {α : Type} (g : Nat → Option α) (r : α) : Prop := ∃ n, ∀ k, n ≤ k → g k = some r
theorem Evt.of {α : Type} {g : Nat → Option α} {r : α} (h : ∀ k, g k = some r) : Evt g r := ⟨0, fun k _ => h k⟩
theorem Evt.pure {α : Type} (r : α) : Evt (fun _ => some r) r := ⟨0, fun _ _ => rfl⟩
theorem Evt.bind {α β : Type} {g : Nat → Option α} {h : α → Nat → Option β} {a : α} {b : β} (h1 : Evt g a) (h2 : Evt (h a) b) : Evt (fun k => (g k).bind fun x => h x k) b := by
  obtain ⟨n, hn⟩ := h1
  obtain ⟨m, hm⟩ := h2
  exact ⟨n + m, fun k hk => by simp only [hn k (by omega), Option.bind_some]; exact hm k (by omega)⟩
theorem Evt.succ {α : Type} {g : Nat → Option α} {r : α} (h : Evt (fun k => g (k + 1)) r) : Evt g r := by
  obtain ⟨n, hn⟩ := h
  refine ⟨n + 1, fun k hk => ?_⟩
  obtain ⟨m, rfl⟩ : ∃ m, k = m + 1 := ⟨k - 1, by omega⟩
  exact hn m (by omega)
theorem Evt.get {α : Type} {g : Nat → Option α} {r : α} (h : Evt g r) : ∃ k, g k = some r := by
  obtain ⟨n, hn⟩ := h
  exact ⟨n, hn n (Nat.le_refl _)⟩
theorem Evt.congr {α : Type} {g g' : Nat → Option α} {r r' : α} (h : Evt g r) (hg : ∀ k, g' k = g k) (hr : r = r') : Evt g' r' := by
  subst hr
  obtain ⟨n, hn⟩ := h
  exact ⟨n, fun k hk => (hg k).trans (hn k hk)⟩
theorem Evt.ite_pos {α : Type} {c : Prop} [Decidable c] {g h : Nat → Option α} {r : α} (hc : c) (hg : Evt g r) : Evt (fun k => if c then g k else h k) r := by
  obtain ⟨n, hn⟩ := hg
  exact ⟨n, fun k hk => (if_pos hc).trans (hn k hk)⟩
theorem Evt.ite_neg {α : Type} {c : Prop} [Decidable c] {g h : Nat → Option α} {r : α} (hc : ¬ c) (hg : Evt h r) : Evt (fun k => if c then g k else h k) r := by
  obtain ⟨n, hn⟩ := hg
  exact ⟨n, fun k hk => (if_neg hc).trans (hn k hk)⟩
theorem Evt.cond {α : Type} {c : Prop} [Decidable c] {g h : Nat → Option α} {r s : α} (hg : c → Evt g r) (hh : ¬ c → Evt h s) : Evt (fun k => if c then g k else h k) (if c then r else s) := by
  by_cases hc : c
  · rw [if_pos hc]; exact Evt.ite_pos hc (hg hc)
  · rw [if_neg hc]; exact Evt.ite_neg hc (hh hc)
theorem Evt.cond' {α : Type} {c : Prop} [Decidable c] {g h : Nat → Option α} {r : α} (hg : c → Evt g r) (hh : ¬ c → Evt h r) : Evt (fun k => if c then g k else h k) r := by
  by_cases hc : c
  · exact Evt.ite_pos hc (hg hc)
  · exact Evt.ite_neg hc (hh hc)
theorem w64 {x : Int} (h0 : -9223372036854775808 ≤ x) (h1 : x < 9223372036854775808) : wrap64 x = x := by unfold wrap64; omega
theorem wu64 (x : Int) : IntKind.u64.wrap x = x % 18446744073709551616 := by simp [IntKind.wrap, IntKind.bits, IntKind.signed]
theorem wu64_of {x : Int} (h0 : 0 ≤ x) (h1 : x < 18446744073709551616) : IntKind.u64.wrap x = x := by rw [wu64]; omega
theorem wf_u64 {x : Int} (h : (Lit.int .u64 x).wf = true) : 0 ≤ x ∧ x < 18446744073709551616 := by
  simp [Lit.wf, IntKind.min, IntKind.max, IntKind.bits, IntKind.signed] at h
  omega
theorem wf_i64 {x : Int} (h : (Lit.int .i64 x).wf = true) : -9223372036854775808 ≤ x ∧ x < 9223372036854775808 := by
  simp [Lit.wf, IntKind.min, IntKind.max, IntKind.bits, IntKind.signed] at h
  omega
theorem rd_getD (l : List Int) (i : Int) : rd l i = l.getD i.toNat 0 := rfl
theorem rd_nat (l : List Int) (i : Nat) : rd l (i : Int) = l.getD i 0 := rfl
def val (B : Int) : List Int → Int
  | [] => 0
  | d :: l => d + B * val B l
def Dig (B : Int) (l : List Int) : Prop := ∀ x, x ∈ l → 0 ≤ x ∧ x < B
def Can (l : List Int) : Prop := ∀ h : l ≠ [], l.getLast h ≠ 0
def strip : List Int → List Int
  | [] => []
  | d :: l => if strip l = [] then (if d = 0 then [] else [d]) else d :: strip l
theorem Dig.nil {B : Int} : Dig B [] := fun _ h => by simp at h
theorem Dig.cons {B d : Int} {l : List Int} : Dig B (d :: l) ↔ (0 ≤ d ∧ d < B) ∧ Dig B l := by
  unfold Dig
  simp
theorem Dig.append {B : Int} {l m : List Int} : Dig B (l ++ m) ↔ Dig B l ∧ Dig B m := by
  unfold Dig
  constructor
  · intro h
    exact ⟨fun x hx => h x (by simp [hx]), fun x hx => h x (by simp [hx])⟩
  · intro h x hx
    rcases List.mem_append.1 hx with hx | hx
    · exact h.1 x hx
    · exact h.2 x hx
theorem Dig.take {B : Int} {l : List Int} (h : Dig B l) (n : Nat) : Dig B (l.take n) := fun x hx => h x (List.mem_of_mem_take hx)
theorem Dig.drop {B : Int} {l : List Int} (h : Dig B l) (n : Nat) : Dig B (l.drop n) := fun x hx => h x (List.mem_of_mem_drop hx)
theorem Dig.getD {B : Int} {l : List Int} (h : Dig B l) (hB : 0 < B) (i : Nat) : 0 ≤ l.getD i 0 ∧ l.getD i 0 < B := by
  rw [List.getD_eq_getElem?_getD]
  cases he : l[i]? with
  | none => simp; omega
  | some x => simpa using h x (List.mem_of_getElem? he)
theorem Dig.set {B : Int} {l : List Int} (h : Dig B l) (i : Nat) {v : Int} (hv : 0 ≤ v ∧ v < B) : Dig B (l.set i v) := by
  intro x hx
  rcases List.mem_or_eq_of_mem_set hx with hx | rfl
  · exact h x hx
  · exact hv
theorem Dig.replicate {B : Int} (hB : 0 < B) (n : Nat) : Dig B (List.replicate n 0) := by
  intro x hx
  have := List.eq_of_mem_replicate hx
  omega
theorem val_append (B : Int) (l m : List Int) : val B (l ++ m) = val B l + B ^ l.length * val B m := by
  induction l with
  | nil => simp [val]
  | cons d l ih => simp only [List.cons_append, val, ih, List.length_cons, Int.pow_succ]; grind
theorem val_replicate (B : Int) (n : Nat) : val B (List.replicate n 0) = 0 := by
  induction n with
  | zero => rfl
  | succ n ih => simp [List.replicate_succ, val, ih]
theorem val_nonneg {B : Int} (hB : 0 < B) {l : List Int} (h : Dig B l) : 0 ≤ val B l := by
  induction l with
  | nil => simp [val]
  | cons d l ih =>
    have h' := Dig.cons.1 h
    have h1 := ih h'.2
    have : 0 ≤ B * val B l := Int.mul_nonneg (by omega) h1
    simp only [val]
    omega
theorem val_lt {B : Int} (hB : 0 < B) {l : List Int} (h : Dig B l) : val B l < B ^ l.length := by
  induction l with
  | nil => simp [val]
  | cons d l ih =>
    have h' := Dig.cons.1 h
    have h1 := ih h'.2
    have h2 : B * val B l ≤ B * (B ^ l.length - 1) := Int.mul_le_mul_of_nonneg_left (by omega) (by omega)
    have h3 : B * (B ^ l.length - 1) = B * B ^ l.length - B := by grind
    simp only [val, List.length_cons, Int.pow_succ]
    have h4 : B ^ l.length * B = B * B ^ l.length := Int.mul_comm _ _
    omega
theorem Can.nil : Can [] := fun h => absurd rfl h
theorem Can.tail {d : Int} {l : List Int} (h : Can (d :: l)) : Can l := by
  intro hl
  have := h (by simp)
  rwa [List.getLast_cons hl] at this
theorem Can.one {d : Int} (h : d ≠ 0) : Can [d] := fun _ => by simpa using h
theorem Can.cons {d : Int} {l : List Int} (h : Can l) (hl : l ≠ []) : Can (d :: l) := by
  intro _
  rw [List.getLast_cons hl]
  exact h hl
theorem val_pos {B : Int} (hB : 0 < B) {l : List Int} (h : Dig B l) (hc : Can l) (hl : l ≠ []) : B ^ (l.length - 1) ≤ val B l := by
  induction l with
  | nil => exact absurd rfl hl
  | cons d l ih =>
    have h' := Dig.cons.1 h
    by_cases e : l = []
    · subst e
      have := hc (by simp)
      simp [val] at this ⊢
      omega
    · have h1 := ih h'.2 hc.tail e
      have h2 : l.length - 1 + 1 = l.length := by have := List.length_pos_iff.2 e; omega
      simp only [val, List.length_cons, Nat.add_sub_cancel]
      rw [← h2, Int.pow_succ, Int.mul_comm]
      have : B * B ^ (l.length - 1) ≤ B * val B l := Int.mul_le_mul_of_nonneg_left h1 (by omega)
      omega
theorem val_zero {B : Int} (hB : 0 < B) {l : List Int} (h : Dig B l) (hc : Can l) (h0 : val B l = 0) : l = [] := by
  by_cases e : l = []
  · exact e
  · have := val_pos hB h hc e
    have h2 : 0 < B ^ (l.length - 1) := Int.pow_pos hB
    omega
theorem val_inj {B : Int} (hB : 0 < B) {l m : List Int} (hl : Dig B l) (hm : Dig B m) (cl : Can l) (cm : Can m) (h : val B l = val B m) : l = m := by
  induction l generalizing m with
  | nil => exact (val_zero hB hm cm h.symm).symm
  | cons d l ih =>
    cases m with
    | nil => exact val_zero hB hl cl h
    | cons e m =>
      have h1 := Dig.cons.1 hl
      have h2 := Dig.cons.1 hm
      simp only [val] at h
      have h3 : d = e := by
        have a1 : (d + B * val B l) % B = d := by rw [Int.add_mul_emod_self_left]; exact Int.emod_eq_of_lt h1.1.1 h1.1.2
        have a2 : (e + B * val B m) % B = e := by rw [Int.add_mul_emod_self_left]; exact Int.emod_eq_of_lt h2.1.1 h2.1.2
        rw [← a1, ← a2, h]
      subst h3
      have h4 : val B l = val B m := by
        have : B * val B l = B * val B m := by omega
        exact Int.eq_of_mul_eq_mul_left (by omega) this
      rw [ih h1.2 h2.2 cl.tail cm.tail h4]
theorem strip_val (B : Int) (l : List Int) : val B (strip l) = val B l := by
  induction l with
  | nil => rfl
  | cons d l ih =>
    simp only [strip]
    split
    · rename_i h
      rw [h] at ih
      simp only [val] at ih
      split
      · rename_i h0; simp [val, ← ih, h0]
      · simp [val, ← ih]
    · simp [val, ih]
theorem strip_can (l : List Int) : Can (strip l) := by
  induction l with
  | nil => exact Can.nil
  | cons d l ih =>
    simp only [strip]
    split
    · split
      · exact Can.nil
      · rename_i h; exact Can.one h
    · rename_i h; exact ih.cons h
theorem strip_dig {B : Int} {l : List Int} (h : Dig B l) : Dig B (strip l) := by
  induction l with
  | nil => exact Dig.nil
  | cons d l ih =>
    have h' := Dig.cons.1 h
    simp only [strip]
    split
    · split
      · exact Dig.nil
      · exact Dig.cons.2 ⟨h'.1, Dig.nil⟩
    · exact Dig.cons.2 ⟨h'.1, ih h'.2⟩
theorem strip_length (l : List Int) : (strip l).length ≤ l.length := by
  induction l with
  | nil => simp [strip]
  | cons d l ih =>
    simp only [strip]
    split
    · split <;> simp
    · simp; omega
theorem strip_of_can {l : List Int} (h : Can l) : strip l = l := by
  induction l with
  | nil => rfl
  | cons d l ih =>
    simp only [strip]
    rw [ih h.tail]
    split
    · rename_i e
      subst e
      have := h (by simp)
      simp at this
      simp [this]
    · rfl
theorem strip_snoc_zero (l : List Int) : strip (l ++ [0]) = strip l := by
  induction l with
  | nil => simp [strip]
  | cons d l ih => simp only [List.cons_append, strip, ih]
theorem strip_snoc {l : List Int} {d : Int} (h : d ≠ 0) : strip (l ++ [d]) = l ++ [d] := by
  apply strip_of_can
  intro hl
  simpa using h
theorem pow_mono {B : Int} (hB : 0 < B) {m n : Nat} (h : m ≤ n) : B ^ m ≤ B ^ n := by
  induction n with
  | zero => have : m = 0 := by omega
            subst this
            exact Int.le_refl _
  | succ n ih =>
    by_cases e : m = n + 1
    · subst e
      exact Int.le_refl _
    · have h1 := ih (by omega)
      have h2 : 0 < B ^ n := Int.pow_pos hB
      have h3 : 1 * B ^ n ≤ B * B ^ n := Int.mul_le_mul_of_nonneg_right (by omega) (by omega)
      rw [Int.pow_succ, Int.mul_comm]
      omega
theorem val_lt_of_length {B : Int} (hB : 0 < B) {l m : List Int} (hl : Dig B l) (hm : Dig B m) (cm : Can m) (h : l.length < m.length) : val B l < val B m := by
  have h1 := val_lt hB hl
  have h2 := val_pos hB hm cm (by intro e; subst e; simp at h)
  have h3 : B ^ l.length ≤ B ^ (m.length - 1) := pow_mono hB (by omega)
  omega
def rightB (l : List Int) : Bool := decide (l.length ≤ 64) && ((l.length == 0) || (l.getD (l.length - 1) 0 != 0))
theorem can_iff (l : List Int) : Can l ↔ ((l.length == 0) || (l.getD (l.length - 1) 0 != 0)) = true := by
  cases l with
  | nil => simp [Can]
  | cons d l =>
    have h : (d :: l).getLast (by simp) = (d :: l).getD ((d :: l).length - 1) 0 := by
      rw [List.getLast_eq_getElem]
      simp
    unfold Can
    simp only [List.length_cons, Nat.add_one_ne_zero, beq_iff_eq, Bool.or_eq_true, bne_iff_ne, false_or]
    constructor
    · intro hc
      have := hc (by simp)
      rw [h] at this
      exact this
    · intro hc _
      rw [h]
      exact hc
theorem rightB_iff (l : List Int) : rightB l = true ↔ l.length ≤ 64 ∧ Can l := by
  unfold rightB
  rw [Bool.and_eq_true, decide_eq_true_iff, ← can_iff]
def smallV (l : List Int) : Int × Bool := if rightB l = true ∧ l.length ≤ 1 then (l.getD 0 0, true) else (0, false)
def toD (B : Nat) (v : Nat) : List Int := if h : 2 ≤ B ∧ 0 < v then ((v % B : Nat) : Int) :: toD B (v / B) else []
termination_by v
decreasing_by exact Nat.div_lt_self h.2 (by omega)
theorem toD_zero (B : Nat) : toD B 0 = [] := by rw [toD]; simp
theorem toD_pos {B v : Nat} (hB : 2 ≤ B) (hv : 0 < v) : toD B v = ((v % B : Nat) : Int) :: toD B (v / B) := by rw [toD]; simp [hB, hv]
theorem toD_dig {B : Nat} (hB : 2 ≤ B) (v : Nat) : Dig (B : Int) (toD B v) := by
  induction v using Nat.strongRecOn with
  | _ v ih =>
    by_cases hv : v = 0
    · subst hv; rw [toD_zero]; exact Dig.nil
    · rw [toD_pos hB (by omega)]
      have := Nat.mod_lt v (show B > 0 by omega)
      exact Dig.cons.2 ⟨by omega, ih _ (Nat.div_lt_self (by omega) (by omega))⟩
theorem toD_eq_nil {B v : Nat} (hB : 2 ≤ B) : toD B v = [] ↔ v = 0 := by
  constructor
  · intro h
    by_cases hv : v = 0
    · exact hv
    · rw [toD_pos hB (by omega)] at h; cases h
  · rintro rfl; exact toD_zero B
theorem toD_can {B : Nat} (hB : 2 ≤ B) (v : Nat) : Can (toD B v) := by
  induction v using Nat.strongRecOn with
  | _ v ih =>
    by_cases hv : v = 0
    · subst hv; rw [toD_zero]; exact Can.nil
    · rw [toD_pos hB (by omega)]
      by_cases hq : v / B = 0
      · rw [hq, toD_zero]
        have hlt : v < B := (Nat.div_eq_zero_iff_lt (by omega)).1 hq
        rw [Nat.mod_eq_of_lt hlt]
        exact Can.one (by omega)
      · exact (ih _ (Nat.div_lt_self (by omega) (by omega))).cons (fun e => hq ((toD_eq_nil hB).1 e))
theorem val_toD {B : Nat} (hB : 2 ≤ B) (v : Nat) : val (B : Int) (toD B v) = (v : Int) := by
  induction v using Nat.strongRecOn with
  | _ v ih =>
    by_cases hv : v = 0
    · subst hv; rw [toD_zero]; rfl
    · rw [toD_pos hB (by omega)]
      simp only [val]
      rw [ih _ (Nat.div_lt_self (by omega) (by omega))]
      have h2 := Nat.mod_add_div v B
      have h3 : ((v % B + B * (v / B) : Nat) : Int) = (v : Int) := by rw [h2]
      simpa using h3
theorem strip_toD {B : Nat} (hB : 2 ≤ B) {l : List Int} (h : Dig (B : Int) l) : strip l = toD B (val (B : Int) l).toNat := by
  have h0 : (0 : Int) < (B : Int) := by omega
  refine val_inj h0 (strip_dig h) (toD_dig hB _) (strip_can l) (toD_can hB _) ?_
  rw [strip_val, val_toD hB]
  have := val_nonneg h0 h
  omega
theorem can_toD {B : Nat} (hB : 2 ≤ B) {l : List Int} (h : Dig (B : Int) l) (hc : Can l) : l = toD B (val (B : Int) l).toNat := by
  rw [← strip_toD hB h, strip_of_can hc]
theorem pow_cast (B n : Nat) : ((B : Int)) ^ n = ((B ^ n : Nat) : Int) := by simp
theorem toD_len_le {B : Nat} (hB : 2 ≤ B) {v n : Nat} (h : v < B ^ n) : (toD B v).length ≤ n := by
  by_cases hv : v = 0
  · subst hv; rw [toD_zero]; simp
  · have h1 := val_pos (show (0 : Int) < (B : Int) by omega) (toD_dig hB v) (toD_can hB v) (fun e => hv ((toD_eq_nil hB).1 e))
    rw [val_toD hB, pow_cast] at h1
    have h2 : B ^ ((toD B v).length - 1) ≤ v := by omega
    have h3 : B ^ ((toD B v).length - 1) < B ^ n := by omega
    have h4 := (Nat.pow_lt_pow_iff_right (show 1 < B by omega)).1 h3
    omega
theorem toD_lt_pow {B : Nat} (hB : 2 ≤ B) (v : Nat) : v < B ^ (toD B v).length := by
  have h1 := val_lt (show (0 : Int) < (B : Int) by omega) (toD_dig hB v)
  rw [val_toD hB, pow_cast] at h1
  omega
theorem toD_len_iff {B : Nat} (hB : 2 ≤ B) (v n : Nat) : (toD B v).length ≤ n ↔ v < B ^ n :=
  ⟨fun h => Nat.lt_of_lt_of_le (toD_lt_pow hB v) (Nat.pow_le_pow_right (by omega) h), toD_len_le hB⟩
def b64 : Nat := 18446744073709551616
def b16 : Nat := 65536
theorem b64_two : 2 ≤ b64 := by decide
theorem b16_two : 2 ≤ b16 := by decide
theorem b64_pow : b64 = b16 ^ 4 := by decide
def num (l : List Int) : Nat := (val (b64 : Int) l).toNat
def num16 (l : List Int) : Nat := (val (b16 : Int) l).toNat
abbrev limbs (v : Nat) : List Int := toD b64 v
abbrev digs (v : Nat) : List Int := toD b16 v
theorem b64_pos : (0 : Int) < (b64 : Int) := by decide
theorem b16_pos : (0 : Int) < (b16 : Int) := by decide
theorem num_val {l : List Int} (h : Dig (b64 : Int) l) : (num l : Int) = val (b64 : Int) l := by
  have := val_nonneg b64_pos h
  unfold num; omega
theorem num16_val {l : List Int} (h : Dig (b16 : Int) l) : (num16 l : Int) = val (b16 : Int) l := by
  have := val_nonneg b16_pos h
  unfold num16; omega
theorem num_limbs (v : Nat) : num (limbs v) = v := by unfold num limbs; rw [val_toD b64_two]; omega
theorem num16_digs (v : Nat) : num16 (digs v) = v := by unfold num16 digs; rw [val_toD b16_two]; omega
theorem limbs_num {l : List Int} (h : Dig (b64 : Int) l) (hc : Can l) : limbs (num l) = l := (can_toD b64_two h hc).symm
theorem strip_limbs {l : List Int} (h : Dig (b64 : Int) l) : strip l = limbs (num l) := strip_toD b64_two h
theorem strip_digs {l : List Int} (h : Dig (b16 : Int) l) : strip l = digs (num16 l) := strip_toD b16_two h
theorem dig_of_wf {l : List Int} (h : ∀ x ∈ l, (Lit.int .u64 x).wf = true) : Dig (b64 : Int) l := fun x hx => wf_u64 (h x hx)
theorem num_lt {l : List Int} (h : Dig (b64 : Int) l) : num l < b64 ^ l.length := by
  have h1 := val_lt b64_pos h
  rw [← num_val h, pow_cast] at h1
  omega
theorem num_nil : num [] = 0 := rfl
theorem num_one {x : Int} (h : 0 ≤ x) : num [x] = x.toNat := by simp [num, val]
theorem num16_nil : num16 [] = 0 := rfl
theorem num_cons {d : Int} {l : List Int} (h : Dig (b64 : Int) (d :: l)) : num (d :: l) = d.toNat + b64 * num l := by
  have h1 := Dig.cons.1 h
  have h2 := num_val h
  have h3 := num_val h1.2
  have h4 : ((d.toNat + b64 * num l : Nat) : Int) = d + (b64 : Int) * val (b64 : Int) l := by
    rw [← h3]; simp; omega
  have h5 : val (b64 : Int) (d :: l) = d + (b64 : Int) * val (b64 : Int) l := rfl
  omega
def thousand : Nat := 1000
def lim : Nat := b64 ^ thousand
theorem lim_pow {n : Nat} (h : n ≤ 1000) : b64 ^ n ≤ lim := Nat.pow_le_pow_right (by decide) (show n ≤ thousand from h)
theorem pow_lt_lim {n : Nat} (h : n < 1000) : b64 ^ n + b64 ^ n ≤ lim := by
  have h1 : b64 ^ (n + 1) ≤ lim := lim_pow h
  have h2 : b64 ^ n * 2 ≤ b64 ^ n * b64 := Nat.mul_le_mul_left _ b64_two
  rw [Nat.pow_succ] at h1
  omega
theorem digs_len {v : Nat} (hv : v < lim) : (digs v).length ≤ 4000 := by
  have h : lim = b16 ^ (4 * thousand) := by
    unfold lim
    rw [b64_pow, ← Nat.pow_mul]
  rw [h] at hv
  have h2 := toD_len_le b16_two hv
  exact Nat.le_trans h2 (by decide)
theorem b64_pow2 (m : Nat) : b64 ^ m = 2 ^ (64 * m) := by
  have h : b64 = 2 ^ 64 := by decide
  rw [h, ← Nat.pow_mul]
theorem pow2_le_b64 {n m : Nat} (h : n ≤ 64 * m) : 2 ^ n ≤ b64 ^ m := by
  rw [b64_pow2]
  exact Nat.pow_le_pow_right (by decide) h
theorem b64_le_pow2 {n m : Nat} (h : 64 * m ≤ n) : b64 ^ m ≤ 2 ^ n := by
  rw [b64_pow2]
  exact Nat.pow_le_pow_right (by decide) h
theorem num_lt_p {a : List Int} (da : Dig (b64 : Int) a) (ha : a.length ≤ 64) : num a < b64 ^ 64 := Nat.lt_of_lt_of_le (num_lt da) (Nat.pow_le_pow_right (show b64 > 0 by decide) ha)
def cmpN (x y : Nat) : Int := if x < y then -1 else if x = y then 0 else 1
def toldV (v : Nat) : List Int × Int := if v < b64 ^ 64 then (limbs v, 0) else ([], 4)
theorem limbs_long (v : Nat) : (limbs v).length ≤ 64 ↔ v < b64 ^ 64 := toD_len_iff b64_two v 64
theorem val_base (l : List Int) (hl : Dig (b64 : Int) l) : ∃ m, Dig (b16 : Int) m ∧ m.length = 4 * l.length ∧ val (b16 : Int) m = val (b64 : Int) l ∧ m = l.flatMap (fun x => [x % 65536, x / 65536 % 65536, x / 65536 / 65536 % 65536, x / 65536 / 65536 / 65536 % 65536]) := by
  induction l with
  | nil => exact ⟨[], Dig.nil, rfl, rfl, rfl⟩
  | cons d l ih =>
    have h1 := Dig.cons.1 hl
    obtain ⟨m, hm, hlen, hv, he⟩ := ih h1.2
    refine ⟨[d % 65536, d / 65536 % 65536, d / 65536 / 65536 % 65536, d / 65536 / 65536 / 65536 % 65536] ++ m, ?_, ?_, ?_, ?_⟩
    · refine Dig.append.2 ⟨?_, hm⟩
      intro x hx
      simp only [List.mem_cons, List.not_mem_nil, or_false] at hx
      simp only [b16]
      omega
    · simp only [List.length_append, List.length_cons, List.length_nil, hlen]; omega
    · rw [val_append, hv]
      have h2 := h1.1
      simp only [b64] at h2 ⊢
      simp only [val, b16, List.length_cons, List.length_nil]
      omega
    · simp only [List.flatMap_cons, ← he]
def bl (n : Nat) : Nat := if n = 0 then 0 else n.log2 + 1
theorem bl_lt (n : Nat) : n < 2 ^ bl n := by
  unfold bl
  by_cases h : n = 0
  · subst h; decide
  · rw [if_neg h]; exact Nat.lt_log2_self
theorem bl_ge {n : Nat} (h : n ≠ 0) : 2 ^ (bl n - 1) ≤ n := by
  unfold bl
  rw [if_neg h, Nat.add_sub_cancel]
  exact Nat.log2_self_le h
theorem bl_pos {n : Nat} (h : n ≠ 0) : 0 < bl n := by unfold bl; rw [if_neg h]; omega
theorem bl_unique {n m : Nat} (h1 : n < 2 ^ m) (h2 : m = 0 ∨ 2 ^ (m - 1) ≤ n) : bl n = m := by
  by_cases h : n = 0
  · subst h
    rcases h2 with h2 | h2
    · rw [h2]; rfl
    · have := Nat.pow_pos (a := 2) (n := m - 1) (by decide)
      omega
  · have a1 := bl_lt n
    have a2 := bl_ge h
    have a3 := bl_pos h
    have hm : 0 < m := by
      by_cases e : m = 0
      · subst e; simp at h1; omega
      · omega
    have b1 : bl n - 1 < m := (Nat.pow_lt_pow_iff_right (a := 2) (by decide)).1 (by omega)
    have b2 : m - 1 < bl n := by
      rcases h2 with h2 | h2
      · omega
      · exact (Nat.pow_lt_pow_iff_right (a := 2) (by decide)).1 (by omega)
    omega
theorem bl_shift (n s : Nat) (h : n / 2 ^ s ≠ 0) : bl n = s + bl (n / 2 ^ s) := by
  have a1 := bl_lt (n / 2 ^ s)
  have a2 := bl_ge h
  have a3 := bl_pos h
  have hp : 0 < 2 ^ s := Nat.pow_pos (by decide)
  refine bl_unique ?_ (Or.inr ?_)
  · rw [Nat.pow_add]
    have := Nat.lt_mul_of_div_lt a1 hp
    rw [Nat.mul_comm]
    exact this
  · rw [show s + bl (n / 2 ^ s) - 1 = s + (bl (n / 2 ^ s) - 1) from by omega, Nat.pow_add]
    have := Nat.mul_le_mul_left (2 ^ s) a2
    exact Nat.le_trans this (Nat.mul_div_le n (2 ^ s))
theorem bl_le {x m : Nat} (h : x < 2 ^ m) : bl x ≤ m := by
  by_cases hx : x = 0
  · subst hx; exact Nat.zero_le _
  · have a2 := bl_ge hx
    have a3 := bl_pos hx
    have : bl x - 1 < m := (Nat.pow_lt_pow_iff_right (a := 2) (by decide)).1 (by omega)
    omega
theorem bl_le8 {x : Nat} (h : x < 256) : bl x ≤ 8 := bl_le h
end Go.Proofs.Ytnaphgnkhhapoab.Z
end
section
namespace Go.Proofs.Ytnaphgnkhhapoab.F
open Go.RowKit Go.Proofs.YtnaphgnkhhapoabW.PrintWords Go.Proofs.YtnaphgnkhhapoabW.PrintLast Go.Proofs.YtnaphgnkhhapoabW.PrintMore
attribute [local go_sem] max2_int min2_int max_two min_two max_three min_three max_four min_four
set_option linter.unusedVariables false
set_option linter.unusedSimpArgs false
open Go.Proofs.Ytnaphgnkhhapoab.Z (strip)
theorem strip_take (l : List Int) : ∃ k : Nat, k ≤ l.length ∧ strip l = l.take k ∧ (∀ j, k ≤ j → j < l.length → l.getD j 0 = 0) ∧ (0 < k → l.getD (k - 1) 0 ≠ 0) := by
  induction l with
  | nil => exact ⟨0, Nat.le_refl _, rfl, fun j _ hj => absurd hj (Nat.not_lt_zero _), fun h => absurd h (Nat.lt_irrefl _)⟩
  | cons d l ih =>
    obtain ⟨k, h1, h2, h3, h4⟩ := ih
    by_cases hk : k = 0
    · subst hk
      have hs : strip l = [] := by rw [h2]; rfl
      by_cases hd : d = 0
      · refine ⟨0, Nat.zero_le _, ?_, fun j _ hj => ?_, fun h => absurd h (Nat.lt_irrefl _)⟩
        · simp [strip, hs, hd]
        · cases j with
          | zero => simpa using hd
          | succ j => simpa using h3 j (Nat.zero_le _) (by simpa using hj)
      · refine ⟨1, by simp, ?_, fun j hj1 hj => ?_, fun _ => by simpa using hd⟩
        · simp [strip, hs, hd]
        · cases j with
          | zero => omega
          | succ j => simpa using h3 j (Nat.zero_le _) (by simpa using hj)
    · have hne : strip l ≠ [] := by
        rw [h2]
        intro e
        have := congrArg List.length e
        rw [List.length_take, List.length_nil] at this
        omega
      refine ⟨k + 1, by simp; omega, ?_, fun j hj1 hj => ?_, fun _ => ?_⟩
      · rw [List.take_succ_cons, ← h2]
        simp [strip, hne]
      · cases j with
        | zero => omega
        | succ j => simpa using h3 j (by omega) (by simpa using hj)
      · have := h4 (by omega)
        rw [show k + 1 - 1 = (k - 1) + 1 from by omega]
        simpa using this
theorem nat_trimC.calls (A0 : Option Addr) (c0 : Nat) (l0 : List Int) (w : World) (hr0 : Kd.C (Kd.int .u64) w A0 l0.length l0) (hc0 : l0.length ≤ c0) :
    Calls Try.prog 72 #[.slice A0 l0.length c0] w fun e w' => e = .returned (.slice A0 (strip l0).length c0) ∧ Drawn0 w w' := by
  have HR0 := Aside0.mk hr0
  obtain ⟨k, hk, hs, hz, hn⟩ := strip_take l0
  have hlen : (strip l0).length = k := by rw [hs, List.length_take]; omega
  rw [hlen]
  have hbig : l0.length ≤ 9223372036854775807 := hr0.2.1
  have HZ := Aside0.mk hz
  have HN := Aside0.mk hn
  have HC0 := Aside0.mk hc0
  clear hr0 hz hn hs hlen
  obtain ⟨i0, hi0, _, hsz, _⟩ := info_parts info42
  have hcut := fun W => cut_to (P := Try.prog) 23 42 .i64 Try.underlying23 hi0 A0 l0.length c0 (k : Int) (Int.natCast_nonneg k) (by omega) HC0.out W
  rw [Int.toNat_natCast] at hcut
  have HCUT := Aside0.mk hcut
  clear hcut hi0 hsz
  go_enter Try.func72, Try.ntmps72
  go_wp2
  go_loopg [3] l0.length (fun gg s3 wr => ∃ n : Nat, k ≤ n ∧ n ≤ l0.length ∧ n - k ≤ gg ∧ s3 = .int .i64 (n : Int) ∧ Aside0 (Drawn0 w wr))
  case atStart => exact ⟨l0.length, hk, Nat.le_refl _, by omega, rfl, ⟨Drawn0.refl _⟩⟩
  case round =>
    obtain ⟨n, hkn, hnl, hg, rfl, D⟩ := hrel
    by_cases hn0 : n = 0
    · subst hn0
      obtain rfl : k = 0 := by omega
      have hcut2 := HCUT.out
      go_wp2
      go_ret
      exact ⟨rfl, D.out⟩
    · obtain ⟨m, rfl⟩ : ∃ m, n = m + 1 := ⟨n - 1, by omega⟩
      have hpos : decide ((0 : Int) < ((m + 1 : Nat) : Int)) = true := decide_eq_true (by omega)
      have e1 : ((m + 1 : Nat) : Int) - 1 = (m : Int) := by omega
      have hC1 : Kd.C (Kd.int .u64) wr A0 l0.length l0 := Kd.C_below HR0.out D.out.below
      obtain ⟨ad, hA, hcell⟩ := Kd.at_int hC1 (m : Int) (Int.natCast_nonneg m) (by omega)
      subst hA
      simp only [Go.IntWalk.toNatUp] at hcell
      have HX := HZ.out m
      have HY := HN.out
      clear hC1
      rw [show rd l0 (m : Int) = l0.getD m 0 from rfl] at hcell
      generalize hx : l0.getD m 0 = x at hcell HX
      have D2 := D
      have hcut2 := HCUT.out
      by_cases hlast : k ≤ m
      · have hx0 : (x == 0) = true := by rw [HX hlast (by omega)]; rfl
        clear D HX HY hx hcut2
        go_wp2
        go_roundg (m - k)
        case measure => omega
        case rel => exact ⟨m, hlast, by omega, by omega, rfl, D2⟩
      · obtain rfl : k = m + 1 := by omega
        have hx0 : (x == 0) = false := by
          have := HY (by omega)
          rw [Nat.add_sub_cancel, hx] at this
          simpa using this
        clear D HX HY hx
        go_wp2
        go_ret
        exact ⟨rfl, D2.out⟩
theorem nat_low.calls (A0 : Option Addr) (c0 : Nat) (l0 : List Int) (gn n : Nat) (w : World) (hr0 : Kd.C (Kd.int .u64) w A0 l0.length l0) (hc0 : l0.length ≤ c0) (hg : w.heap[gn]? = some (.cells #[.int .i64 (n : Int)] 3 (0, 0))) :
    Calls Try.prog 92 #[.slice A0 l0.length c0, .pointer (some ⟨gn, 0, none⟩)] w fun e w' => e = .returned (.slice A0 (strip (l0.take n)).length c0) ∧ Drawn0 w w' := by
  have HR0 := Aside0.mk hr0
  have HC0 := Aside0.mk hc0
  have hcell := (blk_cell hg 0).trans rfl
  obtain ⟨i0, hi0, _, hsz, _⟩ := info_parts info42
  obtain ⟨m, hm⟩ : ∃ m : Nat, m = min n l0.length := ⟨_, rfl⟩
  have hml : m ≤ l0.length := by omega
  have htk : l0.take n = l0.take m := by
    rcases Nat.le_total n l0.length with h | h
    · rw [show m = n from by omega]
    · rw [show m = l0.length from by omega, List.take_of_length_le h, List.take_length]
  rw [htk]
  have hcut := fun W => cut_to (P := Try.prog) 23 42 .i64 Try.underlying23 hi0 A0 l0.length c0 (m : Int) (Int.natCast_nonneg m) (by omega) W
  rw [Int.toNat_natCast] at hcut
  have hC1 : Kd.C (Kd.int .u64) w A0 (l0.take m).length (l0.take m) := Kd.C_take hr0 hml
  have hl1 : (l0.take m).length = m := by rw [List.length_take]; omega
  have HT := Aside0.mk (nat_trimC.calls A0 c0 (l0.take m) w hC1 (by omega))
  rw [hl1] at HT
  have HCUT := Aside0.mk hcut
  have HM := Aside0.mk hm
  have HML := Aside0.mk hml
  clear hr0 hc0 hg hi0 hsz hcut hC1 hl1 hm htk hml
  by_cases hlt : (l0.length : Int) < (n : Int)
  · have h1 : decide ((l0.length : Int) < (n : Int)) = true := decide_eq_true hlt
    have h1N : (l0.length < n) = True := eq_true (by omega)
    obtain rfl : m = l0.length := by have := HM.out; omega
    rw [List.take_length] at HT ⊢
    have hcut2 := HCUT.out
    have hq1 := eq_true (show ((l0.length : Nat) : Int) ≤ (c0 : Int) by have := HC0.out; have := HML.out; omega)
    have hq2 := eq_true (show l0.length ≤ c0 by have := HC0.out; have := HML.out; omega)
    clear hlt
    go_enter Try.func92, Try.ntmps92
    go_wp2_with (go_at_call 72; (with_reducible refine HT.out.mono ?_); rintro e w' ⟨rfl, hd⟩)
    go_ret
    exact ⟨rfl, hd⟩
  · have h1 : decide ((l0.length : Int) < (n : Int)) = false := decide_eq_false hlt
    have h1N : (l0.length < n) = False := eq_false (by omega)
    obtain rfl : m = n := by have := HM.out; omega
    have hcut2 := HCUT.out
    have hq1 := eq_true (show ((m : Nat) : Int) ≤ (c0 : Int) by have := HC0.out; have := HML.out; omega)
    have hq2 := eq_true (show m ≤ c0 by have := HC0.out; have := HML.out; omega)
    clear hlt
    go_enter Try.func92, Try.ntmps92
    go_wp2_with (go_at_call 72; (with_reducible refine HT.out.mono ?_); rintro e w' ⟨rfl, hd⟩)
    go_ret
    exact ⟨rfl, hd⟩
theorem nat_high.calls (A0 : Option Addr) (c0 : Nat) (l0 : List Int) (gn n : Nat) (w : World) (hc0 : l0.length ≤ c0) (hg : w.heap[gn]? = some (.cells #[.int .i64 (n : Int)] 3 (0, 0))) :
    Calls Try.prog 93 #[.slice A0 l0.length c0, .pointer (some ⟨gn, 0, none⟩)] w fun e w' => ∃ (A1 : Option Addr) (c1 : Nat), e = .returned (.slice A1 (l0.drop n).length c1) ∧ (l0.drop n).length ≤ c1 ∧ (∀ W : World, Kd.C (Kd.int .u64) W A0 l0.length l0 → Kd.C (Kd.int .u64) W A1 (l0.drop n).length (l0.drop n)) ∧ Drawn0 w w' := by
  have HC0 := Aside0.mk hc0
  have hcell := (blk_cell hg 0).trans rfl
  obtain ⟨i0, hi0, _, hsz, _⟩ := info_parts info42
  obtain ⟨m, hm⟩ : ∃ m : Nat, m = min n l0.length := ⟨_, rfl⟩
  have hml : m ≤ l0.length := by omega
  have hdr : l0.drop n = l0.drop m := by
    rcases Nat.le_total n l0.length with h | h
    · rw [show m = n from by omega]
    · rw [List.drop_of_length_le h, List.drop_of_length_le (by omega)]
  rw [hdr]
  obtain ⟨A2, c2, hc2, hA2, hcut⟩ : ∃ (A2 : Option Addr) (c2 : Nat), (l0.drop m).length ≤ c2 ∧ (∀ W : World, Kd.C (Kd.int .u64) W A0 l0.length l0 → Kd.C (Kd.int .u64) W A2 (l0.drop m).length (l0.drop m)) ∧ ∀ W : World, (Instr.slice 23 (.slice A0 l0.length c0) (some (.int .i64 (m : Int))) none none).run Try.prog W = .ok (.slice A2 (l0.drop m).length c2) W := by
    refine ⟨if c0 = (m : Int).toNat then A0 else A0.map (·.add ((m : Int).toNat * 1)), c0 - (m : Int).toNat, ?_, fun W h => ?_, fun W => ?_⟩
    · rw [List.length_drop, Int.toNat_natCast]; omega
    · rw [Int.toNat_natCast]
      exact Kd.C_drop h (by omega) hc0
    · rw [List.length_drop]
      have h3 := cut_from (P := Try.prog) 23 42 .i64 Try.underlying23 hi0 1 hsz A0 l0.length c0 (m : Int) (Int.natCast_nonneg m) (by omega) W
      rw [Int.toNat_natCast] at h3 ⊢
      exact h3
  obtain ⟨Y, hY⟩ : ∃ Y, Y = l0.drop m := ⟨_, rfl⟩
  rw [← hY] at hcut hA2 hc2 ⊢
  have HCUT := Aside0.mk hcut
  have HA := Aside0.mk hA2
  have HC2 := Aside0.mk hc2
  have HM := Aside0.mk hm
  have HML := Aside0.mk hml
  clear hc0 hg hi0 hsz hcut hA2 hc2 hm hdr hml hY
  by_cases hlt : (l0.length : Int) < (n : Int)
  · have h1 : decide ((l0.length : Int) < (n : Int)) = true := decide_eq_true hlt
    have h1N : (l0.length < n) = True := eq_true (by omega)
    obtain rfl : m = l0.length := by have := HM.out; omega
    have hcut2 := HCUT.out
    have hq1 := eq_true (show ((l0.length : Nat) : Int) ≤ (c0 : Int) by have := HC0.out; have := HML.out; omega)
    have hq2 := eq_true (show l0.length ≤ c0 by have := HC0.out; have := HML.out; omega)
    clear hlt
    go_enter Try.func93, Try.ntmps93
    go_wp2
    go_ret
    exact ⟨A2, c2, rfl, HC2.out, HA.out, Drawn0.refl _⟩
  · have h1 : decide ((l0.length : Int) < (n : Int)) = false := decide_eq_false hlt
    have h1N : (l0.length < n) = False := eq_false (by omega)
    obtain rfl : m = n := by have := HM.out; omega
    have hcut2 := HCUT.out
    have hq1 := eq_true (show ((m : Nat) : Int) ≤ (c0 : Int) by have := HC0.out; have := HML.out; omega)
    have hq2 := eq_true (show m ≤ c0 by have := HC0.out; have := HML.out; omega)
    clear hlt
    go_enter Try.func93, Try.ntmps93
    go_wp2
    go_ret
    exact ⟨A2, c2, rfl, HC2.out, HA.out, Drawn0.refl _⟩
end Go.Proofs.Ytnaphgnkhhapoab.F
end
section
namespace Go.Proofs.Ytnaphgnkhhapoab.Z
open Go.RowKit Go.Proofs.Ytnaphgnkhhapoab.F Go.Proofs.YtnaphgnkhhapoabW.PrintWords
set_option linter.unusedSimpArgs false
set_option linter.unusedVariables false
theorem nat_trim_loop (l : List Int) (h : l.length ≤ maxLen) : ∀ n : Nat, n ≤ l.length → Evt (fun k => nat_trim.l0 k l (n : Int)) (strip (l.take n)) := by
  unfold maxLen at h
  intro n
  induction n with
  | zero =>
    intro _
    refine Evt.succ ?_
    simp only [nat_trim.l0]
    refine Evt.ite_neg (by omega) (Evt.ite_pos (by omega) (Evt.ite_pos (by omega) ?_))
    simp [strip]
    exact Evt.pure _
  | succ n ih =>
    intro hn
    refine Evt.succ ?_
    simp only [nat_trim.l0]
    rw [w64 (by omega) (by omega), show ((n + 1 : Nat) : Int) - 1 = (n : Int) from by omega]
    refine Evt.ite_pos (by omega) (Evt.ite_pos (by omega) (Evt.ite_pos (by omega) ?_))
    rw [rd_nat, List.take_succ_eq_append_getElem (show n < l.length by omega)]
    have hg : l.getD n 0 = l[n] := by simp [show n < l.length by omega]
    rw [hg]
    by_cases h0 : l[n] = 0
    · rw [h0, strip_snoc_zero]
      exact Evt.ite_pos rfl (ih (by omega))
    · rw [strip_snoc h0]
      refine Evt.ite_neg h0 (Evt.ite_pos (by omega) (Evt.ite_pos (by omega) ?_))
      rw [← List.take_succ_eq_append_getElem (show n < l.length by omega)]
      exact Evt.pure _
theorem nat_trim_ev (l : List Int) (h : l.length ≤ maxLen) : Evt (fun k => nat_trim.f k l) (strip l) := by
  have := nat_trim_loop l h l.length (Nat.le_refl _)
  exact this.congr (fun k => rfl) (by rw [List.take_length])
theorem set_at {α : Type} (p : List α) (x v : α) (r : List α) : (p ++ x :: r).set p.length v = p ++ v :: r := by simp
theorem carry_of {c : Int} (h : c = 0 ∨ c = 1) : carry01 c = true := decide_eq_true h
def sumL : List Int → List Int → Int → List Int
  | [], _, c => [c]
  | x :: a, b, c => add64_s x (b.getD 0 0) c :: sumL a (b.drop 1) (add64_c x (b.getD 0 0) c)
theorem add64_facts {x y c : Int} (hx : 0 ≤ x ∧ x < (b64 : Int)) (hy : 0 ≤ y ∧ y < (b64 : Int)) (hc : c = 0 ∨ c = 1) :
    add64_s x y c + (b64 : Int) * add64_c x y c = x + y + c ∧ (0 ≤ add64_s x y c ∧ add64_s x y c < (b64 : Int)) ∧ (add64_c x y c = 0 ∨ add64_c x y c = 1) := by
  unfold add64_s add64_c
  simp only [b64] at *
  omega
theorem sumL_facts : ∀ (a b : List Int) (c : Int), Dig (b64 : Int) a → Dig (b64 : Int) b → b.length ≤ a.length → (c = 0 ∨ c = 1) →
    Dig (b64 : Int) (sumL a b c) ∧ val (b64 : Int) (sumL a b c) = val (b64 : Int) a + val (b64 : Int) b + c := by
  intro a
  induction a with
  | nil =>
    intro b c _ _ hlen hc
    have : b = [] := List.length_eq_zero_iff.1 (by simpa using hlen)
    subst this
    refine ⟨?_, ?_⟩
    · intro x hx
      simp [sumL] at hx
      subst hx
      simp only [b64]; omega
    · simp [sumL, val]
  | cons x a ih =>
    intro b c da db hlen hc
    have d1 := Dig.cons.1 da
    have hy := db.getD b64_pos 0
    obtain ⟨e1, e2, e3⟩ := add64_facts d1.1 hy hc
    obtain ⟨i1, i2⟩ := ih (b.drop 1) _ d1.2 (db.drop 1) (by simp at hlen ⊢; omega) e3
    refine ⟨Dig.cons.2 ⟨e2, i1⟩, ?_⟩
    simp only [sumL, val]
    rw [i2]
    have hb : val (b64 : Int) b = b.getD 0 0 + (b64 : Int) * val (b64 : Int) (b.drop 1) := by
      cases b with
      | nil => simp [val]
      | cons y b => simp [val]
    rw [hb]
    generalize (b64 : Int) = B at *
    generalize add64_s x (b.getD 0 0) c = s at *
    generalize add64_c x (b.getD 0 0) c = t at *
    generalize val B a = va at *
    generalize val B (b.drop 1) = vb at *
    generalize b.getD 0 0 = y at *
    have : B * (va + vb + t) = B * va + B * vb + B * t := by rw [Int.mul_add, Int.mul_add]
    omega
theorem nat_sum_l0 (a b : List Int) (ha : a.length ≤ 1000) (hb : b.length ≤ 1000) (da : Dig (b64 : Int) a) (db : Dig (b64 : Int) b) (n : Nat) : ∀ (i : Nat) (p : List Int) (c : Int), p.length = i → i ≤ a.length → a.length - i = n → (c = 0 ∨ c = 1) →
    Evt (fun k => nat_sum.l0 k a b (p ++ List.replicate (n + 1) 0) c (a.length : Int) (i : Int)) (p ++ sumL (a.drop i) (b.drop i) c) := by
  induction n with
  | zero =>
    intro i p c hp hi hn hc
    refine Evt.succ ?_
    simp only [nat_sum.l0]
    refine Evt.ite_neg (by omega) (Evt.ite_pos (by omega) (Evt.ite_pos (by simp; omega) ?_))
    rw [List.drop_of_length_le (show a.length ≤ i by omega), show ((a.length : Int)).toNat = p.length from by omega]
    simp only [sumL, List.replicate_succ, List.replicate_zero]
    rw [set_at]
    exact Evt.pure _
  | succ n ih =>
    intro i p c hp hi hn hc
    have hlt : i < a.length := by omega
    refine Evt.succ ?_
    simp only [nat_sum.l0]
    refine Evt.ite_pos (by omega) ?_
    have hx : rd a (i : Int) = a[i] := by simp [rd_nat, hlt]
    have hxr := da a[i] (List.getElem_mem hlt)
    have hset : ∀ v : Int, (p ++ List.replicate (n + 1 + 1) 0).set ((i : Int)).toNat v = (p ++ [v]) ++ List.replicate (n + 1) 0 := by
      intro v
      rw [show ((i : Int)).toNat = p.length from by omega, List.replicate_succ, set_at, List.append_assoc]
      rfl
    have hyr := (db.drop i).getD b64_pos 0
    have hfin : ∀ y : Int, y = (b.drop i).getD 0 0 → Evt (fun k => nat_sum.l0 k a b ((p ++ List.replicate (n + 1 + 1) 0).set ((i : Int)).toNat (add64_s (rd a (i : Int)) y c)) (add64_c (rd a (i : Int)) y c) (a.length : Int) (wrap64 ((i : Int) + 1))) (p ++ sumL (a.drop i) (b.drop i) c) := by
      intro y hy
      subst hy
      obtain ⟨e1, e2, e3⟩ := add64_facts hxr hyr hc
      rw [hx, hset, w64 (by omega) (by omega)]
      have h := ih (i + 1) (p ++ [add64_s a[i] ((b.drop i).getD 0 0) c]) (add64_c a[i] ((b.drop i).getD 0 0) c) (by simp [hp]) (by omega) (by omega) e3
      refine h.congr (fun k => rfl) ?_
      rw [List.drop_eq_getElem_cons hlt]
      simp only [sumL, List.drop_drop, List.append_assoc, List.singleton_append]
    by_cases hib : i < b.length
    · refine Evt.ite_pos (by omega) (Evt.ite_pos (by omega) (Evt.ite_pos (by omega) (Evt.ite_pos (carry_of hc) (Evt.ite_pos (by simp; omega) ?_))))
      refine hfin _ ?_
      simp [rd_nat, hib]
    · refine Evt.ite_neg (by omega) (Evt.ite_pos (by omega) (Evt.ite_pos (by omega) (Evt.ite_pos (carry_of hc) (Evt.ite_pos (by simp; omega) ?_))))
      refine hfin _ ?_
      simp [List.drop_of_length_le (show b.length ≤ i by omega)]
theorem nat_sum_l51 (a b : List Int) (ha : a.length ≤ 1000) (hb : b.length ≤ 1000) (da : Dig (b64 : Int) a) (db : Dig (b64 : Int) b) (n : Nat) : ∀ (i : Nat) (p : List Int) (c : Int), p.length = i → i ≤ a.length → a.length - i = n → (c = 0 ∨ c = 1) →
    Evt (fun k => nat_sum.l51 k a b (p ++ List.replicate (n + 1) 0) c (a.length : Int) (i : Int)) (p ++ sumL (a.drop i) (b.drop i) c) := by
  induction n with
  | zero =>
    intro i p c hp hi hn hc
    refine Evt.succ ?_
    simp only [nat_sum.l51]
    refine Evt.ite_neg (by omega) (Evt.ite_pos (by omega) (Evt.ite_pos (by simp; omega) ?_))
    rw [List.drop_of_length_le (show a.length ≤ i by omega), show ((a.length : Int)).toNat = p.length from by omega]
    simp only [sumL, List.replicate_succ, List.replicate_zero]
    rw [set_at]
    exact Evt.pure _
  | succ n ih =>
    intro i p c hp hi hn hc
    have hlt : i < a.length := by omega
    refine Evt.succ ?_
    simp only [nat_sum.l51]
    refine Evt.ite_pos (by omega) ?_
    have hx : rd a (i : Int) = a[i] := by simp [rd_nat, hlt]
    have hxr := da a[i] (List.getElem_mem hlt)
    have hset : ∀ v : Int, (p ++ List.replicate (n + 1 + 1) 0).set ((i : Int)).toNat v = (p ++ [v]) ++ List.replicate (n + 1) 0 := by
      intro v
      rw [show ((i : Int)).toNat = p.length from by omega, List.replicate_succ, set_at, List.append_assoc]
      rfl
    have hyr := (db.drop i).getD b64_pos 0
    have hfin : ∀ y : Int, y = (b.drop i).getD 0 0 → Evt (fun k => nat_sum.l51 k a b ((p ++ List.replicate (n + 1 + 1) 0).set ((i : Int)).toNat (add64_s (rd a (i : Int)) y c)) (add64_c (rd a (i : Int)) y c) (a.length : Int) (wrap64 ((i : Int) + 1))) (p ++ sumL (a.drop i) (b.drop i) c) := by
      intro y hy
      subst hy
      obtain ⟨e1, e2, e3⟩ := add64_facts hxr hyr hc
      rw [hx, hset, w64 (by omega) (by omega)]
      have h := ih (i + 1) (p ++ [add64_s a[i] ((b.drop i).getD 0 0) c]) (add64_c a[i] ((b.drop i).getD 0 0) c) (by simp [hp]) (by omega) (by omega) e3
      refine h.congr (fun k => rfl) ?_
      rw [List.drop_eq_getElem_cons hlt]
      simp only [sumL, List.drop_drop, List.append_assoc, List.singleton_append]
    by_cases hib : i < b.length
    · refine Evt.ite_pos (by omega) (Evt.ite_pos (by omega) (Evt.ite_pos (by omega) (Evt.ite_pos (carry_of hc) (Evt.ite_pos (by simp; omega) ?_))))
      refine hfin _ ?_
      simp [rd_nat, hib]
    · refine Evt.ite_neg (by omega) (Evt.ite_pos (by omega) (Evt.ite_pos (by omega) (Evt.ite_pos (carry_of hc) (Evt.ite_pos (by simp; omega) ?_))))
      refine hfin _ ?_
      simp [List.drop_of_length_le (show b.length ≤ i by omega)]
theorem nat_sum_ev (a b : List Int) (ha : a.length ≤ 1000) (hb : b.length ≤ 1000) (da : Dig (b64 : Int) a) (db : Dig (b64 : Int) b) : ∃ s, Evt (fun k => nat_sum.f k a b) s ∧ Dig (b64 : Int) s ∧ num s = num a + num b ∧ s.length ≤ 1002 := by
  unfold nat_sum.f
  have fin : ∀ (x y : List Int), Dig (b64 : Int) x → Dig (b64 : Int) y → y.length ≤ x.length → x.length ≤ 1000 → Dig (b64 : Int) (sumL x y 0) ∧ num (sumL x y 0) = num x + num y ∧ (sumL x y 0).length ≤ 1002 := by
    intro x y dx dy hlen hx
    obtain ⟨f1, f2⟩ := sumL_facts x y 0 dx dy hlen (Or.inl rfl)
    have l1 : ∀ (x y : List Int) (c : Int), (sumL x y c).length = x.length + 1 := by
      intro x
      induction x with
      | nil => intro y c; rfl
      | cons z x ih => intro y c; simp only [sumL, List.length_cons, ih]
    refine ⟨f1, ?_, by rw [l1]; omega⟩
    have := num_val f1
    have := num_val dx
    have := num_val dy
    omega
  have ex : ∀ x : List Int, x.length ≤ 1000 → wrap64 ((x.length : Int) + 1) = ((x.length + 1 : Nat) : Int) := fun x hx => by rw [w64 (by omega) (by omega)]; omega
  by_cases h : a.length < b.length
  · refine ⟨sumL b a 0, Evt.ite_pos (by omega) ?_, (fin b a db da (by omega) hb).1, by rw [(fin b a db da (by omega) hb).2.1]; omega, (fin b a db da (by omega) hb).2.2⟩
    rw [ex b hb]
    refine Evt.ite_pos (by omega) (Evt.ite_pos (by omega) ?_)
    exact (nat_sum_l0 b a hb ha db da b.length 0 [] 0 rfl (Nat.zero_le _) (by omega) (Or.inl rfl)).congr (fun k => rfl) (by simp)
  · refine ⟨sumL a b 0, Evt.ite_neg (by omega) ?_, (fin a b da db (by omega) ha).1, (fin a b da db (by omega) ha).2.1, (fin a b da db (by omega) ha).2.2⟩
    rw [ex a ha]
    refine Evt.ite_pos (by omega) (Evt.ite_pos (by omega) ?_)
    exact (nat_sum_l51 a b ha hb da db a.length 0 [] 0 rfl (Nat.zero_le _) (by omega) (Or.inl rfl)).congr (fun k => rfl) (by simp)
def lessL : List Int → List Int → Int → List Int
  | [], _, _ => []
  | x :: a, b, c => sub64_s x (b.getD 0 0) c :: lessL a (b.drop 1) (sub64_c x (b.getD 0 0) c)
theorem sub64_facts {x y c : Int} (hx : 0 ≤ x ∧ x < (b64 : Int)) (hy : 0 ≤ y ∧ y < (b64 : Int)) (hc : c = 0 ∨ c = 1) :
    sub64_s x y c - (b64 : Int) * sub64_c x y c = x - y - c ∧ (0 ≤ sub64_s x y c ∧ sub64_s x y c < (b64 : Int)) ∧ (sub64_c x y c = 0 ∨ sub64_c x y c = 1) := by
  unfold sub64_s sub64_c
  simp only [b64] at *
  by_cases h : x.toNat < y.toNat + c.toNat
  · rw [if_pos h]; omega
  · rw [if_neg h]; omega
theorem lessL_len : ∀ (a b : List Int) (c : Int), (lessL a b c).length = a.length := by
  intro a
  induction a with
  | nil => intro b c; rfl
  | cons z x ih => intro b c; simp only [lessL, List.length_cons, ih]
theorem lessL_facts : ∀ (a b : List Int) (c : Int), Dig (b64 : Int) a → Dig (b64 : Int) b → b.length ≤ a.length → (c = 0 ∨ c = 1) →
    Dig (b64 : Int) (lessL a b c) ∧ ∃ t, 0 ≤ t ∧ val (b64 : Int) (lessL a b c) = val (b64 : Int) a - val (b64 : Int) b - c + (b64 : Int) ^ a.length * t := by
  intro a
  induction a with
  | nil =>
    intro b c _ _ hlen hc
    have : b = [] := List.length_eq_zero_iff.1 (by simpa using hlen)
    subst this
    exact ⟨Dig.nil, c, by omega, by simp [lessL, val]; omega⟩
  | cons x a ih =>
    intro b c da db hlen hc
    have d1 := Dig.cons.1 da
    have hy := db.getD b64_pos 0
    obtain ⟨e1, e2, e3⟩ := sub64_facts d1.1 hy hc
    obtain ⟨i1, t, ht, i2⟩ := ih (b.drop 1) _ d1.2 (db.drop 1) (by simp at hlen ⊢; omega) e3
    refine ⟨Dig.cons.2 ⟨e2, i1⟩, t, ht, ?_⟩
    simp only [lessL, val]
    rw [i2]
    have hb : val (b64 : Int) b = b.getD 0 0 + (b64 : Int) * val (b64 : Int) (b.drop 1) := by
      cases b with
      | nil => simp [val]
      | cons y b => simp [val]
    rw [hb]
    generalize (b64 : Int) = B at *
    generalize sub64_s x (b.getD 0 0) c = s at *
    generalize sub64_c x (b.getD 0 0) c = u at *
    generalize val B a = va at *
    generalize val B (b.drop 1) = vb at *
    generalize b.getD 0 0 = y at *
    rw [List.length_cons, Int.pow_succ]
    generalize B ^ a.length = P at *
    have h1 : B * (va - vb - u + P * t) = B * va - B * vb - B * u + P * B * t := by grind
    omega
theorem nat_less_l0 (a b : List Int) (ha : a.length ≤ 1000) (hb : b.length ≤ 1000) (da : Dig (b64 : Int) a) (db : Dig (b64 : Int) b) (n : Nat) : ∀ (i : Nat) (p : List Int) (c : Int), p.length = i → i ≤ a.length → a.length - i = n → (c = 0 ∨ c = 1) →
    Evt (fun k => nat_less.l0 k a b (p ++ List.replicate n 0) c (a.length : Int) (i : Int)) (p ++ lessL (a.drop i) (b.drop i) c) := by
  induction n with
  | zero =>
    intro i p c hp hi hn hc
    refine Evt.succ ?_
    simp only [nat_less.l0]
    refine Evt.ite_neg (by omega) ?_
    rw [List.drop_of_length_le (show a.length ≤ i by omega)]
    simp only [lessL, List.replicate_zero]
    exact Evt.pure _
  | succ n ih =>
    intro i p c hp hi hn hc
    have hlt : i < a.length := by omega
    refine Evt.succ ?_
    simp only [nat_less.l0]
    refine Evt.ite_pos (by omega) ?_
    have hx : rd a (i : Int) = a[i] := by simp [rd_nat, hlt]
    have hxr := da a[i] (List.getElem_mem hlt)
    have hset : ∀ v : Int, (p ++ List.replicate (n + 1) 0).set ((i : Int)).toNat v = (p ++ [v]) ++ List.replicate n 0 := by
      intro v
      rw [show ((i : Int)).toNat = p.length from by omega, List.replicate_succ, set_at, List.append_assoc]
      rfl
    have hyr := (db.drop i).getD b64_pos 0
    have hfin : ∀ y : Int, y = (b.drop i).getD 0 0 → Evt (fun k => nat_less.l0 k a b ((p ++ List.replicate (n + 1) 0).set ((i : Int)).toNat (sub64_s (rd a (i : Int)) y c)) (sub64_c (rd a (i : Int)) y c) (a.length : Int) (wrap64 ((i : Int) + 1))) (p ++ lessL (a.drop i) (b.drop i) c) := by
      intro y hy
      subst hy
      obtain ⟨e1, e2, e3⟩ := sub64_facts hxr hyr hc
      rw [hx, hset, w64 (by omega) (by omega)]
      have h := ih (i + 1) (p ++ [sub64_s a[i] ((b.drop i).getD 0 0) c]) (sub64_c a[i] ((b.drop i).getD 0 0) c) (by simp [hp]) (by omega) (by omega) e3
      refine h.congr (fun k => rfl) ?_
      rw [List.drop_eq_getElem_cons hlt]
      simp only [lessL, List.drop_drop, List.append_assoc, List.singleton_append]
    by_cases hib : i < b.length
    · refine Evt.ite_pos (by omega) (Evt.ite_pos (by omega) (Evt.ite_pos (by omega) (Evt.ite_pos (carry_of hc) (Evt.ite_pos (by simp; omega) ?_))))
      refine hfin _ ?_
      simp [rd_nat, hib]
    · refine Evt.ite_neg (by omega) (Evt.ite_pos (by omega) (Evt.ite_pos (by omega) (Evt.ite_pos (carry_of hc) (Evt.ite_pos (by simp; omega) ?_))))
      refine hfin _ ?_
      simp [List.drop_of_length_le (show b.length ≤ i by omega)]
theorem nat_less_ev (a b : List Int) (ha : a.length ≤ 1000) (hb : b.length ≤ a.length) (da : Dig (b64 : Int) a) (db : Dig (b64 : Int) b) (hle : num b ≤ num a) : ∃ s, Evt (fun k => nat_less.f k a b) s ∧ Dig (b64 : Int) s ∧ num s = num a - num b ∧ s.length = a.length := by
  refine ⟨lessL a b 0, ?_, ?_⟩
  · unfold nat_less.f
    refine Evt.ite_pos (by omega) (Evt.ite_pos (by omega) ?_)
    have h := nat_less_l0 a b ha (by omega) da db a.length 0 [] 0 rfl (Nat.zero_le _) (by omega) (Or.inl rfl)
    exact h.congr (fun k => by simp) (by simp)
  · obtain ⟨f1, t, ht, f2⟩ := lessL_facts a b 0 da db hb (Or.inl rfl)
    refine ⟨f1, ?_, lessL_len a b 0⟩
    have h1 := num_val f1
    have h2 := num_val da
    have h3 := num_val db
    have h4 := num_lt f1
    rw [lessL_len] at h4
    rw [pow_cast] at f2
    have ht0 : t = 0 := by
      by_cases e : t = 0
      · exact e
      · have h5 : ((b64 ^ a.length : Nat) : Int) * 1 ≤ ((b64 ^ a.length : Nat) : Int) * t := Int.mul_le_mul_of_nonneg_left (by omega) (by omega)
        omega
    subst ht0
    rw [Int.mul_zero] at f2
    omega
theorem few7_loop (ls : List (List Int)) (h : ls.length ≤ maxLen) (d : Nat) : ∀ i : Nat, i ≤ ls.length → ls.length - i = d → Evt (fun k => windbreaklaw07_few.l0 k ls (i : Int)) ((ls.drop i).all fun a => decide (a.length ≤ 20)) := by
  unfold maxLen at h
  induction d with
  | zero =>
    intro i hi hd
    refine Evt.succ ?_
    simp only [windbreaklaw07_few.l0]
    refine Evt.ite_neg (by omega) ?_
    rw [show ls.drop i = [] from List.drop_of_length_le (by omega)]
    exact Evt.pure _
  | succ d ih =>
    intro i hi hd
    have hlt : i < ls.length := by omega
    refine Evt.succ ?_
    simp only [windbreaklaw07_few.l0]
    refine Evt.ite_pos (by omega) (Evt.ite_pos (by omega) ?_)
    have hx : rd_L1 ls (i : Int) = ls[i] := by simp [rd_L1, hlt]
    rw [hx, List.drop_eq_getElem_cons hlt, List.all_cons]
    by_cases h70 : ls[i].length ≤ 20
    · refine Evt.ite_neg (by omega) ?_
      rw [w64 (by omega) (by omega)]
      have := ih (i + 1) (by omega) (by omega)
      refine this.congr (fun k => rfl) ?_
      rw [decide_eq_true h70, Bool.true_and]
    · refine Evt.ite_pos (by omega) ?_
      rw [decide_eq_false h70, Bool.false_and]
      exact Evt.pure _
theorem few7_ev (ls : List (List Int)) (h : ls.length ≤ maxLen) : Evt (fun k => windbreaklaw07_few.f k ls) (ls.all fun a => decide (a.length ≤ 20)) := by
  have := few7_loop ls h ls.length 0 (Nat.zero_le _) (by omega)
  exact this.congr (fun k => rfl) (by simp)
theorem nat_Right_eq {l : List Int} (h : l.length ≤ maxLen) : nat_Right.f l = some (rightB l) := by
  unfold maxLen at h
  unfold nat_Right.f rightB
  by_cases h1 : l.length ≤ 64
  · rw [if_pos (by omega)]
    by_cases h2 : l.length = 0
    · rw [if_pos (by omega)]
      simp [h1, h2]
    · rw [if_neg (by omega), w64 (by omega) (by omega), if_pos (by omega), if_pos (by omega), rd_getD]
      rw [show ((l.length : Int) - 1).toNat = l.length - 1 from by omega]
      have h3 : (l.length == 0) = false := by simpa using h2
      rw [h3]
      simp [h1]
  · rw [if_neg (by omega)]
    simp [h1]
theorem nat_told_ev (l : List Int) (h : l.length ≤ 1000000) (d : Dig (b64 : Int) l) : Evt (fun k => nat_told.f k l) (toldV (num l)) := by
  unfold nat_told.f toldV
  refine Evt.bind (nat_trim_ev l (by simp [maxLen]; omega)) ?_
  rw [strip_limbs d]
  have hl := limbs_long (num l)
  by_cases h1 : num l < b64 ^ 64
  · rw [if_pos h1]
    have := hl.2 h1
    exact Evt.ite_neg (by omega) (Evt.pure _)
  · rw [if_neg h1]
    have : ¬ (limbs (num l)).length ≤ 64 := fun hh => h1 (hl.1 hh)
    exact Evt.ite_pos (by omega) (Evt.pure _)
def cmpL (B : Int) (l m : List Int) : Int := if val B l < val B m then -1 else if val B l = val B m then 0 else 1
theorem val_take_succ (B : Int) (l : List Int) (i : Nat) (h : i < l.length) : val B (l.take (i + 1)) = val B (l.take i) + B ^ i * l[i] := by
  rw [List.take_succ_eq_append_getElem h, val_append]
  simp only [val, List.length_take]
  rw [show min i l.length = i from by omega, Int.mul_zero, Int.add_zero]
theorem cmp_step {B : Int} (hB : 0 < B) {l m : List Int} (hl : Dig B l) (hm : Dig B m) (i : Nat) (h1 : i < l.length) (h2 : i < m.length) :
    (l[i] < m[i] → cmpL B (l.take (i + 1)) (m.take (i + 1)) = -1) ∧ (m[i] < l[i] → cmpL B (l.take (i + 1)) (m.take (i + 1)) = 1) ∧ (l[i] = m[i] → cmpL B (l.take (i + 1)) (m.take (i + 1)) = cmpL B (l.take i) (m.take i)) := by
  have a1 := val_nonneg hB (hl.take i)
  have a2 := val_nonneg hB (hm.take i)
  have b1 := val_lt hB (hl.take i)
  have b2 := val_lt hB (hm.take i)
  rw [List.length_take, show min i l.length = i from by omega] at b1
  rw [List.length_take, show min i m.length = i from by omega] at b2
  have hp : 0 < B ^ i := Int.pow_pos hB
  unfold cmpL
  rw [val_take_succ B l i h1, val_take_succ B m i h2]
  refine ⟨fun h => ?_, fun h => ?_, fun h => ?_⟩
  · have h3 : B ^ i * (l[i] + 1) ≤ B ^ i * m[i] := Int.mul_le_mul_of_nonneg_left (by omega) (by omega)
    rw [Int.mul_add, Int.mul_one] at h3
    rw [if_pos (by omega)]
  · have h3 : B ^ i * (m[i] + 1) ≤ B ^ i * l[i] := Int.mul_le_mul_of_nonneg_left (by omega) (by omega)
    rw [Int.mul_add, Int.mul_one] at h3
    rw [if_neg (by omega), if_neg (by omega)]
  · rw [h]
    by_cases c1 : val B (l.take i) < val B (m.take i)
    · rw [if_pos c1, if_pos (by omega)]
    · by_cases c2 : val B (l.take i) = val B (m.take i)
      · rw [if_neg c1, if_pos c2, if_neg (by omega), if_pos (by omega)]
      · rw [if_neg c1, if_neg c2, if_neg (by omega), if_neg (by omega)]
theorem ref_compare_loop {B : Int} (hB : 0 < B) (l m : List Int) (hl : Dig B l) (hm : Dig B m) (hlen : l.length = m.length) (hb : l.length ≤ 1000000) : ∀ i : Nat, i ≤ l.length → Evt (fun k => windbreakref01_compare.l0 k l m ((i : Int) - 1)) (cmpL B (l.take i) (m.take i)) := by
  intro i
  induction i with
  | zero =>
    intro _
    refine Evt.succ ?_
    simp only [windbreakref01_compare.l0]
    refine Evt.ite_neg (by omega) ?_
    exact Evt.pure _
  | succ i ih =>
    intro hi
    have h1 : i < l.length := by omega
    have h2 : i < m.length := by omega
    obtain ⟨s1, s2, s3⟩ := cmp_step hB hl hm i h1 h2
    rw [show (((i + 1 : Nat) : Int) - 1) = (i : Int) from by omega]
    refine Evt.succ ?_
    simp only [windbreakref01_compare.l0]
    refine Evt.ite_pos (by omega) (Evt.ite_pos (by omega) (Evt.ite_pos (by omega) (Evt.ite_pos (by omega) ?_)))
    have e1 : rd l (i : Int) = l[i] := by simp [rd_nat, h1]
    have e2 : rd m (i : Int) = m[i] := by simp [rd_nat, h2]
    rw [e1, e2]
    by_cases c1 : l[i] < m[i]
    · rw [s1 c1]; exact Evt.ite_pos c1 (Evt.pure _)
    · by_cases c2 : m[i] < l[i]
      · rw [s2 c2]; exact Evt.ite_neg c1 (Evt.ite_pos c2 (Evt.pure _))
      · rw [s3 (by omega)]
        refine Evt.ite_neg c1 (Evt.ite_neg c2 ?_)
        rw [w64 (by omega) (by omega)]
        exact ih (by omega)
theorem ref_compare_any {B : Int} (hB : 0 < B) (l m : List Int) (hl : Dig B l) (hm : Dig B m) (cl : Can l) (cm : Can m) (hb : l.length ≤ 1000000) : Evt (fun k => windbreakref01_compare.f k l m) (cmpL B l m) := by
  unfold windbreakref01_compare.f
  by_cases hlen : l.length = m.length
  · refine Evt.ite_pos (by omega) ?_
    rw [w64 (by omega) (by omega)]
    have := ref_compare_loop hB l m hl hm hlen hb l.length (Nat.le_refl _)
    refine this.congr (fun k => rfl) ?_
    rw [List.take_length, hlen, List.take_length]
  · refine Evt.ite_neg (by omega) ?_
    by_cases h2 : l.length < m.length
    · have := val_lt_of_length hB hl hm cm h2
      have e : cmpL B l m = -1 := if_pos this
      rw [e]
      exact Evt.ite_pos (by omega) (Evt.pure _)
    · have := val_lt_of_length hB hm hl cl (by omega)
      have e : cmpL B l m = 1 := by unfold cmpL; rw [if_neg (by omega), if_neg (by omega)]
      rw [e]
      exact Evt.ite_neg (by omega) (Evt.pure _)
theorem ref_compare_ev (v w : Nat) (hv : v < lim) : Evt (fun k => windbreakref01_compare.f k (digs v) (digs w)) (cmpN v w) := by
  have hlen : (digs v).length ≤ 1000000 := Nat.le_trans (digs_len hv) (by omega)
  refine (ref_compare_any b16_pos _ _ (toD_dig b16_two v) (toD_dig b16_two w) (toD_can b16_two v) (toD_can b16_two w) hlen).congr (fun k => rfl) ?_
  unfold cmpL cmpN
  rw [val_toD b16_two, val_toD b16_two]
  simp only [Int.ofNat_lt, Int.natCast_inj]
theorem nat_compare_loop {B : Int} (hB : 0 < B) (l m : List Int) (hl : Dig B l) (hm : Dig B m) (hlen : l.length = m.length) (hb : l.length ≤ 1000000) : ∀ i : Nat, i ≤ l.length → Evt (fun k => nat_compare.l0 k l m ((i : Int) - 1)) (cmpL B (l.take i) (m.take i)) := by
  intro i
  induction i with
  | zero =>
    intro _
    refine Evt.succ ?_
    simp only [nat_compare.l0]
    refine Evt.ite_neg (by omega) ?_
    exact Evt.pure _
  | succ i ih =>
    intro hi
    have h1 : i < l.length := by omega
    have h2 : i < m.length := by omega
    obtain ⟨s1, s2, s3⟩ := cmp_step hB hl hm i h1 h2
    rw [show (((i + 1 : Nat) : Int) - 1) = (i : Int) from by omega]
    refine Evt.succ ?_
    simp only [nat_compare.l0]
    refine Evt.ite_pos (by omega) (Evt.ite_pos (by omega) (Evt.ite_pos (by omega) (Evt.ite_pos (by omega) ?_)))
    have e1 : rd l (i : Int) = l[i] := by simp [rd_nat, h1]
    have e2 : rd m (i : Int) = m[i] := by simp [rd_nat, h2]
    rw [e1, e2]
    by_cases c0 : l[i] = m[i]
    · rw [s3 c0]
      refine Evt.ite_pos c0 ?_
      rw [w64 (by omega) (by omega)]
      exact ih (by omega)
    · refine Evt.ite_neg c0 ?_
      by_cases c1 : l[i] < m[i]
      · rw [s1 c1]; exact Evt.ite_pos c1 (Evt.pure _)
      · rw [s2 (by omega)]; exact Evt.ite_neg c1 (Evt.pure _)
theorem nat_compare_any {B : Int} (hB : 0 < B) (l m : List Int) (hl : Dig B l) (hm : Dig B m) (cl : Can l) (cm : Can m) (hb : l.length ≤ 1000000) : Evt (fun k => nat_compare.f k l m) (cmpL B l m) := by
  unfold nat_compare.f
  by_cases hlen : l.length = m.length
  · refine Evt.ite_pos (by omega) ?_
    rw [w64 (by omega) (by omega)]
    have := nat_compare_loop hB l m hl hm hlen hb l.length (Nat.le_refl _)
    refine this.congr (fun k => rfl) ?_
    rw [List.take_length, hlen, List.take_length]
  · refine Evt.ite_neg (by omega) ?_
    by_cases h2 : l.length < m.length
    · have := val_lt_of_length hB hl hm cm h2
      have e : cmpL B l m = -1 := if_pos this
      rw [e]
      exact Evt.ite_pos (by omega) (Evt.pure _)
    · have := val_lt_of_length hB hm hl cl (by omega)
      have e : cmpL B l m = 1 := by unfold cmpL; rw [if_neg (by omega), if_neg (by omega)]
      rw [e]
      exact Evt.ite_neg (by omega) (Evt.pure _)
theorem nat_compare_ev (l m : List Int) (hl : Dig (b64 : Int) l) (hm : Dig (b64 : Int) m) (cl : Can l) (cm : Can m) (hb : l.length ≤ 1000000) : Evt (fun k => nat_compare.f k l m) (cmpN (num l) (num m)) := by
  refine (nat_compare_any b64_pos l m hl hm cl cm hb).congr (fun k => rfl) ?_
  unfold cmpL cmpN
  rw [← num_val hl, ← num_val hm]
  simp only [Int.ofNat_lt, Int.natCast_inj]
theorem nat_right_eq (ls : List (List Int)) (h : ∀ l ∈ ls, l.length ≤ maxLen) : nat_right.f ls = some (ls.all rightB) := by
  induction ls with
  | nil => rfl
  | cons a ls ih =>
    simp only [nat_right.f]
    rw [nat_Right_eq (h a (by simp)), ih (fun l hl => h l (by simp [hl]))]
    simp only [Option.bind_some, List.all_cons]
    cases rightB a <;> simp
def subV (a b : List Int) : List Int × Int := if rightB a = true ∧ rightB b = true then (if num a < num b then ([], 2) else (limbs (num a - num b), 0)) else ([], 1)
theorem len_of_num_le {a b : List Int} (da : Dig (b64 : Int) a) (db : Dig (b64 : Int) b) (ca : Can a) (cb : Can b) (h : num b ≤ num a) : b.length ≤ a.length := by
  by_cases hl : b.length ≤ a.length
  · exact hl
  · have := val_lt_of_length b64_pos da db cb (by omega)
    rw [← num_val da, ← num_val db] at this
    omega
theorem toldV_small {v : Nat} (h : v < b64 ^ 64) : toldV v = (limbs v, 0) := if_pos h
theorem nat_Sub_ev (a b : List Int) (ha : a.length ≤ maxLen) (hb : b.length ≤ maxLen) (da : Dig (b64 : Int) a) (db : Dig (b64 : Int) b) : Evt (fun k => nat_Sub.f k a b) (subV a b) := by
  unfold nat_Sub.f subV
  rw [nat_right_eq _ (by intro l hl; simp at hl; rcases hl with rfl | rfl <;> assumption)]
  simp only [Option.bind_some, List.all_cons, List.all_nil, Bool.and_true, Bool.and_eq_true]
  by_cases h : rightB a = true ∧ rightB b = true
  · rw [if_pos h]
    refine Evt.ite_pos h ?_
    obtain ⟨h1, c1⟩ := (rightB_iff a).1 h.1
    obtain ⟨h2, c2⟩ := (rightB_iff b).1 h.2
    refine Evt.bind (nat_compare_ev a b da db c1 c2 (by omega)) ?_
    by_cases hlt : num a < num b
    · have e : cmpN (num a) (num b) = -1 := if_pos hlt
      rw [e, if_pos hlt]
      exact Evt.ite_pos (by omega) (Evt.pure _)
    · have e : ¬ cmpN (num a) (num b) < 0 := by
        unfold cmpN
        rw [if_neg hlt]
        by_cases e2 : num a = num b
        · rw [if_pos e2]; omega
        · rw [if_neg e2]; omega
      rw [if_neg hlt]
      refine Evt.ite_neg e ?_
      obtain ⟨s, e1, e2, e3, e4⟩ := nat_less_ev a b (by omega) (len_of_num_le da db c1 c2 (by omega)) da db (by omega)
      refine Evt.bind e1 ?_
      have n1 : num a - num b < b64 ^ 64 := by
        have := num_lt_p da h1
        omega
      have h5 := nat_told_ev s (by omega) e2
      rw [e3, toldV_small n1] at h5
      exact Evt.bind h5 (h := fun t _ => some (t.1, t.2)) (Evt.pure _)
  · rw [if_neg h]
    exact Evt.ite_neg h (Evt.pure _)
def addV (a b : List Int) : List Int × Int := if rightB a = true ∧ rightB b = true then toldV (num a + num b) else ([], 1)
theorem nat_Add_ev (a b : List Int) (ha : a.length ≤ maxLen) (hb : b.length ≤ maxLen) (da : Dig (b64 : Int) a) (db : Dig (b64 : Int) b) : Evt (fun k => nat_Add.f k a b) (addV a b) := by
  unfold nat_Add.f addV
  rw [nat_right_eq _ (by intro l hl; simp at hl; rcases hl with rfl | rfl <;> assumption)]
  simp only [Option.bind_some, List.all_cons, List.all_nil, Bool.and_true, Bool.and_eq_true]
  by_cases h : rightB a = true ∧ rightB b = true
  · rw [if_pos h]
    refine Evt.ite_pos h ?_
    obtain ⟨h1, c1⟩ := (rightB_iff a).1 h.1
    obtain ⟨h2, c2⟩ := (rightB_iff b).1 h.2
    obtain ⟨s, e1, e2, e3, e4⟩ := nat_sum_ev a b (by omega) (by omega) da db
    refine Evt.bind e1 ?_
    rw [← e3]
    exact Evt.bind (nat_told_ev s (by omega) e2) (h := fun t _ => some (t.1, t.2)) (Evt.pure _)
  · rw [if_neg h]
    exact Evt.ite_neg h (Evt.pure _)
def cmpV (a b : List Int) : Int := if rightB a = true ∧ rightB b = true then cmpN (num a) (num b) else 0
theorem nat_Cmp_ev (a b : List Int) (ha : a.length ≤ maxLen) (hb : b.length ≤ maxLen) (da : Dig (b64 : Int) a) (db : Dig (b64 : Int) b) : Evt (fun k => nat_Cmp.f k a b) (cmpV a b) := by
  unfold nat_Cmp.f cmpV
  rw [nat_right_eq _ (by intro l hl; simp at hl; rcases hl with rfl | rfl <;> assumption)]
  simp only [Option.bind_some, List.all_cons, List.all_nil, Bool.and_true, Bool.and_eq_true]
  by_cases h : rightB a = true ∧ rightB b = true
  · rw [if_pos h]
    refine Evt.ite_pos h ?_
    obtain ⟨h1, c1⟩ := (rightB_iff a).1 h.1
    obtain ⟨h2, c2⟩ := (rightB_iff b).1 h.2
    exact Evt.bind (nat_compare_ev a b da db c1 c2 (by omega)) (h := fun t _ => some t) (Evt.pure _)
  · rw [if_neg h]
    exact Evt.ite_neg h (Evt.pure _)
theorem nat_Of_ev (n : Int) : Evt (fun k => nat_Of.f k n) (strip [n]) := by
  refine (Evt.bind (nat_trim_ev [n] (by simp [maxLen])) (h := fun t _ => some t) (Evt.pure _)).congr (fun k => rfl) rfl
theorem nat_Small_ev (l : List Int) (h : l.length ≤ maxLen) : Evt (fun k => nat_Small.f k l) (smallV l) := by
  unfold nat_Small.f smallV
  rw [nat_Right_eq h]
  simp only [Option.bind_some]
  have J : ∀ x : Bool, Evt (fun k => nat_Small.j0 k l x) (if x = true then (0, false) else (l.getD 0 0, true)) := by
    intro x
    refine Evt.succ ?_
    simp only [nat_Small.j0]
    refine Evt.cond (fun _ => Evt.pure _) (fun _ => ?_)
    by_cases h0 : l.length = 0
    · refine Evt.ite_pos (by omega) ?_
      rw [List.length_eq_zero_iff.1 h0]
      exact Evt.pure _
    · exact Evt.ite_neg (by omega) (Evt.ite_pos (by omega) (Evt.pure _))
  cases hr : rightB l with
  | true =>
    refine Evt.ite_pos rfl ?_
    refine (J _).congr (fun k => rfl) ?_
    by_cases h1 : l.length ≤ 1
    · rw [if_neg (by simp; omega), if_pos ⟨rfl, h1⟩]
    · rw [if_pos (by simp; omega), if_neg (fun h => h1 h.2)]
  | false =>
    refine Evt.ite_neg (by simp) ?_
    refine (J _).congr (fun k => rfl) ?_
    simp
theorem windbreakref01_Right_eq {l : List Int} (h : l.length ≤ maxLen) : windbreakref01_Right.f l = some (rightB l) := by
  unfold maxLen at h
  unfold windbreakref01_Right.f rightB
  by_cases h1 : l.length ≤ 64
  · rw [if_pos (by omega)]
    by_cases h2 : l.length = 0
    · rw [if_pos (by omega)]
      simp [h1, h2]
    · rw [if_neg (by omega), w64 (by omega) (by omega), if_pos (by omega), if_pos (by omega), rd_getD]
      rw [show ((l.length : Int) - 1).toNat = l.length - 1 from by omega]
      have h3 : (l.length == 0) = false := by simpa using h2
      rw [h3]
      simp [h1]
  · rw [if_neg (by omega)]
    simp [h1]
theorem windbreakref01_cut_loop (l : List Int) (h : l.length ≤ maxLen) : ∀ n : Nat, n ≤ l.length → Evt (fun k => windbreakref01_cut.l0 k l (n : Int)) (strip (l.take n)) := by
  unfold maxLen at h
  intro n
  induction n with
  | zero =>
    intro _
    refine Evt.succ ?_
    simp only [windbreakref01_cut.l0]
    refine Evt.ite_neg (by omega) (Evt.ite_pos (by omega) (Evt.ite_pos (by omega) ?_))
    simp [strip]
    exact Evt.pure _
  | succ n ih =>
    intro hn
    refine Evt.succ ?_
    simp only [windbreakref01_cut.l0]
    rw [w64 (by omega) (by omega), show ((n + 1 : Nat) : Int) - 1 = (n : Int) from by omega]
    refine Evt.ite_pos (by omega) (Evt.ite_pos (by omega) (Evt.ite_pos (by omega) ?_))
    rw [rd_nat, List.take_succ_eq_append_getElem (show n < l.length by omega)]
    have hg : l.getD n 0 = l[n] := by simp [show n < l.length by omega]
    rw [hg]
    by_cases h0 : l[n] = 0
    · rw [h0, strip_snoc_zero]
      exact Evt.ite_pos rfl (ih (by omega))
    · rw [strip_snoc h0]
      refine Evt.ite_neg h0 (Evt.ite_pos (by omega) (Evt.ite_pos (by omega) ?_))
      rw [← List.take_succ_eq_append_getElem (show n < l.length by omega)]
      exact Evt.pure _
theorem windbreakref01_cut_ev (l : List Int) (h : l.length ≤ maxLen) : Evt (fun k => windbreakref01_cut.f k l) (strip l) := by
  have := windbreakref01_cut_loop l h l.length (Nat.le_refl _)
  exact this.congr (fun k => rfl) (by rw [List.take_length])
def dg (x : Int) : List Int := [x % 65536, x / 65536 % 65536, x / 65536 / 65536 % 65536, x / 65536 / 65536 / 65536 % 65536]
theorem wdiv {x : Int} (h0 : 0 ≤ x) (h1 : x < 18446744073709551616) (c : Int) (hc : 0 < c) : IntKind.u64.wrap (Int.tdiv x c) = x / c := by
  rw [Int.tdiv_eq_ediv_of_nonneg h0]
  have h2 := Int.ediv_nonneg h0 (Int.le_of_lt hc)
  have h3 := Int.ediv_le_self c h0
  exact wu64_of h2 (by omega)
theorem in_step (a d : List Int) (i : Nat) (x : Int) (hx : 0 ≤ x ∧ x < 18446744073709551616) (hd : d.length ≤ 1000000) (hi : i ≤ 1000000) {r : List Int}
    (h : Evt (fun k => windbreakref01_In.l0 k a (d ++ dg x) ((i + 1 : Nat) : Int)) r) : Evt (fun k => windbreakref01_In.l1 k a d (i : Int) x 0) r := by
  refine Evt.succ ?_
  simp only [windbreakref01_In.l1]
  refine Evt.ite_pos (by omega) (Evt.ite_pos (by omega) ?_)
  rw [Int.tmod_eq_emod_of_nonneg hx.1, wdiv hx.1 hx.2 65536 (by omega), w64 (by omega) (by omega)]
  refine Evt.succ ?_
  simp only [windbreakref01_In.l1]
  refine Evt.ite_pos (by omega) (Evt.ite_pos (by simp; omega) ?_)
  rw [Int.tmod_eq_emod_of_nonneg (show 0 ≤ x / 65536 by omega), wdiv (show 0 ≤ x / 65536 by omega) (by omega) 65536 (by omega), w64 (by omega) (by omega)]
  refine Evt.succ ?_
  simp only [windbreakref01_In.l1]
  refine Evt.ite_pos (by omega) (Evt.ite_pos (by simp; omega) ?_)
  rw [Int.tmod_eq_emod_of_nonneg (show 0 ≤ x / 65536 / 65536 by omega), wdiv (show 0 ≤ x / 65536 / 65536 by omega) (by omega) 65536 (by omega), w64 (by omega) (by omega)]
  refine Evt.succ ?_
  simp only [windbreakref01_In.l1]
  refine Evt.ite_pos (by omega) (Evt.ite_pos (by simp; omega) ?_)
  rw [Int.tmod_eq_emod_of_nonneg (show 0 ≤ x / 65536 / 65536 / 65536 by omega), wdiv (show 0 ≤ x / 65536 / 65536 / 65536 by omega) (by omega) 65536 (by omega), w64 (by omega) (by omega)]
  refine Evt.succ ?_
  simp only [windbreakref01_In.l1]
  refine Evt.ite_neg (by omega) ?_
  rw [w64 (by omega) (by omega)]
  refine h.congr (fun k => ?_) rfl
  simp [dg]
theorem in_loop (a : List Int) (ha : a.length ≤ 1000) (hd : Dig (b64 : Int) a) (n : Nat) : ∀ i : Nat, i ≤ a.length → a.length - i = n → Evt (fun k => windbreakref01_In.l0 k a ((a.take i).flatMap dg) (i : Int)) (strip (a.flatMap dg)) := by
  have hlen : ∀ l : List Int, (l.flatMap dg).length = 4 * l.length := by
    intro l
    induction l with
    | nil => rfl
    | cons x l ih => simp only [List.flatMap_cons, List.length_append, ih, dg, List.length_cons, List.length_nil]; omega
  induction n with
  | zero =>
    intro i hi hn
    refine Evt.succ ?_
    simp only [windbreakref01_In.l0]
    refine Evt.ite_neg (by omega) ?_
    rw [List.take_of_length_le (by omega)]
    refine Evt.bind (windbreakref01_cut_ev _ (by rw [hlen]; simp [maxLen]; omega)) (h := fun t _ => some t) (Evt.pure _)
  | succ n ih =>
    intro i hi hn
    have hlt : i < a.length := by omega
    refine Evt.succ ?_
    simp only [windbreakref01_In.l0]
    refine Evt.ite_pos (by omega) (Evt.ite_pos (by omega) ?_)
    have hx : rd a (i : Int) = a[i] := by simp [rd_nat, hlt]
    have hr := hd a[i] (List.getElem_mem hlt)
    rw [hx]
    refine in_step a _ i _ hr (by rw [hlen, List.length_take]; omega) (by omega) ?_
    have := ih (i + 1) (by omega) (by omega)
    rw [List.take_succ_eq_append_getElem hlt, List.flatMap_append] at this
    refine this.congr (fun k => ?_) rfl
    simp
theorem ref_In_ev (a : List Int) (ha : a.length ≤ 1000) (hd : Dig (b64 : Int) a) : Evt (fun k => windbreakref01_In.f k a) (digs (num a)) := by
  have h := in_loop a ha hd a.length 0 (Nat.zero_le _) (by omega)
  obtain ⟨m, hm, _, hv, he⟩ := val_base a hd
  refine h.congr (fun k => rfl) ?_
  have e2 : a.flatMap dg = m := he.symm
  rw [e2, strip_digs hm]
  unfold num16 num
  rw [hv]
theorem ref_digit_eq (l : List Int) (i : Nat) : windbreakref01_digit.f l (i : Int) = some (l.getD i 0) := by
  unfold windbreakref01_digit.f
  by_cases h : i < l.length
  · rw [if_pos (by omega), if_pos (by omega), rd_nat]
  · rw [if_neg (by omega)]
    simp [List.getD_eq_getElem?_getD, List.getElem?_eq_none (by omega : l.length ≤ i)]
def addL : Nat → List Int → List Int → Int → List Int
  | 0, _, _, c => [c]
  | n + 1, a, b, c => (a.getD 0 0 + b.getD 0 0 + c) % 65536 :: addL n (a.drop 1) (b.drop 1) ((a.getD 0 0 + b.getD 0 0 + c) / 65536)
theorem val_head (B : Int) (b : List Int) : val B b = b.getD 0 0 + B * val B (b.drop 1) := by
  cases b with
  | nil => simp [val]
  | cons y b => simp [val]
theorem addL_facts (n : Nat) : ∀ (a b : List Int) (c : Int), Dig (b16 : Int) a → Dig (b16 : Int) b → a.length ≤ n → b.length ≤ n → (c = 0 ∨ c = 1) →
    Dig (b16 : Int) (addL n a b c) ∧ val (b16 : Int) (addL n a b c) = val (b16 : Int) a + val (b16 : Int) b + c ∧ (addL n a b c).length = n + 1 := by
  induction n with
  | zero =>
    intro a b c _ _ ha hb hc
    have e1 : a = [] := List.length_eq_zero_iff.1 (by omega)
    have e2 : b = [] := List.length_eq_zero_iff.1 (by omega)
    subst e1 e2
    refine ⟨?_, by simp [addL, val], rfl⟩
    intro x hx
    simp [addL] at hx
    subst hx
    simp only [b16]; omega
  | succ n ih =>
    intro a b c da db ha hb hc
    have h1 := da.getD b16_pos 0
    have h2 := db.getD b16_pos 0
    simp only [b16] at h1 h2
    obtain ⟨i1, i2, i3⟩ := ih (a.drop 1) (b.drop 1) ((a.getD 0 0 + b.getD 0 0 + c) / 65536) (da.drop 1) (db.drop 1) (by simp; omega) (by simp; omega) (by omega)
    refine ⟨Dig.cons.2 ⟨by simp only [b16]; omega, i1⟩, ?_, by simp only [addL, List.length_cons, i3]⟩
    rw [val_head (b16 : Int) a, val_head (b16 : Int) b]
    simp only [addL, val]
    rw [i2]
    simp only [b16]
    omega
theorem ref_add_loop (a b : List Int) (da : Dig (b16 : Int) a) (db : Dig (b16 : Int) b) (ha : a.length ≤ 1000000) (hb : b.length ≤ 1000000) (n : Nat) : ∀ (i : Nat) (p : List Int) (c : Int), p.length = i → i ≤ max a.length b.length → max a.length b.length - i = n → (c = 0 ∨ c = 1) →
    Evt (fun k => windbreakref01_add.l0 k a b p c (i : Int)) (strip (p ++ addL n (a.drop i) (b.drop i) c)) := by
  induction n with
  | zero =>
    intro i p c hp hi hn hc
    have hJ : Evt (fun k => windbreakref01_add.j1 k a b p c (i : Int) false) (strip (p ++ addL 0 (a.drop i) (b.drop i) c)) := by
      refine Evt.succ ?_
      simp only [windbreakref01_add.j1]
      refine Evt.ite_neg (by simp) (Evt.ite_pos (by omega) ?_)
      exact Evt.bind (windbreakref01_cut_ev (p ++ [c]) (by simp [maxLen]; omega)) (h := fun t _ => some t) (Evt.pure _)
    refine Evt.succ ?_
    simp only [windbreakref01_add.l0]
    refine Evt.ite_neg (by omega) ?_
    have : decide ((i : Int) < (b.length : Int)) = false := by simp; omega
    rw [this]
    exact hJ
  | succ n ih =>
    intro i p c hp hi hn hc
    have hJ : Evt (fun k => windbreakref01_add.j1 k a b p c (i : Int) true) (strip (p ++ addL (n + 1) (a.drop i) (b.drop i) c)) := by
      refine Evt.succ ?_
      simp only [windbreakref01_add.j1]
      refine Evt.ite_pos trivial ?_
      rw [ref_digit_eq, ref_digit_eq]
      simp only [Option.bind_some]
      refine Evt.ite_pos (by omega) ?_
      have h1 := da.getD b16_pos i
      have h2 := db.getD b16_pos i
      simp only [b16] at h1 h2
      rw [wu64_of (show 0 ≤ a.getD i 0 + b.getD i 0 by omega) (by omega), wu64_of (show 0 ≤ a.getD i 0 + b.getD i 0 + c by omega) (by omega)]
      rw [Int.tmod_eq_emod_of_nonneg (by omega), Int.tdiv_eq_ediv_of_nonneg (by omega), wu64_of (by omega) (by omega), w64 (by omega) (by omega)]
      have e1 : (a.drop i).getD 0 0 = a.getD i 0 := by simp [List.getD_eq_getElem?_getD]
      have e2 : (b.drop i).getD 0 0 = b.getD i 0 := by simp [List.getD_eq_getElem?_getD]
      refine (ih (i + 1) (p ++ [(a.getD i 0 + b.getD i 0 + c) % 65536]) ((a.getD i 0 + b.getD i 0 + c) / 65536) (by simp [hp]) (by omega) (by omega) (by omega)).congr (fun k => rfl) ?_
      simp only [addL, e1, e2, List.drop_drop, List.append_assoc, List.singleton_append]
    refine Evt.succ ?_
    simp only [windbreakref01_add.l0]
    by_cases h : i < a.length
    · exact Evt.ite_pos (by omega) hJ
    · refine Evt.ite_neg (by omega) ?_
      have : decide ((i : Int) < (b.length : Int)) = true := by simp; omega
      rw [this]
      exact hJ
theorem ref_add_ev (v w : Nat) (hv : v < lim) (hw : w < lim) : Evt (fun k => windbreakref01_add.f k (digs v) (digs w)) (digs (v + w)) := by
  have h1 := digs_len hv
  have h2 := digs_len hw
  have d1 := toD_dig b16_two v
  have d2 := toD_dig b16_two w
  have h := ref_add_loop (digs v) (digs w) d1 d2 (by omega) (by omega) (max (digs v).length (digs w).length) 0 [] 0 rfl (Nat.zero_le _) (by omega) (Or.inl rfl)
  refine h.congr (fun k => rfl) ?_
  obtain ⟨f1, f2, f3⟩ := addL_facts (max (digs v).length (digs w).length) (digs v) (digs w) 0 d1 d2 (by omega) (by omega) (Or.inl rfl)
  rw [List.nil_append, List.drop_zero, List.drop_zero, strip_digs f1]
  unfold num16
  rw [f2, val_toD b16_two, val_toD b16_two]
  congr 1
theorem strip_split (l : List Int) : ∃ n, l = strip l ++ List.replicate n 0 := by
  induction l with
  | nil => exact ⟨0, rfl⟩
  | cons d l ih =>
    obtain ⟨n, hn⟩ := ih
    simp only [strip]
    by_cases h : strip l = []
    · rw [if_pos h]
      rw [h, List.nil_append] at hn
      by_cases h0 : d = 0
      · rw [if_pos h0]
        refine ⟨n + 1, ?_⟩
        rw [h0, List.replicate_succ, List.nil_append, ← hn]
      · rw [if_neg h0]
        refine ⟨n, ?_⟩
        rw [List.singleton_append, ← hn]
    · rw [if_neg h]
      refine ⟨n, ?_⟩
      rw [List.cons_append, ← hn]
theorem can_of_val {B : Nat} (hB : 2 ≤ B) {l : List Int} (h : Dig (B : Int) l) (hv : l ≠ [] → (B : Int) ^ (l.length - 1) ≤ val (B : Int) l) : Can l := by
  by_cases e : l = []
  · subst e; exact Can.nil
  · have h1 := hv e
    obtain ⟨n, hn⟩ := strip_split l
    have h2 := val_lt (show (0 : Int) < (B : Int) by omega) (strip_dig h)
    rw [strip_val] at h2
    have h3 : l.length = (strip l).length + n := by
      have := congrArg List.length hn
      simpa using this
    have h4 : n = 0 := by
      by_cases hn0 : n = 0
      · exact hn0
      · have := pow_mono (show (0 : Int) < (B : Int) by omega) (show (strip l).length ≤ l.length - 1 by omega)
        omega
    subst h4
    rw [List.replicate_zero, List.append_nil] at hn
    rw [hn]
    exact strip_can l
def grp (d : List Int) : Int := d.getD 0 0 + 65536 * (d.getD 1 0 + 65536 * (d.getD 2 0 + 65536 * d.getD 3 0))
def outN : Nat → List Int → List Int
  | 0, _ => []
  | n + 1, d => grp d :: outN n (d.drop 4)
theorem grp_range {d : List Int} (h : Dig (b16 : Int) d) : 0 ≤ grp d ∧ grp d < (b64 : Int) := by
  have h0 := h.getD b16_pos 0
  have h1 := h.getD b16_pos 1
  have h2 := h.getD b16_pos 2
  have h3 := h.getD b16_pos 3
  unfold grp
  simp only [b16, b64] at *
  omega
theorem val_four (d : List Int) : val (b16 : Int) d = grp d + (b64 : Int) * val (b16 : Int) (d.drop 4) := by
  unfold grp
  simp only [b16, b64]
  match d with
  | [] => simp [val]
  | [a] => simp [val]
  | [a, b] => simp [val]
  | [a, b, c] => simp [val]
  | a :: b :: c :: e :: d => simp [val]; omega
theorem outN_facts (n : Nat) : ∀ d : List Int, Dig (b16 : Int) d → d.length ≤ 4 * n → Dig (b64 : Int) (outN n d) ∧ val (b64 : Int) (outN n d) = val (b16 : Int) d ∧ (outN n d).length = n := by
  induction n with
  | zero =>
    intro d _ h
    have : d = [] := List.length_eq_zero_iff.1 (by omega)
    subst this
    exact ⟨Dig.nil, rfl, rfl⟩
  | succ n ih =>
    intro d hd h
    obtain ⟨i1, i2, i3⟩ := ih (d.drop 4) (hd.drop 4) (by simp; omega)
    refine ⟨Dig.cons.2 ⟨grp_range hd, i1⟩, ?_, by simp [outN, i3]⟩
    rw [val_four d]
    simp only [outN, val, i2]
theorem out_limbs (v : Nat) : outN (((digs v).length + 3) / 4) (digs v) = limbs v := by
  obtain ⟨f1, f2, f3⟩ := outN_facts (((digs v).length + 3) / 4) (digs v) (toD_dig b16_two v) (by omega)
  rw [val_toD b16_two] at f2
  have hc : Can (outN (((digs v).length + 3) / 4) (digs v)) := by
    refine can_of_val b64_two f1 (fun hne => ?_)
    rw [f2, f3, b64_pow, pow_cast, ← Nat.pow_mul]
    have hl : 0 < ((digs v).length + 3) / 4 := by rw [← f3]; exact List.length_pos_iff.2 hne
    have hd : digs v ≠ [] := by intro e; rw [e] at hl; simp at hl
    have h1 := val_pos b16_pos (toD_dig b16_two v) (toD_can b16_two v) hd
    rw [val_toD b16_two, pow_cast] at h1
    have h2 : b16 ^ (4 * (((digs v).length + 3) / 4 - 1)) ≤ b16 ^ ((digs v).length - 1) := Nat.pow_le_pow_right (by decide) (by omega)
    exact Int.le_trans (Int.ofNat_le.2 h2) h1
  have := limbs_num f1 hc
  rw [← this]
  unfold num
  rw [f2]
  rfl
theorem out_inner (d acc : List Int) (i : Nat) (hd : Dig (b16 : Int) d) (hacc : acc.length ≤ 1000000) (hi : i ≤ 4000000) {r : List Int × Bool}
    (h : Evt (fun k => windbreakref01_Out.l0 k d (acc ++ [grp (d.drop i)]) ((i + 4 : Nat) : Int)) r) : Evt (fun k => windbreakref01_Out.l1 k d acc (i : Int) 0 3) r := by
  have step : ∀ (x : Int) (j : Nat), j ≤ 3 → 0 ≤ x → x * 65536 + 65535 < 18446744073709551616 →
      Evt (fun k => windbreakref01_Out.l1 k d acc (i : Int) (x * 65536 + (d.drop i).getD j 0) ((j : Int) - 1)) r →
      Evt (fun k => windbreakref01_Out.l1 k d acc (i : Int) x (j : Int)) r := by
    intro x j hj hx hx2 hs
    have hdig := (hd.drop i).getD b16_pos j
    simp only [b16] at hdig
    refine Evt.succ ?_
    simp only [windbreakref01_Out.l1]
    refine Evt.ite_pos (by omega) ?_
    rw [w64 (show -9223372036854775808 ≤ (i : Int) + (j : Int) by omega) (by omega), w64 (show -9223372036854775808 ≤ (j : Int) - 1 by omega) (by omega), wu64_of (show 0 ≤ x * 65536 by omega) (by omega)]
    by_cases hlt : i + j < d.length
    · refine Evt.ite_pos (by omega) (Evt.ite_pos (by omega) ?_)
      have e : rd d ((i : Int) + (j : Int)) = (d.drop i).getD j 0 := by
        rw [rd_getD, show ((i : Int) + (j : Int)).toNat = i + j from by omega]
        simp [List.getD_eq_getElem?_getD]
      rw [e, wu64_of (by omega) (by omega)]
      exact hs
    · refine Evt.ite_neg (by omega) ?_
      have e : (d.drop i).getD j 0 = 0 := by
        simp [List.getD_eq_getElem?_getD, List.getElem?_eq_none (by omega : d.length ≤ i + j)]
      rw [e, Int.add_zero] at hs
      exact hs
  have h0 := (hd.drop i).getD b16_pos 0
  have h1 := (hd.drop i).getD b16_pos 1
  have h2 := (hd.drop i).getD b16_pos 2
  have h3 := (hd.drop i).getD b16_pos 3
  simp only [b16] at h0 h1 h2 h3
  refine step 0 3 (by omega) (by omega) (by omega) ?_
  refine (step (0 * 65536 + (d.drop i).getD 3 0) 2 (by omega) (by omega) (by omega) ?_).congr (fun k => rfl) rfl
  refine (step ((0 * 65536 + (d.drop i).getD 3 0) * 65536 + (d.drop i).getD 2 0) 1 (by omega) (by omega) (by omega) ?_).congr (fun k => rfl) rfl
  refine (step (((0 * 65536 + (d.drop i).getD 3 0) * 65536 + (d.drop i).getD 2 0) * 65536 + (d.drop i).getD 1 0) 0 (by omega) (by omega) (by omega) ?_).congr (fun k => rfl) rfl
  refine Evt.succ ?_
  simp only [windbreakref01_Out.l1]
  refine Evt.ite_neg (by omega) (Evt.ite_pos (by omega) ?_)
  rw [w64 (by omega) (by omega)]
  refine h.congr (fun k => ?_) rfl
  have e : (((0 * 65536 + (d.drop i).getD 3 0) * 65536 + (d.drop i).getD 2 0) * 65536 + (d.drop i).getD 1 0) * 65536 + (d.drop i).getD 0 0 = grp (d.drop i) := by
    unfold grp; omega
  rw [e, show (i : Int) + 4 = ((i + 4 : Nat) : Int) from by omega]
theorem out_loop (d : List Int) (hd : Dig (b16 : Int) d) (hlen : d.length ≤ 1000000) (n : Nat) : ∀ (i : Nat) (acc : List Int), acc.length ≤ i → i ≤ d.length + 3 → (d.length - i + 3) / 4 = n →
    Evt (fun k => windbreakref01_Out.l0 k d acc (i : Int)) (acc ++ outN n (d.drop i), decide ((acc ++ outN n (d.drop i)).length ≤ 64)) := by
  induction n with
  | zero =>
    intro i acc hacc hi hn
    refine Evt.succ ?_
    simp only [windbreakref01_Out.l0]
    refine Evt.ite_neg (by omega) ?_
    simp only [outN, List.append_nil]
    refine (Evt.pure _).congr (fun k => rfl) ?_
    congr 1
    simp only [decide_eq_decide]
    omega
  | succ n ih =>
    intro i acc hacc hi hn
    refine Evt.succ ?_
    simp only [windbreakref01_Out.l0]
    refine Evt.ite_pos (by omega) ?_
    refine out_inner d acc i hd (by omega) (by omega) ?_
    refine (ih (i + 4) (acc ++ [grp (d.drop i)]) (by simp; omega) (by omega) (by omega)).congr (fun k => rfl) ?_
    simp [outN, List.drop_drop]
theorem ref_Out_ev (v : Nat) (hv : v < lim) : Evt (fun k => windbreakref01_Out.f k (digs v)) (limbs v, decide (v < b64 ^ 64)) := by
  have hlen : (digs v).length ≤ 1000000 := Nat.le_trans (digs_len hv) (by omega)
  have h := out_loop (digs v) (toD_dig b16_two v) hlen (((digs v).length + 3) / 4) 0 [] (Nat.le_refl _) (by omega) (by omega)
  refine h.congr (fun k => rfl) ?_
  rw [List.nil_append, List.drop_zero, out_limbs]
  have := limbs_long v
  simp only [this]
theorem ref_told_ev (v : Nat) (hv : v < lim) : Evt (fun k => windbreakref01_told.f k (digs v)) (toldV v) := by
  unfold windbreakref01_told.f toldV
  refine Evt.bind (ref_Out_ev v hv) ?_
  by_cases h : v < b64 ^ 64
  · simp only [h, decide_true, if_true]
    exact Evt.pure _
  · simp only [h, decide_false, if_false]
    exact Evt.ite_neg (by simp) (Evt.pure _)
def addW (a b : List Int) : List Int × Int := if rightB a = true ∧ rightB b = true then toldV (num a + num b) else ([], 1)
theorem num_lt_64 {a : List Int} (da : Dig (b64 : Int) a) (ha : a.length ≤ 64) : num a < b64 ^ 64 :=
  Nat.lt_of_lt_of_le (num_lt da) (Nat.pow_le_pow_right (by decide) ha)
theorem ref_Add_ev (a b : List Int) (ha : a.length ≤ maxLen) (hb : b.length ≤ maxLen) (da : Dig (b64 : Int) a) (db : Dig (b64 : Int) b) : Evt (fun k => windbreakref01_Add.f k a b) (addW a b) := by
  unfold windbreakref01_Add.f addW
  rw [windbreakref01_Right_eq ha, windbreakref01_Right_eq hb]
  simp only [Option.bind_some]
  have J : ∀ x : Bool, (x = false → rightB a = true ∧ rightB b = true) → Evt (fun k => windbreakref01_Add.j0 k a b x) (if x = true then ([], 1) else toldV (num a + num b)) := by
    intro x hx
    refine Evt.succ ?_
    simp only [windbreakref01_Add.j0]
    refine Evt.cond (fun _ => Evt.pure _) (fun hc => ?_)
    have h := hx (by simpa using hc)
    obtain ⟨h1, c1⟩ := (rightB_iff a).1 h.1
    obtain ⟨h2, c2⟩ := (rightB_iff b).1 h.2
    have n1 := num_lt_64 da h1
    have n2 := num_lt_64 db h2
    have n3 := pow_lt_lim (n := 64) (by omega)
    refine Evt.bind (ref_In_ev a (by omega) da) (Evt.bind (ref_In_ev b (by omega) db) ?_)
    refine Evt.bind (ref_add_ev (num a) (num b) (by omega) (by omega)) ?_
    exact Evt.bind (ref_told_ev (num a + num b) (by omega)) (h := fun t _ => some (t.1, t.2)) (Evt.pure _)
  cases hA : rightB a with
  | true =>
    refine Evt.ite_pos rfl ((J _ (fun h => ⟨hA, by simpa using h⟩)).congr (fun k => rfl) ?_)
    cases hB : rightB b <;> simp
  | false =>
    refine Evt.ite_neg (by simp) ((J _ (fun h => by simp at h)).congr (fun k => rfl) ?_)
    simp
def subL : Nat → List Int → List Int → Int → List Int
  | 0, _, _, _ => []
  | n + 1, a, b, c => (65536 + a.getD 0 0 - b.getD 0 0 - c) % 65536 :: subL n (a.drop 1) (b.drop 1) (1 - (65536 + a.getD 0 0 - b.getD 0 0 - c) / 65536)
theorem val_headS (B : Int) (b : List Int) : val B b = b.getD 0 0 + B * val B (b.drop 1) := by
  cases b with
  | nil => simp [val]
  | cons y b => simp [val]
theorem subL_len (n : Nat) : ∀ (a b : List Int) (c : Int), (subL n a b c).length = n := by
  induction n with
  | zero => intro a b c; rfl
  | succ n ih => intro a b c; simp only [subL, List.length_cons, ih]
theorem subL_facts (n : Nat) : ∀ (a b : List Int) (c : Int), Dig (b16 : Int) a → Dig (b16 : Int) b → a.length ≤ n → b.length ≤ n → (c = 0 ∨ c = 1) →
    Dig (b16 : Int) (subL n a b c) ∧ ∃ t, 0 ≤ t ∧ val (b16 : Int) (subL n a b c) = val (b16 : Int) a - val (b16 : Int) b - c + (b16 : Int) ^ n * t := by
  induction n with
  | zero =>
    intro a b c _ _ ha hb hc
    have e1 : a = [] := List.length_eq_zero_iff.1 (by omega)
    have e2 : b = [] := List.length_eq_zero_iff.1 (by omega)
    subst e1 e2
    exact ⟨Dig.nil, c, by omega, by simp [subL, val]; omega⟩
  | succ n ih =>
    intro a b c da db ha hb hc
    have h1 := da.getD b16_pos 0
    have h2 := db.getD b16_pos 0
    simp only [b16] at h1 h2
    obtain ⟨i1, t, ht, i2⟩ := ih (a.drop 1) (b.drop 1) (1 - (65536 + a.getD 0 0 - b.getD 0 0 - c) / 65536) (da.drop 1) (db.drop 1) (by simp; omega) (by simp; omega) (by omega)
    refine ⟨Dig.cons.2 ⟨by simp only [b16]; omega, i1⟩, t, ht, ?_⟩
    rw [val_headS (b16 : Int) a, val_headS (b16 : Int) b]
    simp only [subL, val]
    rw [i2, Int.pow_succ]
    generalize (b16 : Int) ^ n = P at *
    simp only [b16]
    generalize val ((65536 : Nat) : Int) (a.drop 1) = va at *
    generalize val ((65536 : Nat) : Int) (b.drop 1) = vb at *
    have h3 : ((65536 : Nat) : Int) * (va - vb - (1 - (65536 + a.getD 0 0 - b.getD 0 0 - c) / 65536) + P * t) = 65536 * va - 65536 * vb - 65536 * (1 - (65536 + a.getD 0 0 - b.getD 0 0 - c) / 65536) + P * ((65536 : Nat) : Int) * t := by grind
    rw [h3]
    omega
theorem ref_sub_loop (a b : List Int) (da : Dig (b16 : Int) a) (db : Dig (b16 : Int) b) (ha : a.length ≤ 1000000) (n : Nat) : ∀ (i : Nat) (p : List Int) (c : Int), p.length = i → i ≤ a.length → a.length - i = n → (c = 0 ∨ c = 1) →
    Evt (fun k => windbreakref01_sub.l0 k a b p c (i : Int)) (strip (p ++ subL n (a.drop i) (b.drop i) c)) := by
  induction n with
  | zero =>
    intro i p c hp hi hn hc
    refine Evt.succ ?_
    simp only [windbreakref01_sub.l0]
    refine Evt.ite_neg (by omega) ?_
    simp only [subL, List.append_nil]
    exact Evt.bind (windbreakref01_cut_ev p (by simp [maxLen]; omega)) (h := fun t _ => some t) (Evt.pure _)
  | succ n ih =>
    intro i p c hp hi hn hc
    have hlt : i < a.length := by omega
    refine Evt.succ ?_
    simp only [windbreakref01_sub.l0]
    refine Evt.ite_pos (by omega) (Evt.ite_pos (by omega) ?_)
    rw [ref_digit_eq, rd_nat]
    simp only [Option.bind_some]
    refine Evt.ite_pos (by omega) ?_
    have h1 := da.getD b16_pos i
    have h2 := db.getD b16_pos i
    simp only [b16] at h1 h2
    rw [wu64_of (show 0 ≤ 65536 + a.getD i 0 by omega) (by omega), wu64_of (show 0 ≤ 65536 + a.getD i 0 - b.getD i 0 by omega) (by omega), wu64_of (show 0 ≤ 65536 + a.getD i 0 - b.getD i 0 - c by omega) (by omega)]
    rw [Int.tmod_eq_emod_of_nonneg (by omega), Int.tdiv_eq_ediv_of_nonneg (by omega), wu64_of (show 0 ≤ (65536 + a.getD i 0 - b.getD i 0 - c) / 65536 by omega) (by omega), wu64_of (by omega) (by omega), w64 (by omega) (by omega)]
    have e1 : (a.drop i).getD 0 0 = a.getD i 0 := by simp [List.getD_eq_getElem?_getD]
    have e2 : (b.drop i).getD 0 0 = b.getD i 0 := by simp [List.getD_eq_getElem?_getD]
    refine (ih (i + 1) (p ++ [(65536 + a.getD i 0 - b.getD i 0 - c) % 65536]) (1 - (65536 + a.getD i 0 - b.getD i 0 - c) / 65536) (by simp [hp]) (by omega) (by omega) (by omega)).congr (fun k => rfl) ?_
    simp only [subL, e1, e2, List.drop_drop, List.append_assoc, List.singleton_append]
theorem ref_sub_ev (v w : Nat) (hv : v < lim) (hle : w ≤ v) : Evt (fun k => windbreakref01_sub.f k (digs v) (digs w)) (digs (v - w)) := by
  have h1 := digs_len hv
  have d1 := toD_dig b16_two v
  have d2 := toD_dig b16_two w
  have hlen : (digs w).length ≤ (digs v).length := by
    rw [toD_len_iff b16_two]
    exact Nat.lt_of_le_of_lt hle (toD_lt_pow b16_two v)
  have h := ref_sub_loop (digs v) (digs w) d1 d2 (by omega) (digs v).length 0 [] 0 rfl (Nat.zero_le _) (by omega) (Or.inl rfl)
  refine h.congr (fun k => rfl) ?_
  obtain ⟨f1, t, ht, f2⟩ := subL_facts (digs v).length (digs v) (digs w) 0 d1 d2 (Nat.le_refl _) hlen (Or.inl rfl)
  rw [List.nil_append, List.drop_zero, List.drop_zero, strip_digs f1]
  rw [val_toD b16_two, val_toD b16_two, pow_cast] at f2
  have h4 := val_lt b16_pos f1
  rw [subL_len, pow_cast] at h4
  have ht0 : t = 0 := by
    by_cases e : t = 0
    · exact e
    · have h5 : ((b16 ^ (digs v).length : Nat) : Int) * 1 ≤ ((b16 ^ (digs v).length : Nat) : Int) * t := Int.mul_le_mul_of_nonneg_left (by omega) (by omega)
      omega
  subst ht0
  rw [Int.mul_zero] at f2
  unfold num16
  rw [f2]
  congr 1
  omega
end Go.Proofs.Ytnaphgnkhhapoab.Z
end
section
namespace Go.Proofs.Ytnaphgnkhhapoab.Z
open Go.RowKit Go.Proofs.Ytnaphgnkhhapoab.F Go.Proofs.YtnaphgnkhhapoabW.PrintWords Go.Proofs.YtnaphgnkhhapoabW.PrintMore
set_option linter.unusedSimpArgs false
set_option linter.unusedVariables false
theorem val_set (B : Int) (l : List Int) : ∀ (i : Nat) (v : Int), i < l.length → val B (l.set i v) = val B l + B ^ i * (v - l.getD i 0) := by
  induction l with
  | nil => intro i v h; simp at h
  | cons d l ih =>
    intro i v h
    cases i with
    | zero => simp [val]; omega
    | succ i =>
      have h2 := ih i v (by simpa using h)
      simp only [List.set_cons_succ, val, h2, Int.pow_succ, List.getD_cons_succ]
      generalize l.getD i 0 = y
      generalize B ^ i = P
      generalize val B l = V
      grind
theorem getD_append_left {l m : List Int} {i : Nat} (h : i < l.length) : (l ++ m).getD i 0 = l.getD i 0 := by
  simp [List.getD_eq_getElem?_getD, List.getElem?_append_left h]
theorem set_append_left {l m : List Int} {i : Nat} {v : Int} (h : i < l.length) : (l ++ m).set i v = l.set i v ++ m := by
  rw [List.set_append, if_pos h]
theorem val_take_step (B : Int) (l : List Int) (i : Nat) (h : i < l.length) : val B (l.take (i + 1)) = val B (l.take i) + B ^ i * l[i] := by
  rw [List.take_succ_eq_append_getElem h, val_append]
  simp only [val, List.length_take]
  rw [show min i l.length = i from by omega, Int.mul_zero, Int.add_zero]
theorem wraps_u64 (n : Int) (h0 : 0 ≤ n) (h1 : n < 2 ^ 64) : IntKind.u64.wrap n = n := wu64_of h0 (by omega)
theorem or_u64 {x y : Int} (s : Nat) (hs : s ≤ 64) (hx0 : 0 ≤ x) (hx : x % 2 ^ s = 0) (hx1 : x < 18446744073709551616) (hy0 : 0 ≤ y) (hy : y < 2 ^ s) : Go.bits .or .u64 x y = x + y := by
  have h2 : (2 : Int) ^ s ≤ 2 ^ 64 := pow_mono (by omega) hs
  exact bits_join .u64 64 (by decide) wraps_u64 s x y hx0 hx (by omega) hy0 hy (by omega)
theorem or_comm_u64 {x y : Int} (hx0 : 0 ≤ x) (hx1 : x < 18446744073709551616) (hy0 : 0 ≤ y) (hy1 : y < 18446744073709551616) : Go.bits .or .u64 x y = Go.bits .or .u64 y x := by
  obtain ⟨a, rfl⟩ := Int.eq_ofNat_of_zero_le hx0
  obtain ⟨b, rfl⟩ := Int.eq_ofNat_of_zero_le hy0
  rw [(bits_nat .u64 64 (by decide) wraps_u64 a b (by omega) (by omega)).2, (bits_nat .u64 64 (by decide) wraps_u64 b a (by omega) (by omega)).2, Nat.or_comm]
theorem shl_u64 (x : Int) (s : Nat) (hs : s ≤ 64) : shl .u64 x (s : Int) = (x * 2 ^ s) % 18446744073709551616 := by
  unfold shl
  rw [wu64]
  simp only [IntKind.bits, Int.toNat_natCast]
  rw [show min s 64 = s from by omega]
theorem shr_u64 (x : Int) (s : Nat) (hs : s ≤ 64) : shr .u64 x (s : Int) = x / 2 ^ s := by
  unfold shr
  simp only [IntKind.bits, Int.toNat_natCast]
  rw [show min s 64 = s from by omega]
theorem pow64_split {s : Nat} (hs : s ≤ 64) : (2 : Int) ^ s * 2 ^ (64 - s) = 18446744073709551616 := by
  rw [← Int.pow_add, show s + (64 - s) = 64 from by omega]
  decide
theorem pow2_pos (s : Nat) : (0 : Int) < 2 ^ s := Int.pow_pos (by omega)
theorem shl_facts {x : Int} (hx : 0 ≤ x ∧ x < 18446744073709551616) {s : Nat} (hs : s ≤ 64) :
    (x * 2 ^ s) % 18446744073709551616 + 18446744073709551616 * (x / 2 ^ (64 - s)) = x * 2 ^ s ∧ ((x * 2 ^ s) % 18446744073709551616) % 2 ^ s = 0 ∧ 0 ≤ x / 2 ^ (64 - s) ∧ x / 2 ^ (64 - s) < 2 ^ s := by
  have hp := pow64_split hs
  have h1 := pow2_pos s
  have h2 := pow2_pos (64 - s)
  generalize (2 : Int) ^ s = P at *
  generalize (2 : Int) ^ (64 - s) = Q at *
  have h3 : (x * P) / 18446744073709551616 = x / Q := by
    rw [← hp, Int.mul_comm x P, Int.mul_ediv_mul_of_pos _ _ h1]
  refine ⟨?_, ?_, Int.ediv_nonneg hx.1 (by omega), ?_⟩
  · have := Int.emod_add_mul_ediv (x * P) 18446744073709551616
    rw [h3] at this
    exact this
  · rw [← hp]
    have := Int.mul_emod_mul_of_pos (a := P) x Q h1
    rw [Int.mul_comm x P, this]
    exact Int.mul_emod_right P _
  · apply Int.ediv_lt_of_lt_mul h2
    rw [hp]
    exact hx.2
def bitV (a : List Int) (i : Int) : Bool := rightB a && decide (0 ≤ i) && decide (i / 64 < a.length) && ((a.getD (i.toNat / 64) 0 / 2 ^ (i.toNat % 64)) % 2 == 1)
theorem and_one {x : Int} (h0 : 0 ≤ x) (h1 : x < 18446744073709551616) : Go.bits .and .u64 x 1 = x % 2 := bits_mask .u64 64 (by decide) wraps_u64 1 (by decide) x h0 (by omega)
theorem nat_Bit_eq (a : List Int) (i : Int) (ha : a.length ≤ maxLen) (da : Dig (b64 : Int) a) (hi : i < 9223372036854775808) : nat_Bit.f a i = some (bitV a i) := by
  unfold nat_Bit.f bitV
  rw [nat_Right_eq ha]
  simp only [Option.bind_some]
  cases hA : rightB a with
  | false => simp
  | true =>
    rw [if_pos rfl]
    by_cases h0 : 0 ≤ i
    · obtain ⟨n, rfl⟩ := Int.eq_ofNat_of_zero_le h0
      rw [if_pos (by omega), Int.tdiv_eq_ediv_of_nonneg (by omega), Int.tmod_eq_emod_of_nonneg (by omega), w64 (by omega) (by omega)]
      by_cases h1 : (n : Int) / 64 < a.length
      · rw [if_pos h1, if_pos (by omega), if_pos (by omega)]
        rw [rd_getD, show ((n : Int) / 64).toNat = n / 64 from by omega, show (n : Int) % 64 = ((n % 64 : Nat) : Int) from by omega, shr_u64 _ _ (by omega), Int.toNat_natCast]
        have hr := da.getD b64_pos (n / 64)
        simp only [b64] at hr
        have hp := pow2_pos (n % 64)
        have h5 := Int.ediv_nonneg hr.1 (Int.le_of_lt hp)
        have h6 := Int.ediv_le_self (2 ^ (n % 64)) hr.1
        rw [and_one h5 (by omega)]
        simp [h1]
      · rw [if_neg h1]
        simp [h1]
    · rw [if_neg (by omega)]
      simp [h0]
theorem nat_up_loop (a : List Int) (da : Dig (b64 : Int) a) (ha : a.length ≤ 100000) (s : Nat) (hs : s < 64) (n : Nat) :
    ∀ (i : Nat) (p : List Int) (c : Int), a.length - i = n → i ≤ a.length → p.length = i → Dig (b64 : Int) p → 0 ≤ c ∧ c < 2 ^ s → val (b64 : Int) p + c * (b64 : Int) ^ i = val (b64 : Int) (a.take i) * 2 ^ s →
      ∃ r, Evt (fun k => nat_up.l0 k (s : Int) (p ++ c :: List.replicate n 0) a (a.length : Int) (i : Int)) r ∧ Dig (b64 : Int) r ∧ r.length = a.length + 1 ∧ val (b64 : Int) r = val (b64 : Int) a * 2 ^ s := by
  have hs64 : (2 : Int) ^ s ≤ 2 ^ 63 := pow_mono (by omega) (by omega)
  have hB : (b64 : Int) = 18446744073709551616 := rfl
  induction n with
  | zero =>
    intro i p c hn hi hp dp hc hv
    refine ⟨p ++ [c], ?_, Dig.append.2 ⟨dp, Dig.cons.2 ⟨by rw [hB]; omega, Dig.nil⟩⟩, by simp; omega, ?_⟩
    · refine Evt.succ ?_
      simp only [nat_up.l0]
      exact Evt.ite_neg (by omega) (Evt.pure _)
    · rw [List.take_of_length_le (by omega)] at hv
      rw [val_append, hp]
      simp only [val, Int.mul_zero, Int.add_zero]
      rw [Int.mul_comm ((b64 : Int) ^ i) c]
      exact hv
  | succ n ih =>
    intro i p c hn hi hp dp hc hv
    have hlt : i < a.length := by omega
    have rx := da a[i] (List.getElem_mem hlt)
    rw [hB] at rx
    obtain ⟨f1, f2, f3, f4⟩ := shl_facts rx (s := s) (by omega)
    have f5 : 0 ≤ (a[i] * 2 ^ s) % 18446744073709551616 := by omega
    have f6 : (a[i] * 2 ^ s) % 18446744073709551616 < 18446744073709551616 := by omega
    have hor : Go.bits .or .u64 c ((a[i] * 2 ^ s) % 18446744073709551616) = (a[i] * 2 ^ s) % 18446744073709551616 + c := by
      rw [or_comm_u64 hc.1 (by omega) f5 f6]
      exact or_u64 s (by omega) f5 f2 f6 hc.1 hc.2
    have hlow : (a[i] * 2 ^ s) % 18446744073709551616 + c < 18446744073709551616 := by
      have hp64 := pow64_split (s := s) (by omega)
      have hq := pow2_pos (64 - s)
      have hps := pow2_pos s
      generalize (a[i] * 2 ^ s) % 18446744073709551616 = z at *
      generalize (2 : Int) ^ s = P at *
      generalize (2 : Int) ^ (64 - s) = Q at *
      obtain ⟨t, ht⟩ := Int.dvd_of_emod_eq_zero f2
      subst ht
      have ht2 : t < Q := by
        refine Int.not_le.1 (fun hle => ?_)
        have := Int.mul_le_mul_of_nonneg_left hle (Int.le_of_lt hps)
        omega
      have : P * (t + 1) ≤ P * Q := Int.mul_le_mul_of_nonneg_left (by omega) (by omega)
      rw [Int.mul_add] at this
      omega
    generalize hz : (a[i] * 2 ^ s) % 18446744073709551616 = z at *
    obtain ⟨r, e1, e2, e3, e4⟩ := ih (i + 1) (p ++ [z + c]) (a[i] / 2 ^ (64 - s)) (by omega) (by omega) (by simp; omega) (Dig.append.2 ⟨dp, Dig.cons.2 ⟨by rw [hB]; omega, Dig.nil⟩⟩) ⟨f3, f4⟩ (by
      rw [val_append, hp, val_take_step (b64 : Int) a i hlt, Int.pow_succ]
      simp only [val, Int.mul_zero, Int.add_zero]
      rw [hB]
      rw [hB] at hv
      generalize (18446744073709551616 : Int) ^ i = P at *
      generalize a[i] / 2 ^ (64 - s) = h at *
      generalize val 18446744073709551616 (a.take i) = va at *
      generalize val 18446744073709551616 p = vp at *
      generalize (2 : Int) ^ s = S at *
      generalize a[i] = x at *
      have e : z = x * S - 18446744073709551616 * h := by omega
      rw [e]
      have e2 : vp = va * S - c * P := by omega
      rw [e2]
      grind)
    refine ⟨r, ?_, e2, e3, e4⟩
    refine Evt.succ ?_
    simp only [nat_up.l0]
    have hx : rd a (i : Int) = a[i] := by simp [rd_nat, hlt]
    have hc0 : rd (p ++ c :: List.replicate (n + 1) 0) (i : Int) = c := by
      rw [rd_nat]
      simp [List.getD_eq_getElem?_getD, ← hp]
    refine Evt.ite_pos (by omega) (Evt.ite_pos (by omega) (Evt.ite_pos (by omega) (Evt.ite_pos (by simp; omega) (Evt.ite_pos (by omega) ?_))))
    simp only [Option.bind_some]
    rw [hx, hc0, shl_u64 _ s (by omega), hz, hor, show ((i : Int)).toNat = p.length from by omega, set_at]
    rw [w64 (show -9223372036854775808 ≤ (i : Int) + 1 by omega) (by omega)]
    by_cases h0 : s = 0
    · refine Evt.ite_neg (by omega) ?_
      refine e1.congr (fun k => ?_) rfl
      have e0 : a[i] / 2 ^ (64 - s) = 0 := by
        rw [h0] at f4 f3 ⊢
        simp only [Int.pow_zero] at f4
        omega
      rw [e0, List.append_assoc]
      rfl
    · refine Evt.ite_pos (by omega) (Evt.ite_pos ?_ (Evt.ite_pos (by omega) (Evt.ite_pos (by simp; omega) ?_)))
      · rw [wu64_of (by omega) (by omega)]; omega
      · rw [wu64_of (by omega) (by omega), show (64 : Int) - (s : Int) = ((64 - s : Nat) : Int) from by omega, shr_u64 _ (64 - s) (by omega)]
        refine e1.congr (fun k => ?_) rfl
        have hset : (p ++ (z + c) :: List.replicate (n + 1) 0).set ((i : Int) + 1).toNat (a[i] / 2 ^ (64 - s)) = (p ++ [z + c]) ++ (a[i] / 2 ^ (64 - s)) :: List.replicate n 0 := by
          have e : p ++ (z + c) :: List.replicate (n + 1) 0 = (p ++ [z + c]) ++ 0 :: List.replicate n 0 := by rw [List.append_assoc, List.replicate_succ]; rfl
          rw [e, show ((i : Int) + 1).toNat = (p ++ [z + c]).length from by simp; omega]
          exact set_at _ _ _ _
        rw [hset]
        rfl
theorem nat_up_ev (a : List Int) (da : Dig (b64 : Int) a) (ha : a.length ≤ 100000) (s : Nat) (hs : s < 64) : ∃ r, Evt (fun k => nat_up.f k a (s : Int)) r ∧ Dig (b64 : Int) r ∧ r.length = a.length + 1 ∧ num r = num a * 2 ^ s := by
  obtain ⟨r, e1, e2, e3, e4⟩ := nat_up_loop a da ha s hs a.length 0 [] 0 (by omega) (by omega) rfl Dig.nil ⟨by omega, pow2_pos s⟩ (by simp [val])
  refine ⟨r, ?_, e2, e3, ?_⟩
  · unfold nat_up.f
    rw [w64 (show -9223372036854775808 ≤ (a.length : Int) + 1 by omega) (by omega)]
    refine Evt.ite_pos (by omega) (Evt.ite_pos (by omega) ?_)
    refine e1.congr (fun k => ?_) rfl
    rw [show ((a.length : Int) + 1).toNat = a.length + 1 from by omega, List.nil_append, List.replicate_succ]
    rfl
  · have h1 := num_val e2
    have h2 := num_val da
    have h3 : ((num a * 2 ^ s : Nat) : Int) = (num a : Int) * 2 ^ s := by simp
    rw [e4, ← h2, ← h3] at h1
    omega
end Go.Proofs.Ytnaphgnkhhapoab.Z
end
section
namespace Go.Proofs.Ytnaphgnkhhapoab.Z
open Go.RowKit Go.Proofs.Ytnaphgnkhhapoab.F Go.Proofs.YtnaphgnkhhapoabW.PrintWords
set_option linter.unusedSimpArgs false
set_option linter.unusedVariables false
theorem mask32m {x : Int} (h0 : 0 ≤ x) (h1 : x < 18446744073709551616) : Go.bits .and .u64 x 4294967295 = x % 4294967296 := by
  have h := bits_mask .u64 64 (by decide) wraps_u64 32 (by decide) x h0 (by omega)
  rw [show (2 : Int) ^ 32 = 4294967296 from by decide] at h
  exact h
theorem half_mul {x y : Int} (hx : 0 ≤ x ∧ x < 4294967296) (hy : 0 ≤ y ∧ y < 4294967296) : 0 ≤ x * y ∧ x * y ≤ 18446744065119617025 := by
  refine ⟨Int.mul_nonneg hx.1 hy.1, ?_⟩
  have : x * y ≤ 4294967295 * 4294967295 := Int.mul_le_mul (by omega) (by omega) hy.1 (by omega)
  omega
theorem bits_Mul64_eq {x y : Int} (hx : 0 ≤ x ∧ x < 18446744073709551616) (hy : 0 ≤ y ∧ y < 18446744073709551616) :
    ∃ hi lo : Int, bits_Mul64.f x y = some (hi, lo) ∧ hi * 18446744073709551616 + lo = x * y ∧ (0 ≤ hi ∧ hi < 18446744073709551616) ∧ (0 ≤ lo ∧ lo < 18446744073709551616) := by
  unfold bits_Mul64.f
  have ex : x = x / 4294967296 * 4294967296 + x % 4294967296 := by omega
  have ey : y = y / 4294967296 * 4294967296 + y % 4294967296 := by omega
  have xl : 0 ≤ x % 4294967296 ∧ x % 4294967296 < 4294967296 := by omega
  have yl : 0 ≤ y % 4294967296 ∧ y % 4294967296 < 4294967296 := by omega
  have xh : 0 ≤ x / 4294967296 ∧ x / 4294967296 < 4294967296 := by omega
  have yh : 0 ≤ y / 4294967296 ∧ y / 4294967296 < 4294967296 := by omega
  rw [mask32m hx.1 hx.2, mask32m hy.1 hy.2]
  have p1 := half_mul xh yh
  have p2 := half_mul xh yl
  have p3 := half_mul xl yh
  have p4 := half_mul xl yl
  have e : x * y = (x / 4294967296 * (y / 4294967296)) * 18446744073709551616 + (x / 4294967296 * (y % 4294967296) + x % 4294967296 * (y / 4294967296)) * 4294967296 + x % 4294967296 * (y % 4294967296) := by
    generalize x / 4294967296 = a at *
    generalize x % 4294967296 = b at *
    generalize y / 4294967296 = c at *
    generalize y % 4294967296 = d at *
    subst ex ey
    grind
  rw [e]
  generalize x / 4294967296 * (y / 4294967296) = A at *
  generalize x / 4294967296 * (y % 4294967296) = B at *
  generalize x % 4294967296 * (y / 4294967296) = C at *
  generalize x % 4294967296 * (y % 4294967296) = D at *
  clear e ex ey xl yl xh yh hx hy
  rw [wu64_of (x := A) p1.1 (by omega), wu64_of (x := B) p2.1 (by omega), wu64_of (x := C) p3.1 (by omega), wu64_of (x := D) p4.1 (by omega)]
  rw [wu64_of (x := B + D / 4294967296) (by omega) (by omega)]
  rw [mask32m (x := B + D / 4294967296) (by omega) (by omega)]
  rw [wu64_of (x := (B + D / 4294967296) % 4294967296 + C) (by omega) (by omega)]
  rw [wu64_of (x := A + (B + D / 4294967296) / 4294967296) (by omega) (by omega)]
  rw [wu64_of (x := A + (B + D / 4294967296) / 4294967296 + _) (by omega) (by omega)]
  exact ⟨_, _, rfl, by rw [wu64]; omega, by omega, by rw [wu64]; omega⟩
theorem add0_of {x y : Int} (hx : 0 ≤ x ∧ x < 18446744073709551616) (hy : 0 ≤ y ∧ y < 18446744073709551616) :
    add64_s x y 0 + 18446744073709551616 * add64_c x y 0 = x + y ∧ (0 ≤ add64_s x y 0 ∧ add64_s x y 0 < 18446744073709551616) ∧ (add64_c x y 0 = 0 ∨ add64_c x y 0 = 1) := by
  unfold add64_s add64_c
  omega
theorem getD_set_ne {l : List Int} {i j : Nat} {v : Int} (h : i ≠ j) : (l.set i v).getD j 0 = l.getD j 0 := by
  rw [List.getD_eq_getElem?_getD, List.getElem?_set_ne h, ← List.getD_eq_getElem?_getD]
theorem school_key {W p t B x y c o s Q : Int} (h : s + B * Q = x * y + o + c) : p + W * (s - o) + W * B * (x * t + Q) = p + W * (x * (y + B * t) + c) := by
  have e9 : W * (x * (y + B * t) + c) = W * (x * y + o + c) - W * o + W * (B * (x * t)) := by grind
  rw [e9, ← h]
  grind
theorem school_digit {x y hi lo o c s1 q1 s2 q2 : Int} (hx : 0 ≤ x ∧ x < 18446744073709551616) (hy : 0 ≤ y ∧ y < 18446744073709551616) (h3 : 0 ≤ hi ∧ hi < 18446744073709551616) (e2 : hi * 18446744073709551616 + lo = x * y) (ho : 0 ≤ o ∧ o < 18446744073709551616) (hc : 0 ≤ c ∧ c < 18446744073709551616)
    (a1 : s1 + 18446744073709551616 * q1 = lo + o) (a3 : q1 = 0 ∨ q1 = 1) (b1 : s2 + 18446744073709551616 * q2 = s1 + c) (b2 : 0 ≤ s2) (b3 : q2 = 0 ∨ q2 = 1) :
    0 ≤ hi + q1 ∧ hi + q1 < 18446744073709551616 ∧ 0 ≤ hi + q1 + q2 ∧ hi + q1 + q2 < 18446744073709551616 ∧ s2 + 18446744073709551616 * (hi + q1 + q2) = x * y + o + c := by
  have hxy : x * y ≤ 18446744073709551615 * 18446744073709551615 := Int.mul_le_mul (by omega) (by omega) hy.1 (by omega)
  have h0 : (18446744073709551615 : Int) * 18446744073709551615 = 340282366920938463426481119284349108225 := by decide
  rw [h0] at hxy
  generalize x * y = z at *
  omega
theorem school_l1 (l0 l1 : List Int) (i : Nat) (x m : Int) (hx : 0 ≤ x ∧ x < 18446744073709551616) (d1 : Dig (b64 : Int) l1) {res : List Int} : ∀ (S P out : List Int) (c : Int), l1 = P ++ S → out.length ≤ 1000000 → i + l1.length < out.length → Dig (b64 : Int) out → 0 ≤ c ∧ c < 18446744073709551616 → out.getD (i + l1.length) 0 = 0 →
    (∀ out' : List Int, out'.length = out.length → Dig (b64 : Int) out' → (∀ j, i + l1.length < j → out'.getD j 0 = out.getD j 0) → val (b64 : Int) out' = val (b64 : Int) out + (b64 : Int) ^ (i + P.length) * (x * val (b64 : Int) S + c) →
      Evt (fun k => nat_school.l0 k l1 out' l0 m (wrap64 ((i : Int) + 1))) res) →
    Evt (fun k => nat_school.l1 k l1 out (i : Int) x c l0 m (i : Int) l1 (l1.length : Int) (P.length : Int)) res := by
  intro S
  induction S with
  | nil =>
    intro P out c hl hlen hfit dO hc h0 cont
    obtain rfl : l1 = P := by simpa using hl
    refine Evt.succ ?_
    simp only [nat_school.l1]
    rw [w64 (x := (i : Int) + (l1.length : Int)) (by omega) (by omega)]
    refine Evt.ite_neg (by omega) (Evt.ite_pos (by omega) (Evt.ite_pos (by omega) ?_))
    have e : ((i : Int) + (l1.length : Int)).toNat = i + l1.length := by omega
    rw [e]
    have hB : (b64 : Int) = 18446744073709551616 := rfl
    refine cont _ (by simp) (dO.set _ (by rw [hB]; exact hc)) (fun j hj => getD_set_ne (by omega)) ?_
    rw [val_set _ _ _ _ hfit, h0]
    simp [val]
  | cons y S ih =>
    intro P out c hl hlen hfit dO hc h0 cont
    have hB : (b64 : Int) = 18446744073709551616 := rfl
    have hll : l1.length = P.length + (S.length + 1) := by rw [hl]; simp
    have hy : 0 ≤ y ∧ y < 18446744073709551616 := by
      have := d1 y (by rw [hl]; simp)
      rwa [hB] at this
    refine Evt.succ ?_
    simp only [nat_school.l1]
    refine Evt.ite_pos (by omega) (Evt.ite_pos (by omega) (Evt.ite_pos (by omega) ?_))
    have er : rd l1 (P.length : Int) = y := by rw [rd_nat, hl]; simp
    rw [er]
    obtain ⟨hi, lo, e1, e2, h3, h4⟩ := bits_Mul64_eq hx hy
    refine Evt.bind (Evt.of fun _ => e1) ?_
    rw [w64 (x := (i : Int) + (P.length : Int)) (by omega) (by omega)]
    refine Evt.ite_pos (by omega) (Evt.ite_pos (by omega) (Evt.ite_pos (carry_of (Or.inl rfl)) ?_))
    rw [show (i : Int) + (P.length : Int) = ((i + P.length : Nat) : Int) from by omega, rd_nat, Int.toNat_natCast]
    have ho := dO.getD b64_pos (i + P.length)
    rw [hB] at ho
    generalize hO : out.getD (i + P.length) 0 = o at *
    obtain ⟨a1, a2, a3⟩ := add0_of h4 ho
    generalize add64_s lo o 0 = s1 at *
    generalize add64_c lo o 0 = q1 at *
    obtain ⟨b1, b2, b3⟩ := add0_of a2 hc
    generalize add64_s s1 c 0 = s2 at *
    generalize add64_c s1 c 0 = q2 at *
    obtain ⟨k0, hq1, k1, hq2, k2⟩ := school_digit hx hy h3 e2 ho hc a1 a3 b1 b2.1 b3
    rw [wu64_of (x := hi + q1) k0 hq1, wu64_of (x := hi + q1 + q2) k1 hq2, w64 (x := (P.length : Int) + 1) (by omega) (by omega)]
    have h := ih (P ++ [y]) (out.set (i + P.length) s2) (hi + q1 + q2) (by rw [hl]; simp) (by simpa using hlen) (by simpa using hfit) (dO.set _ (by rw [hB]; exact b2)) ⟨k1, hq2⟩ (by rw [getD_set_ne (by omega)]; exact h0) ?_
    · rw [show ((P ++ [y]).length : Int) = (P.length : Int) + 1 from by simp] at h
      exact h
    · intro out' hl' d' hj' hv
      refine cont out' (by rw [hl']; simp) d' (fun j hj => by rw [hj' j hj, getD_set_ne (by omega)]) ?_
      rw [hv, val_set _ _ _ _ (by omega), hO, List.length_append, List.length_singleton, ← Nat.add_assoc, Int.pow_succ]
      simp only [val]
      exact school_key (by rw [hB]; exact k2)
theorem school_l0 (l0 l1 : List Int) (h0 : l0.length ≤ 100000) (h1 : l1.length ≤ 100000) (d0 : Dig (b64 : Int) l0) (d1 : Dig (b64 : Int) l1) (n : Nat) : ∀ (i : Nat) (out : List Int), i + n = l0.length → out.length = l0.length + l1.length → Dig (b64 : Int) out → (∀ j, i + l1.length ≤ j → out.getD j 0 = 0) → val (b64 : Int) out = val (b64 : Int) (l0.take i) * val (b64 : Int) l1 →
    Evt (fun k => nat_school.l0 k l1 out l0 (l0.length : Int) (i : Int)) (limbs (num l0 * num l1)) := by
  induction n with
  | zero =>
    intro i out hi hl dO _ hv
    refine Evt.succ ?_
    simp only [nat_school.l0]
    refine Evt.ite_neg (by omega) ?_
    refine Evt.bind (nat_trim_ev out (by simp [maxLen]; omega)) ?_
    rw [strip_limbs dO]
    have e : num out = num l0 * num l1 := by
      have e1 := num_val dO
      rw [hv, List.take_of_length_le (by omega), ← num_val d0, ← num_val d1, ← Int.natCast_mul] at e1
      omega
    rw [e]
    exact Evt.pure _
  | succ n ih =>
    intro i out hi hl dO hz hv
    have hil : i < l0.length := by omega
    refine Evt.succ ?_
    simp only [nat_school.l0]
    refine Evt.ite_pos (by omega) (Evt.ite_pos (by omega) (Evt.ite_pos (by omega) ?_))
    rw [rd_nat]
    have hx := d0.getD b64_pos i
    have hx' : 0 ≤ l0.getD i 0 ∧ l0.getD i 0 < 18446744073709551616 := hx
    have hg : l0.getD i 0 = l0[i] := by simp [hil]
    refine school_l1 l0 l1 i (l0.getD i 0) (l0.length : Int) hx' d1 l1 [] out 0 rfl (by omega) (by omega) dO (by omega) (hz _ (Nat.le_refl _)) ?_
    intro out' hl' d' hj' hv'
    rw [w64 (by omega) (by omega)]
    refine ih (i + 1) out' (by omega) (by omega) d' (fun j hj => by rw [hj' j (by omega), hz j (by omega)]) ?_
    rw [hv', hv, val_take_step _ _ _ hil, ← hg]
    simp only [List.length_nil, Nat.add_zero, Int.add_zero]
    grind
theorem nat_school_ev (l0 l1 : List Int) (h0 : l0.length ≤ 100000) (h1 : l1.length ≤ 100000) (d0 : Dig (b64 : Int) l0) (d1 : Dig (b64 : Int) l1) : Evt (fun k => nat_school.f k l0 l1) (limbs (num l0 * num l1)) := by
  unfold nat_school.f
  rw [w64 (by omega) (by omega), show ((l0.length : Int) + (l1.length : Int)).toNat = l0.length + l1.length from by omega]
  refine Evt.ite_pos (by omega) (Evt.ite_pos (by omega) ?_)
  refine school_l0 l0 l1 h0 h1 d0 d1 l0.length 0 _ (by omega) (by simp) (Dig.replicate b64_pos _) (fun j _ => ?_) ?_
  · rw [List.getD_eq_getElem?_getD, List.getElem?_replicate]
    split <;> rfl
  · rw [val_replicate]
    simp [val]
theorem add64_of {x y c : Int} (hx : 0 ≤ x ∧ x < 18446744073709551616) (hy : 0 ≤ y ∧ y < 18446744073709551616) (hc : c = 0 ∨ c = 1) :
    add64_s x y c + 18446744073709551616 * add64_c x y c = x + y + c ∧ (0 ≤ add64_s x y c ∧ add64_s x y c < 18446744073709551616) ∧ (add64_c x y c = 0 ∨ add64_c x y c = 1) := by
  unfold add64_s add64_c
  omega
theorem val_drop_step (B : Int) (a : List Int) (j : Nat) : val B (a.drop j) = a.getD j 0 + B * val B (a.drop (j + 1)) := by
  by_cases h : j < a.length
  · rw [List.drop_eq_getElem_cons h, val, List.getD_eq_getElem?_getD, List.getElem?_eq_getElem h]
    rfl
  · rw [List.drop_of_length_le (by omega), List.drop_of_length_le (by omega), List.getD_eq_getElem?_getD, List.getElem?_eq_none (by omega)]
    simp [val]
theorem nat_into_loop (a : List Int) (at_ : Nat) (da : Dig (b64 : Int) a) (n : Nat) : ∀ (i : Nat) (out : List Int) (c : Int), n + i = max out.length i → at_ ≤ i → i ≤ 1000000 → out.length ≤ 1000000 → Dig (b64 : Int) out → (c = 0 ∨ c = 1) →
    val (b64 : Int) out + (b64 : Int) ^ i * (val (b64 : Int) (a.drop (i - at_)) + c) < (b64 : Int) ^ out.length →
    ∃ r : List Int, Evt (fun k => nat_into.l0 k out a (at_ : Int) c (i : Int)) r ∧ Dig (b64 : Int) r ∧ r.length = out.length ∧ val (b64 : Int) r = val (b64 : Int) out + (b64 : Int) ^ i * (val (b64 : Int) (a.drop (i - at_)) + c) := by
  have hB : (b64 : Int) = 18446744073709551616 := rfl
  induction n with
  | zero =>
    intro i out c hn ha hi ho dO hc hf
    have hv0 := val_nonneg b64_pos dO
    have hd0 := val_nonneg b64_pos (da.drop (i - at_))
    have hpi : (0 : Int) < (b64 : Int) ^ i := Int.pow_pos (by rw [hB]; omega)
    have hpm : (b64 : Int) ^ out.length ≤ (b64 : Int) ^ i := pow_mono b64_pos (by omega)
    have hz : val (b64 : Int) (a.drop (i - at_)) + c = 0 := by
      by_cases h : val (b64 : Int) (a.drop (i - at_)) + c = 0
      · exact h
      · exfalso
        have h2 : (b64 : Int) ^ i * 1 ≤ (b64 : Int) ^ i * (val (b64 : Int) (a.drop (i - at_)) + c) := Int.mul_le_mul_of_nonneg_left (by omega) (by omega)
        omega
    refine ⟨out, ?_, dO, rfl, by rw [hz]; simp⟩
    refine Evt.succ ?_
    simp only [nat_into.l0]
    refine Evt.ite_neg (by omega) (Evt.succ ?_)
    simp only [nat_into.j1]
    refine Evt.ite_neg (by simp) (Evt.pure _)
  | succ n ih =>
    intro i out c hn ha hi ho dO hc hf
    have hio : i < out.length := by omega
    have hd0 := val_nonneg b64_pos (da.drop (i - at_))
    have hj : wrap64 ((i : Int) - (at_ : Int)) = ((i - at_ : Nat) : Int) := by rw [w64 (by omega) (by omega)]; omega
    have hO := dO.getD b64_pos i
    rw [hB] at hO
    have step : ∀ y : Int, y = a.getD (i - at_) 0 → ∃ r : List Int, Evt (fun k => nat_into.l0 k (out.set i (add64_s (out.getD i 0) y c)) a (at_ : Int) (add64_c (out.getD i 0) y c) (wrap64 ((i : Int) + 1))) r ∧ Dig (b64 : Int) r ∧ r.length = out.length ∧ val (b64 : Int) r = val (b64 : Int) out + (b64 : Int) ^ i * (val (b64 : Int) (a.drop (i - at_)) + c) := by
      intro y hy
      have hY := da.getD b64_pos (i - at_)
      rw [hB, ← hy] at hY
      obtain ⟨a1, a2, a3⟩ := add64_of hO hY hc
      have hvs := val_set (b64 : Int) out i (add64_s (out.getD i 0) y c) hio
      have hds := val_drop_step (b64 : Int) a (i - at_)
      rw [← hy] at hds
      generalize add64_s (out.getD i 0) y c = s at *
      generalize add64_c (out.getD i 0) y c = q at *
      have key : val (b64 : Int) (out.set i s) + (b64 : Int) ^ (i + 1) * (val (b64 : Int) (a.drop (i + 1 - at_)) + q) = val (b64 : Int) out + (b64 : Int) ^ i * (val (b64 : Int) (a.drop (i - at_)) + c) := by
        rw [hvs, hds, show i + 1 - at_ = i - at_ + 1 from by omega, Int.pow_succ]
        have e8 : s + (b64 : Int) * q = out.getD i 0 + y + c := by rw [hB]; omega
        generalize (b64 : Int) ^ i = W at *
        generalize val (b64 : Int) out = p at *
        generalize val (b64 : Int) (a.drop (i - at_ + 1)) = t at *
        generalize out.getD i 0 = o at *
        generalize (b64 : Int) = B at *
        have e9 : W * (y + B * t + c) = W * (o + y + c) - W * o + W * (B * t) := by grind
        rw [e9, ← e8]
        grind
      rw [w64 (by omega) (by omega)]
      have h := ih (i + 1) (out.set i s) q (by simp; omega) (by omega) (by omega) (by simpa using ho) (dO.set _ (by rw [hB]; exact a2)) a3 (by rw [key, List.length_set]; exact hf)
      obtain ⟨r, r1, r2, r3, r4⟩ := h
      exact ⟨r, r1, r2, by rw [r3, List.length_set], by rw [r4, key]⟩
    by_cases h1 : i - at_ < a.length
    · obtain ⟨r, r1, r2⟩ := step (a.getD (i - at_) 0) rfl
      refine ⟨r, ?_, r2⟩
      refine Evt.succ ?_
      simp only [nat_into.l0]
      rw [hj]
      refine Evt.ite_pos (by omega) (Evt.ite_pos (by omega) (Evt.succ ?_))
      simp only [nat_into.j1]
      rw [hj, rd_nat, rd_nat, Int.toNat_natCast]
      exact Evt.ite_pos trivial (Evt.ite_pos (by omega) (Evt.ite_pos (by omega) (Evt.ite_pos (by omega) (Evt.ite_pos (by omega) (Evt.ite_pos (carry_of hc) r1)))))
    · have hy0 : a.getD (i - at_) 0 = 0 := by
        rw [List.getD_eq_getElem?_getD, List.getElem?_eq_none (by omega)]
        rfl
      rcases hc with rfl | rfl
      · refine ⟨out, ?_, dO, rfl, ?_⟩
        · refine Evt.succ ?_
          simp only [nat_into.l0]
          rw [hj]
          refine Evt.ite_pos (by omega) (Evt.ite_neg (by omega) (Evt.succ ?_))
          simp only [nat_into.j1]
          exact Evt.ite_neg (by simp) (Evt.pure _)
        · rw [List.drop_of_length_le (by omega)]
          simp [val]
      · obtain ⟨r, r1, r2⟩ := step 0 hy0.symm
        refine ⟨r, ?_, r2⟩
        refine Evt.succ ?_
        simp only [nat_into.l0]
        rw [hj]
        refine Evt.ite_pos (by omega) (Evt.ite_neg (by omega) (Evt.succ ?_))
        simp only [nat_into.j1]
        rw [hj, rd_nat, Int.toNat_natCast]
        exact Evt.ite_pos (by simp) (Evt.ite_neg (by omega) (Evt.ite_pos (by omega) (Evt.ite_pos (by omega) (Evt.ite_pos (carry_of (Or.inr rfl)) r1))))
theorem nat_into_ev (out a : List Int) (at_ : Nat) (ha : at_ ≤ 1000000) (ho : out.length ≤ 1000000) (dO : Dig (b64 : Int) out) (da : Dig (b64 : Int) a) (hf : val (b64 : Int) out + (b64 : Int) ^ at_ * val (b64 : Int) a < (b64 : Int) ^ out.length) :
    ∃ r : List Int, Evt (fun k => nat_into.f k out a (at_ : Int)) r ∧ Dig (b64 : Int) r ∧ r.length = out.length ∧ val (b64 : Int) r = val (b64 : Int) out + (b64 : Int) ^ at_ * val (b64 : Int) a := by
  have h := nat_into_loop a at_ da (max out.length at_ - at_) at_ out 0 (by omega) (Nat.le_refl _) ha ho dO (Or.inl rfl) (by simpa using hf)
  obtain ⟨r, r1, r2, r3, r4⟩ := h
  refine ⟨r, ?_, r2, r3, by simpa using r4⟩
  unfold nat_into.f
  exact r1
theorem num_strip {l : List Int} (d : Dig (b64 : Int) l) : num (strip l) = num l := by rw [strip_limbs d, num_limbs]
theorem num_split {l : List Int} (d : Dig (b64 : Int) l) (n : Nat) : num l = num (strip (l.take n)) + b64 ^ n * num (l.drop n) := by
  rw [num_strip (d.take n)]
  have h1 := num_val d
  have h2 := num_val (d.take n)
  have h3 := num_val (d.drop n)
  have h4 := val_append (b64 : Int) (l.take n) (l.drop n)
  rw [List.take_append_drop] at h4
  rcases Nat.le_total n l.length with h | h
  · have h5 : (l.take n).length = n := by rw [List.length_take]; omega
    rw [h5, ← h1, ← h2, ← h3, pow_cast, ← Int.natCast_mul] at h4
    omega
  · have h5 : num (l.drop n) = 0 := by rw [List.drop_of_length_le h]; rfl
    rw [h5, Nat.mul_zero, List.take_of_length_le h]
    rfl
theorem limbs_len {v n : Nat} (h : v < b64 ^ n) : (limbs v).length ≤ n := toD_len_le b64_two h
theorem limbs_dig (v : Nat) : Dig (b64 : Int) (limbs v) := toD_dig b64_two v
theorem limbs_mono {v w : Nat} (h : v ≤ w) : (limbs v).length ≤ (limbs w).length := by
  have h1 : w < b64 ^ (limbs w).length := toD_lt_pow b64_two w
  exact limbs_len (by omega)
theorem mul_lt_pow {x y a b : Nat} (hx : x < b64 ^ a) (hy : y < b64 ^ b) : x * y < b64 ^ (a + b) := by
  rw [Nat.pow_add]
  exact Nat.mul_lt_mul'' hx hy
theorem kara_num {A B X a1 a0 b1 b0 : Nat} (hA : A = a0 + X * a1) (hB : B = b0 + X * b1) :
    a0 * b0 ≤ (a0 + a1) * (b0 + b1) ∧ a1 * b1 ≤ (a0 + a1) * (b0 + b1) - a0 * b0 ∧ A * B = a0 * b0 + X * ((a0 + a1) * (b0 + b1) - a0 * b0 - a1 * b1) + X * X * (a1 * b1) := by
  have e : (a0 + a1) * (b0 + b1) = a0 * b0 + (a0 * b1 + a1 * b0) + a1 * b1 := by grind
  rw [e]
  refine ⟨by omega, by omega, ?_⟩
  have e2 : a0 * b0 + (a0 * b1 + a1 * b0) + a1 * b1 - a0 * b0 - a1 * b1 = a0 * b1 + a1 * b0 := by omega
  rw [e2, hA, hB]
  grind
theorem kara_ev (l0 l1 : List Int) (h0 : l0.length ≤ 400) (h1 : l1.length ≤ 400) (h2 : 24 ≤ l0.length) (h3 : 24 ≤ l1.length) (d0 : Dig (b64 : Int) l0) (d1 : Dig (b64 : Int) l1) (n : Nat) (hn : n = (max l0.length l1.length + 1) / 2)
    (LA LB HA HB P Q O1 : List Int) (eLA : LA = strip (l0.take n)) (eLB : LB = strip (l1.take n)) (eHA : HA = l0.drop n) (eHB : HB = l1.drop n) (eP : P = limbs (num LA * num LB)) (eQ : Q = limbs (num HA * num HB))
    (eO : O1 = P.take (min P.length (l0.length + l1.length + 1)) ++ (List.replicate (l0.length + l1.length + 1) (0 : Int)).drop (min P.length (l0.length + l1.length + 1))) :
    (LA.length + LB.length < l0.length + l1.length ∧ LA.length ≤ 400 ∧ LB.length ≤ 400 ∧ Dig (b64 : Int) LA ∧ Dig (b64 : Int) LB) ∧
    (HA.length + HB.length < l0.length + l1.length ∧ HA.length ≤ 400 ∧ HB.length ≤ 400 ∧ Dig (b64 : Int) HA ∧ Dig (b64 : Int) HB) ∧
    ∃ S1 S2 T1 T2 M U U1 V V1 O2 O3 : List Int, (∃ k, nat_sum.f k LA HA = some S1) ∧ (∃ k, nat_sum.f k LB HB = some S2) ∧ T1 = strip S1 ∧ T2 = strip S2 ∧
      (T1.length + T2.length < l0.length + l1.length ∧ T1.length ≤ 400 ∧ T2.length ≤ 400 ∧ Dig (b64 : Int) T1 ∧ Dig (b64 : Int) T2) ∧ M = limbs (num T1 * num T2) ∧
      (∃ k, nat_less.f k M P = some U) ∧ U1 = strip U ∧ (∃ k, nat_less.f k U1 Q = some V) ∧ V1 = strip V ∧
      (∃ k, nat_into.f k O1 V1 (n : Int) = some O2) ∧ (∃ k, nat_into.f k O2 Q ((2 * n : Nat) : Int) = some O3) ∧ (∃ k, nat_trim.f k O3 = some (limbs (num l0 * num l1))) := by
  have lLA : LA.length ≤ n := by
    have := strip_length (l0.take n)
    rw [List.length_take] at this
    rw [eLA]; omega
  have lLB : LB.length ≤ n := by
    have := strip_length (l1.take n)
    rw [List.length_take] at this
    rw [eLB]; omega
  have lHA : HA.length ≤ n := by rw [eHA, List.length_drop]; omega
  have lHB : HB.length ≤ n := by rw [eHB, List.length_drop]; omega
  have lHA' : HA.length ≤ l0.length - n := by rw [eHA, List.length_drop]; omega
  have lHB' : HB.length ≤ l1.length - n := by rw [eHB, List.length_drop]; omega
  have dLA : Dig (b64 : Int) LA := by rw [eLA]; exact strip_dig (d0.take n)
  have dLB : Dig (b64 : Int) LB := by rw [eLB]; exact strip_dig (d1.take n)
  have dHA : Dig (b64 : Int) HA := by rw [eHA]; exact d0.drop n
  have dHB : Dig (b64 : Int) HB := by rw [eHB]; exact d1.drop n
  have sA : num l0 = num LA + b64 ^ n * num HA := by rw [eLA, eHA]; exact num_split d0 n
  have sB : num l1 = num LB + b64 ^ n * num HB := by rw [eLB, eHB]; exact num_split d1 n
  obtain ⟨k1, k2, k3⟩ := kara_num sA sB
  have pn : ∀ {l : List Int} {m : Nat}, Dig (b64 : Int) l → l.length ≤ m → num l < b64 ^ m := fun d h => Nat.lt_of_lt_of_le (num_lt d) (Nat.pow_le_pow_right (by decide) h)
  have vLA := pn dLA lLA
  have vLB := pn dLB lLB
  have vHA := pn dHA lHA
  have vHB := pn dHB lHB
  have hpn : b64 ^ n + b64 ^ n ≤ b64 ^ (n + 1) := by
    have hb2 := Nat.mul_le_mul_left (b64 ^ n) b64_two
    rw [Nat.pow_succ]
    omega
  obtain ⟨S1, e1, dS1, nS1, lS1⟩ := nat_sum_ev LA HA (by omega) (by omega) dLA dHA
  obtain ⟨S2, e2, dS2, nS2, lS2⟩ := nat_sum_ev LB HB (by omega) (by omega) dLB dHB
  have nT1 : num (strip S1) = num LA + num HA := by rw [num_strip dS1, nS1]
  have nT2 : num (strip S2) = num LB + num HB := by rw [num_strip dS2, nS2]
  have lT1 : (strip S1).length ≤ n + 1 := by rw [strip_limbs dS1]; exact limbs_len (by omega)
  have lT2 : (strip S2).length ≤ n + 1 := by rw [strip_limbs dS2]; exact limbs_len (by omega)
  obtain ⟨M, eM⟩ : ∃ M, M = limbs (num (strip S1) * num (strip S2)) := ⟨_, rfl⟩
  have nM : num M = (num LA + num HA) * (num LB + num HB) := by rw [eM, num_limbs, nT1, nT2]
  have nP : num P = num LA * num LB := by rw [eP, num_limbs]
  have nQ : num Q = num HA * num HB := by rw [eQ, num_limbs]
  have dM : Dig (b64 : Int) M := by rw [eM]; exact limbs_dig _
  have dP : Dig (b64 : Int) P := by rw [eP]; exact limbs_dig _
  have dQ : Dig (b64 : Int) Q := by rw [eQ]; exact limbs_dig _
  have lM : M.length ≤ (n + 1) + (n + 1) := by
    rw [eM]
    refine limbs_len (mul_lt_pow ?_ ?_)
    · rw [nT1]; omega
    · rw [nT2]; omega
  have lPM : P.length ≤ M.length := by
    rw [eP, eM]
    exact limbs_mono (by rw [nT1, nT2]; exact k1)
  obtain ⟨U, e3, dU, nU, lU⟩ := nat_less_ev M P (by omega) lPM dM dP (by rw [nP, nM]; exact k1)
  have nU1 : num (strip U) = (num LA + num HA) * (num LB + num HB) - num LA * num LB := by rw [num_strip dU, nU, nM, nP]
  have dU1 : Dig (b64 : Int) (strip U) := strip_dig dU
  have lU1 : (strip U).length ≤ M.length := by have := strip_length U; omega
  have lQU : Q.length ≤ (strip U).length := by
    rw [eQ, strip_limbs dU]
    refine limbs_mono ?_
    rw [← num_strip dU, nU1]
    exact k2
  obtain ⟨V, e4, dV, nV, lV⟩ := nat_less_ev (strip U) Q (by omega) lQU dU1 dQ (by rw [nQ, nU1]; exact k2)
  have nV1 : num (strip V) = (num LA + num HA) * (num LB + num HB) - num LA * num LB - num HA * num HB := by rw [num_strip dV, nV, nU1, nQ]
  have dV1 : Dig (b64 : Int) (strip V) := strip_dig dV
  obtain ⟨N, eN⟩ : ∃ N, N = l0.length + l1.length + 1 := ⟨_, rfl⟩
  rw [← eN] at eO
  have tot : num l0 * num l1 < b64 ^ N := by
    have h := mul_lt_pow (num_lt d0) (num_lt d1)
    exact Nat.lt_of_lt_of_le h (Nat.pow_le_pow_right (by decide) (by omega))
  have lP : P.length ≤ N := by
    rw [eP]
    refine limbs_len ?_
    rw [k3] at tot
    omega
  have eO' : O1 = P ++ List.replicate (N - P.length) 0 := by
    rw [eO, show min P.length N = P.length from by omega, List.take_length]
    congr 1
    exact List.drop_replicate
  have lO1 : O1.length = N := by rw [eO']; simp; omega
  have dO1 : Dig (b64 : Int) O1 := by rw [eO']; exact Dig.append.2 ⟨dP, Dig.replicate b64_pos _⟩
  have vO1 : val (b64 : Int) O1 = ((num LA * num LB : Nat) : Int) := by
    rw [eO', val_append, val_replicate, Int.mul_zero, Int.add_zero, ← num_val dP, nP]
  have c1 : ((b64 ^ n : Nat) : Int) = (b64 : Int) ^ n := (pow_cast b64 n).symm
  have cN : ((b64 ^ N : Nat) : Int) = (b64 : Int) ^ N := (pow_cast b64 N).symm
  have vV1 : val (b64 : Int) (strip V) = (((num LA + num HA) * (num LB + num HB) - num LA * num LB - num HA * num HB : Nat) : Int) := by rw [← num_val dV1, nV1]
  have vQ : val (b64 : Int) Q = ((num HA * num HB : Nat) : Int) := by rw [← num_val dQ, nQ]
  obtain ⟨O2, e5, dO2, lO2, vO2⟩ := nat_into_ev O1 (strip V) n (by omega) (by omega) dO1 dV1 (by
    rw [vO1, vV1, lO1, ← c1, ← cN, ← Int.natCast_mul, ← Int.natCast_add]
    apply Int.ofNat_lt.2
    rw [k3] at tot
    omega)
  have cc : ((b64 ^ n * b64 ^ n : Nat) : Int) = (b64 : Int) ^ (2 * n) := by
    rw [← Nat.pow_add, show n + n = 2 * n from by omega]
    exact (pow_cast b64 (2 * n)).symm
  have vO2' : val (b64 : Int) O2 = ((num LA * num LB + b64 ^ n * ((num LA + num HA) * (num LB + num HB) - num LA * num LB - num HA * num HB) : Nat) : Int) := by
    rw [vO2, vO1, vV1, ← c1, ← Int.natCast_mul, ← Int.natCast_add]
  obtain ⟨O3, e6, dO3, lO3, vO3⟩ := nat_into_ev O2 Q (2 * n) (by omega) (by omega) dO2 dQ (by
    rw [vO2', vQ, lO2, lO1, ← cc, ← cN, ← Int.natCast_mul, ← Int.natCast_add]
    apply Int.ofNat_lt.2
    rw [k3] at tot
    exact tot)
  have nO3 : num O3 = num l0 * num l1 := by
    have h := num_val dO3
    rw [vO3, vO2', vQ, ← cc, ← Int.natCast_mul, ← Int.natCast_add] at h
    rw [k3]
    exact Int.ofNat.inj h
  have e7 := nat_trim_ev O3 (by simp [maxLen]; omega)
  rw [strip_limbs dO3, nO3] at e7
  refine ⟨⟨by omega, by omega, by omega, dLA, dLB⟩, ⟨by omega, by omega, by omega, dHA, dHB⟩, S1, S2, strip S1, strip S2, M, U, strip U, V, strip V, O2, O3, e1.get, e2.get, rfl, rfl, ⟨by omega, by omega, by omega, strip_dig dS1, strip_dig dS2⟩, eM, e3.get, rfl, e4.get, rfl, e5.get, e6.get, e7.get⟩
def shlV (a : List Int) (n : Int) : List Int × Int :=
  if rightB a = true ∧ 0 ≤ n then (if a.length = 0 then ([], 0) else if 4096 < n then ([], 4) else toldV (num a * 2 ^ n.toNat)) else ([], 1)
theorem num_zeros_append {r : List Int} (d : Dig (b64 : Int) r) (m : Nat) : Dig (b64 : Int) (List.replicate m 0 ++ r) ∧ num (List.replicate m 0 ++ r) = b64 ^ m * num r := by
  have d2 : Dig (b64 : Int) (List.replicate m 0 ++ r) := Dig.append.2 ⟨Dig.replicate b64_pos m, d⟩
  refine ⟨d2, ?_⟩
  have h := num_val d2
  rw [val_append, val_replicate, List.length_replicate, ← num_val d, pow_cast] at h
  have : ((b64 ^ m : Nat) : Int) * (num r : Int) = ((b64 ^ m * num r : Nat) : Int) := by simp
  omega
theorem nat_Shl_ev (a : List Int) (n : Int) (ha : a.length ≤ maxLen) (da : Dig (b64 : Int) a) : Evt (fun k => nat_Shl.f k a n) (shlV a n) := by
  unfold nat_Shl.f shlV
  rw [nat_Right_eq ha]
  simp only [Option.bind_some]
  have J : ∀ x : Bool, (x = false → rightB a = true ∧ 0 ≤ n) → Evt (fun k => nat_Shl.j0 k a n x) (if x = true then ([], 1) else if a.length = 0 then ([], 0) else if 4096 < n then ([], 4) else toldV (num a * 2 ^ n.toNat)) := by
    intro x hx
    refine Evt.succ ?_
    simp only [nat_Shl.j0]
    refine Evt.cond (fun _ => Evt.pure _) (fun hc => ?_)
    have h := hx (by simpa using hc)
    obtain ⟨h1, c1⟩ := (rightB_iff a).1 h.1
    by_cases h0 : a.length = 0
    · rw [if_pos h0]; exact Evt.ite_pos (by omega) (Evt.pure _)
    · rw [if_neg h0]
      refine Evt.ite_neg (by omega) ?_
      by_cases hn : 4096 < n
      · rw [if_pos hn]; exact Evt.ite_pos (by omega) (Evt.pure _)
      · rw [if_neg hn]
        refine Evt.ite_neg (by omega) ?_
        obtain ⟨m, rfl⟩ := Int.eq_ofNat_of_zero_le h.2
        have e1 : Int.tdiv (m : Int) 64 = ((m / 64 : Nat) : Int) := by rw [Int.tdiv_eq_ediv_of_nonneg (by omega)]; omega
        have e2 : IntKind.u64.wrap (Int.tmod (m : Int) 64) = ((m % 64 : Nat) : Int) := by
          rw [Int.tmod_eq_emod_of_nonneg (by omega), wu64_of (by omega) (by omega)]; omega
        rw [e1, e2, w64 (show -9223372036854775808 ≤ ((m / 64 : Nat) : Int) by omega) (by omega)]
        refine Evt.ite_pos (by omega) (Evt.ite_pos (by omega) ?_)
        refine Evt.bind (Evt.pure _) ?_
        obtain ⟨r, g1, g2, g3, g4⟩ := nat_up_ev a da (by omega) (m % 64) (by omega)
        refine Evt.bind g1 ?_
        rw [Int.toNat_natCast, Int.toNat_natCast]
        refine Evt.ite_pos (by simp; omega) ?_
        obtain ⟨d2, k2⟩ := num_zeros_append g2 (m / 64)
        have h5 := nat_told_ev (List.replicate (m / 64) 0 ++ r) (by simp; omega) d2
        have e3 : b64 ^ (m / 64) * num r = num a * 2 ^ m := by
          rw [g4]
          rw [b64_pow2, Nat.mul_left_comm, ← Nat.pow_add, show 64 * (m / 64) + m % 64 = m from by omega]
        rw [k2, e3] at h5
        exact Evt.bind h5 (h := fun t _ => some (t.1, t.2)) (Evt.pure _)
  cases hA : rightB a with
  | true =>
    refine Evt.ite_pos rfl ((J _ (fun h => ⟨hA, by simpa using h⟩)).congr (fun k => rfl) ?_)
    by_cases hn : n < 0
    · rw [decide_eq_true hn, if_pos rfl, if_neg (show ¬ (true = true ∧ 0 ≤ n) by omega)]
    · rw [decide_eq_false hn, if_neg (by simp), if_pos (show true = true ∧ 0 ≤ n from ⟨rfl, by omega⟩)]
  | false =>
    refine Evt.ite_neg (by simp) ((J _ (fun h => by simp at h)).congr (fun k => rfl) ?_)
    simp
theorem len8 : ∀ n : Fin 256, bt (⟨#[0, 1, 2, 2, 3, 3, 3, 3, 4, 4, 4, 4, 4, 4, 4, 4, 5, 5, 5, 5, 5, 5, 5, 5, 5, 5, 5, 5, 5, 5, 5, 5, 6, 6, 6, 6, 6, 6, 6, 6, 6, 6, 6, 6, 6, 6, 6, 6, 6, 6, 6, 6, 6, 6, 6, 6, 6, 6, 6, 6, 6, 6, 6, 6, 7, 7, 7, 7, 7, 7, 7, 7, 7, 7, 7, 7, 7, 7, 7, 7, 7, 7, 7, 7, 7, 7, 7, 7, 7, 7, 7, 7, 7, 7, 7, 7, 7, 7, 7, 7, 7, 7, 7, 7, 7, 7, 7, 7, 7, 7, 7, 7, 7, 7, 7, 7, 7, 7, 7, 7, 7, 7, 7, 7, 7, 7, 7, 7, 8, 8, 8, 8, 8, 8, 8, 8, 8, 8, 8, 8, 8, 8, 8, 8, 8, 8, 8, 8, 8, 8, 8, 8, 8, 8, 8, 8, 8, 8, 8, 8, 8, 8, 8, 8, 8, 8, 8, 8, 8, 8, 8, 8, 8, 8, 8, 8, 8, 8, 8, 8, 8, 8, 8, 8, 8, 8, 8, 8, 8, 8, 8, 8, 8, 8, 8, 8, 8, 8, 8, 8, 8, 8, 8, 8, 8, 8, 8, 8, 8, 8, 8, 8, 8, 8, 8, 8, 8, 8, 8, 8, 8, 8, 8, 8, 8, 8, 8, 8, 8, 8, 8, 8, 8, 8, 8, 8, 8, 8, 8, 8, 8, 8, 8, 8, 8, 8, 8, 8, 8, 8, 8, 8, 8, 8, 8, 8]⟩ : ByteArray) ((n.val : Nat) : Int) = ((bl n.val : Nat) : Int) := by decide +kernel
theorem len8_at {x : Int} (h0 : 0 ≤ x) (h1 : x < 256) : bt (⟨#[0, 1, 2, 2, 3, 3, 3, 3, 4, 4, 4, 4, 4, 4, 4, 4, 5, 5, 5, 5, 5, 5, 5, 5, 5, 5, 5, 5, 5, 5, 5, 5, 6, 6, 6, 6, 6, 6, 6, 6, 6, 6, 6, 6, 6, 6, 6, 6, 6, 6, 6, 6, 6, 6, 6, 6, 6, 6, 6, 6, 6, 6, 6, 6, 7, 7, 7, 7, 7, 7, 7, 7, 7, 7, 7, 7, 7, 7, 7, 7, 7, 7, 7, 7, 7, 7, 7, 7, 7, 7, 7, 7, 7, 7, 7, 7, 7, 7, 7, 7, 7, 7, 7, 7, 7, 7, 7, 7, 7, 7, 7, 7, 7, 7, 7, 7, 7, 7, 7, 7, 7, 7, 7, 7, 7, 7, 7, 7, 8, 8, 8, 8, 8, 8, 8, 8, 8, 8, 8, 8, 8, 8, 8, 8, 8, 8, 8, 8, 8, 8, 8, 8, 8, 8, 8, 8, 8, 8, 8, 8, 8, 8, 8, 8, 8, 8, 8, 8, 8, 8, 8, 8, 8, 8, 8, 8, 8, 8, 8, 8, 8, 8, 8, 8, 8, 8, 8, 8, 8, 8, 8, 8, 8, 8, 8, 8, 8, 8, 8, 8, 8, 8, 8, 8, 8, 8, 8, 8, 8, 8, 8, 8, 8, 8, 8, 8, 8, 8, 8, 8, 8, 8, 8, 8, 8, 8, 8, 8, 8, 8, 8, 8, 8, 8, 8, 8, 8, 8, 8, 8, 8, 8, 8, 8, 8, 8, 8, 8, 8, 8, 8, 8, 8, 8, 8, 8]⟩ : ByteArray) x = ((bl x.toNat : Nat) : Int) := by
  obtain ⟨n, rfl⟩ := Int.eq_ofNat_of_zero_le h0
  exact len8 ⟨n, by omega⟩
theorem len64_j {x : Int} (h0 : 0 ≤ x) (h1 : x < 4294967296) (c : Int) (hc : 0 ≤ c ∧ c ≤ 1000) : Evt (fun k => bits_Len64.j0 k x c) (c + ((bl x.toNat : Nat) : Int)) := by
  have key : ∀ (s : Nat) (y : Int), 0 ≤ y → y < 256 → (s ≤ 24) → (y = 0 → s = 0) → y = x / 2 ^ s → ((bl x.toNat : Nat) : Int) = (s : Int) + ((bl y.toNat : Nat) : Int) := by
    intro s y hy0 hy1 hs hz he
    have : bl x.toNat = s + bl y.toNat := by
      by_cases h : y = 0
      · have hs0 := hz h
        subst hs0
        simp at he
        rw [he, Nat.zero_add]
      · have e : y.toNat = x.toNat / 2 ^ s := by
          rw [he]
          have h2 : x = ((x.toNat : Nat) : Int) := by omega
          rw [h2]
          have h3 : ((2 : Int) ^ s) = ((2 ^ s : Nat) : Int) := by simp
          rw [h3, ← Int.natCast_ediv, Int.toNat_natCast, Int.toNat_natCast]
        rw [e]
        exact bl_shift x.toNat s (by rw [← e]; omega)
    omega
  refine Evt.succ ?_
  simp only [bits_Len64.j0]
  by_cases c1 : x ≥ 65536
  · refine Evt.ite_pos c1 ?_
    by_cases c2 : x / 65536 ≥ 256
    · refine Evt.ite_pos c2 (Evt.ite_pos (by omega) (Evt.ite_pos (by omega) ?_))
      have e : x / 65536 / 256 % 256 = x / 65536 / 256 := by omega
      rw [e, len8_at (by omega) (by omega)]
      have k1 := key 24 (x / 65536 / 256) (by omega) (by omega) (by omega) (by omega) (by rw [Int.ediv_ediv_of_nonneg (by omega)]; rfl)
      have k2 := bl_le8 (x := (x / 65536 / 256).toNat) (by omega)
      rw [w64 (show -9223372036854775808 ≤ c + 16 by omega) (by omega), w64 (show -9223372036854775808 ≤ c + 16 + 8 by omega) (by omega), w64 (show -9223372036854775808 ≤ ((bl (x / 65536 / 256).toNat : Nat) : Int) by omega) (by omega), w64 (by omega) (by omega), k1]
      refine (Evt.pure _).congr (fun k => rfl) (by omega)
    · refine Evt.ite_neg c2 (Evt.ite_pos (by omega) (Evt.ite_pos (by omega) ?_))
      have e : x / 65536 % 256 = x / 65536 := by omega
      rw [e, len8_at (by omega) (by omega)]
      have k1 := key 16 (x / 65536) (by omega) (by omega) (by omega) (by omega) rfl
      have k2 := bl_le8 (x := (x / 65536).toNat) (by omega)
      rw [w64 (show -9223372036854775808 ≤ c + 16 by omega) (by omega), w64 (show -9223372036854775808 ≤ ((bl (x / 65536).toNat : Nat) : Int) by omega) (by omega), w64 (by omega) (by omega), k1]
      refine (Evt.pure _).congr (fun k => rfl) (by omega)
  · refine Evt.ite_neg c1 ?_
    by_cases c2 : x ≥ 256
    · refine Evt.ite_pos c2 (Evt.ite_pos (by omega) (Evt.ite_pos (by omega) ?_))
      have e : x / 256 % 256 = x / 256 := by omega
      rw [e, len8_at (by omega) (by omega)]
      have k1 := key 8 (x / 256) (by omega) (by omega) (by omega) (by omega) rfl
      have k2 := bl_le8 (x := (x / 256).toNat) (by omega)
      rw [w64 (show -9223372036854775808 ≤ c + 8 by omega) (by omega), w64 (show -9223372036854775808 ≤ ((bl (x / 256).toNat : Nat) : Int) by omega) (by omega), w64 (by omega) (by omega), k1]
      refine (Evt.pure _).congr (fun k => rfl) (by omega)
    · refine Evt.ite_neg c2 (Evt.ite_pos (by omega) (Evt.ite_pos (by omega) ?_))
      have e : x % 256 = x := by omega
      rw [e, len8_at (by omega) (by omega)]
      have k2 := bl_le8 (x := x.toNat) (by omega)
      rw [w64 (show -9223372036854775808 ≤ ((bl x.toNat : Nat) : Int) by omega) (by omega), w64 (by omega) (by omega)]
      exact Evt.pure _
theorem bits_Len64_ev {x : Int} (h0 : 0 ≤ x) (h1 : x < 18446744073709551616) : Evt (fun k => bits_Len64.f k x) ((bl x.toNat : Nat) : Int) := by
  unfold bits_Len64.f
  by_cases c1 : x ≥ 4294967296
  · refine Evt.ite_pos c1 ?_
    refine (len64_j (x := x / 4294967296) (by omega) (by omega) 32 (by omega)).congr (fun k => rfl) ?_
    have e : (x / 4294967296).toNat = x.toNat / 2 ^ 32 := by omega
    have := bl_shift x.toNat 32 (by omega)
    rw [e]
    omega
  · refine Evt.ite_neg c1 ?_
    exact (len64_j (x := x) (by omega) (by omega) 0 (by omega)).congr (fun k => rfl) (by omega)
theorem div_corr {Y a b u c q r : Int} (hY : Y = a * 4294967296 + b) (ha : 2147483648 ≤ a ∧ a < 4294967296) (hb : 0 ≤ b ∧ b < 4294967296) (hu : 0 ≤ u ∧ u < Y) (hc : 0 ≤ c ∧ c < 4294967296)
    (hq : (u * 4294967296 + c) / Y ≤ q) (hq2 : q ≤ 4294967297) (hr : r = u - q * a) (hr0 : 0 ≤ r ∧ r < 4294967296) :
    ((q ≥ 4294967296 ∨ q * b > 4294967296 * r + c) → (u * 4294967296 + c) / Y ≤ q - 1) ∧ (¬ (q ≥ 4294967296 ∨ q * b > 4294967296 * r + c) → (u * 4294967296 + c) / Y = q) ∧
    ((q ≥ 4294967296 ∨ q * b > 4294967296 * r + c) → r + a ≥ 4294967296 → (u * 4294967296 + c) / Y = q - 1) := by
  have hY0 : 0 < Y := by omega
  have e1 : q * Y = q * a * 4294967296 + q * b := by rw [hY]; grind
  have e2 : (q - 1) * Y = q * Y - Y := by grind
  have lt : (u * 4294967296 + c) / Y < 4294967296 := by
    apply Int.ediv_lt_of_lt_mul hY0
    omega
  have up : (q ≥ 4294967296 ∨ q * b > 4294967296 * r + c) → (u * 4294967296 + c) / Y ≤ q - 1 := by
    intro h
    rcases h with h | h
    · omega
    · have : (u * 4294967296 + c) / Y < q := by
        apply Int.ediv_lt_of_lt_mul hY0
        rw [e1]; omega
      omega
  refine ⟨up, fun h => ?_, fun h h2 => ?_⟩
  · have : q ≤ (u * 4294967296 + c) / Y := by
      rw [Int.le_ediv_iff_mul_le hY0, e1]
      omega
    omega
  · have h3 := up h
    have h4 : (q - 1) * b ≤ 4294967296 * 4294967295 := by
      by_cases h5 : q - 1 ≤ 0
      · have : (q - 1) * b ≤ 0 := Int.mul_nonpos_of_nonpos_of_nonneg h5 hb.1
        omega
      · exact Int.mul_le_mul (by omega) (by omega) hb.1 (by omega)
    have h6 : (q - 1) * b = q * b - b := by grind
    have : q - 1 ≤ (u * 4294967296 + c) / Y := by
      rw [Int.le_ediv_iff_mul_le hY0, e2, e1]
      omega
    omega
theorem mul_u64 {x y : Int} (hx : 0 ≤ x ∧ x < 4294967296) (hy : 0 ≤ y ∧ y < 4294967296) : 0 ≤ x * y ∧ x * y < 18446744073709551616 := by
  refine ⟨Int.mul_nonneg hx.1 hy.1, ?_⟩
  have : x * y ≤ 4294967295 * 4294967295 := Int.mul_le_mul (by omega) (by omega) hy.1 (by omega)
  omega
theorem div_l0 {Y a b u c c0 s : Int} (hY : Y = a * 4294967296 + b) (ha : 2147483648 ≤ a ∧ a < 4294967296) (hb : 0 ≤ b ∧ b < 4294967296) (hu : 0 ≤ u ∧ u < Y) (hc : 0 ≤ c ∧ c < 4294967296) {res : Int × Int}
    (fin : Evt (fun k => bits_Div64.j2 k Y s a b u c c0 ((u * 4294967296 + c) / Y)) res) (n : Nat) : ∀ q r : Int, (u * 4294967296 + c) / Y ≤ q → q ≤ 4294967297 → r = u - q * a → 0 ≤ r ∧ r < 4294967296 → q - (u * 4294967296 + c) / Y ≤ n →
    Evt (fun k => bits_Div64.l0 k Y s a b u c c0 q r) res := by
  have hQ0 : 0 ≤ (u * 4294967296 + c) / Y := Int.ediv_nonneg (by omega) (by omega)
  induction n with
  | zero =>
    intro q r hq hq2 hr hr0 hn
    obtain ⟨g1, g2, g3⟩ := div_corr hY ha hb hu hc hq hq2 hr hr0
    have hno : ¬ (q ≥ 4294967296 ∨ q * b > 4294967296 * r + c) := fun h => by have := g1 h; omega
    refine Evt.succ ?_
    simp only [bits_Div64.l0]
    refine Evt.ite_neg (fun h => hno (Or.inl h)) ?_
    have hm := mul_u64 (x := q) (y := b) ⟨by omega, by omega⟩ hb
    rw [wu64_of hm.1 hm.2, wu64_of (x := 4294967296 * r) (by omega) (by omega), wu64_of (x := 4294967296 * r + c) (by omega) (by omega)]
    refine Evt.succ ?_
    simp only [bits_Div64.j1]
    refine Evt.ite_neg (by simp only [decide_eq_true_eq]; exact fun h => hno (Or.inr h)) ?_
    rw [← g2 hno]
    exact fin
  | succ n ih =>
    intro q r hq hq2 hr hr0 hn
    obtain ⟨g1, g2, g3⟩ := div_corr hY ha hb hu hc hq hq2 hr hr0
    have key : ∀ t : Bool, (t = true ↔ (q ≥ 4294967296 ∨ q * b > 4294967296 * r + c)) → Evt (fun k => bits_Div64.j1 k Y s a b u c c0 q r t) res := by
      intro t ht
      refine Evt.succ ?_
      simp only [bits_Div64.j1]
      by_cases h : t = true
      · have h' := ht.1 h
        have hq1 := g1 h'
        refine Evt.ite_pos h ?_
        rw [wu64_of (x := r + a) (by omega) (by omega), wu64_of (x := q - 1) (by omega) (by omega)]
        by_cases h2 : r + a ≥ 4294967296
        · refine Evt.ite_pos h2 ?_
          rw [← g3 h' h2]
          exact fin
        · refine Evt.ite_neg h2 (ih (q - 1) (r + a) hq1 (by omega) ?_ (by omega) (by omega))
          rw [hr]; grind
      · refine Evt.ite_neg h ?_
        rw [← g2 (fun h' => h (ht.2 h'))]
        exact fin
    refine Evt.succ ?_
    simp only [bits_Div64.l0]
    by_cases h : q ≥ 4294967296
    · exact Evt.ite_pos h (key true ⟨fun _ => Or.inl h, fun _ => rfl⟩)
    · refine Evt.ite_neg h (key _ ?_)
      have hm := mul_u64 (x := q) (y := b) ⟨by omega, by omega⟩ hb
      rw [wu64_of hm.1 hm.2, wu64_of (x := 4294967296 * r) (by omega) (by omega), wu64_of (x := 4294967296 * r + c) (by omega) (by omega), decide_eq_true_eq]
      exact ⟨fun h => Or.inr h, fun h' => by rcases h' with h' | h'; exact absurd h' h; exact h'⟩
theorem div_left {Y u c : Int} (hY : 0 < Y ∧ Y < 18446744073709551616) (hu : 0 ≤ u ∧ u < Y) (hc : 0 ≤ c ∧ c < 4294967296) :
    IntKind.u64.wrap ((IntKind.u64.wrap ((IntKind.u64.wrap (u * 4294967296)) + c)) - (IntKind.u64.wrap ((u * 4294967296 + c) / Y * Y))) = (u * 4294967296 + c) % Y := by
  have h1 : (u * 4294967296 + c) % Y + (u * 4294967296 + c) / Y * Y = u * 4294967296 + c := by rw [Int.mul_comm (_ / Y)]; exact Int.emod_add_mul_ediv _ _
  have h2 := Int.emod_nonneg (u * 4294967296 + c) (show Y ≠ 0 by omega)
  have h3 := Int.emod_lt_of_pos (u * 4294967296 + c) hY.1
  generalize (u * 4294967296 + c) % Y = m at *
  generalize (u * 4294967296 + c) / Y * Y = p at *
  simp only [wu64]
  omega
theorem div_first {Y a b u : Int} (c : Int) (hY : Y = a * 4294967296 + b) (ha : 2147483648 ≤ a ∧ a < 4294967296) (hb : 0 ≤ b ∧ b < 4294967296) (hu : 0 ≤ u ∧ u < Y) (hc : 0 ≤ c ∧ c < 4294967296) :
    IntKind.u64.wrap (Int.tdiv u a) = u / a ∧ IntKind.u64.wrap (u - IntKind.u64.wrap (u / a * a)) = u - u / a * a ∧ (u * 4294967296 + c) / Y ≤ u / a ∧ u / a ≤ 4294967297 ∧ 0 ≤ u - u / a * a ∧ u - u / a * a < 4294967296 := by
  have h1 : u % a + u / a * a = u := by rw [Int.mul_comm (u / a)]; exact Int.emod_add_mul_ediv _ _
  have h2 := Int.emod_nonneg u (show a ≠ 0 by omega)
  have h3 := Int.emod_lt_of_pos u (show 0 < a by omega)
  have h4 := Int.ediv_nonneg hu.1 (show 0 ≤ a by omega)
  have h5 : u / a < 4294967298 := by
    apply Int.ediv_lt_of_lt_mul (by omega)
    omega
  have h6 : (u * 4294967296 + c) / Y ≤ u / a := by
    have hY0 : 0 < Y := by omega
    have : (u * 4294967296 + c) / Y < u / a + 1 := by
      apply Int.ediv_lt_of_lt_mul hY0
      have e : (u / a + 1) * Y = (u / a * a + a) * 4294967296 + (u / a) * b + b := by rw [hY]; grind
      have h7 := Int.mul_nonneg h4 hb.1
      rw [e]
      omega
    omega
  rw [Int.tdiv_eq_ediv_of_nonneg hu.1, wu64_of h4 (by omega)]
  have h8 := Int.mul_nonneg h4 (show 0 ≤ a by omega)
  refine ⟨rfl, ?_, h6, by omega, by omega, by omega⟩
  rw [wu64_of (x := u / a * a) (by omega) (by omega), wu64_of (by omega) (by omega)]
theorem div_l1 {Y a b u c q1 : Int} (s : Nat) (hs : s < 64) (hY : Y = a * 4294967296 + b) (ha : 2147483648 ≤ a ∧ a < 4294967296) (hb : 0 ≤ b ∧ b < 4294967296) (hu : 0 ≤ u ∧ u < Y) (hc : 0 ≤ c ∧ c < 4294967296)
    (hq1 : 0 ≤ q1 ∧ q1 < 4294967296) (n : Nat) : ∀ q r : Int, (u * 4294967296 + c) / Y ≤ q → q ≤ 4294967297 → r = u - q * a → 0 ≤ r ∧ r < 4294967296 → q - (u * 4294967296 + c) / Y ≤ n →
    Evt (fun k => bits_Div64.l1 k Y (s : Int) a b c q1 r u q) (q1 * 4294967296 + (u * 4294967296 + c) / Y, (u * 4294967296 + c) % Y / 2 ^ s) := by
  have hQ0 : 0 ≤ (u * 4294967296 + c) / Y := Int.ediv_nonneg (by omega) (by omega)
  have hQ1 : (u * 4294967296 + c) / Y < 4294967296 := by
    apply Int.ediv_lt_of_lt_mul (by omega)
    omega
  have hl := div_left (Y := Y) (u := u) (c := c) ⟨by omega, by omega⟩ hu hc
  induction n with
  | zero =>
    intro q r hq hq2 hr hr0 hn
    obtain ⟨g1, g2, g3⟩ := div_corr hY ha hb hu hc hq hq2 hr hr0
    have hno : ¬ (q ≥ 4294967296 ∨ q * b > 4294967296 * r + c) := fun h => by have := g1 h; omega
    refine Evt.succ ?_
    simp only [bits_Div64.l1]
    refine Evt.ite_neg (fun h => hno (Or.inl h)) ?_
    have hm := mul_u64 (x := q) (y := b) ⟨by omega, by omega⟩ hb
    rw [wu64_of hm.1 hm.2, wu64_of (x := 4294967296 * r) (by omega) (by omega), wu64_of (x := 4294967296 * r + c) (by omega) (by omega)]
    refine Evt.succ ?_
    simp only [bits_Div64.j4]
    refine Evt.ite_neg (by simp only [decide_eq_true_eq]; exact fun h => hno (Or.inr h)) (Evt.ite_pos (by omega) ?_)
    rw [← g2 hno, hl, shr_u64 _ _ (by omega), wu64_of (x := q1 * 4294967296) (by omega) (by omega), wu64_of (by omega) (by omega)]
    exact Evt.pure _
  | succ n ih =>
    intro q r hq hq2 hr hr0 hn
    obtain ⟨g1, g2, g3⟩ := div_corr hY ha hb hu hc hq hq2 hr hr0
    have key : ∀ t : Bool, (t = true ↔ (q ≥ 4294967296 ∨ q * b > 4294967296 * r + c)) → Evt (fun k => bits_Div64.j4 k Y (s : Int) a b c q1 r u q t) (q1 * 4294967296 + (u * 4294967296 + c) / Y, (u * 4294967296 + c) % Y / 2 ^ s) := by
      intro t ht
      refine Evt.succ ?_
      simp only [bits_Div64.j4]
      by_cases h : t = true
      · have h' := ht.1 h
        have hq1 := g1 h'
        refine Evt.ite_pos h ?_
        rw [wu64_of (x := r + a) (by omega) (by omega), wu64_of (x := q - 1) (by omega) (by omega)]
        by_cases h2 : r + a ≥ 4294967296
        · refine Evt.ite_pos h2 (Evt.ite_pos (by omega) ?_)
          rw [← g3 h' h2, hl, shr_u64 _ _ (by omega), wu64_of (x := q1 * 4294967296) (by omega) (by omega), wu64_of (by omega) (by omega)]
          exact Evt.pure _
        · refine Evt.ite_neg h2 (ih (q - 1) (r + a) hq1 (by omega) ?_ (by omega) (by omega))
          rw [hr]; grind
      · refine Evt.ite_neg h (Evt.ite_pos (by omega) ?_)
        rw [← g2 (fun h' => h (ht.2 h')), hl, shr_u64 _ _ (by omega), wu64_of (x := q1 * 4294967296) (by omega) (by omega), wu64_of (by omega) (by omega)]
        exact Evt.pure _
    refine Evt.succ ?_
    simp only [bits_Div64.l1]
    by_cases h : q ≥ 4294967296
    · exact Evt.ite_pos h (key true ⟨fun _ => Or.inl h, fun _ => rfl⟩)
    · refine Evt.ite_neg h (key _ ?_)
      have hm := mul_u64 (x := q) (y := b) ⟨by omega, by omega⟩ hb
      rw [wu64_of hm.1 hm.2, wu64_of (x := 4294967296 * r) (by omega) (by omega), wu64_of (x := 4294967296 * r + c) (by omega) (by omega), decide_eq_true_eq]
      exact ⟨fun h => Or.inr h, fun h' => by rcases h' with h' | h'; exact absurd h' h; exact h'⟩
theorem mask32 {x : Int} (h0 : 0 ≤ x) (h1 : x < 18446744073709551616) : Go.bits .and .u64 x 4294967295 = x % 4294967296 := by
  have h := bits_mask .u64 64 (by decide) wraps_u64 32 (by decide) x h0 (by omega)
  rw [show (2 : Int) ^ 32 = 4294967296 from by decide] at h
  exact h
theorem bits_Div64_ev {hi lo y : Int} (h1 : 0 ≤ hi ∧ hi < y) (h2 : 0 ≤ lo ∧ lo < 18446744073709551616) (h3 : y < 18446744073709551616) :
    Evt (fun k => bits_Div64.f k hi lo y) ((hi * 18446744073709551616 + lo) / y, (hi * 18446744073709551616 + lo) % y) := by
  unfold bits_Div64.f
  refine Evt.ite_neg (by omega) (Evt.ite_neg (by omega) ?_)
  by_cases h0 : hi = 0
  · subst h0
    have h4 := Int.ediv_nonneg h2.1 (show 0 ≤ y by omega)
    have h5 := Int.ediv_le_self y h2.1
    refine Evt.ite_pos rfl ?_
    rw [Int.zero_mul, Int.zero_add, Int.tdiv_eq_ediv_of_nonneg h2.1, Int.tmod_eq_emod_of_nonneg h2.1, wu64_of h4 (by omega)]
    exact Evt.pure _
  · refine Evt.ite_neg h0 ?_
    have hbl := bl_le (x := y.toNat) (m := 64) (by omega)
    have hbp := bl_pos (n := y.toNat) (by omega)
    have hb1 := bl_lt y.toNat
    have hb2 := bl_ge (n := y.toNat) (by omega)
    obtain ⟨s, hs⟩ : ∃ s, s = 64 - bl y.toNat := ⟨_, rfl⟩
    have hs64 : s < 64 := by omega
    refine Evt.bind (Evt.bind (h := fun t _ => some (wrap64 (64 - t))) (bits_Len64_ev (x := y) (by omega) h3) (Evt.pure _)) ?_
    rw [show wrap64 (64 - ((bl y.toNat : Nat) : Int)) = (s : Int) from by rw [w64 (by omega) (by omega)]; omega]
    rw [wu64_of (x := (s : Int)) (by omega) (by omega), wu64_of (x := 64 - (s : Int)) (by omega) (by omega), show 64 - (s : Int) = ((64 - s : Nat) : Int) from by omega]
    rw [shl_u64 y s (by omega), shl_u64 hi s (by omega), shl_u64 lo s (by omega), shr_u64 lo (64 - s) (by omega)]
    have hp := pow2_pos s
    have hY1 : y * 2 ^ s < 18446744073709551616 := by
      have h4 : y.toNat * 2 ^ s < 2 ^ bl y.toNat * 2 ^ s := Nat.mul_lt_mul_of_pos_right hb1 (Nat.pow_pos (by decide))
      rw [← Nat.pow_add, show bl y.toNat + s = 64 from by omega] at h4
      have h5 : ((y.toNat * 2 ^ s : Nat) : Int) = y * 2 ^ s := by rw [Int.natCast_mul, Int.toNat_of_nonneg (by omega)]; simp
      omega
    have hY2 : 9223372036854775808 ≤ y * 2 ^ s := by
      have h4 : 2 ^ (bl y.toNat - 1) * 2 ^ s ≤ y.toNat * 2 ^ s := Nat.mul_le_mul_right _ hb2
      rw [← Nat.pow_add, show bl y.toNat - 1 + s = 63 from by omega] at h4
      have h5 : ((y.toNat * 2 ^ s : Nat) : Int) = y * 2 ^ s := by rw [Int.natCast_mul, Int.toNat_of_nonneg (by omega)]; simp
      omega
    have hh0 : 0 ≤ hi * 2 ^ s := Int.mul_nonneg h1.1 (by omega)
    have hh1 : hi * 2 ^ s + 2 ^ s ≤ y * 2 ^ s := by
      have := Int.mul_le_mul_of_nonneg_right (show hi + 1 ≤ y by omega) (show 0 ≤ (2 : Int) ^ s by omega)
      rw [Int.add_mul, Int.one_mul] at this
      exact this
    obtain ⟨f1, f2, f3, f4⟩ := shl_facts h2 (s := s) (by omega)
    have f5 := Int.emod_nonneg (lo * 2 ^ s) (show (18446744073709551616 : Int) ≠ 0 by omega)
    have f6 := Int.emod_lt_of_pos (lo * 2 ^ s) (show (0 : Int) < 18446744073709551616 by omega)
    rw [Int.emod_eq_of_lt (show 0 ≤ y * 2 ^ s by omega) hY1, Int.emod_eq_of_lt hh0 (by omega)]
    rw [or_u64 s (by omega) hh0 (Int.mul_emod_left _ _) (by omega) f3 f4]
    rw [mask32 (by omega) hY1, mask32 f5 f6]
    have hres : ((hi * 18446744073709551616 + lo) * 2 ^ s) / (y * 2 ^ s) = (hi * 18446744073709551616 + lo) / y := Int.mul_ediv_mul_of_pos_left _ _ hp
    have hrem : ((hi * 18446744073709551616 + lo) * 2 ^ s) % (y * 2 ^ s) = (hi * 18446744073709551616 + lo) % y * 2 ^ s := by
      rw [Int.mul_comm _ (2 ^ s), Int.mul_comm y, Int.mul_emod_mul_of_pos _ _ hp, Int.mul_comm]
    have hV : (hi * 18446744073709551616 + lo) * 2 ^ s = (hi * 2 ^ s + lo / 2 ^ (64 - s)) * 18446744073709551616 + (lo * 2 ^ s) % 18446744073709551616 := by
      have e : (hi * 18446744073709551616 + lo) * 2 ^ s = hi * 2 ^ s * 18446744073709551616 + lo * 2 ^ s := by grind
      rw [e]
      omega
    have hu : 0 ≤ hi * 2 ^ s + lo / 2 ^ (64 - s) ∧ hi * 2 ^ s + lo / 2 ^ (64 - s) < y * 2 ^ s := by omega
    generalize (hi * 18446744073709551616 + lo) / y = RQ at *
    generalize (hi * 18446744073709551616 + lo) % y = RM at *
    generalize hi * 2 ^ s + lo / 2 ^ (64 - s) = u at *
    generalize (lo * 2 ^ s) % 18446744073709551616 = v at *
    generalize y * 2 ^ s = Y at *
    rw [hV] at hres hrem
    have ha : 2147483648 ≤ Y / 4294967296 ∧ Y / 4294967296 < 4294967296 := by omega
    have hb : 0 ≤ Y % 4294967296 ∧ Y % 4294967296 < 4294967296 := by omega
    have hYY : Y = Y / 4294967296 * 4294967296 + Y % 4294967296 := by omega
    have hc : 0 ≤ v / 4294967296 ∧ v / 4294967296 < 4294967296 := by omega
    have hc0 : 0 ≤ v % 4294967296 ∧ v % 4294967296 < 4294967296 := by omega
    have hvv : v = v / 4294967296 * 4294967296 + v % 4294967296 := by omega
    generalize Y / 4294967296 = a at *
    generalize Y % 4294967296 = b at *
    generalize v / 4294967296 = c at *
    generalize v % 4294967296 = c0 at *
    refine Evt.ite_pos (by omega) (Evt.ite_pos (by omega) (Evt.ite_neg (by omega) ?_))
    obtain ⟨g1, g2, g3, g4, g5, g6⟩ := div_first c hYY ha hb hu hc
    rw [g1, g2]
    have hY0 : 0 < Y := by omega
    have m1 := Int.emod_nonneg (u * 4294967296 + c) (show Y ≠ 0 by omega)
    have m2 := Int.emod_lt_of_pos (u * 4294967296 + c) hY0
    have m3 := Int.emod_add_mul_ediv (u * 4294967296 + c) Y
    have q0 : 0 ≤ (u * 4294967296 + c) / Y := Int.ediv_nonneg (by omega) (by omega)
    have q1 : (u * 4294967296 + c) / Y < 4294967296 := by
      apply Int.ediv_lt_of_lt_mul hY0
      omega
    have hl := div_left (Y := Y) (u := u) (c := c) ⟨hY0, hY1⟩ hu hc
    refine div_l0 hYY ha hb hu hc ?_ 4294967300 (u / a) (u - u / a * a) g3 g4 rfl ⟨g5, g6⟩ (by omega)
    refine Evt.succ ?_
    simp only [bits_Div64.j2]
    refine Evt.ite_neg (by omega) ?_
    rw [hl]
    generalize (u * 4294967296 + c) % Y = u2 at *
    generalize (u * 4294967296 + c) / Y = Q1 at *
    obtain ⟨k1, k2, k3, k4, k5, k6⟩ := div_first c0 hYY ha hb ⟨m1, m2⟩ hc0
    rw [k1, k2]
    have n1 := Int.emod_nonneg (u2 * 4294967296 + c0) (show Y ≠ 0 by omega)
    have n2 := Int.emod_lt_of_pos (u2 * 4294967296 + c0) hY0
    have n3 := Int.emod_add_mul_ediv (u2 * 4294967296 + c0) Y
    have r0 : 0 ≤ (u2 * 4294967296 + c0) / Y := Int.ediv_nonneg (by omega) (by omega)
    have hend := div_l1 (q1 := Q1) s hs64 hYY ha hb ⟨m1, m2⟩ hc0 ⟨q0, q1⟩ 4294967300 (u2 / a) (u2 - u2 / a * a) k3 k4 rfl ⟨k5, k6⟩ (by omega)
    refine hend.congr (fun k => rfl) ?_
    generalize (u2 * 4294967296 + c0) % Y = M at *
    generalize (u2 * 4294967296 + c0) / Y = Q0 at *
    have ef : u * 18446744073709551616 + v = M + Y * (Q1 * 4294967296 + Q0) := by
      have e : Y * (Q1 * 4294967296 + Q0) = Y * Q1 * 4294967296 + Y * Q0 := by grind
      rw [e]
      omega
    rw [ef, Int.add_mul_ediv_left _ _ (show Y ≠ 0 by omega), Int.ediv_eq_zero_of_lt n1 n2, Int.zero_add] at hres
    rw [ef, Int.add_mul_emod_self_left, Int.emod_eq_of_lt n1 n2] at hrem
    rw [hres, hrem, Int.mul_ediv_cancel _ (by omega)]
theorem guess_l0 {r2 r1 r0 d1 d0 : Int} (h0 : 0 ≤ r0 ∧ r0 < 18446744073709551616) (k1 : 0 < d1 ∧ d1 < 18446744073709551616) (k0 : 0 ≤ d0 ∧ d0 < 18446744073709551616) (n : Nat) :
    ∀ q rest : Int, 0 ≤ q ∧ q < 18446744073709551616 → 0 ≤ rest ∧ rest < 18446744073709551616 → q * d1 + rest = r2 * 18446744073709551616 + r1 → q ≤ n → (∀ h, h < 18446744073709551616 → h * (d1 * 18446744073709551616 + d0) ≤ (r2 * 18446744073709551616 + r1) * 18446744073709551616 + r0 → h ≤ q) →
    ∃ g, Evt (fun k => nat_guess.l0 k r0 d1 d0 q rest) g ∧ (0 ≤ g ∧ g < 18446744073709551616) ∧ ∀ h, h < 18446744073709551616 → h * (d1 * 18446744073709551616 + d0) ≤ (r2 * 18446744073709551616 + r1) * 18446744073709551616 + r0 → h ≤ g := by
  induction n with
  | zero =>
    intro q rest hq hr he hn hall
    obtain rfl : q = 0 := by omega
    obtain ⟨hi, lo, e, e2, e3, e4⟩ := bits_Mul64_eq (x := 0) (y := d0) (by omega) k0
    refine ⟨0, ?_, by omega, hall⟩
    refine Evt.succ ?_
    simp only [nat_guess.l0]
    refine Evt.bind (Evt.of (fun _ => e)) ?_
    refine Evt.cond' (fun _ => ?_) (fun c => ?_)
    · refine Evt.succ ?_
      simp only [nat_guess.j1]
      exact Evt.ite_pos (by simp) (Evt.pure _)
    · rw [Int.zero_mul] at e2
      refine Evt.ite_pos (by omega) ?_
      refine Evt.succ ?_
      simp only [nat_guess.j1]
      exact Evt.ite_pos (by simp; omega) (Evt.pure _)
  | succ n ih =>
    intro q rest hq hr he hn hall
    obtain ⟨hi, lo, e, e2, e3, e4⟩ := bits_Mul64_eq (x := q) (y := d0) hq k0
    by_cases hp : hi < rest ∨ (hi = rest ∧ lo ≤ r0)
    · refine ⟨q, ?_, hq, hall⟩
      refine Evt.succ ?_
      simp only [nat_guess.l0]
      refine Evt.bind (Evt.of (fun _ => e)) ?_
      refine Evt.cond' (fun _ => ?_) (fun c => ?_)
      · refine Evt.succ ?_
        simp only [nat_guess.j1]
        exact Evt.ite_pos (by simp) (Evt.pure _)
      · refine Evt.ite_pos (by omega) ?_
        refine Evt.succ ?_
        simp only [nat_guess.j1]
        exact Evt.ite_pos (by simp; omega) (Evt.pure _)
    · have hno : ∀ h, h < 18446744073709551616 → h * (d1 * 18446744073709551616 + d0) ≤ (r2 * 18446744073709551616 + r1) * 18446744073709551616 + r0 → h ≤ q - 1 := by
        intro h h1 h2
        have h3 := hall h h1 h2
        by_cases h4 : h = q
        · subst h4
          have e5 : h * (d1 * 18446744073709551616 + d0) = h * d1 * 18446744073709551616 + h * d0 := by grind
          rw [e5, ← e2] at h2
          omega
        · omega
      have hq0 : q ≠ 0 := by
        intro h
        subst h
        rw [Int.zero_mul] at e2
        omega
      have step : ∀ {g : Int}, Evt (fun k => if IntKind.u64.wrap (rest + d1) < rest then (some (IntKind.u64.wrap (q - 1))) else (nat_guess.l0 k r0 d1 d0 (IntKind.u64.wrap (q - 1)) (IntKind.u64.wrap (rest + d1)))) g → Evt (fun k => nat_guess.l0 k r0 d1 d0 q rest) g := by
        intro g hg
        refine Evt.succ ?_
        simp only [nat_guess.l0]
        refine Evt.bind (Evt.of (fun _ => e)) ?_
        refine Evt.ite_neg (by omega) ?_
        refine Evt.cond' (fun _ => ?_) (fun c => ?_)
        · refine Evt.succ ?_
          simp only [nat_guess.j1]
          exact Evt.ite_neg (by simp; omega) hg
        · refine Evt.succ ?_
          simp only [nat_guess.j1]
          exact Evt.ite_neg (by simp) hg
      rw [wu64_of (x := q - 1) (by omega) (by omega), wu64] at step
      by_cases hov : rest + d1 < 18446744073709551616
      · obtain ⟨g, g1, g2, g3⟩ := ih (q - 1) (rest + d1) (by omega) (by omega) (by rw [Int.sub_mul]; omega) (by omega) hno
        refine ⟨g, step ?_, g2, g3⟩
        rw [Int.emod_eq_of_lt (by omega) hov]
        exact Evt.ite_neg (by omega) g1
      · refine ⟨q - 1, step ?_, by omega, hno⟩
        exact Evt.ite_pos (by omega) (Evt.pure _)
theorem nat_guess_ev {r2 r1 r0 d1 d0 : Int} (h2 : 0 ≤ r2) (h1 : 0 ≤ r1 ∧ r1 < 18446744073709551616) (h0 : 0 ≤ r0 ∧ r0 < 18446744073709551616) (k1 : 0 < d1 ∧ d1 < 18446744073709551616) (k0 : 0 ≤ d0 ∧ d0 < 18446744073709551616) :
    ∃ g, Evt (fun k => nat_guess.f k r2 r1 r0 d1 d0) g ∧ (0 ≤ g ∧ g < 18446744073709551616) ∧ ∀ h, h < 18446744073709551616 → h * (d1 * 18446744073709551616 + d0) ≤ (r2 * 18446744073709551616 + r1) * 18446744073709551616 + r0 → h ≤ g := by
  by_cases hc : r2 ≥ d1
  · refine ⟨18446744073709551615, ?_, by omega, fun h h3 _ => by omega⟩
    unfold nat_guess.f
    exact Evt.ite_pos hc (Evt.pure _)
  · have hq0 : 0 ≤ (r2 * 18446744073709551616 + r1) / d1 := Int.ediv_nonneg (by omega) (by omega)
    have hq1 : (r2 * 18446744073709551616 + r1) / d1 < 18446744073709551616 := by
      apply Int.ediv_lt_of_lt_mul k1.1
      omega
    have hm0 := Int.emod_nonneg (r2 * 18446744073709551616 + r1) (show d1 ≠ 0 by omega)
    have hm1 := Int.emod_lt_of_pos (r2 * 18446744073709551616 + r1) k1.1
    have hm : (r2 * 18446744073709551616 + r1) / d1 * d1 + (r2 * 18446744073709551616 + r1) % d1 = r2 * 18446744073709551616 + r1 := by rw [Int.mul_comm]; exact Int.mul_ediv_add_emod _ _
    obtain ⟨g, g1, g2, g3⟩ := guess_l0 (r2 := r2) (r1 := r1) h0 k1 k0 ((r2 * 18446744073709551616 + r1) / d1).toNat ((r2 * 18446744073709551616 + r1) / d1) ((r2 * 18446744073709551616 + r1) % d1) ⟨hq0, hq1⟩ ⟨hm0, by omega⟩ hm (by omega) (by
      intro h h3 h4
      rw [Int.le_ediv_iff_mul_le k1.1]
      have e : h * (d1 * 18446744073709551616 + d0) = h * d1 * 18446744073709551616 + h * d0 := by grind
      rw [e] at h4
      by_cases h5 : 0 ≤ h
      · have : 0 ≤ h * d0 := Int.mul_nonneg h5 k0.1
        omega
      · have : h * d1 ≤ 0 := Int.mul_nonpos_of_nonpos_of_nonneg (by omega) (by omega)
        omega)
    refine ⟨g, ?_, g2, g3⟩
    unfold nat_guess.f
    refine Evt.ite_neg hc ?_
    exact Evt.bind (bits_Div64_ev (by omega) h1 k1.2) g1
theorem drop_set_self (l : List Int) (i : Nat) (x : Int) (h : i < l.length) : (l.set i x).drop i = x :: l.drop (i + 1) := by
  rw [List.drop_eq_getElem_cons (by simpa using h), List.drop_set, if_pos (Nat.lt_succ_self i)]
  simp
theorem nat_short_loop (a : List Int) (d : Int) (da : Dig (b64 : Int) a) (ha : a.length ≤ 100000) (h0 : 0 < d) (h1 : d < 18446744073709551616) (n : Nat) :
    ∀ (out : List Int) (rest : Int), n ≤ a.length → out.length = a.length → Dig (b64 : Int) out → 0 ≤ rest ∧ rest < d → val (b64 : Int) (out.drop n) * d + rest = val (b64 : Int) (a.drop n) →
    Evt (fun k => nat_short.l0 k a d out rest ((n : Int) - 1)) (limbs (num a / d.toNat), ((num a % d.toNat : Nat) : Int)) := by
  induction n with
  | zero =>
    intro out rest hn ho do_ hr hv
    refine Evt.succ ?_
    simp only [nat_short.l0]
    refine Evt.ite_neg (by omega) ?_
    refine Evt.bind (nat_trim_ev out (by simp [maxLen]; omega)) ?_
    rw [strip_limbs do_]
    rw [List.drop_zero, List.drop_zero] at hv
    have e1 := num_val do_
    have e2 := num_val da
    have e3 : num a = num out * d.toNat + rest.toNat := by
      have : (num a : Int) = ((num out * d.toNat + rest.toNat : Nat) : Int) := by
        rw [Int.natCast_add, Int.natCast_mul, e1, e2, Int.toNat_of_nonneg (by omega), Int.toNat_of_nonneg hr.1]
        exact hv.symm
      omega
    have e4 : num a / d.toNat = num out := by
      rw [e3, Nat.mul_comm, Nat.mul_add_div (by omega), Nat.div_eq_of_lt (by omega), Nat.add_zero]
    have e5 : num a % d.toNat = rest.toNat := by
      rw [e3, Nat.mul_comm, Nat.mul_add_mod, Nat.mod_eq_of_lt (by omega)]
    rw [e4, e5, Int.toNat_of_nonneg hr.1]
    exact Evt.pure _
  | succ n ih =>
    intro out rest hn ho do_ hr hv
    refine Evt.succ ?_
    simp only [nat_short.l0]
    rw [show ((n + 1 : Nat) : Int) - 1 = (n : Int) from by omega, rd_nat, w64 (by omega) (by omega)]
    have hx := da.getD b64_pos n
    have hg : a.getD n 0 = a[n] := by simp [show n < a.length by omega]
    simp only [b64] at hx
    have hq0 : 0 ≤ (rest * 18446744073709551616 + a.getD n 0) / d := Int.ediv_nonneg (by omega) (by omega)
    have hq1 : (rest * 18446744073709551616 + a.getD n 0) / d < 18446744073709551616 := by
      apply Int.ediv_lt_of_lt_mul h0
      omega
    have hm0 := Int.emod_nonneg (rest * 18446744073709551616 + a.getD n 0) (show d ≠ 0 by omega)
    have hm1 := Int.emod_lt_of_pos (rest * 18446744073709551616 + a.getD n 0) h0
    have hm : (rest * 18446744073709551616 + a.getD n 0) % d + (rest * 18446744073709551616 + a.getD n 0) / d * d = rest * 18446744073709551616 + a.getD n 0 := by rw [Int.mul_comm (_ / d)]; exact Int.emod_add_mul_ediv _ _
    refine Evt.ite_pos (by omega) (Evt.ite_pos (by omega) (Evt.ite_pos (by omega) ?_))
    refine Evt.bind (bits_Div64_ev hr hx h1) ?_
    refine Evt.ite_pos (by omega) ?_
    rw [Int.toNat_natCast]
    refine ih _ _ (by omega) (by simpa using ho) (do_.set n ⟨hq0, hq1⟩) ⟨hm0, hm1⟩ ?_
    rw [drop_set_self _ _ _ (by omega), List.drop_eq_getElem_cons (show n < a.length by omega), ← hg]
    simp only [val, b64] at hv ⊢
    generalize (rest * 18446744073709551616 + a.getD n 0) / d = Q at *
    generalize (rest * 18446744073709551616 + a.getD n 0) % d = M at *
    generalize a.getD n 0 = x at *
    rw [← hv]
    generalize val _ (out.drop (n + 1)) = V at *
    have e : (Q + ((18446744073709551616 : Nat) : Int) * V) * d = Q * d + 18446744073709551616 * (V * d) := by
      rw [Int.add_mul, Int.mul_assoc]; rfl
    rw [e, Int.mul_add]
    omega
theorem nat_short_ev (a : List Int) (d : Int) (da : Dig (b64 : Int) a) (ha : a.length ≤ 100000) (h0 : 0 < d) (h1 : d < 18446744073709551616) :
    Evt (fun k => nat_short.f k a d) (limbs (num a / d.toNat), ((num a % d.toNat : Nat) : Int)) := by
  unfold nat_short.f
  refine Evt.ite_pos (by omega) (Evt.ite_pos (by omega) ?_)
  rw [Int.toNat_natCast, w64 (by omega) (by omega)]
  refine nat_short_loop a d da ha h0 h1 a.length _ 0 (Nat.le_refl _) (by simp) (Dig.replicate b64_pos _) ⟨by omega, h0⟩ ?_
  rw [List.drop_of_length_le (by simp), List.drop_of_length_le (by simp)]
  simp [val]
theorem mul_lt {x y : Int} (hx : 0 ≤ x ∧ x ≤ 65535) (hy : 0 ≤ y ∧ y ≤ 65535) : 0 ≤ x * y ∧ x * y ≤ 4294836225 := by
  have h1 := Int.mul_nonneg hx.1 hy.1
  have h2 : x * y ≤ 65535 * y := Int.mul_le_mul_of_nonneg_right hx.2 hy.1
  omega
theorem ref_mul_inner (a b : List Int) (da : Dig (b16 : Int) a) (db : Dig (b16 : Int) b) (ha : a.length ≤ 100000) (hb : b.length ≤ 100000) (i n : Nat) (hi : i < a.length) (hn : a.length - (i + 1) = n) {r : List Int}
    (next : ∀ p : List Int, p.length = i + 1 + b.length → Dig (b16 : Int) p → val (b16 : Int) p = val (b16 : Int) (a.take (i + 1)) * val (b16 : Int) b → Evt (fun k => windbreakref01_mul.l0 k a b (p ++ List.replicate n 0) ((i + 1 : Nat) : Int)) r) (m : Nat) :
    ∀ (j : Nat) (p : List Int) (c : Int), b.length - j = m → j ≤ b.length → p.length = i + b.length → Dig (b16 : Int) p → 0 ≤ c ∧ c < (b16 : Int) →
      val (b16 : Int) p + c * (b16 : Int) ^ (i + j) = val (b16 : Int) (a.take i) * val (b16 : Int) b + (b16 : Int) ^ i * a[i] * val (b16 : Int) (b.take j) →
      Evt (fun k => windbreakref01_mul.l1 k a b (p ++ List.replicate (n + 1) 0) (i : Int) c (j : Int)) r := by
  induction m with
  | zero =>
    intro j p c hj hjl hp dp hc hv
    refine Evt.succ ?_
    simp only [windbreakref01_mul.l1]
    refine Evt.ite_neg (by omega) ?_
    rw [w64 (show -9223372036854775808 ≤ (i : Int) + (b.length : Int) by omega) (by omega)]
    refine Evt.ite_pos (by omega) (Evt.ite_pos (by simp; omega) ?_)
    rw [w64 (by omega) (by omega), show ((i : Int) + (b.length : Int)).toNat = p.length from by omega, List.replicate_succ, set_at]
    have hj2 : j = b.length := by omega
    subst hj2
    rw [List.take_length] at hv
    refine (next (p ++ [c]) (by simp; omega) (Dig.append.2 ⟨dp, Dig.cons.2 ⟨hc, Dig.nil⟩⟩) ?_).congr (fun k => by rw [List.append_assoc]; rfl) rfl
    rw [val_append, hp, val_take_step (b16 : Int) a i hi]
    simp only [val, Int.mul_zero, Int.add_zero]
    generalize val (b16 : Int) (a.take i) = va at *
    generalize val (b16 : Int) b = vb at *
    generalize (b16 : Int) ^ (i + b.length) = P at *
    generalize (b16 : Int) ^ i = Q at *
    have : (va + Q * a[i]) * vb = va * vb + Q * a[i] * vb := by grind
    rw [this, ← hv, Int.mul_comm P c]
  | succ m ih =>
    intro j p c hj hjl hp dp hc hv
    have hjlt : j < b.length := by omega
    refine Evt.succ ?_
    simp only [windbreakref01_mul.l1]
    refine Evt.ite_pos (by omega) ?_
    rw [w64 (show -9223372036854775808 ≤ (i : Int) + (j : Int) by omega) (by omega)]
    refine Evt.ite_pos (by omega) (Evt.ite_pos (by simp; omega) (Evt.ite_pos (by omega) (Evt.ite_pos (by omega) (Evt.ite_pos (by omega) ?_))))
    have hx : rd a (i : Int) = a[i] := by simp [rd_nat, hi]
    have hy : rd b (j : Int) = b[j] := by simp [rd_nat, hjlt]
    have hz : rd (p ++ List.replicate (n + 1) 0) ((i : Int) + (j : Int)) = p.getD (i + j) 0 := by
      rw [rd_getD, show ((i : Int) + (j : Int)).toNat = i + j from by omega, getD_append_left (by omega)]
    have rx := da a[i] (List.getElem_mem hi)
    have ry := db b[j] (List.getElem_mem hjlt)
    have rz := dp.getD b16_pos (i + j)
    rw [hx, hy, hz, show ((i : Int) + (j : Int)).toNat = i + j from by omega, set_append_left (by omega)]
    have hB : (b16 : Int) = 65536 := rfl
    rw [hB] at rx ry rz hc
    obtain ⟨m1, m2⟩ := mul_lt (show 0 ≤ a[i] ∧ a[i] ≤ 65535 by omega) (show 0 ≤ b[j] ∧ b[j] ≤ 65535 by omega)
    have hv2 := val_set (b16 : Int) p (i + j) ((p.getD (i + j) 0 + a[i] * b[j] + c) % 65536) (by omega)
    have hvt := val_take_step (b16 : Int) b j hjlt
    generalize hxy : a[i] * b[j] = z at *
    rw [wu64_of m1 (by omega), wu64_of (show 0 ≤ p.getD (i + j) 0 + z by omega) (by omega), wu64_of (show 0 ≤ p.getD (i + j) 0 + z + c by omega) (by omega), Int.tmod_eq_emod_of_nonneg (by omega), Int.tdiv_eq_ediv_of_nonneg (by omega), wu64_of (by omega) (by omega), w64 (by omega) (by omega)]
    refine (ih (j + 1) (p.set (i + j) ((p.getD (i + j) 0 + z + c) % 65536)) ((p.getD (i + j) 0 + z + c) / 65536) (by omega) (by omega) (by simp; omega) (dp.set _ (by rw [hB]; omega)) (by rw [hB]; omega) ?_).congr (fun k => rfl) rfl
    rw [hv2, hvt]
    have hdm := Int.emod_add_mul_ediv (p.getD (i + j) 0 + z + c) 65536
    have hP : (b16 : Int) ^ (i + (j + 1)) = (b16 : Int) ^ (i + j) * 65536 := by rw [← Nat.add_assoc, Int.pow_succ]; rfl
    have hQ : (b16 : Int) ^ (i + j) = (b16 : Int) ^ i * (b16 : Int) ^ j := Int.pow_add ..
    rw [hP]
    generalize (p.getD (i + j) 0 + z + c) % 65536 = u at *
    generalize (p.getD (i + j) 0 + z + c) / 65536 = q at *
    generalize p.getD (i + j) 0 = y0 at *
    generalize val (b16 : Int) (a.take i) = va at *
    generalize val (b16 : Int) (b.take j) = vt at *
    generalize val (b16 : Int) b = vb at *
    generalize val (b16 : Int) p = vp at *
    generalize (b16 : Int) ^ (i + j) = P at *
    generalize (b16 : Int) ^ i = Q at *
    generalize (b16 : Int) ^ j = R at *
    subst hQ
    generalize a[i] = ai at *
    generalize b[j] = bj at *
    subst hxy
    have e1 : u = y0 + ai * bj + c - 65536 * q := by omega
    rw [e1]
    have e2 : vp = va * vb + Q * ai * vt - c * (Q * R) := by omega
    rw [e2]
    grind
theorem ref_mul_loop (a b : List Int) (da : Dig (b16 : Int) a) (db : Dig (b16 : Int) b) (ha : a.length ≤ 100000) (hb : b.length ≤ 100000) (n : Nat) :
    ∀ (i : Nat) (p : List Int), a.length - i = n → i ≤ a.length → p.length = i + b.length → Dig (b16 : Int) p → val (b16 : Int) p = val (b16 : Int) (a.take i) * val (b16 : Int) b →
      Evt (fun k => windbreakref01_mul.l0 k a b (p ++ List.replicate n 0) (i : Int)) (digs (num16 a * num16 b)) := by
  induction n with
  | zero =>
    intro i p hn hi hp dp hv
    refine Evt.succ ?_
    simp only [windbreakref01_mul.l0]
    refine Evt.ite_neg (by omega) ?_
    have h := windbreakref01_cut_ev (p ++ List.replicate 0 0) (by simp [maxLen]; omega)
    rw [List.replicate_zero, List.append_nil, strip_digs dp] at h
    have e : num16 p = num16 a * num16 b := by
      rw [List.take_of_length_le (by omega)] at hv
      have h1 := num16_val dp
      have h2 := num16_val da
      have h3 := num16_val db
      have : ((num16 p : Nat) : Int) = ((num16 a * num16 b : Nat) : Int) := by rw [h1, hv, Int.natCast_mul, h2, h3]
      omega
    rw [e] at h
    refine (Evt.bind h (h := fun t _ => some t) (Evt.pure _)).congr (fun k => by simp) rfl
  | succ n ih =>
    intro i p hn hi hp dp hv
    refine Evt.succ ?_
    simp only [windbreakref01_mul.l0]
    refine Evt.ite_pos (by omega) ?_
    refine ref_mul_inner a b da db ha hb i n (by omega) (by omega) (fun q h1 h2 h3 => ih (i + 1) q (by omega) (by omega) h1 h2 h3) b.length 0 p 0 (by omega) (by omega) hp dp (by decide) ?_
    simp [hv, val]
theorem ref_mul_ev (a b : List Int) (da : Dig (b16 : Int) a) (db : Dig (b16 : Int) b) (ha : a.length ≤ 100000) (hb : b.length ≤ 100000) : Evt (fun k => windbreakref01_mul.f k a b) (digs (num16 a * num16 b)) := by
  unfold windbreakref01_mul.f
  rw [w64 (show -9223372036854775808 ≤ (a.length : Int) + (b.length : Int) by omega) (by omega)]
  refine Evt.ite_pos (by omega) (Evt.ite_pos (by omega) ?_)
  refine (ref_mul_loop a b da db ha hb a.length 0 (List.replicate b.length 0) (by omega) (by omega) (by simp) (Dig.replicate b16_pos _) (by simp [val_replicate, val])).congr (fun k => ?_) rfl
  rw [show ((a.length : Int) + (b.length : Int)).toNat = b.length + a.length from by omega, List.replicate_append_replicate]
  rfl
theorem dig_one16 {x : Int} (h : 0 ≤ x ∧ x < 65536) : Dig (b16 : Int) [x] := Dig.cons.2 ⟨h, Dig.nil⟩
theorem num16_one {x : Int} (h : 0 ≤ x) : num16 [x] = x.toNat := by simp [num16, val]
theorem ref_div_halve (a : List Int) (w X : Nat) (q : List Int) (i : Nat) (hw : 0 < w) (hwl : w * 65536 < lim) (hX : X < lim) {r : List Int × List Int} (hq : q.length = a.length) (hi : i < a.length)
    (next : ∀ d : Nat, d < 65536 → d * w ≤ X → X < (d + 1) * w → Evt (fun k => windbreakref01_div.l0 k a (digs w) (q.set i (d : Int)) (digs (X - d * w)) ((i : Int) - 1)) r) (ha : a.length ≤ 100000) (n : Nat) :
    ∀ lo hi_ : Nat, hi_ - lo = n → lo ≤ hi_ → hi_ ≤ 65535 → lo * w ≤ X → X < (hi_ + 1) * w →
      Evt (fun k => windbreakref01_div.l1 k a (digs w) q (digs X) (i : Int) (lo : Int) (hi_ : Int)) r := by
  have hwlim : w < lim := by omega
  have hwd := digs_len hwlim
  have mulm : ∀ m : Nat, m < 65536 → Evt (fun k => windbreakref01_mul.f k (digs w) [(m : Int)]) (digs (m * w)) := by
    intro m hm
    refine (ref_mul_ev (digs w) [(m : Int)] (toD_dig b16_two w) (dig_one16 (by omega)) (by omega) (by simp)).congr (fun k => rfl) ?_
    rw [num16_digs, num16_one (by omega), Int.toNat_natCast, Nat.mul_comm]
  induction n using Nat.strongRecOn with
  | _ n ih =>
    intro lo hi_ hn hle h5 hlo hhi
    refine Evt.succ ?_
    simp only [windbreakref01_div.l1]
    by_cases hlt : lo < hi_
    · refine Evt.ite_pos (by omega) ?_
      have em : IntKind.u64.wrap (Int.tdiv (IntKind.u64.wrap (IntKind.u64.wrap ((lo : Int) + (hi_ : Int)) + 1)) 2) = (((lo + hi_ + 1) / 2 : Nat) : Int) := by
        rw [wu64_of (show 0 ≤ (lo : Int) + (hi_ : Int) by omega) (by omega), wu64_of (show 0 ≤ (lo : Int) + (hi_ : Int) + 1 by omega) (by omega), Int.tdiv_eq_ediv_of_nonneg (by omega), wu64_of (by omega) (by omega)]
        omega
      rw [em]
      generalize hm : (lo + hi_ + 1) / 2 = m
      have hm1 : lo < m ∧ m ≤ hi_ := by omega
      refine Evt.bind (mulm m (by omega)) ?_
      have hmw : m * w < lim := by
        have : m * w ≤ 65536 * w := Nat.mul_le_mul_right w (by omega)
        rw [Nat.mul_comm] at hwl
        omega
      refine Evt.bind (ref_compare_ev (m * w) X hmw) ?_
      by_cases hc : m * w ≤ X
      · refine Evt.ite_pos ?_ ?_
        · unfold cmpN
          by_cases h1 : m * w < X
          · rw [if_pos h1]; omega
          · rw [if_neg h1, if_pos (by omega)]; omega
        · exact ih (hi_ - m) (by omega) m hi_ rfl (by omega) h5 hc hhi
      · refine Evt.ite_neg ?_ ?_
        · unfold cmpN
          rw [if_neg (by omega), if_neg (by omega)]; omega
        · have e : IntKind.u64.wrap ((m : Int) - 1) = ((m - 1 : Nat) : Int) := by rw [wu64_of (by omega) (by omega)]; omega
          rw [e]
          refine ih (m - 1 - lo) (by omega) lo (m - 1) rfl (by omega) (by omega) hlo ?_
          rw [show m - 1 + 1 = m from by omega]
          omega
    · refine Evt.ite_neg (by omega) (Evt.ite_pos (by omega) (Evt.ite_pos (by omega) ?_))
      have e : lo = hi_ := by omega
      subst e
      refine Evt.bind (mulm lo (by omega)) ?_
      refine Evt.bind (ref_sub_ev X (lo * w) hX hlo) ?_
      rw [w64 (by omega) (by omega)]
      refine (next lo (by omega) hlo hhi).congr (fun k => rfl) rfl
theorem ref_div_loop (a : List Int) (da : Dig (b16 : Int) a) (w : Nat) (hw : 0 < w) (hwl : w * 65536 < lim) (ha : a.length ≤ 100000) (hb : b16 ^ a.length ≤ lim) (n : Nat) :
    ∀ (Q : List Int) (R : Nat), Dig (b16 : Int) Q → Q.length = a.length - n → n ≤ a.length → R < w → num16 (a.drop n) = num16 Q * w + R →
      Evt (fun k => windbreakref01_div.l0 k a (digs w) (List.replicate n 0 ++ Q) (digs R) ((n : Int) - 1)) (digs (num16 a / w), digs (num16 a % w)) := by
  induction n with
  | zero =>
    intro Q R dQ hQ hn hR hv
    refine Evt.succ ?_
    simp only [windbreakref01_div.l0]
    refine Evt.ite_neg (by omega) ?_
    rw [List.replicate_zero, List.nil_append]
    rw [List.drop_zero] at hv
    have h := windbreakref01_cut_ev Q (by simp [maxLen]; omega)
    rw [strip_digs dQ] at h
    have e1 : num16 Q = num16 a / w := by
      rw [hv, Nat.mul_comm, Nat.mul_add_div hw, Nat.div_eq_of_lt hR, Nat.add_zero]
    have e2 : R = num16 a % w := by
      rw [hv, Nat.mul_comm, Nat.mul_add_mod, Nat.mod_eq_of_lt hR]
    rw [← e1, ← e2]
    exact Evt.bind h (h := fun t _ => some (t, digs R)) (Evt.pure _)
  | succ n ih =>
    intro Q R dQ hQ hn hR hv
    have hlt : n < a.length := by omega
    refine Evt.succ ?_
    simp only [windbreakref01_div.l0]
    rw [show ((n + 1 : Nat) : Int) - 1 = (n : Int) from by omega]
    refine Evt.ite_pos (by omega) (Evt.ite_pos (by omega) (Evt.ite_pos (by omega) ?_))
    simp only [Option.bind_some]
    have hx : rd a (n : Int) = a[n] := by simp [rd_nat, hlt]
    rw [hx]
    have rx := da a[n] (List.getElem_mem hlt)
    have hRl : R < lim := by omega
    have hRd := digs_len hRl
    refine Evt.ite_pos (by simp; omega) ?_
    have dX : Dig (b16 : Int) ([a[n]] ++ digs R) := Dig.cons.2 ⟨rx, toD_dig b16_two R⟩
    have hXn : num16 ([a[n]] ++ digs R) = a[n].toNat + 65536 * R := by
      have h1 := num16_val dX
      have h2 : val (b16 : Int) ([a[n]] ++ digs R) = a[n] + (b16 : Int) * val (b16 : Int) (digs R) := rfl
      rw [h2, val_toD b16_two] at h1
      simp only [b16] at h1 rx
      omega
    have h := windbreakref01_cut_ev ([a[n]] ++ digs R) (by simp [maxLen]; omega)
    rw [strip_digs dX, hXn] at h
    refine Evt.bind h ?_
    generalize hX : a[n].toNat + 65536 * R = X
    have hXw : X < 65536 * w := by
      simp only [b16] at rx
      have : 65536 * (R + 1) ≤ 65536 * w := Nat.mul_le_mul_left _ hR
      omega
    have hq1 : List.replicate (n + 1) (0 : Int) ++ Q = List.replicate n 0 ++ (0 :: Q) := by rw [List.replicate_succ', List.append_assoc]; rfl
    rw [hq1]
    refine ref_div_halve a w X _ n hw hwl (by rw [Nat.mul_comm] at hwl; omega) (by simp; omega) hlt ?_ ha 65535 0 65535 rfl (by omega) (by omega) (by omega) (by omega)
    intro d hd h1 h2
    have hs : (List.replicate n (0 : Int) ++ 0 :: Q).set n (d : Int) = List.replicate n 0 ++ ((d : Int) :: Q) := by
      have := set_at (List.replicate n (0 : Int)) 0 (d : Int) Q
      rw [List.length_replicate] at this
      exact this
    rw [hs]
    have dQ2 : Dig (b16 : Int) ((d : Int) :: Q) := Dig.cons.2 ⟨by simp only [b16]; omega, dQ⟩
    refine ih ((d : Int) :: Q) (X - d * w) dQ2 (by simp; omega) (by omega) ?_ ?_
    · rw [Nat.add_mul, Nat.one_mul] at h2
      omega
    · have dA : Dig (b16 : Int) (a.drop n) := da.drop n
      have g1 := num16_val dA
      have g2 := num16_val (da.drop (n + 1))
      have g3 := num16_val dQ2
      have g4 := num16_val dQ
      rw [List.drop_eq_getElem_cons hlt] at g1 ⊢
      simp only [val] at g1 g3
      rw [← g2] at g1
      rw [← g4] at g3
      rw [hv] at g1
      simp only [b16] at g1 g3 rx
      have g5 : num16 ((d : Int) :: Q) = d + 65536 * num16 Q := by omega
      rw [g5]
      generalize num16 Q = Qn at *
      have g6 : (d + 65536 * Qn) * w = d * w + 65536 * (Qn * w) := by rw [Nat.add_mul, Nat.mul_assoc]
      rw [g6]
      generalize Qn * w = z at *
      generalize d * w = y at *
      omega
theorem ref_div_ev (v w : Nat) (hv : v < lim) (hw : 0 < w) (hwl : w * 65536 < lim) : Evt (fun k => windbreakref01_div.f k (digs v) (digs w)) (digs (v / w), digs (v % w)) := by
  have hd := digs_len hv
  unfold windbreakref01_div.f
  refine Evt.ite_pos (by omega) (Evt.ite_pos (by omega) ?_)
  rw [w64 (by omega) (by omega)]
  have hb : b16 ^ (digs v).length ≤ lim := by
    have h : lim = b16 ^ (4 * thousand) := by
      unfold lim
      rw [b64_pow, ← Nat.pow_mul]
    rw [h]
    exact Nat.pow_le_pow_right (by decide) hd
  have h := ref_div_loop (digs v) (toD_dig b16_two v) w hw hwl (by omega) hb (digs v).length [] 0 Dig.nil (by simp) (Nat.le_refl _) hw (by rw [List.drop_length]; simp [num16_nil])
  rw [num16_digs] at h
  refine h.congr (fun k => ?_) rfl
  rw [List.append_nil, Int.toNat_natCast, show digs 0 = [] from toD_zero b16]
end Go.Proofs.Ytnaphgnkhhapoab.Z
end
