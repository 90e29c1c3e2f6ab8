/- Proved: the law FixencAdds of layer 7, the stage's theorem: if there is room, the sum of the packs of any list that is not too long, by the modulus, unpacks to the sums; for every input, without a condition. -/
import Derived.Test.YtnaphgnkhhapoabMFixencAddsb
set_option maxHeartbeats 8000000
set_option maxRecDepth 100000
section
namespace Go.Proofs.Ytnaphgnkhhapoab.F
open Go.RowKit Go.Proofs.YtnaphgnkhhapoabW.PrintWords Go.Proofs.YtnaphgnkhhapoabW.PrintLast Go.Proofs.YtnaphgnkhhapoabW.PrintMore
attribute [local go_sem] max2_int min2_int max_two min_two max_three min_three max_four min_four
set_option linter.unusedVariables false
set_option linter.unusedSimpArgs false
attribute [local go_sem] add64_run
mutual
def nat_school.l0 : Nat → List Int → List Int → List Int → Int → Int → Option (List Int)
 | 0, _, _, _, _, _ => none
 | k + 1, x1, x5, x20, x21, x22 => if x22 < x21 then (if 0 ≤ x22 then (if x22 < (x20.length : Int) then (nat_school.l1 k x1 x5 x22 (rd x20 x22) 0 x20 x21 x22 x1 (x1.length : Int) 0) else (none)) else (none)) else ((nat_trim.f k x5).bind fun t289 => (some t289))
def nat_school.l1 : Nat → List Int → List Int → Int → Int → Int → List Int → Int → Int → List Int → Int → Int → Option (List Int)
 | 0, _, _, _, _, _, _, _, _, _, _, _ => none
 | k + 1, x1, x5, x6, x7, x8, x20, x21, x22, x27, x28, x29 => if x29 < x28 then (if 0 ≤ x29 then (if x29 < (x27.length : Int) then ((bits_Mul64.f x7 (rd x27 x29)).bind fun bt294 => (if 0 ≤ (wrap64 (x6 + x29)) then (if (wrap64 (x6 + x29)) < (x5.length : Int) then (if carry01 0 = true then (nat_school.l1 k x1 (x5.set ((wrap64 (x6 + x29)) : Int).toNat (add64_s (add64_s bt294.2 (rd x5 (wrap64 (x6 + x29))) 0) x8 0)) x6 x7 (IntKind.u64.wrap ((IntKind.u64.wrap (bt294.1 + (add64_c bt294.2 (rd x5 (wrap64 (x6 + x29))) 0))) + (add64_c (add64_s bt294.2 (rd x5 (wrap64 (x6 + x29))) 0) x8 0))) x20 x21 x22 x27 x28 (wrap64 (x29 + 1))) else (none)) else (none)) else (none))) else (none)) else (none)) else (if 0 ≤ (wrap64 (x6 + (x1.length : Int))) then (if (wrap64 (x6 + (x1.length : Int))) < (x5.length : Int) then (nat_school.l0 k x1 (x5.set ((wrap64 (x6 + (x1.length : Int))) : Int).toNat x8) x20 x21 (wrap64 (x22 + 1))) else (none)) else (none))
end
def nat_school.f (k : Nat) (l0 : List Int) (l1 : List Int) : Option (List Int) := if 0 ≤ (wrap64 ((l0.length : Int) + (l1.length : Int))) then (if (wrap64 ((l0.length : Int) + (l1.length : Int)) : Int).toNat ≤ 35184372088832 then (nat_school.l0 k l1 (List.replicate (wrap64 ((l0.length : Int) + (l1.length : Int)) : Int).toNat 0) l0 (l0.length : Int) 0) else (none)) else (none)
theorem nat_school.calls (k : Nat) (A0 : Option Addr) (c0 : Nat) (l0 : List Int) (A1 : Option Addr) (c1 : Nat) (l1 : List Int) (r : List Int) (w : World) (hr0 : Kd.C (Kd.int .u64) w A0 l0.length l0) (hc0 : l0.length ≤ c0) (hr1 : Kd.C (Kd.int .u64) w A1 l1.length l1) (hc1 : l1.length ≤ c1) (h : nat_school.f k l0 l1 = some r) :
  Calls Try.prog 90 #[.slice A0 l0.length c0, .slice A1 l1.length c1] w fun e w' => ∃ v0_ : Value, e = .returned (v0_) ∧ Kd.R (Kd.int .u64) 42 w' w.heap.size (fun _ => True) v0_ r ∧ Below w.heap.size w w' := by
 have HR0 := Aside0.mk hr0; have HC0 := Aside0.mk hc0; clear hr0 hc0; have HR1 := Aside0.mk hr1; have HC1 := Aside0.mk hc1; clear hr1 hc1
 have HB := Aside0.mk (Below.refl w.heap.size w)
 have H : (if 0 ≤ (wrap64 ((l0.length : Int) + (l1.length : Int))) then (if (wrap64 ((l0.length : Int) + (l1.length : Int)) : Int).toNat ≤ 35184372088832 then (nat_school.l0 k l1 (List.replicate (wrap64 ((l0.length : Int) + (l1.length : Int)) : Int).toNat 0) l0 (l0.length : Int) 0) else (none)) else (none)) = some r := h
 clear h
 obtain ⟨ji3, hji3, hji3w⟩ := uj ((l0.length : Int) + (l1.length : Int))
 first | rw [hji3] at H | simp only [hji3] at H
 replace ⟨c4b0, c4b1, H⟩ := uTe H
 replace ⟨c5b0, c5b1, H⟩ := uTe H
 generalize hy286 : ((List.replicate (ji3 : Int).toNat 0) : List Int) = y286 at H
 have Ny286 := Aside0.mk hy286.symm; clear hy286
 have H' := Aside0.mk H
 clear H
 go_enter Try.func90, Try.ntmps90
 go_wp2_with (first | ((with_reducible refine gate_dst (N := 19) rfl ?_); refine Kd.R_make (Kd.int .u64) _ 42 rfl (N := 19) rfl 23 _ _ rfl ji3 rfl rfl Try.underlying23 (.int .u64 0) 8 info42 rfl (by decide) (by omega) 0 (ok := fun _ => True) (okp := fun _ => True) rfl (fun _ hk => hk) trivial uO (Nat.le_trans (Nat.mul_le_mul_right _ (uO : ji3.toNat ≤ 35184372088832)) (by omega)) (Below.refl _ _) (Nat.le_refl _) ?_; intro v287 w6 ho7 hb hg_ hnew_; clear hg_ hnew_; (first | rw [← Ny286.out] at ho7 | (simp only [Int.reduceToNat] at ho7; rw [← Ny286.out] at ho7)); have HO288 := ulo ho7; replace HB := uy hb; clear hb ho7))
 go_loopg [22] k (fun kq v22 w' => ∃ (x5_1 : List Int) (x22_1 : Int), v22 = .int .i64 x22_1 ∧ Aside0 (nat_school.l0 kq l1 x5_1 l0 (l0.length : Int) x22_1 = some r) ∧ Aside0 (kq ≤ k) ∧ Aside0 (Kd.R (Kd.int .u64) 42 w' w.heap.size (fun _ => True) v287 x5_1) ∧ Aside0 (Below w.heap.size w w'))
 case atStart => exact ⟨(y286), (0), uG, H', ⟨Nat.le_refl _⟩, ⟨uR HO288.out⟩, ⟨uB⟩⟩
 case round =>
  clear H'
  obtain ⟨x5_1, x22_1, rfl, HA, HK1, HO_5, HB⟩ := hrel
  cases gk with
  | zero => exact absurd HA.out (by simp [nat_school.l0])
  | succ k1 =>
   have H := HA.out
   clear HA
   simp only [nat_school.l0] at H
   by_cases c8 : x22_1 < (l0.length : Int)
   ·
    rw [if_pos c8] at H
    have c8b0 := decide_eq_true c8
    clear c8
    replace ⟨c9b0, H⟩ := uTd H
    replace ⟨c10b0, H⟩ := uTd H
    have H' := Aside0.mk H
    clear H
    have p292 : 0 ≤ (x22_1 : Int) := uO
    have q292 : x22_1 < (l0.length : Int) := uO
    obtain ⟨ad292, e292, hx292_0⟩ := Kd.at_int HR0.out x22_1 p292 q292
    cases e292
    replace hx292_0 := (HB.out.cell (World.block_lt_of_cell? w _ hx292_0)).trans hx292_0
    replace p292 := eq_true p292
    replace q292 := eq_true q292
    go_wp2
    go_loopg [8, 29] k1 (fun kq v8 v29 w' => ∃ (x5_2 : List Int) (x8_2 : Int) (x29_2 : Int), v8 = .int .u64 x8_2 ∧ v29 = .int .i64 x29_2 ∧ Aside0 (nat_school.l1 kq l1 x5_2 x22_1 (rd l0 x22_1) x8_2 l0 (l0.length : Int) x22_1 l1 (l1.length : Int) x29_2 = some r) ∧ Aside0 (kq ≤ k1) ∧ Aside0 (Kd.R (Kd.int .u64) 42 w' w.heap.size (fun _ => True) v287 x5_2) ∧ Aside0 (Below w.heap.size w w'))
    case atStart => exact ⟨(x5_1), (0), (0), uG, uG, H', ⟨Nat.le_refl _⟩, ⟨uR HO_5.out⟩, ⟨uB⟩⟩
    case round =>
     clear H'
     ; (try clear q2); (try clear hx2); (try clear hx292_0); (try clear q292)
     obtain ⟨x5_2, x8_2, x29_2, rfl, rfl, HA, HK2, HO_5, HB⟩ := hrel
     cases gk with
     | zero => exact absurd HA.out (by simp [nat_school.l1])
     | succ k2 =>
      have H := HA.out
      clear HA
      simp only [nat_school.l1] at H
      by_cases c11 : x29_2 < (l1.length : Int)
      ·
       rw [if_pos c11] at H
       have c11b0 := decide_eq_true c11
       clear c11
       replace ⟨c12b0, H⟩ := uTd H
       replace ⟨c13b0, H⟩ := uTd H
       replace ⟨⟨t294, t295⟩, A14, H⟩ := ub H
       (try dsimp only at H)
       obtain ⟨ji15, hji15, hji15w⟩ := uj (x22_1 + x29_2)
       first | rw [hji15] at H | simp only [hji15] at H
       (try rw [hji15] at A14)
       replace ⟨c16b0, H⟩ := uTd H
       replace ⟨c17b0, H⟩ := uTd H
       replace ⟨c18, H⟩ := uT H
       have c18b0 : carry01 0 = true := c18
       clear c18
       generalize hy297 : ((x5_2.set ((ji15) : Int).toNat (add64_s (add64_s t295 (rd x5_2 (ji15)) 0) x8_2 0)) : List Int) = y297 at H
       have Ny297 := Aside0.mk hy297.symm; clear hy297
       have H' := Aside0.mk H
       clear H
       have p293 : 0 ≤ (x29_2 : Int) := uO
       have q293 : x29_2 < (l1.length : Int) := uO
       obtain ⟨ad293, e293, hx293_0⟩ := Kd.at_int HR1.out x29_2 p293 q293
       cases e293
       replace hx293_0 := (HB.out.cell (World.block_lt_of_cell? w _ hx293_0)).trans hx293_0
       replace p293 := eq_true p293
       replace q293 := eq_true q293
       go_wp2_with (first | ((with_reducible refine ug 25 rfl ?_); refine uh (some 37) rfl Try.func25 #[.int .u64 (rd l0 x22_1), .int .u64 (rd l1 x29_2)] ?_; (with_reducible refine (bits_Mul64.calls (rd l0 x22_1) (rd l1 x29_2) t294 t295 _ A14.out).mono ?_); rintro e w' ⟨rfl, ⟨nd, rfl⟩⟩; refine ⟨_, rfl, ?_⟩; (try (rw [drewN_self wr]; generalize hq_ : World.drewN wr _ = wr; replace HO_5 : Aside0 (Kd.R (Kd.int .u64) 42 wr w.heap.size (fun _ => True) v287 x5_2) := ⟨by rw [← hq_]; exact (uR HO_5.out)⟩; replace HB : Aside0 (Below w.heap.size w wr) := ⟨by rw [← hq_]; exact uB⟩; clear hq_)); obtain ⟨Ao20, co20, eo20⟩ := Kd.R_slice HO_5.out; subst eo20; have p296 : 0 ≤ ((ji15) : Int) := uO; have q296 : (ji15) < (x5_2.length : Int) := uO; obtain ⟨ad296, e296, hx296_0⟩ := Kd.at_int (Kd.R_reads' HO_5.out).2.2 (ji15) p296 q296; cases e296; replace p296 := eq_true p296; replace q296 := eq_true q296; have p19 : 0 ≤ ((ji15) : Int) := uO; have q19 : ((ji15) : Int) < ((x5_2.length : Int) : Int) := uO; obtain ⟨go19, co19, eo19, gb19, gl19, cl19, HG19⟩ := Kd.R_form HO_5.out (by omega); (first | cases eo19 | (injection eo19 with ea_ en_ ec_; (first | subst ea_ | (injection ea_ with ea_; subst ea_)); subst ec_; clear en_)); have GB19 := Aside0.mk gb19; have GG19 := Aside0.mk HG19; clear gb19 gl19 HG19; (first | simp only [add_plain] at hx296_0 | skip); obtain ⟨hx19_0, hf19_0⟩ := Kd.R_celln 0 HO_5.out ((ji15) : Int) p19 q19; replace p19 := eq_true p19; replace q19 := eq_true q19; obtain ⟨hy21_, hz21_⟩ := Kd.R_celln 0 HO_5.out ((ji15) : Int) uO uO; have HP21 := Kd.R_putg HO_5.out ((ji15) : Int) (add64_s (add64_s t295 (rd x5_2 (ji15)) 0) x8_2 0)) | ((with_reducible refine gate_store (t := 42) (p := 68) rfl ?_); refine store_event (t := 42) (p := 68) (v := ?vo_w22) (w1 := (wr.setCell ⟨go19, ((ji15) : Int).toNat, none⟩ (.int .u64 (add64_s (add64_s t295 (rd x5_2 (ji15)) 0) x8_2 0)))) ?hg ?ho ?hn ?hr ?_; (case ho => rfl); (case hg => rfl); (case hn => rfl); (case hr => first | (go_simp; done) | (go_simp; rfl) | (obtain ⟨hy_, hz_⟩ := Kd.R_celln 0 HO_5.out ((ji15) : Int) uO uO; (try simp only [Go.IntWalk.toNatUp] at hy_ hz_); (try simp only [Int.reduceToNat, Int.toNat_zero, Int.toNat_ofNat] at hy_ hz_); first | (go_simp; done) | (go_simp; rfl))); intro w22 hw; have hg : wr.grownBy w22 (some go19) := (by rw [hw]; exact HP21.2); have hp_ : Kd.R (Kd.int .u64) 42 w22 w.heap.size (fun _ => True) (.slice (some ⟨go19, 0, none⟩) x5_2.length co20) y297 := (by rw [hw, Ny297.out]; exact HP21.1); clear HP21; replace HO_5 := Aside0.mk (hp_); replace HB := Aside0.mk ((by rw [hw]; exact below_set (HB.out) GB19.out : Below w.heap.size w w22)); clear hg hw hp_))
       go_roundg k2
       case measure => have := HK1.out; have := HK2.out; omega
       case rel => exact ⟨(y297), (IntKind.u64.wrap ((IntKind.u64.wrap (t294 + (add64_c t295 (rd x5_2 (ji15)) 0))) + (add64_c (add64_s t295 (rd x5_2 (ji15)) 0) x8_2 0))), (wrap64 (x29_2 + 1)), (by first | rfl | (simp; done) | (simp only [← hji15] <;> (first | rfl | simp)) | (simp [*]; done)), uG, H', ⟨by have := HK1.out; have := HK2.out; omega⟩, ⟨uR HO_5.out⟩, ⟨uB⟩⟩
      rw [if_neg c11] at H
      have c11b0 := decide_eq_false c11
      clear c11
      obtain ⟨ji23, hji23, hji23w⟩ := uj (x22_1 + (l1.length : Int))
      first | rw [hji23] at H | simp only [hji23] at H
      replace ⟨c24b0, H⟩ := uTd H
      replace ⟨c25b0, H⟩ := uTd H
      generalize hy298 : ((x5_2.set ((ji23) : Int).toNat x8_2) : List Int) = y298 at H
      have Ny298 := Aside0.mk hy298.symm; clear hy298
      have H' := Aside0.mk H
      clear H
      have p26 : 0 ≤ ((ji23) : Int) := uO
      have q26 : ((ji23) : Int) < ((x5_2.length : Int) : Int) := uO
      obtain ⟨go26, co26, eo26, gb26, gl26, cl26, HG26⟩ := Kd.R_form HO_5.out (by omega)
      (first | cases eo26 | (injection eo26 with ea_ en_ ec_; (first | subst ea_ | (injection ea_ with ea_; subst ea_)); subst ec_; clear en_))
      have GB26 := Aside0.mk gb26; have GG26 := Aside0.mk HG26; clear gb26 gl26 HG26
      obtain ⟨hx26_0, hf26_0⟩ := Kd.R_celln 0 HO_5.out ((ji23) : Int) p26 q26
      replace p26 := eq_true p26
      replace q26 := eq_true q26
      have HP27 := Kd.R_putg HO_5.out ((ji23) : Int) x8_2
      go_wp2_with (first | ((with_reducible refine gate_store (t := 42) (p := 76) rfl ?_); refine store_event (t := 42) (p := 76) (v := ?vo_w28) (w1 := (wr.setCell ⟨go26, ((ji23) : Int).toNat, none⟩ (.int .u64 x8_2))) ?hg ?ho ?hn ?hr ?_; (case ho => rfl); (case hg => rfl); (case hn => rfl); (case hr => first | (go_simp; done) | (go_simp; rfl) | (obtain ⟨hy_, hz_⟩ := Kd.R_celln 0 HO_5.out ((ji23) : Int) uO uO; (try simp only [Go.IntWalk.toNatUp] at hy_ hz_); (try simp only [Int.reduceToNat, Int.toNat_zero, Int.toNat_ofNat] at hy_ hz_); first | (go_simp; done) | (go_simp; rfl))); intro w28 hw; have hg : wr.grownBy w28 (some go26) := (by rw [hw]; exact HP27.2); have hp_ : Kd.R (Kd.int .u64) 42 w28 w.heap.size (fun _ => True) (.slice (some ⟨go26, 0, none⟩) x5_2.length co26) y298 := (by rw [hw, Ny298.out]; exact HP27.1); clear HP27; replace HO_5 := Aside0.mk (hp_); replace HB := Aside0.mk ((by rw [hw]; exact below_set (HB.out) GB26.out : Below w.heap.size w w28)); clear hg hw hp_))
      go_roundg k2
      case measure => have := HK1.out; have := HK2.out; omega
      case rel => exact ⟨(y298), (wrap64 (x22_1 + 1)), uG, H', ⟨by have := HK1.out; have := HK2.out; omega⟩, ⟨uR HO_5.out⟩, ⟨uB⟩⟩
   rw [if_neg c8] at H
   have c8b0 := decide_eq_false c8
   clear c8
   replace ⟨t289, A29, H⟩ := ub H
   obtain rfl := Option.some.inj H
   obtain ⟨Ao30, co30, eo30⟩ := Kd.R_slice HO_5.out
   subst eo30
   go_wp2_with (first | ((with_reducible refine ug 72 rfl ?_); refine uh (some 79) rfl Try.func72 #[.slice Ao30 x5_1.length co30] ?_; (with_reducible refine (nat_trim.calls k1 (fun k_ => some k_ = (.slice Ao30 x5_1.length co30 : Value).ownBlock) (.slice Ao30 x5_1.length co30) x5_1 t289 w _ ?side1 ?side2 A29.out).mono ?_); (case side1 => repeat (first | (with_reducible first | exact HB.out | apply below_alloc | apply pw_below_drewN | apply below_drew1) | exact HB.out)); (case side2 => exact Kd.R_tight rfl HO_5.out); rintro e w31 ⟨v290, rfl, ho0, hb, hkp⟩; refine ⟨_, rfl, ?_⟩; have HO291 := Aside0.mk (Kd.R_mono (ok' := fun k_ => True) ho0 (fun k_ hk_ => trivial)); replace HB := Aside0.mk (hb); clear HO_5; (try clear hb); (try clear hkp); (try clear ho0)))
   go_ret
   exact ⟨_, by first | rfl | (simp [errW_none, errW_some] <;> rfl) | (simp only [← hji3]; first | rfl | (simp [errW_none, errW_some] <;> rfl)) | (simp [*, errW_none, errW_some] <;> rfl), uR HO291.out, uB⟩
mutual
def nat_into.l0 : Nat → List Int → List Int → Int → Int → Int → Option (List Int)
 | 0, _, _, _, _, _ => none
 | k + 1, x0, x1, x2, x6, x7 => if x7 < (x0.length : Int) then (if (wrap64 (x7 - x2)) < (x1.length : Int) then (nat_into.j1 k x0 x1 x2 x6 x7 true) else (nat_into.j1 k x0 x1 x2 x6 x7 (decide (x6 > 0)))) else (nat_into.j1 k x0 x1 x2 x6 x7 false)
def nat_into.j1 : Nat → List Int → List Int → Int → Int → Int → Bool → Option (List Int)
 | 0, _, _, _, _, _, _ => none
 | k + 1, x0, x1, x2, x6, x7, x25 => if x25 = true then (if (wrap64 (x7 - x2)) < (x1.length : Int) then (if 0 ≤ (wrap64 (x7 - x2)) then (if 0 ≤ x7 then (if x7 < (x0.length : Int) then (if carry01 x6 = true then (nat_into.l0 k (x0.set (x7 : Int).toNat (add64_s (rd x0 x7) (rd x1 (wrap64 (x7 - x2))) x6)) x1 x2 (add64_c (rd x0 x7) (rd x1 (wrap64 (x7 - x2))) x6) (wrap64 (x7 + 1))) else (none)) else (none)) else (none)) else (none)) else (if 0 ≤ x7 then (if x7 < (x0.length : Int) then (if carry01 x6 = true then (nat_into.l0 k (x0.set (x7 : Int).toNat (add64_s (rd x0 x7) 0 x6)) x1 x2 (add64_c (rd x0 x7) 0 x6) (wrap64 (x7 + 1))) else (none)) else (none)) else (none))) else (some x0)
end
def nat_into.f (k : Nat) (l0 : List Int) (l1 : List Int) (a2 : Int) : Option (List Int) := nat_into.l0 k l0 l1 a2 0 a2
theorem nat_into.calls (k : Nat) (P0_ : Nat → Prop) (u9000_ : Value) (l0 : List Int) (A1 : Option Addr) (c1 : Nat) (l1 : List Int) (a2 : Int) (r : List Int) (w0 w : World) (hB : Below w0.heap.size w0 w) (ho0 : Kd.R (Kd.int .u64) 42 w w0.heap.size P0_ u9000_ l0) (hr1 : ∀ W_, Kept w W_ (fun k_ => P0_ k_) → Kd.C (Kd.int .u64) W_ A1 l1.length l1) (hc1 : l1.length ≤ c1) (h : nat_into.f k l0 l1 a2 = some r) :
  Calls Try.prog 94 #[u9000_, .slice A1 l1.length c1, .int .i64 a2] w fun e w' => e = .returned (.tuple #[]) ∧ Kd.R (Kd.int .u64) 42 w' w0.heap.size (fun k_ => (P0_ k_ ∨ w.heap.size ≤ k_)) u9000_ r ∧ Below w0.heap.size w0 w' ∧ Kept w w' (fun k_ => P0_ k_) := by
 have HO0 := Aside0.mk (show Kd.R (Kd.int .u64) 42 w w0.heap.size (fun k_ => (P0_ k_ ∨ w.heap.size ≤ k_)) u9000_ l0 from Kd.R_mono ho0 (fun k_ hk => (.inl hk)))
 have HR1 := Aside0.mk hr1; have HC1 := Aside0.mk hc1; clear hr1 hc1
 have HK := Aside0.mk (Kept.refl w (fun k_ => P0_ k_))
 have HW0 := Aside0.mk hB.size
 have HB := Aside0.mk hB; clear hB
 have H : (nat_into.l0 k l0 l1 a2 0 a2) = some r := h
 clear h
 have H' := Aside0.mk H
 clear H
 go_enter Try.func94, Try.ntmps94
 go_wp2
 go_loopg [6, 7] k (fun kq v6 v7 w' => ∃ (x0_1 : List Int) (x6_1 : Int) (x7_1 : Int), v6 = .int .u64 x6_1 ∧ v7 = .int .i64 x7_1 ∧ Aside0 (nat_into.l0 kq x0_1 l1 a2 x6_1 x7_1 = some r) ∧ Aside0 (kq ≤ k) ∧ Aside0 (Kd.R (Kd.int .u64) 42 w' w0.heap.size (fun k_ => (P0_ k_ ∨ w.heap.size ≤ k_)) u9000_ x0_1) ∧ Aside0 (Kept w w' (fun k_ => P0_ k_)) ∧ Aside0 (Below w0.heap.size w0 w'))
 case atStart => exact ⟨(l0), (0), (a2), uG, uG, H', ⟨Nat.le_refl _⟩, ⟨uR HO0.out⟩, ⟨by repeat (first | (with_reducible first | exact HK.out | apply Kept.alloc | apply Kept.drewN | apply Kept.drew) | exact HK.out)⟩, ⟨uB⟩⟩
 case round =>
  clear H'
  obtain ⟨x0_1, x6_1, x7_1, rfl, rfl, HA, HK1, HO_0, HK, HB⟩ := hrel
  cases gk with
  | zero => exact absurd HA.out (by simp [nat_into.l0])
  | succ k1 =>
   have H := HA.out
   clear HA
   simp only [nat_into.l0] at H
   have HC4 := Aside0.mk H; clear H
   go_upto_region 2 with (fail)
   go_cut [25] (fun v25 wc => ∃ (kq : Nat) (x25_3 : Bool), v25 = .bool x25_3 ∧ Aside0 (nat_into.j1 kq x0_1 l1 a2 x6_1 x7_1 x25_3 = some r) ∧ Aside0 (kq ≤ k1) ∧ Aside0 (Kd.R (Kd.int .u64) 42 wc w0.heap.size (fun k_ => (P0_ k_ ∨ w.heap.size ≤ k_)) u9000_ x0_1) ∧ Aside0 (Kept w wc (fun k_ => P0_ k_)) ∧ Aside0 (Below w0.heap.size w0 wc))
   case first =>
    have H := HC4.out
    clear HC4
    by_cases c5 : x7_1 < (x0_1.length : Int)
    ·
     rw [if_pos c5] at H
     have c5b0 := decide_eq_true c5
     clear c5
     (first | rw [c5b0] | (simp only [i64_w, i32_w]; rw [c5b0]) | skip)
     by_cases c6 : (wrap64 (x7_1 - a2)) < (l1.length : Int)
     ·
      rw [if_pos c6] at H
      have c6b0 := decide_eq_true c6
      clear c6
      have H' := Aside0.mk H
      clear H
      obtain ⟨Ao7, co7, eo7⟩ := Kd.R_slice HO_0.out
      subst eo7
      go_wp2
      go_meet
      case rel => exact ⟨_, (true), uG, H', ⟨by have := HK1.out; first | omega | exact Nat.le_refl _⟩, ⟨uR HO_0.out⟩, ⟨by repeat (first | (with_reducible first | exact HK.out | apply Kept.alloc | apply Kept.drewN | apply Kept.drew) | exact HK.out)⟩, ⟨uB⟩⟩
     rw [if_neg c6] at H
     have c6b0 := decide_eq_false c6
     clear c6
     have H' := Aside0.mk H
     clear H
     obtain ⟨Ao8, co8, eo8⟩ := Kd.R_slice HO_0.out
     subst eo8
     go_wp2
     go_meet
     case rel => exact ⟨_, (decide (x6_1 > 0)), uG, H', ⟨by have := HK1.out; first | omega | exact Nat.le_refl _⟩, ⟨uR HO_0.out⟩, ⟨by repeat (first | (with_reducible first | exact HK.out | apply Kept.alloc | apply Kept.drewN | apply Kept.drew) | exact HK.out)⟩, ⟨uB⟩⟩
    rw [if_neg c5] at H
    have c5b0 := decide_eq_false c5
    clear c5
    (first | rw [c5b0] | (simp only [i64_w, i32_w]; rw [c5b0]) | skip)
    have H' := Aside0.mk H
    clear H
    obtain ⟨Ao9, co9, eo9⟩ := Kd.R_slice HO_0.out
    subst eo9
    go_wp2
    go_meet
    case rel => exact ⟨_, (false), uG, H', ⟨by have := HK1.out; first | omega | exact Nat.le_refl _⟩, ⟨uR HO_0.out⟩, ⟨by repeat (first | (with_reducible first | exact HK.out | apply Kept.alloc | apply Kept.drewN | apply Kept.drew) | exact HK.out)⟩, ⟨uB⟩⟩
   case rest =>
    clear HC4
    obtain ⟨kq, x25_3, rfl, HA, HJ3, HO_0, HK, HB⟩ := hcut
    cases kq with
    | zero => exact absurd HA.out (by simp [nat_into.j1])
    | succ kj3 =>
     have H := HA.out
     clear HA
     simp only [nat_into.j1] at H
     by_cases c10 : x25_3 = true
     ·
      subst c10
      rw [if_pos rfl] at H
      by_cases c11 : (wrap64 (x7_1 - a2)) < (l1.length : Int)
      ·
       rw [if_pos c11] at H
       have c11b0 := decide_eq_true c11
       clear c11
       obtain ⟨ji12, hji12, hji12w⟩ := uj (x7_1 - a2)
       first | rw [hji12] at H | simp only [hji12] at H
       (try rw [hji12] at c11b0)
       replace ⟨c13b0, H⟩ := uTd H
       replace ⟨c14b0, H⟩ := uTd H
       replace ⟨c15b0, H⟩ := uTd H
       replace ⟨c16, H⟩ := uT H
       have c16b0 : carry01 x6_1 = true := c16
       clear c16
       generalize hy837 : ((x0_1.set (x7_1 : Int).toNat (add64_s (rd x0_1 x7_1) (rd l1 (ji12)) x6_1)) : List Int) = y837 at H
       have Ny837 := Aside0.mk hy837.symm; clear hy837
       have H' := Aside0.mk H
       clear H
       have p835 := eq_true (uO : 0 ≤ ((ji12) : Int))
       have q835 := eq_true (uO : (ji12) < (l1.length : Int))
       obtain ⟨ad835, e835, hx835_0⟩ := Kd.at_int (Kd.C_kept_now HR1.out HK.out) (ji12) uO uO
       cases e835
       obtain ⟨Ao18, co18, eo18⟩ := Kd.R_slice HO_0.out
       subst eo18
       have p836 := eq_true (uO : 0 ≤ (x7_1 : Int))
       have q836 := eq_true (uO : x7_1 < (x0_1.length : Int))
       obtain ⟨ad836, e836, hx836_0⟩ := Kd.at_int (Kd.R_reads' HO_0.out).2.2 x7_1 uO uO
       cases e836
       have p17 : 0 ≤ (x7_1 : Int) := uO
       have q17 : (x7_1 : Int) < ((x0_1.length : Int) : Int) := uO
       obtain ⟨go17, co17, eo17, gb17, gl17, cl17, HG17⟩ := Kd.R_form HO_0.out (by omega)
       (first | cases eo17 | (injection eo17 with ea_ en_ ec_; (first | subst ea_ | (injection ea_ with ea_; subst ea_)); subst ec_; clear en_))
       have GB17 := Aside0.mk gb17; have GG17 := Aside0.mk HG17; clear gb17 gl17 HG17
       have HMgo17 := Aside0.mk (show (P0_ go17 ∨ w.heap.size ≤ go17) from (HO_0.out.1 _ rfl))
       (first | simp only [add_plain] at hx836_0 | skip)
       obtain ⟨hx17_0, hf17_0⟩ := Kd.R_celln 0 HO_0.out (x7_1 : Int) p17 q17
       replace p17 := eq_true p17
       replace q17 := eq_true q17
       have HP19 := Kd.R_putg HO_0.out (x7_1 : Int) (add64_s (rd x0_1 x7_1) (rd l1 (ji12)) x6_1)
       go_wp2_with (first | ((with_reducible refine gate_store (t := 42) (p := 52) rfl ?_); refine store_event (t := 42) (p := 52) (v := ?vo_w20) (w1 := (wc.setCell ⟨go17, (x7_1 : Int).toNat, none⟩ (.int .u64 (add64_s (rd x0_1 x7_1) (rd l1 (ji12)) x6_1)))) ?hg ?ho ?hn ?hr ?_; (case ho => rfl); (case hg => rfl); (case hn => rfl); (case hr => first | (go_simp; done) | (go_simp; rfl) | (obtain ⟨hy_, hz_⟩ := Kd.R_celln 0 HO_0.out (x7_1 : Int) uO uO; (try simp only [Go.IntWalk.toNatUp] at hy_ hz_); (try simp only [Int.reduceToNat, Int.toNat_zero, Int.toNat_ofNat] at hy_ hz_); first | (go_simp; done) | (go_simp; rfl))); intro w20 hw; have hg : wc.grownBy w20 (some go17) := (by rw [hw]; exact HP19.2); have hp_ : Kd.R (Kd.int .u64) 42 w20 w0.heap.size (fun k_ => (P0_ k_ ∨ w.heap.size ≤ k_)) (.slice (some ⟨go17, 0, none⟩) x0_1.length co18) y837 := (by rw [hw, Ny837.out]; exact HP19.1); clear HP19; replace HB := Aside0.mk ((by rw [hw]; exact below_set (HB.out) GB17.out : Below w0.heap.size w0 w20)); replace HK := Aside0.mk (Kept.of_grown (S := (fun k_ => P0_ k_)) hg (by repeat (first | (with_reducible first | exact HK.out | apply Kept.alloc | apply Kept.drewN | apply Kept.drew) | exact HK.out)) (fun k_ e_ => (HO_0.out.1 k_ e_))); replace HO_0 := Aside0.mk (hp_); clear hg hw hp_))
       go_roundg kj3
       case measure => have := HK1.out; have := HJ3.out; omega
       case rel => exact ⟨(y837), (add64_c (rd x0_1 x7_1) (rd l1 (ji12)) x6_1), (wrap64 (x7_1 + 1)), (by first | rfl | (simp; done) | (simp only [← hji12] <;> (first | rfl | simp)) | (simp [*]; done)), uG, H', ⟨by have := HK1.out; have := HJ3.out; omega⟩, ⟨uR HO_0.out⟩, ⟨by repeat (first | (with_reducible first | exact HK.out | apply Kept.alloc | apply Kept.drewN | apply Kept.drew) | exact HK.out)⟩, ⟨uB⟩⟩
      rw [if_neg c11] at H
      have c11b0 := decide_eq_false c11
      clear c11
      replace ⟨c21b0, H⟩ := uTd H
      replace ⟨c22b0, H⟩ := uTd H
      replace ⟨c23, H⟩ := uT H
      have c23b0 : carry01 x6_1 = true := c23
      clear c23
      generalize hy839 : ((x0_1.set (x7_1 : Int).toNat (add64_s (rd x0_1 x7_1) 0 x6_1)) : List Int) = y839 at H
      have Ny839 := Aside0.mk hy839.symm; clear hy839
      have H' := Aside0.mk H
      clear H
      obtain ⟨Ao25, co25, eo25⟩ := Kd.R_slice HO_0.out
      subst eo25
      have p838 := eq_true (uO : 0 ≤ (x7_1 : Int))
      have q838 := eq_true (uO : x7_1 < (x0_1.length : Int))
      obtain ⟨ad838, e838, hx838_0⟩ := Kd.at_int (Kd.R_reads' HO_0.out).2.2 x7_1 uO uO
      cases e838
      have p24 : 0 ≤ (x7_1 : Int) := uO
      have q24 : (x7_1 : Int) < ((x0_1.length : Int) : Int) := uO
      obtain ⟨go24, co24, eo24, gb24, gl24, cl24, HG24⟩ := Kd.R_form HO_0.out (by omega)
      (first | cases eo24 | (injection eo24 with ea_ en_ ec_; (first | subst ea_ | (injection ea_ with ea_; subst ea_)); subst ec_; clear en_))
      have GB24 := Aside0.mk gb24; have GG24 := Aside0.mk HG24; clear gb24 gl24 HG24
      have HMgo24 := Aside0.mk (show (P0_ go24 ∨ w.heap.size ≤ go24) from (HO_0.out.1 _ rfl))
      (first | simp only [add_plain] at hx838_0 | skip)
      obtain ⟨hx24_0, hf24_0⟩ := Kd.R_celln 0 HO_0.out (x7_1 : Int) p24 q24
      replace p24 := eq_true p24
      replace q24 := eq_true q24
      have HP26 := Kd.R_putg HO_0.out (x7_1 : Int) (add64_s (rd x0_1 x7_1) 0 x6_1)
      go_wp2_with (first | ((with_reducible refine gate_store (t := 42) (p := 52) rfl ?_); refine store_event (t := 42) (p := 52) (v := ?vo_w27) (w1 := (wc.setCell ⟨go24, (x7_1 : Int).toNat, none⟩ (.int .u64 (add64_s (rd x0_1 x7_1) 0 x6_1)))) ?hg ?ho ?hn ?hr ?_; (case ho => rfl); (case hg => rfl); (case hn => rfl); (case hr => first | (go_simp; done) | (go_simp; rfl) | (obtain ⟨hy_, hz_⟩ := Kd.R_celln 0 HO_0.out (x7_1 : Int) uO uO; (try simp only [Go.IntWalk.toNatUp] at hy_ hz_); (try simp only [Int.reduceToNat, Int.toNat_zero, Int.toNat_ofNat] at hy_ hz_); first | (go_simp; done) | (go_simp; rfl))); intro w27 hw; have hg : wc.grownBy w27 (some go24) := (by rw [hw]; exact HP26.2); have hp_ : Kd.R (Kd.int .u64) 42 w27 w0.heap.size (fun k_ => (P0_ k_ ∨ w.heap.size ≤ k_)) (.slice (some ⟨go24, 0, none⟩) x0_1.length co25) y839 := (by rw [hw, Ny839.out]; exact HP26.1); clear HP26; replace HB := Aside0.mk ((by rw [hw]; exact below_set (HB.out) GB24.out : Below w0.heap.size w0 w27)); replace HK := Aside0.mk (Kept.of_grown (S := (fun k_ => P0_ k_)) hg (by repeat (first | (with_reducible first | exact HK.out | apply Kept.alloc | apply Kept.drewN | apply Kept.drew) | exact HK.out)) (fun k_ e_ => (HO_0.out.1 k_ e_))); replace HO_0 := Aside0.mk (hp_); clear hg hw hp_))
      go_roundg kj3
      case measure => have := HK1.out; have := HJ3.out; omega
      case rel => exact ⟨(y839), (add64_c (rd x0_1 x7_1) 0 x6_1), (wrap64 (x7_1 + 1)), uG, uG, H', ⟨by have := HK1.out; have := HJ3.out; omega⟩, ⟨uR HO_0.out⟩, ⟨by repeat (first | (with_reducible first | exact HK.out | apply Kept.alloc | apply Kept.drewN | apply Kept.drew) | exact HK.out)⟩, ⟨uB⟩⟩
     replace c10 := Bool.eq_false_iff.mpr c10
     subst c10
     rw [if_neg (show ¬ (false = true) by decide)] at H
     obtain rfl := Option.some.inj H
     go_wp2
     first | go_end0 | ((try simp only [Exit.inBlock, Exit.then]); refine bodyPost_ret (results_none rfl _ _ _) rfl ?_)
     exact ⟨uF, uR HO_0.out, uB, by repeat (first | (with_reducible first | exact HK.out | apply Kept.alloc | apply Kept.drewN | apply Kept.drew) | exact HK.out)⟩
end Go.Proofs.Ytnaphgnkhhapoab.F
end
section
namespace Go.Proofs.Ytnaphgnkhhapoab.F
open Go.RowKit Go.Proofs.YtnaphgnkhhapoabW.PrintWords Go.Proofs.YtnaphgnkhhapoabW.PrintLast Go.Proofs.YtnaphgnkhhapoabW.PrintMore
attribute [local go_sem] max2_int min2_int max_two min_two max_three min_three max_four min_four
set_option linter.unusedVariables false
set_option linter.unusedSimpArgs false
def nat_Add.f (k : Nat) (l0 : List Int) (l1 : List Int) : Option (List Int × Int) := (nat_right.f (([l0, l1] : List (List Int)))).bind fun t198 => (if t198 = true then ((nat_sum.f k l0 l1).bind fun t199 => ((nat_told.f k t199).bind fun bt202 => (some (bt202.1, bt202.2)))) else (some (([] : List Int), 1)))
theorem nat_Add.calls (k : Nat) (P0_ : Nat → Prop) (A0 : Option Addr) (c0 : Nat) (l0 : List Int) (P1_ : Nat → Prop) (A1 : Option Addr) (c1 : Nat) (l1 : List Int) (r1 : List Int) (r2 : Int) (w : World) (hs0 : Kd.V (Kd.int .u64) 42 w w.heap.size (fun k_ => P0_ k_) (.slice A0 l0.length c0) l0) (hs1 : Kd.V (Kd.int .u64) 42 w w.heap.size (fun k_ => P1_ k_) (.slice A1 l1.length c1) l1) (h : nat_Add.f k l0 l1 = some (r1, r2)) :
  Calls Try.prog 38 #[.slice A0 l0.length c0, .slice A1 l1.length c1] w fun e w' => ∃ v0_ : Value, e = .returned (.tuple #[v0_, .int .i64 r2]) ∧ Kd.R (Kd.int .u64) 42 w' w.heap.size (fun k_ => (w.heap.size ≤ k_)) v0_ r1 ∧ Below w.heap.size w w' := by
 have HO0 := Aside0.mk (show Kd.V (Kd.int .u64) 42 w w.heap.size (fun k_ => ((P0_ k_ ∨ P1_ k_) ∨ w.heap.size ≤ k_)) (.slice A0 l0.length c0) l0 from Kd.V_mono hs0 (fun k_ hk => .inl (.inl hk)))
 have HO1 := Aside0.mk (show Kd.V (Kd.int .u64) 42 w w.heap.size (fun k_ => ((P0_ k_ ∨ P1_ k_) ∨ w.heap.size ≤ k_)) (.slice A1 l1.length c1) l1 from Kd.V_mono hs1 (fun k_ hk => .inl (.inr hk)))
 have HB := Aside0.mk (Below.refl w.heap.size w)
 have H : ((nat_right.f (([l0, l1] : List (List Int)))).bind fun t198 => (if t198 = true then ((nat_sum.f k l0 l1).bind fun t199 => ((nat_told.f k t199).bind fun bt202 => (some (bt202.1, bt202.2)))) else (some (([] : List Int), 1)))) = some (r1, r2) := h
 clear h
 generalize hy195 : ((([l0, l1] : List (List Int))) : List (List Int)) = y195 at H
 have Ny195 := Aside0.mk hy195.symm; clear hy195
 replace ⟨t198, A3, H⟩ := ub H
 by_cases c4 : t198 = true
 ·
  subst c4
  rw [if_pos rfl] at H
  replace ⟨t199, A5, H⟩ := ub H
  replace ⟨⟨t202, t205⟩, A6, H⟩ := ub H
  (try dsimp only at H)
  simp only [Option.some.injEq, Prod.mk.injEq] at H
  obtain ⟨rfl, rfl⟩ := H
  go_enter Try.func38, Try.ntmps38
  go_wp2_with (first | ((with_reducible refine gate_dst (N := 8) rfl ?_); refine uNl 8 23 (Kd.slice 42 (Kd.int .u64)) ([l0, l1] : List (List Int)) [.slice A0 l0.length c0, .slice A1 l1.length c1] (fun k_ => ((P0_ k_ ∨ P1_ k_) ∨ w.heap.size ≤ k_)) rfl rfl ?hp ?hf ?_; (case hp => exact (Reps.one (uFs HO0.out) (Reps.one (uFs HO1.out) (Reps.none _ _)))); (case hf => exact fun k_ hk => (.inr (Nat.le_trans (below_size uB) hk))); intro v196 w7 ho8 hb; (first | rw [← Ny195.out] at ho8 | (simp only [Int.reduceToNat] at ho8; rw [← Ny195.out] at ho8)); replace HO0 := Aside0.mk (Kd.V_elder' (uV HO0.out) (Kd.N_base ho8) hb); replace HO1 := Aside0.mk (Kd.V_elder' (uV HO1.out) (Kd.N_base ho8) hb); have HO197 := Aside0.mk (Kd.N_lower ho8 (below_size uB)); replace HB := uy hb; clear hb ho8; obtain ⟨Ao9, co9, eo9⟩ := Kd.N_slice HO197.out; subst eo9) | ((with_reducible refine ug 62 rfl ?_); refine uh (some 9) rfl Try.func62 #[.slice Ao9 y195.length co9] ?_; (with_reducible refine (nat_right.calls _ _ y195 true _ (uC (Kd.N_reads' HO197.out).2.2) ((Kd.N_reads' HO197.out).2.1) A3.out).mono ?_); rintro e w' ⟨rfl, ⟨nd, rfl⟩⟩; refine ⟨_, rfl, ?_⟩) | ((with_reducible refine ug 66 rfl ?_); refine uh (some 13) rfl Try.func66 #[.slice A0 l0.length c0, .slice A1 l1.length c1] ?_; (with_reducible refine (nat_sum.calls k _ _ l0 _ _ l1 t199 _ (uC (Kd.V_reads' HO0.out).2.2) ((Kd.V_reads' HO0.out).2.1) (uC (Kd.V_reads' HO1.out).2.2) ((Kd.V_reads' HO1.out).2.1) A5.out).mono ?_); rintro e w10 ⟨v200, rfl, ho0, hb⟩; refine ⟨_, rfl, ?_⟩; replace HO0 := ueV HO0 ho0 hb; replace HO1 := ueV HO1 ho0 hb; replace HO197 := ueN HO197 ho0 hb; have HO201 := ulo (Kd.R_newM (M := fun k_ => (w.heap.size ≤ k_)) ho0 (below_size uB) (fun k_ h_ => h_)); replace HB := uy hb; (try clear hb ho0); obtain ⟨Ao11, co11, eo11⟩ := Kd.R_slice HO201.out; subst eo11) | ((with_reducible refine ug 64 rfl ?_); refine uh (some 14) rfl Try.func64 #[.slice Ao11 t199.length co11] ?_; (with_reducible refine (nat_told.calls k (fun k_ => some k_ = (.slice Ao11 t199.length co11 : Value).ownBlock) (.slice Ao11 t199.length co11) t199 t202 t205 w _ ?side1 ?side2 A6.out).mono ?_); (case side1 => repeat (first | (with_reducible first | exact HB.out | apply below_alloc | apply pw_below_drewN | apply below_drew1) | exact HB.out)); (case side2 => exact Kd.R_tight rfl HO201.out); rintro e w12 ⟨v203, rfl, ho0, hb, hkp⟩; refine ⟨_, rfl, ?_⟩; replace HO0 := Aside0.mk (Kd.V_mono (ok' := fun k_ => ((P0_ k_ ∨ P1_ k_) ∨ w.heap.size ≤ k_) ∧ some k_ ≠ (.slice Ao9 y195.length co9 : Value).ownBlock ∧ some k_ ≠ (v203 : Value).ownBlock) (Kd.V_keptB (HO0.out) hkp (fun k_ hk_ hs_ => (hk_.2) hs_)) (fun k_ hk_ => ⟨hk_.1.1.1, hk_.1.1.2, fun e_ => Or.elim (ho0.1 k_ e_.symm) (fun hs_ => hk_.2.1 hs_) (fun hn_ => Nat.not_le.2 hk_.2.2 hn_)⟩)); replace HO1 := Aside0.mk (Kd.V_mono (ok' := fun k_ => ((P0_ k_ ∨ P1_ k_) ∨ w.heap.size ≤ k_) ∧ some k_ ≠ (.slice Ao9 y195.length co9 : Value).ownBlock ∧ some k_ ≠ (v203 : Value).ownBlock) (Kd.V_keptB (HO1.out) hkp (fun k_ hk_ hs_ => (hk_.2) hs_)) (fun k_ hk_ => ⟨hk_.1.1.1, hk_.1.1.2, fun e_ => Or.elim (ho0.1 k_ e_.symm) (fun hs_ => hk_.2.1 hs_) (fun hn_ => Nat.not_le.2 hk_.2.2 hn_)⟩)); replace HO197 := Aside0.mk (Kd.N_mono (ok' := fun k_ => ((P0_ k_ ∨ P1_ k_) ∨ w.heap.size ≤ k_) ∧ some k_ ≠ (v203 : Value).ownBlock) (Kd.N_keptB (HO197.out) hkp (fun k_ hk_ hs_ => (hk_.2) hs_)) (fun k_ hk_ => ⟨hk_.1.1, fun e_ => Or.elim (ho0.1 k_ e_.symm) (fun hs_ => hk_.2.1 hs_) (fun hn_ => Nat.not_le.2 hk_.2.2 hn_)⟩)); have HO204 := Aside0.mk (Kd.R_mono (ok' := fun k_ => (w.heap.size ≤ k_)) ho0 (fun k_ hk_ => Or.elim hk_ (fun hs_ => (HO201.out.1 k_ (hs_).symm).1) (fun hn_ => (Nat.le_trans (below_size uB) hn_)))); replace HB := Aside0.mk (hb); clear HO201; (try clear hb); (try clear hkp); (try clear ho0)))
  go_ret2
  exact ⟨_, uF, uR HO204.out, uB⟩
 replace c4 := Bool.eq_false_iff.mpr c4
 subst c4
 rw [if_neg (show ¬ (false = true) by decide)] at H
 simp only [Option.some.injEq, Prod.mk.injEq] at H
 obtain ⟨rfl, rfl⟩ := H
 go_enter Try.func38, Try.ntmps38
 go_wp2_with (first | ((with_reducible refine gate_dst (N := 8) rfl ?_); refine uNl 8 23 (Kd.slice 42 (Kd.int .u64)) ([l0, l1] : List (List Int)) [.slice A0 l0.length c0, .slice A1 l1.length c1] (fun k_ => ((P0_ k_ ∨ P1_ k_) ∨ w.heap.size ≤ k_)) rfl rfl ?hp ?hf ?_; (case hp => exact (Reps.one (uFs HO0.out) (Reps.one (uFs HO1.out) (Reps.none _ _)))); (case hf => exact fun k_ hk => (.inr (Nat.le_trans (below_size uB) hk))); intro v196 w13 ho14 hb; (first | rw [← Ny195.out] at ho14 | (simp only [Int.reduceToNat] at ho14; rw [← Ny195.out] at ho14)); replace HO0 := Aside0.mk (Kd.V_elder' (uV HO0.out) (Kd.N_base ho14) hb); replace HO1 := Aside0.mk (Kd.V_elder' (uV HO1.out) (Kd.N_base ho14) hb); have HO197 := Aside0.mk (Kd.N_lower ho14 (below_size uB)); replace HB := uy hb; clear hb ho14; obtain ⟨Ao15, co15, eo15⟩ := Kd.N_slice HO197.out; subst eo15) | ((with_reducible refine ug 62 rfl ?_); refine uh (some 9) rfl Try.func62 #[.slice Ao15 y195.length co15] ?_; (with_reducible refine (nat_right.calls _ _ y195 false _ (uC (Kd.N_reads' HO197.out).2.2) ((Kd.N_reads' HO197.out).2.1) A3.out).mono ?_); rintro e w' ⟨rfl, ⟨nd, rfl⟩⟩; refine ⟨_, rfl, ?_⟩))
 go_ret2
 exact ⟨_, uF, uI, uB⟩
mutual
def nat_long.l0 : Nat → Int → List Int → List Int → Int → List Int → Int → Option (List Int × List Int)
 | 0, _, _, _, _, _, _ => none
 | k + 1, x6, x7, x8, x9, x10, x11 => if x11 ≥ 0 then (if 0 ≤ (wrap64 (x11 + x9)) then (if (wrap64 (x11 + x9)) < (x7.length : Int) then (if 0 ≤ (wrap64 ((wrap64 (x11 + x9)) - 1)) then (if (wrap64 ((wrap64 (x11 + x9)) - 1)) < (x7.length : Int) then (if 0 ≤ (wrap64 ((wrap64 (x11 + x9)) - 2)) then (if (wrap64 ((wrap64 (x11 + x9)) - 2)) < (x7.length : Int) then (if 0 ≤ (wrap64 (x9 - 1)) then (if (wrap64 (x9 - 1)) < (x8.length : Int) then (if 0 ≤ (wrap64 (x9 - 2)) then (if (wrap64 (x9 - 2)) < (x8.length : Int) then ((nat_guess.f k (rd x7 (wrap64 (x11 + x9))) (rd x7 (wrap64 ((wrap64 (x11 + x9)) - 1))) (rd x7 (wrap64 ((wrap64 (x11 + x9)) - 2))) (rd x8 (wrap64 (x9 - 1))) (rd x8 (wrap64 (x9 - 2)))).bind fun t318 => (if 0 ≤ x11 then (if x11 ≤ (wrap64 ((wrap64 (x11 + x9)) + 1)) then (if (wrap64 ((wrap64 (x11 + x9)) + 1)) ≤ (x7.length : Int) then (nat_long.l1 k x6 x7 x8 x9 x10 x11 t318 ((x7.take ((wrap64 ((wrap64 (x11 + x9)) + 1)) : Int).toNat).drop (x11 : Int).toNat)) else (none)) else (none)) else (none))) else (none)) else (none)) else (none)) else (none)) else (none)) else (none)) else (none)) else (none)) else (none)) else (none)) else ((nat_trim.f k x7).bind fun t341 => (if 0 ≤ (t341.length : Int) then (if ((t341.length : Int) : Int).toNat ≤ 35184372088832 then (nat_long.l2 k x6 x10 t341 (List.replicate ((t341.length : Int) : Int).toNat 0) (t341.length : Int) 0) else (none)) else (none)))
def nat_long.l1 : Nat → Int → List Int → List Int → Int → List Int → Int → Int → List Int → Option (List Int × List Int)
 | 0, _, _, _, _, _, _, _, _ => none
 | k + 1, x6, x7, x8, x9, x10, x11, x12, x13 => (nat_Of.f k x12).bind fun t323 => ((nat_school.f k x8 t323).bind fun t326 => ((api_Nat_uint64.f x13).bind fun t329 => ((nat_trim.f k t329).bind fun t332 => ((nat_compare.f k t332 t326).bind fun t335 => (if t335 ≥ 0 then ((nat_less.f k x13 t326).bind fun t336 => (if t336.length = x13.length then (if 0 ≤ x11 then (if x11 < (x10.length : Int) then (nat_long.l0 k x6 (x7.take (x11 : Int).toNat ++ (t336 ++ x7.drop ((x11 : Int).toNat + x13.length))) x8 x9 (x10.set (x11 : Int).toNat x12) (wrap64 (x11 - 1))) else (none)) else (none)) else (none))) else (nat_long.l1 k x6 x7 x8 x9 x10 x11 (IntKind.u64.wrap (x12 - 1)) x13))))))
def nat_long.l2 : Nat → Int → List Int → List Int → List Int → Int → Int → Option (List Int × List Int)
 | 0, _, _, _, _, _, _ => none
 | k + 1, x6, x10, x15, x16, x112, x113 => if x113 < x112 then (if 0 ≤ x113 then (if x113 < (x15.length : Int) then (if 0 ≤ x6 then (if x113 < (x16.length : Int) then ((some (x16.set (x113 : Int).toNat (shr .u64 (rd x15 x113) x6) : List Int)).bind fun y348 => (if x6 > 0 then (if (wrap64 (x113 + 1)) < (x15.length : Int) then (if 0 ≤ (wrap64 (x113 + 1)) then (if 0 ≤ (IntKind.u64.wrap (64 - x6)) then (nat_long.l2 k x6 x10 x15 (y348.set (x113 : Int).toNat (Go.bits .or .u64 (rd y348 x113) (shl .u64 (rd x15 (wrap64 (x113 + 1))) (IntKind.u64.wrap (64 - x6))))) x112 (wrap64 (x113 + 1))) else (none)) else (none)) else (nat_long.l2 k x6 x10 x15 y348 x112 (wrap64 (x113 + 1)))) else (nat_long.l2 k x6 x10 x15 y348 x112 (wrap64 (x113 + 1))))) else (none)) else (none)) else (none)) else (none)) else ((nat_trim.f k x10).bind fun t352 => ((nat_trim.f k x16).bind fun t355 => (some (t352, t355))))
end
def nat_long.f (k : Nat) (l0 : List Int) (l1 : List Int) : Option (List Int × List Int) := if 0 ≤ (wrap64 ((l1.length : Int) - 1)) then (if (wrap64 ((l1.length : Int) - 1)) < (l1.length : Int) then ((bits_LeadingZeros64.f k (rd l1 (wrap64 ((l1.length : Int) - 1)))).bind fun t300 => ((nat_up.f k l0 (IntKind.u64.wrap (t300))).bind fun t301 => ((nat_up.f k l1 (IntKind.u64.wrap (t300))).bind fun t304 => ((nat_trim.f k t304).bind fun t307 => (if 0 ≤ (wrap64 ((t301.length : Int) - (t307.length : Int))) then (if (wrap64 ((t301.length : Int) - (t307.length : Int)) : Int).toNat ≤ 35184372088832 then ((some (List.replicate (wrap64 ((t301.length : Int) - (t307.length : Int)) : Int).toNat 0 : List Int)).bind fun y310 => (nat_long.l0 k (IntKind.u64.wrap (t300)) t301 t307 (t307.length : Int) y310 (wrap64 ((y310.length : Int) - 1)))) else (none)) else (none)))))) else (none)) else (none)
def nat_long.T8 : Bool × List (List Nat × List Nat) := (true, [([], []), ([], []), ([], []), ([1, 2], [1, 2]), ([0, 3], [0, 3]), ([4], [4]), ([], []), ([], []), ([], []), ([7, 8], [7, 8]), ([9], [9]), ([6, 10], [6, 10]), ([11], [11]), ([], []), ([], []), ([], []), ([14, 15], [14, 15]), ([16], [16]), ([13, 17], [13, 17]), ([18], [18]), ([], []), ([], []), ([21], [21]), ([20, 22], [20, 22]), ([23], [23]), ([], []), ([], []), ([26], [26]), ([25, 27], [25, 27]), ([28], [28]), ([5, 12, 19, 24, 29], [5, 12, 19, 24, 29]), ([30, 30, 0, 1, 2, 3, 4, 5, 6, 7, 8, 9, 10, 11, 12, 13, 14, 15, 16, 17, 18, 19, 20, 21, 22, 23, 24, 25, 26, 27, 28, 29, 30], [30])])
def nat_long.B8 : List Nat := [0, 0, 0, 6, 15, 31, 0, 0, 0, 384, 896, 1984, 4032, 0, 0, 0, 49152, 114688, 253952, 516096, 0, 0, 2097152, 7340032, 15728640, 0, 0, 67108864, 234881024, 503316480, 1073741823, 2147483647]
theorem nat_long.tab8 : rtab .any (opsOf Try.f71 8) = nat_long.T8 := by kernel_rfl
theorem nat_long.bits8 : waitsOk nat_long.T8.2 nat_long.B8 = true := by kernel_rfl
def nat_long.T22 : Bool × List (List Nat × List Nat) := (true, [([], []), ([], []), ([0, 1], [0, 1]), ([2], [2]), ([], []), ([], []), ([5], [5]), ([4, 6], [4, 6]), ([7], [7]), ([], []), ([9], [9]), ([8, 10], [8, 10]), ([3, 11], [3, 11]), ([0, 1, 0, 1, 2, 3, 4, 5, 6, 7, 8, 9, 10, 11, 12], [0, 1]), ([13, 12, 0, 1, 2, 3, 4, 5, 6, 7, 8, 9, 10, 11, 12], [12, 13])])
def nat_long.B22 : List Nat := [0, 0, 3, 7, 0, 0, 32, 112, 240, 0, 512, 2032, 4095, 8191, 16383]
theorem nat_long.tab22 : rtab .any (opsOf Try.f71 22) = nat_long.T22 := by kernel_rfl
theorem nat_long.bits22 : waitsOk nat_long.T22.2 nat_long.B22 = true := by kernel_rfl
theorem nat_long.calls (k : Nat) (A0 : Option Addr) (c0 : Nat) (l0 : List Int) (A1 : Option Addr) (c1 : Nat) (l1 : List Int) (r1 : List Int) (r2 : List Int) (w : World) (hr0 : Kd.C (Kd.int .u64) w A0 l0.length l0) (hc0 : l0.length ≤ c0) (hr1 : Kd.C (Kd.int .u64) w A1 l1.length l1) (hc1 : l1.length ≤ c1) (h : nat_long.f k l0 l1 = some (r1, r2)) :
  Calls Try.prog 71 #[.slice A0 l0.length c0, .slice A1 l1.length c1] w fun e w' => ∃ v0_ v1_ : Value, e = .returned (.tuple #[v0_, v1_]) ∧ Kd.R (Kd.int .u64) 42 w' w.heap.size (fun k_ => some k_ ≠ (v1_ : Value).ownBlock) v0_ r1 ∧ Kd.R (Kd.int .u64) 42 w' w.heap.size (fun k_ => some k_ ≠ (v0_ : Value).ownBlock) v1_ r2 ∧ Below w.heap.size w w' := by
 have HR0 := Aside0.mk hr0; have HC0 := Aside0.mk hc0; clear hr0 hc0; have HR1 := Aside0.mk hr1; have HC1 := Aside0.mk hc1; clear hr1 hc1
 have HB := Aside0.mk (Below.refl w.heap.size w)
 have H : (if 0 ≤ (wrap64 ((l1.length : Int) - 1)) then (if (wrap64 ((l1.length : Int) - 1)) < (l1.length : Int) then ((bits_LeadingZeros64.f k (rd l1 (wrap64 ((l1.length : Int) - 1)))).bind fun t300 => ((nat_up.f k l0 (IntKind.u64.wrap (t300))).bind fun t301 => ((nat_up.f k l1 (IntKind.u64.wrap (t300))).bind fun t304 => ((nat_trim.f k t304).bind fun t307 => (if 0 ≤ (wrap64 ((t301.length : Int) - (t307.length : Int))) then (if (wrap64 ((t301.length : Int) - (t307.length : Int)) : Int).toNat ≤ 35184372088832 then ((some (List.replicate (wrap64 ((t301.length : Int) - (t307.length : Int)) : Int).toNat 0 : List Int)).bind fun y310 => (nat_long.l0 k (IntKind.u64.wrap (t300)) t301 t307 (t307.length : Int) y310 (wrap64 ((y310.length : Int) - 1)))) else (none)) else (none)))))) else (none)) else (none)) = some (r1, r2) := h
 clear h
 obtain ⟨ji3, hji3, hji3w⟩ := uj ((l1.length : Int) - 1)
 first | rw [hji3] at H | simp only [hji3] at H
 replace ⟨c4b0, H⟩ := uTd H
 replace ⟨c5b0, H⟩ := uTd H
 replace ⟨t300, A6, H⟩ := ub H
 replace ⟨t301, A7, H⟩ := ub H
 replace ⟨t304, A8, H⟩ := ub H
 replace ⟨t307, A9, H⟩ := ub H
 obtain ⟨ji10, hji10, hji10w⟩ := uj ((t301.length : Int) - (t307.length : Int))
 first | rw [hji10] at H | simp only [hji10] at H
 (try rw [hji10] at A6)
 (try rw [hji10] at A7)
 (try rw [hji10] at A8)
 (try rw [hji10] at A9)
 replace ⟨c11b0, c11b1, H⟩ := uTe H
 replace ⟨c12b0, c12b1, H⟩ := uTe H
 replace ⟨y310, hy310, H⟩ := ubs H
 have Ny310 := Aside0.mk hy310; clear hy310
 have H' := Aside0.mk H
 clear H
 have p299 := eq_true (uO : 0 ≤ ((ji3) : Int))
 have q299 := eq_true (uO : (ji3) < (l1.length : Int))
 obtain ⟨ad299, e299, hx299_0⟩ := Kd.at_int HR1.out (ji3) uO uO
 cases e299
 go_enter Try.func71, Try.ntmps71
 go_wp2_with (first | ((with_reducible refine ug 88 rfl ?_); refine goesL_ (some 24) rfl rfl Try.func88 (by kernel_rfl) rfl #[.int .u64 (rd l1 (ji3))] rfl (by (try simp only [List.map_toArray, List.map_cons, List.map_nil]); first | done | (simp only [hji3]; rfl) | rfl | (simp only [List.length_drop, List.length_take]; rfl)) ?_; (with_reducible refine (bits_LeadingZeros64.calls k (rd l1 (ji3)) t300 _ A6.out).mono ?_); rintro e w' ⟨rfl, ⟨nd, rfl⟩⟩; refine ⟨_, rfl, ?_⟩) | ((with_reducible refine ug 73 rfl ?_); refine uh (some 28) rfl Try.func73 #[.slice A0 l0.length c0, .int .u64 (IntKind.u64.wrap (t300))] ?_; (with_reducible refine (nat_up.calls k _ _ l0 (IntKind.u64.wrap (t300)) t301 _ (uC HR0.out) HC0.out A7.out).mono ?_); rintro e w13 ⟨v302, rfl, ho0, hb⟩; refine ⟨_, rfl, ?_⟩; have HO303 := ulo ho0; replace HB := uy hb; (try clear hb ho0)) | ((with_reducible refine ug 73 rfl ?_); refine uh (some 31) rfl Try.func73 #[.slice (some ad299) l1.length c1, .int .u64 (IntKind.u64.wrap (t300))] ?_; (with_reducible refine (nat_up.calls k _ _ l1 (IntKind.u64.wrap (t300)) t304 _ (uC (Kd.C_below HR1.out HB.out)) HC1.out A8.out).mono ?_); rintro e w14 ⟨v305, rfl, ho0, hb⟩; refine ⟨_, rfl, ?_⟩; have HO306 := ulo (unw ho0 HO303); replace HO303 := ueR HO303 ho0 hb; replace HB := uy hb; (try clear hb ho0); obtain ⟨Ao15, co15, eo15⟩ := Kd.R_slice HO306.out; subst eo15) | ((with_reducible refine ug 72 rfl ?_); refine uh (some 32) rfl Try.func72 #[.slice Ao15 t304.length co15] ?_; (with_reducible refine (nat_trim.calls k (fun k_ => some k_ = (.slice Ao15 t304.length co15 : Value).ownBlock) (.slice Ao15 t304.length co15) t304 t307 w _ ?side1 ?side2 A9.out).mono ?_); (case side1 => repeat (first | (with_reducible first | exact HB.out | apply below_alloc | apply pw_below_drewN | apply below_drew1) | exact HB.out)); (case side2 => exact Kd.R_tight rfl HO306.out); rintro e w16 ⟨v308, rfl, ho0, hb, hkp⟩; refine ⟨_, rfl, ?_⟩; have HO309 := Aside0.mk (Kd.R_mono (ok' := fun k_ => some k_ ≠ (v302 : Value).ownBlock) ho0 (fun k_ hk_ => Or.elim hk_ (fun hs_ => fun e_ => (((HO303.out).1 k_ e_.symm).2) hs_) (fun hn_ => (Kd.fresh' (Kd.R_lt (uR HO303.out)) k_ hn_)))); replace HO303 := Aside0.mk (Kd.R_mono (ok' := fun k_ => some k_ ≠ (v308 : Value).ownBlock) (Kd.R_keptB (HO303.out) hkp (fun k_ hk_ hs_ => (hk_.2) hs_)) (fun k_ hk_ => fun e_ => Or.elim (ho0.1 k_ e_.symm) (fun hs_ => hk_.2.1 hs_) (fun hn_ => Nat.not_le.2 hk_.2.2 hn_))); replace HB := Aside0.mk (hb); clear HO306; (try clear hb); (try clear hkp); (try clear ho0); obtain ⟨Ao17, co17, eo17⟩ := Kd.R_slice HO309.out; subst eo17; obtain ⟨Ao18, co18, eo18⟩ := Kd.R_slice HO303.out; subst eo18) | ((with_reducible refine gate_dst (N := 39) rfl ?_); (try (refine gate_guard (by rfl) ?_; dsimp only)); refine Kd.R_make (Kd.int .u64) _ 42 rfl (N := 39) rfl 23 _ _ rfl ji10 rfl rfl Try.underlying23 (.int .u64 0) 8 info42 rfl (by decide) (by omega) 0 (ok := fun _ => True) (okp := fun _ => True) rfl (fun _ hk => hk) trivial uO (Nat.le_trans (Nat.mul_le_mul_right _ (uO : ji10.toNat ≤ 35184372088832)) (by omega)) (Below.refl _ _) (Nat.le_refl _) ?_; intro v311 w19 ho20 hb hg_ hnew_; clear hg_ hnew_; (first | rw [← Ny310.out] at ho20 | (simp only [Int.reduceToNat] at ho20; rw [← Ny310.out] at ho20)); have HO312 := ulo (unw (unw ho20 HO303) HO309); replace HO303 := ueR HO303 ho20 hb; replace HO309 := ueR HO309 ho20 hb; replace HB := uy hb; clear hb ho20; obtain ⟨Ao21, co21, eo21⟩ := Kd.R_slice HO312.out; subst eo21))
 go_loopg [11] k (fun kq v11 w' => ∃ (x7_1 : List Int) (x10_1 : List Int) (x11_1 : Int), v11 = .int .i64 x11_1 ∧ Aside0 (nat_long.l0 kq (IntKind.u64.wrap (t300)) x7_1 t307 (t307.length : Int) x10_1 x11_1 = some (r1, r2)) ∧ Aside0 (kq ≤ k) ∧ Aside0 (Kd.R (Kd.int .u64) 42 w' w.heap.size (fun k_ => some k_ ≠ ((.slice Ao17 t307.length co17) : Value).ownBlock ∧ some k_ ≠ ((.slice Ao21 y310.length co21) : Value).ownBlock) (.slice Ao18 t301.length co18) x7_1) ∧ Aside0 (Kd.R (Kd.int .u64) 42 w' w.heap.size (fun k_ => some k_ ≠ ((.slice Ao18 t301.length co18) : Value).ownBlock ∧ some k_ ≠ ((.slice Ao21 y310.length co21) : Value).ownBlock) (.slice Ao17 t307.length co17) t307) ∧ Aside0 (Kd.R (Kd.int .u64) 42 w' w.heap.size (fun k_ => some k_ ≠ ((.slice Ao18 t301.length co18) : Value).ownBlock ∧ some k_ ≠ ((.slice Ao17 t307.length co17) : Value).ownBlock) (.slice Ao21 y310.length co21) x10_1) ∧ Aside0 (Below w.heap.size w w'))
 case atStart => exact ⟨(t301), (y310), (wrap64 ((y310.length : Int) - 1)), uG, H', ⟨Nat.le_refl _⟩, ⟨uR HO303.out⟩, ⟨uR HO309.out⟩, ⟨by exact uR (Kd.R_mono HO312.out (fun _ hk => ⟨hk.1.2, hk.2⟩))⟩, ⟨uB⟩⟩
 case round =>
  clear H'
  ; (try clear q2); (try clear hx2); (try clear hx299_0); (try clear q299)
  obtain ⟨x7_1, x10_1, x11_1, rfl, HA, HK1, HO_7, HO_8, HO_10, HB⟩ := hrel
  have hl7_1 := (Kd.R_reads' HO_7.out).1
  rw [hl7_1] at HO_7
  (try simp only [hl7_1])
  (try simp only [hl7_1] at HO_8)
  (try simp only [hl7_1] at HO_10)
  have hl10_1 := (Kd.R_reads' HO_10.out).1
  rw [hl10_1] at HO_10
  (try simp only [hl10_1])
  (try simp only [hl10_1] at HO_7)
  (try simp only [hl10_1] at HO_8)
  cases gk with
  | zero => exact absurd HA.out (by simp [nat_long.l0])
  | succ k1 =>
   have H := HA.out
   clear HA
   simp only [nat_long.l0] at H
   by_cases c22 : x11_1 ≥ 0
   ·
    rw [if_pos c22] at H
    have c22b0 := decide_eq_true c22
    clear c22
    obtain ⟨ji23, hji23, hji23w⟩ := uj (x11_1 + (t307.length : Int))
    first | rw [hji23] at H | simp only [hji23] at H
    replace ⟨c24b0, H⟩ := uTd H
    replace ⟨c25b0, H⟩ := uTd H
    (try (have c25b0h0 := c25b0; simp only [hl7_1] at c25b0h0))
    (try (have c25b0h1 := c25b0; simp only [hl10_1] at c25b0h1))
    obtain ⟨ji26, hji26, hji26w⟩ := uj ((ji23) - 1)
    first | rw [hji26] at H | simp only [hji26] at H
    replace ⟨c27b0, H⟩ := uTd H
    replace ⟨c28b0, H⟩ := uTd H
    (try (have c28b0h0 := c28b0; simp only [hl7_1] at c28b0h0))
    (try (have c28b0h1 := c28b0; simp only [hl10_1] at c28b0h1))
    obtain ⟨ji29, hji29, hji29w⟩ := uj ((ji23) - 2)
    first | rw [hji29] at H | simp only [hji29] at H
    replace ⟨c30b0, H⟩ := uTd H
    replace ⟨c31b0, H⟩ := uTd H
    (try (have c31b0h0 := c31b0; simp only [hl7_1] at c31b0h0))
    (try (have c31b0h1 := c31b0; simp only [hl10_1] at c31b0h1))
    obtain ⟨ji32, hji32, hji32w⟩ := uj ((t307.length : Int) - 1)
    first | rw [hji32] at H | simp only [hji32] at H
    replace ⟨c33b0, H⟩ := uTd H
    replace ⟨c34b0, H⟩ := uTd H
    (try (have c34b0h0 := c34b0; simp only [hl7_1] at c34b0h0))
    (try (have c34b0h1 := c34b0; simp only [hl10_1] at c34b0h1))
    obtain ⟨ji35, hji35, hji35w⟩ := uj ((t307.length : Int) - 2)
    first | rw [hji35] at H | simp only [hji35] at H
    replace ⟨c36b0, H⟩ := uTd H
    replace ⟨c37b0, H⟩ := uTd H
    (try (have c37b0h0 := c37b0; simp only [hl7_1] at c37b0h0))
    (try (have c37b0h1 := c37b0; simp only [hl10_1] at c37b0h1))
    replace ⟨t318, A38, H⟩ := ub H
    replace ⟨c39b0, c39b1, H⟩ := uTe H
    replace ⟨c40, H⟩ := uT H
    have c40b0 := eq_true c40
    have c40b1 := decide_eq_true c40
    replace ⟨c41, H⟩ := uT H
    have c41b0 := eq_true c41
    have c41b1 := decide_eq_true c41
    generalize hy319 : (((x7_1.take ((wrap64 ((ji23) + 1)) : Int).toNat).drop (x11_1 : Int).toNat) : List Int) = y319 at H
    have Ny319 := Aside0.mk hy319.symm; clear hy319
    have H' := Aside0.mk H
    clear H
    try go_wp2
    replace HO_7 := Aside0.mk (Kd.R_drew HO_7.out); replace HO_8 := Aside0.mk (Kd.R_drew HO_8.out); replace HO_10 := Aside0.mk (Kd.R_drew HO_10.out); replace HB := Aside0.mk (below_drew1 HB.out)
    have p313 := eq_true (uO : 0 ≤ ((ji23) : Int))
    have q313 := eq_true (uO : (ji23) < (x7_1.length : Int))
    obtain ⟨ad313, e313, hx313_0⟩ := Kd.at_int (Kd.R_reads' HO_7.out).2.2 (ji23) uO uO
    cases e313
    have p314 : 0 ≤ ((ji26) : Int) := uO
    have q314 : (ji26) < (x7_1.length : Int) := uO
    obtain ⟨ad314, e314, hx314_0⟩ := Kd.at_int (Kd.R_reads' HO_7.out).2.2 (ji26) p314 q314
    obtain rfl : ad313 = ad314 := (by injection e314)
    replace p314 := eq_true p314
    replace q314 := eq_true q314
    have p315 : 0 ≤ ((ji29) : Int) := uO
    have q315 : (ji29) < (x7_1.length : Int) := uO
    obtain ⟨ad315, e315, hx315_0⟩ := Kd.at_int (Kd.R_reads' HO_7.out).2.2 (ji29) p315 q315
    obtain rfl : ad313 = ad315 := (by injection e315)
    replace p315 := eq_true p315
    replace q315 := eq_true q315
    have p316 := eq_true (uO : 0 ≤ ((ji32) : Int))
    have q316 := eq_true (uO : (ji32) < (t307.length : Int))
    obtain ⟨ad316, e316, hx316_0⟩ := Kd.at_int (Kd.R_reads' HO_8.out).2.2 (ji32) uO uO
    cases e316
    have p317 : 0 ≤ ((ji35) : Int) := uO
    have q317 : (ji35) < (t307.length : Int) := uO
    obtain ⟨ad317, e317, hx317_0⟩ := Kd.at_int (Kd.R_reads' HO_8.out).2.2 (ji35) p317 q317
    obtain rfl : ad316 = ad317 := (by injection e317)
    replace p317 := eq_true p317
    replace q317 := eq_true q317
    refine start_ (n := 32) (S := fun w' => w'.cell? (ad313.add ((ji23)).toNat) = some (.int .u64 (rd x7_1 (ji23))) ∧ w'.cell? (ad313.add ((ji26)).toNat) = some (.int .u64 (rd x7_1 (ji26))) ∧ w'.cell? (ad313.add ((ji29)).toNat) = some (.int .u64 (rd x7_1 (ji29))) ∧ w'.cell? (ad316.add ((ji32)).toNat) = some (.int .u64 (rd t307 (ji32))) ∧ w'.cell? (ad316.add ((ji35)).toNat) = some (.int .u64 (rd t307 (ji35)))) (ds := []) (.replicate 32 false) (by kernel_rfl) rfl rfl ⟨hx313_0, hx314_0, hx315_0, hx316_0, hx317_0⟩ (fun hHeld => ?_); refine with_tabW nat_long.tab8 nat_long.bits8 (fun HT_ HW_ => ?_)
    generalize wr.drew = w42 at HO_7 HO_8 HO_10 HB hx313_0 hx314_0 hx315_0 hx316_0 hx317_0 hHeld ⊢
    refine upu 0 (some 47) (uA 32 1) rfl rfl HT_ ?_
    refine upu 1 (some 48) (uA 32 3) rfl rfl HT_ ?_
    refine upu 2 (some 49) (uA 32 7) rfl rfl HT_ ?_
    refine upu 3 (some 50) (uA 32 15) rfl rfl HT_ ?_
    refine upu 4 (some 51) (uA 32 31) rfl rfl HT_ ?_
    refine upu 6 (some 53) (uA 32 95) rfl rfl HT_ ?_
    refine upu 7 (some 54) (uA 32 223) rfl rfl HT_ ?_
    refine upu 8 (some 55) (uA 32 479) rfl rfl HT_ ?_
    refine upu 9 (some 56) (uA 32 991) rfl rfl HT_ ?_
    refine upu 10 (some 57) (uA 32 2015) rfl rfl HT_ ?_
    refine upu 11 (some 58) (uA 32 4063) rfl rfl HT_ ?_
    refine upu 13 (some 60) (uA 32 12255) rfl rfl HT_ ?_
    refine upu 14 (some 61) (uA 32 28639) rfl rfl HT_ ?_
    refine upu 15 (some 62) (uA 32 61407) rfl rfl HT_ ?_
    refine upu 16 (some 63) (uA 32 126943) rfl rfl HT_ ?_
    refine upu 17 (some 64) (uA 32 258015) rfl rfl HT_ ?_
    refine upu 18 (some 65) (uA 32 520159) rfl rfl HT_ ?_
    refine upu 20 (some 67) (uA 32 1568735) rfl rfl HT_ ?_
    refine upu 21 (some 68) (uA 32 3665887) rfl rfl HT_ ?_
    refine upu 22 (some 69) (uA 32 7860191) rfl rfl HT_ ?_
    refine upu 23 (some 70) (uA 32 16248799) rfl rfl HT_ ?_
    refine upu 25 (some 72) (uA 32 49803231) rfl rfl HT_ ?_
    refine upu 26 (some 73) (uA 32 116912095) rfl rfl HT_ ?_
    refine upu 27 (some 74) (uA 32 251129823) rfl rfl HT_ ?_
    refine upu 28 (some 75) (uA 32 519565279) rfl rfl HT_ ?_
    refine take_ (i := 5) (N := some 52) (v := ?_) (a' := ?_) (uA 32 519565311) rfl rfl (take_ofW HT_.out HW_.out (by kernel_rfl)) (fun _ _ _ h => h) (Or.inl ⟨by rfl, ?_⟩) hHeld ?_ ?_
    rotate_left
    ·
     rintro w' ⟨s0, s1, s2, s3, s4⟩
     go_simp
     with_reducible rfl
    rotate_left
    · exact uQ
    refine take_ (i := 12) (N := some 59) (v := ?_) (a' := ?_) (uA 32 519569407) rfl rfl (take_ofW HT_.out HW_.out (by kernel_rfl)) (fun _ _ _ h => h) (Or.inl ⟨by rfl, ?_⟩) hHeld ?_ ?_
    rotate_left
    ·
     rintro w' ⟨s0, s1, s2, s3, s4⟩
     go_simp
     with_reducible rfl
    rotate_left
    · exact uQ
    refine take_ (i := 19) (N := some 66) (v := ?_) (a' := ?_) (uA 32 520093695) rfl rfl (take_ofW HT_.out HW_.out (by kernel_rfl)) (fun _ _ _ h => h) (Or.inl ⟨by rfl, ?_⟩) hHeld ?_ ?_
    rotate_left
    ·
     rintro w' ⟨s0, s1, s2, s3, s4⟩
     go_simp
     with_reducible rfl
    rotate_left
    · exact uQ
    refine take_ (i := 24) (N := some 71) (v := ?_) (a' := ?_) (uA 32 536870911) rfl rfl (take_ofW HT_.out HW_.out (by kernel_rfl)) (fun _ _ _ h => h) (Or.inl ⟨by rfl, ?_⟩) hHeld ?_ ?_
    rotate_left
    ·
     rintro w' ⟨s0, s1, s2, s3, s4⟩
     go_simp
     with_reducible rfl
    rotate_left
    · exact uQ
    refine take_ (i := 29) (N := some 76) (v := ?_) (a' := ?_) (uA 32 1073741823) rfl rfl (take_ofW HT_.out HW_.out (by kernel_rfl)) (fun _ _ _ h => h) (Or.inl ⟨by rfl, ?_⟩) hHeld ?_ ?_
    rotate_left
    ·
     rintro w' ⟨s0, s1, s2, s3, s4⟩
     go_simp
     with_reducible rfl
    rotate_left
    · exact uQ
    refine one_ (i := 30) (N := some 77) (uA 32 2147483647) rfl rfl (one_of HT_.out (by kernel_rfl)) (by decide) (fun K hK => ?_)
    refine goes_ Try.func89 (by kernel_rfl) rfl #[.int .u64 (rd x7_1 (ji23)), .int .u64 (rd x7_1 (ji26)), .int .u64 (rd x7_1 (ji29)), .int .u64 (rd t307 (ji32)), .int .u64 (rd t307 (ji35))] (by rfl) rfl rfl (by (try simp only [List.map_toArray, List.map_cons, List.map_nil]); first | done | (simp only [hji23, hji26, hji29, hji32, hji35]; rfl) | rfl | (simp only [List.length_drop, List.length_take]; rfl)) ?_
    with_reducible refine (nat_guess.calls k1 (rd x7_1 (ji23)) (rd x7_1 (ji26)) (rd x7_1 (ji29)) (rd t307 (ji32)) (rd t307 (ji35)) t318 _ A38.out).mono ?_
    rintro e w' ⟨rfl, ⟨nd, rfl⟩⟩
    refine ⟨_, rfl, ?_⟩; refine hK.out _ _ ⟨hHeld.1, hHeld.2.1, hHeld.2.2.1, hHeld.2.2.2.1, hHeld.2.2.2.2⟩ (fun hHeld => ?_); clear hK K; refine norm_ (a' := ?_) ?_ ?_; rotate_left
    · exact (show Act.put _ (some 77) _ = _ from uQ)
    refine upu 31 (some 12) (uA 32 4294967295) rfl rfl HT_ ?_
    refine done_ (done_of HT_.out (by kernel_rfl)) ?_
    have q43 : ((wrap64 ((ji23) + 1)) : Int) ≤ ((x7_1.length : Int) : Int) := uO
    obtain ⟨i043, hi043, _, hsz43, _⟩ := info_parts info42
    have hroom43 : x7_1.length ≤ co18 := (Kd.R_reads' HO_7.out).2.1
    have hC43 : Kd.C (Kd.int .u64) _ (some ad313) x7_1.length x7_1 := (Kd.R_reads' HO_7.out).2.2
    have ql43 : (x11_1 : Int) ≤ ((wrap64 ((ji23) + 1)) : Int) := uO
    have q043 : (0 : Int) ≤ (x11_1 : Int) := uO
    have hcut43 := cut_mid (P := Try.prog) 23 42 .i64 .i64 Try.underlying23 hi043 1 hsz43 (some ad313) x7_1.length co18 x11_1 (wrap64 ((ji23) + 1)) q043 ql43 q43 hroom43
    have hr43 := Kd.C_mid (lo := (x11_1 : Int).toNat) (hi := ((wrap64 ((ji23) + 1)) : Int).toNat) (c := co18) hC43 (by omega) (by omega) hroom43
    obtain ⟨A43, hA43⟩ : ∃ A1, A1 = (if co18 = (x11_1 : Int).toNat then (some ad313) else ((some ad313) : Option Addr).map (·.add ((x11_1 : Int).toNat * 1))) := ⟨_, rfl⟩
    obtain ⟨c43, hc43⟩ : ∃ c1, c1 = co18 - (x11_1 : Int).toNat := ⟨_, rfl⟩
    have hy43 : y319.length = ((wrap64 ((ji23) + 1)) : Int).toNat - (x11_1 : Int).toNat := (by rw [Ny319.out, List.length_drop, List.length_take] <;> omega)
    rw [show ((x7_1).take ((wrap64 ((ji23) + 1)) : Int).toNat).drop (x11_1 : Int).toNat = y319 from Ny319.out.symm] at hr43
    replace hr43 : Kd.C (Kd.int .u64) _ A43 y319.length y319 := (by rw [hA43]; exact hr43)
    rw [← hy43, ← hA43, ← hc43] at hcut43
    have HR322 := Aside0.mk hr43
    have HC322 := Aside0.mk (show y319.length ≤ c43 from by rw [hy43, hc43]; exact Nat.sub_le_sub_right (Nat.le_trans (by omega) hroom43) _)
    clear hr43 hC43 hroom43 hi043 hsz43 hc43; have KY43 := Aside0.mk hy43; have KA43 := Aside0.mk hA43; clear hy43 hA43
    have KL43 := Aside0.mk (show ((wrap64 ((ji23) + 1)) : Int).toNat ≤ x7_1.length from by omega)
    have KM43 := Aside0.mk (show (x11_1 : Int).toNat ≤ ((wrap64 ((ji23) + 1)) : Int).toNat from by omega)
    replace q43 := eq_true q43
    try go_wp2
    go_loopg [12] k1 (fun kq v12 w' => ∃ (x12_2 : Int), v12 = .int .u64 x12_2 ∧ Aside0 (nat_long.l1 kq (IntKind.u64.wrap (t300)) x7_1 t307 (t307.length : Int) x10_1 x11_1 x12_2 y319 = some (r1, r2)) ∧ Aside0 (kq ≤ k1) ∧ Aside0 (Kd.R (Kd.int .u64) 42 w' w.heap.size (fun k_ => some k_ ≠ ((.slice (some ad316) t307.length co17) : Value).ownBlock ∧ some k_ ≠ ((.slice Ao21 x10_1.length co21) : Value).ownBlock) (.slice (some ad313) x7_1.length co18) x7_1) ∧ Aside0 (Kd.R (Kd.int .u64) 42 w' w.heap.size (fun k_ => some k_ ≠ ((.slice (some ad313) x7_1.length co18) : Value).ownBlock ∧ some k_ ≠ ((.slice Ao21 x10_1.length co21) : Value).ownBlock) (.slice (some ad316) t307.length co17) t307) ∧ Aside0 (Kd.R (Kd.int .u64) 42 w' w.heap.size (fun k_ => some k_ ≠ ((.slice (some ad313) x7_1.length co18) : Value).ownBlock ∧ some k_ ≠ ((.slice (some ad316) t307.length co17) : Value).ownBlock) (.slice Ao21 x10_1.length co21) x10_1) ∧ Aside0 (Kd.C (Kd.int .u64) w' A43 y319.length y319) ∧ Aside0 (Below w.heap.size w w'))
    case atStart => exact ⟨(t318), uG, H', ⟨Nat.le_refl _⟩, ⟨by (try simp only [hl7_1]); (try simp only [hl10_1]); exact uR HO_7.out⟩, ⟨by (try simp only [hl7_1]); (try simp only [hl10_1]); exact uR HO_8.out⟩, ⟨by (try simp only [hl7_1]); (try simp only [hl10_1]); exact uR HO_10.out⟩, ⟨by repeat (first | (with_reducible exact HR322.out) | (with_reducible refine Kd.C_alloc ?_ _) | (with_reducible refine Kd.C_drewN ?_ _) | (with_reducible refine Kd.C_drew ?_) | exact HR322.out)⟩, ⟨uB⟩⟩
    case round =>
     clear H'
     ; (try clear q2 q2); (try clear hx2); (try clear q3); (try clear hx3); (try clear q4); (try clear q29); (try clear hx29); (try clear q31); (try clear hx31); (try clear q43 q43); (try clear hx299_0); (try clear hx313_0); (try clear hx314_0); (try clear hx315_0); (try clear hx316_0); (try clear hx317_0); (try clear q043); (try clear q299); (try clear q313); (try clear q314); (try clear q315); (try clear q316); (try clear q317)
     obtain ⟨x12_2, rfl, HA, HK2, HO_7, HO_8, HO_10, HR322, HB⟩ := hrel
     cases gk with
     | zero => exact absurd HA.out (by simp [nat_long.l1])
     | succ k2 =>
      have H := HA.out
      clear HA
      simp only [nat_long.l1] at H
      replace ⟨t323, A44, H⟩ := ub H
      replace ⟨t326, A45, H⟩ := ub H
      replace ⟨t329, A46, H⟩ := ub H
      replace ⟨t332, A47, H⟩ := ub H
      replace ⟨t335, A48, H⟩ := ub H
      by_cases c49 : t335 ≥ 0
      ·
       rw [if_pos c49] at H
       have c49b0 := decide_eq_true c49
       clear c49
       replace ⟨t336, A50, H⟩ := ub H
       replace ⟨c51b0, c51b1, H⟩ := uTe H
       generalize hy339 : ((x7_1.take (x11_1 : Int).toNat ++ (t336 ++ x7_1.drop ((x11_1 : Int).toNat + y319.length))) : List Int) = y339 at H
       have Ny339 := Aside0.mk hy339.symm; clear hy339
       replace ⟨c52b0, H⟩ := uTd H
       replace ⟨c53b0, H⟩ := uTd H
       (try (have c53b0h0 := c53b0; simp only [hl7_1] at c53b0h0))
       (try (have c53b0h1 := c53b0; simp only [hl10_1] at c53b0h1))
       generalize hy340 : ((x10_1.set (x11_1 : Int).toNat x12_2) : List Int) = y340 at H
       have Ny340 := Aside0.mk hy340.symm; clear hy340
       have H' := Aside0.mk H
       clear H
       go_wp2_with (first | ((with_reducible refine ug 44 rfl ?_); refine uh (some 87) rfl Try.func44 #[.int .u64 x12_2] ?_; (with_reducible refine (nat_Of.calls k2 x12_2 t323 _ A44.out).mono ?_); rintro e w55 ⟨v324, rfl, ho0, hb⟩; refine ⟨_, rfl, ?_⟩; have HO325 := ulo (unw (unw (unw ho0 HO_7) HO_8) HO_10); replace HO_7 := ueR HO_7 ho0 hb; replace HO_8 := ueR HO_8 ho0 hb; replace HO_10 := ueR HO_10 ho0 hb; replace HR322 := Aside0.mk (Kd.C_below (by repeat (first | (with_reducible exact HR322.out) | (with_reducible refine Kd.C_alloc ?_ _) | (with_reducible refine Kd.C_drewN ?_ _) | (with_reducible refine Kd.C_drew ?_) | exact HR322.out)) hb); replace HB := uy hb; (try clear hb); (try clear hb2); (try clear hk); (try clear hi); (try clear ho0); obtain ⟨Ao56, co56, eo56⟩ := Kd.R_slice HO325.out; subst eo56) | ((with_reducible refine ug 90 rfl ?_); refine uh (some 88) rfl Try.func90 #[.slice (some ad316) t307.length co17, .slice Ao56 t323.length co56] ?_; (with_reducible refine (nat_school.calls k2 _ _ t307 _ _ t323 t326 _ (uC (Kd.R_reads' HO_8.out).2.2) ((Kd.R_reads' HO_8.out).2.1) (uC (Kd.R_reads' HO325.out).2.2) ((Kd.R_reads' HO325.out).2.1) A45.out).mono ?_); rintro e w57 ⟨v327, rfl, ho0, hb⟩; refine ⟨_, rfl, ?_⟩; have HO328 := ulo (unw (unw (unw (unw ho0 HO_7) HO_8) HO_10) HO325); replace HO_7 := ueR HO_7 ho0 hb; replace HO_8 := ueR HO_8 ho0 hb; replace HO_10 := ueR HO_10 ho0 hb; replace HO325 := ueR HO325 ho0 hb; replace HR322 := Aside0.mk (Kd.C_below (by repeat (first | (with_reducible exact HR322.out) | (with_reducible refine Kd.C_alloc ?_ _) | (with_reducible refine Kd.C_drewN ?_ _) | (with_reducible refine Kd.C_drew ?_) | exact HR322.out)) hb); replace HB := uy hb; (try clear hb); (try clear hb2); (try clear hk); (try clear hi); (try clear ho0)) | ((with_reducible refine ug 67 rfl ?_); refine uh (some 90) rfl Try.func67 #[.slice A43 y319.length c43] ?_; (with_reducible refine (api_Nat_uint64.calls _ _ y319 t329 _ ?side1 ?side2 A46.out).mono ?_); (case side1 => repeat (first | exact (by repeat (first | (with_reducible exact HR322.out) | (with_reducible refine Kd.C_alloc ?_ _) | (with_reducible refine Kd.C_drewN ?_ _) | (with_reducible refine Kd.C_drew ?_) | exact HR322.out)) | (with_reducible refine Kd.C_alloc ?_ _) | (with_reducible refine Kd.C_drewN ?_ _) | (with_reducible refine Kd.C_drew ?_))); (case side2 => exact HC322.out); rintro e w58 ⟨v330, rfl, ho0, hb⟩; refine ⟨_, rfl, ?_⟩; have HO331 := ulo (unw (unw (unw (unw (unw ho0 HO_7) HO_8) HO_10) HO325) HO328); replace HO_7 := ueR HO_7 ho0 hb; replace HO_8 := ueR HO_8 ho0 hb; replace HO_10 := ueR HO_10 ho0 hb; replace HO325 := ueR HO325 ho0 hb; replace HO328 := ueR HO328 ho0 hb; replace HR322 := Aside0.mk (Kd.C_below (by repeat (first | (with_reducible exact HR322.out) | (with_reducible refine Kd.C_alloc ?_ _) | (with_reducible refine Kd.C_drewN ?_ _) | (with_reducible refine Kd.C_drew ?_) | exact HR322.out)) hb); replace HB := uy hb; (try clear hb); (try clear hb2); (try clear hk); (try clear hi); (try clear ho0); obtain ⟨Ao59, co59, eo59⟩ := Kd.R_slice HO331.out; subst eo59) | ((with_reducible refine ug 72 rfl ?_); refine uh (some 91) rfl Try.func72 #[.slice Ao59 t329.length co59] ?_; (with_reducible refine (nat_trim.calls k2 (fun k_ => some k_ = (.slice Ao59 t329.length co59 : Value).ownBlock) (.slice Ao59 t329.length co59) t329 t332 w _ ?side1 ?side2 A47.out).mono ?_); (case side1 => repeat (first | (with_reducible first | exact HB.out | apply below_alloc | apply pw_below_drewN | apply below_drew1) | exact HB.out)); (case side2 => exact Kd.R_tight rfl HO331.out); rintro e w60 ⟨v333, rfl, ho0, hb, hkp⟩; refine ⟨_, rfl, ?_⟩; have HO334 := Aside0.mk (Kd.R_mono (ok' := fun k_ => some k_ ≠ (.slice (some ad313) x7_1.length co18 : Value).ownBlock ∧ some k_ ≠ (.slice (some ad316) t307.length co17 : Value).ownBlock ∧ some k_ ≠ (.slice Ao21 x10_1.length co21 : Value).ownBlock ∧ some k_ ≠ (.slice Ao56 t323.length co56 : Value).ownBlock ∧ some k_ ≠ (v327 : Value).ownBlock) ho0 (fun k_ hk_ => ⟨Or.elim hk_ (fun hs_ => fun e_ => (((HO_7.out).1 k_ e_.symm).2) hs_) (fun hn_ => (Kd.fresh' (Kd.R_lt (uR HO_7.out)) k_ hn_)), Or.elim hk_ (fun hs_ => fun e_ => (((HO_8.out).1 k_ e_.symm).2) hs_) (fun hn_ => (Kd.fresh' (Kd.R_lt (uR HO_8.out)) k_ hn_)), Or.elim hk_ (fun hs_ => fun e_ => (((HO_10.out).1 k_ e_.symm).2) hs_) (fun hn_ => (Kd.fresh' (Kd.R_lt (uR HO_10.out)) k_ hn_)), Or.elim hk_ (fun hs_ => fun e_ => (((HO325.out).1 k_ e_.symm).2) hs_) (fun hn_ => (Kd.fresh' (Kd.R_lt (uR HO325.out)) k_ hn_)), Or.elim hk_ (fun hs_ => fun e_ => (((HO328.out).1 k_ e_.symm).2) hs_) (fun hn_ => (Kd.fresh' (Kd.R_lt (uR HO328.out)) k_ hn_))⟩)); replace HO_8 := Aside0.mk (Kd.R_mono (ok' := fun k_ => some k_ ≠ (.slice (some ad313) x7_1.length co18 : Value).ownBlock ∧ some k_ ≠ (.slice Ao21 x10_1.length co21 : Value).ownBlock ∧ some k_ ≠ (.slice Ao56 t323.length co56 : Value).ownBlock ∧ some k_ ≠ (v327 : Value).ownBlock ∧ some k_ ≠ (v333 : Value).ownBlock) (Kd.R_keptB (HO_8.out) hkp (fun k_ hk_ hs_ => (hk_.2) hs_)) (fun k_ hk_ => ⟨hk_.1.1.1.1.1, hk_.1.1.1.1.2, hk_.1.1.1.2, hk_.1.1.2, fun e_ => Or.elim (ho0.1 k_ e_.symm) (fun hs_ => hk_.2.1 hs_) (fun hn_ => Nat.not_le.2 hk_.2.2 hn_)⟩)); replace HO_10 := Aside0.mk (Kd.R_mono (ok' := fun k_ => some k_ ≠ (.slice (some ad313) x7_1.length co18 : Value).ownBlock ∧ some k_ ≠ (.slice (some ad316) t307.length co17 : Value).ownBlock ∧ some k_ ≠ (.slice Ao56 t323.length co56 : Value).ownBlock ∧ some k_ ≠ (v327 : Value).ownBlock ∧ some k_ ≠ (v333 : Value).ownBlock) (Kd.R_keptB (HO_10.out) hkp (fun k_ hk_ hs_ => (hk_.2) hs_)) (fun k_ hk_ => ⟨hk_.1.1.1.1.1, hk_.1.1.1.1.2, hk_.1.1.1.2, hk_.1.1.2, fun e_ => Or.elim (ho0.1 k_ e_.symm) (fun hs_ => hk_.2.1 hs_) (fun hn_ => Nat.not_le.2 hk_.2.2 hn_)⟩)); replace HO325 := Aside0.mk (Kd.R_mono (ok' := fun k_ => some k_ ≠ (.slice (some ad313) x7_1.length co18 : Value).ownBlock ∧ some k_ ≠ (.slice (some ad316) t307.length co17 : Value).ownBlock ∧ some k_ ≠ (.slice Ao21 x10_1.length co21 : Value).ownBlock ∧ some k_ ≠ (v327 : Value).ownBlock ∧ some k_ ≠ (v333 : Value).ownBlock) (Kd.R_keptB (HO325.out) hkp (fun k_ hk_ hs_ => (hk_.2) hs_)) (fun k_ hk_ => ⟨hk_.1.1.1.1.1.2, hk_.1.1.1.1.2, hk_.1.1.1.2, hk_.1.1.2, fun e_ => Or.elim (ho0.1 k_ e_.symm) (fun hs_ => hk_.2.1 hs_) (fun hn_ => Nat.not_le.2 hk_.2.2 hn_)⟩)); replace HO328 := Aside0.mk (Kd.R_mono (ok' := fun k_ => some k_ ≠ (.slice (some ad313) x7_1.length co18 : Value).ownBlock ∧ some k_ ≠ (.slice (some ad316) t307.length co17 : Value).ownBlock ∧ some k_ ≠ (.slice Ao21 x10_1.length co21 : Value).ownBlock ∧ some k_ ≠ (.slice Ao56 t323.length co56 : Value).ownBlock ∧ some k_ ≠ (v333 : Value).ownBlock) (Kd.R_keptB (HO328.out) hkp (fun k_ hk_ hs_ => (hk_.2) hs_)) (fun k_ hk_ => ⟨hk_.1.1.1.1.1.2, hk_.1.1.1.1.2, hk_.1.1.1.2, hk_.1.1.2, fun e_ => Or.elim (ho0.1 k_ e_.symm) (fun hs_ => hk_.2.1 hs_) (fun hn_ => Nat.not_le.2 hk_.2.2 hn_)⟩)); replace HR322 := Aside0.mk ((show Kd.C (Kd.int .u64) w60 A43 y319.length y319 from by rw [Ny319.out, KA43.out]; exact Kd.C_mid (lo := (x11_1 : Int).toNat) (hi := ((wrap64 ((ji23) + 1)) : Int).toNat) (c := co18) ((Kd.R_reads' (Kd.R_mono (ok' := fun k_ => some k_ ≠ (.slice (some ad316) t307.length co17 : Value).ownBlock ∧ some k_ ≠ (.slice Ao21 x10_1.length co21 : Value).ownBlock ∧ some k_ ≠ (.slice Ao56 t323.length co56 : Value).ownBlock ∧ some k_ ≠ (v327 : Value).ownBlock ∧ some k_ ≠ (v333 : Value).ownBlock) (Kd.R_keptB (HO_7.out) hkp (fun k_ hk_ hs_ => (hk_.2) hs_)) (fun k_ hk_ => ⟨hk_.1.1.1.1.1, hk_.1.1.1.1.2, hk_.1.1.1.2, hk_.1.1.2, fun e_ => Or.elim (ho0.1 k_ e_.symm) (fun hs_ => hk_.2.1 hs_) (fun hn_ => Nat.not_le.2 hk_.2.2 hn_)⟩))).2.2) KM43.out KL43.out ((Kd.R_reads' (Kd.R_mono (ok' := fun k_ => some k_ ≠ (.slice (some ad316) t307.length co17 : Value).ownBlock ∧ some k_ ≠ (.slice Ao21 x10_1.length co21 : Value).ownBlock ∧ some k_ ≠ (.slice Ao56 t323.length co56 : Value).ownBlock ∧ some k_ ≠ (v327 : Value).ownBlock ∧ some k_ ≠ (v333 : Value).ownBlock) (Kd.R_keptB (HO_7.out) hkp (fun k_ hk_ hs_ => (hk_.2) hs_)) (fun k_ hk_ => ⟨hk_.1.1.1.1.1, hk_.1.1.1.1.2, hk_.1.1.1.2, hk_.1.1.2, fun e_ => Or.elim (ho0.1 k_ e_.symm) (fun hs_ => hk_.2.1 hs_) (fun hn_ => Nat.not_le.2 hk_.2.2 hn_)⟩))).2.1))); replace HO_7 := Aside0.mk (Kd.R_mono (ok' := fun k_ => some k_ ≠ (.slice (some ad316) t307.length co17 : Value).ownBlock ∧ some k_ ≠ (.slice Ao21 x10_1.length co21 : Value).ownBlock ∧ some k_ ≠ (.slice Ao56 t323.length co56 : Value).ownBlock ∧ some k_ ≠ (v327 : Value).ownBlock ∧ some k_ ≠ (v333 : Value).ownBlock) (Kd.R_keptB (HO_7.out) hkp (fun k_ hk_ hs_ => (hk_.2) hs_)) (fun k_ hk_ => ⟨hk_.1.1.1.1.1, hk_.1.1.1.1.2, hk_.1.1.1.2, hk_.1.1.2, fun e_ => Or.elim (ho0.1 k_ e_.symm) (fun hs_ => hk_.2.1 hs_) (fun hn_ => Nat.not_le.2 hk_.2.2 hn_)⟩)); replace HB := Aside0.mk (hb); clear HO331; (try clear hb); (try clear hkp); (try clear ho0); obtain ⟨Ao61, co61, eo61⟩ := Kd.R_slice HO334.out; subst eo61; obtain ⟨Ao62, co62, eo62⟩ := Kd.R_slice HO328.out; subst eo62) | ((with_reducible refine ug 63 rfl ?_); refine uh (some 93) rfl Try.func63 #[.slice Ao61 t332.length co61, .slice Ao62 t326.length co62] ?_; (with_reducible refine (nat_compare.calls k2 _ _ t332 _ _ t326 t335 _ (uC (Kd.R_reads' HO334.out).2.2) ((Kd.R_reads' HO334.out).2.1) (uC (Kd.R_reads' HO328.out).2.2) ((Kd.R_reads' HO328.out).2.1) A48.out).mono ?_); rintro e w' ⟨rfl, ⟨nd, rfl⟩⟩; refine ⟨_, rfl, ?_⟩; (try (rw [drewN_self w60]; generalize hq_ : World.drewN w60 _ = w60; replace HO325 : Aside0 (Kd.R (Kd.int .u64) 42 w60 w.heap.size (fun k_ => (some k_ ≠ (.slice (some ad313) x7_1.length co18 : Value).ownBlock ∧ (some k_ ≠ (.slice (some ad316) t307.length co17 : Value).ownBlock ∧ (some k_ ≠ (.slice Ao21 x10_1.length co21 : Value).ownBlock ∧ (some k_ ≠ (.slice Ao62 t326.length co62 : Value).ownBlock ∧ some k_ ≠ (.slice Ao61 t332.length co61 : Value).ownBlock))))) (.slice Ao56 t323.length co56) t323) := ⟨by rw [← hq_]; exact (uR HO325.out)⟩; replace HO328 : Aside0 (Kd.R (Kd.int .u64) 42 w60 w.heap.size (fun k_ => (some k_ ≠ (.slice (some ad313) x7_1.length co18 : Value).ownBlock ∧ (some k_ ≠ (.slice (some ad316) t307.length co17 : Value).ownBlock ∧ (some k_ ≠ (.slice Ao21 x10_1.length co21 : Value).ownBlock ∧ (some k_ ≠ (.slice Ao56 t323.length co56 : Value).ownBlock ∧ some k_ ≠ (.slice Ao61 t332.length co61 : Value).ownBlock))))) (.slice Ao62 t326.length co62) t326) := ⟨by rw [← hq_]; exact (uR HO328.out)⟩; replace HO334 : Aside0 (Kd.R (Kd.int .u64) 42 w60 w.heap.size (fun k_ => (some k_ ≠ (.slice (some ad313) x7_1.length co18 : Value).ownBlock ∧ (some k_ ≠ (.slice (some ad316) t307.length co17 : Value).ownBlock ∧ (some k_ ≠ (.slice Ao21 x10_1.length co21 : Value).ownBlock ∧ (some k_ ≠ (.slice Ao56 t323.length co56 : Value).ownBlock ∧ some k_ ≠ (.slice Ao62 t326.length co62 : Value).ownBlock))))) (.slice Ao61 t332.length co61) t332) := ⟨by rw [← hq_]; exact (uR HO334.out)⟩; replace HO_10 : Aside0 (Kd.R (Kd.int .u64) 42 w60 w.heap.size (fun k_ => (some k_ ≠ (.slice (some ad313) x7_1.length co18 : Value).ownBlock ∧ (some k_ ≠ (.slice (some ad316) t307.length co17 : Value).ownBlock ∧ (some k_ ≠ (.slice Ao56 t323.length co56 : Value).ownBlock ∧ (some k_ ≠ (.slice Ao62 t326.length co62 : Value).ownBlock ∧ some k_ ≠ (.slice Ao61 t332.length co61 : Value).ownBlock))))) (.slice Ao21 x10_1.length co21) x10_1) := ⟨by rw [← hq_]; exact (uR HO_10.out)⟩; replace HO_7 : Aside0 (Kd.R (Kd.int .u64) 42 w60 w.heap.size (fun k_ => (some k_ ≠ (.slice (some ad316) t307.length co17 : Value).ownBlock ∧ (some k_ ≠ (.slice Ao21 x10_1.length co21 : Value).ownBlock ∧ (some k_ ≠ (.slice Ao56 t323.length co56 : Value).ownBlock ∧ (some k_ ≠ (.slice Ao62 t326.length co62 : Value).ownBlock ∧ some k_ ≠ (.slice Ao61 t332.length co61 : Value).ownBlock))))) (.slice (some ad313) x7_1.length co18) x7_1) := ⟨by rw [← hq_]; exact (uR HO_7.out)⟩; replace HO_8 : Aside0 (Kd.R (Kd.int .u64) 42 w60 w.heap.size (fun k_ => (some k_ ≠ (.slice (some ad313) x7_1.length co18 : Value).ownBlock ∧ (some k_ ≠ (.slice Ao21 x10_1.length co21 : Value).ownBlock ∧ (some k_ ≠ (.slice Ao56 t323.length co56 : Value).ownBlock ∧ (some k_ ≠ (.slice Ao62 t326.length co62 : Value).ownBlock ∧ some k_ ≠ (.slice Ao61 t332.length co61 : Value).ownBlock))))) (.slice (some ad316) t307.length co17) t307) := ⟨by rw [← hq_]; exact (uR HO_8.out)⟩; replace HB : Aside0 (Below w.heap.size w w60) := ⟨by rw [← hq_]; exact uB⟩; replace HR322 : Aside0 (Kd.C (Kd.int .u64) w60 A43 y319.length y319) := ⟨by rw [← hq_]; exact (by repeat (first | (with_reducible exact HR322.out) | (with_reducible refine Kd.C_alloc ?_ _) | (with_reducible refine Kd.C_drewN ?_ _) | (with_reducible refine Kd.C_drew ?_) | exact HR322.out))⟩; clear hq_))) | ((with_reducible refine ug 65 rfl ?_); refine uh (some 98) rfl Try.func65 #[.slice A43 y319.length c43, .slice Ao62 t326.length co62] ?_; (with_reducible refine (nat_less.calls k2 _ _ y319 _ _ t326 t336 _ ?side1 ?side2 ?side3 ?side4 A50.out).mono ?_); (case side1 => repeat (first | exact (by repeat (first | (with_reducible exact HR322.out) | (with_reducible refine Kd.C_alloc ?_ _) | (with_reducible refine Kd.C_drewN ?_ _) | (with_reducible refine Kd.C_drew ?_) | exact HR322.out)) | (with_reducible refine Kd.C_alloc ?_ _) | (with_reducible refine Kd.C_drewN ?_ _) | (with_reducible refine Kd.C_drew ?_))); (case side2 => exact HC322.out); (case side3 => exact uC (Kd.R_reads' HO328.out).2.2); (case side4 => exact (Kd.R_reads' HO328.out).2.1); rintro e w63 ⟨v337, rfl, ho0, hb⟩; refine ⟨_, rfl, ?_⟩; have HO338 := ulo (unw (unw (unw (unw (unw (unw ho0 HO_7) HO_8) HO_10) HO325) HO328) HO334); replace HO_7 := ueR HO_7 ho0 hb; replace HO_8 := ueR HO_8 ho0 hb; replace HO_10 := ueR HO_10 ho0 hb; replace HO325 := ueR HO325 ho0 hb; replace HO328 := ueR HO328 ho0 hb; replace HO334 := ueR HO334 ho0 hb; replace HR322 := Aside0.mk (Kd.C_below (by repeat (first | (with_reducible exact HR322.out) | (with_reducible refine Kd.C_alloc ?_ _) | (with_reducible refine Kd.C_drewN ?_ _) | (with_reducible refine Kd.C_drew ?_) | exact HR322.out)) hb); replace HB := uy hb; (try clear hb); (try clear hb2); (try clear hk); (try clear hi); (try clear ho0); obtain ⟨Ao66, co66, eo66⟩ := Kd.R_slice HO338.out; subst eo66; have n_ := Aside0.mk (Kd.R_mono (ok' := (fun k_ => some k_ ≠ (.slice (some ad316) t307.length co17 : Value).ownBlock ∧ some k_ ≠ (.slice Ao21 x10_1.length co21 : Value).ownBlock ∧ some k_ ≠ (.slice Ao56 t323.length co56 : Value).ownBlock ∧ some k_ ≠ (.slice Ao62 t326.length co62 : Value).ownBlock ∧ some k_ ≠ (.slice Ao61 t332.length co61 : Value).ownBlock ∧ some k_ ≠ (.slice Ao66 t336.length co66 : Value).ownBlock)) HO_7.out (fun k_ hk => ⟨hk.1.1, ⟨hk.1.2.1, ⟨hk.1.2.2.1, ⟨hk.1.2.2.2.1, ⟨hk.1.2.2.2.2, hk.2⟩⟩⟩⟩⟩)); clear HO_7; have HO_7 := n_; clear n_) | ((with_reducible refine gate_builtin (b := .copy) (xs := #[.tmp 95, .tmp 98]) (ts := #[23, 23]) rfl ?_); (try (refine gate_guard (by rfl) ?_; dsimp only)); refine R_copyin (0 : Int) (w0 := w) w.heap.size rfl (.tmp 95) (.tmp 98) 23 23 42 rfl Try.underlying23 (by kernel_rfl) (A0 := (some ad313)) (n := x7_1.length) (c := co18) (k := (x11_1 : Int).toNat) (m := y319.length) (ys := t336) rfl rfl KA43.out (Kd.R_reads' HO338.out).2.2 uO (uR HO_7.out) ?hk uB (below_size uB) ?_; (case hk => have hy_ := KY43.out; have hl_ := KL43.out; have hm_ := KM43.out; omega); intro w64 ho hb hg; rw [← Ny339.out] at ho; replace HO_7 := Aside0.mk (ho); replace HO_8 := Aside0.mk (Kd.R_after (v := (.slice (some ad313) x7_1.length co18)) (v1 := (.slice (some ad313) x7_1.length co18)) (ok := (fun k_ => some k_ ≠ (.slice Ao21 x10_1.length co21 : Value).ownBlock ∧ some k_ ≠ (.slice Ao56 t323.length co56 : Value).ownBlock ∧ some k_ ≠ (.slice Ao62 t326.length co62 : Value).ownBlock ∧ some k_ ≠ (.slice Ao61 t332.length co61 : Value).ownBlock ∧ some k_ ≠ (.slice Ao66 t336.length co66 : Value).ownBlock)) (uR (Kd.R_mono HO_8.out (fun _ hk => ⟨⟨hk.1.2.1, ⟨hk.1.2.2.1, ⟨hk.1.2.2.2.1, ⟨hk.1.2.2.2.2, hk.2⟩⟩⟩⟩, hk.1.1⟩))) hg (.inl rfl)); replace HO_10 := Aside0.mk (Kd.R_after (v := (.slice (some ad313) x7_1.length co18)) (v1 := (.slice (some ad313) x7_1.length co18)) (ok := (fun k_ => some k_ ≠ (.slice (some ad316) t307.length co17 : Value).ownBlock ∧ some k_ ≠ (.slice Ao56 t323.length co56 : Value).ownBlock ∧ some k_ ≠ (.slice Ao62 t326.length co62 : Value).ownBlock ∧ some k_ ≠ (.slice Ao61 t332.length co61 : Value).ownBlock ∧ some k_ ≠ (.slice Ao66 t336.length co66 : Value).ownBlock)) (uR (Kd.R_mono HO_10.out (fun _ hk => ⟨⟨hk.1.2.1, ⟨hk.1.2.2.1, ⟨hk.1.2.2.2.1, ⟨hk.1.2.2.2.2, hk.2⟩⟩⟩⟩, hk.1.1⟩))) hg (.inl rfl)); replace HO325 := Aside0.mk (Kd.R_after (v := (.slice (some ad313) x7_1.length co18)) (v1 := (.slice (some ad313) x7_1.length co18)) (ok := (fun k_ => some k_ ≠ (.slice (some ad316) t307.length co17 : Value).ownBlock ∧ some k_ ≠ (.slice Ao21 x10_1.length co21 : Value).ownBlock ∧ some k_ ≠ (.slice Ao62 t326.length co62 : Value).ownBlock ∧ some k_ ≠ (.slice Ao61 t332.length co61 : Value).ownBlock ∧ some k_ ≠ (.slice Ao66 t336.length co66 : Value).ownBlock)) (uR (Kd.R_mono HO325.out (fun _ hk => ⟨⟨hk.1.2.1, ⟨hk.1.2.2.1, ⟨hk.1.2.2.2.1, ⟨hk.1.2.2.2.2, hk.2⟩⟩⟩⟩, hk.1.1⟩))) hg (.inl rfl)); replace HO328 := Aside0.mk (Kd.R_after (v := (.slice (some ad313) x7_1.length co18)) (v1 := (.slice (some ad313) x7_1.length co18)) (ok := (fun k_ => some k_ ≠ (.slice (some ad316) t307.length co17 : Value).ownBlock ∧ some k_ ≠ (.slice Ao21 x10_1.length co21 : Value).ownBlock ∧ some k_ ≠ (.slice Ao56 t323.length co56 : Value).ownBlock ∧ some k_ ≠ (.slice Ao61 t332.length co61 : Value).ownBlock ∧ some k_ ≠ (.slice Ao66 t336.length co66 : Value).ownBlock)) (uR (Kd.R_mono HO328.out (fun _ hk => ⟨⟨hk.1.2.1, ⟨hk.1.2.2.1, ⟨hk.1.2.2.2.1, ⟨hk.1.2.2.2.2, hk.2⟩⟩⟩⟩, hk.1.1⟩))) hg (.inl rfl)); replace HO334 := Aside0.mk (Kd.R_after (v := (.slice (some ad313) x7_1.length co18)) (v1 := (.slice (some ad313) x7_1.length co18)) (ok := (fun k_ => some k_ ≠ (.slice (some ad316) t307.length co17 : Value).ownBlock ∧ some k_ ≠ (.slice Ao21 x10_1.length co21 : Value).ownBlock ∧ some k_ ≠ (.slice Ao56 t323.length co56 : Value).ownBlock ∧ some k_ ≠ (.slice Ao62 t326.length co62 : Value).ownBlock ∧ some k_ ≠ (.slice Ao66 t336.length co66 : Value).ownBlock)) (uR (Kd.R_mono HO334.out (fun _ hk => ⟨⟨hk.1.2.1, ⟨hk.1.2.2.1, ⟨hk.1.2.2.2.1, ⟨hk.1.2.2.2.2, hk.2⟩⟩⟩⟩, hk.1.1⟩))) hg (.inl rfl)); replace HO338 := Aside0.mk (Kd.R_after (v := (.slice (some ad313) x7_1.length co18)) (v1 := (.slice (some ad313) x7_1.length co18)) (ok := (fun k_ => some k_ ≠ (.slice (some ad316) t307.length co17 : Value).ownBlock ∧ some k_ ≠ (.slice Ao21 x10_1.length co21 : Value).ownBlock ∧ some k_ ≠ (.slice Ao56 t323.length co56 : Value).ownBlock ∧ some k_ ≠ (.slice Ao62 t326.length co62 : Value).ownBlock ∧ some k_ ≠ (.slice Ao61 t332.length co61 : Value).ownBlock)) (uR (Kd.R_mono HO338.out (fun _ hk => ⟨⟨hk.1.1.1.1.2, ⟨hk.1.1.1.2, ⟨hk.1.1.2, ⟨hk.1.2, hk.2⟩⟩⟩⟩, hk.1.1.1.1.1.2⟩))) hg (.inl rfl)); replace HB := Aside0.mk (hb); clear ho hb hg; have p54 : 0 ≤ (x11_1 : Int) := uO; have q54 : (x11_1 : Int) < ((x10_1.length : Int) : Int) := uO; obtain ⟨go54, co54, eo54, gb54, gl54, cl54, HG54⟩ := Kd.R_form HO_10.out (by omega); (first | cases eo54 | (injection eo54 with ea_ en_ ec_; (first | subst ea_ | (injection ea_ with ea_; subst ea_)); subst ec_; clear en_)); have GB54 := Aside0.mk gb54; have GG54 := Aside0.mk HG54; clear gb54 gl54 HG54; obtain ⟨hx54_0, hf54_0⟩ := Kd.R_celln 0 HO_10.out (x11_1 : Int) p54 q54; replace p54 := eq_true p54; replace q54 := eq_true q54; have n_ := Aside0.mk (Kd.R_mono (ok' := (fun k_ => some k_ ≠ (.slice (some ad313) x7_1.length co18 : Value).ownBlock ∧ some k_ ≠ (.slice (some ad316) t307.length co17 : Value).ownBlock ∧ some k_ ≠ (.slice Ao56 t323.length co56 : Value).ownBlock ∧ some k_ ≠ (.slice Ao62 t326.length co62 : Value).ownBlock ∧ some k_ ≠ (.slice Ao61 t332.length co61 : Value).ownBlock ∧ some k_ ≠ (.slice Ao66 t336.length co66 : Value).ownBlock)) HO_10.out (fun k_ hk => ⟨hk.2, ⟨hk.1.1, ⟨hk.1.2.1, ⟨hk.1.2.2.1, ⟨hk.1.2.2.2.1, hk.1.2.2.2.2⟩⟩⟩⟩⟩)); clear HO_10; have HO_10 := n_; clear n_; obtain ⟨hy67_, hz67_⟩ := Kd.R_celln 0 HO_10.out (x11_1 : Int) uO uO; have HP67 := Kd.R_putg HO_10.out (x11_1 : Int) x12_2) | ((with_reducible refine gate_store (t := 42) (p := 105) rfl ?_); refine store_event (t := 42) (p := 105) (v := ?vo_w68) (w1 := (w64.setCell ⟨go54, (x11_1 : Int).toNat, none⟩ (.int .u64 x12_2))) ?hg ?ho ?hn ?hr ?_; (case ho => rfl); (case hg => rfl); (case hn => rfl); (case hr => first | (go_simp; done) | (go_simp; rfl) | (obtain ⟨hy_, hz_⟩ := Kd.R_celln 0 HO_10.out (x11_1 : Int) uO uO; (try simp only [Go.IntWalk.toNatUp] at hy_ hz_); (try simp only [Int.reduceToNat, Int.toNat_zero, Int.toNat_ofNat] at hy_ hz_); first | (go_simp; done) | (go_simp; rfl))); intro w68 hw; have hg : w64.grownBy w68 (some go54) := (by rw [hw]; exact HP67.2); have hp_ : Kd.R (Kd.int .u64) 42 w68 w.heap.size (fun k_ => some k_ ≠ (.slice (some ad313) x7_1.length co18 : Value).ownBlock ∧ some k_ ≠ (.slice (some ad316) t307.length co17 : Value).ownBlock ∧ some k_ ≠ (.slice Ao56 t323.length co56 : Value).ownBlock ∧ some k_ ≠ (.slice Ao62 t326.length co62 : Value).ownBlock ∧ some k_ ≠ (.slice Ao61 t332.length co61 : Value).ownBlock ∧ some k_ ≠ (.slice Ao66 t336.length co66 : Value).ownBlock) (.slice (some ⟨go54, 0, none⟩) x10_1.length co21) y340 := (by rw [hw, Ny340.out]; exact HP67.1); clear HP67; replace HO_7 := Aside0.mk (Kd.R_after (v := (.slice (some ⟨go54, 0, none⟩) x10_1.length co21)) (v1 := (.slice (some ⟨go54, 0, none⟩) x10_1.length co21)) (ok := (fun k_ => some k_ ≠ (.slice (some ad316) t307.length co17 : Value).ownBlock ∧ some k_ ≠ (.slice Ao56 t323.length co56 : Value).ownBlock ∧ some k_ ≠ (.slice Ao62 t326.length co62 : Value).ownBlock ∧ some k_ ≠ (.slice Ao61 t332.length co61 : Value).ownBlock ∧ some k_ ≠ (.slice Ao66 t336.length co66 : Value).ownBlock)) (uR (Kd.R_mono HO_7.out (fun _ hk => ⟨⟨hk.1, ⟨hk.2.2.1, ⟨hk.2.2.2.1, ⟨hk.2.2.2.2.1, hk.2.2.2.2.2⟩⟩⟩⟩, hk.2.1⟩))) hg (.inl rfl)); replace HO_8 := Aside0.mk (Kd.R_after (v := (.slice (some ⟨go54, 0, none⟩) x10_1.length co21)) (v1 := (.slice (some ⟨go54, 0, none⟩) x10_1.length co21)) (ok := (fun k_ => some k_ ≠ (.slice (some ad313) x7_1.length co18 : Value).ownBlock ∧ some k_ ≠ (.slice Ao56 t323.length co56 : Value).ownBlock ∧ some k_ ≠ (.slice Ao62 t326.length co62 : Value).ownBlock ∧ some k_ ≠ (.slice Ao61 t332.length co61 : Value).ownBlock ∧ some k_ ≠ (.slice Ao66 t336.length co66 : Value).ownBlock)) (uR (Kd.R_mono HO_8.out (fun _ hk => ⟨⟨hk.2, ⟨hk.1.2.1, ⟨hk.1.2.2.1, ⟨hk.1.2.2.2.1, hk.1.2.2.2.2⟩⟩⟩⟩, hk.1.1⟩))) hg (.inl rfl)); replace HO_10 := Aside0.mk (hp_); replace HO325 := Aside0.mk (Kd.R_after (v := (.slice (some ⟨go54, 0, none⟩) x10_1.length co21)) (v1 := (.slice (some ⟨go54, 0, none⟩) x10_1.length co21)) (ok := (fun k_ => some k_ ≠ (.slice (some ad313) x7_1.length co18 : Value).ownBlock ∧ some k_ ≠ (.slice (some ad316) t307.length co17 : Value).ownBlock ∧ some k_ ≠ (.slice Ao62 t326.length co62 : Value).ownBlock ∧ some k_ ≠ (.slice Ao61 t332.length co61 : Value).ownBlock ∧ some k_ ≠ (.slice Ao66 t336.length co66 : Value).ownBlock)) (uR (Kd.R_mono HO325.out (fun _ hk => ⟨⟨hk.2, ⟨hk.1.1, ⟨hk.1.2.2.1, ⟨hk.1.2.2.2.1, hk.1.2.2.2.2⟩⟩⟩⟩, hk.1.2.1⟩))) hg (.inl rfl)); replace HO328 := Aside0.mk (Kd.R_after (v := (.slice (some ⟨go54, 0, none⟩) x10_1.length co21)) (v1 := (.slice (some ⟨go54, 0, none⟩) x10_1.length co21)) (ok := (fun k_ => some k_ ≠ (.slice (some ad313) x7_1.length co18 : Value).ownBlock ∧ some k_ ≠ (.slice (some ad316) t307.length co17 : Value).ownBlock ∧ some k_ ≠ (.slice Ao56 t323.length co56 : Value).ownBlock ∧ some k_ ≠ (.slice Ao61 t332.length co61 : Value).ownBlock ∧ some k_ ≠ (.slice Ao66 t336.length co66 : Value).ownBlock)) (uR (Kd.R_mono HO328.out (fun _ hk => ⟨⟨hk.2, ⟨hk.1.1, ⟨hk.1.2.2.1, ⟨hk.1.2.2.2.1, hk.1.2.2.2.2⟩⟩⟩⟩, hk.1.2.1⟩))) hg (.inl rfl)); replace HO334 := Aside0.mk (Kd.R_after (v := (.slice (some ⟨go54, 0, none⟩) x10_1.length co21)) (v1 := (.slice (some ⟨go54, 0, none⟩) x10_1.length co21)) (ok := (fun k_ => some k_ ≠ (.slice (some ad313) x7_1.length co18 : Value).ownBlock ∧ some k_ ≠ (.slice (some ad316) t307.length co17 : Value).ownBlock ∧ some k_ ≠ (.slice Ao56 t323.length co56 : Value).ownBlock ∧ some k_ ≠ (.slice Ao62 t326.length co62 : Value).ownBlock ∧ some k_ ≠ (.slice Ao66 t336.length co66 : Value).ownBlock)) (uR (Kd.R_mono HO334.out (fun _ hk => ⟨⟨hk.2, ⟨hk.1.1, ⟨hk.1.2.2.1, ⟨hk.1.2.2.2.1, hk.1.2.2.2.2⟩⟩⟩⟩, hk.1.2.1⟩))) hg (.inl rfl)); replace HO338 := Aside0.mk (Kd.R_after (v := (.slice (some ⟨go54, 0, none⟩) x10_1.length co21)) (v1 := (.slice (some ⟨go54, 0, none⟩) x10_1.length co21)) (ok := (fun k_ => some k_ ≠ (.slice (some ad313) x7_1.length co18 : Value).ownBlock ∧ some k_ ≠ (.slice (some ad316) t307.length co17 : Value).ownBlock ∧ some k_ ≠ (.slice Ao56 t323.length co56 : Value).ownBlock ∧ some k_ ≠ (.slice Ao62 t326.length co62 : Value).ownBlock ∧ some k_ ≠ (.slice Ao61 t332.length co61 : Value).ownBlock)) (uR (Kd.R_mono HO338.out (fun _ hk => ⟨⟨hk.2, ⟨hk.1.1, ⟨hk.1.2.2.1, ⟨hk.1.2.2.2.1, hk.1.2.2.2.2⟩⟩⟩⟩, hk.1.2.1⟩))) hg (.inl rfl)); replace HB := Aside0.mk ((by rw [hw]; exact below_set (HB.out) GB54.out : Below w.heap.size w w68)); clear hg hw hp_))
       (try simp only [← hl7_1, ← hl10_1])
       go_roundg k2
       case measure => have := HK1.out; have := HK2.out; omega
       case rel => exact ⟨(y339), (y340), (wrap64 (x11_1 - 1)), uG, H', ⟨by have := HK1.out; have := HK2.out; omega⟩, ⟨by (try simp only [hl7_1]); (try simp only [hl10_1]); exact uR (Kd.R_mono HO_7.out (fun _ hk => ⟨hk.1.1, hk.2⟩))⟩, ⟨by (try simp only [hl7_1]); (try simp only [hl10_1]); exact uR (Kd.R_mono HO_8.out (fun _ hk => ⟨hk.1.1, hk.2⟩))⟩, ⟨by (try simp only [hl7_1]); (try simp only [hl10_1]); exact uR (Kd.R_mono HO_10.out (fun _ hk => ⟨hk.1, hk.2.1⟩))⟩, ⟨uB⟩⟩
      rw [if_neg c49] at H
      have c49b0 := decide_eq_false c49
      clear c49
      have H' := Aside0.mk H
      clear H
      go_wp2_with (first | ((with_reducible refine ug 44 rfl ?_); refine uh (some 87) rfl Try.func44 #[.int .u64 x12_2] ?_; (with_reducible refine (nat_Of.calls k2 x12_2 t323 _ A44.out).mono ?_); rintro e w69 ⟨v324, rfl, ho0, hb⟩; refine ⟨_, rfl, ?_⟩; have HO325 := ulo (unw (unw (unw ho0 HO_7) HO_8) HO_10); replace HO_7 := ueR HO_7 ho0 hb; replace HO_8 := ueR HO_8 ho0 hb; replace HO_10 := ueR HO_10 ho0 hb; replace HR322 := Aside0.mk (Kd.C_below (by repeat (first | (with_reducible exact HR322.out) | (with_reducible refine Kd.C_alloc ?_ _) | (with_reducible refine Kd.C_drewN ?_ _) | (with_reducible refine Kd.C_drew ?_) | exact HR322.out)) hb); replace HB := uy hb; (try clear hb); (try clear hb2); (try clear hk); (try clear hi); (try clear ho0); obtain ⟨Ao70, co70, eo70⟩ := Kd.R_slice HO325.out; subst eo70) | ((with_reducible refine ug 90 rfl ?_); refine uh (some 88) rfl Try.func90 #[.slice (some ad316) t307.length co17, .slice Ao70 t323.length co70] ?_; (with_reducible refine (nat_school.calls k2 _ _ t307 _ _ t323 t326 _ (uC (Kd.R_reads' HO_8.out).2.2) ((Kd.R_reads' HO_8.out).2.1) (uC (Kd.R_reads' HO325.out).2.2) ((Kd.R_reads' HO325.out).2.1) A45.out).mono ?_); rintro e w71 ⟨v327, rfl, ho0, hb⟩; refine ⟨_, rfl, ?_⟩; have HO328 := ulo (unw (unw (unw (unw ho0 HO_7) HO_8) HO_10) HO325); replace HO_7 := ueR HO_7 ho0 hb; replace HO_8 := ueR HO_8 ho0 hb; replace HO_10 := ueR HO_10 ho0 hb; replace HO325 := ueR HO325 ho0 hb; replace HR322 := Aside0.mk (Kd.C_below (by repeat (first | (with_reducible exact HR322.out) | (with_reducible refine Kd.C_alloc ?_ _) | (with_reducible refine Kd.C_drewN ?_ _) | (with_reducible refine Kd.C_drew ?_) | exact HR322.out)) hb); replace HB := uy hb; (try clear hb); (try clear hb2); (try clear hk); (try clear hi); (try clear ho0)) | ((with_reducible refine ug 67 rfl ?_); refine uh (some 90) rfl Try.func67 #[.slice A43 y319.length c43] ?_; (with_reducible refine (api_Nat_uint64.calls _ _ y319 t329 _ ?side1 ?side2 A46.out).mono ?_); (case side1 => repeat (first | exact (by repeat (first | (with_reducible exact HR322.out) | (with_reducible refine Kd.C_alloc ?_ _) | (with_reducible refine Kd.C_drewN ?_ _) | (with_reducible refine Kd.C_drew ?_) | exact HR322.out)) | (with_reducible refine Kd.C_alloc ?_ _) | (with_reducible refine Kd.C_drewN ?_ _) | (with_reducible refine Kd.C_drew ?_))); (case side2 => exact HC322.out); rintro e w72 ⟨v330, rfl, ho0, hb⟩; refine ⟨_, rfl, ?_⟩; have HO331 := ulo (unw (unw (unw (unw (unw ho0 HO_7) HO_8) HO_10) HO325) HO328); replace HO_7 := ueR HO_7 ho0 hb; replace HO_8 := ueR HO_8 ho0 hb; replace HO_10 := ueR HO_10 ho0 hb; replace HO325 := ueR HO325 ho0 hb; replace HO328 := ueR HO328 ho0 hb; replace HR322 := Aside0.mk (Kd.C_below (by repeat (first | (with_reducible exact HR322.out) | (with_reducible refine Kd.C_alloc ?_ _) | (with_reducible refine Kd.C_drewN ?_ _) | (with_reducible refine Kd.C_drew ?_) | exact HR322.out)) hb); replace HB := uy hb; (try clear hb); (try clear hb2); (try clear hk); (try clear hi); (try clear ho0); obtain ⟨Ao73, co73, eo73⟩ := Kd.R_slice HO331.out; subst eo73) | ((with_reducible refine ug 72 rfl ?_); refine uh (some 91) rfl Try.func72 #[.slice Ao73 t329.length co73] ?_; (with_reducible refine (nat_trim.calls k2 (fun k_ => some k_ = (.slice Ao73 t329.length co73 : Value).ownBlock) (.slice Ao73 t329.length co73) t329 t332 w _ ?side1 ?side2 A47.out).mono ?_); (case side1 => repeat (first | (with_reducible first | exact HB.out | apply below_alloc | apply pw_below_drewN | apply below_drew1) | exact HB.out)); (case side2 => exact Kd.R_tight rfl HO331.out); rintro e w74 ⟨v333, rfl, ho0, hb, hkp⟩; refine ⟨_, rfl, ?_⟩; have HO334 := Aside0.mk (Kd.R_mono (ok' := fun k_ => some k_ ≠ (.slice (some ad313) x7_1.length co18 : Value).ownBlock ∧ some k_ ≠ (.slice (some ad316) t307.length co17 : Value).ownBlock ∧ some k_ ≠ (.slice Ao21 x10_1.length co21 : Value).ownBlock ∧ some k_ ≠ (.slice Ao70 t323.length co70 : Value).ownBlock ∧ some k_ ≠ (v327 : Value).ownBlock) ho0 (fun k_ hk_ => ⟨Or.elim hk_ (fun hs_ => fun e_ => (((HO_7.out).1 k_ e_.symm).2) hs_) (fun hn_ => (Kd.fresh' (Kd.R_lt (uR HO_7.out)) k_ hn_)), Or.elim hk_ (fun hs_ => fun e_ => (((HO_8.out).1 k_ e_.symm).2) hs_) (fun hn_ => (Kd.fresh' (Kd.R_lt (uR HO_8.out)) k_ hn_)), Or.elim hk_ (fun hs_ => fun e_ => (((HO_10.out).1 k_ e_.symm).2) hs_) (fun hn_ => (Kd.fresh' (Kd.R_lt (uR HO_10.out)) k_ hn_)), Or.elim hk_ (fun hs_ => fun e_ => (((HO325.out).1 k_ e_.symm).2) hs_) (fun hn_ => (Kd.fresh' (Kd.R_lt (uR HO325.out)) k_ hn_)), Or.elim hk_ (fun hs_ => fun e_ => (((HO328.out).1 k_ e_.symm).2) hs_) (fun hn_ => (Kd.fresh' (Kd.R_lt (uR HO328.out)) k_ hn_))⟩)); replace HO_8 := Aside0.mk (Kd.R_mono (ok' := fun k_ => some k_ ≠ (.slice (some ad313) x7_1.length co18 : Value).ownBlock ∧ some k_ ≠ (.slice Ao21 x10_1.length co21 : Value).ownBlock ∧ some k_ ≠ (.slice Ao70 t323.length co70 : Value).ownBlock ∧ some k_ ≠ (v327 : Value).ownBlock ∧ some k_ ≠ (v333 : Value).ownBlock) (Kd.R_keptB (HO_8.out) hkp (fun k_ hk_ hs_ => (hk_.2) hs_)) (fun k_ hk_ => ⟨hk_.1.1.1.1.1, hk_.1.1.1.1.2, hk_.1.1.1.2, hk_.1.1.2, fun e_ => Or.elim (ho0.1 k_ e_.symm) (fun hs_ => hk_.2.1 hs_) (fun hn_ => Nat.not_le.2 hk_.2.2 hn_)⟩)); replace HO_10 := Aside0.mk (Kd.R_mono (ok' := fun k_ => some k_ ≠ (.slice (some ad313) x7_1.length co18 : Value).ownBlock ∧ some k_ ≠ (.slice (some ad316) t307.length co17 : Value).ownBlock ∧ some k_ ≠ (.slice Ao70 t323.length co70 : Value).ownBlock ∧ some k_ ≠ (v327 : Value).ownBlock ∧ some k_ ≠ (v333 : Value).ownBlock) (Kd.R_keptB (HO_10.out) hkp (fun k_ hk_ hs_ => (hk_.2) hs_)) (fun k_ hk_ => ⟨hk_.1.1.1.1.1, hk_.1.1.1.1.2, hk_.1.1.1.2, hk_.1.1.2, fun e_ => Or.elim (ho0.1 k_ e_.symm) (fun hs_ => hk_.2.1 hs_) (fun hn_ => Nat.not_le.2 hk_.2.2 hn_)⟩)); replace HO325 := Aside0.mk (Kd.R_mono (ok' := fun k_ => some k_ ≠ (.slice (some ad313) x7_1.length co18 : Value).ownBlock ∧ some k_ ≠ (.slice (some ad316) t307.length co17 : Value).ownBlock ∧ some k_ ≠ (.slice Ao21 x10_1.length co21 : Value).ownBlock ∧ some k_ ≠ (v327 : Value).ownBlock ∧ some k_ ≠ (v333 : Value).ownBlock) (Kd.R_keptB (HO325.out) hkp (fun k_ hk_ hs_ => (hk_.2) hs_)) (fun k_ hk_ => ⟨hk_.1.1.1.1.1.2, hk_.1.1.1.1.2, hk_.1.1.1.2, hk_.1.1.2, fun e_ => Or.elim (ho0.1 k_ e_.symm) (fun hs_ => hk_.2.1 hs_) (fun hn_ => Nat.not_le.2 hk_.2.2 hn_)⟩)); replace HO328 := Aside0.mk (Kd.R_mono (ok' := fun k_ => some k_ ≠ (.slice (some ad313) x7_1.length co18 : Value).ownBlock ∧ some k_ ≠ (.slice (some ad316) t307.length co17 : Value).ownBlock ∧ some k_ ≠ (.slice Ao21 x10_1.length co21 : Value).ownBlock ∧ some k_ ≠ (.slice Ao70 t323.length co70 : Value).ownBlock ∧ some k_ ≠ (v333 : Value).ownBlock) (Kd.R_keptB (HO328.out) hkp (fun k_ hk_ hs_ => (hk_.2) hs_)) (fun k_ hk_ => ⟨hk_.1.1.1.1.1.2, hk_.1.1.1.1.2, hk_.1.1.1.2, hk_.1.1.2, fun e_ => Or.elim (ho0.1 k_ e_.symm) (fun hs_ => hk_.2.1 hs_) (fun hn_ => Nat.not_le.2 hk_.2.2 hn_)⟩)); replace HR322 := Aside0.mk ((show Kd.C (Kd.int .u64) w74 A43 y319.length y319 from by rw [Ny319.out, KA43.out]; exact Kd.C_mid (lo := (x11_1 : Int).toNat) (hi := ((wrap64 ((ji23) + 1)) : Int).toNat) (c := co18) ((Kd.R_reads' (Kd.R_mono (ok' := fun k_ => some k_ ≠ (.slice (some ad316) t307.length co17 : Value).ownBlock ∧ some k_ ≠ (.slice Ao21 x10_1.length co21 : Value).ownBlock ∧ some k_ ≠ (.slice Ao70 t323.length co70 : Value).ownBlock ∧ some k_ ≠ (v327 : Value).ownBlock ∧ some k_ ≠ (v333 : Value).ownBlock) (Kd.R_keptB (HO_7.out) hkp (fun k_ hk_ hs_ => (hk_.2) hs_)) (fun k_ hk_ => ⟨hk_.1.1.1.1.1, hk_.1.1.1.1.2, hk_.1.1.1.2, hk_.1.1.2, fun e_ => Or.elim (ho0.1 k_ e_.symm) (fun hs_ => hk_.2.1 hs_) (fun hn_ => Nat.not_le.2 hk_.2.2 hn_)⟩))).2.2) KM43.out KL43.out ((Kd.R_reads' (Kd.R_mono (ok' := fun k_ => some k_ ≠ (.slice (some ad316) t307.length co17 : Value).ownBlock ∧ some k_ ≠ (.slice Ao21 x10_1.length co21 : Value).ownBlock ∧ some k_ ≠ (.slice Ao70 t323.length co70 : Value).ownBlock ∧ some k_ ≠ (v327 : Value).ownBlock ∧ some k_ ≠ (v333 : Value).ownBlock) (Kd.R_keptB (HO_7.out) hkp (fun k_ hk_ hs_ => (hk_.2) hs_)) (fun k_ hk_ => ⟨hk_.1.1.1.1.1, hk_.1.1.1.1.2, hk_.1.1.1.2, hk_.1.1.2, fun e_ => Or.elim (ho0.1 k_ e_.symm) (fun hs_ => hk_.2.1 hs_) (fun hn_ => Nat.not_le.2 hk_.2.2 hn_)⟩))).2.1))); replace HO_7 := Aside0.mk (Kd.R_mono (ok' := fun k_ => some k_ ≠ (.slice (some ad316) t307.length co17 : Value).ownBlock ∧ some k_ ≠ (.slice Ao21 x10_1.length co21 : Value).ownBlock ∧ some k_ ≠ (.slice Ao70 t323.length co70 : Value).ownBlock ∧ some k_ ≠ (v327 : Value).ownBlock ∧ some k_ ≠ (v333 : Value).ownBlock) (Kd.R_keptB (HO_7.out) hkp (fun k_ hk_ hs_ => (hk_.2) hs_)) (fun k_ hk_ => ⟨hk_.1.1.1.1.1, hk_.1.1.1.1.2, hk_.1.1.1.2, hk_.1.1.2, fun e_ => Or.elim (ho0.1 k_ e_.symm) (fun hs_ => hk_.2.1 hs_) (fun hn_ => Nat.not_le.2 hk_.2.2 hn_)⟩)); replace HB := Aside0.mk (hb); clear HO331; (try clear hb); (try clear hkp); (try clear ho0); obtain ⟨Ao75, co75, eo75⟩ := Kd.R_slice HO334.out; subst eo75; obtain ⟨Ao76, co76, eo76⟩ := Kd.R_slice HO328.out; subst eo76) | ((with_reducible refine ug 63 rfl ?_); refine uh (some 93) rfl Try.func63 #[.slice Ao75 t332.length co75, .slice Ao76 t326.length co76] ?_; (with_reducible refine (nat_compare.calls k2 _ _ t332 _ _ t326 t335 _ (uC (Kd.R_reads' HO334.out).2.2) ((Kd.R_reads' HO334.out).2.1) (uC (Kd.R_reads' HO328.out).2.2) ((Kd.R_reads' HO328.out).2.1) A48.out).mono ?_); rintro e w' ⟨rfl, ⟨nd, rfl⟩⟩; refine ⟨_, rfl, ?_⟩))
      go_roundg k2
      case measure => have := HK1.out; have := HK2.out; omega
      case rel => exact ⟨(IntKind.u64.wrap (x12_2 - 1)), uG, H', ⟨by have := HK1.out; have := HK2.out; omega⟩, ⟨by (try simp only [hl7_1]); (try simp only [hl10_1]); exact uR (Kd.R_mono HO_7.out (fun _ hk => ⟨hk.1, hk.2.1⟩))⟩, ⟨by (try simp only [hl7_1]); (try simp only [hl10_1]); exact uR (Kd.R_mono HO_8.out (fun _ hk => ⟨hk.1, hk.2.1⟩))⟩, ⟨by (try simp only [hl7_1]); (try simp only [hl10_1]); exact uR (Kd.R_mono HO_10.out (fun _ hk => ⟨hk.1, hk.2.1⟩))⟩, ⟨by repeat (first | (with_reducible exact HR322.out) | (with_reducible refine Kd.C_alloc ?_ _) | (with_reducible refine Kd.C_drewN ?_ _) | (with_reducible refine Kd.C_drew ?_) | exact HR322.out)⟩, ⟨uB⟩⟩
   rw [if_neg c22] at H
   have c22b0 := decide_eq_false c22
   clear c22
   replace ⟨t341, A77, H⟩ := ub H
   replace ⟨c78b0, c78b1, H⟩ := uTe H
   replace ⟨c79b0, c79b1, H⟩ := uTe H
   generalize hy344 : ((List.replicate ((t341.length : Int) : Int).toNat 0) : List Int) = y344 at H
   have Ny344 := Aside0.mk hy344.symm; clear hy344
   have H' := Aside0.mk H
   clear H
   go_wp2_with (first | ((with_reducible refine ug 72 rfl ?_); refine uh (some 107) rfl Try.func72 #[.slice Ao18 x7_1.length co18] ?_; (with_reducible refine (nat_trim.calls k1 (fun k_ => some k_ = (.slice Ao18 x7_1.length co18 : Value).ownBlock) (.slice Ao18 x7_1.length co18) x7_1 t341 w _ ?side1 ?side2 A77.out).mono ?_); (case side1 => repeat (first | (with_reducible first | exact HB.out | apply below_alloc | apply pw_below_drewN | apply below_drew1) | exact HB.out)); (case side2 => exact Kd.R_tight rfl HO_7.out); rintro e w80 ⟨v342, rfl, ho0, hb, hkp⟩; refine ⟨_, rfl, ?_⟩; have HO343 := Aside0.mk (Kd.R_mono (ok' := fun k_ => some k_ ≠ (.slice Ao17 t307.length co17 : Value).ownBlock ∧ some k_ ≠ (.slice Ao21 x10_1.length co21 : Value).ownBlock) ho0 (fun k_ hk_ => ⟨Or.elim hk_ (fun hs_ => fun e_ => (((HO_8.out).1 k_ e_.symm).1) hs_) (fun hn_ => (Kd.fresh' (Kd.R_lt (uR HO_8.out)) k_ hn_)), Or.elim hk_ (fun hs_ => fun e_ => (((HO_10.out).1 k_ e_.symm).1) hs_) (fun hn_ => (Kd.fresh' (Kd.R_lt (uR HO_10.out)) k_ hn_))⟩)); replace HO_8 := Aside0.mk (Kd.R_mono (ok' := fun k_ => some k_ ≠ (.slice Ao21 x10_1.length co21 : Value).ownBlock ∧ some k_ ≠ (v342 : Value).ownBlock) (Kd.R_keptB (HO_8.out) hkp (fun k_ hk_ hs_ => (hk_.1) hs_)) (fun k_ hk_ => ⟨hk_.1.2, fun e_ => Or.elim (ho0.1 k_ e_.symm) (fun hs_ => hk_.2.1 hs_) (fun hn_ => Nat.not_le.2 hk_.2.2 hn_)⟩)); replace HO_10 := Aside0.mk (Kd.R_mono (ok' := fun k_ => some k_ ≠ (.slice Ao17 t307.length co17 : Value).ownBlock ∧ some k_ ≠ (v342 : Value).ownBlock) (Kd.R_keptB (HO_10.out) hkp (fun k_ hk_ hs_ => (hk_.1) hs_)) (fun k_ hk_ => ⟨hk_.1.2, fun e_ => Or.elim (ho0.1 k_ e_.symm) (fun hs_ => hk_.2.1 hs_) (fun hn_ => Nat.not_le.2 hk_.2.2 hn_)⟩)); replace HB := Aside0.mk (hb); clear HO_7; (try clear hb); (try clear hkp); (try clear ho0); obtain ⟨Ao81, co81, eo81⟩ := Kd.R_slice HO343.out; subst eo81) | ((with_reducible refine gate_dst (N := 110) rfl ?_); (try (refine gate_guard (by rfl) ?_; dsimp only)); refine Kd.R_make (Kd.int .u64) _ 42 rfl (N := 110) rfl 23 _ _ rfl (t341.length : Int) rfl rfl Try.underlying23 (.int .u64 0) 8 info42 rfl (by decide) (by omega) 0 (ok := fun _ => True) (okp := fun _ => True) rfl (fun _ hk => hk) trivial uO (Nat.le_trans (Nat.mul_le_mul_right _ (uO : (t341.length : Int).toNat ≤ 35184372088832)) (by omega)) (Below.refl _ _) (Nat.le_refl _) ?_; intro v345 w82 ho83 hb hg_ hnew_; clear hg_ hnew_; (first | rw [← Ny344.out] at ho83 | (simp only [Int.reduceToNat] at ho83; rw [← Ny344.out] at ho83)); have HO346 := ulo (unw (unw (unw ho83 HO_8) HO_10) HO343); replace HO_8 := ueR HO_8 ho83 hb; replace HO_10 := ueR HO_10 ho83 hb; replace HO343 := ueR HO343 ho83 hb; replace HB := uy hb; clear hb ho83))
   go_loopg [113] k1 (fun kq v113 w' => ∃ (x16_2 : List Int) (x113_2 : Int), v113 = .int .i64 x113_2 ∧ Aside0 (nat_long.l2 kq (IntKind.u64.wrap (t300)) x10_1 t341 x16_2 (t341.length : Int) x113_2 = some (r1, r2)) ∧ Aside0 (kq ≤ k1) ∧ Aside0 (Kd.R (Kd.int .u64) 42 w' w.heap.size (fun k_ => some k_ ≠ ((.slice Ao81 t341.length co81) : Value).ownBlock ∧ some k_ ≠ (v345 : Value).ownBlock) (.slice Ao21 x10_1.length co21) x10_1) ∧ Aside0 (Kd.R (Kd.int .u64) 42 w' w.heap.size (fun k_ => some k_ ≠ ((.slice Ao21 x10_1.length co21) : Value).ownBlock ∧ some k_ ≠ (v345 : Value).ownBlock) (.slice Ao81 t341.length co81) t341) ∧ Aside0 (Kd.R (Kd.int .u64) 42 w' w.heap.size (fun k_ => some k_ ≠ ((.slice Ao21 x10_1.length co21) : Value).ownBlock ∧ some k_ ≠ ((.slice Ao81 t341.length co81) : Value).ownBlock) v345 x16_2) ∧ Aside0 (Below w.heap.size w w'))
   case atStart => exact ⟨(y344), (0), uG, H', ⟨Nat.le_refl _⟩, ⟨by (try simp only [hl7_1]); (try simp only [hl10_1]); exact uR (Kd.R_mono HO_10.out (fun _ hk => ⟨hk.1.2, hk.2⟩))⟩, ⟨by (try simp only [hl7_1]); (try simp only [hl10_1]); exact uR (Kd.R_mono HO343.out (fun _ hk => ⟨hk.1.2, hk.2⟩))⟩, ⟨by (try simp only [hl7_1]); (try simp only [hl10_1]); exact uR (Kd.R_mono HO346.out (fun _ hk => ⟨hk.1.2, hk.2⟩))⟩, ⟨uB⟩⟩
   case round =>
    clear H'
    ; (try clear q2 q2); (try clear hx2); (try clear q3 q3); (try clear hx3); (try clear q4 q4); (try clear q5); (try clear hx5); (try clear hf5); (try clear q29 q29); (try clear hx29); (try clear q31 q31); (try clear hx31); (try clear q43 q43); (try clear q54 q54); (try clear hx54 hx54_0); (try clear hf54); (try clear hx299_0); (try clear hx313_0); (try clear hx314_0); (try clear hx315_0); (try clear hx316_0); (try clear hx317_0); (try clear q043); (try clear q299); (try clear q313); (try clear q314); (try clear q315); (try clear q316); (try clear q317)
    obtain ⟨x16_2, x113_2, rfl, HA, HK2, HO_10, HO_15, HO_16, HB⟩ := hrel
    cases gk with
    | zero => exact absurd HA.out (by simp [nat_long.l2])
    | succ k2 =>
     have H := HA.out
     clear HA
     simp only [nat_long.l2] at H
     by_cases c84 : x113_2 < (t341.length : Int)
     ·
      rw [if_pos c84] at H
      have c84b0 := decide_eq_true c84
      (try (have c84b0h0 := c84b0; simp only [hl7_1] at c84b0h0))
      (try (have c84b0h1 := c84b0; simp only [hl10_1] at c84b0h1))
      clear c84
      replace ⟨c85b0, H⟩ := uTd H
      replace ⟨c86b0, H⟩ := uTd H
      (try (have c86b0h0 := c86b0; simp only [hl7_1] at c86b0h0))
      (try (have c86b0h1 := c86b0; simp only [hl10_1] at c86b0h1))
      obtain ⟨ji87, hji87⟩ : ∃ j_ : Int, (IntKind.u64.wrap (t300)) = j_ := ⟨_, rfl⟩
      first | rw [hji87] at H | simp only [hji87] at H
      replace ⟨c88b0, c88b1, H⟩ := uTe H
      obtain ⟨ji89, hji89⟩ : ∃ j_ : Int, (shr .u64 (rd t341 x113_2) (ji87)) = j_ := ⟨_, rfl⟩
      first | rw [hji89] at H | simp only [hji89] at H
      have hji89_ : ((rd t341 x113_2) / 2 ^ min (ji87).toNat 64) = ji89 := hji89
      have hji89z : (ji87) ≤ 64 → ((rd t341 x113_2) / 2 ^ (ji87).toNat) = ji89 := shr_small hji89
      replace ⟨c90b0, H⟩ := uTd H
      (try (have c90b0h0 := c90b0; simp only [hl7_1] at c90b0h0))
      (try (have c90b0h1 := c90b0; simp only [hl10_1] at c90b0h1))
      replace ⟨y348, hy348, H⟩ := ubs H
      have Ny348 := Aside0.mk hy348; clear hy348
      by_cases c92 : (ji87) > 0
      ·
       rw [if_pos c92] at H
       have c92b0 := decide_eq_true c92
       clear c92
       by_cases c93 : (wrap64 (x113_2 + 1)) < (t341.length : Int)
       ·
        rw [if_pos c93] at H
        have c93b0 := decide_eq_true c93
        (try (have c93b0h0 := c93b0; simp only [hl7_1] at c93b0h0))
        (try (have c93b0h1 := c93b0; simp only [hl10_1] at c93b0h1))
        clear c93
        obtain ⟨ji94, hji94, hji94w⟩ := uj (x113_2 + 1)
        first | rw [hji94] at H | simp only [hji94] at H
        (try rw [hji94] at c93b0)
        replace ⟨c95b0, H⟩ := uTd H
        obtain ⟨ji96, hji96⟩ : ∃ j_ : Int, (IntKind.u64.wrap (64 - (ji87))) = j_ := ⟨_, rfl⟩
        first | rw [hji96] at H | simp only [hji96] at H
        replace ⟨c97b0, c97b1, H⟩ := uTe H
        obtain ⟨ji98, hji98⟩ : ∃ j_ : Int, (shl .u64 (rd t341 (ji94)) (ji96)) = j_ := ⟨_, rfl⟩
        first | rw [hji98] at H | simp only [hji98] at H
        have hji98_ : (IntKind.u64.wrap ((rd t341 (ji94)) * 2 ^ min (ji96).toNat 64)) = ji98 := hji98
        have hji98z : (ji96) ≤ 64 → (IntKind.u64.wrap ((rd t341 (ji94)) * 2 ^ (ji96).toNat)) = ji98 := shl_small hji98
        generalize hy351 : ((y348.set (x113_2 : Int).toNat (Go.bits .or .u64 (rd y348 x113_2) (ji98))) : List Int) = y351 at H
        have Ny351 := Aside0.mk hy351.symm; clear hy351
        have H' := Aside0.mk H
        clear H
        have p347 := eq_true (uO : 0 ≤ (x113_2 : Int))
        have q347 := eq_true (uO : x113_2 < (t341.length : Int))
        obtain ⟨ad347, e347, hx347_0⟩ := Kd.at_int (Kd.R_reads' HO_15.out).2.2 x113_2 uO uO
        cases e347
        have p91 : 0 ≤ (x113_2 : Int) := uO
        have q91 : (x113_2 : Int) < ((x16_2.length : Int) : Int) := uO
        obtain ⟨go91, co91, eo91, gb91, gl91, cl91, HG91⟩ := Kd.R_form HO_16.out (by omega)
        (first | cases eo91 | (injection eo91 with ea_ en_ ec_; (first | subst ea_ | (injection ea_ with ea_; subst ea_)); subst ec_; clear en_))
        have GB91 := Aside0.mk gb91; have GG91 := Aside0.mk HG91; clear gb91 gl91 HG91
        obtain ⟨hx91_0, hf91_0⟩ := Kd.R_celln 0 HO_16.out (x113_2 : Int) p91 q91
        replace p91 := eq_true p91
        replace q91 := eq_true q91
        have HP100 := Kd.R_putg HO_16.out (x113_2 : Int) ji89
        try go_wp2_with (first | ((with_reducible refine gate_store (t := 42) (p := 124) rfl ?_); refine store_event (t := 42) (p := 124) (v := ?vo_w101) (w1 := (wr.setCell ⟨go91, (x113_2 : Int).toNat, none⟩ (.int .u64 ji89))) ?hg ?ho ?hn ?hr ?_; (case ho => rfl); (case hg => rfl); (case hn => rfl); (case hr => first | (go_simp; done) | (go_simp; rfl) | (obtain ⟨hy_, hz_⟩ := Kd.R_celln 0 HO_16.out (x113_2 : Int) uO uO; (try simp only [Go.IntWalk.toNatUp] at hy_ hz_); (try simp only [Int.reduceToNat, Int.toNat_zero, Int.toNat_ofNat] at hy_ hz_); first | (go_simp; done) | (go_simp; rfl))); intro w101 hw; have hg : wr.grownBy w101 (some go91) := (by rw [hw]; exact HP100.2); have hp_ : Kd.R (Kd.int .u64) 42 w101 w.heap.size (fun k_ => some k_ ≠ (.slice Ao21 x10_1.length co21 : Value).ownBlock ∧ some k_ ≠ (.slice (some ad347) t341.length co81 : Value).ownBlock) (.slice (some ⟨go91, 0, none⟩) x16_2.length co91) y348 := (by rw [hw, Ny348.out]; exact HP100.1); clear HP100; replace HO_10 := Aside0.mk (Kd.R_after (v := (.slice (some ⟨go91, 0, none⟩) x16_2.length co91)) (v1 := (.slice (some ⟨go91, 0, none⟩) x16_2.length co91)) (ok := (fun k_ => some k_ ≠ (.slice (some ad347) t341.length co81 : Value).ownBlock)) (uR HO_10.out) hg (.inl rfl)); replace HO_15 := Aside0.mk (Kd.R_after (v := (.slice (some ⟨go91, 0, none⟩) x16_2.length co91)) (v1 := (.slice (some ⟨go91, 0, none⟩) x16_2.length co91)) (ok := (fun k_ => some k_ ≠ (.slice Ao21 x10_1.length co21 : Value).ownBlock)) (uR HO_15.out) hg (.inl rfl)); replace HO_16 := Aside0.mk (hp_); replace HB := Aside0.mk ((by rw [hw]; exact below_set (HB.out) GB91.out : Below w.heap.size w w101)); clear hg hw hp_))
        replace HO_10 := Aside0.mk (Kd.R_drew HO_10.out); replace HO_15 := Aside0.mk (Kd.R_drew HO_15.out); replace HO_16 := Aside0.mk (Kd.R_drew HO_16.out); replace HB := Aside0.mk (below_drew1 HB.out)
        have p349 : 0 ≤ (x113_2 : Int) := uO
        have q349 : x113_2 < (y348.length : Int) := (by have h_ : (x113_2 : Int) < ((x16_2.length : Int) : Int) := uO; first | (have e_ := (Kd.R_reads' HO_16.out).1; omega) | simpa only [Ny348.out, List.length_set] using h_)
        have ql349 : ((x113_2 : Int) < ((x16_2.length : Int) : Int)) = True := eq_true uO
        obtain ⟨ad349, e349, hx349_0⟩ := Kd.at_int (Kd.R_reads' HO_16.out).2.2 x113_2 p349 q349
        obtain rfl : (⟨go91, 0, none⟩ : Addr) = ad349 := (by injection e349)
        (first | simp only [add_plain] at hx349_0 | simp only [add_at] at hx349_0 | simp only [Addr.add, Nat.zero_add] at hx349_0 | skip)
        replace p349 := eq_true p349
        replace q349 := eq_true q349
        have p350 : 0 ≤ ((ji94) : Int) := uO
        have q350 : (ji94) < (t341.length : Int) := uO
        obtain ⟨ad350, e350, hx350_0⟩ := Kd.at_int (Kd.R_reads' HO_15.out).2.2 (ji94) p350 q350
        obtain rfl : ad347 = ad350 := (by injection e350)
        replace p350 := eq_true p350
        replace q350 := eq_true q350
        have p99 : 0 ≤ (x113_2 : Int) := uO
        have q99 : (x113_2 : Int) < ((x16_2.length : Int) : Int) := uO
        obtain ⟨hx99_0, hf99_0⟩ := Kd.R_celln 0 HO_16.out (x113_2 : Int) p99 q99
        replace p99 := eq_true p99
        replace q99 := eq_true q99
        have HP103 := Kd.R_putn HO_16.out (x113_2 : Int) (Go.bits .or .u64 (rd y348 x113_2) (ji98))
        rw [← Ny351.out] at HP103
        have HQ103 := Aside0.mk HP103; clear HP103
        refine start_ (n := 15) (S := fun w' => w'.cell? ⟨go91, (x113_2).toNat, none⟩ = some (.int .u64 (rd y348 x113_2)) ∧ w'.cell? (ad347.add ((ji94)).toNat) = some (.int .u64 (rd t341 (ji94)))) (ds := [14]) (.replicate 15 false) (by kernel_rfl) rfl rfl ⟨hx349_0, hx350_0⟩ (fun hHeld => ?_); refine with_tabW nat_long.tab22 nat_long.bits22 (fun HT_ HW_ => ?_)
        generalize w101.drew = w102 at HO_10 HO_15 HO_16 HB HQ103 hf99_0 hx349_0 hx350_0 hx99_0 hHeld ⊢
        refine upu 0 (some 134) (uA 15 1) rfl rfl HT_ ?_
        refine upu 1 (some 135) (uA 15 3) rfl rfl HT_ ?_
        refine upu 2 (some 136) (uA 15 7) rfl rfl HT_ ?_
        refine upu 4 (some 138) (uA 15 23) rfl rfl HT_ ?_
        refine upu 5 (some 139) (uA 15 55) rfl rfl HT_ ?_
        refine upu 6 (some 140) (uA 15 119) rfl rfl HT_ ?_
        refine upu 7 (some 141) (uA 15 247) rfl rfl HT_ ?_
        refine upu 9 (some 143) (uA 15 759) rfl rfl HT_ ?_
        refine upu 10 (some 144) (uA 15 1783) rfl rfl HT_ ?_
        refine take_ (i := 3) (N := some 137) (v := ?_) (a' := ?_) (uA 15 1791) rfl rfl (take_ofW HT_.out HW_.out (by kernel_rfl)) (fun _ _ _ h => h) (Or.inl ⟨by rfl, ?_⟩) hHeld ?_ ?_
        rotate_left
        ·
         rintro w' ⟨s0, s1⟩
         go_simp
         with_reducible rfl
        rotate_left
        · exact uQ
        refine take_ (i := 8) (N := some 142) (v := ?_) (a' := ?_) (uA 15 2047) rfl rfl (take_ofW HT_.out HW_.out (by kernel_rfl)) (fun _ _ _ h => h) (Or.inl ⟨by rfl, ?_⟩) hHeld ?_ ?_
        rotate_left
        ·
         rintro w' ⟨s0, s1⟩
         go_simp
         with_reducible rfl
        rotate_left
        · exact uQ
        refine upu 11 (some 145) (uA 15 4095) rfl rfl HT_ ?_
        refine upu 12 (some 146) (uA 15 8191) rfl rfl HT_ ?_
        refine upu 13 (some 147) (uA 15 16383) rfl rfl HT_ ?_
        refine last_ (i := 14) (N := none) (uA 15 32767) rfl rfl (one_of HT_.out (by kernel_rfl)) (by decide) (fun K hK => ?_)
        refine skip_ (w1 := ?_) (by rfl) rfl ?_ ?_
        rotate_left
        ·
         go_simp
         rfl
        refine hK.out _ _ ?_; clear hK K
        refine done_ (done_of HT_.out (by kernel_rfl)) ?_
        try go_wp2
        (try simp only [← hji87] at H'); simp only [← hji87]; go_roundg k2
        case measure => have := HK1.out; have := HK2.out; omega
        case rel => exact ⟨(y351), (ji94), (by first | rfl | (simp; done) | (simp only [← hji94] <;> (first | rfl | simp)) | (simp [*]; done)), H', ⟨by have := HK1.out; have := HK2.out; omega⟩, ⟨by (try simp only [hl7_1]); (try simp only [hl10_1]); exact uR (Kd.R_mono (Kd.R_far (p := ⟨go91, (x113_2 : Int).toNat, none⟩) (Kd.R_mono HO_10.out (fun k_ hk => (⟨hk, fun e_ => hk.2 (by rw [e_]; rfl)⟩ : _ ∧ k_ ≠ go91))) (fun _ hk => hk.2) (.int .u64 (Go.bits .or .u64 (rd y348 x113_2) (ji98)))) (fun _ hk => ⟨hk.1.1, hk.1.2⟩))⟩, ⟨by (try simp only [hl7_1]); (try simp only [hl10_1]); exact uR (Kd.R_mono (Kd.R_far (p := ⟨go91, (x113_2 : Int).toNat, none⟩) (Kd.R_mono HO_15.out (fun k_ hk => (⟨hk, fun e_ => hk.2 (by rw [e_]; rfl)⟩ : _ ∧ k_ ≠ go91))) (fun _ hk => hk.2) (.int .u64 (Go.bits .or .u64 (rd y348 x113_2) (ji98)))) (fun _ hk => ⟨hk.1.1, hk.1.2⟩))⟩, ⟨by (try simp only [hl7_1]); (try simp only [hl10_1]); exact uR HQ103.out⟩, ⟨uB⟩⟩
       rw [if_neg c93] at H
       have c93b0 := decide_eq_false c93
       (try (have c93b0h0 := c93b0; simp only [hl7_1] at c93b0h0))
       (try (have c93b0h1 := c93b0; simp only [hl10_1] at c93b0h1))
       clear c93
       have H' := Aside0.mk H
       clear H
       have p347 := eq_true (uO : 0 ≤ (x113_2 : Int))
       have q347 := eq_true (uO : x113_2 < (t341.length : Int))
       obtain ⟨ad347, e347, hx347_0⟩ := Kd.at_int (Kd.R_reads' HO_15.out).2.2 x113_2 uO uO
       cases e347
       have p91 : 0 ≤ (x113_2 : Int) := uO
       have q91 : (x113_2 : Int) < ((x16_2.length : Int) : Int) := uO
       obtain ⟨go91, co91, eo91, gb91, gl91, cl91, HG91⟩ := Kd.R_form HO_16.out (by omega)
       (first | cases eo91 | (injection eo91 with ea_ en_ ec_; (first | subst ea_ | (injection ea_ with ea_; subst ea_)); subst ec_; clear en_))
       have GB91 := Aside0.mk gb91; have GG91 := Aside0.mk HG91; clear gb91 gl91 HG91
       obtain ⟨hx91_0, hf91_0⟩ := Kd.R_celln 0 HO_16.out (x113_2 : Int) p91 q91
       replace p91 := eq_true p91
       replace q91 := eq_true q91
       have HP104 := Kd.R_putg HO_16.out (x113_2 : Int) ji89
       go_wp2_with (first | ((with_reducible refine gate_store (t := 42) (p := 124) rfl ?_); refine store_event (t := 42) (p := 124) (v := ?vo_w105) (w1 := (wr.setCell ⟨go91, (x113_2 : Int).toNat, none⟩ (.int .u64 ji89))) ?hg ?ho ?hn ?hr ?_; (case ho => rfl); (case hg => rfl); (case hn => rfl); (case hr => first | (go_simp; done) | (go_simp; rfl) | (obtain ⟨hy_, hz_⟩ := Kd.R_celln 0 HO_16.out (x113_2 : Int) uO uO; (try simp only [Go.IntWalk.toNatUp] at hy_ hz_); (try simp only [Int.reduceToNat, Int.toNat_zero, Int.toNat_ofNat] at hy_ hz_); first | (go_simp; done) | (go_simp; rfl))); intro w105 hw; have hg : wr.grownBy w105 (some go91) := (by rw [hw]; exact HP104.2); have hp_ : Kd.R (Kd.int .u64) 42 w105 w.heap.size (fun k_ => some k_ ≠ (.slice Ao21 x10_1.length co21 : Value).ownBlock ∧ some k_ ≠ (.slice (some ad347) t341.length co81 : Value).ownBlock) (.slice (some ⟨go91, 0, none⟩) x16_2.length co91) y348 := (by rw [hw, Ny348.out]; exact HP104.1); clear HP104; replace HO_10 := Aside0.mk (Kd.R_after (v := (.slice (some ⟨go91, 0, none⟩) x16_2.length co91)) (v1 := (.slice (some ⟨go91, 0, none⟩) x16_2.length co91)) (ok := (fun k_ => some k_ ≠ (.slice (some ad347) t341.length co81 : Value).ownBlock)) (uR HO_10.out) hg (.inl rfl)); replace HO_15 := Aside0.mk (Kd.R_after (v := (.slice (some ⟨go91, 0, none⟩) x16_2.length co91)) (v1 := (.slice (some ⟨go91, 0, none⟩) x16_2.length co91)) (ok := (fun k_ => some k_ ≠ (.slice Ao21 x10_1.length co21 : Value).ownBlock)) (uR HO_15.out) hg (.inl rfl)); replace HO_16 := Aside0.mk (hp_); replace HB := Aside0.mk ((by rw [hw]; exact below_set (HB.out) GB91.out : Below w.heap.size w w105)); clear hg hw hp_))
       go_roundg k2
       case measure => have := HK1.out; have := HK2.out; omega
       case rel => simp only [← hji87] at H'; exact ⟨(y348), (wrap64 (x113_2 + 1)), uG, H', ⟨by have := HK1.out; have := HK2.out; omega⟩, ⟨by (try simp only [hl7_1]); (try simp only [hl10_1]); exact uR HO_10.out⟩, ⟨by (try simp only [hl7_1]); (try simp only [hl10_1]); exact uR HO_15.out⟩, ⟨by (try simp only [hl7_1]); (try simp only [hl10_1]); exact uR HO_16.out⟩, ⟨uB⟩⟩
      rw [if_neg c92] at H
      have c92b0 := decide_eq_false c92
      clear c92
      have H' := Aside0.mk H
      clear H
      have p347 := eq_true (uO : 0 ≤ (x113_2 : Int))
      have q347 := eq_true (uO : x113_2 < (t341.length : Int))
      obtain ⟨ad347, e347, hx347_0⟩ := Kd.at_int (Kd.R_reads' HO_15.out).2.2 x113_2 uO uO
      cases e347
      have p91 : 0 ≤ (x113_2 : Int) := uO
      have q91 : (x113_2 : Int) < ((x16_2.length : Int) : Int) := uO
      obtain ⟨go91, co91, eo91, gb91, gl91, cl91, HG91⟩ := Kd.R_form HO_16.out (by omega)
      (first | cases eo91 | (injection eo91 with ea_ en_ ec_; (first | subst ea_ | (injection ea_ with ea_; subst ea_)); subst ec_; clear en_))
      have GB91 := Aside0.mk gb91; have GG91 := Aside0.mk HG91; clear gb91 gl91 HG91
      obtain ⟨hx91_0, hf91_0⟩ := Kd.R_celln 0 HO_16.out (x113_2 : Int) p91 q91
      replace p91 := eq_true p91
      replace q91 := eq_true q91
      have HP106 := Kd.R_putg HO_16.out (x113_2 : Int) ji89
      go_wp2_with (first | ((with_reducible refine gate_store (t := 42) (p := 124) rfl ?_); refine store_event (t := 42) (p := 124) (v := ?vo_w107) (w1 := (wr.setCell ⟨go91, (x113_2 : Int).toNat, none⟩ (.int .u64 ji89))) ?hg ?ho ?hn ?hr ?_; (case ho => rfl); (case hg => rfl); (case hn => rfl); (case hr => first | (go_simp; done) | (go_simp; rfl) | (obtain ⟨hy_, hz_⟩ := Kd.R_celln 0 HO_16.out (x113_2 : Int) uO uO; (try simp only [Go.IntWalk.toNatUp] at hy_ hz_); (try simp only [Int.reduceToNat, Int.toNat_zero, Int.toNat_ofNat] at hy_ hz_); first | (go_simp; done) | (go_simp; rfl))); intro w107 hw; have hg : wr.grownBy w107 (some go91) := (by rw [hw]; exact HP106.2); have hp_ : Kd.R (Kd.int .u64) 42 w107 w.heap.size (fun k_ => some k_ ≠ (.slice Ao21 x10_1.length co21 : Value).ownBlock ∧ some k_ ≠ (.slice (some ad347) t341.length co81 : Value).ownBlock) (.slice (some ⟨go91, 0, none⟩) x16_2.length co91) y348 := (by rw [hw, Ny348.out]; exact HP106.1); clear HP106; replace HO_10 := Aside0.mk (Kd.R_after (v := (.slice (some ⟨go91, 0, none⟩) x16_2.length co91)) (v1 := (.slice (some ⟨go91, 0, none⟩) x16_2.length co91)) (ok := (fun k_ => some k_ ≠ (.slice (some ad347) t341.length co81 : Value).ownBlock)) (uR HO_10.out) hg (.inl rfl)); replace HO_15 := Aside0.mk (Kd.R_after (v := (.slice (some ⟨go91, 0, none⟩) x16_2.length co91)) (v1 := (.slice (some ⟨go91, 0, none⟩) x16_2.length co91)) (ok := (fun k_ => some k_ ≠ (.slice Ao21 x10_1.length co21 : Value).ownBlock)) (uR HO_15.out) hg (.inl rfl)); replace HO_16 := Aside0.mk (hp_); replace HB := Aside0.mk ((by rw [hw]; exact below_set (HB.out) GB91.out : Below w.heap.size w w107)); clear hg hw hp_))
      go_roundg k2
      case measure => have := HK1.out; have := HK2.out; omega
      case rel => simp only [← hji87] at H'; exact ⟨(y348), (wrap64 (x113_2 + 1)), uG, H', ⟨by have := HK1.out; have := HK2.out; omega⟩, ⟨by (try simp only [hl7_1]); (try simp only [hl10_1]); exact uR HO_10.out⟩, ⟨by (try simp only [hl7_1]); (try simp only [hl10_1]); exact uR HO_15.out⟩, ⟨by (try simp only [hl7_1]); (try simp only [hl10_1]); exact uR HO_16.out⟩, ⟨uB⟩⟩
     rw [if_neg c84] at H
     have c84b0 := decide_eq_false c84
     (try (have c84b0h0 := c84b0; simp only [hl7_1] at c84b0h0))
     (try (have c84b0h1 := c84b0; simp only [hl10_1] at c84b0h1))
     clear c84
     replace ⟨t352, A108, H⟩ := ub H
     replace ⟨t355, A109, H⟩ := ub H
     simp only [Option.some.injEq, Prod.mk.injEq] at H
     obtain ⟨rfl, rfl⟩ := H
     go_wp2_with (first | ((with_reducible refine ug 72 rfl ?_); refine uh (some 150) rfl Try.func72 #[.slice Ao21 x10_1.length co21] ?_; (with_reducible refine (nat_trim.calls k2 (fun k_ => some k_ = (.slice Ao21 x10_1.length co21 : Value).ownBlock) (.slice Ao21 x10_1.length co21) x10_1 t352 w _ ?side1 ?side2 A108.out).mono ?_); (case side1 => repeat (first | (with_reducible first | exact HB.out | apply below_alloc | apply pw_below_drewN | apply below_drew1) | exact HB.out)); (case side2 => exact Kd.R_tight rfl HO_10.out); rintro e w110 ⟨v353, rfl, ho0, hb, hkp⟩; refine ⟨_, rfl, ?_⟩; have HO354 := Aside0.mk (Kd.R_mono (ok' := fun k_ => some k_ ≠ (.slice Ao81 t341.length co81 : Value).ownBlock ∧ some k_ ≠ (v345 : Value).ownBlock) ho0 (fun k_ hk_ => ⟨Or.elim hk_ (fun hs_ => fun e_ => (((HO_15.out).1 k_ e_.symm).1) hs_) (fun hn_ => (Kd.fresh' (Kd.R_lt (uR HO_15.out)) k_ hn_)), Or.elim hk_ (fun hs_ => fun e_ => (((HO_16.out).1 k_ e_.symm).1) hs_) (fun hn_ => (Kd.fresh' (Kd.R_lt (uR HO_16.out)) k_ hn_))⟩)); replace HO_15 := Aside0.mk (Kd.R_mono (ok' := fun k_ => some k_ ≠ (v345 : Value).ownBlock ∧ some k_ ≠ (v353 : Value).ownBlock) (Kd.R_keptB (HO_15.out) hkp (fun k_ hk_ hs_ => (hk_.1) hs_)) (fun k_ hk_ => ⟨hk_.1.2, fun e_ => Or.elim (ho0.1 k_ e_.symm) (fun hs_ => hk_.2.1 hs_) (fun hn_ => Nat.not_le.2 hk_.2.2 hn_)⟩)); replace HO_16 := Aside0.mk (Kd.R_mono (ok' := fun k_ => some k_ ≠ (.slice Ao81 t341.length co81 : Value).ownBlock ∧ some k_ ≠ (v353 : Value).ownBlock) (Kd.R_keptB (HO_16.out) hkp (fun k_ hk_ hs_ => (hk_.1) hs_)) (fun k_ hk_ => ⟨hk_.1.2, fun e_ => Or.elim (ho0.1 k_ e_.symm) (fun hs_ => hk_.2.1 hs_) (fun hn_ => Nat.not_le.2 hk_.2.2 hn_)⟩)); replace HB := Aside0.mk (hb); clear HO_10; (try clear hb); (try clear hkp); (try clear ho0); obtain ⟨Ao111, co111, eo111⟩ := Kd.R_slice HO_16.out; subst eo111) | ((with_reducible refine ug 72 rfl ?_); refine uh (some 152) rfl Try.func72 #[.slice Ao111 x16_2.length co111] ?_; (with_reducible refine (nat_trim.calls k2 (fun k_ => some k_ = (.slice Ao111 x16_2.length co111 : Value).ownBlock) (.slice Ao111 x16_2.length co111) x16_2 t355 w _ ?side1 ?side2 A109.out).mono ?_); (case side1 => repeat (first | (with_reducible first | exact HB.out | apply below_alloc | apply pw_below_drewN | apply below_drew1) | exact HB.out)); (case side2 => exact Kd.R_tight rfl HO_16.out); rintro e w112 ⟨v356, rfl, ho0, hb, hkp⟩; refine ⟨_, rfl, ?_⟩; have HO357 := Aside0.mk (Kd.R_mono (ok' := fun k_ => some k_ ≠ (.slice Ao81 t341.length co81 : Value).ownBlock ∧ some k_ ≠ (v353 : Value).ownBlock) ho0 (fun k_ hk_ => ⟨Or.elim hk_ (fun hs_ => fun e_ => (((HO_15.out).1 k_ e_.symm).1) hs_) (fun hn_ => (Kd.fresh' (Kd.R_lt (uR HO_15.out)) k_ hn_)), Or.elim hk_ (fun hs_ => fun e_ => (((HO354.out).1 k_ e_.symm).2) hs_) (fun hn_ => (Kd.fresh' (Kd.R_lt (uR HO354.out)) k_ hn_))⟩)); replace HO_15 := Aside0.mk (Kd.R_mono (ok' := fun k_ => some k_ ≠ (v353 : Value).ownBlock ∧ some k_ ≠ (v356 : Value).ownBlock) (Kd.R_keptB (HO_15.out) hkp (fun k_ hk_ hs_ => (hk_.1) hs_)) (fun k_ hk_ => ⟨hk_.1.2, fun e_ => Or.elim (ho0.1 k_ e_.symm) (fun hs_ => hk_.2.1 hs_) (fun hn_ => Nat.not_le.2 hk_.2.2 hn_)⟩)); replace HO354 := Aside0.mk (Kd.R_mono (ok' := fun k_ => some k_ ≠ (.slice Ao81 t341.length co81 : Value).ownBlock ∧ some k_ ≠ (v356 : Value).ownBlock) (Kd.R_keptB (HO354.out) hkp (fun k_ hk_ hs_ => (hk_.2) hs_)) (fun k_ hk_ => ⟨hk_.1.1, fun e_ => Or.elim (ho0.1 k_ e_.symm) (fun hs_ => hk_.2.1 hs_) (fun hn_ => Nat.not_le.2 hk_.2.2 hn_)⟩)); replace HB := Aside0.mk (hb); clear HO_16; (try clear hb); (try clear hkp); (try clear ho0)))
     go_ret2
     exact ⟨_, _, by first | rfl | (simp [errW_none, errW_some] <;> rfl) | (simp only [← hji3, ← hji10]; first | rfl | (simp [errW_none, errW_some] <;> rfl)) | (simp [*, errW_none, errW_some] <;> rfl), by exact uR (Kd.R_mono HO354.out (fun _ hk => hk.2)), by (with_reducible repeat (first | apply Kd.R_alloc | apply Kd.R_drewN | apply Kd.R_drew)); exact Kd.R_mono HO357.out (fun _ hk => hk.2), uB⟩
def nat_Div.f (k : Nat) (l0 : List Int) (l1 : List Int) : Option (List Int × List Int × Int) := (nat_right.f (([l0, l1] : List (List Int)))).bind fun t361 => (if t361 = true then (if (l1.length : Int) = 0 then (some (([] : List Int), ([] : List Int), 3)) else ((nat_compare.f k l0 l1).bind fun t362 => (if t362 < 0 then ((api_Nat_uint64.f l0).bind fun t363 => (some (([] : List Int), t363, 0))) else (if (l1.length : Int) = 1 then (if 0 < (l1.length : Int) then ((nat_short.f k l0 (rd l1 0)).bind fun bt367 => ((nat_Of.f k bt367.2).bind fun t371 => (some (bt367.1, t371, 0)))) else (none)) else ((nat_long.f k l0 l1).bind fun bt374 => (some (bt374.1, bt374.2, 0))))))) else (some (([] : List Int), ([] : List Int), 1)))
theorem nat_Div.calls (k : Nat) (P0_ : Nat → Prop) (A0 : Option Addr) (c0 : Nat) (l0 : List Int) (P1_ : Nat → Prop) (A1 : Option Addr) (c1 : Nat) (l1 : List Int) (r1 : List Int) (r2 : List Int) (r3 : Int) (w : World) (hs0 : Kd.V (Kd.int .u64) 42 w w.heap.size (fun k_ => P0_ k_) (.slice A0 l0.length c0) l0) (hs1 : Kd.V (Kd.int .u64) 42 w w.heap.size (fun k_ => P1_ k_) (.slice A1 l1.length c1) l1) (h : nat_Div.f k l0 l1 = some (r1, r2, r3)) :
  Calls Try.prog 43 #[.slice A0 l0.length c0, .slice A1 l1.length c1] w fun e w' => ∃ v0_ v1_ : Value, e = .returned (.tuple #[v0_, v1_, .int .i64 r3]) ∧ Kd.R (Kd.int .u64) 42 w' w.heap.size (fun k_ => (w.heap.size ≤ k_) ∧ some k_ ≠ (v1_ : Value).ownBlock) v0_ r1 ∧ Kd.R (Kd.int .u64) 42 w' w.heap.size (fun k_ => (w.heap.size ≤ k_) ∧ some k_ ≠ (v0_ : Value).ownBlock) v1_ r2 ∧ Below w.heap.size w w' := by
 have HO0 := Aside0.mk (show Kd.V (Kd.int .u64) 42 w w.heap.size (fun k_ => ((P0_ k_ ∨ P1_ k_) ∨ w.heap.size ≤ k_)) (.slice A0 l0.length c0) l0 from Kd.V_mono hs0 (fun k_ hk => .inl (.inl hk)))
 have HO1 := Aside0.mk (show Kd.V (Kd.int .u64) 42 w w.heap.size (fun k_ => ((P0_ k_ ∨ P1_ k_) ∨ w.heap.size ≤ k_)) (.slice A1 l1.length c1) l1 from Kd.V_mono hs1 (fun k_ hk => .inl (.inr hk)))
 have HB := Aside0.mk (Below.refl w.heap.size w)
 have H : ((nat_right.f (([l0, l1] : List (List Int)))).bind fun t361 => (if t361 = true then (if (l1.length : Int) = 0 then (some (([] : List Int), ([] : List Int), 3)) else ((nat_compare.f k l0 l1).bind fun t362 => (if t362 < 0 then ((api_Nat_uint64.f l0).bind fun t363 => (some (([] : List Int), t363, 0))) else (if (l1.length : Int) = 1 then (if 0 < (l1.length : Int) then ((nat_short.f k l0 (rd l1 0)).bind fun bt367 => ((nat_Of.f k bt367.2).bind fun t371 => (some (bt367.1, t371, 0)))) else (none)) else ((nat_long.f k l0 l1).bind fun bt374 => (some (bt374.1, bt374.2, 0))))))) else (some (([] : List Int), ([] : List Int), 1)))) = some (r1, r2, r3) := h
 clear h
 generalize hy358 : ((([l0, l1] : List (List Int))) : List (List Int)) = y358 at H
 have Ny358 := Aside0.mk hy358.symm; clear hy358
 replace ⟨t361, A3, H⟩ := ub H
 by_cases c4 : t361 = true
 ·
  subst c4
  rw [if_pos rfl] at H
  by_cases c5 : (l1.length : Int) = 0
  ·
   rw [if_pos c5] at H
   have c5b0 := beq_iff_eq.mpr c5
   have c5b1 := bne_eq_false_iff_eq.mpr c5
   clear c5
   simp only [Option.some.injEq, Prod.mk.injEq] at H
   obtain ⟨rfl, rfl, rfl⟩ := H
   go_enter Try.func43, Try.ntmps43
   go_wp2_with (first | ((with_reducible refine gate_dst (N := 14) rfl ?_); refine uNl 14 23 (Kd.slice 42 (Kd.int .u64)) ([l0, l1] : List (List Int)) [.slice A0 l0.length c0, .slice A1 l1.length c1] (fun k_ => ((P0_ k_ ∨ P1_ k_) ∨ w.heap.size ≤ k_)) rfl rfl ?hp ?hf ?_; (case hp => exact (Reps.one (uFs HO0.out) (Reps.one (uFs HO1.out) (Reps.none _ _)))); (case hf => exact fun k_ hk => (.inr (Nat.le_trans (below_size uB) hk))); intro v359 w6 ho7 hb; (first | rw [← Ny358.out] at ho7 | (simp only [Int.reduceToNat] at ho7; rw [← Ny358.out] at ho7)); replace HO0 := Aside0.mk (Kd.V_elder' (uV HO0.out) (Kd.N_base ho7) hb); replace HO1 := Aside0.mk (Kd.V_elder' (uV HO1.out) (Kd.N_base ho7) hb); have HO360 := Aside0.mk (Kd.N_lower ho7 (below_size uB)); replace HB := uy hb; clear hb ho7; obtain ⟨Ao8, co8, eo8⟩ := Kd.N_slice HO360.out; subst eo8) | ((with_reducible refine ug 62 rfl ?_); refine uh (some 15) rfl Try.func62 #[.slice Ao8 y358.length co8] ?_; (with_reducible refine (nat_right.calls _ _ y358 true _ (uC (Kd.N_reads' HO360.out).2.2) ((Kd.N_reads' HO360.out).2.1) A3.out).mono ?_); rintro e w' ⟨rfl, ⟨nd, rfl⟩⟩; refine ⟨_, rfl, ?_⟩))
   go_ret3
   exact ⟨_, _, uF, uI, uI, uB⟩
  rw [if_neg c5] at H
  have c5b0 := beq_eq_false_iff_ne.mpr c5
  have c5b1 := bne_iff_ne.mpr c5
  have c5b2 : ¬ (l1 = []) := fun h_ => c5 (by rw [h_]; rfl)
  replace ⟨t362, A9, H⟩ := ub H
  by_cases c10 : t362 < 0
  ·
   rw [if_pos c10] at H
   have c10b0 := decide_eq_true c10
   clear c10
   replace ⟨t363, A11, H⟩ := ub H
   simp only [Option.some.injEq, Prod.mk.injEq] at H
   obtain ⟨rfl, rfl, rfl⟩ := H
   go_enter Try.func43, Try.ntmps43
   go_wp2_with (first | ((with_reducible refine gate_dst (N := 14) rfl ?_); refine uNl 14 23 (Kd.slice 42 (Kd.int .u64)) ([l0, l1] : List (List Int)) [.slice A0 l0.length c0, .slice A1 l1.length c1] (fun k_ => ((P0_ k_ ∨ P1_ k_) ∨ w.heap.size ≤ k_)) rfl rfl ?hp ?hf ?_; (case hp => exact (Reps.one (uFs HO0.out) (Reps.one (uFs HO1.out) (Reps.none _ _)))); (case hf => exact fun k_ hk => (.inr (Nat.le_trans (below_size uB) hk))); intro v359 w12 ho13 hb; (first | rw [← Ny358.out] at ho13 | (simp only [Int.reduceToNat] at ho13; rw [← Ny358.out] at ho13)); replace HO0 := Aside0.mk (Kd.V_elder' (uV HO0.out) (Kd.N_base ho13) hb); replace HO1 := Aside0.mk (Kd.V_elder' (uV HO1.out) (Kd.N_base ho13) hb); have HO360 := Aside0.mk (Kd.N_lower ho13 (below_size uB)); replace HB := uy hb; clear hb ho13; obtain ⟨Ao14, co14, eo14⟩ := Kd.N_slice HO360.out; subst eo14) | ((with_reducible refine ug 62 rfl ?_); refine uh (some 15) rfl Try.func62 #[.slice Ao14 y358.length co14] ?_; (with_reducible refine (nat_right.calls _ _ y358 true _ (uC (Kd.N_reads' HO360.out).2.2) ((Kd.N_reads' HO360.out).2.1) A3.out).mono ?_); rintro e w' ⟨rfl, ⟨nd, rfl⟩⟩; refine ⟨_, rfl, ?_⟩) | ((with_reducible refine ug 63 rfl ?_); refine uh (some 24) rfl Try.func63 #[.slice A0 l0.length c0, .slice A1 l1.length c1] ?_; (with_reducible refine (nat_compare.calls k _ _ l0 _ _ l1 t362 _ (uC (Kd.V_reads' HO0.out).2.2) ((Kd.V_reads' HO0.out).2.1) (uC (Kd.V_reads' HO1.out).2.2) ((Kd.V_reads' HO1.out).2.1) A9.out).mono ?_); rintro e w' ⟨rfl, ⟨nd, rfl⟩⟩; refine ⟨_, rfl, ?_⟩) | ((with_reducible refine ug 67 rfl ?_); refine uh (some 27) rfl Try.func67 #[.slice A0 l0.length c0] ?_; (with_reducible refine (api_Nat_uint64.calls _ _ l0 t363 _ (uC (Kd.V_reads' HO0.out).2.2) ((Kd.V_reads' HO0.out).2.1) A11.out).mono ?_); rintro e w15 ⟨v364, rfl, ho0, hb⟩; refine ⟨_, rfl, ?_⟩; replace HO0 := ueV HO0 ho0 hb; replace HO1 := ueV HO1 ho0 hb; replace HO360 := ueN HO360 ho0 hb; have HO365 := ulo (Kd.R_newM (M := fun k_ => (w.heap.size ≤ k_)) ho0 (below_size uB) (fun k_ h_ => h_)); replace HB := uy hb; (try clear hb ho0)))
   go_ret3
   exact ⟨_, _, uF, uI, by exact uR (Kd.R_mono HO365.out (fun _ hk => ⟨hk.1, (by simp [Value.ownBlock])⟩)), uB⟩
  rw [if_neg c10] at H
  have c10b0 := decide_eq_false c10
  clear c10
  by_cases c16 : (l1.length : Int) = 1
  ·
   rw [if_pos c16] at H
   have c16b0 := beq_iff_eq.mpr c16
   have c16b1 := bne_eq_false_iff_eq.mpr c16
   clear c16
   replace ⟨c17, H⟩ := uT H
   have c17b0 := decide_eq_true c17
   have c17b1 : decide (0 < l1.length) = true := decide_eq_true (by omega)
   clear c17
   replace ⟨⟨t367, t368⟩, A18, H⟩ := ub H
   (try dsimp only at H)
   replace ⟨t371, A19, H⟩ := ub H
   simp only [Option.some.injEq, Prod.mk.injEq] at H
   obtain ⟨rfl, rfl, rfl⟩ := H
   go_enter Try.func43, Try.ntmps43
   go_wp2_with (first | ((with_reducible refine gate_dst (N := 14) rfl ?_); refine uNl 14 23 (Kd.slice 42 (Kd.int .u64)) ([l0, l1] : List (List Int)) [.slice A0 l0.length c0, .slice A1 l1.length c1] (fun k_ => ((P0_ k_ ∨ P1_ k_) ∨ w.heap.size ≤ k_)) rfl rfl ?hp ?hf ?_; (case hp => exact (Reps.one (uFs HO0.out) (Reps.one (uFs HO1.out) (Reps.none _ _)))); (case hf => exact fun k_ hk => (.inr (Nat.le_trans (below_size uB) hk))); intro v359 w20 ho21 hb; (first | rw [← Ny358.out] at ho21 | (simp only [Int.reduceToNat] at ho21; rw [← Ny358.out] at ho21)); replace HO0 := Aside0.mk (Kd.V_elder' (uV HO0.out) (Kd.N_base ho21) hb); replace HO1 := Aside0.mk (Kd.V_elder' (uV HO1.out) (Kd.N_base ho21) hb); have HO360 := Aside0.mk (Kd.N_lower ho21 (below_size uB)); replace HB := uy hb; clear hb ho21; obtain ⟨Ao22, co22, eo22⟩ := Kd.N_slice HO360.out; subst eo22) | ((with_reducible refine ug 62 rfl ?_); refine uh (some 15) rfl Try.func62 #[.slice Ao22 y358.length co22] ?_; (with_reducible refine (nat_right.calls _ _ y358 true _ (uC (Kd.N_reads' HO360.out).2.2) ((Kd.N_reads' HO360.out).2.1) A3.out).mono ?_); rintro e w' ⟨rfl, ⟨nd, rfl⟩⟩; refine ⟨_, rfl, ?_⟩) | ((with_reducible refine ug 63 rfl ?_); refine uh (some 24) rfl Try.func63 #[.slice A0 l0.length c0, .slice A1 l1.length c1] ?_; (with_reducible refine (nat_compare.calls k _ _ l0 _ _ l1 t362 _ (uC (Kd.V_reads' HO0.out).2.2) ((Kd.V_reads' HO0.out).2.1) (uC (Kd.V_reads' HO1.out).2.2) ((Kd.V_reads' HO1.out).2.1) A9.out).mono ?_); rintro e w' ⟨rfl, ⟨nd, rfl⟩⟩; refine ⟨_, rfl, ?_⟩; have p366 : 0 ≤ (0 : Int) := (by omega); have q366 : 0 < (l1.length : Int) := uO; obtain ⟨ad366, e366, hx366_0⟩ := Kd.at_int (Kd.V_reads' HO1.out).2.2 0 p366 q366; cases e366; have qi366 : (0 < l1.length) = True := eq_true (by omega); (try rw [show ((0 : Int)).toNat = 0 from rfl] at hx366_0); (try rw [Addr.add_zero'] at hx366_0); replace p366 := eq_true p366; replace q366 := eq_true q366) | ((with_reducible refine ug 70 rfl ?_); refine uh (some 37) rfl Try.func70 #[.slice A0 l0.length c0, .int .u64 (rd l1 0)] ?_; (with_reducible refine (nat_short.calls k _ _ l0 (rd l1 0) t367 t368 _ (uC (Kd.V_reads' HO0.out).2.2) ((Kd.V_reads' HO0.out).2.1) A18.out).mono ?_); rintro e w23 ⟨v369, rfl, ho0, hb⟩; refine ⟨_, rfl, ?_⟩; replace HO0 := ueV HO0 ho0 hb; replace HO1 := ueV HO1 ho0 hb; replace HO360 := ueN HO360 ho0 hb; have HO370 := ulo (Kd.R_newM (M := fun k_ => (w.heap.size ≤ k_)) ho0 (below_size uB) (fun k_ h_ => h_)); replace HB := uy hb; (try clear hb ho0)) | ((with_reducible refine ug 44 rfl ?_); refine uh (some 42) rfl Try.func44 #[.int .u64 t368] ?_; (with_reducible refine (nat_Of.calls k t368 t371 _ A19.out).mono ?_); rintro e w24 ⟨v372, rfl, ho0, hb⟩; refine ⟨_, rfl, ?_⟩; replace HO0 := ueV HO0 ho0 hb; replace HO1 := ueV HO1 ho0 hb; replace HO360 := ueN HO360 ho0 hb; have HO373 := ulo (unw (Kd.R_newM (M := fun k_ => (w.heap.size ≤ k_)) ho0 (below_size uB) (fun k_ h_ => h_)) HO370); replace HO370 := ueR HO370 ho0 hb; replace HB := uy hb; (try clear hb ho0)))
   go_ret3
   exact ⟨_, _, uF, by exact uR (Kd.R_mono HO370.out (fun _ hk => ⟨hk.1.1, hk.2⟩)), by (with_reducible repeat (first | apply Kd.R_alloc | apply Kd.R_drewN | apply Kd.R_drew)); exact Kd.R_mono HO373.out (fun _ hk => ⟨hk.1.1, hk.2⟩), uB⟩
  rw [if_neg c16] at H
  have c16b0 := beq_eq_false_iff_ne.mpr c16
  have c16b1 := bne_iff_ne.mpr c16
  replace ⟨⟨t374, t375⟩, A25, H⟩ := ub H
  (try dsimp only at H)
  simp only [Option.some.injEq, Prod.mk.injEq] at H
  obtain ⟨rfl, rfl, rfl⟩ := H
  go_enter Try.func43, Try.ntmps43
  go_wp2_with (first | ((with_reducible refine gate_dst (N := 14) rfl ?_); refine uNl 14 23 (Kd.slice 42 (Kd.int .u64)) ([l0, l1] : List (List Int)) [.slice A0 l0.length c0, .slice A1 l1.length c1] (fun k_ => ((P0_ k_ ∨ P1_ k_) ∨ w.heap.size ≤ k_)) rfl rfl ?hp ?hf ?_; (case hp => exact (Reps.one (uFs HO0.out) (Reps.one (uFs HO1.out) (Reps.none _ _)))); (case hf => exact fun k_ hk => (.inr (Nat.le_trans (below_size uB) hk))); intro v359 w26 ho27 hb; (first | rw [← Ny358.out] at ho27 | (simp only [Int.reduceToNat] at ho27; rw [← Ny358.out] at ho27)); replace HO0 := Aside0.mk (Kd.V_elder' (uV HO0.out) (Kd.N_base ho27) hb); replace HO1 := Aside0.mk (Kd.V_elder' (uV HO1.out) (Kd.N_base ho27) hb); have HO360 := Aside0.mk (Kd.N_lower ho27 (below_size uB)); replace HB := uy hb; clear hb ho27; obtain ⟨Ao28, co28, eo28⟩ := Kd.N_slice HO360.out; subst eo28) | ((with_reducible refine ug 62 rfl ?_); refine uh (some 15) rfl Try.func62 #[.slice Ao28 y358.length co28] ?_; (with_reducible refine (nat_right.calls _ _ y358 true _ (uC (Kd.N_reads' HO360.out).2.2) ((Kd.N_reads' HO360.out).2.1) A3.out).mono ?_); rintro e w' ⟨rfl, ⟨nd, rfl⟩⟩; refine ⟨_, rfl, ?_⟩) | ((with_reducible refine ug 63 rfl ?_); refine uh (some 24) rfl Try.func63 #[.slice A0 l0.length c0, .slice A1 l1.length c1] ?_; (with_reducible refine (nat_compare.calls k _ _ l0 _ _ l1 t362 _ (uC (Kd.V_reads' HO0.out).2.2) ((Kd.V_reads' HO0.out).2.1) (uC (Kd.V_reads' HO1.out).2.2) ((Kd.V_reads' HO1.out).2.1) A9.out).mono ?_); rintro e w' ⟨rfl, ⟨nd, rfl⟩⟩; refine ⟨_, rfl, ?_⟩) | ((with_reducible refine ug 71 rfl ?_); refine uh (some 46) rfl Try.func71 #[.slice A0 l0.length c0, .slice A1 l1.length c1] ?_; (with_reducible refine (nat_long.calls k _ _ l0 _ _ l1 t374 t375 _ (uC (Kd.V_reads' HO0.out).2.2) ((Kd.V_reads' HO0.out).2.1) (uC (Kd.V_reads' HO1.out).2.2) ((Kd.V_reads' HO1.out).2.1) A25.out).mono ?_); rintro e w29 ⟨v376, v378, rfl, ho0, ho1, hb⟩; refine ⟨_, rfl, ?_⟩; replace HO0 := Aside0.mk (Kd.V_mono (Kd.V_told (Kd.V_told (Kd.V_old (uV HO0.out) hb) (Kd.R_base ho0)) (Kd.R_base ho1)) (fun _ h_ => h_.1)); replace HO1 := Aside0.mk (Kd.V_mono (Kd.V_told (Kd.V_told (Kd.V_old (uV HO1.out) hb) (Kd.R_base ho0)) (Kd.R_base ho1)) (fun _ h_ => h_.1)); replace HO360 := Aside0.mk (Kd.N_mono (Kd.N_told (Kd.N_told (Kd.N_old (uN HO360.out) hb) (Kd.R_base ho0)) (Kd.R_base ho1)) (fun _ h_ => h_.1)); have HO377 := ulo (Kd.R_newM (M := fun k_ => (w.heap.size ≤ k_)) ho0 (below_size uB) (fun k_ h_ => h_)); have HO379 := ulo (Kd.R_newM (M := fun k_ => (w.heap.size ≤ k_)) ho1 (below_size uB) (fun k_ h_ => h_)); replace HB := uy hb; (try clear hb ho0 ho1)))
  go_ret3
  exact ⟨_, _, uF, uR HO377.out, uR HO379.out, uB⟩
 replace c4 := Bool.eq_false_iff.mpr c4
 subst c4
 rw [if_neg (show ¬ (false = true) by decide)] at H
 simp only [Option.some.injEq, Prod.mk.injEq] at H
 obtain ⟨rfl, rfl, rfl⟩ := H
 go_enter Try.func43, Try.ntmps43
 go_wp2_with (first | ((with_reducible refine gate_dst (N := 14) rfl ?_); refine uNl 14 23 (Kd.slice 42 (Kd.int .u64)) ([l0, l1] : List (List Int)) [.slice A0 l0.length c0, .slice A1 l1.length c1] (fun k_ => ((P0_ k_ ∨ P1_ k_) ∨ w.heap.size ≤ k_)) rfl rfl ?hp ?hf ?_; (case hp => exact (Reps.one (uFs HO0.out) (Reps.one (uFs HO1.out) (Reps.none _ _)))); (case hf => exact fun k_ hk => (.inr (Nat.le_trans (below_size uB) hk))); intro v359 w30 ho31 hb; (first | rw [← Ny358.out] at ho31 | (simp only [Int.reduceToNat] at ho31; rw [← Ny358.out] at ho31)); replace HO0 := Aside0.mk (Kd.V_elder' (uV HO0.out) (Kd.N_base ho31) hb); replace HO1 := Aside0.mk (Kd.V_elder' (uV HO1.out) (Kd.N_base ho31) hb); have HO360 := Aside0.mk (Kd.N_lower ho31 (below_size uB)); replace HB := uy hb; clear hb ho31; obtain ⟨Ao32, co32, eo32⟩ := Kd.N_slice HO360.out; subst eo32) | ((with_reducible refine ug 62 rfl ?_); refine uh (some 15) rfl Try.func62 #[.slice Ao32 y358.length co32] ?_; (with_reducible refine (nat_right.calls _ _ y358 false _ (uC (Kd.N_reads' HO360.out).2.2) ((Kd.N_reads' HO360.out).2.1) A3.out).mono ?_); rintro e w' ⟨rfl, ⟨nd, rfl⟩⟩; refine ⟨_, rfl, ?_⟩))
 go_ret3
 exact ⟨_, _, uF, uI, uI, uB⟩
def modint_Floor.j0 : Nat → List Int → List Int → Bool → Bool → List Int → Bool → List Int → Option (Bool × List Int × Bool × List Int × Int)
 | 0, _, _, _, _, _, _, _ => none
 | k + 1, x7, x8, x46, x381000, x381001, x382000, x382001 => if x46 = true then ((nat_Of.f k 1).bind fun t395 => ((nat_Add.f k x7 t395).bind fun bt398 => (if bt398.2 = 0 then ((nat_Sub.f k x382001 x8).bind fun bt402 => ((modint_From.f x381000 bt398.1).bind fun bt406 => ((modint_From.f false bt402.1).bind fun bt410 => (some (bt406.1, bt406.2, bt410.1, bt410.2, 0))))) else (some (false, ([] : List Int), false, ([] : List Int), bt398.2))))) else ((modint_From.f x381000 x7).bind fun bt414 => ((modint_From.f false x8).bind fun bt418 => (some (bt414.1, bt414.2, bt418.1, bt418.2, 0))))
def modint_Floor.f (k : Nat) (a0_0 : Bool) (l0_1 : List Int) (a1_0 : Bool) (l1_1 : List Int) : Option (Bool × List Int × Bool × List Int × Int) := (modint_right.f (([(⟨a0_0, l0_1⟩ : S44), (⟨a1_0, l1_1⟩ : S44)] : List (S44)))).bind fun t387 => (if t387 = true then (if (l1_1.length : Int) = 0 then (some (false, ([] : List Int), false, ([] : List Int), 3)) else (if a1_0 = true then (some (false, ([] : List Int), false, ([] : List Int), 1)) else ((nat_Div.f k l0_1 l1_1).bind fun bt388 => (if a0_0 = true then (modint_Floor.j0 k bt388.1 bt388.2.1 (decide ((bt388.2.1.length : Int) > 0)) a0_0 l0_1 a1_0 l1_1) else (modint_Floor.j0 k bt388.1 bt388.2.1 false a0_0 l0_1 a1_0 l1_1))))) else (some (false, ([] : List Int), false, ([] : List Int), 1)))
theorem modint_Floor.calls (k : Nat) (a0_0 : Bool) (P0_1_ : Nat → Prop) (A0_1 : Option Addr) (c0_1 : Nat) (l0_1 : List Int) (a1_0 : Bool) (P1_1_ : Nat → Prop) (A1_1 : Option Addr) (c1_1 : Nat) (l1_1 : List Int) (r1 : Bool) (r2 : List Int) (r3 : Bool) (r4 : List Int) (r5 : Int) (w : World) (hs0_1 : Kd.V (Kd.int .u64) 42 w w.heap.size (fun k_ => P0_1_ k_) (.slice A0_1 l0_1.length c0_1) l0_1) (hs1_1 : Kd.V (Kd.int .u64) 42 w w.heap.size (fun k_ => P1_1_ k_) (.slice A1_1 l1_1.length c1_1) l1_1) (h : modint_Floor.f k a0_0 l0_1 a1_0 l1_1 = some (r1, r2, r3, r4, r5)) :
  Calls Try.prog 16 #[.agg #[.bool a0_0, .slice A0_1 l0_1.length c0_1], .agg #[.bool a1_0, .slice A1_1 l1_1.length c1_1]] w fun e w' => ∃ v1_ v3_ : Value, e = .returned (.tuple #[.agg #[.bool r1, v1_], .agg #[.bool r3, v3_], .int .i64 r5]) ∧ Kd.R (Kd.int .u64) 42 w' w.heap.size (fun k_ => (w.heap.size ≤ k_) ∧ some k_ ≠ (v3_ : Value).ownBlock) v1_ r2 ∧ Kd.R (Kd.int .u64) 42 w' w.heap.size (fun k_ => (w.heap.size ≤ k_) ∧ some k_ ≠ (v1_ : Value).ownBlock) v3_ r4 ∧ Below w.heap.size w w' := by
 have hu44 := Try.underlying44
 have HO0_1 := Aside0.mk (show Kd.V (Kd.int .u64) 42 w w.heap.size (fun k_ => ((P0_1_ k_ ∨ P1_1_ k_) ∨ w.heap.size ≤ k_)) (.slice A0_1 l0_1.length c0_1) l0_1 from Kd.V_mono hs0_1 (fun k_ hk => .inl (.inl hk)))
 have HO1_1 := Aside0.mk (show Kd.V (Kd.int .u64) 42 w w.heap.size (fun k_ => ((P0_1_ k_ ∨ P1_1_ k_) ∨ w.heap.size ≤ k_)) (.slice A1_1 l1_1.length c1_1) l1_1 from Kd.V_mono hs1_1 (fun k_ hk => .inl (.inr hk)))
 have HB := Aside0.mk (Below.refl w.heap.size w)
 have H : ((modint_right.f (([(⟨a0_0, l0_1⟩ : S44), (⟨a1_0, l1_1⟩ : S44)] : List (S44)))).bind fun t387 => (if t387 = true then (if (l1_1.length : Int) = 0 then (some (false, ([] : List Int), false, ([] : List Int), 3)) else (if a1_0 = true then (some (false, ([] : List Int), false, ([] : List Int), 1)) else ((nat_Div.f k l0_1 l1_1).bind fun bt388 => (if a0_0 = true then (modint_Floor.j0 k bt388.1 bt388.2.1 (decide ((bt388.2.1.length : Int) > 0)) a0_0 l0_1 a1_0 l1_1) else (modint_Floor.j0 k bt388.1 bt388.2.1 false a0_0 l0_1 a1_0 l1_1))))) else (some (false, ([] : List Int), false, ([] : List Int), 1)))) = some (r1, r2, r3, r4, r5) := h
 clear h
 generalize hy384 : ((([(⟨a0_0, l0_1⟩ : S44), (⟨a1_0, l1_1⟩ : S44)] : List (S44))) : List (S44)) = y384 at H
 have Ny384 := Aside0.mk hy384.symm; clear hy384
 replace ⟨t387, A3, H⟩ := ub H
 by_cases c4 : t387 = true
 ·
  subst c4
  rw [if_pos rfl] at H
  by_cases c5 : (l1_1.length : Int) = 0
  ·
   rw [if_pos c5] at H
   have c5b0 := beq_iff_eq.mpr c5
   have c5b1 := bne_eq_false_iff_eq.mpr c5
   clear c5
   simp only [Option.some.injEq, Prod.mk.injEq] at H
   obtain ⟨rfl, rfl, rfl, rfl, rfl⟩ := H
   go_enter Try.func16, Try.ntmps16
   go_wp2_with (first | ((with_reducible refine gate_dst (N := 2) rfl ?_); (try (refine gate_guard (by rfl) ?_; dsimp only)); refine ubx 2 #[.bool a0_0, .slice A0_1 l0_1.length c0_1] 44 rfl rfl ?_; intro gb380 hg w6 hbox hb; replace HO0_1 := uvb HO0_1 hg hb; replace HO1_1 := uvb HO1_1 hg hb; have BK380 := Aside0.mk (hbox); have GW380 := us hg; have GE380 := us hg; replace HB := uy hb; clear hb hbox hg) | ((with_reducible refine gate_dst (N := 3) rfl ?_); (try (refine gate_guard (by rfl) ?_; dsimp only)); refine ubx 3 #[.bool a1_0, .slice A1_1 l1_1.length c1_1] 44 rfl rfl ?_; intro gb381 hg w7 hbox hb; replace HO0_1 := uvb HO0_1 hg hb; replace HO1_1 := uvb HO1_1 hg hb; have BK381 := Aside0.mk (hbox); have GW381 := us hg; have GE381 := us hg; replace HB := uy hb; obtain ⟨NB380_381, NB381_380⟩ := unb hg BK380; replace BK380 := ux BK380 hb; clear hb hbox hg) | ((with_reducible refine gate_dst (N := 4) rfl ?_); (try (refine gate_guard (by rfl) ?_; dsimp only)); refine ubx 4 #[.bool false, .slice none 0 0] 44 rfl rfl ?_; intro gb382 hg w8 hbox hb; replace HO0_1 := uvb HO0_1 hg hb; replace HO1_1 := uvb HO1_1 hg hb; have BK382 := Aside0.mk (hbox); have GW382 := us hg; have GE382 := us hg; replace HB := uy hb; obtain ⟨NB380_382, NB382_380⟩ := unb hg BK380; replace BK380 := ux BK380 hb; obtain ⟨NB381_382, NB382_381⟩ := unb hg BK381; replace BK381 := ux BK381 hb; clear hb hbox hg) | ((with_reducible refine gate_dst (N := 5) rfl ?_); (try (refine gate_guard (by rfl) ?_; dsimp only)); refine ubx 5 #[.bool false, .slice none 0 0] 44 rfl rfl ?_; intro gb383 hg w9 hbox hb; replace HO0_1 := uvb HO0_1 hg hb; replace HO1_1 := uvb HO1_1 hg hb; have BK383 := Aside0.mk (hbox); have GW383 := us hg; have GE383 := us hg; replace HB := uy hb; obtain ⟨NB380_383, NB383_380⟩ := unb hg BK380; replace BK380 := ux BK380 hb; obtain ⟨NB381_383, NB383_381⟩ := unb hg BK381; replace BK381 := ux BK381 hb; obtain ⟨NB382_383, NB383_382⟩ := unb hg BK382; replace BK382 := ux BK382 hb; clear hb hbox hg; have hnb10 := NB380_381.out; have hnc10 := NB381_380.out; have hnb11 := NB380_382.out; have hnc11 := NB382_380.out; have hnb12 := NB380_383.out; have hnc12 := NB383_380.out; obtain ⟨hcz13_0, hcz13_1, hfz13_0, hfz13_1⟩ := uz2 w9 BK380; have hnb14 := NB381_382.out; have hnc14 := NB382_381.out; have hnb15 := NB381_383.out; have hnc15 := NB383_381.out; obtain ⟨hcz16_0, hcz16_1, hfz16_0, hfz16_1⟩ := uz2 w9 BK381) | ((with_reducible refine gate_dst (N := 14) rfl ?_); (try (refine gate_guard (by rfl) ?_; dsimp only)); refine uNl 14 44 k44 ([(⟨a0_0, l0_1⟩ : S44), (⟨a1_0, l1_1⟩ : S44)] : List (S44)) [.bool a0_0, .slice A0_1 l0_1.length c0_1, .bool a1_0, .slice A1_1 l1_1.length c1_1] (fun k_ => ((P0_1_ k_ ∨ P1_1_ k_) ∨ w.heap.size ≤ k_) ∧ k_ ≠ gb380 ∧ k_ ≠ gb381 ∧ k_ ≠ gb382 ∧ k_ ≠ gb383) rfl rfl ?hp ?hf ?_; (case hp => exact (Reps.c2 (k44_mkF _ _ (⟨a0_0, l0_1⟩ : S44) (Kd.V_reads' HO0_1.out).2.1 (Kd.V_F (Kd.V_mono (HO0_1.out) (fun k_ hk => ⟨hk.1.1.1.1, ⟨hk.1.1.1.2, ⟨hk.1.1.2, ⟨hk.1.2, hk.2⟩⟩⟩⟩)))) (Reps.c2 (k44_mkF _ _ (⟨a1_0, l1_1⟩ : S44) (Kd.V_reads' HO1_1.out).2.1 (Kd.V_F (Kd.V_mono (HO1_1.out) (fun k_ hk => ⟨hk.1.1.1.1, ⟨hk.1.1.1.2, ⟨hk.1.1.2, ⟨hk.1.2, hk.2⟩⟩⟩⟩)))) (Reps.none _ _)))); (case hf => exact fun k_ hk => ⟨(.inr (Nat.le_trans (below_size uB) hk)), Kd.freshB (g := gb380) (o := .cells #[.bool a0_0, .slice A0_1 l0_1.length c0_1] 44 (0, 0)) (uK BK380.out) k_ hk, Kd.freshB (g := gb381) (o := .cells #[.bool a1_0, .slice A1_1 l1_1.length c1_1] 44 (0, 0)) (uK BK381.out) k_ hk, Kd.freshB (g := gb382) (o := .cells #[.bool false, .slice none 0 0] 44 (0, 0)) (uK BK382.out) k_ hk, Kd.freshB (g := gb383) (o := .cells #[.bool false, .slice none 0 0] 44 (0, 0)) (uK BK383.out) k_ hk⟩); intro v385 w17 ho18 hb; (first | rw [← Ny384.out] at ho18 | (simp only [Int.reduceToNat] at ho18; rw [← Ny384.out] at ho18)); replace HO0_1 := Aside0.mk (Kd.V_elder' (uV HO0_1.out) (Kd.N_base ho18) hb); replace HO1_1 := Aside0.mk (Kd.V_elder' (uV HO1_1.out) (Kd.N_base ho18) hb); have HO386 := Aside0.mk (Kd.N_lower ho18 (below_size uB)); replace BK380 := ux BK380 hb; replace BK381 := ux BK381 hb; replace BK382 := ux BK382 hb; replace BK383 := ux BK383 hb; replace HB := uy hb; clear hb ho18; obtain ⟨Ao19, co19, eo19⟩ := Kd.N_slice HO386.out; subst eo19) | ((with_reducible refine ug 42 rfl ?_); refine uh (some 15) rfl Try.func42 #[.slice Ao19 y384.length co19] ?_; (with_reducible refine (modint_right.calls _ _ y384 true _ (uC (Kd.N_reads' HO386.out).2.2) ((Kd.N_reads' HO386.out).2.1) A3.out).mono ?_); rintro e w20 ⟨rfl, hb⟩; refine ⟨_, rfl, ?_⟩; replace HO0_1 := Aside0.mk (Kd.V_below (uV HO0_1.out) hb); replace HO1_1 := Aside0.mk (Kd.V_below (uV HO1_1.out) hb); replace HO386 := Aside0.mk (Kd.N_below (uN HO386.out) hb); replace BK380 := ux BK380 hb; replace BK381 := ux BK381 hb; replace BK382 := ux BK382 hb; replace BK383 := ux BK383 hb; replace HB := uy hb; (try clear hb); obtain ⟨hcz21_0, hcz21_1, hfz21_0, hfz21_1⟩ := uz2 w20 BK381; have hnb22 := NB382_383.out; have hnc22 := NB383_382.out; obtain ⟨hcz23_0, hcz23_1, hfz23_0, hfz23_1⟩ := uz2 w20 BK382; obtain ⟨hcz24_0, hcz24_1, hfz24_0, hfz24_1⟩ := uz2 w20 BK383))
   refine bodyPost_ret (results_list (rs := [.cell 4 44, .cell 5 44, .tmp 6]) rfl (by simp) (.cell gb382 44 #[.bool false, .slice none 0 0] (0, 0) _ rfl (by refine blk_far ?_ NB382_383.out _; refine blk_far ?_ NB382_383.out _; refine blk_put (cs := #[.bool false, .slice none 0 0]) ?_ 1 _ rfl; refine blk_put (cs := #[.bool false, .slice none 0 0]) ?_ 0 _ rfl; exact uK BK382.out) Try.underlying44 rfl (by kernel_rfl) (.cell gb383 44 #[.bool false, .slice none 0 0] (0, 0) _ rfl (by refine blk_put (cs := #[.bool false, .slice none 0 0]) ?_ 1 _ rfl; refine blk_put (cs := #[.bool false, .slice none 0 0]) ?_ 0 _ rfl; refine blk_far ?_ NB383_382.out _; refine blk_far ?_ NB383_382.out _; exact uK BK383.out) Try.underlying44 rfl (by kernel_rfl) (.tmp .nil)))) rfl ?_
   exact ⟨_, _, uF, uI, uI, uB⟩
  rw [if_neg c5] at H
  have c5b0 := beq_eq_false_iff_ne.mpr c5
  have c5b1 := bne_iff_ne.mpr c5
  have c5b2 : ¬ (l1_1 = []) := fun h_ => c5 (by rw [h_]; rfl)
  by_cases c25 : a1_0 = true
  ·
   subst c25
   rw [if_pos rfl] at H
   simp only [Option.some.injEq, Prod.mk.injEq] at H
   obtain ⟨rfl, rfl, rfl, rfl, rfl⟩ := H
   go_enter Try.func16, Try.ntmps16
   go_wp2_with (first | ((with_reducible refine gate_dst (N := 2) rfl ?_); (try (refine gate_guard (by rfl) ?_; dsimp only)); refine ubx 2 #[.bool a0_0, .slice A0_1 l0_1.length c0_1] 44 rfl rfl ?_; intro gb380 hg w26 hbox hb; replace HO0_1 := uvb HO0_1 hg hb; replace HO1_1 := uvb HO1_1 hg hb; have BK380 := Aside0.mk (hbox); have GW380 := us hg; have GE380 := us hg; replace HB := uy hb; clear hb hbox hg) | ((with_reducible refine gate_dst (N := 3) rfl ?_); (try (refine gate_guard (by rfl) ?_; dsimp only)); refine ubx 3 #[.bool true, .slice A1_1 l1_1.length c1_1] 44 rfl rfl ?_; intro gb381 hg w27 hbox hb; replace HO0_1 := uvb HO0_1 hg hb; replace HO1_1 := uvb HO1_1 hg hb; have BK381 := Aside0.mk (hbox); have GW381 := us hg; have GE381 := us hg; replace HB := uy hb; obtain ⟨NB380_381, NB381_380⟩ := unb hg BK380; replace BK380 := ux BK380 hb; clear hb hbox hg) | ((with_reducible refine gate_dst (N := 4) rfl ?_); (try (refine gate_guard (by rfl) ?_; dsimp only)); refine ubx 4 #[.bool false, .slice none 0 0] 44 rfl rfl ?_; intro gb382 hg w28 hbox hb; replace HO0_1 := uvb HO0_1 hg hb; replace HO1_1 := uvb HO1_1 hg hb; have BK382 := Aside0.mk (hbox); have GW382 := us hg; have GE382 := us hg; replace HB := uy hb; obtain ⟨NB380_382, NB382_380⟩ := unb hg BK380; replace BK380 := ux BK380 hb; obtain ⟨NB381_382, NB382_381⟩ := unb hg BK381; replace BK381 := ux BK381 hb; clear hb hbox hg) | ((with_reducible refine gate_dst (N := 5) rfl ?_); (try (refine gate_guard (by rfl) ?_; dsimp only)); refine ubx 5 #[.bool false, .slice none 0 0] 44 rfl rfl ?_; intro gb383 hg w29 hbox hb; replace HO0_1 := uvb HO0_1 hg hb; replace HO1_1 := uvb HO1_1 hg hb; have BK383 := Aside0.mk (hbox); have GW383 := us hg; have GE383 := us hg; replace HB := uy hb; obtain ⟨NB380_383, NB383_380⟩ := unb hg BK380; replace BK380 := ux BK380 hb; obtain ⟨NB381_383, NB383_381⟩ := unb hg BK381; replace BK381 := ux BK381 hb; obtain ⟨NB382_383, NB383_382⟩ := unb hg BK382; replace BK382 := ux BK382 hb; clear hb hbox hg; have hnb30 := NB380_381.out; have hnc30 := NB381_380.out; have hnb31 := NB380_382.out; have hnc31 := NB382_380.out; have hnb32 := NB380_383.out; have hnc32 := NB383_380.out; obtain ⟨hcz33_0, hcz33_1, hfz33_0, hfz33_1⟩ := uz2 w29 BK380; have hnb34 := NB381_382.out; have hnc34 := NB382_381.out; have hnb35 := NB381_383.out; have hnc35 := NB383_381.out; obtain ⟨hcz36_0, hcz36_1, hfz36_0, hfz36_1⟩ := uz2 w29 BK381) | ((with_reducible refine gate_dst (N := 14) rfl ?_); (try (refine gate_guard (by rfl) ?_; dsimp only)); refine uNl 14 44 k44 ([(⟨a0_0, l0_1⟩ : S44), (⟨true, l1_1⟩ : S44)] : List (S44)) [.bool a0_0, .slice A0_1 l0_1.length c0_1, .bool true, .slice A1_1 l1_1.length c1_1] (fun k_ => ((P0_1_ k_ ∨ P1_1_ k_) ∨ w.heap.size ≤ k_) ∧ k_ ≠ gb380 ∧ k_ ≠ gb381 ∧ k_ ≠ gb382 ∧ k_ ≠ gb383) rfl rfl ?hp ?hf ?_; (case hp => exact (Reps.c2 (k44_mkF _ _ (⟨a0_0, l0_1⟩ : S44) (Kd.V_reads' HO0_1.out).2.1 (Kd.V_F (Kd.V_mono (HO0_1.out) (fun k_ hk => ⟨hk.1.1.1.1, ⟨hk.1.1.1.2, ⟨hk.1.1.2, ⟨hk.1.2, hk.2⟩⟩⟩⟩)))) (Reps.c2 (k44_mkF _ _ (⟨true, l1_1⟩ : S44) (Kd.V_reads' HO1_1.out).2.1 (Kd.V_F (Kd.V_mono (HO1_1.out) (fun k_ hk => ⟨hk.1.1.1.1, ⟨hk.1.1.1.2, ⟨hk.1.1.2, ⟨hk.1.2, hk.2⟩⟩⟩⟩)))) (Reps.none _ _)))); (case hf => exact fun k_ hk => ⟨(.inr (Nat.le_trans (below_size uB) hk)), Kd.freshB (g := gb380) (o := .cells #[.bool a0_0, .slice A0_1 l0_1.length c0_1] 44 (0, 0)) (uK BK380.out) k_ hk, Kd.freshB (g := gb381) (o := .cells #[.bool true, .slice A1_1 l1_1.length c1_1] 44 (0, 0)) (uK BK381.out) k_ hk, Kd.freshB (g := gb382) (o := .cells #[.bool false, .slice none 0 0] 44 (0, 0)) (uK BK382.out) k_ hk, Kd.freshB (g := gb383) (o := .cells #[.bool false, .slice none 0 0] 44 (0, 0)) (uK BK383.out) k_ hk⟩); intro v385 w37 ho38 hb; (first | rw [← Ny384.out] at ho38 | (simp only [Int.reduceToNat] at ho38; rw [← Ny384.out] at ho38)); replace HO0_1 := Aside0.mk (Kd.V_elder' (uV HO0_1.out) (Kd.N_base ho38) hb); replace HO1_1 := Aside0.mk (Kd.V_elder' (uV HO1_1.out) (Kd.N_base ho38) hb); have HO386 := Aside0.mk (Kd.N_lower ho38 (below_size uB)); replace BK380 := ux BK380 hb; replace BK381 := ux BK381 hb; replace BK382 := ux BK382 hb; replace BK383 := ux BK383 hb; replace HB := uy hb; clear hb ho38; obtain ⟨Ao39, co39, eo39⟩ := Kd.N_slice HO386.out; subst eo39) | ((with_reducible refine ug 42 rfl ?_); refine uh (some 15) rfl Try.func42 #[.slice Ao39 y384.length co39] ?_; (with_reducible refine (modint_right.calls _ _ y384 true _ (uC (Kd.N_reads' HO386.out).2.2) ((Kd.N_reads' HO386.out).2.1) A3.out).mono ?_); rintro e w40 ⟨rfl, hb⟩; refine ⟨_, rfl, ?_⟩; replace HO0_1 := Aside0.mk (Kd.V_below (uV HO0_1.out) hb); replace HO1_1 := Aside0.mk (Kd.V_below (uV HO1_1.out) hb); replace HO386 := Aside0.mk (Kd.N_below (uN HO386.out) hb); replace BK380 := ux BK380 hb; replace BK381 := ux BK381 hb; replace BK382 := ux BK382 hb; replace BK383 := ux BK383 hb; replace HB := uy hb; (try clear hb); obtain ⟨hcz41_0, hcz41_1, hfz41_0, hfz41_1⟩ := uz2 w40 BK381; have hnb42 := NB382_383.out; have hnc42 := NB383_382.out; obtain ⟨hcz43_0, hcz43_1, hfz43_0, hfz43_1⟩ := uz2 w40 BK382; obtain ⟨hcz44_0, hcz44_1, hfz44_0, hfz44_1⟩ := uz2 w40 BK383))
   refine bodyPost_ret (results_list (rs := [.cell 4 44, .cell 5 44, .tmp 6]) rfl (by simp) (.cell gb382 44 #[.bool false, .slice none 0 0] (0, 0) _ rfl (by refine blk_far ?_ NB382_383.out _; refine blk_far ?_ NB382_383.out _; refine blk_put (cs := #[.bool false, .slice none 0 0]) ?_ 1 _ rfl; refine blk_put (cs := #[.bool false, .slice none 0 0]) ?_ 0 _ rfl; exact uK BK382.out) Try.underlying44 rfl (by kernel_rfl) (.cell gb383 44 #[.bool false, .slice none 0 0] (0, 0) _ rfl (by refine blk_put (cs := #[.bool false, .slice none 0 0]) ?_ 1 _ rfl; refine blk_put (cs := #[.bool false, .slice none 0 0]) ?_ 0 _ rfl; refine blk_far ?_ NB383_382.out _; refine blk_far ?_ NB383_382.out _; exact uK BK383.out) Try.underlying44 rfl (by kernel_rfl) (.tmp .nil)))) rfl ?_
   exact ⟨_, _, uF, uI, uI, uB⟩
  replace c25 := Bool.eq_false_iff.mpr c25
  subst c25
  rw [if_neg (show ¬ (false = true) by decide)] at H
  replace ⟨⟨t388, t391, t394⟩, A45, H⟩ := ub H
  (try dsimp only at H)
  have HC46 := Aside0.mk H; clear H
  go_enter Try.func16, Try.ntmps16
  go_upto_region 8 with (first | ((with_reducible refine gate_dst (N := 2) rfl ?_); (try (refine gate_guard (by rfl) ?_; dsimp only)); refine ubx 2 #[.bool a0_0, .slice A0_1 l0_1.length c0_1] 44 rfl rfl ?_; intro gb380 hg w47 hbox hb; replace HO0_1 := uvb HO0_1 hg hb; replace HO1_1 := uvb HO1_1 hg hb; have BK380 := Aside0.mk (hbox); have GW380 := us hg; have GE380 := us hg; replace HB := uy hb; clear hb hbox hg) | ((with_reducible refine gate_dst (N := 3) rfl ?_); (try (refine gate_guard (by rfl) ?_; dsimp only)); refine ubx 3 #[.bool false, .slice A1_1 l1_1.length c1_1] 44 rfl rfl ?_; intro gb381 hg w48 hbox hb; replace HO0_1 := uvb HO0_1 hg hb; replace HO1_1 := uvb HO1_1 hg hb; have BK381 := Aside0.mk (hbox); have GW381 := us hg; have GE381 := us hg; replace HB := uy hb; obtain ⟨NB380_381, NB381_380⟩ := unb hg BK380; replace BK380 := ux BK380 hb; clear hb hbox hg) | ((with_reducible refine gate_dst (N := 4) rfl ?_); (try (refine gate_guard (by rfl) ?_; dsimp only)); refine ubx 4 #[.bool false, .slice none 0 0] 44 rfl rfl ?_; intro gb382 hg w49 hbox hb; replace HO0_1 := uvb HO0_1 hg hb; replace HO1_1 := uvb HO1_1 hg hb; have BK382 := Aside0.mk (hbox); have GW382 := us hg; have GE382 := us hg; replace HB := uy hb; obtain ⟨NB380_382, NB382_380⟩ := unb hg BK380; replace BK380 := ux BK380 hb; obtain ⟨NB381_382, NB382_381⟩ := unb hg BK381; replace BK381 := ux BK381 hb; clear hb hbox hg) | ((with_reducible refine gate_dst (N := 5) rfl ?_); (try (refine gate_guard (by rfl) ?_; dsimp only)); refine ubx 5 #[.bool false, .slice none 0 0] 44 rfl rfl ?_; intro gb383 hg w50 hbox hb; replace HO0_1 := uvb HO0_1 hg hb; replace HO1_1 := uvb HO1_1 hg hb; have BK383 := Aside0.mk (hbox); have GW383 := us hg; have GE383 := us hg; replace HB := uy hb; obtain ⟨NB380_383, NB383_380⟩ := unb hg BK380; replace BK380 := ux BK380 hb; obtain ⟨NB381_383, NB383_381⟩ := unb hg BK381; replace BK381 := ux BK381 hb; obtain ⟨NB382_383, NB383_382⟩ := unb hg BK382; replace BK382 := ux BK382 hb; clear hb hbox hg; have hnb51 := NB380_381.out; have hnc51 := NB381_380.out; have hnb52 := NB380_382.out; have hnc52 := NB382_380.out; have hnb53 := NB380_383.out; have hnc53 := NB383_380.out; obtain ⟨hcz54_0, hcz54_1, hfz54_0, hfz54_1⟩ := uz2 w50 BK380; have hnb55 := NB381_382.out; have hnc55 := NB382_381.out; have hnb56 := NB381_383.out; have hnc56 := NB383_381.out; obtain ⟨hcz57_0, hcz57_1, hfz57_0, hfz57_1⟩ := uz2 w50 BK381) | ((with_reducible refine gate_dst (N := 14) rfl ?_); (try (refine gate_guard (by rfl) ?_; dsimp only)); refine uNl 14 44 k44 ([(⟨a0_0, l0_1⟩ : S44), (⟨false, l1_1⟩ : S44)] : List (S44)) [.bool a0_0, .slice A0_1 l0_1.length c0_1, .bool false, .slice A1_1 l1_1.length c1_1] (fun k_ => ((P0_1_ k_ ∨ P1_1_ k_) ∨ w.heap.size ≤ k_) ∧ k_ ≠ gb380 ∧ k_ ≠ gb381 ∧ k_ ≠ gb382 ∧ k_ ≠ gb383) rfl rfl ?hp ?hf ?_; (case hp => exact (Reps.c2 (k44_mkF _ _ (⟨a0_0, l0_1⟩ : S44) (Kd.V_reads' HO0_1.out).2.1 (Kd.V_F (Kd.V_mono (HO0_1.out) (fun k_ hk => ⟨hk.1.1.1.1, ⟨hk.1.1.1.2, ⟨hk.1.1.2, ⟨hk.1.2, hk.2⟩⟩⟩⟩)))) (Reps.c2 (k44_mkF _ _ (⟨false, l1_1⟩ : S44) (Kd.V_reads' HO1_1.out).2.1 (Kd.V_F (Kd.V_mono (HO1_1.out) (fun k_ hk => ⟨hk.1.1.1.1, ⟨hk.1.1.1.2, ⟨hk.1.1.2, ⟨hk.1.2, hk.2⟩⟩⟩⟩)))) (Reps.none _ _)))); (case hf => exact fun k_ hk => ⟨(.inr (Nat.le_trans (below_size uB) hk)), Kd.freshB (g := gb380) (o := .cells #[.bool a0_0, .slice A0_1 l0_1.length c0_1] 44 (0, 0)) (uK BK380.out) k_ hk, Kd.freshB (g := gb381) (o := .cells #[.bool false, .slice A1_1 l1_1.length c1_1] 44 (0, 0)) (uK BK381.out) k_ hk, Kd.freshB (g := gb382) (o := .cells #[.bool false, .slice none 0 0] 44 (0, 0)) (uK BK382.out) k_ hk, Kd.freshB (g := gb383) (o := .cells #[.bool false, .slice none 0 0] 44 (0, 0)) (uK BK383.out) k_ hk⟩); intro v385 w58 ho59 hb; (first | rw [← Ny384.out] at ho59 | (simp only [Int.reduceToNat] at ho59; rw [← Ny384.out] at ho59)); replace HO0_1 := Aside0.mk (Kd.V_elder' (uV HO0_1.out) (Kd.N_base ho59) hb); replace HO1_1 := Aside0.mk (Kd.V_elder' (uV HO1_1.out) (Kd.N_base ho59) hb); have HO386 := Aside0.mk (Kd.N_lower ho59 (below_size uB)); replace BK380 := ux BK380 hb; replace BK381 := ux BK381 hb; replace BK382 := ux BK382 hb; replace BK383 := ux BK383 hb; replace HB := uy hb; clear hb ho59; obtain ⟨Ao60, co60, eo60⟩ := Kd.N_slice HO386.out; subst eo60) | ((with_reducible refine ug 42 rfl ?_); refine uh (some 15) rfl Try.func42 #[.slice Ao60 y384.length co60] ?_; (with_reducible refine (modint_right.calls _ _ y384 true _ (uC (Kd.N_reads' HO386.out).2.2) ((Kd.N_reads' HO386.out).2.1) A3.out).mono ?_); rintro e w61 ⟨rfl, hb⟩; refine ⟨_, rfl, ?_⟩; replace HO0_1 := Aside0.mk (Kd.V_below (uV HO0_1.out) hb); replace HO1_1 := Aside0.mk (Kd.V_below (uV HO1_1.out) hb); replace HO386 := Aside0.mk (Kd.N_below (uN HO386.out) hb); replace BK380 := ux BK380 hb; replace BK381 := ux BK381 hb; replace BK382 := ux BK382 hb; replace BK383 := ux BK383 hb; replace HB := uy hb; (try clear hb); obtain ⟨hcz62_0, hcz62_1, hfz62_0, hfz62_1⟩ := uz2 w61 BK381; obtain ⟨hcz63_0, hcz63_1, hfz63_0, hfz63_1⟩ := uz2 w61 BK380) | ((with_reducible refine ug 43 rfl ?_); refine uh (some 36) rfl Try.func43 #[.slice A0_1 l0_1.length c0_1, .slice A1_1 l1_1.length c1_1] ?_; (with_reducible refine (nat_Div.calls k (fun k_ => (((((((P0_1_ k_ ∨ P1_1_ k_) ∨ w.heap.size ≤ k_) ∧ k_ ≠ gb380) ∧ k_ ≠ gb381) ∧ k_ ≠ gb382) ∧ k_ ≠ gb383) ∧ some k_ ≠ (.slice Ao60 y384.length co60 : Value).ownBlock)) _ _ l0_1 (fun k_ => (((((((P0_1_ k_ ∨ P1_1_ k_) ∨ w.heap.size ≤ k_) ∧ k_ ≠ gb380) ∧ k_ ≠ gb381) ∧ k_ ≠ gb382) ∧ k_ ≠ gb383) ∧ some k_ ≠ (.slice Ao60 y384.length co60 : Value).ownBlock)) _ _ l1_1 t388 t391 t394 _ HO0_1.out HO1_1.out A45.out).mono ?_); rintro e w64 ⟨v389, v392, rfl, ho0, ho1, hb⟩; refine ⟨_, rfl, ?_⟩; replace HO0_1 := Aside0.mk (Kd.V_mono (Kd.V_told (Kd.V_told (Kd.V_old (uV HO0_1.out) hb) (Kd.R_base ho0)) (Kd.R_base ho1)) (fun _ h_ => h_.1)); replace HO1_1 := Aside0.mk (Kd.V_mono (Kd.V_told (Kd.V_told (Kd.V_old (uV HO1_1.out) hb) (Kd.R_base ho0)) (Kd.R_base ho1)) (fun _ h_ => h_.1)); replace HO386 := Aside0.mk (Kd.N_mono (Kd.N_told (Kd.N_told (Kd.N_old (uN HO386.out) hb) (Kd.R_base ho0)) (Kd.R_base ho1)) (fun _ h_ => h_.1)); have HO390 := ulo (Kd.R_newM (M := fun k_ => (w.heap.size ≤ k_)) (Kd.R_mono (ok' := fun k_ => some k_ ≠ (v392 : Value).ownBlock) ho0 (fun _ hk_ => hk_.2)) (below_size uB) (fun k_ h_ => h_)); have HO393 := ulo (Kd.R_newM (M := fun k_ => (w.heap.size ≤ k_)) (Kd.R_mono (ok' := fun k_ => some k_ ≠ (v389 : Value).ownBlock) ho1 (fun _ hk_ => hk_.2)) (below_size uB) (fun k_ h_ => h_)); replace BK380 := ux BK380 hb; replace BK381 := ux BK381 hb; replace BK382 := ux BK382 hb; replace BK383 := ux BK383 hb; replace HB := uy hb; (try clear hb ho0 ho1)))
  (try simp only [Act.put, List.setIfInBounds_toArray, List.set_cons_zero, List.set_cons_succ])
  go_cut [46] (fun v46 wc => ∃ (kq : Nat) (x46_45 : Bool), v46 = .bool x46_45 ∧ Aside0 (modint_Floor.j0 kq t388 t391 x46_45 a0_0 l0_1 false l1_1 = some (r1, r2, r3, r4, r5)) ∧ Aside0 (kq ≤ k) ∧ Aside0 (Kd.R (Kd.int .u64) 42 wc w.heap.size (fun k_ => (w.heap.size ≤ k_) ∧ some k_ ≠ (v392 : Value).ownBlock) v389 t388) ∧ Aside0 (Kd.R (Kd.int .u64) 42 wc w.heap.size (fun k_ => (w.heap.size ≤ k_) ∧ some k_ ≠ (v389 : Value).ownBlock) v392 t391) ∧ Aside0 (Kd.V (Kd.int .u64) 42 wc w.heap.size (fun k_ => ((P0_1_ k_ ∨ P1_1_ k_) ∨ w.heap.size ≤ k_) ∧ some k_ ≠ (v389 : Value).ownBlock ∧ some k_ ≠ (v392 : Value).ownBlock ∧ k_ ≠ gb380 ∧ k_ ≠ gb381 ∧ k_ ≠ gb382 ∧ k_ ≠ gb383) (.slice A0_1 l0_1.length c0_1) l0_1) ∧ Aside0 (Kd.V (Kd.int .u64) 42 wc w.heap.size (fun k_ => ((P0_1_ k_ ∨ P1_1_ k_) ∨ w.heap.size ≤ k_) ∧ some k_ ≠ (v389 : Value).ownBlock ∧ some k_ ≠ (v392 : Value).ownBlock ∧ k_ ≠ gb380 ∧ k_ ≠ gb381 ∧ k_ ≠ gb382 ∧ k_ ≠ gb383) (.slice A1_1 l1_1.length c1_1) l1_1) ∧ Aside0 (wc.heap[gb380]? = some (.cells #[.bool a0_0, (.slice A0_1 l0_1.length c0_1)] 44 (0, 0))) ∧ Aside0 (wc.heap[gb381]? = some (.cells #[.bool false, (.slice A1_1 l1_1.length c1_1)] 44 (0, 0))) ∧ Aside0 (wc.heap[gb382]? = some (.cells #[.bool false, (.slice none 0 0)] 44 (0, 0))) ∧ Aside0 (wc.heap[gb383]? = some (.cells #[.bool false, (.slice none 0 0)] 44 (0, 0))) ∧ Aside0 (Below w.heap.size w wc))
  case first =>
   have H := HC46.out
   clear HC46
   by_cases c65 : a0_0 = true
   ·
    subst c65
    rw [if_pos rfl] at H
    have H' := Aside0.mk H
    clear H
    have hnb66 := NB380_381.out
    have hnc66 := NB381_380.out
    have hnb67 := NB380_382.out
    have hnc67 := NB382_380.out
    have hnb68 := NB380_383.out
    have hnc68 := NB383_380.out
    obtain ⟨hcz69_0, hcz69_1, hfz69_0, hfz69_1⟩ := uz2 w64 BK380
    obtain ⟨Ao70, co70, eo70⟩ := Kd.R_slice HO393.out
    subst eo70
    go_wp2
    go_meet
    case rel => exact ⟨_, (decide ((t391.length : Int) > 0)), uG, H', ⟨uW⟩, ⟨uR HO390.out⟩, ⟨uR HO393.out⟩, ⟨by (with_reducible repeat (first | apply Kd.V_alloc | apply Kd.V_drewN | apply Kd.V_drew)); exact Kd.V_mono HO0_1.out (fun _ hk => ⟨hk.1.1.1.1.1.1.1, ⟨hk.1.2, ⟨hk.2, ⟨hk.1.1.1.1.1.1.2, ⟨hk.1.1.1.1.1.2, ⟨hk.1.1.1.1.2, hk.1.1.1.2⟩⟩⟩⟩⟩⟩)⟩, ⟨by (with_reducible repeat (first | apply Kd.V_alloc | apply Kd.V_drewN | apply Kd.V_drew)); exact Kd.V_mono HO1_1.out (fun _ hk => ⟨hk.1.1.1.1.1.1.1, ⟨hk.1.2, ⟨hk.2, ⟨hk.1.1.1.1.1.1.2, ⟨hk.1.1.1.1.1.2, ⟨hk.1.1.1.1.2, hk.1.1.1.2⟩⟩⟩⟩⟩⟩)⟩, ⟨uK BK380.out⟩, ⟨uK BK381.out⟩, ⟨uK BK382.out⟩, ⟨uK BK383.out⟩, ⟨uB⟩⟩
   replace c65 := Bool.eq_false_iff.mpr c65
   subst c65
   rw [if_neg (show ¬ (false = true) by decide)] at H
   have H' := Aside0.mk H
   clear H
   have hnb71 := NB380_381.out
   have hnc71 := NB381_380.out
   have hnb72 := NB380_382.out
   have hnc72 := NB382_380.out
   have hnb73 := NB380_383.out
   have hnc73 := NB383_380.out
   obtain ⟨hcz74_0, hcz74_1, hfz74_0, hfz74_1⟩ := uz2 w64 BK380
   go_wp2
   go_meet
   case rel => exact ⟨_, (false), uG, H', ⟨uW⟩, ⟨uR HO390.out⟩, ⟨uR HO393.out⟩, ⟨by (with_reducible repeat (first | apply Kd.V_alloc | apply Kd.V_drewN | apply Kd.V_drew)); exact Kd.V_mono HO0_1.out (fun _ hk => ⟨hk.1.1.1.1.1.1.1, ⟨hk.1.2, ⟨hk.2, ⟨hk.1.1.1.1.1.1.2, ⟨hk.1.1.1.1.1.2, ⟨hk.1.1.1.1.2, hk.1.1.1.2⟩⟩⟩⟩⟩⟩)⟩, ⟨by (with_reducible repeat (first | apply Kd.V_alloc | apply Kd.V_drewN | apply Kd.V_drew)); exact Kd.V_mono HO1_1.out (fun _ hk => ⟨hk.1.1.1.1.1.1.1, ⟨hk.1.2, ⟨hk.2, ⟨hk.1.1.1.1.1.1.2, ⟨hk.1.1.1.1.1.2, ⟨hk.1.1.1.1.2, hk.1.1.1.2⟩⟩⟩⟩⟩⟩)⟩, ⟨uK BK380.out⟩, ⟨uK BK381.out⟩, ⟨uK BK382.out⟩, ⟨uK BK383.out⟩, ⟨uB⟩⟩
  case rest =>
   clear HC46; (try clear hcz13_0 hcz13_1); (try clear hcz16_0 hcz16_1); (try clear hcz21_0 hcz21_1); (try clear hcz23_0 hcz23_1); (try clear hcz24_0 hcz24_1); (try clear hcz33_0 hcz33_1); (try clear hcz36_0 hcz36_1); (try clear hcz41_0 hcz41_1); (try clear hcz43_0 hcz43_1); (try clear hcz44_0 hcz44_1); (try clear hcz54_0 hcz54_1); (try clear hcz57_0 hcz57_1); (try clear hcz62_0 hcz62_1); (try clear hcz63_0 hcz63_1); (try clear hcz69_0 hcz69_1); (try clear hcz74_0 hcz74_1); (try clear hfz13_0 hfz13_1); (try clear hfz16_0 hfz16_1); (try clear hfz21_0 hfz21_1); (try clear hfz23_0 hfz23_1); (try clear hfz24_0 hfz24_1); (try clear hfz33_0 hfz33_1); (try clear hfz36_0 hfz36_1); (try clear hfz41_0 hfz41_1); (try clear hfz43_0 hfz43_1); (try clear hfz44_0 hfz44_1); (try clear hfz54_0 hfz54_1); (try clear hfz57_0 hfz57_1); (try clear hfz62_0 hfz62_1); (try clear hfz63_0 hfz63_1); (try clear hfz69_0 hfz69_1); (try clear hfz74_0 hfz74_1)
   obtain ⟨kq, x46_45, rfl, HA, HJ45, HO_7, HO_8, HO_381001, HO_382001, BK380, BK381, BK382, BK383, HB⟩ := hcut
   cases kq with
   | zero => exact absurd HA.out (by simp [modint_Floor.j0])
   | succ kj45 =>
    have H := HA.out
    clear HA
    simp only [modint_Floor.j0] at H
    by_cases c75 : x46_45 = true
    ·
     subst c75
     rw [if_pos rfl] at H
     replace ⟨t395, A76, H⟩ := ub H
     replace ⟨⟨t398, t401⟩, A77, H⟩ := ub H
     (try dsimp only at H)
     by_cases c78 : t401 = 0
     ·
      rw [if_pos c78] at H
      have c78b0 := beq_iff_eq.mpr c78
      have c78b1 := bne_eq_false_iff_eq.mpr c78
      clear c78
      replace ⟨⟨t402, t405⟩, A79, H⟩ := ub H
      (try dsimp only at H)
      replace ⟨⟨t406, t407⟩, A80, H⟩ := ub H
      (try dsimp only at H)
      replace ⟨⟨t410, t411⟩, A81, H⟩ := ub H
      (try dsimp only at H)
      simp only [Option.some.injEq, Prod.mk.injEq] at H
      obtain ⟨rfl, rfl, rfl, rfl, rfl⟩ := H
      go_wp2_with (first | ((with_reducible refine ug 44 rfl ?_); refine uh (some 49) rfl Try.func44 #[.int .u64 1] ?_; (with_reducible refine (nat_Of.calls kj45 1 t395 _ A76.out).mono ?_); rintro e w82 ⟨v396, rfl, ho0, hb⟩; refine ⟨_, rfl, ?_⟩; replace HO_381001 := ueV HO_381001 ho0 hb; replace HO_382001 := ueV HO_382001 ho0 hb; have HO397 := ulo (unw (unw (Kd.R_newM (M := fun k_ => (w.heap.size ≤ k_)) ho0 (below_size uB) (fun k_ h_ => h_)) HO_7) HO_8); replace HO_7 := ueR HO_7 ho0 hb; replace HO_8 := ueR HO_8 ho0 hb; replace BK380 := ux BK380 hb; replace BK381 := ux BK381 hb; replace BK382 := ux BK382 hb; replace BK383 := ux BK383 hb; replace HB := uy hb; (try clear hb ho0); obtain ⟨Ao83, co83, eo83⟩ := Kd.R_slice HO_7.out; subst eo83; obtain ⟨Ao84, co84, eo84⟩ := Kd.R_slice HO397.out; subst eo84) | ((with_reducible refine ug 38 rfl ?_); refine uh (some 50) rfl Try.func38 #[.slice Ao83 t388.length co83, .slice Ao84 t395.length co84] ?_; (with_reducible refine (nat_Add.calls kj45 (fun k_ => some k_ = (.slice Ao83 t388.length co83 : Value).ownBlock) _ _ t388 (fun k_ => some k_ = (.slice Ao84 t395.length co84 : Value).ownBlock) _ _ t395 t398 t401 _ (Kd.R_V (Kd.R_tight rfl (Kd.R_types (Kd.R_types (Kd.R_types (Kd.R_types (HO_7.out) BK380.out (by decide)) BK381.out (by decide)) BK382.out (by decide)) BK383.out (by decide)))) (Kd.R_V (Kd.R_tight rfl (Kd.R_types (Kd.R_types (Kd.R_types (Kd.R_types (HO397.out) BK380.out (by decide)) BK381.out (by decide)) BK382.out (by decide)) BK383.out (by decide)))) A77.out).mono ?_); rintro e w85 ⟨v399, rfl, ho0, hb⟩; refine ⟨_, rfl, ?_⟩; replace HO_381001 := ueV HO_381001 ho0 hb; replace HO_382001 := ueV HO_382001 ho0 hb; have HO400 := ulo (unw (unw (unw (Kd.R_newM (M := fun k_ => (w.heap.size ≤ k_)) (Kd.R_mono (ok' := fun k_ => True) ho0 (fun _ hk_ => trivial)) (below_size uB) (fun k_ h_ => h_)) HO_7) HO_8) HO397); replace HO_7 := ueR HO_7 ho0 hb; replace HO_8 := ueR HO_8 ho0 hb; replace HO397 := ueR HO397 ho0 hb; replace BK380 := ux BK380 hb; replace BK381 := ux BK381 hb; replace BK382 := ux BK382 hb; replace BK383 := ux BK383 hb; replace HB := uy hb; (try clear hb ho0); have hnb86 := NB381_380.out; have hnc86 := NB380_381.out; have hnb87 := NB381_382.out; have hnc87 := NB382_381.out; have hnb88 := NB381_383.out; have hnc88 := NB383_381.out; obtain ⟨hcz89_0, hcz89_1, hfz89_0, hfz89_1⟩ := uz2 w85 BK381; obtain ⟨Ao90, co90, eo90⟩ := Kd.R_slice HO_8.out; subst eo90) | ((with_reducible refine ug 37 rfl ?_); refine uh (some 62) rfl Try.func37 #[.slice A1_1 l1_1.length c1_1, .slice Ao90 t391.length co90] ?_; (with_reducible refine (nat_Sub.calls kj45 (fun k_ => (((((P0_1_ k_ ∨ P1_1_ k_) ∨ w.heap.size ≤ k_) ∧ (some k_ ≠ (.slice Ao83 t388.length co83 : Value).ownBlock ∧ (some k_ ≠ (.slice Ao90 t391.length co90 : Value).ownBlock ∧ (k_ ≠ gb380 ∧ (k_ ≠ gb381 ∧ (k_ ≠ gb382 ∧ k_ ≠ gb383)))))) ∧ some k_ ≠ (.slice Ao84 t395.length co84 : Value).ownBlock) ∧ some k_ ≠ (v399 : Value).ownBlock)) _ _ l1_1 (fun k_ => some k_ = (.slice Ao90 t391.length co90 : Value).ownBlock) _ _ t391 t402 t405 _ HO_382001.out (Kd.R_V (Kd.R_tight rfl (Kd.R_types (Kd.R_types (Kd.R_types (Kd.R_types (HO_8.out) BK380.out (by decide)) BK381.out (by decide)) BK382.out (by decide)) BK383.out (by decide)))) A79.out).mono ?_); rintro e w91 ⟨v403, rfl, ho0, hb⟩; refine ⟨_, rfl, ?_⟩; replace HO_381001 := ueV HO_381001 ho0 hb; replace HO_382001 := ueV HO_382001 ho0 hb; have HO404 := ulo (unw (unw (unw (unw (Kd.R_newM (M := fun k_ => (w.heap.size ≤ k_)) (Kd.R_mono (ok' := fun k_ => True) ho0 (fun _ hk_ => trivial)) (below_size uB) (fun k_ h_ => h_)) HO_7) HO_8) HO397) HO400); replace HO_7 := ueR HO_7 ho0 hb; replace HO_8 := ueR HO_8 ho0 hb; replace HO397 := ueR HO397 ho0 hb; replace HO400 := ueR HO400 ho0 hb; replace BK380 := ux BK380 hb; replace BK381 := ux BK381 hb; replace BK382 := ux BK382 hb; replace BK383 := ux BK383 hb; replace HB := uy hb; (try clear hb ho0); have hnb92 := NB380_382.out; have hnc92 := NB382_380.out; have hnb93 := NB380_383.out; have hnc93 := NB383_380.out; obtain ⟨hcz94_0, hcz94_1, hfz94_0, hfz94_1⟩ := uz2 w91 BK380; obtain ⟨Ao95, co95, eo95⟩ := Kd.R_slice HO400.out; subst eo95) | ((with_reducible refine ug 41 rfl ?_); refine uh (some 68) rfl Try.func41 #[.bool a0_0, .slice Ao95 t398.length co95] ?_; (with_reducible refine (modint_From.calls a0_0 _ _ t398 t406 t407 _ (uC (Kd.R_reads' HO400.out).2.2) ((Kd.R_reads' HO400.out).2.1) A80.out).mono ?_); rintro e w96 ⟨v408, rfl, ho0, hb⟩; refine ⟨_, rfl, ?_⟩; replace HO_381001 := ueV HO_381001 ho0 hb; replace HO_382001 := ueV HO_382001 ho0 hb; have HO409 := ulo (unw (unw (unw (unw (unw (Kd.R_newM (M := fun k_ => (w.heap.size ≤ k_)) ho0 (below_size uB) (fun k_ h_ => h_)) HO_7) HO_8) HO397) HO400) HO404); replace HO_7 := ueR HO_7 ho0 hb; replace HO_8 := ueR HO_8 ho0 hb; replace HO397 := ueR HO397 ho0 hb; replace HO400 := ueR HO400 ho0 hb; replace HO404 := ueR HO404 ho0 hb; replace BK380 := ux BK380 hb; replace BK381 := ux BK381 hb; replace BK382 := ux BK382 hb; replace BK383 := ux BK383 hb; replace HB := uy hb; (try clear hb ho0); obtain ⟨Ao97, co97, eo97⟩ := Kd.R_slice HO404.out; subst eo97) | ((with_reducible refine ug 41 rfl ?_); refine uh (some 70) rfl Try.func41 #[.bool false, .slice Ao97 t402.length co97] ?_; (with_reducible refine (modint_From.calls false _ _ t402 t410 t411 _ (uC (Kd.R_reads' HO404.out).2.2) ((Kd.R_reads' HO404.out).2.1) A81.out).mono ?_); rintro e w98 ⟨v412, rfl, ho0, hb⟩; refine ⟨_, rfl, ?_⟩; replace HO_381001 := ueV HO_381001 ho0 hb; replace HO_382001 := ueV HO_382001 ho0 hb; have HO413 := ulo (unw (unw (unw (unw (unw (unw (Kd.R_newM (M := fun k_ => (w.heap.size ≤ k_)) ho0 (below_size uB) (fun k_ h_ => h_)) HO_7) HO_8) HO397) HO400) HO404) HO409); replace HO_7 := ueR HO_7 ho0 hb; replace HO_8 := ueR HO_8 ho0 hb; replace HO397 := ueR HO397 ho0 hb; replace HO400 := ueR HO400 ho0 hb; replace HO404 := ueR HO404 ho0 hb; replace HO409 := ueR HO409 ho0 hb; replace BK380 := ux BK380 hb; replace BK381 := ux BK381 hb; replace BK382 := ux BK382 hb; replace BK383 := ux BK383 hb; replace HB := uy hb; (try clear hb ho0); have hnb99 := NB382_383.out; have hnc99 := NB383_382.out; obtain ⟨hcz100_0, hcz100_1, hfz100_0, hfz100_1⟩ := uz2 w98 BK382; obtain ⟨Ao101, co101, eo101⟩ := Kd.R_slice HO409.out; subst eo101; obtain ⟨hcz102_0, hcz102_1, hfz102_0, hfz102_1⟩ := uz2 w98 BK383; obtain ⟨Ao103, co103, eo103⟩ := Kd.R_slice HO413.out; subst eo103))
      refine bodyPost_ret (results_list (rs := [.cell 4 44, .cell 5 44, .tmp 6]) rfl (by simp) (.cell gb382 44 #[.bool t406, .slice Ao101 t407.length co101] (0, 0) _ rfl (by refine blk_far ?_ NB382_383.out _; refine blk_far ?_ NB382_383.out _; refine blk_put (cs := #[.bool t406, .slice none 0 0]) ?_ 1 _ rfl; refine blk_put (cs := #[.bool false, .slice none 0 0]) ?_ 0 _ rfl; exact uK BK382.out) Try.underlying44 rfl (by kernel_rfl) (.cell gb383 44 #[.bool t410, .slice Ao103 t411.length co103] (0, 0) _ rfl (by refine blk_put (cs := #[.bool t410, .slice none 0 0]) ?_ 1 _ rfl; refine blk_put (cs := #[.bool false, .slice none 0 0]) ?_ 0 _ rfl; refine blk_far ?_ NB383_382.out _; refine blk_far ?_ NB383_382.out _; exact uK BK383.out) Try.underlying44 rfl (by kernel_rfl) (.tmp .nil)))) rfl ?_
      exact ⟨_, _, uF, by exact uR (Kd.R_mono (Kd.R_far (p := ⟨gb383, 1, none⟩) (Kd.R_far (p := ⟨gb383, 0, none⟩) (Kd.R_far (p := ⟨gb382, 1, none⟩) (Kd.R_far (p := ⟨gb382, 0, none⟩) (Kd.R_types (Kd.R_types HO409.out BK382.out (by decide)) BK383.out (by decide)) (fun _ hk => hk.1.2) (.bool t406)) (fun _ hk => hk.1.2) (.slice Ao101 t407.length co101)) (fun _ hk => hk.2) (.bool t410)) (fun _ hk => hk.2) (.slice Ao103 t411.length co103)) (fun _ hk => ⟨hk.1.1.1.1.1.1.1.1.1, hk.1.1.2⟩)), by exact uR (Kd.R_mono (Kd.R_far (p := ⟨gb383, 1, none⟩) (Kd.R_far (p := ⟨gb383, 0, none⟩) (Kd.R_far (p := ⟨gb382, 1, none⟩) (Kd.R_far (p := ⟨gb382, 0, none⟩) (Kd.R_types (Kd.R_types HO413.out BK382.out (by decide)) BK383.out (by decide)) (fun _ hk => hk.1.2) (.bool t406)) (fun _ hk => hk.1.2) (.slice Ao101 t407.length co101)) (fun _ hk => hk.2) (.bool t410)) (fun _ hk => hk.2) (.slice Ao103 t411.length co103)) (fun _ hk => ⟨hk.1.1.1.1.1.1.1.1.1, hk.1.1.2⟩)), uB⟩
     rw [if_neg c78] at H
     have c78b0 := beq_eq_false_iff_ne.mpr c78
     have c78b1 := bne_iff_ne.mpr c78
     simp only [Option.some.injEq, Prod.mk.injEq] at H
     obtain ⟨rfl, rfl, rfl, rfl, rfl⟩ := H
     go_wp2_with (first | ((with_reducible refine ug 44 rfl ?_); refine uh (some 49) rfl Try.func44 #[.int .u64 1] ?_; (with_reducible refine (nat_Of.calls kj45 1 t395 _ A76.out).mono ?_); rintro e w104 ⟨v396, rfl, ho0, hb⟩; refine ⟨_, rfl, ?_⟩; replace HO_381001 := ueV HO_381001 ho0 hb; replace HO_382001 := ueV HO_382001 ho0 hb; have HO397 := ulo (unw (unw (Kd.R_newM (M := fun k_ => (w.heap.size ≤ k_)) ho0 (below_size uB) (fun k_ h_ => h_)) HO_7) HO_8); replace HO_7 := ueR HO_7 ho0 hb; replace HO_8 := ueR HO_8 ho0 hb; replace BK380 := ux BK380 hb; replace BK381 := ux BK381 hb; replace BK382 := ux BK382 hb; replace BK383 := ux BK383 hb; replace HB := uy hb; (try clear hb ho0); obtain ⟨Ao105, co105, eo105⟩ := Kd.R_slice HO_7.out; subst eo105; obtain ⟨Ao106, co106, eo106⟩ := Kd.R_slice HO397.out; subst eo106) | ((with_reducible refine ug 38 rfl ?_); refine uh (some 50) rfl Try.func38 #[.slice Ao105 t388.length co105, .slice Ao106 t395.length co106] ?_; (with_reducible refine (nat_Add.calls kj45 (fun k_ => some k_ = (.slice Ao105 t388.length co105 : Value).ownBlock) _ _ t388 (fun k_ => some k_ = (.slice Ao106 t395.length co106 : Value).ownBlock) _ _ t395 t398 t401 _ (Kd.R_V (Kd.R_tight rfl (Kd.R_types (Kd.R_types (Kd.R_types (Kd.R_types (HO_7.out) BK380.out (by decide)) BK381.out (by decide)) BK382.out (by decide)) BK383.out (by decide)))) (Kd.R_V (Kd.R_tight rfl (Kd.R_types (Kd.R_types (Kd.R_types (Kd.R_types (HO397.out) BK380.out (by decide)) BK381.out (by decide)) BK382.out (by decide)) BK383.out (by decide)))) A77.out).mono ?_); rintro e w107 ⟨v399, rfl, ho0, hb⟩; refine ⟨_, rfl, ?_⟩; replace HO_381001 := ueV HO_381001 ho0 hb; replace HO_382001 := ueV HO_382001 ho0 hb; have HO400 := ulo (unw (unw (unw (Kd.R_newM (M := fun k_ => (w.heap.size ≤ k_)) (Kd.R_mono (ok' := fun k_ => True) ho0 (fun _ hk_ => trivial)) (below_size uB) (fun k_ h_ => h_)) HO_7) HO_8) HO397); replace HO_7 := ueR HO_7 ho0 hb; replace HO_8 := ueR HO_8 ho0 hb; replace HO397 := ueR HO397 ho0 hb; replace BK380 := ux BK380 hb; replace BK381 := ux BK381 hb; replace BK382 := ux BK382 hb; replace BK383 := ux BK383 hb; replace HB := uy hb; (try clear hb ho0); have hnb108 := NB382_380.out; have hnc108 := NB380_382.out; have hnb109 := NB382_381.out; have hnc109 := NB381_382.out; have hnb110 := NB382_383.out; have hnc110 := NB383_382.out; obtain ⟨hcz111_0, hcz111_1, hfz111_0, hfz111_1⟩ := uz2 w107 BK382; have hnb112 := NB383_380.out; have hnc112 := NB380_383.out; have hnb113 := NB383_381.out; have hnc113 := NB381_383.out; obtain ⟨hcz114_0, hcz114_1, hfz114_0, hfz114_1⟩ := uz2 w107 BK383))
     refine bodyPost_ret (results_list (rs := [.cell 4 44, .cell 5 44, .tmp 6]) rfl (by simp) (.cell gb382 44 #[.bool false, .slice none 0 0] (0, 0) _ rfl (by refine blk_far ?_ NB382_383.out _; refine blk_far ?_ NB382_383.out _; refine blk_put (cs := #[.bool false, .slice none 0 0]) ?_ 1 _ rfl; refine blk_put (cs := #[.bool false, .slice none 0 0]) ?_ 0 _ rfl; exact uK BK382.out) Try.underlying44 rfl (by kernel_rfl) (.cell gb383 44 #[.bool false, .slice none 0 0] (0, 0) _ rfl (by refine blk_put (cs := #[.bool false, .slice none 0 0]) ?_ 1 _ rfl; refine blk_put (cs := #[.bool false, .slice none 0 0]) ?_ 0 _ rfl; refine blk_far ?_ NB383_382.out _; refine blk_far ?_ NB383_382.out _; exact uK BK383.out) Try.underlying44 rfl (by kernel_rfl) (.tmp .nil)))) rfl ?_
     exact ⟨_, _, uF, uI, uI, uB⟩
    replace c75 := Bool.eq_false_iff.mpr c75
    subst c75
    rw [if_neg (show ¬ (false = true) by decide)] at H
    replace ⟨⟨t414, t415⟩, A115, H⟩ := ub H
    (try dsimp only at H)
    replace ⟨⟨t418, t419⟩, A116, H⟩ := ub H
    (try dsimp only at H)
    simp only [Option.some.injEq, Prod.mk.injEq] at H
    obtain ⟨rfl, rfl, rfl, rfl, rfl⟩ := H
    have hnb117 := NB380_381.out
    have hnc117 := NB381_380.out
    have hnb118 := NB380_382.out
    have hnc118 := NB382_380.out
    have hnb119 := NB380_383.out
    have hnc119 := NB383_380.out
    obtain ⟨hcz120_0, hcz120_1, hfz120_0, hfz120_1⟩ := uz2 wc BK380
    obtain ⟨Ao121, co121, eo121⟩ := Kd.R_slice HO_7.out
    subst eo121
    go_wp2_with (first | ((with_reducible refine ug 41 rfl ?_); refine uh (some 68) rfl Try.func41 #[.bool a0_0, .slice Ao121 t388.length co121] ?_; (with_reducible refine (modint_From.calls a0_0 _ _ t388 t414 t415 _ (uC (Kd.R_reads' HO_7.out).2.2) ((Kd.R_reads' HO_7.out).2.1) A115.out).mono ?_); rintro e w122 ⟨v416, rfl, ho0, hb⟩; refine ⟨_, rfl, ?_⟩; replace HO_381001 := ueV HO_381001 ho0 hb; replace HO_382001 := ueV HO_382001 ho0 hb; have HO417 := ulo (unw (unw (Kd.R_newM (M := fun k_ => (w.heap.size ≤ k_)) ho0 (below_size uB) (fun k_ h_ => h_)) HO_7) HO_8); replace HO_7 := ueR HO_7 ho0 hb; replace HO_8 := ueR HO_8 ho0 hb; replace BK380 := ux BK380 hb; replace BK381 := ux BK381 hb; replace BK382 := ux BK382 hb; replace BK383 := ux BK383 hb; replace HB := uy hb; (try clear hb ho0); obtain ⟨Ao123, co123, eo123⟩ := Kd.R_slice HO_8.out; subst eo123) | ((with_reducible refine ug 41 rfl ?_); refine uh (some 70) rfl Try.func41 #[.bool false, .slice Ao123 t391.length co123] ?_; (with_reducible refine (modint_From.calls false _ _ t391 t418 t419 _ (uC (Kd.R_reads' HO_8.out).2.2) ((Kd.R_reads' HO_8.out).2.1) A116.out).mono ?_); rintro e w124 ⟨v420, rfl, ho0, hb⟩; refine ⟨_, rfl, ?_⟩; replace HO_381001 := ueV HO_381001 ho0 hb; replace HO_382001 := ueV HO_382001 ho0 hb; have HO421 := ulo (unw (unw (unw (Kd.R_newM (M := fun k_ => (w.heap.size ≤ k_)) ho0 (below_size uB) (fun k_ h_ => h_)) HO_7) HO_8) HO417); replace HO_7 := ueR HO_7 ho0 hb; replace HO_8 := ueR HO_8 ho0 hb; replace HO417 := ueR HO417 ho0 hb; replace BK380 := ux BK380 hb; replace BK381 := ux BK381 hb; replace BK382 := ux BK382 hb; replace BK383 := ux BK383 hb; replace HB := uy hb; (try clear hb ho0); have hnb125 := NB382_381.out; have hnc125 := NB381_382.out; have hnb126 := NB382_383.out; have hnc126 := NB383_382.out; obtain ⟨hcz127_0, hcz127_1, hfz127_0, hfz127_1⟩ := uz2 w124 BK382; obtain ⟨Ao128, co128, eo128⟩ := Kd.R_slice HO417.out; subst eo128; have hnb129 := NB383_381.out; have hnc129 := NB381_383.out; obtain ⟨hcz130_0, hcz130_1, hfz130_0, hfz130_1⟩ := uz2 w124 BK383; obtain ⟨Ao131, co131, eo131⟩ := Kd.R_slice HO421.out; subst eo131))
    refine bodyPost_ret (results_list (rs := [.cell 4 44, .cell 5 44, .tmp 6]) rfl (by simp) (.cell gb382 44 #[.bool t414, .slice Ao128 t415.length co128] (0, 0) _ rfl (by refine blk_far ?_ NB382_383.out _; refine blk_far ?_ NB382_383.out _; refine blk_put (cs := #[.bool t414, .slice none 0 0]) ?_ 1 _ rfl; refine blk_put (cs := #[.bool false, .slice none 0 0]) ?_ 0 _ rfl; exact uK BK382.out) Try.underlying44 rfl (by kernel_rfl) (.cell gb383 44 #[.bool t418, .slice Ao131 t419.length co131] (0, 0) _ rfl (by refine blk_put (cs := #[.bool t418, .slice none 0 0]) ?_ 1 _ rfl; refine blk_put (cs := #[.bool false, .slice none 0 0]) ?_ 0 _ rfl; refine blk_far ?_ NB383_382.out _; refine blk_far ?_ NB383_382.out _; exact uK BK383.out) Try.underlying44 rfl (by kernel_rfl) (.tmp .nil)))) rfl ?_
    exact ⟨_, _, uF, by exact uR (Kd.R_mono (Kd.R_far (p := ⟨gb383, 1, none⟩) (Kd.R_far (p := ⟨gb383, 0, none⟩) (Kd.R_far (p := ⟨gb382, 1, none⟩) (Kd.R_far (p := ⟨gb382, 0, none⟩) (Kd.R_types (Kd.R_types HO417.out BK382.out (by decide)) BK383.out (by decide)) (fun _ hk => hk.1.2) (.bool t414)) (fun _ hk => hk.1.2) (.slice Ao128 t415.length co128)) (fun _ hk => hk.2) (.bool t418)) (fun _ hk => hk.2) (.slice Ao131 t419.length co131)) (fun _ hk => ⟨hk.1.1.1.1.1.1, hk.1.1.2⟩)), by exact uR (Kd.R_mono (Kd.R_far (p := ⟨gb383, 1, none⟩) (Kd.R_far (p := ⟨gb383, 0, none⟩) (Kd.R_far (p := ⟨gb382, 1, none⟩) (Kd.R_far (p := ⟨gb382, 0, none⟩) (Kd.R_types (Kd.R_types HO421.out BK382.out (by decide)) BK383.out (by decide)) (fun _ hk => hk.1.2) (.bool t414)) (fun _ hk => hk.1.2) (.slice Ao128 t415.length co128)) (fun _ hk => hk.2) (.bool t418)) (fun _ hk => hk.2) (.slice Ao131 t419.length co131)) (fun _ hk => ⟨hk.1.1.1.1.1.1, hk.1.1.2⟩)), uB⟩
 replace c4 := Bool.eq_false_iff.mpr c4
 subst c4
 rw [if_neg (show ¬ (false = true) by decide)] at H
 simp only [Option.some.injEq, Prod.mk.injEq] at H
 obtain ⟨rfl, rfl, rfl, rfl, rfl⟩ := H
 go_enter Try.func16, Try.ntmps16
 go_wp2_with (first | ((with_reducible refine gate_dst (N := 2) rfl ?_); (try (refine gate_guard (by rfl) ?_; dsimp only)); refine ubx 2 #[.bool a0_0, .slice A0_1 l0_1.length c0_1] 44 rfl rfl ?_; intro gb380 hg w132 hbox hb; replace HO0_1 := uvb HO0_1 hg hb; replace HO1_1 := uvb HO1_1 hg hb; have BK380 := Aside0.mk (hbox); have GW380 := us hg; have GE380 := us hg; replace HB := uy hb; clear hb hbox hg) | ((with_reducible refine gate_dst (N := 3) rfl ?_); (try (refine gate_guard (by rfl) ?_; dsimp only)); refine ubx 3 #[.bool a1_0, .slice A1_1 l1_1.length c1_1] 44 rfl rfl ?_; intro gb381 hg w133 hbox hb; replace HO0_1 := uvb HO0_1 hg hb; replace HO1_1 := uvb HO1_1 hg hb; have BK381 := Aside0.mk (hbox); have GW381 := us hg; have GE381 := us hg; replace HB := uy hb; obtain ⟨NB380_381, NB381_380⟩ := unb hg BK380; replace BK380 := ux BK380 hb; clear hb hbox hg) | ((with_reducible refine gate_dst (N := 4) rfl ?_); (try (refine gate_guard (by rfl) ?_; dsimp only)); refine ubx 4 #[.bool false, .slice none 0 0] 44 rfl rfl ?_; intro gb382 hg w134 hbox hb; replace HO0_1 := uvb HO0_1 hg hb; replace HO1_1 := uvb HO1_1 hg hb; have BK382 := Aside0.mk (hbox); have GW382 := us hg; have GE382 := us hg; replace HB := uy hb; obtain ⟨NB380_382, NB382_380⟩ := unb hg BK380; replace BK380 := ux BK380 hb; obtain ⟨NB381_382, NB382_381⟩ := unb hg BK381; replace BK381 := ux BK381 hb; clear hb hbox hg) | ((with_reducible refine gate_dst (N := 5) rfl ?_); (try (refine gate_guard (by rfl) ?_; dsimp only)); refine ubx 5 #[.bool false, .slice none 0 0] 44 rfl rfl ?_; intro gb383 hg w135 hbox hb; replace HO0_1 := uvb HO0_1 hg hb; replace HO1_1 := uvb HO1_1 hg hb; have BK383 := Aside0.mk (hbox); have GW383 := us hg; have GE383 := us hg; replace HB := uy hb; obtain ⟨NB380_383, NB383_380⟩ := unb hg BK380; replace BK380 := ux BK380 hb; obtain ⟨NB381_383, NB383_381⟩ := unb hg BK381; replace BK381 := ux BK381 hb; obtain ⟨NB382_383, NB383_382⟩ := unb hg BK382; replace BK382 := ux BK382 hb; clear hb hbox hg; have hnb136 := NB380_381.out; have hnc136 := NB381_380.out; have hnb137 := NB380_382.out; have hnc137 := NB382_380.out; have hnb138 := NB380_383.out; have hnc138 := NB383_380.out; obtain ⟨hcz139_0, hcz139_1, hfz139_0, hfz139_1⟩ := uz2 w135 BK380; have hnb140 := NB381_382.out; have hnc140 := NB382_381.out; have hnb141 := NB381_383.out; have hnc141 := NB383_381.out; obtain ⟨hcz142_0, hcz142_1, hfz142_0, hfz142_1⟩ := uz2 w135 BK381) | ((with_reducible refine gate_dst (N := 14) rfl ?_); (try (refine gate_guard (by rfl) ?_; dsimp only)); refine uNl 14 44 k44 ([(⟨a0_0, l0_1⟩ : S44), (⟨a1_0, l1_1⟩ : S44)] : List (S44)) [.bool a0_0, .slice A0_1 l0_1.length c0_1, .bool a1_0, .slice A1_1 l1_1.length c1_1] (fun k_ => ((P0_1_ k_ ∨ P1_1_ k_) ∨ w.heap.size ≤ k_) ∧ k_ ≠ gb380 ∧ k_ ≠ gb381 ∧ k_ ≠ gb382 ∧ k_ ≠ gb383) rfl rfl ?hp ?hf ?_; (case hp => exact (Reps.c2 (k44_mkF _ _ (⟨a0_0, l0_1⟩ : S44) (Kd.V_reads' HO0_1.out).2.1 (Kd.V_F (Kd.V_mono (HO0_1.out) (fun k_ hk => ⟨hk.1.1.1.1, ⟨hk.1.1.1.2, ⟨hk.1.1.2, ⟨hk.1.2, hk.2⟩⟩⟩⟩)))) (Reps.c2 (k44_mkF _ _ (⟨a1_0, l1_1⟩ : S44) (Kd.V_reads' HO1_1.out).2.1 (Kd.V_F (Kd.V_mono (HO1_1.out) (fun k_ hk => ⟨hk.1.1.1.1, ⟨hk.1.1.1.2, ⟨hk.1.1.2, ⟨hk.1.2, hk.2⟩⟩⟩⟩)))) (Reps.none _ _)))); (case hf => exact fun k_ hk => ⟨(.inr (Nat.le_trans (below_size uB) hk)), Kd.freshB (g := gb380) (o := .cells #[.bool a0_0, .slice A0_1 l0_1.length c0_1] 44 (0, 0)) (uK BK380.out) k_ hk, Kd.freshB (g := gb381) (o := .cells #[.bool a1_0, .slice A1_1 l1_1.length c1_1] 44 (0, 0)) (uK BK381.out) k_ hk, Kd.freshB (g := gb382) (o := .cells #[.bool false, .slice none 0 0] 44 (0, 0)) (uK BK382.out) k_ hk, Kd.freshB (g := gb383) (o := .cells #[.bool false, .slice none 0 0] 44 (0, 0)) (uK BK383.out) k_ hk⟩); intro v385 w143 ho144 hb; (first | rw [← Ny384.out] at ho144 | (simp only [Int.reduceToNat] at ho144; rw [← Ny384.out] at ho144)); replace HO0_1 := Aside0.mk (Kd.V_elder' (uV HO0_1.out) (Kd.N_base ho144) hb); replace HO1_1 := Aside0.mk (Kd.V_elder' (uV HO1_1.out) (Kd.N_base ho144) hb); have HO386 := Aside0.mk (Kd.N_lower ho144 (below_size uB)); replace BK380 := ux BK380 hb; replace BK381 := ux BK381 hb; replace BK382 := ux BK382 hb; replace BK383 := ux BK383 hb; replace HB := uy hb; clear hb ho144; obtain ⟨Ao145, co145, eo145⟩ := Kd.N_slice HO386.out; subst eo145) | ((with_reducible refine ug 42 rfl ?_); refine uh (some 15) rfl Try.func42 #[.slice Ao145 y384.length co145] ?_; (with_reducible refine (modint_right.calls _ _ y384 false _ (uC (Kd.N_reads' HO386.out).2.2) ((Kd.N_reads' HO386.out).2.1) A3.out).mono ?_); rintro e w146 ⟨rfl, hb⟩; refine ⟨_, rfl, ?_⟩; replace HO0_1 := Aside0.mk (Kd.V_below (uV HO0_1.out) hb); replace HO1_1 := Aside0.mk (Kd.V_below (uV HO1_1.out) hb); replace HO386 := Aside0.mk (Kd.N_below (uN HO386.out) hb); replace BK380 := ux BK380 hb; replace BK381 := ux BK381 hb; replace BK382 := ux BK382 hb; replace BK383 := ux BK383 hb; replace HB := uy hb; (try clear hb); have hnb147 := NB382_383.out; have hnc147 := NB383_382.out; obtain ⟨hcz148_0, hcz148_1, hfz148_0, hfz148_1⟩ := uz2 w146 BK382; obtain ⟨hcz149_0, hcz149_1, hfz149_0, hfz149_1⟩ := uz2 w146 BK383))
 refine bodyPost_ret (results_list (rs := [.cell 4 44, .cell 5 44, .tmp 6]) rfl (by simp) (.cell gb382 44 #[.bool false, .slice none 0 0] (0, 0) _ rfl (by refine blk_far ?_ NB382_383.out _; refine blk_far ?_ NB382_383.out _; refine blk_put (cs := #[.bool false, .slice none 0 0]) ?_ 1 _ rfl; refine blk_put (cs := #[.bool false, .slice none 0 0]) ?_ 0 _ rfl; exact uK BK382.out) Try.underlying44 rfl (by kernel_rfl) (.cell gb383 44 #[.bool false, .slice none 0 0] (0, 0) _ rfl (by refine blk_put (cs := #[.bool false, .slice none 0 0]) ?_ 1 _ rfl; refine blk_put (cs := #[.bool false, .slice none 0 0]) ?_ 0 _ rfl; refine blk_far ?_ NB383_382.out _; refine blk_far ?_ NB383_382.out _; exact uK BK383.out) Try.underlying44 rfl (by kernel_rfl) (.tmp .nil)))) rfl ?_
 exact ⟨_, _, uF, uI, uI, uB⟩
def modint_Add.f (k : Nat) (a0_0 : Bool) (l0_1 : List Int) (a1_0 : Bool) (l1_1 : List Int) : Option (Bool × List Int × Int) := (modint_right.f (([(⟨a0_0, l0_1⟩ : S44), (⟨a1_0, l1_1⟩ : S44)] : List (S44)))).bind fun t872 => (if t872 = true then (if (a0_0 == a1_0) = true then ((nat_Add.f k l0_1 l1_1).bind fun bt873 => ((modint_From.f a0_0 bt873.1).bind fun bt877 => (some (bt877.1, bt877.2, bt873.2)))) else ((nat_Cmp.f k l0_1 l1_1).bind fun t881 => (if t881 < 0 then ((nat_Sub.f k l1_1 l0_1).bind fun bt882 => ((modint_From.f a1_0 bt882.1).bind fun bt886 => (some (bt886.1, bt886.2, bt882.2)))) else ((nat_Sub.f k l0_1 l1_1).bind fun bt890 => ((modint_From.f a0_0 bt890.1).bind fun bt894 => (some (bt894.1, bt894.2, bt890.2))))))) else (some (false, ([] : List Int), 1)))
theorem modint_Add.calls (k : Nat) (a0_0 : Bool) (P0_1_ : Nat → Prop) (A0_1 : Option Addr) (c0_1 : Nat) (l0_1 : List Int) (a1_0 : Bool) (P1_1_ : Nat → Prop) (A1_1 : Option Addr) (c1_1 : Nat) (l1_1 : List Int) (r1 : Bool) (r2 : List Int) (r3 : Int) (w : World) (hs0_1 : Kd.V (Kd.int .u64) 42 w w.heap.size (fun k_ => P0_1_ k_) (.slice A0_1 l0_1.length c0_1) l0_1) (hs1_1 : Kd.V (Kd.int .u64) 42 w w.heap.size (fun k_ => P1_1_ k_) (.slice A1_1 l1_1.length c1_1) l1_1) (h : modint_Add.f k a0_0 l0_1 a1_0 l1_1 = some (r1, r2, r3)) :
  Calls Try.prog 28 #[.agg #[.bool a0_0, .slice A0_1 l0_1.length c0_1], .agg #[.bool a1_0, .slice A1_1 l1_1.length c1_1]] w fun e w' => ∃ v1_ : Value, e = .returned (.tuple #[.agg #[.bool r1, v1_], .int .i64 r3]) ∧ Kd.R (Kd.int .u64) 42 w' w.heap.size (fun k_ => (w.heap.size ≤ k_)) v1_ r2 ∧ Below w.heap.size w w' := by
 have hu44 := Try.underlying44
 have HO0_1 := Aside0.mk (show Kd.V (Kd.int .u64) 42 w w.heap.size (fun k_ => ((P0_1_ k_ ∨ P1_1_ k_) ∨ w.heap.size ≤ k_)) (.slice A0_1 l0_1.length c0_1) l0_1 from Kd.V_mono hs0_1 (fun k_ hk => .inl (.inl hk)))
 have HO1_1 := Aside0.mk (show Kd.V (Kd.int .u64) 42 w w.heap.size (fun k_ => ((P0_1_ k_ ∨ P1_1_ k_) ∨ w.heap.size ≤ k_)) (.slice A1_1 l1_1.length c1_1) l1_1 from Kd.V_mono hs1_1 (fun k_ hk => .inl (.inr hk)))
 have HB := Aside0.mk (Below.refl w.heap.size w)
 have H : ((modint_right.f (([(⟨a0_0, l0_1⟩ : S44), (⟨a1_0, l1_1⟩ : S44)] : List (S44)))).bind fun t872 => (if t872 = true then (if (a0_0 == a1_0) = true then ((nat_Add.f k l0_1 l1_1).bind fun bt873 => ((modint_From.f a0_0 bt873.1).bind fun bt877 => (some (bt877.1, bt877.2, bt873.2)))) else ((nat_Cmp.f k l0_1 l1_1).bind fun t881 => (if t881 < 0 then ((nat_Sub.f k l1_1 l0_1).bind fun bt882 => ((modint_From.f a1_0 bt882.1).bind fun bt886 => (some (bt886.1, bt886.2, bt882.2)))) else ((nat_Sub.f k l0_1 l1_1).bind fun bt890 => ((modint_From.f a0_0 bt890.1).bind fun bt894 => (some (bt894.1, bt894.2, bt890.2))))))) else (some (false, ([] : List Int), 1)))) = some (r1, r2, r3) := h
 clear h
 generalize hy869 : ((([(⟨a0_0, l0_1⟩ : S44), (⟨a1_0, l1_1⟩ : S44)] : List (S44))) : List (S44)) = y869 at H
 have Ny869 := Aside0.mk hy869.symm; clear hy869
 replace ⟨t872, A3, H⟩ := ub H
 by_cases c4 : t872 = true
 ·
  subst c4
  rw [if_pos rfl] at H
  by_cases c5 : (a0_0 == a1_0) = true
  ·
   rw [if_pos c5] at H
   have c5b0 : (a0_0 == a1_0) = true := c5
   (try (have c5b1 : decide (a0_0 = a1_0) = true := by simpa using c5))
   (try (have c5b2 : (a0_0 == a1_0) = true := by simpa using c5))
   clear c5
   replace ⟨⟨t873, t876⟩, A6, H⟩ := ub H
   (try dsimp only at H)
   replace ⟨⟨t877, t878⟩, A7, H⟩ := ub H
   (try dsimp only at H)
   simp only [Option.some.injEq, Prod.mk.injEq] at H
   obtain ⟨rfl, rfl, rfl⟩ := H
   go_enter Try.func28, Try.ntmps28
   go_wp2_with (first | ((with_reducible refine gate_dst (N := 2) rfl ?_); refine ubx 2 #[.bool a0_0, .slice A0_1 l0_1.length c0_1] 44 rfl rfl ?_; intro gb866 hg w8 hbox hb; replace HO0_1 := uvb HO0_1 hg hb; replace HO1_1 := uvb HO1_1 hg hb; have BK866 := Aside0.mk (hbox); have GW866 := us hg; have GE866 := us hg; replace HB := uy hb; clear hb hbox hg) | ((with_reducible refine gate_dst (N := 3) rfl ?_); refine ubx 3 #[.bool a1_0, .slice A1_1 l1_1.length c1_1] 44 rfl rfl ?_; intro gb867 hg w9 hbox hb; replace HO0_1 := uvb HO0_1 hg hb; replace HO1_1 := uvb HO1_1 hg hb; have BK867 := Aside0.mk (hbox); have GW867 := us hg; have GE867 := us hg; replace HB := uy hb; obtain ⟨NB866_867, NB867_866⟩ := unb hg BK866; replace BK866 := ux BK866 hb; clear hb hbox hg) | ((with_reducible refine gate_dst (N := 4) rfl ?_); refine ubx 4 #[.bool false, .slice none 0 0] 44 rfl rfl ?_; intro gb868 hg w10 hbox hb; replace HO0_1 := uvb HO0_1 hg hb; replace HO1_1 := uvb HO1_1 hg hb; have BK868 := Aside0.mk (hbox); have GW868 := us hg; have GE868 := us hg; replace HB := uy hb; obtain ⟨NB866_868, NB868_866⟩ := unb hg BK866; replace BK866 := ux BK866 hb; obtain ⟨NB867_868, NB868_867⟩ := unb hg BK867; replace BK867 := ux BK867 hb; clear hb hbox hg; have hnb11 := NB866_867.out; have hnc11 := NB867_866.out; have hnb12 := NB866_868.out; have hnc12 := NB868_866.out; obtain ⟨hcz13_0, hcz13_1, hfz13_0, hfz13_1⟩ := uz2 w10 BK866; have hnb14 := NB867_868.out; have hnc14 := NB868_867.out; obtain ⟨hcz15_0, hcz15_1, hfz15_0, hfz15_1⟩ := uz2 w10 BK867) | ((with_reducible refine gate_dst (N := 12) rfl ?_); refine uNl 12 44 k44 ([(⟨a0_0, l0_1⟩ : S44), (⟨a1_0, l1_1⟩ : S44)] : List (S44)) [.bool a0_0, .slice A0_1 l0_1.length c0_1, .bool a1_0, .slice A1_1 l1_1.length c1_1] (fun k_ => ((P0_1_ k_ ∨ P1_1_ k_) ∨ w.heap.size ≤ k_) ∧ k_ ≠ gb866 ∧ k_ ≠ gb867 ∧ k_ ≠ gb868) rfl rfl ?hp ?hf ?_; (case hp => exact (Reps.c2 (k44_mkF _ _ (⟨a0_0, l0_1⟩ : S44) (Kd.V_reads' HO0_1.out).2.1 (Kd.V_F (Kd.V_mono (HO0_1.out) (fun k_ hk => ⟨hk.1.1.1, ⟨hk.1.1.2, ⟨hk.1.2, hk.2⟩⟩⟩)))) (Reps.c2 (k44_mkF _ _ (⟨a1_0, l1_1⟩ : S44) (Kd.V_reads' HO1_1.out).2.1 (Kd.V_F (Kd.V_mono (HO1_1.out) (fun k_ hk => ⟨hk.1.1.1, ⟨hk.1.1.2, ⟨hk.1.2, hk.2⟩⟩⟩)))) (Reps.none _ _)))); (case hf => exact fun k_ hk => ⟨(.inr (Nat.le_trans (below_size uB) hk)), Kd.freshB (g := gb866) (o := .cells #[.bool a0_0, .slice A0_1 l0_1.length c0_1] 44 (0, 0)) (uK BK866.out) k_ hk, Kd.freshB (g := gb867) (o := .cells #[.bool a1_0, .slice A1_1 l1_1.length c1_1] 44 (0, 0)) (uK BK867.out) k_ hk, Kd.freshB (g := gb868) (o := .cells #[.bool false, .slice none 0 0] 44 (0, 0)) (uK BK868.out) k_ hk⟩); intro v870 w16 ho17 hb; (first | rw [← Ny869.out] at ho17 | (simp only [Int.reduceToNat] at ho17; rw [← Ny869.out] at ho17)); replace HO0_1 := Aside0.mk (Kd.V_elder' (uV HO0_1.out) (Kd.N_base ho17) hb); replace HO1_1 := Aside0.mk (Kd.V_elder' (uV HO1_1.out) (Kd.N_base ho17) hb); have HO871 := Aside0.mk (Kd.N_lower ho17 (below_size uB)); replace BK866 := ux BK866 hb; replace BK867 := ux BK867 hb; replace BK868 := ux BK868 hb; replace HB := uy hb; clear hb ho17; obtain ⟨Ao18, co18, eo18⟩ := Kd.N_slice HO871.out; subst eo18) | ((with_reducible refine ug 42 rfl ?_); refine uh (some 13) rfl Try.func42 #[.slice Ao18 y869.length co18] ?_; (with_reducible refine (modint_right.calls _ _ y869 true _ (uC (Kd.N_reads' HO871.out).2.2) ((Kd.N_reads' HO871.out).2.1) A3.out).mono ?_); rintro e w19 ⟨rfl, hb⟩; refine ⟨_, rfl, ?_⟩; replace HO0_1 := Aside0.mk (Kd.V_below (uV HO0_1.out) hb); replace HO1_1 := Aside0.mk (Kd.V_below (uV HO1_1.out) hb); replace HO871 := Aside0.mk (Kd.N_below (uN HO871.out) hb); replace BK866 := ux BK866 hb; replace BK867 := ux BK867 hb; replace BK868 := ux BK868 hb; replace HB := uy hb; (try clear hb); obtain ⟨hcz20_0, hcz20_1, hfz20_0, hfz20_1⟩ := uz2 w19 BK866; obtain ⟨hcz21_0, hcz21_1, hfz21_0, hfz21_1⟩ := uz2 w19 BK867) | ((with_reducible refine ug 38 rfl ?_); refine uh (some 26) rfl Try.func38 #[.slice A0_1 l0_1.length c0_1, .slice A1_1 l1_1.length c1_1] ?_; (with_reducible refine (nat_Add.calls k (fun k_ => ((((((P0_1_ k_ ∨ P1_1_ k_) ∨ w.heap.size ≤ k_) ∧ k_ ≠ gb866) ∧ k_ ≠ gb867) ∧ k_ ≠ gb868) ∧ some k_ ≠ (.slice Ao18 y869.length co18 : Value).ownBlock)) _ _ l0_1 (fun k_ => ((((((P0_1_ k_ ∨ P1_1_ k_) ∨ w.heap.size ≤ k_) ∧ k_ ≠ gb866) ∧ k_ ≠ gb867) ∧ k_ ≠ gb868) ∧ some k_ ≠ (.slice Ao18 y869.length co18 : Value).ownBlock)) _ _ l1_1 t873 t876 _ HO0_1.out HO1_1.out A6.out).mono ?_); rintro e w22 ⟨v874, rfl, ho0, hb⟩; refine ⟨_, rfl, ?_⟩; replace HO0_1 := ueV HO0_1 ho0 hb; replace HO1_1 := ueV HO1_1 ho0 hb; replace HO871 := ueN HO871 ho0 hb; have HO875 := ulo (Kd.R_newM (M := fun k_ => (w.heap.size ≤ k_)) (Kd.R_mono (ok' := fun k_ => True) ho0 (fun _ hk_ => trivial)) (below_size uB) (fun k_ h_ => h_)); replace BK866 := ux BK866 hb; replace BK867 := ux BK867 hb; replace BK868 := ux BK868 hb; replace HB := uy hb; (try clear hb ho0); obtain ⟨hcz23_0, hcz23_1, hfz23_0, hfz23_1⟩ := uz2 w22 BK866; obtain ⟨Ao24, co24, eo24⟩ := Kd.R_slice HO875.out; subst eo24) | ((with_reducible refine ug 41 rfl ?_); refine uh (some 32) rfl Try.func41 #[.bool a0_0, .slice Ao24 t873.length co24] ?_; (with_reducible refine (modint_From.calls a0_0 _ _ t873 t877 t878 _ (uC (Kd.R_reads' HO875.out).2.2) ((Kd.R_reads' HO875.out).2.1) A7.out).mono ?_); rintro e w25 ⟨v879, rfl, ho0, hb⟩; refine ⟨_, rfl, ?_⟩; replace HO0_1 := ueV HO0_1 ho0 hb; replace HO1_1 := ueV HO1_1 ho0 hb; replace HO871 := ueN HO871 ho0 hb; have HO880 := ulo (unw (Kd.R_newM (M := fun k_ => (w.heap.size ≤ k_)) ho0 (below_size uB) (fun k_ h_ => h_)) HO875); replace HO875 := ueR HO875 ho0 hb; replace BK866 := ux BK866 hb; replace BK867 := ux BK867 hb; replace BK868 := ux BK868 hb; replace HB := uy hb; (try clear hb ho0); obtain ⟨hcz26_0, hcz26_1, hfz26_0, hfz26_1⟩ := uz2 w25 BK868; obtain ⟨Ao27, co27, eo27⟩ := Kd.R_slice HO880.out; subst eo27))
   refine bodyPost_ret (results_ct rfl _ _ gb868 44 #[.bool t877, .slice Ao27 t878.length co27] (0, 0) _ rfl (by refine blk_put (cs := #[.bool t877, .slice none 0 0]) ?_ 1 _ rfl; refine blk_put (cs := #[.bool false, .slice none 0 0]) ?_ 0 _ rfl; exact uK BK868.out) Try.underlying44 rfl (by kernel_rfl)) rfl ?_
   exact ⟨_, uF, by exact uR (Kd.R_mono (Kd.R_far (p := ⟨gb868, 1, none⟩) (Kd.R_far (p := ⟨gb868, 0, none⟩) (Kd.R_types HO880.out BK868.out (by decide)) (fun _ hk => hk.2) (.bool t877)) (fun _ hk => hk.2) (.slice Ao27 t878.length co27)) (fun _ hk => hk.1.1.1)), uB⟩
  rw [if_neg c5] at H
  have c5b0 : (a0_0 == a1_0) = false := by simpa using c5
  (try (have c5b1 : decide (a0_0 = a1_0) = false := by simpa using c5))
  (try (have c5b2 : (a0_0 == a1_0) = false := by simpa using c5))
  (try (have c5b3 : ¬ (a0_0 = a1_0) := by simpa using c5))
  clear c5
  replace ⟨t881, A28, H⟩ := ub H
  by_cases c29 : t881 < 0
  ·
   rw [if_pos c29] at H
   have c29b0 := decide_eq_true c29
   clear c29
   replace ⟨⟨t882, t885⟩, A30, H⟩ := ub H
   (try dsimp only at H)
   replace ⟨⟨t886, t887⟩, A31, H⟩ := ub H
   (try dsimp only at H)
   simp only [Option.some.injEq, Prod.mk.injEq] at H
   obtain ⟨rfl, rfl, rfl⟩ := H
   go_enter Try.func28, Try.ntmps28
   go_wp2_with (first | ((with_reducible refine gate_dst (N := 2) rfl ?_); refine ubx 2 #[.bool a0_0, .slice A0_1 l0_1.length c0_1] 44 rfl rfl ?_; intro gb866 hg w32 hbox hb; replace HO0_1 := uvb HO0_1 hg hb; replace HO1_1 := uvb HO1_1 hg hb; have BK866 := Aside0.mk (hbox); have GW866 := us hg; have GE866 := us hg; replace HB := uy hb; clear hb hbox hg) | ((with_reducible refine gate_dst (N := 3) rfl ?_); refine ubx 3 #[.bool a1_0, .slice A1_1 l1_1.length c1_1] 44 rfl rfl ?_; intro gb867 hg w33 hbox hb; replace HO0_1 := uvb HO0_1 hg hb; replace HO1_1 := uvb HO1_1 hg hb; have BK867 := Aside0.mk (hbox); have GW867 := us hg; have GE867 := us hg; replace HB := uy hb; obtain ⟨NB866_867, NB867_866⟩ := unb hg BK866; replace BK866 := ux BK866 hb; clear hb hbox hg) | ((with_reducible refine gate_dst (N := 4) rfl ?_); refine ubx 4 #[.bool false, .slice none 0 0] 44 rfl rfl ?_; intro gb868 hg w34 hbox hb; replace HO0_1 := uvb HO0_1 hg hb; replace HO1_1 := uvb HO1_1 hg hb; have BK868 := Aside0.mk (hbox); have GW868 := us hg; have GE868 := us hg; replace HB := uy hb; obtain ⟨NB866_868, NB868_866⟩ := unb hg BK866; replace BK866 := ux BK866 hb; obtain ⟨NB867_868, NB868_867⟩ := unb hg BK867; replace BK867 := ux BK867 hb; clear hb hbox hg; have hnb35 := NB866_867.out; have hnc35 := NB867_866.out; have hnb36 := NB866_868.out; have hnc36 := NB868_866.out; obtain ⟨hcz37_0, hcz37_1, hfz37_0, hfz37_1⟩ := uz2 w34 BK866; have hnb38 := NB867_868.out; have hnc38 := NB868_867.out; obtain ⟨hcz39_0, hcz39_1, hfz39_0, hfz39_1⟩ := uz2 w34 BK867) | ((with_reducible refine gate_dst (N := 12) rfl ?_); refine uNl 12 44 k44 ([(⟨a0_0, l0_1⟩ : S44), (⟨a1_0, l1_1⟩ : S44)] : List (S44)) [.bool a0_0, .slice A0_1 l0_1.length c0_1, .bool a1_0, .slice A1_1 l1_1.length c1_1] (fun k_ => ((P0_1_ k_ ∨ P1_1_ k_) ∨ w.heap.size ≤ k_) ∧ k_ ≠ gb866 ∧ k_ ≠ gb867 ∧ k_ ≠ gb868) rfl rfl ?hp ?hf ?_; (case hp => exact (Reps.c2 (k44_mkF _ _ (⟨a0_0, l0_1⟩ : S44) (Kd.V_reads' HO0_1.out).2.1 (Kd.V_F (Kd.V_mono (HO0_1.out) (fun k_ hk => ⟨hk.1.1.1, ⟨hk.1.1.2, ⟨hk.1.2, hk.2⟩⟩⟩)))) (Reps.c2 (k44_mkF _ _ (⟨a1_0, l1_1⟩ : S44) (Kd.V_reads' HO1_1.out).2.1 (Kd.V_F (Kd.V_mono (HO1_1.out) (fun k_ hk => ⟨hk.1.1.1, ⟨hk.1.1.2, ⟨hk.1.2, hk.2⟩⟩⟩)))) (Reps.none _ _)))); (case hf => exact fun k_ hk => ⟨(.inr (Nat.le_trans (below_size uB) hk)), Kd.freshB (g := gb866) (o := .cells #[.bool a0_0, .slice A0_1 l0_1.length c0_1] 44 (0, 0)) (uK BK866.out) k_ hk, Kd.freshB (g := gb867) (o := .cells #[.bool a1_0, .slice A1_1 l1_1.length c1_1] 44 (0, 0)) (uK BK867.out) k_ hk, Kd.freshB (g := gb868) (o := .cells #[.bool false, .slice none 0 0] 44 (0, 0)) (uK BK868.out) k_ hk⟩); intro v870 w40 ho41 hb; (first | rw [← Ny869.out] at ho41 | (simp only [Int.reduceToNat] at ho41; rw [← Ny869.out] at ho41)); replace HO0_1 := Aside0.mk (Kd.V_elder' (uV HO0_1.out) (Kd.N_base ho41) hb); replace HO1_1 := Aside0.mk (Kd.V_elder' (uV HO1_1.out) (Kd.N_base ho41) hb); have HO871 := Aside0.mk (Kd.N_lower ho41 (below_size uB)); replace BK866 := ux BK866 hb; replace BK867 := ux BK867 hb; replace BK868 := ux BK868 hb; replace HB := uy hb; clear hb ho41; obtain ⟨Ao42, co42, eo42⟩ := Kd.N_slice HO871.out; subst eo42) | ((with_reducible refine ug 42 rfl ?_); refine uh (some 13) rfl Try.func42 #[.slice Ao42 y869.length co42] ?_; (with_reducible refine (modint_right.calls _ _ y869 true _ (uC (Kd.N_reads' HO871.out).2.2) ((Kd.N_reads' HO871.out).2.1) A3.out).mono ?_); rintro e w43 ⟨rfl, hb⟩; refine ⟨_, rfl, ?_⟩; replace HO0_1 := Aside0.mk (Kd.V_below (uV HO0_1.out) hb); replace HO1_1 := Aside0.mk (Kd.V_below (uV HO1_1.out) hb); replace HO871 := Aside0.mk (Kd.N_below (uN HO871.out) hb); replace BK866 := ux BK866 hb; replace BK867 := ux BK867 hb; replace BK868 := ux BK868 hb; replace HB := uy hb; (try clear hb); obtain ⟨hcz44_0, hcz44_1, hfz44_0, hfz44_1⟩ := uz2 w43 BK866; obtain ⟨hcz45_0, hcz45_1, hfz45_0, hfz45_1⟩ := uz2 w43 BK867) | ((with_reducible refine ug 40 rfl ?_); refine uh (some 38) rfl Try.func40 #[.slice A0_1 l0_1.length c0_1, .slice A1_1 l1_1.length c1_1] ?_; (with_reducible refine (nat_Cmp.calls k (fun k_ => ((((((P0_1_ k_ ∨ P1_1_ k_) ∨ w.heap.size ≤ k_) ∧ k_ ≠ gb866) ∧ k_ ≠ gb867) ∧ k_ ≠ gb868) ∧ some k_ ≠ (.slice Ao42 y869.length co42 : Value).ownBlock)) _ _ l0_1 (fun k_ => ((((((P0_1_ k_ ∨ P1_1_ k_) ∨ w.heap.size ≤ k_) ∧ k_ ≠ gb866) ∧ k_ ≠ gb867) ∧ k_ ≠ gb868) ∧ some k_ ≠ (.slice Ao42 y869.length co42 : Value).ownBlock)) _ _ l1_1 t881 _ HO0_1.out HO1_1.out A28.out).mono ?_); rintro e w46 ⟨rfl, hb⟩; refine ⟨_, rfl, ?_⟩; replace HO0_1 := Aside0.mk (Kd.V_below (uV HO0_1.out) hb); replace HO1_1 := Aside0.mk (Kd.V_below (uV HO1_1.out) hb); replace HO871 := Aside0.mk (Kd.N_below (uN HO871.out) hb); replace BK866 := ux BK866 hb; replace BK867 := ux BK867 hb; replace BK868 := ux BK868 hb; replace HB := uy hb; (try clear hb); obtain ⟨hcz47_0, hcz47_1, hfz47_0, hfz47_1⟩ := uz2 w46 BK867; obtain ⟨hcz48_0, hcz48_1, hfz48_0, hfz48_1⟩ := uz2 w46 BK866) | ((with_reducible refine gate_store (t := 44) (p := 2) rfl ?_); refine store_event (t := 44) (p := 2) (v := ?vo_w49) (w1 := ((w46.setCell ⟨gb866, 0, none⟩ (.bool a1_0)).setCell ⟨gb866, 1, none⟩ (.slice A1_1 l1_1.length c1_1))) ?hg ?ho ?hn ?hr ?_; (case ho => rfl); (case hg => rfl); (case hn => rfl); (case hr => first | (go_simp; done) | (go_simp; rfl)); intro w49 hw; replace HO0_1 : Aside0 (Kd.V (Kd.int .u64) 42 w49 w.heap.size (fun k_ => ((P0_1_ k_ ∨ P1_1_ k_) ∨ w.heap.size ≤ k_) ∧ some k_ ≠ (.slice Ao42 y869.length co42 : Value).ownBlock ∧ k_ ≠ gb866 ∧ k_ ≠ gb867 ∧ k_ ≠ gb868) (.slice A0_1 l0_1.length c0_1) l0_1) := ⟨(by rw [hw]; exact (uV (Kd.V_mono (Kd.V_far (p := ⟨gb866, 1, none⟩) (Kd.V_far (p := ⟨gb866, 0, none⟩) (Kd.V_mono HO0_1.out (fun k_ hk => (⟨hk, hk.1.1.1.2⟩ : _ ∧ k_ ≠ gb866))) (fun _ hk => hk.2) (.bool a1_0)) (fun _ hk => hk.2) (.slice A1_1 l1_1.length c1_1)) (fun _ hk => ⟨hk.1.1.1.1.1, ⟨hk.1.2, ⟨hk.1.1.1.1.2, ⟨hk.1.1.1.2, hk.1.1.2⟩⟩⟩⟩))))⟩; replace HO1_1 : Aside0 (Kd.V (Kd.int .u64) 42 w49 w.heap.size (fun k_ => ((P0_1_ k_ ∨ P1_1_ k_) ∨ w.heap.size ≤ k_) ∧ some k_ ≠ (.slice Ao42 y869.length co42 : Value).ownBlock ∧ k_ ≠ gb866 ∧ k_ ≠ gb867 ∧ k_ ≠ gb868) (.slice A1_1 l1_1.length c1_1) l1_1) := ⟨(by rw [hw]; exact (uV (Kd.V_mono (Kd.V_far (p := ⟨gb866, 1, none⟩) (Kd.V_far (p := ⟨gb866, 0, none⟩) (Kd.V_mono HO1_1.out (fun k_ hk => (⟨hk, hk.1.1.1.2⟩ : _ ∧ k_ ≠ gb866))) (fun _ hk => hk.2) (.bool a1_0)) (fun _ hk => hk.2) (.slice A1_1 l1_1.length c1_1)) (fun _ hk => ⟨hk.1.1.1.1.1, ⟨hk.1.2, ⟨hk.1.1.1.1.2, ⟨hk.1.1.1.2, hk.1.1.2⟩⟩⟩⟩))))⟩; replace HO871 : Aside0 (Kd.N k44 44 w49 w.heap.size (fun k_ => ((P0_1_ k_ ∨ P1_1_ k_) ∨ w.heap.size ≤ k_) ∧ k_ ≠ gb866 ∧ k_ ≠ gb867 ∧ k_ ≠ gb868) (.slice Ao42 y869.length co42) y869) := ⟨(by rw [hw]; exact (uN (Kd.N_mono (Kd.N_far (p := ⟨gb866, 1, none⟩) (Kd.N_far (p := ⟨gb866, 0, none⟩) (Kd.N_mono HO871.out (fun k_ hk => (⟨hk, hk.2.1⟩ : _ ∧ k_ ≠ gb866))) (fun _ hk => hk.2) (.bool a1_0)) (fun _ hk => hk.2) (.slice A1_1 l1_1.length c1_1)) (fun _ hk => ⟨hk.1.1, ⟨hk.1.2.1, ⟨hk.1.2.2.1, hk.1.2.2.2⟩⟩⟩))))⟩; replace BK866 : Aside0 (w49.heap[gb866]? = some (.cells #[.bool a1_0, .slice A1_1 l1_1.length c1_1] 44 (0, 0))) := ⟨(by rw [hw]; exact (by refine blk_put (cs := #[.bool a1_0, .slice A0_1 l0_1.length c0_1]) ?_ 1 _ rfl; refine blk_put (cs := #[.bool a0_0, .slice A0_1 l0_1.length c0_1]) ?_ 0 _ rfl; exact uK BK866.out))⟩; replace BK867 : Aside0 (w49.heap[gb867]? = some (.cells #[.bool a1_0, .slice A1_1 l1_1.length c1_1] 44 (0, 0))) := ⟨(by rw [hw]; exact (by refine blk_far ?_ NB867_866.out _; refine blk_far ?_ NB867_866.out _; exact uK BK867.out))⟩; replace BK868 : Aside0 (w49.heap[gb868]? = some (.cells #[.bool false, .slice none 0 0] 44 (0, 0))) := ⟨(by rw [hw]; exact (by refine blk_far ?_ NB868_866.out _; refine blk_far ?_ NB868_866.out _; exact uK BK868.out))⟩; replace HB : Aside0 (Below w.heap.size w w49) := ⟨(by rw [hw]; exact uB)⟩; clear hw; obtain ⟨hcz50_0, hcz50_1, hfz50_0, hfz50_1⟩ := uz2 w49 BK867) | ((with_reducible refine gate_store (t := 44) (p := 3) rfl ?_); refine store_event (t := 44) (p := 3) (v := ?vo_w51) (w1 := ((w49.setCell ⟨gb867, 0, none⟩ (.bool a0_0)).setCell ⟨gb867, 1, none⟩ (.slice A0_1 l0_1.length c0_1))) ?hg ?ho ?hn ?hr ?_; (case ho => rfl); (case hg => rfl); (case hn => rfl); (case hr => first | (go_simp; done) | (go_simp; rfl)); intro w51 hw; replace HO0_1 : Aside0 (Kd.V (Kd.int .u64) 42 w51 w.heap.size (fun k_ => ((P0_1_ k_ ∨ P1_1_ k_) ∨ w.heap.size ≤ k_) ∧ some k_ ≠ (.slice Ao42 y869.length co42 : Value).ownBlock ∧ k_ ≠ gb866 ∧ k_ ≠ gb867 ∧ k_ ≠ gb868) (.slice A0_1 l0_1.length c0_1) l0_1) := ⟨(by rw [hw]; exact (uV (Kd.V_mono (Kd.V_far (p := ⟨gb867, 1, none⟩) (Kd.V_far (p := ⟨gb867, 0, none⟩) (Kd.V_mono HO0_1.out (fun k_ hk => (⟨hk, hk.2.2.2.1⟩ : _ ∧ k_ ≠ gb867))) (fun _ hk => hk.2) (.bool a0_0)) (fun _ hk => hk.2) (.slice A0_1 l0_1.length c0_1)) (fun _ hk => ⟨hk.1.1, ⟨hk.1.2.1, ⟨hk.1.2.2.1, ⟨hk.1.2.2.2.1, hk.1.2.2.2.2⟩⟩⟩⟩))))⟩; replace HO1_1 : Aside0 (Kd.V (Kd.int .u64) 42 w51 w.heap.size (fun k_ => ((P0_1_ k_ ∨ P1_1_ k_) ∨ w.heap.size ≤ k_) ∧ some k_ ≠ (.slice Ao42 y869.length co42 : Value).ownBlock ∧ k_ ≠ gb866 ∧ k_ ≠ gb867 ∧ k_ ≠ gb868) (.slice A1_1 l1_1.length c1_1) l1_1) := ⟨(by rw [hw]; exact (uV (Kd.V_mono (Kd.V_far (p := ⟨gb867, 1, none⟩) (Kd.V_far (p := ⟨gb867, 0, none⟩) (Kd.V_mono HO1_1.out (fun k_ hk => (⟨hk, hk.2.2.2.1⟩ : _ ∧ k_ ≠ gb867))) (fun _ hk => hk.2) (.bool a0_0)) (fun _ hk => hk.2) (.slice A0_1 l0_1.length c0_1)) (fun _ hk => ⟨hk.1.1, ⟨hk.1.2.1, ⟨hk.1.2.2.1, ⟨hk.1.2.2.2.1, hk.1.2.2.2.2⟩⟩⟩⟩))))⟩; replace HO871 : Aside0 (Kd.N k44 44 w51 w.heap.size (fun k_ => ((P0_1_ k_ ∨ P1_1_ k_) ∨ w.heap.size ≤ k_) ∧ k_ ≠ gb866 ∧ k_ ≠ gb867 ∧ k_ ≠ gb868) (.slice Ao42 y869.length co42) y869) := ⟨(by rw [hw]; exact (uN (Kd.N_mono (Kd.N_far (p := ⟨gb867, 1, none⟩) (Kd.N_far (p := ⟨gb867, 0, none⟩) (Kd.N_mono HO871.out (fun k_ hk => (⟨hk, hk.2.2.1⟩ : _ ∧ k_ ≠ gb867))) (fun _ hk => hk.2) (.bool a0_0)) (fun _ hk => hk.2) (.slice A0_1 l0_1.length c0_1)) (fun _ hk => ⟨hk.1.1, ⟨hk.1.2.1, ⟨hk.1.2.2.1, hk.1.2.2.2⟩⟩⟩))))⟩; replace BK866 : Aside0 (w51.heap[gb866]? = some (.cells #[.bool a1_0, .slice A1_1 l1_1.length c1_1] 44 (0, 0))) := ⟨(by rw [hw]; exact (by refine blk_far ?_ NB866_867.out _; refine blk_far ?_ NB866_867.out _; exact uK BK866.out))⟩; replace BK867 : Aside0 (w51.heap[gb867]? = some (.cells #[.bool a0_0, .slice A0_1 l0_1.length c0_1] 44 (0, 0))) := ⟨(by rw [hw]; exact (by refine blk_put (cs := #[.bool a0_0, .slice A1_1 l1_1.length c1_1]) ?_ 1 _ rfl; refine blk_put (cs := #[.bool a1_0, .slice A1_1 l1_1.length c1_1]) ?_ 0 _ rfl; exact uK BK867.out))⟩; replace BK868 : Aside0 (w51.heap[gb868]? = some (.cells #[.bool false, .slice none 0 0] 44 (0, 0))) := ⟨(by rw [hw]; exact (by refine blk_far ?_ NB868_867.out _; refine blk_far ?_ NB868_867.out _; exact uK BK868.out))⟩; replace HB : Aside0 (Below w.heap.size w w51) := ⟨(by rw [hw]; exact uB)⟩; clear hw; obtain ⟨hcz52_0, hcz52_1, hfz52_0, hfz52_1⟩ := uz2 w51 BK866; obtain ⟨hcz53_0, hcz53_1, hfz53_0, hfz53_1⟩ := uz2 w51 BK867) | ((with_reducible refine ug 37 rfl ?_); refine uh (some 47) rfl Try.func37 #[.slice A1_1 l1_1.length c1_1, .slice A0_1 l0_1.length c0_1] ?_; (with_reducible refine (nat_Sub.calls k (fun k_ => (((P0_1_ k_ ∨ P1_1_ k_) ∨ w.heap.size ≤ k_) ∧ (some k_ ≠ (.slice Ao42 y869.length co42 : Value).ownBlock ∧ (k_ ≠ gb866 ∧ (k_ ≠ gb867 ∧ k_ ≠ gb868))))) _ _ l1_1 (fun k_ => (((P0_1_ k_ ∨ P1_1_ k_) ∨ w.heap.size ≤ k_) ∧ (some k_ ≠ (.slice Ao42 y869.length co42 : Value).ownBlock ∧ (k_ ≠ gb866 ∧ (k_ ≠ gb867 ∧ k_ ≠ gb868))))) _ _ l0_1 t882 t885 _ HO1_1.out HO0_1.out A30.out).mono ?_); rintro e w54 ⟨v883, rfl, ho0, hb⟩; refine ⟨_, rfl, ?_⟩; replace HO0_1 := ueV HO0_1 ho0 hb; replace HO1_1 := ueV HO1_1 ho0 hb; replace HO871 := ueN HO871 ho0 hb; have HO884 := ulo (Kd.R_newM (M := fun k_ => (w.heap.size ≤ k_)) (Kd.R_mono (ok' := fun k_ => True) ho0 (fun _ hk_ => trivial)) (below_size uB) (fun k_ h_ => h_)); replace BK866 := ux BK866 hb; replace BK867 := ux BK867 hb; replace BK868 := ux BK868 hb; replace HB := uy hb; (try clear hb ho0); obtain ⟨hcz55_0, hcz55_1, hfz55_0, hfz55_1⟩ := uz2 w54 BK866; obtain ⟨Ao56, co56, eo56⟩ := Kd.R_slice HO884.out; subst eo56) | ((with_reducible refine ug 41 rfl ?_); refine uh (some 53) rfl Try.func41 #[.bool a1_0, .slice Ao56 t882.length co56] ?_; (with_reducible refine (modint_From.calls a1_0 _ _ t882 t886 t887 _ (uC (Kd.R_reads' HO884.out).2.2) ((Kd.R_reads' HO884.out).2.1) A31.out).mono ?_); rintro e w57 ⟨v888, rfl, ho0, hb⟩; refine ⟨_, rfl, ?_⟩; replace HO0_1 := ueV HO0_1 ho0 hb; replace HO1_1 := ueV HO1_1 ho0 hb; replace HO871 := ueN HO871 ho0 hb; have HO889 := ulo (unw (Kd.R_newM (M := fun k_ => (w.heap.size ≤ k_)) ho0 (below_size uB) (fun k_ h_ => h_)) HO884); replace HO884 := ueR HO884 ho0 hb; replace BK866 := ux BK866 hb; replace BK867 := ux BK867 hb; replace BK868 := ux BK868 hb; replace HB := uy hb; (try clear hb ho0); obtain ⟨hcz58_0, hcz58_1, hfz58_0, hfz58_1⟩ := uz2 w57 BK868; obtain ⟨Ao59, co59, eo59⟩ := Kd.R_slice HO889.out; subst eo59))
   refine bodyPost_ret (results_ct rfl _ _ gb868 44 #[.bool t886, .slice Ao59 t887.length co59] (0, 0) _ rfl (by refine blk_put (cs := #[.bool t886, .slice none 0 0]) ?_ 1 _ rfl; refine blk_put (cs := #[.bool false, .slice none 0 0]) ?_ 0 _ rfl; exact uK BK868.out) Try.underlying44 rfl (by kernel_rfl)) rfl ?_
   exact ⟨_, uF, by exact uR (Kd.R_mono (Kd.R_far (p := ⟨gb868, 1, none⟩) (Kd.R_far (p := ⟨gb868, 0, none⟩) (Kd.R_types HO889.out BK868.out (by decide)) (fun _ hk => hk.2) (.bool t886)) (fun _ hk => hk.2) (.slice Ao59 t887.length co59)) (fun _ hk => hk.1.1.1)), uB⟩
  rw [if_neg c29] at H
  have c29b0 := decide_eq_false c29
  clear c29
  replace ⟨⟨t890, t893⟩, A60, H⟩ := ub H
  (try dsimp only at H)
  replace ⟨⟨t894, t895⟩, A61, H⟩ := ub H
  (try dsimp only at H)
  simp only [Option.some.injEq, Prod.mk.injEq] at H
  obtain ⟨rfl, rfl, rfl⟩ := H
  go_enter Try.func28, Try.ntmps28
  go_wp2_with (first | ((with_reducible refine gate_dst (N := 2) rfl ?_); refine ubx 2 #[.bool a0_0, .slice A0_1 l0_1.length c0_1] 44 rfl rfl ?_; intro gb866 hg w62 hbox hb; replace HO0_1 := uvb HO0_1 hg hb; replace HO1_1 := uvb HO1_1 hg hb; have BK866 := Aside0.mk (hbox); have GW866 := us hg; have GE866 := us hg; replace HB := uy hb; clear hb hbox hg) | ((with_reducible refine gate_dst (N := 3) rfl ?_); refine ubx 3 #[.bool a1_0, .slice A1_1 l1_1.length c1_1] 44 rfl rfl ?_; intro gb867 hg w63 hbox hb; replace HO0_1 := uvb HO0_1 hg hb; replace HO1_1 := uvb HO1_1 hg hb; have BK867 := Aside0.mk (hbox); have GW867 := us hg; have GE867 := us hg; replace HB := uy hb; obtain ⟨NB866_867, NB867_866⟩ := unb hg BK866; replace BK866 := ux BK866 hb; clear hb hbox hg) | ((with_reducible refine gate_dst (N := 4) rfl ?_); refine ubx 4 #[.bool false, .slice none 0 0] 44 rfl rfl ?_; intro gb868 hg w64 hbox hb; replace HO0_1 := uvb HO0_1 hg hb; replace HO1_1 := uvb HO1_1 hg hb; have BK868 := Aside0.mk (hbox); have GW868 := us hg; have GE868 := us hg; replace HB := uy hb; obtain ⟨NB866_868, NB868_866⟩ := unb hg BK866; replace BK866 := ux BK866 hb; obtain ⟨NB867_868, NB868_867⟩ := unb hg BK867; replace BK867 := ux BK867 hb; clear hb hbox hg; have hnb65 := NB866_867.out; have hnc65 := NB867_866.out; have hnb66 := NB866_868.out; have hnc66 := NB868_866.out; obtain ⟨hcz67_0, hcz67_1, hfz67_0, hfz67_1⟩ := uz2 w64 BK866; have hnb68 := NB867_868.out; have hnc68 := NB868_867.out; obtain ⟨hcz69_0, hcz69_1, hfz69_0, hfz69_1⟩ := uz2 w64 BK867) | ((with_reducible refine gate_dst (N := 12) rfl ?_); refine uNl 12 44 k44 ([(⟨a0_0, l0_1⟩ : S44), (⟨a1_0, l1_1⟩ : S44)] : List (S44)) [.bool a0_0, .slice A0_1 l0_1.length c0_1, .bool a1_0, .slice A1_1 l1_1.length c1_1] (fun k_ => ((P0_1_ k_ ∨ P1_1_ k_) ∨ w.heap.size ≤ k_) ∧ k_ ≠ gb866 ∧ k_ ≠ gb867 ∧ k_ ≠ gb868) rfl rfl ?hp ?hf ?_; (case hp => exact (Reps.c2 (k44_mkF _ _ (⟨a0_0, l0_1⟩ : S44) (Kd.V_reads' HO0_1.out).2.1 (Kd.V_F (Kd.V_mono (HO0_1.out) (fun k_ hk => ⟨hk.1.1.1, ⟨hk.1.1.2, ⟨hk.1.2, hk.2⟩⟩⟩)))) (Reps.c2 (k44_mkF _ _ (⟨a1_0, l1_1⟩ : S44) (Kd.V_reads' HO1_1.out).2.1 (Kd.V_F (Kd.V_mono (HO1_1.out) (fun k_ hk => ⟨hk.1.1.1, ⟨hk.1.1.2, ⟨hk.1.2, hk.2⟩⟩⟩)))) (Reps.none _ _)))); (case hf => exact fun k_ hk => ⟨(.inr (Nat.le_trans (below_size uB) hk)), Kd.freshB (g := gb866) (o := .cells #[.bool a0_0, .slice A0_1 l0_1.length c0_1] 44 (0, 0)) (uK BK866.out) k_ hk, Kd.freshB (g := gb867) (o := .cells #[.bool a1_0, .slice A1_1 l1_1.length c1_1] 44 (0, 0)) (uK BK867.out) k_ hk, Kd.freshB (g := gb868) (o := .cells #[.bool false, .slice none 0 0] 44 (0, 0)) (uK BK868.out) k_ hk⟩); intro v870 w70 ho71 hb; (first | rw [← Ny869.out] at ho71 | (simp only [Int.reduceToNat] at ho71; rw [← Ny869.out] at ho71)); replace HO0_1 := Aside0.mk (Kd.V_elder' (uV HO0_1.out) (Kd.N_base ho71) hb); replace HO1_1 := Aside0.mk (Kd.V_elder' (uV HO1_1.out) (Kd.N_base ho71) hb); have HO871 := Aside0.mk (Kd.N_lower ho71 (below_size uB)); replace BK866 := ux BK866 hb; replace BK867 := ux BK867 hb; replace BK868 := ux BK868 hb; replace HB := uy hb; clear hb ho71; obtain ⟨Ao72, co72, eo72⟩ := Kd.N_slice HO871.out; subst eo72) | ((with_reducible refine ug 42 rfl ?_); refine uh (some 13) rfl Try.func42 #[.slice Ao72 y869.length co72] ?_; (with_reducible refine (modint_right.calls _ _ y869 true _ (uC (Kd.N_reads' HO871.out).2.2) ((Kd.N_reads' HO871.out).2.1) A3.out).mono ?_); rintro e w73 ⟨rfl, hb⟩; refine ⟨_, rfl, ?_⟩; replace HO0_1 := Aside0.mk (Kd.V_below (uV HO0_1.out) hb); replace HO1_1 := Aside0.mk (Kd.V_below (uV HO1_1.out) hb); replace HO871 := Aside0.mk (Kd.N_below (uN HO871.out) hb); replace BK866 := ux BK866 hb; replace BK867 := ux BK867 hb; replace BK868 := ux BK868 hb; replace HB := uy hb; (try clear hb); obtain ⟨hcz74_0, hcz74_1, hfz74_0, hfz74_1⟩ := uz2 w73 BK866; obtain ⟨hcz75_0, hcz75_1, hfz75_0, hfz75_1⟩ := uz2 w73 BK867) | ((with_reducible refine ug 40 rfl ?_); refine uh (some 38) rfl Try.func40 #[.slice A0_1 l0_1.length c0_1, .slice A1_1 l1_1.length c1_1] ?_; (with_reducible refine (nat_Cmp.calls k (fun k_ => ((((((P0_1_ k_ ∨ P1_1_ k_) ∨ w.heap.size ≤ k_) ∧ k_ ≠ gb866) ∧ k_ ≠ gb867) ∧ k_ ≠ gb868) ∧ some k_ ≠ (.slice Ao72 y869.length co72 : Value).ownBlock)) _ _ l0_1 (fun k_ => ((((((P0_1_ k_ ∨ P1_1_ k_) ∨ w.heap.size ≤ k_) ∧ k_ ≠ gb866) ∧ k_ ≠ gb867) ∧ k_ ≠ gb868) ∧ some k_ ≠ (.slice Ao72 y869.length co72 : Value).ownBlock)) _ _ l1_1 t881 _ HO0_1.out HO1_1.out A28.out).mono ?_); rintro e w76 ⟨rfl, hb⟩; refine ⟨_, rfl, ?_⟩; replace HO0_1 := Aside0.mk (Kd.V_below (uV HO0_1.out) hb); replace HO1_1 := Aside0.mk (Kd.V_below (uV HO1_1.out) hb); replace HO871 := Aside0.mk (Kd.N_below (uN HO871.out) hb); replace BK866 := ux BK866 hb; replace BK867 := ux BK867 hb; replace BK868 := ux BK868 hb; replace HB := uy hb; (try clear hb); obtain ⟨hcz77_0, hcz77_1, hfz77_0, hfz77_1⟩ := uz2 w76 BK866; obtain ⟨hcz78_0, hcz78_1, hfz78_0, hfz78_1⟩ := uz2 w76 BK867) | ((with_reducible refine ug 37 rfl ?_); refine uh (some 47) rfl Try.func37 #[.slice A0_1 l0_1.length c0_1, .slice A1_1 l1_1.length c1_1] ?_; (with_reducible refine (nat_Sub.calls k (fun k_ => ((((((P0_1_ k_ ∨ P1_1_ k_) ∨ w.heap.size ≤ k_) ∧ k_ ≠ gb866) ∧ k_ ≠ gb867) ∧ k_ ≠ gb868) ∧ some k_ ≠ (.slice Ao72 y869.length co72 : Value).ownBlock)) _ _ l0_1 (fun k_ => ((((((P0_1_ k_ ∨ P1_1_ k_) ∨ w.heap.size ≤ k_) ∧ k_ ≠ gb866) ∧ k_ ≠ gb867) ∧ k_ ≠ gb868) ∧ some k_ ≠ (.slice Ao72 y869.length co72 : Value).ownBlock)) _ _ l1_1 t890 t893 _ HO0_1.out HO1_1.out A60.out).mono ?_); rintro e w79 ⟨v891, rfl, ho0, hb⟩; refine ⟨_, rfl, ?_⟩; replace HO0_1 := ueV HO0_1 ho0 hb; replace HO1_1 := ueV HO1_1 ho0 hb; replace HO871 := ueN HO871 ho0 hb; have HO892 := ulo (Kd.R_newM (M := fun k_ => (w.heap.size ≤ k_)) (Kd.R_mono (ok' := fun k_ => True) ho0 (fun _ hk_ => trivial)) (below_size uB) (fun k_ h_ => h_)); replace BK866 := ux BK866 hb; replace BK867 := ux BK867 hb; replace BK868 := ux BK868 hb; replace HB := uy hb; (try clear hb ho0); obtain ⟨hcz80_0, hcz80_1, hfz80_0, hfz80_1⟩ := uz2 w79 BK866; obtain ⟨Ao81, co81, eo81⟩ := Kd.R_slice HO892.out; subst eo81) | ((with_reducible refine ug 41 rfl ?_); refine uh (some 53) rfl Try.func41 #[.bool a0_0, .slice Ao81 t890.length co81] ?_; (with_reducible refine (modint_From.calls a0_0 _ _ t890 t894 t895 _ (uC (Kd.R_reads' HO892.out).2.2) ((Kd.R_reads' HO892.out).2.1) A61.out).mono ?_); rintro e w82 ⟨v896, rfl, ho0, hb⟩; refine ⟨_, rfl, ?_⟩; replace HO0_1 := ueV HO0_1 ho0 hb; replace HO1_1 := ueV HO1_1 ho0 hb; replace HO871 := ueN HO871 ho0 hb; have HO897 := ulo (unw (Kd.R_newM (M := fun k_ => (w.heap.size ≤ k_)) ho0 (below_size uB) (fun k_ h_ => h_)) HO892); replace HO892 := ueR HO892 ho0 hb; replace BK866 := ux BK866 hb; replace BK867 := ux BK867 hb; replace BK868 := ux BK868 hb; replace HB := uy hb; (try clear hb ho0); obtain ⟨hcz83_0, hcz83_1, hfz83_0, hfz83_1⟩ := uz2 w82 BK868; obtain ⟨Ao84, co84, eo84⟩ := Kd.R_slice HO897.out; subst eo84))
  refine bodyPost_ret (results_ct rfl _ _ gb868 44 #[.bool t894, .slice Ao84 t895.length co84] (0, 0) _ rfl (by refine blk_put (cs := #[.bool t894, .slice none 0 0]) ?_ 1 _ rfl; refine blk_put (cs := #[.bool false, .slice none 0 0]) ?_ 0 _ rfl; exact uK BK868.out) Try.underlying44 rfl (by kernel_rfl)) rfl ?_
  exact ⟨_, uF, by exact uR (Kd.R_mono (Kd.R_far (p := ⟨gb868, 1, none⟩) (Kd.R_far (p := ⟨gb868, 0, none⟩) (Kd.R_types HO897.out BK868.out (by decide)) (fun _ hk => hk.2) (.bool t894)) (fun _ hk => hk.2) (.slice Ao84 t895.length co84)) (fun _ hk => hk.1.1.1)), uB⟩
 replace c4 := Bool.eq_false_iff.mpr c4
 subst c4
 rw [if_neg (show ¬ (false = true) by decide)] at H
 simp only [Option.some.injEq, Prod.mk.injEq] at H
 obtain ⟨rfl, rfl, rfl⟩ := H
 go_enter Try.func28, Try.ntmps28
 go_wp2_with (first | ((with_reducible refine gate_dst (N := 2) rfl ?_); refine ubx 2 #[.bool a0_0, .slice A0_1 l0_1.length c0_1] 44 rfl rfl ?_; intro gb866 hg w85 hbox hb; replace HO0_1 := uvb HO0_1 hg hb; replace HO1_1 := uvb HO1_1 hg hb; have BK866 := Aside0.mk (hbox); have GW866 := us hg; have GE866 := us hg; replace HB := uy hb; clear hb hbox hg) | ((with_reducible refine gate_dst (N := 3) rfl ?_); refine ubx 3 #[.bool a1_0, .slice A1_1 l1_1.length c1_1] 44 rfl rfl ?_; intro gb867 hg w86 hbox hb; replace HO0_1 := uvb HO0_1 hg hb; replace HO1_1 := uvb HO1_1 hg hb; have BK867 := Aside0.mk (hbox); have GW867 := us hg; have GE867 := us hg; replace HB := uy hb; obtain ⟨NB866_867, NB867_866⟩ := unb hg BK866; replace BK866 := ux BK866 hb; clear hb hbox hg) | ((with_reducible refine gate_dst (N := 4) rfl ?_); refine ubx 4 #[.bool false, .slice none 0 0] 44 rfl rfl ?_; intro gb868 hg w87 hbox hb; replace HO0_1 := uvb HO0_1 hg hb; replace HO1_1 := uvb HO1_1 hg hb; have BK868 := Aside0.mk (hbox); have GW868 := us hg; have GE868 := us hg; replace HB := uy hb; obtain ⟨NB866_868, NB868_866⟩ := unb hg BK866; replace BK866 := ux BK866 hb; obtain ⟨NB867_868, NB868_867⟩ := unb hg BK867; replace BK867 := ux BK867 hb; clear hb hbox hg; have hnb88 := NB866_867.out; have hnc88 := NB867_866.out; have hnb89 := NB866_868.out; have hnc89 := NB868_866.out; obtain ⟨hcz90_0, hcz90_1, hfz90_0, hfz90_1⟩ := uz2 w87 BK866; have hnb91 := NB867_868.out; have hnc91 := NB868_867.out; obtain ⟨hcz92_0, hcz92_1, hfz92_0, hfz92_1⟩ := uz2 w87 BK867) | ((with_reducible refine gate_dst (N := 12) rfl ?_); refine uNl 12 44 k44 ([(⟨a0_0, l0_1⟩ : S44), (⟨a1_0, l1_1⟩ : S44)] : List (S44)) [.bool a0_0, .slice A0_1 l0_1.length c0_1, .bool a1_0, .slice A1_1 l1_1.length c1_1] (fun k_ => ((P0_1_ k_ ∨ P1_1_ k_) ∨ w.heap.size ≤ k_) ∧ k_ ≠ gb866 ∧ k_ ≠ gb867 ∧ k_ ≠ gb868) rfl rfl ?hp ?hf ?_; (case hp => exact (Reps.c2 (k44_mkF _ _ (⟨a0_0, l0_1⟩ : S44) (Kd.V_reads' HO0_1.out).2.1 (Kd.V_F (Kd.V_mono (HO0_1.out) (fun k_ hk => ⟨hk.1.1.1, ⟨hk.1.1.2, ⟨hk.1.2, hk.2⟩⟩⟩)))) (Reps.c2 (k44_mkF _ _ (⟨a1_0, l1_1⟩ : S44) (Kd.V_reads' HO1_1.out).2.1 (Kd.V_F (Kd.V_mono (HO1_1.out) (fun k_ hk => ⟨hk.1.1.1, ⟨hk.1.1.2, ⟨hk.1.2, hk.2⟩⟩⟩)))) (Reps.none _ _)))); (case hf => exact fun k_ hk => ⟨(.inr (Nat.le_trans (below_size uB) hk)), Kd.freshB (g := gb866) (o := .cells #[.bool a0_0, .slice A0_1 l0_1.length c0_1] 44 (0, 0)) (uK BK866.out) k_ hk, Kd.freshB (g := gb867) (o := .cells #[.bool a1_0, .slice A1_1 l1_1.length c1_1] 44 (0, 0)) (uK BK867.out) k_ hk, Kd.freshB (g := gb868) (o := .cells #[.bool false, .slice none 0 0] 44 (0, 0)) (uK BK868.out) k_ hk⟩); intro v870 w93 ho94 hb; (first | rw [← Ny869.out] at ho94 | (simp only [Int.reduceToNat] at ho94; rw [← Ny869.out] at ho94)); replace HO0_1 := Aside0.mk (Kd.V_elder' (uV HO0_1.out) (Kd.N_base ho94) hb); replace HO1_1 := Aside0.mk (Kd.V_elder' (uV HO1_1.out) (Kd.N_base ho94) hb); have HO871 := Aside0.mk (Kd.N_lower ho94 (below_size uB)); replace BK866 := ux BK866 hb; replace BK867 := ux BK867 hb; replace BK868 := ux BK868 hb; replace HB := uy hb; clear hb ho94; obtain ⟨Ao95, co95, eo95⟩ := Kd.N_slice HO871.out; subst eo95) | ((with_reducible refine ug 42 rfl ?_); refine uh (some 13) rfl Try.func42 #[.slice Ao95 y869.length co95] ?_; (with_reducible refine (modint_right.calls _ _ y869 false _ (uC (Kd.N_reads' HO871.out).2.2) ((Kd.N_reads' HO871.out).2.1) A3.out).mono ?_); rintro e w96 ⟨rfl, hb⟩; refine ⟨_, rfl, ?_⟩; replace HO0_1 := Aside0.mk (Kd.V_below (uV HO0_1.out) hb); replace HO1_1 := Aside0.mk (Kd.V_below (uV HO1_1.out) hb); replace HO871 := Aside0.mk (Kd.N_below (uN HO871.out) hb); replace BK866 := ux BK866 hb; replace BK867 := ux BK867 hb; replace BK868 := ux BK868 hb; replace HB := uy hb; (try clear hb); obtain ⟨hcz97_0, hcz97_1, hfz97_0, hfz97_1⟩ := uz2 w96 BK868))
 refine bodyPost_ret (results_ct rfl _ _ gb868 44 #[.bool false, .slice none 0 0] (0, 0) _ rfl (by refine blk_put (cs := #[.bool false, .slice none 0 0]) ?_ 1 _ rfl; refine blk_put (cs := #[.bool false, .slice none 0 0]) ?_ 0 _ rfl; exact uK BK868.out) Try.underlying44 rfl (by kernel_rfl)) rfl ?_
 exact ⟨_, uF, uI, uB⟩
def modint_Sub.f (k : Nat) (a0_0 : Bool) (l0_1 : List Int) (a1_0 : Bool) (l1_1 : List Int) : Option (Bool × List Int × Int) := (modint_right.f (([(⟨a0_0, l0_1⟩ : S44), (⟨a1_0, l1_1⟩ : S44)] : List (S44)))).bind fun t911 => (if t911 = true then ((modint_Neg.f a1_0 l1_1).bind fun bt912 => ((modint_Add.f k a0_0 l0_1 bt912.1 bt912.2).bind fun bt916 => (some (bt916.1, bt916.2.1, bt916.2.2)))) else (some (false, ([] : List Int), 1)))
def modint_Sub.T3 : Bool × List (List Nat × List Nat) := (true, [([], []), ([], []), ([1], [1]), ([0, 2, 2], [0, 2]), ([3], [3]), ([3], [3]), ([4, 3, 0, 1, 2, 3, 4, 5], [4]), ([5, 6, 0, 1, 2, 3, 4, 5, 6], [5])])
def modint_Sub.B3 : List Nat := [0, 0, 2, 7, 15, 15, 63, 127]
theorem modint_Sub.tab3 : rtab .any (opsOf Try.f29 3) = modint_Sub.T3 := by kernel_rfl
theorem modint_Sub.bits3 : waitsOk modint_Sub.T3.2 modint_Sub.B3 = true := by kernel_rfl
theorem modint_Sub.calls (k : Nat) (a0_0 : Bool) (P0_1_ : Nat → Prop) (A0_1 : Option Addr) (c0_1 : Nat) (l0_1 : List Int) (a1_0 : Bool) (P1_1_ : Nat → Prop) (A1_1 : Option Addr) (c1_1 : Nat) (l1_1 : List Int) (r1 : Bool) (r2 : List Int) (r3 : Int) (w : World) (hs0_1 : Kd.V (Kd.int .u64) 42 w w.heap.size (fun k_ => P0_1_ k_) (.slice A0_1 l0_1.length c0_1) l0_1) (hs1_1 : Kd.V (Kd.int .u64) 42 w w.heap.size (fun k_ => P1_1_ k_) (.slice A1_1 l1_1.length c1_1) l1_1) (h : modint_Sub.f k a0_0 l0_1 a1_0 l1_1 = some (r1, r2, r3)) :
  Calls Try.prog 29 #[.agg #[.bool a0_0, .slice A0_1 l0_1.length c0_1], .agg #[.bool a1_0, .slice A1_1 l1_1.length c1_1]] w fun e w' => ∃ v1_ : Value, e = .returned (.tuple #[.agg #[.bool r1, v1_], .int .i64 r3]) ∧ Kd.R (Kd.int .u64) 42 w' w.heap.size (fun k_ => (w.heap.size ≤ k_)) v1_ r2 ∧ Below w.heap.size w w' := by
 have hu44 := Try.underlying44
 have HO0_1 := Aside0.mk (show Kd.V (Kd.int .u64) 42 w w.heap.size (fun k_ => ((P0_1_ k_ ∨ P1_1_ k_) ∨ w.heap.size ≤ k_)) (.slice A0_1 l0_1.length c0_1) l0_1 from Kd.V_mono hs0_1 (fun k_ hk => .inl (.inl hk)))
 have HO1_1 := Aside0.mk (show Kd.V (Kd.int .u64) 42 w w.heap.size (fun k_ => ((P0_1_ k_ ∨ P1_1_ k_) ∨ w.heap.size ≤ k_)) (.slice A1_1 l1_1.length c1_1) l1_1 from Kd.V_mono hs1_1 (fun k_ hk => .inl (.inr hk)))
 have HB := Aside0.mk (Below.refl w.heap.size w)
 have H : ((modint_right.f (([(⟨a0_0, l0_1⟩ : S44), (⟨a1_0, l1_1⟩ : S44)] : List (S44)))).bind fun t911 => (if t911 = true then ((modint_Neg.f a1_0 l1_1).bind fun bt912 => ((modint_Add.f k a0_0 l0_1 bt912.1 bt912.2).bind fun bt916 => (some (bt916.1, bt916.2.1, bt916.2.2)))) else (some (false, ([] : List Int), 1)))) = some (r1, r2, r3) := h
 clear h
 generalize hy908 : ((([(⟨a0_0, l0_1⟩ : S44), (⟨a1_0, l1_1⟩ : S44)] : List (S44))) : List (S44)) = y908 at H
 have Ny908 := Aside0.mk hy908.symm; clear hy908
 replace ⟨t911, A3, H⟩ := ub H
 by_cases c4 : t911 = true
 ·
  subst c4
  rw [if_pos rfl] at H
  replace ⟨⟨t912, t913⟩, A5, H⟩ := ub H
  (try dsimp only at H)
  replace ⟨⟨t916, t917, t920⟩, A6, H⟩ := ub H
  (try dsimp only at H)
  simp only [Option.some.injEq, Prod.mk.injEq] at H
  obtain ⟨rfl, rfl, rfl⟩ := H
  go_enter Try.func29, Try.ntmps29
  try go_wp2_with (first | ((with_reducible refine gate_dst (N := 2) rfl ?_); refine ubx 2 #[.bool a0_0, .slice A0_1 l0_1.length c0_1] 44 rfl rfl ?_; intro gb905 hg w7 hbox hb; replace HO0_1 := uvb HO0_1 hg hb; replace HO1_1 := uvb HO1_1 hg hb; have BK905 := Aside0.mk (hbox); have GW905 := us hg; have GE905 := us hg; replace HB := uy hb; clear hb hbox hg) | ((with_reducible refine gate_dst (N := 3) rfl ?_); refine ubx 3 #[.bool a1_0, .slice A1_1 l1_1.length c1_1] 44 rfl rfl ?_; intro gb906 hg w8 hbox hb; replace HO0_1 := uvb HO0_1 hg hb; replace HO1_1 := uvb HO1_1 hg hb; have BK906 := Aside0.mk (hbox); have GW906 := us hg; have GE906 := us hg; replace HB := uy hb; obtain ⟨NB905_906, NB906_905⟩ := unb hg BK905; replace BK905 := ux BK905 hb; clear hb hbox hg) | ((with_reducible refine gate_dst (N := 4) rfl ?_); refine ubx 4 #[.bool false, .slice none 0 0] 44 rfl rfl ?_; intro gb907 hg w9 hbox hb; replace HO0_1 := uvb HO0_1 hg hb; replace HO1_1 := uvb HO1_1 hg hb; have BK907 := Aside0.mk (hbox); have GW907 := us hg; have GE907 := us hg; replace HB := uy hb; obtain ⟨NB905_907, NB907_905⟩ := unb hg BK905; replace BK905 := ux BK905 hb; obtain ⟨NB906_907, NB907_906⟩ := unb hg BK906; replace BK906 := ux BK906 hb; clear hb hbox hg; have hnb10 := NB905_906.out; have hnc10 := NB906_905.out; have hnb11 := NB905_907.out; have hnc11 := NB907_905.out; obtain ⟨hcz12_0, hcz12_1, hfz12_0, hfz12_1⟩ := uz2 w9 BK905; have hnb13 := NB906_907.out; have hnc13 := NB907_906.out; obtain ⟨hcz14_0, hcz14_1, hfz14_0, hfz14_1⟩ := uz2 w9 BK906) | ((with_reducible refine gate_dst (N := 8) rfl ?_); refine uNl 8 44 k44 ([(⟨a0_0, l0_1⟩ : S44), (⟨a1_0, l1_1⟩ : S44)] : List (S44)) [.bool a0_0, .slice A0_1 l0_1.length c0_1, .bool a1_0, .slice A1_1 l1_1.length c1_1] (fun k_ => ((P0_1_ k_ ∨ P1_1_ k_) ∨ w.heap.size ≤ k_) ∧ k_ ≠ gb905 ∧ k_ ≠ gb906 ∧ k_ ≠ gb907) rfl rfl ?hp ?hf ?_; (case hp => exact (Reps.c2 (k44_mkF _ _ (⟨a0_0, l0_1⟩ : S44) (Kd.V_reads' HO0_1.out).2.1 (Kd.V_F (Kd.V_mono (HO0_1.out) (fun k_ hk => ⟨hk.1.1.1, ⟨hk.1.1.2, ⟨hk.1.2, hk.2⟩⟩⟩)))) (Reps.c2 (k44_mkF _ _ (⟨a1_0, l1_1⟩ : S44) (Kd.V_reads' HO1_1.out).2.1 (Kd.V_F (Kd.V_mono (HO1_1.out) (fun k_ hk => ⟨hk.1.1.1, ⟨hk.1.1.2, ⟨hk.1.2, hk.2⟩⟩⟩)))) (Reps.none _ _)))); (case hf => exact fun k_ hk => ⟨(.inr (Nat.le_trans (below_size uB) hk)), Kd.freshB (g := gb905) (o := .cells #[.bool a0_0, .slice A0_1 l0_1.length c0_1] 44 (0, 0)) (uK BK905.out) k_ hk, Kd.freshB (g := gb906) (o := .cells #[.bool a1_0, .slice A1_1 l1_1.length c1_1] 44 (0, 0)) (uK BK906.out) k_ hk, Kd.freshB (g := gb907) (o := .cells #[.bool false, .slice none 0 0] 44 (0, 0)) (uK BK907.out) k_ hk⟩); intro v909 w15 ho16 hb; (first | rw [← Ny908.out] at ho16 | (simp only [Int.reduceToNat] at ho16; rw [← Ny908.out] at ho16)); replace HO0_1 := Aside0.mk (Kd.V_elder' (uV HO0_1.out) (Kd.N_base ho16) hb); replace HO1_1 := Aside0.mk (Kd.V_elder' (uV HO1_1.out) (Kd.N_base ho16) hb); have HO910 := Aside0.mk (Kd.N_lower ho16 (below_size uB)); replace BK905 := ux BK905 hb; replace BK906 := ux BK906 hb; replace BK907 := ux BK907 hb; replace HB := uy hb; clear hb ho16; obtain ⟨Ao17, co17, eo17⟩ := Kd.N_slice HO910.out; subst eo17) | ((with_reducible refine ug 42 rfl ?_); refine uh (some 9) rfl Try.func42 #[.slice Ao17 y908.length co17] ?_; (with_reducible refine (modint_right.calls _ _ y908 true _ (uC (Kd.N_reads' HO910.out).2.2) ((Kd.N_reads' HO910.out).2.1) A3.out).mono ?_); rintro e w18 ⟨rfl, hb⟩; refine ⟨_, rfl, ?_⟩; replace HO0_1 := Aside0.mk (Kd.V_below (uV HO0_1.out) hb); replace HO1_1 := Aside0.mk (Kd.V_below (uV HO1_1.out) hb); replace HO910 := Aside0.mk (Kd.N_below (uN HO910.out) hb); replace BK905 := ux BK905 hb; replace BK906 := ux BK906 hb; replace BK907 := ux BK907 hb; replace HB := uy hb; (try clear hb)))
  replace HO0_1 := Aside0.mk (Kd.V_drew HO0_1.out); replace HO1_1 := Aside0.mk (Kd.V_drew HO1_1.out); replace HO910 := Aside0.mk (Kd.N_drew HO910.out); replace BK905 := Aside0.mk (blk_drew BK905.out); replace BK906 := Aside0.mk (blk_drew BK906.out); replace BK907 := Aside0.mk (blk_drew BK907.out); replace HB := Aside0.mk (below_drew1 HB.out)
  refine start_ (n := 8) (S := fun w' => w'.cell? ⟨gb905, 0, none⟩ = some (.bool a0_0) ∧ w'.cell? ⟨gb905, 1, none⟩ = some (.slice A0_1 l0_1.length c0_1) ∧ w'.cell? ⟨gb906, 0, none⟩ = some (.bool a1_0) ∧ w'.cell? ⟨gb906, 1, none⟩ = some (.slice A1_1 l1_1.length c1_1)) (ds := []) (.replicate 8 false) (by kernel_rfl) rfl rfl ⟨(blk_cell BK905.out 0).trans rfl, (blk_cell BK905.out 1).trans rfl, (blk_cell BK906.out 0).trans rfl, (blk_cell BK906.out 1).trans rfl⟩ (fun hHeld => ?_); refine with_tabW modint_Sub.tab3 modint_Sub.bits3 (fun HT_ HW_ => ?_)
  generalize w18.drew = w19 at HO0_1 HO1_1 HO910 BK905 BK906 BK907 HB hHeld ⊢
  refine take_ (i := 0) (N := some 12) (v := ?_) (a' := ?_) (uA 8 1) rfl rfl (take_ofW HT_.out HW_.out (by kernel_rfl)) (fun _ _ _ h => h) (Or.inl ⟨by rfl, ?_⟩) hHeld ?_ ?_
  rotate_left
  ·
   rintro w' ⟨s0, s1, s2, s3⟩
   go_simp
   with_reducible rfl
  rotate_left
  · exact uQ
  refine take_ (i := 1) (N := some 13) (v := ?_) (a' := ?_) (uA 8 3) rfl rfl (take_ofW HT_.out HW_.out (by kernel_rfl)) (fun _ _ _ h => h) (Or.inl ⟨by rfl, ?_⟩) hHeld ?_ ?_
  rotate_left
  ·
   rintro w' ⟨s0, s1, s2, s3⟩
   go_simp
   with_reducible rfl
  rotate_left
  · exact uQ
  refine one_ (i := 2) (N := some 14) (uA 8 7) rfl rfl (one_of HT_.out (by kernel_rfl)) (by decide) (fun K hK => ?_)
  refine goes_ Try.func56 (by kernel_rfl) rfl #[.agg #[.bool a1_0, .slice A1_1 l1_1.length c1_1]] (by rfl) rfl rfl uM ?_
  with_reducible refine (modint_Neg.calls a1_0 _ _ l1_1 t912 t913 _ ?side1 ?side2 A5.out).mono ?_
  (case side1 => exact uC (Kd.V_reads' HO1_1.out).2.2)
  (case side2 => exact (Kd.V_reads' HO1_1.out).2.1)
  rintro e w20 ⟨v914, rfl, ho0, hb⟩
  refine ⟨_, rfl, ?_⟩; replace HO0_1 := ueV HO0_1 ho0 hb; replace HO1_1 := ueV HO1_1 ho0 hb; replace HO910 := ueN HO910 ho0 hb; have HO915 := ulo (Kd.R_newM (M := fun k_ => (w.heap.size ≤ k_)) ho0 (below_size uB) (fun k_ h_ => h_)); replace BK905 := ux BK905 hb; replace BK906 := ux BK906 hb; replace BK907 := ux BK907 hb; replace HB := uy hb; (try clear hb ho0)
  obtain ⟨Ao21, co21, eo21⟩ := Kd.R_slice HO915.out
  (first | subst eo21 | (injection eo21 with f1_ f2_ f3_; have f4_ := f1_.symm; have f5_ := f3_.symm; clear f1_ f2_ f3_; subst f4_; subst f5_))
  refine hK.out _ _ ⟨(blk_cell BK905.out 0).trans rfl, (blk_cell BK905.out 1).trans rfl, (blk_cell BK906.out 0).trans rfl, (blk_cell BK906.out 1).trans rfl⟩ (fun hHeld => ?_); clear hK K; refine norm_ (a' := ?_) ?_ ?_; rotate_left
  · exact (show Act.put _ (some 14) _ = _ from uQ)
  refine one_ (i := 3) (N := some 15) (uA 8 15) rfl rfl (one_of HT_.out (by kernel_rfl)) (by decide) (fun K hK => ?_)
  refine goes_ Try.func28 (by kernel_rfl) rfl #[.agg #[.bool a0_0, .slice A0_1 l0_1.length c0_1], .agg #[.bool t912, .slice Ao21 t913.length co21]] (by rfl) rfl rfl uM ?_
  with_reducible refine (modint_Add.calls k a0_0 (fun k_ => (((((((P0_1_ k_ ∨ P1_1_ k_) ∨ w.heap.size ≤ k_) ∧ k_ ≠ gb905) ∧ k_ ≠ gb906) ∧ k_ ≠ gb907) ∧ some k_ ≠ (.slice Ao17 y908.length co17 : Value).ownBlock) ∧ some k_ ≠ (.slice Ao21 t913.length co21 : Value).ownBlock)) _ _ l0_1 t912 (fun k_ => some k_ = (.slice Ao21 t913.length co21 : Value).ownBlock) _ _ t913 t916 t917 t920 _ ?side1 ?side2 A6.out).mono ?_
  (case side1 => exact HO0_1.out)
  (case side2 => exact Kd.R_V (Kd.R_tight rfl (Kd.R_types (Kd.R_types (Kd.R_types (Kd.R_apart' (HO915.out) (Kd.N_typed HO910.out) (by decide)) BK905.out (by decide)) BK906.out (by decide)) BK907.out (by decide))))
  rintro e w22 ⟨v918, rfl, ho0, hb⟩
  refine ⟨_, rfl, ?_⟩; replace HO0_1 := ueV HO0_1 ho0 hb; replace HO1_1 := ueV HO1_1 ho0 hb; replace HO910 := ueN HO910 ho0 hb; have HO919 := ulo (unw (Kd.R_newM (M := fun k_ => (w.heap.size ≤ k_)) (Kd.R_mono (ok' := fun k_ => True) ho0 (fun _ hk_ => trivial)) (below_size uB) (fun k_ h_ => h_)) HO915); replace HO915 := ueR HO915 ho0 hb; replace BK905 := ux BK905 hb; replace BK906 := ux BK906 hb; replace BK907 := ux BK907 hb; replace HB := uy hb; (try clear hb ho0)
  obtain ⟨Ao24, co24, eo24⟩ := Kd.R_slice HO919.out
  (first | subst eo24 | (injection eo24 with f1_ f2_ f3_; have f4_ := f1_.symm; have f5_ := f3_.symm; clear f1_ f2_ f3_; subst f4_; subst f5_))
  refine hK.out _ _ ⟨(blk_cell BK905.out 0).trans rfl, (blk_cell BK905.out 1).trans rfl, (blk_cell BK906.out 0).trans rfl, (blk_cell BK906.out 1).trans rfl⟩ (fun hHeld => ?_); clear hK K; refine norm_ (a' := ?_) ?_ ?_; rotate_left
  · exact (show Act.put _ (some 15) _ = _ from uQ)
  refine upu 4 (some 16) (uA 8 31) rfl rfl HT_ ?_
  refine upu 5 (some 17) (uA 8 63) rfl rfl HT_ ?_
  refine one_ (i := 6) (N := none) (uA 8 127) rfl rfl (one_of HT_.out (by kernel_rfl)) (by decide) (fun K hK => ?_)
  have hs23 : w22.cell? ⟨gb907, 0, none⟩ = some (.bool false) := (blk_cell BK907.out 0).trans rfl
  have hfs23 := blk_frozen BK907.out 0
  have hns23_0 := NB905_907.out
  have hns23_1 := NB906_907.out
  have hms23_0 := NB907_905.out
  have hms23_1 := NB907_906.out
  have hs25 : w22.cell? ⟨gb907, 1, none⟩ = some (.slice none 0 0) := (blk_cell BK907.out 1).trans rfl
  have hfs25 := blk_frozen BK907.out 1
  have hns25_0 := NB905_907.out
  have hns25_1 := NB906_907.out
  have hms25_0 := NB907_905.out
  have hms25_1 := NB907_906.out
  refine skip_ (w1 := ?_) (by rfl) rfl ?_ ?_
  rotate_left
  ·
   go_simp
   rfl
  refine hK.out _ _ ⟨((cell_far (p := ⟨gb907, _, none⟩) NB905_907.out _).trans (((cell_far (p := ⟨gb907, _, none⟩) NB905_907.out _).trans (hHeld.1)))), ((cell_far (p := ⟨gb907, _, none⟩) NB905_907.out _).trans (((cell_far (p := ⟨gb907, _, none⟩) NB905_907.out _).trans (hHeld.2.1)))), ((cell_far (p := ⟨gb907, _, none⟩) NB906_907.out _).trans (((cell_far (p := ⟨gb907, _, none⟩) NB906_907.out _).trans (hHeld.2.2.1)))), ((cell_far (p := ⟨gb907, _, none⟩) NB906_907.out _).trans (((cell_far (p := ⟨gb907, _, none⟩) NB906_907.out _).trans (hHeld.2.2.2))))⟩ (fun hHeld => ?_); clear hK K
  refine upu 7 (some 5) (uA 8 255) rfl rfl HT_ ?_
  refine done_ (done_of HT_.out (by kernel_rfl)) ?_
  try go_wp2
  refine bodyPost_ret (results_ct rfl _ _ gb907 44 #[.bool t916, .slice Ao24 t917.length co24] (0, 0) _ rfl (by refine blk_put (cs := #[.bool t916, .slice none 0 0]) ?_ 1 _ rfl; refine blk_put (cs := #[.bool false, .slice none 0 0]) ?_ 0 _ rfl; exact uK BK907.out) Try.underlying44 rfl (by kernel_rfl)) rfl ?_
  exact ⟨_, uF, by exact uR (Kd.R_mono (Kd.R_far (p := ⟨gb907, 1, none⟩) (Kd.R_far (p := ⟨gb907, 0, none⟩) (Kd.R_types HO919.out BK907.out (by decide)) (fun _ hk => hk.2) (.bool t916)) (fun _ hk => hk.2) (.slice Ao24 t917.length co24)) (fun _ hk => hk.1.1.1)), uB⟩
 replace c4 := Bool.eq_false_iff.mpr c4
 subst c4
 rw [if_neg (show ¬ (false = true) by decide)] at H
 simp only [Option.some.injEq, Prod.mk.injEq] at H
 obtain ⟨rfl, rfl, rfl⟩ := H
 go_enter Try.func29, Try.ntmps29
 go_wp2_with (first | ((with_reducible refine gate_dst (N := 2) rfl ?_); refine ubx 2 #[.bool a0_0, .slice A0_1 l0_1.length c0_1] 44 rfl rfl ?_; intro gb905 hg w26 hbox hb; replace HO0_1 := uvb HO0_1 hg hb; replace HO1_1 := uvb HO1_1 hg hb; have BK905 := Aside0.mk (hbox); have GW905 := us hg; have GE905 := us hg; replace HB := uy hb; clear hb hbox hg) | ((with_reducible refine gate_dst (N := 3) rfl ?_); refine ubx 3 #[.bool a1_0, .slice A1_1 l1_1.length c1_1] 44 rfl rfl ?_; intro gb906 hg w27 hbox hb; replace HO0_1 := uvb HO0_1 hg hb; replace HO1_1 := uvb HO1_1 hg hb; have BK906 := Aside0.mk (hbox); have GW906 := us hg; have GE906 := us hg; replace HB := uy hb; obtain ⟨NB905_906, NB906_905⟩ := unb hg BK905; replace BK905 := ux BK905 hb; clear hb hbox hg) | ((with_reducible refine gate_dst (N := 4) rfl ?_); refine ubx 4 #[.bool false, .slice none 0 0] 44 rfl rfl ?_; intro gb907 hg w28 hbox hb; replace HO0_1 := uvb HO0_1 hg hb; replace HO1_1 := uvb HO1_1 hg hb; have BK907 := Aside0.mk (hbox); have GW907 := us hg; have GE907 := us hg; replace HB := uy hb; obtain ⟨NB905_907, NB907_905⟩ := unb hg BK905; replace BK905 := ux BK905 hb; obtain ⟨NB906_907, NB907_906⟩ := unb hg BK906; replace BK906 := ux BK906 hb; clear hb hbox hg; have hnb29 := NB905_906.out; have hnc29 := NB906_905.out; have hnb30 := NB905_907.out; have hnc30 := NB907_905.out; obtain ⟨hcz31_0, hcz31_1, hfz31_0, hfz31_1⟩ := uz2 w28 BK905; have hnb32 := NB906_907.out; have hnc32 := NB907_906.out; obtain ⟨hcz33_0, hcz33_1, hfz33_0, hfz33_1⟩ := uz2 w28 BK906) | ((with_reducible refine gate_dst (N := 8) rfl ?_); refine uNl 8 44 k44 ([(⟨a0_0, l0_1⟩ : S44), (⟨a1_0, l1_1⟩ : S44)] : List (S44)) [.bool a0_0, .slice A0_1 l0_1.length c0_1, .bool a1_0, .slice A1_1 l1_1.length c1_1] (fun k_ => ((P0_1_ k_ ∨ P1_1_ k_) ∨ w.heap.size ≤ k_) ∧ k_ ≠ gb905 ∧ k_ ≠ gb906 ∧ k_ ≠ gb907) rfl rfl ?hp ?hf ?_; (case hp => exact (Reps.c2 (k44_mkF _ _ (⟨a0_0, l0_1⟩ : S44) (Kd.V_reads' HO0_1.out).2.1 (Kd.V_F (Kd.V_mono (HO0_1.out) (fun k_ hk => ⟨hk.1.1.1, ⟨hk.1.1.2, ⟨hk.1.2, hk.2⟩⟩⟩)))) (Reps.c2 (k44_mkF _ _ (⟨a1_0, l1_1⟩ : S44) (Kd.V_reads' HO1_1.out).2.1 (Kd.V_F (Kd.V_mono (HO1_1.out) (fun k_ hk => ⟨hk.1.1.1, ⟨hk.1.1.2, ⟨hk.1.2, hk.2⟩⟩⟩)))) (Reps.none _ _)))); (case hf => exact fun k_ hk => ⟨(.inr (Nat.le_trans (below_size uB) hk)), Kd.freshB (g := gb905) (o := .cells #[.bool a0_0, .slice A0_1 l0_1.length c0_1] 44 (0, 0)) (uK BK905.out) k_ hk, Kd.freshB (g := gb906) (o := .cells #[.bool a1_0, .slice A1_1 l1_1.length c1_1] 44 (0, 0)) (uK BK906.out) k_ hk, Kd.freshB (g := gb907) (o := .cells #[.bool false, .slice none 0 0] 44 (0, 0)) (uK BK907.out) k_ hk⟩); intro v909 w34 ho35 hb; (first | rw [← Ny908.out] at ho35 | (simp only [Int.reduceToNat] at ho35; rw [← Ny908.out] at ho35)); replace HO0_1 := Aside0.mk (Kd.V_elder' (uV HO0_1.out) (Kd.N_base ho35) hb); replace HO1_1 := Aside0.mk (Kd.V_elder' (uV HO1_1.out) (Kd.N_base ho35) hb); have HO910 := Aside0.mk (Kd.N_lower ho35 (below_size uB)); replace BK905 := ux BK905 hb; replace BK906 := ux BK906 hb; replace BK907 := ux BK907 hb; replace HB := uy hb; clear hb ho35; obtain ⟨Ao36, co36, eo36⟩ := Kd.N_slice HO910.out; subst eo36) | ((with_reducible refine ug 42 rfl ?_); refine uh (some 9) rfl Try.func42 #[.slice Ao36 y908.length co36] ?_; (with_reducible refine (modint_right.calls _ _ y908 false _ (uC (Kd.N_reads' HO910.out).2.2) ((Kd.N_reads' HO910.out).2.1) A3.out).mono ?_); rintro e w37 ⟨rfl, hb⟩; refine ⟨_, rfl, ?_⟩; replace HO0_1 := Aside0.mk (Kd.V_below (uV HO0_1.out) hb); replace HO1_1 := Aside0.mk (Kd.V_below (uV HO1_1.out) hb); replace HO910 := Aside0.mk (Kd.N_below (uN HO910.out) hb); replace BK905 := ux BK905 hb; replace BK906 := ux BK906 hb; replace BK907 := ux BK907 hb; replace HB := uy hb; (try clear hb); obtain ⟨hcz38_0, hcz38_1, hfz38_0, hfz38_1⟩ := uz2 w37 BK907))
 refine bodyPost_ret (results_ct rfl _ _ gb907 44 #[.bool false, .slice none 0 0] (0, 0) _ rfl (by refine blk_put (cs := #[.bool false, .slice none 0 0]) ?_ 1 _ rfl; refine blk_put (cs := #[.bool false, .slice none 0 0]) ?_ 0 _ rfl; exact uK BK907.out) Try.underlying44 rfl (by kernel_rfl)) rfl ?_
 exact ⟨_, uF, uI, uB⟩
end Go.Proofs.Ytnaphgnkhhapoab.F
end
section
namespace Go.Proofs.Ytnaphgnkhhapoab.F
open Go.RowKit Go.Proofs.YtnaphgnkhhapoabW.PrintWords Go.Proofs.YtnaphgnkhhapoabW.PrintLast Go.Proofs.YtnaphgnkhhapoabW.PrintMore
set_option linter.unusedVariables false
set_option linter.unusedSimpArgs false
def fixenc_fits.f (k : Nat) (l0 : List Int) (l1 : List Int) : Option Bool := (fixenc_modulus_half.f k l0).bind fun t => (nat_Cmp.f k l1 t).bind fun c => some (decide (c ≤ 0))
theorem fixenc_fits.calls (k : Nat) (A0 : Option Addr) (c0 : Nat) (l0 : List Int) (A1 : Option Addr) (c1 : Nat) (l1 : List Int) (r : Bool) (w : World) (hr0 : Kd.C (Kd.int .u64) w A0 l0.length l0) (hc0 : l0.length ≤ c0) (hr1 : Kd.C (Kd.int .u64) w A1 l1.length l1) (hc1 : l1.length ≤ c1) (h : fixenc_fits.f k l0 l1 = some r) :
    Calls Try.prog 30 #[.slice A0 l0.length c0, .slice A1 l1.length c1] w fun e w' => e = .returned (.bool r) ∧ Below w.heap.size w w' := by
  unfold fixenc_fits.f at h
  cases ht : fixenc_modulus_half.f k l0 with
  | none => rw [ht] at h; simp at h
  | some t =>
    rw [ht] at h
    simp only [Option.bind_some] at h
    cases hcm : nat_Cmp.f k l1 t with
    | none => rw [hcm] at h; simp at h
    | some c =>
      rw [hcm] at h
      simp only [Option.bind_some, Option.some.injEq] at h
      subst h
      have HT := Aside0.mk ht
      have HM := Aside0.mk hcm
      have HC0 := Aside0.mk hr0
      have HC1 := Aside0.mk hr1
      have HL0 := Aside0.mk hc0
      have HL1 := Aside0.mk hc1
      clear ht hcm hr0 hr1 hc0 hc1
      go_enter Try.func30, Try.ntmps30
      go_wp2_with (first
        | (go_at_call 57; refine (fixenc_modulus_half.calls k A0 c0 l0 t w HC0.out HL0.out HT.out).mono ?_; rintro e w1 ⟨v1, rfl, ho, hb⟩; obtain ⟨Ao, co, eo⟩ := Kd.R_slice ho; subst eo; have HO := Aside0.mk ho; have HB := Aside0.mk hb; clear ho hb)
        | (go_at_call 40; refine (nat_Cmp.calls k (fun k_ => k_ < w1.heap.size) A1 c1 l1 (fun k_ => k_ < w1.heap.size) Ao co t c w1 (Kd.V_mk HL1.out (Kd.C_F (Kd.heap_int _) (Kd.C_below HC1.out HB.out))) (Kd.V_mk (Kd.R_reads' HO.out).2.1 (Kd.C_F (Kd.heap_int _) (Kd.R_reads' HO.out).2.2)) HM.out).mono ?_; rintro e w2 ⟨rfl, hb2⟩; have HB2 := Aside0.mk (below_step HB.out hb2); clear hb2))
      go_ret
      exact ⟨by simp, HB2.out⟩
end Go.Proofs.Ytnaphgnkhhapoab.F
end
section
namespace Go.Proofs.Ytnaphgnkhhapoab.F
open Go.RowKit Go.Proofs.YtnaphgnkhhapoabW.PrintWords Go.Proofs.YtnaphgnkhhapoabW.PrintLast Go.Proofs.YtnaphgnkhhapoabW.PrintMore
attribute [local go_sem] max2_int min2_int max_two min_two max_three min_three max_four min_four
set_option linter.unusedVariables false
set_option linter.unusedSimpArgs false
def fixenc_Encode.j0 : Nat → List Int → Bool → Bool → List Int → Option (List Int × Int)
 | 0, _, _, _, _ => none
 | k + 1, x0, x6, x207000, x207001 => if x6 = true then (some (([] : List Int), 1)) else ((fixenc_fits.f k x0 x207001).bind fun t209 => (if t209 = true then (if x207000 = true then ((nat_Sub.f k x0 x207001).bind fun bt210 => (some (bt210.1, bt210.2))) else ((nat_Add.f k x207001 ([] : List Int)).bind fun bt214 => (some (bt214.1, bt214.2)))) else (some (([] : List Int), 12))))
def fixenc_Encode.f (k : Nat) (l0 : List Int) (a1_0 : Bool) (l1_1 : List Int) : Option (List Int × Int) := (fixenc_modulus_may.f k l0).bind fun t207 => (if t207 = true then ((modint_Right.f a1_0 l1_1).bind fun t208 => (fixenc_Encode.j0 k l0 (!t208) a1_0 l1_1)) else (fixenc_Encode.j0 k l0 true a1_0 l1_1))
theorem fixenc_Encode.calls (k : Nat) (A0 : Option Addr) (c0 : Nat) (l0 : List Int) (a1_0 : Bool) (A1_1 : Option Addr) (c1_1 : Nat) (l1_1 : List Int) (r1 : List Int) (r2 : Int) (w : World) (hr0 : Kd.C (Kd.int .u64) w A0 l0.length l0) (hc0 : l0.length ≤ c0) (hr1_1 : Kd.C (Kd.int .u64) w A1_1 l1_1.length l1_1) (hc1_1 : l1_1.length ≤ c1_1) (h : fixenc_Encode.f k l0 a1_0 l1_1 = some (r1, r2)) :
  Calls Try.prog 13 #[.slice A0 l0.length c0, .agg #[.bool a1_0, .slice A1_1 l1_1.length c1_1]] w fun e w' => ∃ v0_ : Value, e = .returned (.tuple #[v0_, .int .i64 r2]) ∧ Kd.R (Kd.int .u64) 42 w' w.heap.size (fun _ => True) v0_ r1 ∧ Below w.heap.size w w' := by
 have hu44 := Try.underlying44
 have HR0 := Aside0.mk hr0; have HC0 := Aside0.mk hc0; clear hr0 hc0; have HR1_1 := Aside0.mk hr1_1; have HC1_1 := Aside0.mk hc1_1; clear hr1_1 hc1_1
 have HB := Aside0.mk (Below.refl w.heap.size w)
 have H : ((fixenc_modulus_may.f k l0).bind fun t207 => (if t207 = true then ((modint_Right.f a1_0 l1_1).bind fun t208 => (fixenc_Encode.j0 k l0 (!t208) a1_0 l1_1)) else (fixenc_Encode.j0 k l0 true a1_0 l1_1))) = some (r1, r2) := h
 clear h; have HC3 := Aside0.mk H; clear H
 go_enter Try.func13, Try.ntmps13
 go_upto_region 1 with (first | ((with_reducible refine gate_dst (N := 3) rfl ?_); refine ubx 3 #[.bool a1_0, .slice A1_1 l1_1.length c1_1] 44 rfl rfl ?_; intro gb206 hg w4 hbox hb; have BK206 := Aside0.mk (hbox); have GW206 := us hg; have GE206 := us hg; replace HB := uy hb; clear hb hbox hg))
 (try simp only [Act.put, List.setIfInBounds_toArray, List.set_cons_zero, List.set_cons_succ])
 go_cut [6] (fun v6 wc => ∃ (kq : Nat) (x6_2 : Bool), v6 = .bool x6_2 ∧ Aside0 (fixenc_Encode.j0 kq l0 x6_2 a1_0 l1_1 = some (r1, r2)) ∧ Aside0 (kq ≤ k) ∧ Aside0 (wc.heap[gb206]? = some (.cells #[.bool a1_0, (.slice A1_1 l1_1.length c1_1)] 44 (0, 0))) ∧ Aside0 (Below w.heap.size w wc))
 case first =>
  have H := HC3.out
  clear HC3
  replace ⟨t207, A5, H⟩ := ub H
  by_cases c6 : t207 = true
  ·
   subst c6
   rw [if_pos rfl] at H
   replace ⟨t208, A7, H⟩ := ub H
   have H' := Aside0.mk H
   clear H
   go_wp2_with (first | ((with_reducible refine ug 14 rfl ?_); refine uh (some 8) rfl Try.func14 #[.slice A0 l0.length c0] ?_; (with_reducible refine (fixenc_modulus_may.calls k _ _ l0 true _ (uC (Kd.C_below HR0.out HB.out)) HC0.out A5.out).mono ?_); rintro e w8 ⟨rfl, hb⟩; refine ⟨_, rfl, ?_⟩; replace BK206 := ux BK206 hb; replace HB := uy hb; (try clear hb); obtain ⟨hcz9_0, hcz9_1, hfz9_0, hfz9_1⟩ := uz2 w8 BK206) | (go_at_call 36; (with_reducible refine (modint_Right.calls a1_0 _ _ l1_1 t208 _ (uC (Kd.C_below HR1_1.out HB.out)) HC1_1.out A7.out).mono ?_); rintro e w10 ⟨rfl, hb⟩; replace BK206 := ux BK206 hb; replace HB := uy hb; (try clear hb)))
   go_meet
   case rel => exact ⟨_, (!t208), uG, H', ⟨uW⟩, ⟨uK BK206.out⟩, ⟨uB⟩⟩
  replace c6 := Bool.eq_false_iff.mpr c6
  subst c6
  rw [if_neg (show ¬ (false = true) by decide)] at H
  have H' := Aside0.mk H
  clear H
  go_wp2_with (first | ((with_reducible refine ug 14 rfl ?_); refine uh (some 8) rfl Try.func14 #[.slice A0 l0.length c0] ?_; (with_reducible refine (fixenc_modulus_may.calls k _ _ l0 false _ (uC (Kd.C_below HR0.out HB.out)) HC0.out A5.out).mono ?_); rintro e w11 ⟨rfl, hb⟩; refine ⟨_, rfl, ?_⟩; replace BK206 := ux BK206 hb; replace HB := uy hb; (try clear hb)))
  go_meet
  case rel => exact ⟨_, (true), uG, H', ⟨uW⟩, ⟨uK BK206.out⟩, ⟨uB⟩⟩
 case rest =>
  clear HC3; (try clear hcz9_0 hcz9_1); (try clear hfz9_0 hfz9_1)
  obtain ⟨kq, x6_2, rfl, HA, HJ2, BK206, HB⟩ := hcut
  cases kq with
  | zero => exact absurd HA.out (by simp [fixenc_Encode.j0])
  | succ kj2 =>
   have H := HA.out
   clear HA
   simp only [fixenc_Encode.j0] at H
   by_cases c12 : x6_2 = true
   ·
    subst c12
    rw [if_pos rfl] at H
    simp only [Option.some.injEq, Prod.mk.injEq] at H
    obtain ⟨rfl, rfl⟩ := H
    go_wp2
    go_ret2
    exact ⟨_, uF, uI, uB⟩
   replace c12 := Bool.eq_false_iff.mpr c12
   subst c12
   rw [if_neg (show ¬ (false = true) by decide)] at H
   replace ⟨t209, A13, H⟩ := ub H
   by_cases c14 : t209 = true
   ·
    subst c14
    rw [if_pos rfl] at H
    by_cases c15 : a1_0 = true
    ·
     subst c15
     rw [if_pos rfl] at H
     replace ⟨⟨t210, t213⟩, A16, H⟩ := ub H
     (try dsimp only at H)
     simp only [Option.some.injEq, Prod.mk.injEq] at H
     obtain ⟨rfl, rfl⟩ := H
     obtain ⟨hcz17_0, hcz17_1, hfz17_0, hfz17_1⟩ := uz2 wc BK206
     go_wp2_with (first | ((with_reducible refine ug 30 rfl ?_); refine uh (some 19) rfl Try.func30 #[.slice A0 l0.length c0, .slice A1_1 l1_1.length c1_1] ?_; (with_reducible refine (fixenc_fits.calls kj2 _ _ l0 _ _ l1_1 true _ (uC (Kd.C_below HR0.out HB.out)) HC0.out (uC (Kd.C_below HR1_1.out HB.out)) HC1_1.out A13.out).mono ?_); rintro e w18 ⟨rfl, hb⟩; refine ⟨_, rfl, ?_⟩; replace BK206 := ux BK206 hb; replace HB := uy hb; (try clear hb); obtain ⟨hcz19_0, hcz19_1, hfz19_0, hfz19_1⟩ := uz2 w18 BK206) | ((with_reducible refine ug 37 rfl ?_); refine uh (some 27) rfl Try.func37 #[.slice A0 l0.length c0, .slice A1_1 l1_1.length c1_1] ?_; (with_reducible refine (nat_Sub.calls kj2 (fun k_ => k_ < w.heap.size) _ _ l0 (fun k_ => k_ < w.heap.size) _ _ l1_1 t210 t213 _ (Kd.V_mk HC0.out (Kd.F_below (Kd.C_F (Kd.heap_int .u64) HR0.out) uB)) (Kd.V_mk HC1_1.out (Kd.F_below (Kd.C_F (Kd.heap_int .u64) HR1_1.out) uB)) A16.out).mono ?_); rintro e w20 ⟨v211, rfl, ho0, hb⟩; refine ⟨_, rfl, ?_⟩; have HO212 := ulo (Kd.R_mono (ok' := fun k_ => True) ho0 (fun _ hk_ => trivial)); replace BK206 := ux BK206 hb; replace HB := uy hb; (try clear hb ho0)))
     go_ret2
     exact ⟨_, uF, uR HO212.out, uB⟩
    replace c15 := Bool.eq_false_iff.mpr c15
    subst c15
    rw [if_neg (show ¬ (false = true) by decide)] at H
    replace ⟨⟨t214, t217⟩, A21, H⟩ := ub H
    (try dsimp only at H)
    simp only [Option.some.injEq, Prod.mk.injEq] at H
    obtain ⟨rfl, rfl⟩ := H
    obtain ⟨hcz22_0, hcz22_1, hfz22_0, hfz22_1⟩ := uz2 wc BK206
    go_wp2_with (first | ((with_reducible refine ug 30 rfl ?_); refine uh (some 19) rfl Try.func30 #[.slice A0 l0.length c0, .slice A1_1 l1_1.length c1_1] ?_; (with_reducible refine (fixenc_fits.calls kj2 _ _ l0 _ _ l1_1 true _ (uC (Kd.C_below HR0.out HB.out)) HC0.out (uC (Kd.C_below HR1_1.out HB.out)) HC1_1.out A13.out).mono ?_); rintro e w23 ⟨rfl, hb⟩; refine ⟨_, rfl, ?_⟩; replace BK206 := ux BK206 hb; replace HB := uy hb; (try clear hb); obtain ⟨hcz24_0, hcz24_1, hfz24_0, hfz24_1⟩ := uz2 w23 BK206) | ((with_reducible refine ug 38 rfl ?_); refine uh (some 32) rfl Try.func38 #[.slice A1_1 l1_1.length c1_1, .slice none 0 0] ?_; (refine (nat_Add.calls kj2 (fun k_ => k_ < w.heap.size) _ _ l1_1 (fun k_ => False) _ _ ([] : List Int) t214 t217 _ ?side1 ?side2 A21.out).mono ?_); (case side1 => exact Kd.V_mk HC1_1.out (Kd.F_below (Kd.C_F (Kd.heap_int .u64) HR1_1.out) uB)); (case side2 => exact Kd.V_nil _ _ _ _ _); rintro e w25 ⟨v215, rfl, ho0, hb⟩; refine ⟨_, rfl, ?_⟩; have HO216 := ulo (Kd.R_mono (ok' := fun k_ => True) ho0 (fun _ hk_ => trivial)); replace BK206 := ux BK206 hb; replace HB := uy hb; (try clear hb ho0)))
    go_ret2
    exact ⟨_, uF, uR HO216.out, uB⟩
   replace c14 := Bool.eq_false_iff.mpr c14
   subst c14
   rw [if_neg (show ¬ (false = true) by decide)] at H
   simp only [Option.some.injEq, Prod.mk.injEq] at H
   obtain ⟨rfl, rfl⟩ := H
   obtain ⟨hcz26_0, hcz26_1, hfz26_0, hfz26_1⟩ := uz2 wc BK206
   go_wp2_with (first | ((with_reducible refine ug 30 rfl ?_); refine uh (some 19) rfl Try.func30 #[.slice A0 l0.length c0, .slice A1_1 l1_1.length c1_1] ?_; (with_reducible refine (fixenc_fits.calls kj2 _ _ l0 _ _ l1_1 false _ (uC (Kd.C_below HR0.out HB.out)) HC0.out (uC (Kd.C_below HR1_1.out HB.out)) HC1_1.out A13.out).mono ?_); rintro e w27 ⟨rfl, hb⟩; refine ⟨_, rfl, ?_⟩; replace BK206 := ux BK206 hb; replace HB := uy hb; (try clear hb)))
   go_ret2
   exact ⟨_, uF, uI, uB⟩
def windbreaklaw07_awake.f (k : Nat)  : Option (Bool) := (fixenc_Encode.f k (([101] : List Int)) true (([1] : List Int))).bind fun bt224 => (if bt224.2 = 0 then (if (bt224.1.length : Int) = 1 then (if 0 < (bt224.1.length : Int) then (some ((rd bt224.1 0) == 100)) else (none)) else (some false)) else (some false))
theorem windbreaklaw07_awake.calls (k : Nat)  (r : Bool) (w : World) (h : windbreaklaw07_awake.f k  = some r) :
  Calls Try.prog 6 #[] w fun e w' => e = .returned (.bool r) ∧ Below w.heap.size w w' := by
 have hu44 := Try.underlying44
 have HB := Aside0.mk (Below.refl w.heap.size w)
 have H : ((fixenc_Encode.f k (([101] : List Int)) true (([1] : List Int))).bind fun bt224 => (if bt224.2 = 0 then (if (bt224.1.length : Int) = 1 then (if 0 < (bt224.1.length : Int) then (some ((rd bt224.1 0) == 100)) else (none)) else (some false)) else (some false))) = some r := h
 clear h
 generalize hy218 : ((([101] : List Int)) : List Int) = y218 at H
 have Ny218 := Aside0.mk hy218.symm; clear hy218
 generalize hy221 : ((([1] : List Int)) : List Int) = y221 at H
 have Ny221 := Aside0.mk hy221.symm; clear hy221
 replace ⟨⟨t224, t227⟩, A1, H⟩ := ub H
 (try dsimp only at H)
 by_cases c2 : t227 = 0
 ·
  rw [if_pos c2] at H
  have c2b0 := beq_iff_eq.mpr c2
  have c2b1 := bne_eq_false_iff_eq.mpr c2
  clear c2
  by_cases c3 : (t224.length : Int) = 1
  ·
   rw [if_pos c3] at H
   have c3b0 := beq_iff_eq.mpr c3
   have c3b1 := bne_eq_false_iff_eq.mpr c3
   clear c3
   replace ⟨c4, H⟩ := uT H
   have c4b0 := decide_eq_true c4
   have c4b1 : decide (0 < t224.length) = true := decide_eq_true (by omega)
   clear c4
   obtain rfl := Option.some.inj H
   go_enter Try.func6, Try.ntmps6
   go_wp2_with (first | ((with_reducible refine gate_dst (N := 4) rfl ?_); (try (refine gate_guard (by rfl) ?_; dsimp only)); refine Kd.R_lit (Kd.int .u64) _ 42 ?hg (N := 4) ?hd (xs := ([101] : List Int)) (inner := [.int .u64 101]) (ok := fun _ => True) (okp := fun _ => True) ?hr ?hp (fun _ hk => hk) trivial (Below.refl _ _) (Nat.le_refl _) (by simp) ?_; (case hd => rfl); (case hg => rfl); (case hr => first | (go_simp; done) | (go_simp; rfl) | (go_simp; simp only [u64_u8]; done) | (go_simp; simp only [u64_u8]; rfl)); (case hp => exact (Reps.one (show Kd.M (Kd.int .u64) _ _ _ 101 [.int .u64 101] from rfl) (Reps.none _ _))); intro v219 w5 ho6 hb hg_ hnew_; clear hg_ hnew_; (first | rw [← Ny218.out] at ho6 | (simp only [Int.reduceToNat] at ho6; rw [← Ny218.out] at ho6)); have HO220 := ulo ho6; replace HB := uy hb; clear hb ho6) | ((with_reducible refine gate_dst (N := 5) rfl ?_); (try (refine gate_guard (by rfl) ?_; dsimp only)); refine Kd.R_lit (Kd.int .u64) _ 42 ?hg (N := 5) ?hd (xs := ([1] : List Int)) (inner := [.int .u64 1]) (ok := fun _ => True) (okp := fun _ => True) ?hr ?hp (fun _ hk => hk) trivial (Below.refl _ _) (Nat.le_refl _) (by simp) ?_; (case hd => rfl); (case hg => rfl); (case hr => first | (go_simp; done) | (go_simp; rfl) | (go_simp; simp only [u64_u8]; done) | (go_simp; simp only [u64_u8]; rfl)); (case hp => exact (Reps.one (show Kd.M (Kd.int .u64) _ _ _ 1 [.int .u64 1] from rfl) (Reps.none _ _))); intro v222 w7 ho8 hb hg_ hnew_; clear hg_ hnew_; (first | rw [← Ny221.out] at ho8 | (simp only [Int.reduceToNat] at ho8; rw [← Ny221.out] at ho8)); have HO223 := ulo (unw ho8 HO220); replace HO220 := ueR HO220 ho8 hb; replace HB := uy hb; clear hb ho8; obtain ⟨Ao9, co9, eo9⟩ := Kd.R_slice HO223.out; subst eo9; obtain ⟨Ao10, co10, eo10⟩ := Kd.R_slice HO220.out; subst eo10) | ((with_reducible refine ug 13 rfl ?_); refine uh (some 7) rfl Try.func13 #[.slice Ao10 y218.length co10, .agg #[.bool true, .slice Ao9 y221.length co9]] ?_; (with_reducible refine (fixenc_Encode.calls k _ _ y218 true _ _ y221 t224 t227 _ (uC (Kd.R_reads' HO220.out).2.2) ((Kd.R_reads' HO220.out).2.1) (uC (Kd.R_reads' HO223.out).2.2) ((Kd.R_reads' HO223.out).2.1) A1.out).mono ?_); rintro e w11 ⟨v225, rfl, ho0, hb⟩; refine ⟨_, rfl, ?_⟩; have HO226 := ulo (unw (unw ho0 HO220) HO223); replace HO220 := ueR HO220 ho0 hb; replace HO223 := ueR HO223 ho0 hb; replace HB := uy hb; (try clear hb ho0); obtain ⟨Ao12, co12, eo12⟩ := Kd.R_slice HO226.out; subst eo12; have p228 : 0 ≤ (0 : Int) := (by omega); have q228 : 0 < (t224.length : Int) := uO; obtain ⟨ad228, e228, hx228_0⟩ := Kd.at_int (Kd.R_reads' HO226.out).2.2 0 p228 q228; cases e228; have qi228 : (0 < t224.length) = True := eq_true (by omega); (try rw [show ((0 : Int)).toNat = 0 from rfl] at hx228_0); (try rw [Addr.add_zero'] at hx228_0); replace p228 := eq_true p228; replace q228 := eq_true q228))
   go_ret
   exact ⟨uF, uB⟩
  rw [if_neg c3] at H
  have c3b0 := beq_eq_false_iff_ne.mpr c3
  have c3b1 := bne_iff_ne.mpr c3
  obtain rfl := Option.some.inj H
  go_enter Try.func6, Try.ntmps6
  go_wp2_with (first | ((with_reducible refine gate_dst (N := 4) rfl ?_); (try (refine gate_guard (by rfl) ?_; dsimp only)); refine Kd.R_lit (Kd.int .u64) _ 42 ?hg (N := 4) ?hd (xs := ([101] : List Int)) (inner := [.int .u64 101]) (ok := fun _ => True) (okp := fun _ => True) ?hr ?hp (fun _ hk => hk) trivial (Below.refl _ _) (Nat.le_refl _) (by simp) ?_; (case hd => rfl); (case hg => rfl); (case hr => first | (go_simp; done) | (go_simp; rfl) | (go_simp; simp only [u64_u8]; done) | (go_simp; simp only [u64_u8]; rfl)); (case hp => exact (Reps.one (show Kd.M (Kd.int .u64) _ _ _ 101 [.int .u64 101] from rfl) (Reps.none _ _))); intro v219 w13 ho14 hb hg_ hnew_; clear hg_ hnew_; (first | rw [← Ny218.out] at ho14 | (simp only [Int.reduceToNat] at ho14; rw [← Ny218.out] at ho14)); have HO220 := ulo ho14; replace HB := uy hb; clear hb ho14) | ((with_reducible refine gate_dst (N := 5) rfl ?_); (try (refine gate_guard (by rfl) ?_; dsimp only)); refine Kd.R_lit (Kd.int .u64) _ 42 ?hg (N := 5) ?hd (xs := ([1] : List Int)) (inner := [.int .u64 1]) (ok := fun _ => True) (okp := fun _ => True) ?hr ?hp (fun _ hk => hk) trivial (Below.refl _ _) (Nat.le_refl _) (by simp) ?_; (case hd => rfl); (case hg => rfl); (case hr => first | (go_simp; done) | (go_simp; rfl) | (go_simp; simp only [u64_u8]; done) | (go_simp; simp only [u64_u8]; rfl)); (case hp => exact (Reps.one (show Kd.M (Kd.int .u64) _ _ _ 1 [.int .u64 1] from rfl) (Reps.none _ _))); intro v222 w15 ho16 hb hg_ hnew_; clear hg_ hnew_; (first | rw [← Ny221.out] at ho16 | (simp only [Int.reduceToNat] at ho16; rw [← Ny221.out] at ho16)); have HO223 := ulo (unw ho16 HO220); replace HO220 := ueR HO220 ho16 hb; replace HB := uy hb; clear hb ho16; obtain ⟨Ao17, co17, eo17⟩ := Kd.R_slice HO223.out; subst eo17; obtain ⟨Ao18, co18, eo18⟩ := Kd.R_slice HO220.out; subst eo18) | ((with_reducible refine ug 13 rfl ?_); refine uh (some 7) rfl Try.func13 #[.slice Ao18 y218.length co18, .agg #[.bool true, .slice Ao17 y221.length co17]] ?_; (with_reducible refine (fixenc_Encode.calls k _ _ y218 true _ _ y221 t224 t227 _ (uC (Kd.R_reads' HO220.out).2.2) ((Kd.R_reads' HO220.out).2.1) (uC (Kd.R_reads' HO223.out).2.2) ((Kd.R_reads' HO223.out).2.1) A1.out).mono ?_); rintro e w19 ⟨v225, rfl, ho0, hb⟩; refine ⟨_, rfl, ?_⟩; have HO226 := ulo (unw (unw ho0 HO220) HO223); replace HO220 := ueR HO220 ho0 hb; replace HO223 := ueR HO223 ho0 hb; replace HB := uy hb; (try clear hb ho0); obtain ⟨Ao20, co20, eo20⟩ := Kd.R_slice HO226.out; subst eo20))
  go_ret
  exact ⟨uF, uB⟩
 rw [if_neg c2] at H
 have c2b0 := beq_eq_false_iff_ne.mpr c2
 have c2b1 := bne_iff_ne.mpr c2
 obtain rfl := Option.some.inj H
 go_enter Try.func6, Try.ntmps6
 go_wp2_with (first | ((with_reducible refine gate_dst (N := 4) rfl ?_); (try (refine gate_guard (by rfl) ?_; dsimp only)); refine Kd.R_lit (Kd.int .u64) _ 42 ?hg (N := 4) ?hd (xs := ([101] : List Int)) (inner := [.int .u64 101]) (ok := fun _ => True) (okp := fun _ => True) ?hr ?hp (fun _ hk => hk) trivial (Below.refl _ _) (Nat.le_refl _) (by simp) ?_; (case hd => rfl); (case hg => rfl); (case hr => first | (go_simp; done) | (go_simp; rfl) | (go_simp; simp only [u64_u8]; done) | (go_simp; simp only [u64_u8]; rfl)); (case hp => exact (Reps.one (show Kd.M (Kd.int .u64) _ _ _ 101 [.int .u64 101] from rfl) (Reps.none _ _))); intro v219 w21 ho22 hb hg_ hnew_; clear hg_ hnew_; (first | rw [← Ny218.out] at ho22 | (simp only [Int.reduceToNat] at ho22; rw [← Ny218.out] at ho22)); have HO220 := ulo ho22; replace HB := uy hb; clear hb ho22) | ((with_reducible refine gate_dst (N := 5) rfl ?_); (try (refine gate_guard (by rfl) ?_; dsimp only)); refine Kd.R_lit (Kd.int .u64) _ 42 ?hg (N := 5) ?hd (xs := ([1] : List Int)) (inner := [.int .u64 1]) (ok := fun _ => True) (okp := fun _ => True) ?hr ?hp (fun _ hk => hk) trivial (Below.refl _ _) (Nat.le_refl _) (by simp) ?_; (case hd => rfl); (case hg => rfl); (case hr => first | (go_simp; done) | (go_simp; rfl) | (go_simp; simp only [u64_u8]; done) | (go_simp; simp only [u64_u8]; rfl)); (case hp => exact (Reps.one (show Kd.M (Kd.int .u64) _ _ _ 1 [.int .u64 1] from rfl) (Reps.none _ _))); intro v222 w23 ho24 hb hg_ hnew_; clear hg_ hnew_; (first | rw [← Ny221.out] at ho24 | (simp only [Int.reduceToNat] at ho24; rw [← Ny221.out] at ho24)); have HO223 := ulo (unw ho24 HO220); replace HO220 := ueR HO220 ho24 hb; replace HB := uy hb; clear hb ho24; obtain ⟨Ao25, co25, eo25⟩ := Kd.R_slice HO223.out; subst eo25; obtain ⟨Ao26, co26, eo26⟩ := Kd.R_slice HO220.out; subst eo26) | ((with_reducible refine ug 13 rfl ?_); refine uh (some 7) rfl Try.func13 #[.slice Ao26 y218.length co26, .agg #[.bool true, .slice Ao25 y221.length co25]] ?_; (with_reducible refine (fixenc_Encode.calls k _ _ y218 true _ _ y221 t224 t227 _ (uC (Kd.R_reads' HO220.out).2.2) ((Kd.R_reads' HO220.out).2.1) (uC (Kd.R_reads' HO223.out).2.2) ((Kd.R_reads' HO223.out).2.1) A1.out).mono ?_); rintro e w27 ⟨v225, rfl, ho0, hb⟩; refine ⟨_, rfl, ?_⟩; have HO226 := ulo (unw (unw ho0 HO220) HO223); replace HO220 := ueR HO220 ho0 hb; replace HO223 := ueR HO223 ho0 hb; replace HB := uy hb; (try clear hb ho0)))
 go_ret
 exact ⟨uF, uB⟩
def fixenc_Decode.j0 : Nat → List Int → List Int → Bool → Option (Bool × List Int × Int)
 | 0, _, _, _ => none
 | k + 1, x0, x1, x13 => if x13 = true then (some (false, ([] : List Int), 10)) else ((fixenc_fits.f k x0 x1).bind fun t244 => (if t244 = true then ((modint_From.f false x1).bind fun bt245 => (some (bt245.1, bt245.2, 0))) else ((nat_Sub.f k x0 x1).bind fun bt249 => ((modint_From.f true bt249.1).bind fun bt253 => (some (bt253.1, bt253.2, 0))))))
def fixenc_Decode.f (k : Nat) (l0 : List Int) (l1 : List Int) : Option (Bool × List Int × Int) := (fixenc_modulus_may.f k l0).bind fun t241 => (if t241 = true then ((nat_Right.f l1).bind fun t242 => (if t242 = true then ((nat_Cmp.f k l1 l0).bind fun t243 => (fixenc_Decode.j0 k l0 l1 (decide (t243 ≥ 0)))) else (fixenc_Decode.j0 k l0 l1 true))) else (some (false, ([] : List Int), 1)))
theorem fixenc_Decode.calls (k : Nat) (A0 : Option Addr) (c0 : Nat) (l0 : List Int) (A1 : Option Addr) (c1 : Nat) (l1 : List Int) (r1 : Bool) (r2 : List Int) (r3 : Int) (w : World) (hr0 : Kd.C (Kd.int .u64) w A0 l0.length l0) (hc0 : l0.length ≤ c0) (hr1 : Kd.C (Kd.int .u64) w A1 l1.length l1) (hc1 : l1.length ≤ c1) (h : fixenc_Decode.f k l0 l1 = some (r1, r2, r3)) :
  Calls Try.prog 15 #[.slice A0 l0.length c0, .slice A1 l1.length c1] w fun e w' => ∃ v1_ : Value, e = .returned (.tuple #[.agg #[.bool r1, v1_], .int .i64 r3]) ∧ Kd.R (Kd.int .u64) 42 w' w.heap.size (fun _ => True) v1_ r2 ∧ Below w.heap.size w w' := by
 have hu44 := Try.underlying44
 have HR0 := Aside0.mk hr0; have HC0 := Aside0.mk hc0; clear hr0 hc0; have HR1 := Aside0.mk hr1; have HC1 := Aside0.mk hc1; clear hr1 hc1
 have HB := Aside0.mk (Below.refl w.heap.size w)
 have H : ((fixenc_modulus_may.f k l0).bind fun t241 => (if t241 = true then ((nat_Right.f l1).bind fun t242 => (if t242 = true then ((nat_Cmp.f k l1 l0).bind fun t243 => (fixenc_Decode.j0 k l0 l1 (decide (t243 ≥ 0)))) else (fixenc_Decode.j0 k l0 l1 true))) else (some (false, ([] : List Int), 1)))) = some (r1, r2, r3) := h
 clear h
 replace ⟨t241, A3, H⟩ := ub H
 by_cases c4 : t241 = true
 ·
  subst c4
  rw [if_pos rfl] at H; have HC5 := Aside0.mk H; clear H
  go_enter Try.func15, Try.ntmps15
  go_upto_region 3 with (first | ((with_reducible refine gate_dst (N := 4) rfl ?_); refine ubx 4 #[.bool false, .slice none 0 0] 44 rfl rfl ?_; intro gb240 hg w6 hbox hb; have BK240 := Aside0.mk (hbox); have GW240 := us hg; have GE240 := us hg; replace HB := uy hb; clear hb hbox hg) | ((with_reducible refine ug 14 rfl ?_); refine uh (some 10) rfl Try.func14 #[.slice A0 l0.length c0] ?_; (with_reducible refine (fixenc_modulus_may.calls k _ _ l0 true _ (uC (Kd.C_below HR0.out HB.out)) HC0.out A3.out).mono ?_); rintro e w7 ⟨rfl, hb⟩; refine ⟨_, rfl, ?_⟩; replace BK240 := ux BK240 hb; replace HB := uy hb; (try clear hb)))
  (try simp only [Act.put, List.setIfInBounds_toArray, List.set_cons_zero, List.set_cons_succ])
  go_cut [13] (fun v13 wc => ∃ (kq : Nat) (x13_4 : Bool), v13 = .bool x13_4 ∧ Aside0 (fixenc_Decode.j0 kq l0 l1 x13_4 = some (r1, r2, r3)) ∧ Aside0 (kq ≤ k) ∧ Aside0 (wc.heap[gb240]? = some (.cells #[.bool false, (.slice none 0 0)] 44 (0, 0))) ∧ Aside0 (Below w.heap.size w wc))
  case first =>
   have H := HC5.out
   clear HC5
   replace ⟨t242, A8, H⟩ := ub H
   by_cases c9 : t242 = true
   ·
    subst c9
    rw [if_pos rfl] at H
    replace ⟨t243, A10, H⟩ := ub H
    have H' := Aside0.mk H
    clear H
    go_wp2_with (first | ((with_reducible refine ug 39 rfl ?_); refine uh (some 15) rfl Try.func39 #[.slice A1 l1.length c1] ?_; (with_reducible refine (nat_Right.calls _ _ l1 true _ (uC (Kd.C_below HR1.out HB.out)) HC1.out A8.out).mono ?_); rintro e w' ⟨rfl, ⟨nd, rfl⟩⟩; refine ⟨_, rfl, ?_⟩) | (go_at_call 40; (with_reducible refine (nat_Cmp.calls k (fun k_ => k_ < w.heap.size) _ _ l1 (fun k_ => k_ < w.heap.size) _ _ l0 t243 _ (Kd.V_mk HC1.out (Kd.F_below (Kd.C_F (Kd.heap_int .u64) HR1.out) uB)) (Kd.V_mk HC0.out (Kd.F_below (Kd.C_F (Kd.heap_int .u64) HR0.out) uB)) A10.out).mono ?_); rintro e w11 ⟨rfl, hb⟩; replace BK240 := ux BK240 hb; replace HB := uy hb; (try clear hb)))
    go_meet
    case rel => exact ⟨_, (decide (t243 ≥ 0)), uG, H', ⟨uW⟩, ⟨uK BK240.out⟩, ⟨uB⟩⟩
   replace c9 := Bool.eq_false_iff.mpr c9
   subst c9
   rw [if_neg (show ¬ (false = true) by decide)] at H
   have H' := Aside0.mk H
   clear H
   go_wp2_with (first | ((with_reducible refine ug 39 rfl ?_); refine uh (some 15) rfl Try.func39 #[.slice A1 l1.length c1] ?_; (with_reducible refine (nat_Right.calls _ _ l1 false _ (uC (Kd.C_below HR1.out HB.out)) HC1.out A8.out).mono ?_); rintro e w' ⟨rfl, ⟨nd, rfl⟩⟩; refine ⟨_, rfl, ?_⟩))
   go_meet
   case rel => exact ⟨_, (true), uG, H', ⟨uW⟩, ⟨uK BK240.out⟩, ⟨uB⟩⟩
  case rest =>
   clear HC5
   obtain ⟨kq, x13_4, rfl, HA, HJ4, BK240, HB⟩ := hcut
   cases kq with
   | zero => exact absurd HA.out (by simp [fixenc_Decode.j0])
   | succ kj4 =>
    have H := HA.out
    clear HA
    simp only [fixenc_Decode.j0] at H
    by_cases c12 : x13_4 = true
    ·
     subst c12
     rw [if_pos rfl] at H
     simp only [Option.some.injEq, Prod.mk.injEq] at H
     obtain ⟨rfl, rfl, rfl⟩ := H
     obtain ⟨hcz13_0, hcz13_1, hfz13_0, hfz13_1⟩ := uz2 wc BK240
     go_wp2
     refine bodyPost_ret (results_ct rfl _ _ gb240 44 #[.bool false, .slice none 0 0] (0, 0) _ rfl (by refine blk_put (cs := #[.bool false, .slice none 0 0]) ?_ 1 _ rfl; refine blk_put (cs := #[.bool false, .slice none 0 0]) ?_ 0 _ rfl; exact uK BK240.out) Try.underlying44 rfl (by kernel_rfl)) rfl ?_
     exact ⟨_, uF, uI, uB⟩
    replace c12 := Bool.eq_false_iff.mpr c12
    subst c12
    rw [if_neg (show ¬ (false = true) by decide)] at H
    replace ⟨t244, A14, H⟩ := ub H
    by_cases c15 : t244 = true
    ·
     subst c15
     rw [if_pos rfl] at H
     replace ⟨⟨t245, t246⟩, A16, H⟩ := ub H
     (try dsimp only at H)
     simp only [Option.some.injEq, Prod.mk.injEq] at H
     obtain ⟨rfl, rfl, rfl⟩ := H
     go_wp2_with (first | ((with_reducible refine ug 30 rfl ?_); refine uh (some 27) rfl Try.func30 #[.slice A0 l0.length c0, .slice A1 l1.length c1] ?_; (with_reducible refine (fixenc_fits.calls kj4 _ _ l0 _ _ l1 true _ (uC (Kd.C_below HR0.out HB.out)) HC0.out (uC (Kd.C_below HR1.out HB.out)) HC1.out A14.out).mono ?_); rintro e w17 ⟨rfl, hb⟩; refine ⟨_, rfl, ?_⟩; replace BK240 := ux BK240 hb; replace HB := uy hb; (try clear hb)) | ((with_reducible refine ug 41 rfl ?_); refine uh (some 29) rfl Try.func41 #[.bool false, .slice A1 l1.length c1] ?_; (with_reducible refine (modint_From.calls false _ _ l1 t245 t246 _ (uC (Kd.C_below HR1.out HB.out)) HC1.out A16.out).mono ?_); rintro e w18 ⟨v247, rfl, ho0, hb⟩; refine ⟨_, rfl, ?_⟩; have HO248 := ulo ho0; replace BK240 := ux BK240 hb; replace HB := uy hb; (try clear hb ho0); obtain ⟨hcz19_0, hcz19_1, hfz19_0, hfz19_1⟩ := uz2 w18 BK240; obtain ⟨Ao20, co20, eo20⟩ := Kd.R_slice HO248.out; subst eo20))
     refine bodyPost_ret (results_ct rfl _ _ gb240 44 #[.bool t245, .slice Ao20 t246.length co20] (0, 0) _ rfl (by refine blk_put (cs := #[.bool t245, .slice none 0 0]) ?_ 1 _ rfl; refine blk_put (cs := #[.bool false, .slice none 0 0]) ?_ 0 _ rfl; exact uK BK240.out) Try.underlying44 rfl (by kernel_rfl)) rfl ?_
     exact ⟨_, uF, by exact uR (Kd.R_mono (Kd.R_far (p := ⟨gb240, 1, none⟩) (Kd.R_far (p := ⟨gb240, 0, none⟩) (Kd.R_types HO248.out BK240.out (by decide)) (fun _ hk => hk.2) (.bool t245)) (fun _ hk => hk.2) (.slice Ao20 t246.length co20)) (fun _ hk => trivial)), uB⟩
    replace c15 := Bool.eq_false_iff.mpr c15
    subst c15
    rw [if_neg (show ¬ (false = true) by decide)] at H
    replace ⟨⟨t249, t252⟩, A21, H⟩ := ub H
    (try dsimp only at H)
    replace ⟨⟨t253, t254⟩, A22, H⟩ := ub H
    (try dsimp only at H)
    simp only [Option.some.injEq, Prod.mk.injEq] at H
    obtain ⟨rfl, rfl, rfl⟩ := H
    go_wp2_with (first | ((with_reducible refine ug 30 rfl ?_); refine uh (some 27) rfl Try.func30 #[.slice A0 l0.length c0, .slice A1 l1.length c1] ?_; (with_reducible refine (fixenc_fits.calls kj4 _ _ l0 _ _ l1 false _ (uC (Kd.C_below HR0.out HB.out)) HC0.out (uC (Kd.C_below HR1.out HB.out)) HC1.out A14.out).mono ?_); rintro e w23 ⟨rfl, hb⟩; refine ⟨_, rfl, ?_⟩; replace BK240 := ux BK240 hb; replace HB := uy hb; (try clear hb)) | ((with_reducible refine ug 37 rfl ?_); refine uh (some 33) rfl Try.func37 #[.slice A0 l0.length c0, .slice A1 l1.length c1] ?_; (with_reducible refine (nat_Sub.calls kj4 (fun k_ => k_ < w.heap.size) _ _ l0 (fun k_ => k_ < w.heap.size) _ _ l1 t249 t252 _ (Kd.V_mk HC0.out (Kd.F_below (Kd.C_F (Kd.heap_int .u64) HR0.out) uB)) (Kd.V_mk HC1.out (Kd.F_below (Kd.C_F (Kd.heap_int .u64) HR1.out) uB)) A21.out).mono ?_); rintro e w24 ⟨v250, rfl, ho0, hb⟩; refine ⟨_, rfl, ?_⟩; have HO251 := ulo (Kd.R_mono (ok' := fun k_ => True) ho0 (fun _ hk_ => trivial)); replace BK240 := ux BK240 hb; replace HB := uy hb; (try clear hb ho0); obtain ⟨Ao25, co25, eo25⟩ := Kd.R_slice HO251.out; subst eo25) | ((with_reducible refine ug 41 rfl ?_); refine uh (some 37) rfl Try.func41 #[.bool true, .slice Ao25 t249.length co25] ?_; (with_reducible refine (modint_From.calls true _ _ t249 t253 t254 _ (uC (Kd.R_reads' HO251.out).2.2) ((Kd.R_reads' HO251.out).2.1) A22.out).mono ?_); rintro e w26 ⟨v255, rfl, ho0, hb⟩; refine ⟨_, rfl, ?_⟩; have HO256 := ulo (unw ho0 HO251); replace HO251 := ueR HO251 ho0 hb; replace BK240 := ux BK240 hb; replace HB := uy hb; (try clear hb ho0); obtain ⟨hcz27_0, hcz27_1, hfz27_0, hfz27_1⟩ := uz2 w26 BK240; obtain ⟨Ao28, co28, eo28⟩ := Kd.R_slice HO256.out; subst eo28))
    refine bodyPost_ret (results_ct rfl _ _ gb240 44 #[.bool t253, .slice Ao28 t254.length co28] (0, 0) _ rfl (by refine blk_put (cs := #[.bool t253, .slice none 0 0]) ?_ 1 _ rfl; refine blk_put (cs := #[.bool false, .slice none 0 0]) ?_ 0 _ rfl; exact uK BK240.out) Try.underlying44 rfl (by kernel_rfl)) rfl ?_
    exact ⟨_, uF, by exact uR (Kd.R_mono (Kd.R_far (p := ⟨gb240, 1, none⟩) (Kd.R_far (p := ⟨gb240, 0, none⟩) (Kd.R_types HO256.out BK240.out (by decide)) (fun _ hk => hk.2) (.bool t253)) (fun _ hk => hk.2) (.slice Ao28 t254.length co28)) (fun _ hk => trivial)), uB⟩
 replace c4 := Bool.eq_false_iff.mpr c4
 subst c4
 rw [if_neg (show ¬ (false = true) by decide)] at H
 simp only [Option.some.injEq, Prod.mk.injEq] at H
 obtain ⟨rfl, rfl, rfl⟩ := H
 go_enter Try.func15, Try.ntmps15
 go_wp2_with (first | ((with_reducible refine gate_dst (N := 4) rfl ?_); refine ubx 4 #[.bool false, .slice none 0 0] 44 rfl rfl ?_; intro gb240 hg w29 hbox hb; have BK240 := Aside0.mk (hbox); have GW240 := us hg; have GE240 := us hg; replace HB := uy hb; clear hb hbox hg) | ((with_reducible refine ug 14 rfl ?_); refine uh (some 10) rfl Try.func14 #[.slice A0 l0.length c0] ?_; (with_reducible refine (fixenc_modulus_may.calls k _ _ l0 false _ (uC (Kd.C_below HR0.out HB.out)) HC0.out A3.out).mono ?_); rintro e w30 ⟨rfl, hb⟩; refine ⟨_, rfl, ?_⟩; replace BK240 := ux BK240 hb; replace HB := uy hb; (try clear hb); obtain ⟨hcz31_0, hcz31_1, hfz31_0, hfz31_1⟩ := uz2 w30 BK240))
 refine bodyPost_ret (results_ct rfl _ _ gb240 44 #[.bool false, .slice none 0 0] (0, 0) _ rfl (by refine blk_put (cs := #[.bool false, .slice none 0 0]) ?_ 1 _ rfl; refine blk_put (cs := #[.bool false, .slice none 0 0]) ?_ 0 _ rfl; exact uK BK240.out) Try.underlying44 rfl (by kernel_rfl)) rfl ?_
 exact ⟨_, uF, uI, uB⟩
end Go.Proofs.Ytnaphgnkhhapoab.F
end
